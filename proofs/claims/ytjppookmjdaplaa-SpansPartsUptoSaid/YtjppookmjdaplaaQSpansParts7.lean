/- Parts of the proof, one behind the other: PaW, K47, K48. -/
import Derived.Test.YtjppookmjdaplaaQSpansParts6
set_option linter.unusedVariables false
set_option linter.unusedSimpArgs false
section
namespace Go.Proofs.Ytjppookmjdaplaa.K
open Go Go.RowKit Go.Proofs.Ytjppookmjdaplaa.My Go.Proofs.YtjppookmjdaplaaW.PrintWords Go.Proofs.YtjppookmjdaplaaW.PrintLast Go.Proofs.YtjppookmjdaplaaW.PrintMore
attribute [local go_sem] jQ jP jX jW
def stratumref12_Parts.l0 : Nat → List (S103) → Int → List (S103) → Int → Int → List (S96) → Option ((List (S103)))
  | 0, _, _, _, _, _, _ => none
  | k + 1, x1, x2, x7, x8, x386000, x386001 => if x8 < (x1.length : Int) then (if 0 ≤ x8 then (if (((iW x1 x8).f0).length : Int) > 0 then (if 0 < (((iW x1 x8).f0).length : Int) then ((stratumref12_Find.f k x386000 x386001 (rd ((iW x1 x8).f0) 0)).bind fun t389 => (if t389 = x2 then (if x7.length < 4398046511104 then (stratumref12_Parts.l0 k x1 x2 (x7 ++ [(⟨(iW x1 x8).f0, (iW x1 x8).f1⟩ : S103)]) (wrap64 (x8 + 1)) x386000 x386001) else (none)) else (stratumref12_Parts.l0 k x1 x2 x7 (wrap64 (x8 + 1)) x386000 x386001))) else (none)) else (stratumref12_Parts.l0 k x1 x2 x7 (wrap64 (x8 + 1)) x386000 x386001)) else (none)) else ((stratumref07_CopyFacts.f k x7).bind fun t394 => (some t394))
def stratumref12_Parts.f (k : Nat) (a0_0 : Int) (l0_1 : List (S96)) (l1 : List (S103)) (a2 : Int) : Option ((List (S103))) := stratumref12_Parts.l0 k l1 a2 ([] : List (S103)) 0 a0_0 l0_1
set_option maxRecDepth 20000 in
set_option maxHeartbeats 4000000 in
theorem stratumref12_Parts.calls (k : Nat) (a0_0 : Int) (A0_1 : Option Addr) (c0_1 : Nat) (l0_1 : List (S96)) (P1_ : Nat → Prop) (A1 : Option Addr) (c1 : Nat) (l1 : List (S103)) (a2 : Int) (r : List (S103)) (w : World) (hr0_1 : Kd.C k96 w A0_1 l0_1.length l0_1) (hc0_1 : l0_1.length ≤ c0_1) (hs1 : Kd.V k103 103 w w.heap.size (fun k_ => P1_ k_) (.slice A1 l1.length c1) l1) (h : stratumref12_Parts.f k a0_0 l0_1 l1 a2 = some r) :
    Calls Try.prog 24 #[.agg #[.int .u32 a0_0, .slice A0_1 l0_1.length c0_1], .slice A1 l1.length c1, .int .i64 a2] w fun e w' => ∃ v0_ : Value, e = .returned (v0_) ∧ Kd.N k103 103 w' w.heap.size (fun k_ => (P1_ k_ ∨ w.heap.size ≤ k_)) v0_ r ∧ Below w.heap.size w w' := by
  obtain ⟨_, hc1, hr1⟩ := Kd.V_reads' hs1
  clear hs1
  have HR0 := iC.mk hr0_1
  have HC0 := iC.mk hc0_1
  have HR1 := iC.mk hr1
  have H' := iC.mk (show stratumref12_Parts.l0 k l1 a2 ([] : List S103) 0 a0_0 l0_1 = some r from h)
  clear hr0_1 hc0_1 hr1 h
  go_enter Try.func24, Try.ntmps24
  obtain ⟨b0, hb0⟩ : ∃ b0, b0 = w.heap.size := ⟨_, rfl⟩
  have HX := iC.mk (show (w.alloc (.cells #[.int .u32 a0_0, .slice A0_1 l0_1.length c0_1] 42)).heap[b0]? = some (.cells #[.int .u32 a0_0, .slice A0_1 l0_1.length c0_1] 42 (0, 0)) from l9 hb0)
  have HB := iC.mk (iG (Below.refl w.heap.size w) (.cells #[.int .u32 a0_0, .slice A0_1 l0_1.length c0_1] 42))
  go_wp2_with fail
  rw [← hb0]
  generalize w.alloc (.cells #[.int .u32 a0_0, .slice A0_1 l0_1.length c0_1] 42) = w1 at HX HB ⊢
  have HB0 := iC.mk hb0
  clear hb0
  obtain ⟨M, hM⟩ : ∃ M, l0_1.length = M := ⟨_, rfl⟩
  have HM := iC.mk hM
  rw [hM] at HX ⊢
  obtain ⟨N, hN⟩ : ∃ N, l1.length = N := ⟨_, rfl⟩
  have HN := iC.mk hN
  rw [hN] at hc1 ⊢
  clear hM hN
  go_loopg [7, 8] k (fun kq v7 v8 wr => ∃ (xs : List S103) (i : Int), v8 = .int .i64 i ∧ iC (stratumref12_Parts.l0 kq l1 a2 xs i a0_0 l0_1 = some r) ∧ iC (kD (k103.K w) 103 2 wr w.heap.size v7 xs) ∧ iC (wr.heap[b0]? = some (.cells #[.int .u32 a0_0, .slice A0_1 M c0_1] 42 (0, 0))) ∧ iC (Below w.heap.size w wr))
  case atStart => exact ⟨[], 0, rfl, H', ⟨kD.none_ _ _ _ _ _⟩, HX, HB⟩
  case round =>
    clear H' HX HB
    obtain ⟨xs, i, rfl, HA, HO, HX, HB⟩ := hrel
    cases gk with
    | zero => exact absurd HA.out (by simp [stratumref12_Parts.l0])
    | succ k1 =>
      have H := HA.out
      clear HA
      simp only [stratumref12_Parts.l0] at H
      by_cases c5 : i < (N : Int)
      · rw [if_pos (by rw [HN.out]; exact c5)] at H
        by_cases c6 : 0 ≤ i
        · rw [if_pos c6] at H
          obtain ⟨ad, A3, c3, hA, y0, y1, hl3, hk3⟩ := kN (Kd.C_below HR1.out HB.out) i c6 (by rw [HN.out]; exact c5)
          subst hA
          obtain ⟨F, hF⟩ : ∃ F, F = iW l1 i := ⟨_, rfl⟩
          rw [← hF] at H y0 y1 hl3 hk3
          have z0 := (iH HX.out 0).trans (show _ = some (Value.int .u32 a0_0) from rfl)
          have z1 := (iH HX.out 1).trans (show _ = some (Value.slice A0_1 M c0_1) from rfl)
          have HF := iC.mk hF
          obtain ⟨L, hL⟩ : ∃ L, F.f0.length = L := ⟨_, rfl⟩
          have HL := iC.mk hL
          rw [hL] at H y0 hl3 hk3
          by_cases c7 : 0 < (L : Int)
          · rw [if_pos c7, if_pos c7] at H
            obtain ⟨t, ht, H⟩ := Option.bind_eq_some_iff.mp H
            obtain ⟨kd, rfl⟩ : ∃ kd, A3 = some kd := by
              obtain ⟨kd, _, e, _⟩ := Kd.C_get hk3 0 (0 : Int) (by omega) (by omega)
              exact ⟨kd, e⟩
            have y2 := Kd.foot_int hk3 (0 : Int) (by omega) (by omega)
            replace y2 : wr.cell? kd = some (.int .i64 (rd F.f0 0)) := by have := y2; simpa [Addr.add] using this
            obtain ⟨x, hx⟩ : ∃ x, x = rd F.f0 0 := ⟨_, rfl⟩
            rw [← hx] at y2 ht
            have hfind := stratumref12_Find.calls k1 a0_0 A0_1 c0_1 l0_1 x t wr.drew (Kd.C_below HR0.out (jZ HB.out)) HC0.out ht
            rw [HM.out] at hfind
            have H' := iC.mk H
            have HK3 := iC.mk hk3
            clear H ht hF hL hk3 hx
            have hL0 : 0 < L := by omega
            have d7 : decide (0 < L) = true := decide_eq_true (by omega)
            have d8 : decide (0 < (L : Int)) = true := decide_eq_true c7
            go_upto_region 5 with fail
            refine kP (n := 20) (S := fun w' => w'.cell? (ad.add (i.toNat * 2)) = some (.slice (some kd) L c3) ∧ w'.cell? kd = some (.int .i64 x) ∧ w'.cell? ⟨b0, 0, none⟩ = some (.int .u32 a0_0) ∧ w'.cell? ⟨b0, 1, none⟩ = some (.slice A0_1 M c0_1)) (ds := []) #[false, false, false, false, false, false, false, false, false, false, false, false, false, false, false, false, false, false, false, false] (by kernel_rfl) rfl rfl ⟨y0, y2, z0, z1⟩ (fun hHeld => ?_)
            refine jV (T := (true, [([], []), ([], []), ([0, 1], [0, 1]), ([2], [2]), ([3], [3]), ([4], [4]), ([5], [5]), ([6], [6]), ([7], [7]), ([7], [7]), ([7], [7]), ([9, 10, 7], [7, 9, 10]), ([11, 7], [7, 11]), ([12, 7], [7, 12]), ([13, 7], [7, 13]), ([14, 7], [7, 14]), ([8, 15, 7, 7], [7, 8, 15]), ([7], [7]), ([16, 17, 7], [7, 16, 17]), ([7, 18], [7, 18])])) (B := [0, 0, 3, 7, 15, 31, 63, 127, 255, 255, 255, 1791, 3839, 7935, 16127, 32511, 65535, 255, 262143, 524287]) (by kernel_rfl) (by kernel_rfl) (fun HT_ HW_ => ?_)
            refine jA (i := 0) (N := some 15) (v := ?_) (a' := ?_) #[true, false, false, false, false, false, false, false, false, false, false, false, false, false, false, false, false, false, false, false] rfl rfl (iQ HT_.out (by kernel_rfl)) (fun _ _ _ h => h) (Or.inl ⟨by rfl, ?_⟩) ?_ ?_
            rotate_left
            · intro w'
              go_simp
              with_reducible rfl
            rotate_left
            · simp only [Act.put, List.setIfInBounds_toArray, List.set_cons_zero, List.set_cons_succ, iR, iT]
              rfl
            refine jA (i := 1) (N := some 16) (v := ?_) (a' := ?_) #[true, true, false, false, false, false, false, false, false, false, false, false, false, false, false, false, false, false, false, false] rfl rfl (iQ HT_.out (by kernel_rfl)) (fun _ _ _ h => h) (Or.inl ⟨by rfl, ?_⟩) ?_ ?_
            rotate_left
            · intro w'
              go_simp
              with_reducible rfl
            rotate_left
            · simp only [Act.put, List.setIfInBounds_toArray, List.set_cons_zero, List.set_cons_succ, iR, iT]
              rfl
            refine jA (i := 2) (N := some 17) (v := ?_) (a' := ?_) #[true, true, true, false, false, false, false, false, false, false, false, false, false, false, false, false, false, false, false, false] rfl rfl (iQ HT_.out (by kernel_rfl)) (fun _ _ _ h => h) (Or.inl ⟨by rfl, ?_⟩) ?_ ?_
            rotate_left
            · intro w'
              go_simp
              with_reducible rfl
            rotate_left
            · simp only [Act.put, List.setIfInBounds_toArray, List.set_cons_zero, List.set_cons_succ, iR, iT]
              rfl
            refine jA (i := 3) (N := some 18) (v := ?_) (a' := ?_) #[true, true, true, true, false, false, false, false, false, false, false, false, false, false, false, false, false, false, false, false] rfl rfl (iQ HT_.out (by kernel_rfl)) (fun _ _ _ h => h) (Or.inl ⟨by rfl, ?_⟩) ?_ ?_
            rotate_left
            · intro w'
              go_simp
              with_reducible rfl
            rotate_left
            · simp only [Act.put, List.setIfInBounds_toArray, List.set_cons_zero, List.set_cons_succ, iR, iT]
              rfl
            refine kF (i := 4) (N := some 19) (v := ?_) (a' := ?_) #[true, true, true, true, true, false, false, false, false, false, false, false, false, false, false, false, false, false, false, false] rfl rfl (jK HT_.out HW_.out (by kernel_rfl)) (fun _ _ _ h => h) (Or.inl ⟨by rfl, ?_⟩) hHeld ?_ ?_
            rotate_left
            · rintro w' ⟨s0, s1, s2, s3⟩
              go_simp
              with_reducible rfl
            rotate_left
            · simp only [Act.put, List.setIfInBounds_toArray, List.set_cons_zero, List.set_cons_succ, iR, iT]
              rfl
            refine jA (i := 5) (N := some 20) (v := ?_) (a' := ?_) #[true, true, true, true, true, true, false, false, false, false, false, false, false, false, false, false, false, false, false, false] rfl rfl (iQ HT_.out (by kernel_rfl)) (fun _ _ _ h => h) (Or.inl ⟨by rfl, ?_⟩) ?_ ?_
            rotate_left
            · intro w'
              go_simp
              with_reducible rfl
            rotate_left
            · simp only [Act.put, List.setIfInBounds_toArray, List.set_cons_zero, List.set_cons_succ, iR, iT]
              rfl
            refine jA (i := 6) (N := some 21) (v := ?_) (a' := ?_) #[true, true, true, true, true, true, true, false, false, false, false, false, false, false, false, false, false, false, false, false] rfl rfl (iQ HT_.out (by kernel_rfl)) (fun _ _ _ h => h) (Or.inl ⟨by rfl, ?_⟩) ?_ ?_
            rotate_left
            · intro w'
              go_simp
              with_reducible rfl
            rotate_left
            · simp only [Act.put, List.setIfInBounds_toArray, List.set_cons_zero, List.set_cons_succ, iR, iT]
              rfl
            refine jA (i := 7) (N := some 22) (v := ?_) (a' := ?_) #[true, true, true, true, true, true, true, true, false, false, false, false, false, false, false, false, false, false, false, false] rfl rfl (iQ HT_.out (by kernel_rfl)) (fun _ _ _ h => h) (Or.inl ⟨by rfl, ?_⟩) ?_ ?_
            rotate_left
            · intro w'
              go_simp
              with_reducible rfl
            rotate_left
            · simp only [Act.put, List.setIfInBounds_toArray, List.set_cons_zero, List.set_cons_succ, iR, iT]
              rfl
            refine jA (i := 9) (N := some 24) (v := ?_) (a' := ?_) #[true, true, true, true, true, true, true, true, false, true, false, false, false, false, false, false, false, false, false, false] rfl rfl (iQ HT_.out (by kernel_rfl)) (fun _ _ _ h => h) (Or.inl ⟨by rfl, ?_⟩) ?_ ?_
            rotate_left
            · intro w'
              go_simp
              with_reducible rfl
            rotate_left
            · simp only [Act.put, List.setIfInBounds_toArray, List.set_cons_zero, List.set_cons_succ, iR, iT]
              rfl
            refine jA (i := 10) (N := some 25) (v := ?_) (a' := ?_) #[true, true, true, true, true, true, true, true, false, true, true, false, false, false, false, false, false, false, false, false] rfl rfl (iQ HT_.out (by kernel_rfl)) (fun _ _ _ h => h) (Or.inl ⟨by rfl, ?_⟩) ?_ ?_
            rotate_left
            · intro w'
              go_simp
              with_reducible rfl
            rotate_left
            · simp only [Act.put, List.setIfInBounds_toArray, List.set_cons_zero, List.set_cons_succ, iR, iT]
              rfl
            refine jA (i := 11) (N := some 26) (v := ?_) (a' := ?_) #[true, true, true, true, true, true, true, true, false, true, true, true, false, false, false, false, false, false, false, false] rfl rfl (iQ HT_.out (by kernel_rfl)) (fun _ _ _ h => h) (Or.inl ⟨by rfl, ?_⟩) ?_ ?_
            rotate_left
            · intro w'
              go_simp
              with_reducible rfl
            rotate_left
            · simp only [Act.put, List.setIfInBounds_toArray, List.set_cons_zero, List.set_cons_succ, iR, iT]
              rfl
            refine jA (i := 12) (N := some 27) (v := ?_) (a' := ?_) #[true, true, true, true, true, true, true, true, false, true, true, true, true, false, false, false, false, false, false, false] rfl rfl (iQ HT_.out (by kernel_rfl)) (fun _ _ _ h => h) (Or.inl ⟨by rfl, ?_⟩) ?_ ?_
            rotate_left
            · intro w'
              go_simp
              with_reducible rfl
            rotate_left
            · simp only [Act.put, List.setIfInBounds_toArray, List.set_cons_zero, List.set_cons_succ, iR, iT]
              rfl
            refine jA (i := 17) (N := some 32) (v := ?_) (a' := ?_) #[true, true, true, true, true, true, true, true, false, true, true, true, true, false, false, false, false, true, false, false] rfl rfl (iQ HT_.out (by kernel_rfl)) (fun _ _ _ h => h) (Or.inl ⟨by rfl, ?_⟩) ?_ ?_
            rotate_left
            · intro w'
              go_simp
              with_reducible rfl
            rotate_left
            · simp only [Act.put, List.setIfInBounds_toArray, List.set_cons_zero, List.set_cons_succ, iR, iT]
              rfl
            refine kF (i := 8) (N := some 23) (v := ?_) (a' := ?_) #[true, true, true, true, true, true, true, true, true, true, true, true, true, false, false, false, false, true, false, false] rfl rfl (jK HT_.out HW_.out (by kernel_rfl)) (fun _ _ _ h => h) (Or.inl ⟨by rfl, ?_⟩) hHeld ?_ ?_
            rotate_left
            · rintro w' ⟨s0, s1, s2, s3⟩
              go_simp
              with_reducible rfl
            rotate_left
            · simp only [Act.put, List.setIfInBounds_toArray, List.set_cons_zero, List.set_cons_succ, iR, iT]
              rfl
            refine kF (i := 13) (N := some 28) (v := ?_) (a' := ?_) #[true, true, true, true, true, true, true, true, true, true, true, true, true, true, false, false, false, true, false, false] rfl rfl (jK HT_.out HW_.out (by kernel_rfl)) (fun _ _ _ h => h) (Or.inl ⟨by rfl, ?_⟩) hHeld ?_ ?_
            rotate_left
            · rintro w' ⟨s0, s1, s2, s3⟩
              go_simp
              with_reducible rfl
            rotate_left
            · simp only [Act.put, List.setIfInBounds_toArray, List.set_cons_zero, List.set_cons_succ, iR, iT]
              rfl
            refine jA (i := 14) (N := some 29) (v := ?_) (a' := ?_) #[true, true, true, true, true, true, true, true, true, true, true, true, true, true, true, false, false, true, false, false] rfl rfl (iQ HT_.out (by kernel_rfl)) (fun _ _ _ h => h) (Or.inl ⟨by rfl, ?_⟩) ?_ ?_
            rotate_left
            · intro w'
              go_simp
              with_reducible rfl
            rotate_left
            · simp only [Act.put, List.setIfInBounds_toArray, List.set_cons_zero, List.set_cons_succ, iR, iT]
              rfl
            refine kF (i := 15) (N := some 30) (v := ?_) (a' := ?_) #[true, true, true, true, true, true, true, true, true, true, true, true, true, true, true, true, false, true, false, false] rfl rfl (jK HT_.out HW_.out (by kernel_rfl)) (fun _ _ _ h => h) (Or.inl ⟨by rfl, ?_⟩) hHeld ?_ ?_
            rotate_left
            · rintro w' ⟨s0, s1, s2, s3⟩
              go_simp
              with_reducible rfl
            rotate_left
            · simp only [Act.put, List.setIfInBounds_toArray, List.set_cons_zero, List.set_cons_succ, iR, iT]
              rfl
            refine one_ (i := 16) (N := some 31) #[true, true, true, true, true, true, true, true, true, true, true, true, true, true, true, true, true, true, false, false] rfl rfl (jS HT_.out (by kernel_rfl)) (by decide) (fun K hK => ?_)
            refine kK Try.func56 (by kernel_rfl) rfl #[.agg #[.int .u32 a0_0, .slice A0_1 M c0_1], .int .i64 x] (by rfl) rfl rfl (by simp only [List.map_toArray, List.map_cons, List.map_nil]; rfl) ?_
            with_reducible refine (hfind).mono ?_
            rintro e w2 ⟨rfl, hb2⟩
            refine ⟨_, rfl, ?_⟩
            have HB2 := iC.mk (show Below wr.heap.size wr w2 from iM (jZ (Below.refl _ _)) hb2)
            clear hb2 hfind
            refine hK.out _ _ ⟨(qU HB2.out y0), (qU HB2.out y2), (qU HB2.out z0), (qU HB2.out z1)⟩ (fun hHeld => ?_)
            clear hK K
            refine jT (a' := ?_) ?_ ?_
            rotate_left
            · show Act.put _ (some 31) _ = _
              simp only [Act.put, List.setIfInBounds_toArray, List.set_cons_zero, List.set_cons_succ, iR, iT]
              rfl
            refine jA (i := 18) (N := some 33) (v := ?_) (a' := ?_) #[true, true, true, true, true, true, true, true, true, true, true, true, true, true, true, true, true, true, true, false] rfl rfl (iQ HT_.out (by kernel_rfl)) (fun _ _ _ h => h) (Or.inl ⟨by rfl, ?_⟩) ?_ ?_
            rotate_left
            · intro w'
              go_simp
              with_reducible rfl
            rotate_left
            · simp only [Act.put, List.setIfInBounds_toArray, List.set_cons_zero, List.set_cons_succ, iR, iT]
              rfl
            refine jA (i := 19) (N := some 34) (v := ?_) (a' := ?_) #[true, true, true, true, true, true, true, true, true, true, true, true, true, true, true, true, true, true, true, true] rfl rfl (iQ HT_.out (by kernel_rfl)) (fun _ _ _ h => h) (Or.inl ⟨by rfl, ?_⟩) ?_ ?_
            rotate_left
            · intro w'
              go_simp
              with_reducible rfl
            rotate_left
            · simp only [Act.put, List.setIfInBounds_toArray, List.set_cons_zero, List.set_cons_succ, iR, iT]
              rfl
            refine lT (kH HT_.out (by kernel_rfl)) ?_
            have HO2 := iC.mk (HO.out.below HB2.out)
            have HX2 := iC.mk (lC HB2.out HX.out)
            have HBB := iC.mk (iM HB.out HB2.out)
            have q0 := qU HB2.out y0
            have q1 := qU HB2.out y1
            have HY := iC.mk (And.intro hl3 (And.intro HR1.out HF.out))
            clear y0 y1 y2 z0 z1 HT_ HW_ hHeld HX HO HB2 HK3 hl3
            by_cases c10 : t = a2
            · have hta : (t == a2) = true := beq_iff_eq.mpr c10
              have H2 := H'.out
              rw [if_pos c10] at H2
              by_cases c11 : xs.length < 4398046511104
              · rw [if_pos c11] at H2
                have H3 := iC.mk H2
                clear H' H2 H c10
                obtain ⟨An, cn, rfl, hxl⟩ := HO2.out.slice_
                obtain ⟨ad', A', c', hA', z0, z1, hl', hk'⟩ := kN HY.out.2.1 i c6 (by rw [HN.out]; exact c5)
                injection hA' with hA'
                subst hA'
                rw [← HY.out.2.2] at z0 z1 hl' hk'
                have e0 := (qU HBB.out z0).symm.trans q0
                injection e0 with e0
                injection e0 with e1 e2 e3
                subst e1; subst e3
                have HKF := iC.mk (vC w F hl' hk')
                rw [HL.out] at HKF
                clear z0 z1 hl' hk' hHeld HB
                go_wp2_with (at_builtin; go_loud (refine kD.append (R := k103.K w) (w0 := w) w.heap.size rfl (.tmp 35) (.tmp 40) 45 103 (.agg #[.slice none 0 0, .int .i64 0]) 2 32 rfl Try.underlying45 qQ rfl (by decide) (by decide) (.slice An xs.length cn) xs F [.slice (some kd) L c', .int .i64 F.f1] rfl rfl HKF.out rfl (fun u hu => by simp at hu; rcases hu with rfl | rfl <;> rfl) HO2.out HBB.out HBB.out.size (by omega) ?_; intro v1 w3 ho1 hb1 hg1 hat1; have HO3 := iC.mk ho1; have HB3 := iC.mk hb1; have HG3 := iC.mk hg1; clear ho1 hb1 hg1 hat1))
                go_roundg k1
                case rel =>
                  refine ⟨xs ++ [F], _, rfl, H3, HO3, ⟨?_⟩, HB3⟩
                  refine (HG3.out.block _ (jE HX2.out) (fun e => ?_)).trans HX2.out
                  exact kD.ne_block HO2.out HX2.out (by decide) e
                case measure => omega
              · rw [if_neg c11] at H2; cases H2
            · have hta : (t == a2) = false := beq_eq_false_iff_ne.mpr c10
              have H2 := H'.out
              rw [if_neg c10] at H2
              have H3 := iC.mk H2
              clear H' H2 H c10
              go_wp2
              go_roundg k1
              case rel => exact ⟨xs, _, rfl, H3, HO2, HX2, HBB⟩
              case measure => omega
          · rw [if_neg c7] at H
            obtain rfl : L = 0 := by omega
            have H3 := iC.mk H
            have HY := iC.mk hl3
            clear H z0 z1 hk3 hF
            go_upto_region 5 with fail
            refine kP (n := 20) (S := fun w' => w'.cell? (ad.add (i.toNat * 2)) = some (.slice A3 0 c3)) (ds := []) #[false, false, false, false, false, false, false, false, false, false, false, false, false, false, false, false, false, false, false, false] (by kernel_rfl) rfl rfl (y0) (fun hHeld => ?_)
            refine jV (T := (true, [([], []), ([], []), ([0, 1], [0, 1]), ([2], [2]), ([3], [3]), ([4], [4]), ([5], [5]), ([6], [6]), ([7], [7]), ([7], [7]), ([7], [7]), ([9, 10, 7], [7, 9, 10]), ([11, 7], [7, 11]), ([12, 7], [7, 12]), ([13, 7], [7, 13]), ([14, 7], [7, 14]), ([8, 15, 7, 7], [7, 8, 15]), ([7], [7]), ([16, 17, 7], [7, 16, 17]), ([7, 18], [7, 18])])) (B := [0, 0, 3, 7, 15, 31, 63, 127, 255, 255, 255, 1791, 3839, 7935, 16127, 32511, 65535, 255, 262143, 524287]) (by kernel_rfl) (by kernel_rfl) (fun HT_ HW_ => ?_)
            refine jA (i := 0) (N := some 15) (v := ?_) (a' := ?_) #[true, false, false, false, false, false, false, false, false, false, false, false, false, false, false, false, false, false, false, false] rfl rfl (iQ HT_.out (by kernel_rfl)) (fun _ _ _ h => h) (Or.inl ⟨by rfl, ?_⟩) ?_ ?_
            rotate_left
            · intro w'
              go_simp
              with_reducible rfl
            rotate_left
            · simp only [Act.put, List.setIfInBounds_toArray, List.set_cons_zero, List.set_cons_succ, iR, iT]
              rfl
            refine jA (i := 1) (N := some 16) (v := ?_) (a' := ?_) #[true, true, false, false, false, false, false, false, false, false, false, false, false, false, false, false, false, false, false, false] rfl rfl (iQ HT_.out (by kernel_rfl)) (fun _ _ _ h => h) (Or.inl ⟨by rfl, ?_⟩) ?_ ?_
            rotate_left
            · intro w'
              go_simp
              with_reducible rfl
            rotate_left
            · simp only [Act.put, List.setIfInBounds_toArray, List.set_cons_zero, List.set_cons_succ, iR, iT]
              rfl
            refine jA (i := 2) (N := some 17) (v := ?_) (a' := ?_) #[true, true, true, false, false, false, false, false, false, false, false, false, false, false, false, false, false, false, false, false] rfl rfl (iQ HT_.out (by kernel_rfl)) (fun _ _ _ h => h) (Or.inl ⟨by rfl, ?_⟩) ?_ ?_
            rotate_left
            · intro w'
              go_simp
              with_reducible rfl
            rotate_left
            · simp only [Act.put, List.setIfInBounds_toArray, List.set_cons_zero, List.set_cons_succ, iR, iT]
              rfl
            refine jA (i := 3) (N := some 18) (v := ?_) (a' := ?_) #[true, true, true, true, false, false, false, false, false, false, false, false, false, false, false, false, false, false, false, false] rfl rfl (iQ HT_.out (by kernel_rfl)) (fun _ _ _ h => h) (Or.inl ⟨by rfl, ?_⟩) ?_ ?_
            rotate_left
            · intro w'
              go_simp
              with_reducible rfl
            rotate_left
            · simp only [Act.put, List.setIfInBounds_toArray, List.set_cons_zero, List.set_cons_succ, iR, iT]
              rfl
            refine kF (i := 4) (N := some 19) (v := ?_) (a' := ?_) #[true, true, true, true, true, false, false, false, false, false, false, false, false, false, false, false, false, false, false, false] rfl rfl (jK HT_.out HW_.out (by kernel_rfl)) (fun _ _ _ h => h) (Or.inl ⟨by rfl, ?_⟩) hHeld ?_ ?_
            rotate_left
            · intro w' s0
              go_simp
              with_reducible rfl
            rotate_left
            · simp only [Act.put, List.setIfInBounds_toArray, List.set_cons_zero, List.set_cons_succ, iR, iT]
              rfl
            refine jA (i := 5) (N := some 20) (v := ?_) (a' := ?_) #[true, true, true, true, true, true, false, false, false, false, false, false, false, false, false, false, false, false, false, false] rfl rfl (iQ HT_.out (by kernel_rfl)) (fun _ _ _ h => h) (Or.inl ⟨by rfl, ?_⟩) ?_ ?_
            rotate_left
            · intro w'
              go_simp
              with_reducible rfl
            rotate_left
            · simp only [Act.put, List.setIfInBounds_toArray, List.set_cons_zero, List.set_cons_succ, iR, iT]
              rfl
            refine jA (i := 6) (N := some 21) (v := ?_) (a' := ?_) #[true, true, true, true, true, true, true, false, false, false, false, false, false, false, false, false, false, false, false, false] rfl rfl (iQ HT_.out (by kernel_rfl)) (fun _ _ _ h => h) (Or.inl ⟨by rfl, ?_⟩) ?_ ?_
            rotate_left
            · intro w'
              go_simp
              with_reducible rfl
            rotate_left
            · simp only [Act.put, List.setIfInBounds_toArray, List.set_cons_zero, List.set_cons_succ, iR, iT]
              rfl
            refine jA (i := 7) (N := some 22) (v := ?_) (a' := ?_) #[true, true, true, true, true, true, true, true, false, false, false, false, false, false, false, false, false, false, false, false] rfl rfl (iQ HT_.out (by kernel_rfl)) (fun _ _ _ h => h) (Or.inl ⟨by rfl, ?_⟩) ?_ ?_
            rotate_left
            · intro w'
              go_simp
              with_reducible rfl
            rotate_left
            · simp only [Act.put, List.setIfInBounds_toArray, List.set_cons_zero, List.set_cons_succ, iR, iT]
              rfl
            refine jA (i := 8) (N := some 23) (v := undef) (a' := ?_) #[true, true, true, true, true, true, true, true, true, false, false, false, false, false, false, false, false, false, false, false] rfl rfl (iQ HT_.out (by kernel_rfl)) (fun _ _ _ h => h) (Or.inr ⟨by rfl, rfl⟩) ?_ ?_
            rotate_left
            · simp only [Act.put, List.setIfInBounds_toArray, List.set_cons_zero, List.set_cons_succ, iR, iT]
              rfl
            refine jA (i := 9) (N := some 24) (v := undef) (a' := ?_) #[true, true, true, true, true, true, true, true, true, true, false, false, false, false, false, false, false, false, false, false] rfl rfl (iQ HT_.out (by kernel_rfl)) (fun _ _ _ h => h) (Or.inr ⟨by rfl, rfl⟩) ?_ ?_
            rotate_left
            · simp only [Act.put, List.setIfInBounds_toArray, List.set_cons_zero, List.set_cons_succ, iR, iT]
              rfl
            refine jA (i := 10) (N := some 25) (v := undef) (a' := ?_) #[true, true, true, true, true, true, true, true, true, true, true, false, false, false, false, false, false, false, false, false] rfl rfl (iQ HT_.out (by kernel_rfl)) (fun _ _ _ h => h) (Or.inr ⟨by rfl, rfl⟩) ?_ ?_
            rotate_left
            · simp only [Act.put, List.setIfInBounds_toArray, List.set_cons_zero, List.set_cons_succ, iR, iT]
              rfl
            refine jA (i := 11) (N := some 26) (v := undef) (a' := ?_) #[true, true, true, true, true, true, true, true, true, true, true, true, false, false, false, false, false, false, false, false] rfl rfl (iQ HT_.out (by kernel_rfl)) (fun _ _ _ h => h) (Or.inr ⟨by rfl, rfl⟩) ?_ ?_
            rotate_left
            · simp only [Act.put, List.setIfInBounds_toArray, List.set_cons_zero, List.set_cons_succ, iR, iT]
              rfl
            refine jA (i := 12) (N := some 27) (v := undef) (a' := ?_) #[true, true, true, true, true, true, true, true, true, true, true, true, true, false, false, false, false, false, false, false] rfl rfl (iQ HT_.out (by kernel_rfl)) (fun _ _ _ h => h) (Or.inr ⟨by rfl, rfl⟩) ?_ ?_
            rotate_left
            · simp only [Act.put, List.setIfInBounds_toArray, List.set_cons_zero, List.set_cons_succ, iR, iT]
              rfl
            refine jA (i := 13) (N := some 28) (v := undef) (a' := ?_) #[true, true, true, true, true, true, true, true, true, true, true, true, true, true, false, false, false, false, false, false] rfl rfl (iQ HT_.out (by kernel_rfl)) (fun _ _ _ h => h) (Or.inr ⟨by rfl, rfl⟩) ?_ ?_
            rotate_left
            · simp only [Act.put, List.setIfInBounds_toArray, List.set_cons_zero, List.set_cons_succ, iR, iT]
              rfl
            refine jA (i := 14) (N := some 29) (v := undef) (a' := ?_) #[true, true, true, true, true, true, true, true, true, true, true, true, true, true, true, false, false, false, false, false] rfl rfl (iQ HT_.out (by kernel_rfl)) (fun _ _ _ h => h) (Or.inr ⟨by rfl, rfl⟩) ?_ ?_
            rotate_left
            · simp only [Act.put, List.setIfInBounds_toArray, List.set_cons_zero, List.set_cons_succ, iR, iT]
              rfl
            refine jA (i := 15) (N := some 30) (v := undef) (a' := ?_) #[true, true, true, true, true, true, true, true, true, true, true, true, true, true, true, true, false, false, false, false] rfl rfl (iQ HT_.out (by kernel_rfl)) (fun _ _ _ h => h) (Or.inr ⟨by rfl, rfl⟩) ?_ ?_
            rotate_left
            · simp only [Act.put, List.setIfInBounds_toArray, List.set_cons_zero, List.set_cons_succ, iR, iT]
              rfl
            refine jA (i := 16) (N := some 31) (v := undef) (a' := ?_) #[true, true, true, true, true, true, true, true, true, true, true, true, true, true, true, true, true, false, false, false] rfl rfl (iQ HT_.out (by kernel_rfl)) (fun _ _ _ h => h) (Or.inr ⟨by rfl, rfl⟩) ?_ ?_
            rotate_left
            · simp only [Act.put, List.setIfInBounds_toArray, List.set_cons_zero, List.set_cons_succ, iR, iT]
              rfl
            refine jA (i := 17) (N := some 32) (v := undef) (a' := ?_) #[true, true, true, true, true, true, true, true, true, true, true, true, true, true, true, true, true, true, false, false] rfl rfl (iQ HT_.out (by kernel_rfl)) (fun _ _ _ h => h) (Or.inr ⟨by rfl, rfl⟩) ?_ ?_
            rotate_left
            · simp only [Act.put, List.setIfInBounds_toArray, List.set_cons_zero, List.set_cons_succ, iR, iT]
              rfl
            refine jA (i := 18) (N := some 33) (v := undef) (a' := ?_) #[true, true, true, true, true, true, true, true, true, true, true, true, true, true, true, true, true, true, true, false] rfl rfl (iQ HT_.out (by kernel_rfl)) (fun _ _ _ h => h) (Or.inr ⟨by rfl, rfl⟩) ?_ ?_
            rotate_left
            · simp only [Act.put, List.setIfInBounds_toArray, List.set_cons_zero, List.set_cons_succ, iR, iT]
              rfl
            refine jA (i := 19) (N := some 34) (v := ?_) (a' := ?_) #[true, true, true, true, true, true, true, true, true, true, true, true, true, true, true, true, true, true, true, true] rfl rfl (iQ HT_.out (by kernel_rfl)) (fun _ _ _ h => h) (Or.inl ⟨by rfl, ?_⟩) ?_ ?_
            rotate_left
            · intro w'
              go_simp
              with_reducible rfl
            rotate_left
            · simp only [Act.put, List.setIfInBounds_toArray, List.set_cons_zero, List.set_cons_succ, iR, iT]
              rfl
            refine lT (kH HT_.out (by kernel_rfl)) ?_
            go_wp2
            go_roundg k1
            case rel => exact ⟨xs, _, rfl, H3, ⟨HO.out.below (jZ (Below.refl _ _))⟩, ⟨lC (jZ (Below.refl _ _)) HX.out⟩, ⟨jZ HB.out⟩⟩
            case measure => omega
        · rw [if_neg c6] at H; cases H
      · rw [if_neg (by rw [HN.out]; exact c5)] at H
        obtain ⟨t, ht, hr⟩ := Option.bind_eq_some_iff.mp H
        injection hr with hr
        subst hr
        obtain ⟨An, cn, rfl, hxl, hrd⟩ := HO.out.reads
        have hcopy := stratumref07_CopyFacts.calls k1 An cn xs t wr (kE.imp_ hrd (Below.refl _ _) (fun p c hp => k103.K_below HB.out hp)) hxl ht
        clear H ht hrd
        go_wp2_with (go_at_call 57; refine hcopy.mono ?_; rintro e w2 ⟨v, rfl, hR, hb⟩)
        go_ret
        exact ⟨v, rfl, Kd.R_N (Kd.R_mono (Kd.R_bound (Kd.R_lower hR HB.out.size)) (fun j hj => .inr hj.2.1)), iM HB.out hb⟩
end Go.Proofs.Ytjppookmjdaplaa.K
end

section
namespace Go.Proofs.Ytjppookmjdaplaa.K
open Go.RowKit Go.Proofs.YtjppookmjdaplaaW.PrintWords Go.Proofs.YtjppookmjdaplaaW.PrintLast Go.Proofs.YtjppookmjdaplaaW.PrintMore
attribute [local go_sem] jQ jP jX jW
def stratumref07_SameInts.l0 : Nat → List Int → List Int → Int → Option (Bool)
  | 0, _, _, _ => none
  | k + 1, x0, x1, x5 => if x5 < (x0.length : Int) then (if 0 ≤ x5 then (if x5 < (x1.length : Int) then (if (rd x0 x5) = (rd x1 x5) then (stratumref07_SameInts.l0 k x0 x1 (wrap64 (x5 + 1))) else (some false)) else (none)) else (none)) else (some true)
def stratumref07_SameInts.f (k : Nat) (l0 : List Int) (l1 : List Int) : Option (Bool) := if (l0.length : Int) = (l1.length : Int) then (stratumref07_SameInts.l0 k l0 l1 0) else (some false)
set_option maxHeartbeats 8000000 in
set_option maxRecDepth 100000 in
theorem stratumref07_SameInts.calls (k : Nat) (A0 : Option Addr) (c0 : Nat) (l0 : List Int) (A1 : Option Addr) (c1 : Nat) (l1 : List Int) (r : Bool) (w : World) (hr0 : Kd.C (Kd.int .i64) w A0 l0.length l0) (hc0 : l0.length ≤ c0) (hr1 : Kd.C (Kd.int .i64) w A1 l1.length l1) (hc1 : l1.length ≤ c1) (h : stratumref07_SameInts.f k l0 l1 = some r) :
    Calls Try.prog 25 #[.slice A0 l0.length c0, .slice A1 l1.length c1] w fun e w' => e = .returned (.bool r) ∧ jO w w' := by
  have HR0 := iC.mk hr0
  have HC0 := iC.mk hc0
  clear hr0 hc0
  have HR1 := iC.mk hr1
  have HC1 := iC.mk hc1
  clear hr1 hc1
  have H : (if (l0.length : Int) = (l1.length : Int) then (stratumref07_SameInts.l0 k l0 l1 0) else (some false)) = some r := h
  clear h
  by_cases c3 : (l0.length : Int) = (l1.length : Int)
  · rw [if_pos c3] at H
    have c3b0 : ((l0.length : Int) == (l1.length : Int)) = true := beq_iff_eq.mpr c3
    have c3b1 : ((l0.length : Int) != (l1.length : Int)) = false := bne_eq_false_iff_eq.mpr c3
    have c3b2 : (l0.length == l1.length) = true := by first | simpa using c3 | (simp at c3 ⊢; omega)
    clear c3
    have H' := iC.mk H
    clear H
    go_enter Try.func25, Try.ntmps25
    go_wp2
    repeat (go_quiet (fail); try go_wp2)
    go_loopg [5] k (fun kq v5 w' => ∃ (x5_1 : Int), v5 = .int .i64 x5_1 ∧ iC (stratumref07_SameInts.l0 kq l0 l1 x5_1 = some r) ∧ iC (kq ≤ k) ∧ jO w w')
    case atStart => exact ⟨(0), (by first | rfl | (simp; done) | (simp [*]; done)), H', ⟨Nat.le_refl _⟩, by repeat (first | exact jO.refl _ | apply jO.step)⟩
    case round =>
      clear H'
      try clear c1
      try clear c2
      try clear p2
      try clear c3
      try clear c3b0
      try clear c3b1
      try clear c3b2
      obtain ⟨x5_1, rfl, HA, HK1, ⟨m1, rfl⟩⟩ := hrel
      cases gk with
      | zero => exact absurd HA.out (by simp [stratumref07_SameInts.l0])
      | succ k1 =>
        have H := HA.out
        clear HA
        simp only [stratumref07_SameInts.l0] at H
        by_cases c4 : x5_1 < (l0.length : Int)
        · rw [if_pos c4] at H
          have c4b0 : decide (x5_1 < (l0.length : Int)) = true := decide_eq_true c4
          clear c4
          by_cases c5 : 0 ≤ x5_1
          · rw [if_pos c5] at H
            have c5b0 : decide (0 ≤ x5_1) = true := decide_eq_true c5
            clear c5
            by_cases c6 : x5_1 < (l1.length : Int)
            · rw [if_pos c6] at H
              have c6b0 : decide (x5_1 < (l1.length : Int)) = true := decide_eq_true c6
              clear c6
              by_cases c7 : (rd l0 x5_1) = (rd l1 x5_1)
              · rw [if_pos c7] at H
                have c7b0 : ((rd l0 x5_1) == (rd l1 x5_1)) = true := beq_iff_eq.mpr c7
                have c7b1 : ((rd l0 x5_1) != (rd l1 x5_1)) = false := bne_eq_false_iff_eq.mpr c7
                clear c7
                have H' := iC.mk H
                clear H
                have p397 : 0 ≤ (x5_1 : Int) := of_decide_eq_true asm_
                have q397 : x5_1 < (l0.length : Int) := of_decide_eq_true asm_
                obtain ⟨ad397, e397, hx397_0⟩ := Kd.at_int HR0.out x5_1 p397 q397
                cases e397
                replace p397 := eq_true p397
                replace q397 := eq_true q397
                have p398 : 0 ≤ (x5_1 : Int) := of_decide_eq_true asm_
                have q398 : x5_1 < (l1.length : Int) := of_decide_eq_true asm_
                obtain ⟨ad398, e398, hx398_0⟩ := Kd.at_int HR1.out x5_1 p398 q398
                cases e398
                replace p398 := eq_true p398
                replace q398 := eq_true q398
                go_wp2
                repeat (go_quiet (fail); try go_wp2)
                go_roundg k1
                case measure => have := HK1.out; omega
                case rel => exact ⟨(wrap64 (x5_1 + 1)), (by first | rfl | (simp; done) | (simp [*]; done)), H', ⟨by have := HK1.out; omega⟩, by repeat (first | exact jO.refl _ | apply jO.step)⟩
              · rw [if_neg c7] at H
                have c7b0 : ((rd l0 x5_1) == (rd l1 x5_1)) = false := beq_eq_false_iff_ne.mpr c7
                have c7b1 : ((rd l0 x5_1) != (rd l1 x5_1)) = true := bne_iff_ne.mpr c7
                obtain rfl := Option.some.inj H
                have p397 : 0 ≤ (x5_1 : Int) := of_decide_eq_true asm_
                have q397 : x5_1 < (l0.length : Int) := of_decide_eq_true asm_
                obtain ⟨ad397, e397, hx397_0⟩ := Kd.at_int HR0.out x5_1 p397 q397
                cases e397
                replace p397 := eq_true p397
                replace q397 := eq_true q397
                have p398 : 0 ≤ (x5_1 : Int) := of_decide_eq_true asm_
                have q398 : x5_1 < (l1.length : Int) := of_decide_eq_true asm_
                obtain ⟨ad398, e398, hx398_0⟩ := Kd.at_int HR1.out x5_1 p398 q398
                cases e398
                replace p398 := eq_true p398
                replace q398 := eq_true q398
                go_wp2
                repeat (go_quiet (fail); try go_wp2)
                go_ret
                exact ⟨by first | rfl | (simp; done) | (simp [*]; done), by repeat (first | exact jO.refl _ | apply jO.step)⟩
            · rw [if_neg c6] at H
              exact absurd H (by simp)
          · rw [if_neg c5] at H
            exact absurd H (by simp)
        · rw [if_neg c4] at H
          have c4b0 : decide (x5_1 < (l0.length : Int)) = false := decide_eq_false c4
          clear c4
          obtain rfl := Option.some.inj H
          go_wp2
          repeat (go_quiet (fail); try go_wp2)
          go_ret
          exact ⟨by first | rfl | (simp; done) | (simp [*]; done), by repeat (first | exact jO.refl _ | apply jO.step)⟩
  · rw [if_neg c3] at H
    have c3b0 : ((l0.length : Int) == (l1.length : Int)) = false := beq_eq_false_iff_ne.mpr c3
    have c3b1 : ((l0.length : Int) != (l1.length : Int)) = true := bne_iff_ne.mpr c3
    have c3b2 : (l0.length == l1.length) = false := by first | simpa using c3 | (simp at c3 ⊢; omega)
    obtain rfl := Option.some.inj H
    go_enter Try.func25, Try.ntmps25
    go_wp2
    repeat (go_quiet (fail); try go_wp2)
    go_ret
    exact ⟨by first | rfl | (simp; done) | (simp [*]; done), by repeat (first | exact jO.refl _ | apply jO.step)⟩
end Go.Proofs.Ytjppookmjdaplaa.K
end

section
namespace Go.Proofs.Ytjppookmjdaplaa.K
open Go.RowKit Go.Proofs.YtjppookmjdaplaaW.PrintWords Go.Proofs.YtjppookmjdaplaaW.PrintLast Go.Proofs.YtjppookmjdaplaaW.PrintMore
attribute [local go_sem] jQ jP jX jW
mutual
def stratumref12_Nodes.l0 : Nat → Int → Int → List Int → Int → Int → List (S96) → Option (List Int)
  | 0, _, _, _, _, _, _ => none
  | k + 1, x1, x2, x7, x8, x400000, x400001 => if x8 < 6 then (stratumref12_Nodes.l1 k x1 x2 x7 x8 false (mx x1 0) x400000 x400001) else (some x7)
def stratumref12_Nodes.l1 : Nat → Int → Int → List Int → Int → Bool → Int → Int → List (S96) → Option (List Int)
  | 0, _, _, _, _, _, _, _, _ => none
  | k + 1, x1, x2, x7, x8, x9, x10, x400000, x400001 => if x10 < (mn x2 10000) then (if x9 = true then (if x7.length < 17592186044416 then (stratumref12_Nodes.l0 k x1 x2 (x7 ++ [x8]) (wrap64 (x8 + 1)) x400000 x400001) else (none)) else ((stratumref12_Find.f k x400000 x400001 x10).bind fun t403 => (stratumref12_Nodes.l1 k x1 x2 x7 x8 (t403 == x8) (wrap64 (x10 + 1)) x400000 x400001))) else (if x9 = true then (if x7.length < 17592186044416 then (stratumref12_Nodes.l0 k x1 x2 (x7 ++ [x8]) (wrap64 (x8 + 1)) x400000 x400001) else (none)) else (stratumref12_Nodes.l0 k x1 x2 x7 (wrap64 (x8 + 1)) x400000 x400001))
end
def stratumref12_Nodes.f (k : Nat) (a0_0 : Int) (l0_1 : List (S96)) (a1 : Int) (a2 : Int) : Option (List Int) := stratumref12_Nodes.l0 k a1 a2 ([] : List Int) 0 a0_0 l0_1
set_option maxHeartbeats 8000000 in
set_option maxRecDepth 100000 in
theorem stratumref12_Nodes.calls (k : Nat) (a0_0 : Int) (A0_1 : Option Addr) (c0_1 : Nat) (l0_1 : List (S96)) (a1 : Int) (a2 : Int) (r : List Int) (w : World) (hr0_1 : Kd.C k96 w A0_1 l0_1.length l0_1) (hc0_1 : l0_1.length ≤ c0_1) (h : stratumref12_Nodes.f k a0_0 l0_1 a1 a2 = some r) :
    Calls Try.prog 27 #[.agg #[.int .u32 a0_0, .slice A0_1 l0_1.length c0_1], .int .i64 a1, .int .i64 a2] w fun e w' => ∃ v0_ : Value, e = .returned (v0_) ∧ Kd.R (Kd.int .i64) 3 w' w.heap.size (fun _ => True) v0_ r ∧ Below w.heap.size w w' := by
  have hu42 := Try.underlying42
  have HR0_1 := iC.mk hr0_1
  have HC0_1 := iC.mk hc0_1
  clear hr0_1 hc0_1
  have HB := iC.mk (Below.refl w.heap.size w)
  have H : (stratumref12_Nodes.l0 k a1 a2 ([] : List Int) 0 a0_0 l0_1) = some r := h
  clear h
  have H' := iC.mk H
  clear H
  go_enter Try.func27, Try.ntmps27
  go_wp2_with (first | ((with_reducible refine jF (N := 3) rfl ?_); refine jD ?hg (N := 3) ?hd (cs := #[.int .u32 a0_0, .slice A0_1 l0_1.length c0_1]) (t := 42) ?hr ?_; (case hd => rfl); (case hg => rfl); (case hr => first | (go_simp; done) | (go_simp; rfl)); intro gb399 hg w4 hbox hb; have n0_ := iC.mk (iM hb_ hb); have n1_ := iC.mk (hbox); have n2_ := iC.mk ((by rw [hg]; exact (iJ hb_) : w.heap.size ≤ gb399)); have n3_ := iC.mk ((by rw [hg]; exact (iJ hb_) : w.heap.size ≤ gb399)); clear HB; have HB := n0_; have BK399 := n1_; have GW399 := n2_; have GE399 := n3_; clear n0_ n1_ n2_ n3_; clear hb hbox hg))
  go_loopg [7, 8] k (fun kq v7 v8 w' => ∃ (x7_1 : List Int) (x8_1 : Int), v8 = .int .i64 x8_1 ∧ iC (stratumref12_Nodes.l0 kq a1 a2 x7_1 x8_1 a0_0 l0_1 = some r) ∧ iC (kq ≤ k) ∧ iC (Kd.R (Kd.int .i64) 3 w' w.heap.size (fun _ => True) v7 x7_1) ∧ iC (w'.heap[gb399]? = some (.cells #[.int .u32 a0_0, (.slice A0_1 l0_1.length c0_1)] 42 (0, 0))) ∧ iC (Below w.heap.size w w'))
  case atStart => exact ⟨(([] : List Int)), (0), (by first | rfl | (simp; done) | (simp [*]; done)), H', ⟨Nat.le_refl _⟩, ⟨by first | exact Kd.R_nil _ _ _ _ _ | exact Kd.N_nil _ _ _ _ _ | exact Kd.V_nil _ _ _ _ _ | exact Kd.Q_nil _ _ _ _ _ | exact Kd.S_nil _ _ _ _ _⟩, ⟨bk_ BK399.out⟩, ⟨by repeat (first | (with_reducible first | exact HB.out | apply iG | apply iD | apply iF | refine iE ?_ GE399.out) | exact HB.out)⟩⟩
  case round =>
    clear H'
    try clear c2
    try clear p2
    obtain ⟨x7_1, x8_1, rfl, HA, HK1, HO_7, BK399, HB⟩ := hrel
    cases gk with
    | zero => exact absurd HA.out (by simp [stratumref12_Nodes.l0])
    | succ k1 =>
      have H := HA.out
      clear HA
      simp only [stratumref12_Nodes.l0] at H
      by_cases c5 : x8_1 < 6
      · rw [if_pos c5] at H
        have c5b0 : decide (x8_1 < 6) = true := decide_eq_true c5
        clear c5
        obtain ⟨ji6, hji6⟩ : ∃ j_ : Int, (mx a1 0) = j_ := ⟨_, rfl⟩
        replace H : (stratumref12_Nodes.l1 k1 a1 a2 x7_1 x8_1 false ji6 a0_0 l0_1) = some r := by first | (rw [hji6] at H; exact H) | (simp only [hji6] at H ⊢; exact H)
        have hji6_ : (if a1 < 0 then 0 else a1) = ji6 := hji6
        have H' := iC.mk H
        clear H
        go_wp2
        go_loopg [9, 10] k1 (fun kq v9 v10 w' => ∃ (x9_2 : Bool) (x10_2 : Int), v9 = .bool x9_2 ∧ v10 = .int .i64 x10_2 ∧ iC (stratumref12_Nodes.l1 kq a1 a2 x7_1 x8_1 x9_2 x10_2 a0_0 l0_1 = some r) ∧ iC (kq ≤ k1) ∧ iC (Kd.R (Kd.int .i64) 3 w' w.heap.size (fun _ => True) u7 x7_1) ∧ iC (w'.heap[gb399]? = some (.cells #[.int .u32 a0_0, (.slice A0_1 l0_1.length c0_1)] 42 (0, 0))) ∧ iC (Below w.heap.size w w'))
        case atStart => exact ⟨(false), (ji6), (by first | rfl | (simp; done) | (simp [*]; done)), (by first | rfl | (simp; done) | (simp only [← hji6] <;> (first | rfl | simp)) | (simp [*]; done)), H', ⟨Nat.le_refl _⟩, ⟨by (with_reducible repeat (first | apply Kd.R_alloc | apply Kd.R_drewN | apply Kd.R_drew)); exact HO_7.out⟩, ⟨bk_ BK399.out⟩, ⟨by repeat (first | (with_reducible first | exact HB.out | apply iG | apply iD | apply iF | refine iE ?_ GE399.out) | exact HB.out)⟩⟩
        case round =>
          clear H'
          try clear c2
          try clear p2
          try clear c5
          try clear c5b0
          try clear p2
          obtain ⟨x9_2, x10_2, rfl, rfl, HA, HK2, HO_7, BK399, HB⟩ := hrel
          cases gk with
          | zero => exact absurd HA.out (by simp [stratumref12_Nodes.l1])
          | succ k2 =>
            have H := HA.out
            clear HA
            simp only [stratumref12_Nodes.l1] at H
            obtain ⟨ji7, hji7⟩ : ∃ j_ : Int, (mn a2 10000) = j_ := ⟨_, rfl⟩
            replace H : (if x10_2 < (ji7) then (if x9_2 = true then (if x7_1.length < 17592186044416 then (stratumref12_Nodes.l0 k2 a1 a2 (x7_1 ++ [x8_1]) (wrap64 (x8_1 + 1)) a0_0 l0_1) else (none)) else ((stratumref12_Find.f k2 a0_0 l0_1 x10_2).bind fun t403 => (stratumref12_Nodes.l1 k2 a1 a2 x7_1 x8_1 (t403 == x8_1) (wrap64 (x10_2 + 1)) a0_0 l0_1))) else (if x9_2 = true then (if x7_1.length < 17592186044416 then (stratumref12_Nodes.l0 k2 a1 a2 (x7_1 ++ [x8_1]) (wrap64 (x8_1 + 1)) a0_0 l0_1) else (none)) else (stratumref12_Nodes.l0 k2 a1 a2 x7_1 (wrap64 (x8_1 + 1)) a0_0 l0_1))) = some r := by first | (rw [hji7] at H; exact H) | (simp only [hji7] at H ⊢; exact H)
            have hji7_ : (if 10000 < a2 then 10000 else a2) = ji7 := hji7
            by_cases c8 : x10_2 < (ji7)
            · rw [if_pos c8] at H
              have c8b0 : decide (x10_2 < (ji7)) = true := decide_eq_true c8
              clear c8
              by_cases c9 : x9_2 = true
              · subst c9
                have H1 : (if x7_1.length < 17592186044416 then (stratumref12_Nodes.l0 k2 a1 a2 (x7_1 ++ [x8_1]) (wrap64 (x8_1 + 1)) a0_0 l0_1) else (none)) = some r := by rw [if_pos rfl] at H; exact H
                clear H
                have H := H1
                clear H1
                by_cases c10 : x7_1.length < 17592186044416
                · rw [if_pos c10] at H
                  have LMc10 := iC.mk c10
                  clear c10
                  obtain ⟨y400, hy400⟩ : ∃ y_ : List Int, y_ = (x7_1 ++ [x8_1]) := ⟨_, rfl⟩
                  replace H : (stratumref12_Nodes.l0 k2 a1 a2 y400 (wrap64 (x8_1 + 1)) a0_0 l0_1) = some r := by first | (rw [hy400]; with_reducible exact H) | (have H2_ := (Option.bind_some _ _).symm.trans H; rw [hy400]; with_reducible exact H2_) | (have H2_ := (Option.bind_some _ _).symm.trans H; with_reducible exact H2_) | with_reducible exact H | (rw [hy400]; exact H) | exact H
                  have Ny400 := iC.mk hy400
                  clear hy400
                  have H' := iC.mk H
                  clear H
                  go_wp2_with (first | ((with_reducible refine jR (b := .append) (xs := #[.tmp 33, .tmp 35]) rfl ?_); at_builtin; refine Kd.R_append (Kd.int .i64) (w0 := w) w.heap.size rfl (.tmp 33) (.tmp 35) 25 3 (.int .i64 0) 8 rfl Try.underlying25 info3 rfl (by decide) (by omega) u7 x7_1 x8_1 [.int .i64 x8_1] (fun _ => True) (fun _ => False) rfl rfl ?aP (fun _ hk => hk.elim) ?aF ?aO ?aB ?aS ?aL ?_; (case aP => exact rfl); (case aB => exact (by repeat (first | (with_reducible first | exact HB.out | apply iG | apply iD | apply iF | refine iE ?_ GE399.out) | exact HB.out))); (case aF => exact (fun _ _ => trivial)); (case aO => exact (by (with_reducible repeat (first | apply Kd.R_alloc | apply Kd.R_drewN | apply Kd.R_drew)); exact HO_7.out)); (case aS => exact (iJ (by repeat (first | (with_reducible first | exact HB.out | apply iG | apply iD | apply iF | refine iE ?_ GE399.out) | exact HB.out)))); (case aL => have := LMc10.out; omega); intro v401 w11 ho hb hg hat; rw [← Ny400.out] at ho; have n0_ := iC.mk (jM (g := gb399) (o := .cells #[.int .u32 a0_0, .slice A0_1 l0_1.length c0_1] 42 (0, 0)) (bk_ BK399.out) hg (Kd.R_ne HO_7.out BK399.out (by decide))); have n1_ := iC.mk (hb); have n2_ := iC.mk (ho); clear BK399; clear HB; clear HO_7; have BK399 := n0_; have HB := n1_; have HO402 := n2_; clear n0_ n1_ n2_; clear ho hb hg hat))
                  go_roundg k2
                  case measure => have := HK1.out; have := HK2.out; omega
                  case rel => exact ⟨(y400), (wrap64 (x8_1 + 1)), (by first | rfl | (simp; done) | (simp [*]; done)), H', ⟨by have := HK1.out; have := HK2.out; omega⟩, ⟨by (with_reducible repeat (first | apply Kd.R_alloc | apply Kd.R_drewN | apply Kd.R_drew)); exact HO402.out⟩, ⟨bk_ BK399.out⟩, ⟨by repeat (first | (with_reducible first | exact HB.out | apply iG | apply iD | apply iF | refine iE ?_ GE399.out) | exact HB.out)⟩⟩
                · rw [if_neg c10] at H
                  exact absurd H (by simp)
              · replace c9 := Bool.eq_false_iff.mpr c9
                subst c9
                have H1 : ((stratumref12_Find.f k2 a0_0 l0_1 x10_2).bind fun t403 => (stratumref12_Nodes.l1 k2 a1 a2 x7_1 x8_1 (t403 == x8_1) (wrap64 (x10_2 + 1)) a0_0 l0_1)) = some r := by rw [if_neg (show ¬ (false = true) by decide)] at H; exact H
                clear H
                have H := H1
                clear H1
                replace H := Option.bind_eq_some_iff.mp H
                obtain ⟨t403, A120, H⟩ := H
                replace H : (stratumref12_Nodes.l1 k2 a1 a2 x7_1 x8_1 (t403 == x8_1) (wrap64 (x10_2 + 1)) a0_0 l0_1) = some r := H
                have A12 := iC.mk A120
                clear A120
                have H' := iC.mk H
                clear H
                have hcz13_0 : wr.cell? ⟨gb399, 0, none⟩ = some (.int .u32 a0_0) := (iH BK399.out 0).trans rfl
                have hcz13_1 : wr.cell? ⟨gb399, 1, none⟩ = some (.slice A0_1 l0_1.length c0_1) := (iH BK399.out 1).trans rfl
                have hfz13_0 := iI BK399.out 0
                have hfz13_1 := iI BK399.out 1
                go_wp2_with (first | ((with_reducible refine iZ (f := 56) rfl ?_); refine jJ (some 29) rfl rfl Try.func56 (by kernel_rfl) rfl #[.agg #[.int .u32 a0_0, .slice A0_1 l0_1.length c0_1], .int .i64 x10_2] rfl (by (try simp only [List.map_toArray, List.map_cons, List.map_nil]); first | done | rfl | (simp only [List.length_drop, List.length_take]; rfl)) ?_; (with_reducible refine (stratumref12_Find.calls k2 a0_0 _ _ l0_1 x10_2 t403 _ ?side1 ?side2 A12.out).mono ?_); (case side1 => repeat (first | exact (Kd.C_below HR0_1.out HB.out) | (with_reducible refine Kd.C_alloc ?_ _) | (with_reducible refine Kd.C_drewN ?_ _) | (with_reducible refine Kd.C_drew ?_))); (case side2 => exact HC0_1.out); rintro e w14 ⟨rfl, hb⟩; refine ⟨_, rfl, ?_⟩; have n0_ := iC.mk (Kd.R_below (by (with_reducible repeat (first | apply Kd.R_alloc | apply Kd.R_drewN | apply Kd.R_drew)); exact HO_7.out) hb); have n1_ := iC.mk (iP (g := gb399) (o := .cells #[.int .u32 a0_0, .slice A0_1 l0_1.length c0_1] 42 (0, 0)) (bk_ BK399.out) hb); have n2_ := iC.mk (iM (by repeat (first | (with_reducible first | exact HB.out | apply iG | apply iD | apply iF | refine iE ?_ GE399.out) | exact HB.out)) hb); clear HO_7; clear BK399; clear HB; have HO_7 := n0_; have BK399 := n1_; have HB := n2_; clear n0_ n1_ n2_; (try clear hb); (try clear hb2); (try clear hk); (try clear hi)))
                go_roundg k2
                case measure => have := HK1.out; have := HK2.out; omega
                case rel => exact ⟨((t403 == x8_1)), (wrap64 (x10_2 + 1)), (by first | rfl | (simp; done) | (simp [*]; done)), (by first | rfl | (simp; done) | (simp [*]; done)), H', ⟨by have := HK1.out; have := HK2.out; omega⟩, ⟨by (with_reducible repeat (first | apply Kd.R_alloc | apply Kd.R_drewN | apply Kd.R_drew)); exact HO_7.out⟩, ⟨bk_ BK399.out⟩, ⟨by repeat (first | (with_reducible first | exact HB.out | apply iG | apply iD | apply iF | refine iE ?_ GE399.out) | exact HB.out)⟩⟩
            · rw [if_neg c8] at H
              have c8b0 : decide (x10_2 < (ji7)) = false := decide_eq_false c8
              clear c8
              by_cases c15 : x9_2 = true
              · subst c15
                have H1 : (if x7_1.length < 17592186044416 then (stratumref12_Nodes.l0 k2 a1 a2 (x7_1 ++ [x8_1]) (wrap64 (x8_1 + 1)) a0_0 l0_1) else (none)) = some r := by rw [if_pos rfl] at H; exact H
                clear H
                have H := H1
                clear H1
                by_cases c16 : x7_1.length < 17592186044416
                · rw [if_pos c16] at H
                  have LMc16 := iC.mk c16
                  clear c16
                  obtain ⟨y404, hy404⟩ : ∃ y_ : List Int, y_ = (x7_1 ++ [x8_1]) := ⟨_, rfl⟩
                  replace H : (stratumref12_Nodes.l0 k2 a1 a2 y404 (wrap64 (x8_1 + 1)) a0_0 l0_1) = some r := by first | (rw [hy404]; with_reducible exact H) | (have H2_ := (Option.bind_some _ _).symm.trans H; rw [hy404]; with_reducible exact H2_) | (have H2_ := (Option.bind_some _ _).symm.trans H; with_reducible exact H2_) | with_reducible exact H | (rw [hy404]; exact H) | exact H
                  have Ny404 := iC.mk hy404
                  clear hy404
                  have H' := iC.mk H
                  clear H
                  go_wp2_with (first | ((with_reducible refine jR (b := .append) (xs := #[.tmp 33, .tmp 35]) rfl ?_); at_builtin; refine Kd.R_append (Kd.int .i64) (w0 := w) w.heap.size rfl (.tmp 33) (.tmp 35) 25 3 (.int .i64 0) 8 rfl Try.underlying25 info3 rfl (by decide) (by omega) u7 x7_1 x8_1 [.int .i64 x8_1] (fun _ => True) (fun _ => False) rfl rfl ?aP (fun _ hk => hk.elim) ?aF ?aO ?aB ?aS ?aL ?_; (case aP => exact rfl); (case aB => exact (by repeat (first | (with_reducible first | exact HB.out | apply iG | apply iD | apply iF | refine iE ?_ GE399.out) | exact HB.out))); (case aF => exact (fun _ _ => trivial)); (case aO => exact (by (with_reducible repeat (first | apply Kd.R_alloc | apply Kd.R_drewN | apply Kd.R_drew)); exact HO_7.out)); (case aS => exact (iJ (by repeat (first | (with_reducible first | exact HB.out | apply iG | apply iD | apply iF | refine iE ?_ GE399.out) | exact HB.out)))); (case aL => have := LMc16.out; omega); intro v405 w17 ho hb hg hat; rw [← Ny404.out] at ho; have n0_ := iC.mk (jM (g := gb399) (o := .cells #[.int .u32 a0_0, .slice A0_1 l0_1.length c0_1] 42 (0, 0)) (bk_ BK399.out) hg (Kd.R_ne HO_7.out BK399.out (by decide))); have n1_ := iC.mk (hb); have n2_ := iC.mk (ho); clear BK399; clear HB; clear HO_7; have BK399 := n0_; have HB := n1_; have HO406 := n2_; clear n0_ n1_ n2_; clear ho hb hg hat))
                  go_roundg k2
                  case measure => have := HK1.out; have := HK2.out; omega
                  case rel => exact ⟨(y404), (wrap64 (x8_1 + 1)), (by first | rfl | (simp; done) | (simp [*]; done)), H', ⟨by have := HK1.out; have := HK2.out; omega⟩, ⟨by (with_reducible repeat (first | apply Kd.R_alloc | apply Kd.R_drewN | apply Kd.R_drew)); exact HO406.out⟩, ⟨bk_ BK399.out⟩, ⟨by repeat (first | (with_reducible first | exact HB.out | apply iG | apply iD | apply iF | refine iE ?_ GE399.out) | exact HB.out)⟩⟩
                · rw [if_neg c16] at H
                  exact absurd H (by simp)
              · replace c15 := Bool.eq_false_iff.mpr c15
                subst c15
                have H1 : (stratumref12_Nodes.l0 k2 a1 a2 x7_1 (wrap64 (x8_1 + 1)) a0_0 l0_1) = some r := by rw [if_neg (show ¬ (false = true) by decide)] at H; exact H
                clear H
                have H := H1
                clear H1
                have H' := iC.mk H
                clear H
                go_wp2
                go_roundg k2
                case measure => have := HK1.out; have := HK2.out; omega
                case rel => exact ⟨(x7_1), (wrap64 (x8_1 + 1)), (by first | rfl | (simp; done) | (simp [*]; done)), H', ⟨by have := HK1.out; have := HK2.out; omega⟩, ⟨by (with_reducible repeat (first | apply Kd.R_alloc | apply Kd.R_drewN | apply Kd.R_drew)); exact HO_7.out⟩, ⟨bk_ BK399.out⟩, ⟨by repeat (first | (with_reducible first | exact HB.out | apply iG | apply iD | apply iF | refine iE ?_ GE399.out) | exact HB.out)⟩⟩
      · rw [if_neg c5] at H
        have c5b0 : decide (x8_1 < 6) = false := decide_eq_false c5
        clear c5
        obtain rfl := Option.some.inj H
        go_wp2
        go_ret
        exact ⟨_, by first | rfl | (simp [iU, iV] <;> rfl) | (simp [*, iU, iV] <;> rfl), by (with_reducible repeat (first | apply Kd.R_alloc | apply Kd.R_drewN | apply Kd.R_drew)); exact HO_7.out, by repeat (first | (with_reducible first | exact HB.out | apply iG | apply iD | apply iF | refine iE ?_ GE399.out) | exact HB.out)⟩
end Go.Proofs.Ytjppookmjdaplaa.K
end
