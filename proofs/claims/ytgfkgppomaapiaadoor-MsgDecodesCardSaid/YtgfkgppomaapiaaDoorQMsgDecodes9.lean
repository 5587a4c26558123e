/- Parts of the proof, one behind the other: RefR, MsgW6. -/
import Derived.Test.YtgfkgppomaapiaaDoorQMsgDecodes8
set_option linter.unusedVariables false
set_option linter.unusedSimpArgs false
section
namespace Go.Proofs.YtgfkgppomaapiaaDoor.K
open RowKit YtgfkgppomaapiaaDoorW.PrintWords YtgfkgppomaapiaaDoorW.PrintLast YtgfkgppomaapiaaDoorW.PrintMore My
def xY (w : World) (d : SMsg × Int) (e : Ending) (w' : World) : Prop := ∃ (A3 : Option Addr) (a3 : Nat) (A4 : Option Addr) (a4 : Nat) (A9 : Option Addr) (a9 : Nat), e = .returned (.tuple #[.agg #[.int .u8 d.1.f0, .int .u32 d.1.f1, .int .u32 d.1.f2, .slice A3 d.1.f3.length a3, .slice A4 d.1.f4.length a4, .int .i64 d.1.f5, .int .i64 d.1.f6, .slice A9 d.1.f7.length a9], .int .i64 d.2]) ∧ oM w' d.1 A3 a3 A4 a4 A9 a9 ∧ Below w.heap.size w w'
theorem rD (w W : World) (h : Below w.heap.size w W) (c : Int) : xY w (kT, c) (.returned (.tuple #[.agg #[.int .u8 0, .int .u32 0, .int .u32 0, .slice none 0 0, .slice none 0 0, .int .i64 0, .int .i64 0, .slice none 0 0], .int .i64 c])) (W.setRow w.heap.size #[.int .u8 0, .int .u32 0, .int .u32 0, .slice none 0 0, .slice none 0 0, .int .i64 0, .int .i64 0, .slice none 0 0]) :=
  ⟨none, 0, none, 0, none, 0, rfl, zU _, below_grown h (jA W w.heap.size _) (Nat.le_refl _) (Nat.le_refl _)⟩
theorem pM {tmps : Array Value} {W : World} {p u : Tmp} {b : Nat} {cs : Array Value} {x : Value} (h : Tryd.f33.results = #[.cell p 51, .tmp u]) (hp : tmps.getD p undef = .pointer (some ⟨b, 0, none⟩)) (hu : tmps.getD u undef = x) (hx : W.heap[b]? = some (.cells cs 51 (0, 0))) (hs : cs.size = 8) :
    (results Tryd.f33 tmps).run Tryd.prog W = .ok (.tuple #[.agg cs, x]) W := by
  have h1 := run_loadVar_row (P := Tryd.prog) W b 51 51 cs (0, 0) _ hx Tryd.underlying51 rfl (by rw [hs]; kernel_rfl)
  rw [results_cell_tmp h, hp, hu]
  simp [asAddr, h1, Result.andThen]
theorem Owns.mlies {base : Nat} {w : World} {x : SRec} {A3 A4 A6 A9 : Option Addr} {a3 a4 a6 a9 : Nat} (h : Owns base w x A3 a3 A4 a4 A6 a6 A9 a9) (k : Int) : oM w (msgR k x) A3 a3 A4 a4 A9 a9 :=
  ⟨h.lies.h3, h.lies.d3, h.lies.h4, h.lies.d4, h.lies.h9, h.lies.d9⟩
attribute [-go_sem] Instr.build Instr.storeAt
attribute [local go_sem] IL RX
set_option maxRecDepth 20000 in
set_option maxHeartbeats 16000000 in
theorem IV (A : Option Addr) (c : Nat) (l : List UInt8) (w : World) (hCi : (Kd.int .u8).C w A l.length (nums l)) (hc : l.length ≤ c) :
    Calls Tryd.prog 33 #[.slice A l.length c] w (xY w (decM l)) := by
  cases l with
  | nil =>
    have hst := fun (_ : True) => pX rfl (show (w.alloc (.cells #[.int .u8 0, .int .u32 0, .int .u32 0, .slice none 0 0, .slice none 0 0, .int .i64 0, .int .i64 0, .slice none 0 0] 51)).heap[w.heap.size]? = _ from iM rfl)
    show Calls _ _ _ _ (xY w (kT, 160))
    simp only [List.length_nil]
    go_enter Tryd.func33, Tryd.ntmps33
    go_wp2
    ((try simp only [Exit.inBlock, Exit.then]); exact bodyPost_ret (pM rfl rfl rfl (setRow_heap _ _ _ _ _ _ (iM rfl)) rfl) rfl (rD w _ (iF (Below.refl _ _) _) 160))
  | cons k8 t =>
    obtain ⟨Wa, hWa⟩ : ∃ Wa, Wa = w.alloc (.cells #[.int .u8 0, .int .u32 0, .int .u32 0, .slice none 0 0, .slice none 0 0, .int .i64 0, .int .i64 0, .slice none 0 0] 51) := ⟨_, rfl⟩
    have hBa : Below w.heap.size w Wa := by rw [hWa]; exact iF (Below.refl _ _) _
    have HXA := iC.mk (show Wa.heap[w.heap.size]? = some (.cells #[.int .u8 0, .int .u32 0, .int .u32 0, .slice none 0 0, .slice none 0 0, .int .i64 0, .int .i64 0, .slice none 0 0] 51 (0, 0)) from by rw [hWa]; exact iM rfl)
    have HBA := iC.mk hBa
    have hC := o8 (Kd.C_below hCi hBa)
    have hm := kQ hC
    obtain ⟨A2, hcut, hC2⟩ := TJ hC hc 1 1 rfl (by simp)
    obtain ⟨ad, rfl, hk0⟩ := C_at hC 0 (by simp)
    have hk0 : Wa.cell? (ad.add 0) = some (.int .u8 (k8.toNat : Int)) := hk0
    rw [Addr.add_zero'] at hk0
    have HC := iC.mk hC
    have HC2 := iC.mk (show kb.C Wa A2 t.length t from hC2)
    have HWA := iC.mk hWa
    have HK0 := iC.mk hk0
    have hcall := MG A2 (c - 1) t Wa (nO HC2.out) (by simp at hc; omega)
    simp only [List.length_cons, Nat.add_sub_cancel] at hcut hc hm ⊢
    have hnz : ¬ ((t.length : Int) + 1 < 1) := by omega
    have hk255 := k8.toNat_lt
    clear hCi hBa hC hC2 hWa hk0
    obtain ⟨⟨x, E⟩, hD⟩ : ∃ D, decR t = D := ⟨_, rfl⟩
    rw [hD] at hcall
    have HD := iC.mk hD
    clear hD
    go_enter Tryd.func33, Tryd.ntmps33
    go_wp2_with fail
    rw [← HWA.out]
    go_at_call 24
    refine hcall.mono ?_
    rintro e w1 ⟨A3, d3, A4, d4, A6, d6, A9, d9, rfl, hO, hB⟩
    dsimp only at hO
    dsimp only
    have hbw : Below w1.heap.size w1 (w1.alloc (.cells #[.int .u8 x.f0, .int .u32 x.f1, .int .u32 x.f2, .slice A3 x.f3.length d3, .slice A4 x.f4.length d4, .int .u32 x.f5.f0, .slice A6 x.f5.f1.length d6, .int .i64 x.f6, .int .i64 x.f7, .slice A9 x.f8.length d9] 30)) := iF (Below.refl _ _) _
    have hsx := fun (_ : True) => run_storeAt_new (P := Tryd.prog) w1 30 #[.int .u8 0, .int .u32 0, .int .u32 0, .slice none 0 0, .slice none 0 0, .int .u32 0, .slice none 0 0, .int .i64 0, .int .i64 0, .slice none 0 0] #[.int .u8 x.f0, .int .u32 x.f1, .int .u32 x.f2, .slice A3 x.f3.length d3, .slice A4 x.f4.length d4, .int .u32 x.f5.f0, .slice A6 x.f5.f1.length d6, .int .i64 x.f6, .int .i64 x.f7, .slice A9 x.f8.length d9] (by kernel_rfl) rfl (by simp [Value.oneCell'])
    have hb1 := hB.trans (hbw.mono hB.size)
    obtain ⟨W, hW⟩ : ∃ W, W = w1.alloc (.cells #[.int .u8 x.f0, .int .u32 x.f1, .int .u32 x.f2, .slice A3 x.f3.length d3, .slice A4 x.f4.length d4, .int .u32 x.f5.f0, .slice A6 x.f5.f1.length d6, .int .i64 x.f6, .int .i64 x.f7, .slice A9 x.f8.length d9] 30) := ⟨_, rfl⟩
    have HXR := iC.mk (show W.heap[w1.heap.size]? = some (.cells #[.int .u8 x.f0, .int .u32 x.f1, .int .u32 x.f2, .slice A3 x.f3.length d3, .slice A4 x.f4.length d4, .int .u32 x.f5.f0, .slice A6 x.f5.f1.length d6, .int .i64 x.f6, .int .i64 x.f7, .slice A9 x.f8.length d9] 30 (0, 0)) from by rw [hW]; exact iM rfl)
    rw [← hW] at hbw hb1
    have HX1 := iC.mk (iJ hb1 HXA.out)
    have HB1 := iC.mk (HBA.out.trans (hb1.mono HBA.out.size))
    have HC1 := iC.mk (Kd.C_below HC.out hb1)
    have HK1 := iC.mk ((hb1.cell (World.block_lt_of_cell? _ _ HK0.out)).trans HK0.out)
    have HV := iC.mk (hO.below hbw)
    have HLT := iC.mk (jE HXA.out)
    have HW := iC.mk hW
    have hgs : w1.heap.size + 1 = W.heap.size := by rw [hW]; simp
    clear hO hB hbw hcall hb1 HK0 HXA HBA hW
    go_upto_region 4 with fail
    rw [← HW.out]
    clear hsx
    have hsn := fun (_ : True) => J3 (a := (k8.toNat : Int)) (k := x.f1) (i := x.f2) (x3 := .slice A3 x.f3.length d3) (x4 := .slice A4 x.f4.length d4) (p := x.f6) (q := x.f7) (x7 := .slice A9 x.f8.length d9) rfl (show ((W.alloc (.cells #[.int .u8 0, .int .u32 0, .int .u32 0, .slice none 0 0, .slice none 0 0, .int .i64 0, .int .i64 0, .slice none 0 0] 51)).drew).heap[W.heap.size]? = some (.cells #[.int .u8 0, .int .u32 0, .int .u32 0, .slice none 0 0, .slice none 0 0, .int .i64 0, .int .i64 0, .slice none 0 0] 51 (0, 0)) from iM rfl) rfl rfl rfl
    have h0t : (0 : Int) < (((t.length + 1 : Nat)) : Int) := by omega
    have h0u : (0 : Nat) < t.length + 1 := by omega
    refine qH (n := 20) (S := fun w' => w'.cell? ad = some (.int .u8 (k8.toNat : Int)) ∧ w'.cell? ⟨w1.heap.size, 1, none⟩ = some (.int .u32 x.f1) ∧ w'.cell? ⟨w1.heap.size, 2, none⟩ = some (.int .u32 x.f2) ∧ w'.cell? ⟨w1.heap.size, 3, none⟩ = some (.slice A3 x.f3.length d3) ∧ w'.cell? ⟨w1.heap.size, 4, none⟩ = some (.slice A4 x.f4.length d4) ∧ w'.cell? ⟨w1.heap.size, 7, none⟩ = some (.int .i64 x.f6) ∧ w'.cell? ⟨w1.heap.size, 8, none⟩ = some (.int .i64 x.f7) ∧ w'.cell? ⟨w1.heap.size, 9, none⟩ = some (.slice A9 x.f8.length d9)) (ds := [19]) #[false, false, false, false, false, false, false, false, false, false, false, false, false, false, false, false, false, false, false, false] (by kernel_rfl) rfl rfl ⟨HK1.out, (iE HXR.out 1).trans rfl, (iE HXR.out 2).trans rfl, (iE HXR.out 3).trans rfl, (iE HXR.out 4).trans rfl, (iE HXR.out 7).trans rfl, (iE HXR.out 8).trans rfl, (iE HXR.out 9).trans rfl⟩ (fun hHeld => ?_)
    refine lZ (T := (true, [([], []), ([0], [0]), ([1], [1]), ([], []), ([3], [3]), ([], []), ([5], [5]), ([], []), ([7], [7]), ([], []), ([9], [9]), ([], []), ([11], [11]), ([], []), ([13], [13]), ([], []), ([15], [15]), ([2, 4, 6, 8, 10, 12, 14, 16], [2, 4, 6, 8, 10, 12, 14, 16]), ([], []), ([18, 17, 0, 1, 2, 3, 4, 5, 6, 7, 8, 9, 10, 11, 12, 13, 14, 15, 16, 17, 18], [17, 18])])) (B := [0, 1, 3, 0, 8, 0, 32, 0, 128, 0, 512, 0, 2048, 0, 8192, 0, 32768, 131071, 0, 524287]) (by kernel_rfl) (by kernel_rfl) (fun HT_ HW_ => ?_)
    refine jH (i := 0) (N := some 19) (v := ?_) (a' := ?_) #[true, false, false, false, false, false, false, false, false, false, false, false, false, false, false, false, false, false, false, false] rfl rfl (iZ HT_.out (by kernel_rfl)) (fun _ _ _ h => h) (Or.inl ⟨by rfl, ?_⟩) ?_ ?_
    rotate_left
    · intro w'
      go_simp
      with_reducible rfl
    rotate_left
    · simp only [Act.put, List.setIfInBounds_toArray, List.set_cons_zero, List.set_cons_succ, iU, iY]
      rfl
    refine jH (i := 1) (N := some 20) (v := ?_) (a' := ?_) #[true, true, false, false, false, false, false, false, false, false, false, false, false, false, false, false, false, false, false, false] rfl rfl (iZ HT_.out (by kernel_rfl)) (fun _ _ _ h => h) (Or.inl ⟨by rfl, ?_⟩) ?_ ?_
    rotate_left
    · intro w'
      go_simp
      with_reducible rfl
    rotate_left
    · simp only [Act.put, List.setIfInBounds_toArray, List.set_cons_zero, List.set_cons_succ, iU, iY]
      rfl
    refine jH (i := 3) (N := some 22) (v := ?_) (a' := ?_) #[true, true, false, true, false, false, false, false, false, false, false, false, false, false, false, false, false, false, false, false] rfl rfl (iZ HT_.out (by kernel_rfl)) (fun _ _ _ h => h) (Or.inl ⟨by rfl, ?_⟩) ?_ ?_
    rotate_left
    · intro w'
      go_simp
      with_reducible rfl
    rotate_left
    · simp only [Act.put, List.setIfInBounds_toArray, List.set_cons_zero, List.set_cons_succ, iU, iY]
      rfl
    refine jH (i := 5) (N := some 24) (v := ?_) (a' := ?_) #[true, true, false, true, false, true, false, false, false, false, false, false, false, false, false, false, false, false, false, false] rfl rfl (iZ HT_.out (by kernel_rfl)) (fun _ _ _ h => h) (Or.inl ⟨by rfl, ?_⟩) ?_ ?_
    rotate_left
    · intro w'
      go_simp
      with_reducible rfl
    rotate_left
    · simp only [Act.put, List.setIfInBounds_toArray, List.set_cons_zero, List.set_cons_succ, iU, iY]
      rfl
    refine jH (i := 7) (N := some 26) (v := ?_) (a' := ?_) #[true, true, false, true, false, true, false, true, false, false, false, false, false, false, false, false, false, false, false, false] rfl rfl (iZ HT_.out (by kernel_rfl)) (fun _ _ _ h => h) (Or.inl ⟨by rfl, ?_⟩) ?_ ?_
    rotate_left
    · intro w'
      go_simp
      with_reducible rfl
    rotate_left
    · simp only [Act.put, List.setIfInBounds_toArray, List.set_cons_zero, List.set_cons_succ, iU, iY]
      rfl
    refine jH (i := 9) (N := some 28) (v := ?_) (a' := ?_) #[true, true, false, true, false, true, false, true, false, true, false, false, false, false, false, false, false, false, false, false] rfl rfl (iZ HT_.out (by kernel_rfl)) (fun _ _ _ h => h) (Or.inl ⟨by rfl, ?_⟩) ?_ ?_
    rotate_left
    · intro w'
      go_simp
      with_reducible rfl
    rotate_left
    · simp only [Act.put, List.setIfInBounds_toArray, List.set_cons_zero, List.set_cons_succ, iU, iY]
      rfl
    refine jH (i := 11) (N := some 30) (v := ?_) (a' := ?_) #[true, true, false, true, false, true, false, true, false, true, false, true, false, false, false, false, false, false, false, false] rfl rfl (iZ HT_.out (by kernel_rfl)) (fun _ _ _ h => h) (Or.inl ⟨by rfl, ?_⟩) ?_ ?_
    rotate_left
    · intro w'
      go_simp
      with_reducible rfl
    rotate_left
    · simp only [Act.put, List.setIfInBounds_toArray, List.set_cons_zero, List.set_cons_succ, iU, iY]
      rfl
    refine jH (i := 13) (N := some 32) (v := ?_) (a' := ?_) #[true, true, false, true, false, true, false, true, false, true, false, true, false, true, false, false, false, false, false, false] rfl rfl (iZ HT_.out (by kernel_rfl)) (fun _ _ _ h => h) (Or.inl ⟨by rfl, ?_⟩) ?_ ?_
    rotate_left
    · intro w'
      go_simp
      with_reducible rfl
    rotate_left
    · simp only [Act.put, List.setIfInBounds_toArray, List.set_cons_zero, List.set_cons_succ, iU, iY]
      rfl
    refine jH (i := 15) (N := some 34) (v := ?_) (a' := ?_) #[true, true, false, true, false, true, false, true, false, true, false, true, false, true, false, true, false, false, false, false] rfl rfl (iZ HT_.out (by kernel_rfl)) (fun _ _ _ h => h) (Or.inl ⟨by rfl, ?_⟩) ?_ ?_
    rotate_left
    · intro w'
      go_simp
      with_reducible rfl
    rotate_left
    · simp only [Act.put, List.setIfInBounds_toArray, List.set_cons_zero, List.set_cons_succ, iU, iY]
      rfl
    refine lX (i := 2) (N := some 21) (v := ?_) (a' := ?_) #[true, true, true, true, false, true, false, true, false, true, false, true, false, true, false, true, false, false, false, false] rfl rfl (jL HT_.out HW_.out (by kernel_rfl)) (fun _ _ _ h => h) (Or.inl ⟨by rfl, ?_⟩) hHeld ?_ ?_
    rotate_left
    · rintro w' ⟨s0, s1, s2, s3, s4, s5, s6, s7⟩
      go_simp
      with_reducible rfl
    rotate_left
    · simp only [Act.put, List.setIfInBounds_toArray, List.set_cons_zero, List.set_cons_succ, iU, iY]
      rfl
    refine lX (i := 4) (N := some 23) (v := ?_) (a' := ?_) #[true, true, true, true, true, true, false, true, false, true, false, true, false, true, false, true, false, false, false, false] rfl rfl (jL HT_.out HW_.out (by kernel_rfl)) (fun _ _ _ h => h) (Or.inl ⟨by rfl, ?_⟩) hHeld ?_ ?_
    rotate_left
    · rintro w' ⟨s0, s1, s2, s3, s4, s5, s6, s7⟩
      go_simp
      with_reducible rfl
    rotate_left
    · simp only [Act.put, List.setIfInBounds_toArray, List.set_cons_zero, List.set_cons_succ, iU, iY]
      rfl
    refine lX (i := 6) (N := some 25) (v := ?_) (a' := ?_) #[true, true, true, true, true, true, true, true, false, true, false, true, false, true, false, true, false, false, false, false] rfl rfl (jL HT_.out HW_.out (by kernel_rfl)) (fun _ _ _ h => h) (Or.inl ⟨by rfl, ?_⟩) hHeld ?_ ?_
    rotate_left
    · rintro w' ⟨s0, s1, s2, s3, s4, s5, s6, s7⟩
      go_simp
      with_reducible rfl
    rotate_left
    · simp only [Act.put, List.setIfInBounds_toArray, List.set_cons_zero, List.set_cons_succ, iU, iY]
      rfl
    refine lX (i := 8) (N := some 27) (v := ?_) (a' := ?_) #[true, true, true, true, true, true, true, true, true, true, false, true, false, true, false, true, false, false, false, false] rfl rfl (jL HT_.out HW_.out (by kernel_rfl)) (fun _ _ _ h => h) (Or.inl ⟨by rfl, ?_⟩) hHeld ?_ ?_
    rotate_left
    · rintro w' ⟨s0, s1, s2, s3, s4, s5, s6, s7⟩
      go_simp
      with_reducible rfl
    rotate_left
    · simp only [Act.put, List.setIfInBounds_toArray, List.set_cons_zero, List.set_cons_succ, iU, iY]
      rfl
    refine lX (i := 10) (N := some 29) (v := ?_) (a' := ?_) #[true, true, true, true, true, true, true, true, true, true, true, true, false, true, false, true, false, false, false, false] rfl rfl (jL HT_.out HW_.out (by kernel_rfl)) (fun _ _ _ h => h) (Or.inl ⟨by rfl, ?_⟩) hHeld ?_ ?_
    rotate_left
    · rintro w' ⟨s0, s1, s2, s3, s4, s5, s6, s7⟩
      go_simp
      with_reducible rfl
    rotate_left
    · simp only [Act.put, List.setIfInBounds_toArray, List.set_cons_zero, List.set_cons_succ, iU, iY]
      rfl
    refine lX (i := 12) (N := some 31) (v := ?_) (a' := ?_) #[true, true, true, true, true, true, true, true, true, true, true, true, true, true, false, true, false, false, false, false] rfl rfl (jL HT_.out HW_.out (by kernel_rfl)) (fun _ _ _ h => h) (Or.inl ⟨by rfl, ?_⟩) hHeld ?_ ?_
    rotate_left
    · rintro w' ⟨s0, s1, s2, s3, s4, s5, s6, s7⟩
      go_simp
      with_reducible rfl
    rotate_left
    · simp only [Act.put, List.setIfInBounds_toArray, List.set_cons_zero, List.set_cons_succ, iU, iY]
      rfl
    refine lX (i := 14) (N := some 33) (v := ?_) (a' := ?_) #[true, true, true, true, true, true, true, true, true, true, true, true, true, true, true, true, false, false, false, false] rfl rfl (jL HT_.out HW_.out (by kernel_rfl)) (fun _ _ _ h => h) (Or.inl ⟨by rfl, ?_⟩) hHeld ?_ ?_
    rotate_left
    · rintro w' ⟨s0, s1, s2, s3, s4, s5, s6, s7⟩
      go_simp
      with_reducible rfl
    rotate_left
    · simp only [Act.put, List.setIfInBounds_toArray, List.set_cons_zero, List.set_cons_succ, iU, iY]
      rfl
    refine lX (i := 16) (N := some 35) (v := ?_) (a' := ?_) #[true, true, true, true, true, true, true, true, true, true, true, true, true, true, true, true, true, false, false, false] rfl rfl (jL HT_.out HW_.out (by kernel_rfl)) (fun _ _ _ h => h) (Or.inl ⟨by rfl, ?_⟩) hHeld ?_ ?_
    rotate_left
    · rintro w' ⟨s0, s1, s2, s3, s4, s5, s6, s7⟩
      go_simp
      with_reducible rfl
    rotate_left
    · simp only [Act.put, List.setIfInBounds_toArray, List.set_cons_zero, List.set_cons_succ, iU, iY]
      rfl
    refine jH (i := 17) (N := some 36) (v := ?_) (a' := ?_) #[true, true, true, true, true, true, true, true, true, true, true, true, true, true, true, true, true, true, false, false] rfl rfl (iZ HT_.out (by kernel_rfl)) (fun _ _ _ h => h) (Or.inl ⟨by rfl, ?_⟩) ?_ ?_
    rotate_left
    · intro w'
      go_simp
      with_reducible rfl
    rotate_left
    · simp only [Act.put, List.setIfInBounds_toArray, List.set_cons_zero, List.set_cons_succ, iU, iY]
      rfl
    refine one_ (i := 18) (N := some 6) #[true, true, true, true, true, true, true, true, true, true, true, true, true, true, true, true, true, true, true, false] rfl rfl (lG HT_.out (by kernel_rfl)) (by decide) (fun K hK => ?_)
    refine jU (w1 := ?_) (v := ?_) (by rfl) rfl ?_ ?_
    rotate_left 2
    · go_simp
      constructor
      · rfl
      · rfl
    refine hK.out _ _ ⟨(lW (w := W.drew) HK1.out), (lW (w := W.drew) ((iE HXR.out 1).trans rfl)), (lW (w := W.drew) ((iE HXR.out 2).trans rfl)), (lW (w := W.drew) ((iE HXR.out 3).trans rfl)), (lW (w := W.drew) ((iE HXR.out 4).trans rfl)), (lW (w := W.drew) ((iE HXR.out 7).trans rfl)), (lW (w := W.drew) ((iE HXR.out 8).trans rfl)), (lW (w := W.drew) ((iE HXR.out 9).trans rfl))⟩ (fun hHeld => ?_)
    clear hK K
    refine lK (a' := ?_) ?_ ?_
    rotate_left
    · show Act.put _ (some 6) _ = _
      simp only [Act.put, List.setIfInBounds_toArray, List.set_cons_zero, List.set_cons_succ, iU, iY]
      rfl
    refine TY (i := 19) (N := none) #[true, true, true, true, true, true, true, true, true, true, true, true, true, true, true, true, true, true, true, true] rfl rfl (lG HT_.out (by kernel_rfl)) (by decide) (fun K hK => ?_)
    refine TC (w1 := ?_) (by rfl) rfl ?_ ?_
    rotate_left
    · go_simp
      rfl
    refine hK.out _ _ ?_
    clear hK K
    refine yS (oP HT_.out (by kernel_rfl)) ?_
    have hbW : Below W.heap.size W (((W.alloc (.cells #[.int .u8 0, .int .u32 0, .int .u32 0, .slice none 0 0, .slice none 0 0, .int .i64 0, .int .i64 0, .slice none 0 0] 51)).drew).setRow W.heap.size #[.int .u8 (k8.toNat : Int), .int .u32 x.f1, .int .u32 x.f2, .slice A3 x.f3.length d3, .slice A4 x.f4.length d4, .int .i64 x.f6, .int .i64 x.f7, .slice A9 x.f8.length d9]) := below_grown (g := W.heap.size) (iI (iF (Below.refl W.heap.size W) _)) (jA _ _ _) (Nat.le_refl _) (Nat.le_refl _)
    have hm2 : (((W.alloc (.cells #[.int .u8 0, .int .u32 0, .int .u32 0, .slice none 0 0, .slice none 0 0, .int .i64 0, .int .i64 0, .slice none 0 0] 51)).drew).setRow W.heap.size #[.int .u8 (k8.toNat : Int), .int .u32 x.f1, .int .u32 x.f2, .slice A3 x.f3.length d3, .slice A4 x.f4.length d4, .int .i64 x.f6, .int .i64 x.f7, .slice A9 x.f8.length d9]).heap[W.heap.size]? = some (.cells #[.int .u8 (k8.toNat : Int), .int .u32 x.f1, .int .u32 x.f2, .slice A3 x.f3.length d3, .slice A4 x.f4.length d4, .int .i64 x.f6, .int .i64 x.f7, .slice A9 x.f8.length d9] 51 (0, 0)) := setRow_heap _ _ _ _ _ _ (iM rfl)
    obtain ⟨W2, hW2⟩ : ∃ W2, W2 = ((W.alloc (.cells #[.int .u8 0, .int .u32 0, .int .u32 0, .slice none 0 0, .slice none 0 0, .int .i64 0, .int .i64 0, .slice none 0 0] 51)).drew).setRow W.heap.size #[.int .u8 (k8.toNat : Int), .int .u32 x.f1, .int .u32 x.f2, .slice A3 x.f3.length d3, .slice A4 x.f4.length d4, .int .i64 x.f6, .int .i64 x.f7, .slice A9 x.f8.length d9] := ⟨_, rfl⟩
    rw [← hW2] at hbW hm2 ⊢
    have HM2 := iC.mk hm2
    have HX2 := iC.mk (iJ hbW HX1.out)
    have HB2 := iC.mk (iH HB1.out hbW)
    have HC3 := iC.mk (Kd.C_below HC1.out hbW)
    have HV2 := iC.mk (HV.out.below hbW)
    clear hbW hm2 hW2 hsn hHeld HT_ HW_ HX1 HB1 HC1 HK1 HXR hgs HW HV
    obtain ⟨⟨E1, E2⟩, hEE⟩ : ∃ E : List Int × Int, encM (msgR k8.toNat x) = E := ⟨_, rfl⟩
    have hcall := IY (msgR k8.toNat x) A3 d3 A4 d4 A9 d9 W2 (HV2.out.mlies _) hEE
    have HEE := iC.mk hEE
    clear hEE
    obtain ⟨z0, z1, z2, z3, z4, z5, z6, z7, y0, y1, y2, y3, y4, y5, y6, y7⟩ := eight HM2.out
    go_wp2_with fail
    go_at_call 29
    refine hcall.mono ?_
    rintro e w4 ⟨v0, rfl, h0, hb4⟩
    dsimp only at h0
    dsimp only
    obtain ⟨A0, c0, rfl⟩ := Kd.R_slice h0
    obtain ⟨_, q0, C0⟩ := Kd.R_reads' h0
    have HM4 := iC.mk (iJ hb4 HM2.out)
    have HX4 := iC.mk (iJ hb4 HX2.out)
    have HB4 := iC.mk (iH HB2.out hb4)
    have HV4 := iC.mk (HV2.out.below hb4)
    have hC4 := nO (Kd.C_below HC3.out hb4)
    rw [show (k8 :: t).length = t.length + 1 from rfl] at hC4
    have hcv1 := fun (_ : True) => Kd.C_string (P := Tryd.prog) (c := c0) Tryd.underlying33 Tryd.underlying5 Tryd.underlying9 C0
    have hcv2 := fun (_ : True) => Kd.C_string (P := Tryd.prog) (c := c) Tryd.underlying33 Tryd.underlying5 Tryd.underlying9 hC4
    obtain ⟨n1, hn1⟩ : ∃ n, n = E1.length := ⟨_, rfl⟩
    rw [← hn1] at hcv1 ⊢
    clear hn1
    have hst := fun (_ : True) => pX rfl HX4.out
    have hcs := vG (msgR k8.toNat x)
    rw [HEE.out] at hcs
    have HCS := iC.mk hcs
    clear hcall hb4 h0 HM2 HX2 HB2 HC3 HV2 z0 z1 z2 z3 z4 z5 z6 z7 y0 y1 y2 y3 y4 y5 y6 y7 C0 q0 hC4 hcs
    by_cases hE : E = 0
    · subst hE
      have HR := iC.mk (JM k8 t x HD.out)
      have hcs := HCS.out
      clear HCS
      rcases hcs with hc2 | hc2 | ⟨hsd, hc2⟩
      · obtain ⟨rfl, rfl⟩ := Prod.mk.inj hc2
        have HDM := iC.mk (show decM (k8 :: t) = (kT, 160) from HR.out.trans (if_neg (by rw [HEE.out]; intro h; injection h with _ h2; cases h2)))
        clear hc2
        go_wp2
        ((try simp only [Exit.inBlock, Exit.then]); exact bodyPost_ret (pM rfl rfl rfl (setRow_heap _ _ _ _ _ _ HX4.out) rfl) rfl (by rw [HDM.out]; exact rD w _ HB4.out 160))
      · obtain ⟨rfl, rfl⟩ := Prod.mk.inj hc2
        have HDM := iC.mk (show decM (k8 :: t) = (kT, 160) from HR.out.trans (if_neg (by rw [HEE.out]; intro h; injection h with _ h2; cases h2)))
        clear hc2
        go_wp2
        ((try simp only [Exit.inBlock, Exit.then]); exact bodyPost_ret (pM rfl rfl rfl (setRow_heap _ _ _ _ _ _ HX4.out) rfl) rfl (by rw [HDM.out]; exact rD w _ HB4.out 160))
      · obtain ⟨rfl, rfl⟩ := Prod.mk.inj hc2
        have heq := oD (k8 :: recE (recM (msgR k8.toNat x))) (k8 :: t)
        have hnm : nums (k8 :: recE (recM (msgR k8.toNat x))) = (msgR k8.toNat x).f0 :: nums (recE (recM (msgR k8.toNat x))) := rfl
        rw [hnm] at heq
        obtain ⟨s1, hs1⟩ : ∃ s, s = strOfNums ((msgR k8.toNat x).f0 :: nums (recE (recM (msgR k8.toNat x)))) := ⟨_, rfl⟩
        obtain ⟨s2, hs2⟩ : ∃ s, s = strOfNums (nums (k8 :: t)) := ⟨_, rfl⟩
        rw [← hs1] at hcv1 heq
        rw [← hs2] at hcv2 heq
        clear hs1 hs2 hc2 hsd
        by_cases hq : k8 :: recE (recM (msgR k8.toNat x)) = k8 :: t
        · have HDM := iC.mk (show decM (k8 :: t) = (msgR k8.toNat x, 0) from HR.out.trans (if_pos (by rw [HEE.out, ← hq]; rfl)))
          have hqq : (s1.toList == s2.toList) = true := by rw [heq]; exact decide_eq_true hq
          obtain ⟨z0, z1, z2, z3, z4, z5, z6, z7, y0, y1, y2, y3, y4, y5, y6, y7⟩ := eight HM4.out
          have hst := fun (_ : True) => J3 (a := (k8.toNat : Int)) (k := x.f1) (i := x.f2) (x3 := .slice A3 x.f3.length d3) (x4 := .slice A4 x.f4.length d4) (p := x.f6) (q := x.f7) (x7 := .slice A9 x.f8.length d9) rfl HX4.out rfl rfl rfl
          clear heq hq
          go_wp2
          ((try simp only [Exit.inBlock, Exit.then]); refine bodyPost_ret (pM rfl rfl rfl (setRow_heap _ _ _ _ _ _ HX4.out) rfl) rfl ?_)
          rw [HDM.out]
          exact ⟨A3, d3, A4, d4, A9, d9, rfl, (HV4.out.keep (jA _ w.heap.size _) HLT.out).mlies _, below_grown HB4.out (jA _ w.heap.size _) (Nat.le_refl _) (Nat.le_refl _)⟩
        · have HDM := iC.mk (show decM (k8 :: t) = (kT, 160) from HR.out.trans (if_neg (by rw [HEE.out]; intro h; injection h with h1 _; exact hq (xI h1))))
          have hqq : (s1.toList == s2.toList) = false := by rw [heq]; exact decide_eq_false hq
          clear heq hq
          go_wp2
          ((try simp only [Exit.inBlock, Exit.then]); exact bodyPost_ret (pM rfl rfl rfl (setRow_heap _ _ _ _ _ _ HX4.out) rfl) rfl (by rw [HDM.out]; exact rD w _ HB4.out 160))
    · have HDM := iC.mk (NG k8 t (by rw [HD.out]; exact hE))
      clear HCS HEE
      go_wp2
      ((try simp only [Exit.inBlock, Exit.then]); exact bodyPost_ret (pM rfl rfl rfl (setRow_heap _ _ _ _ _ _ HX4.out) rfl) rfl (by rw [HDM.out]; exact rD w _ HB4.out 160))
end Go.Proofs.YtgfkgppomaapiaaDoor.K
end

section
namespace Go.Proofs.YtgfkgppomaapiaaDoor.K
open RowKit YtgfkgppomaapiaaDoorW.PrintWords YtgfkgppomaapiaaDoorW.PrintLast YtgfkgppomaapiaaDoorW.PrintMore My
theorem Q7 (l : List UInt8) : SLen (recR (decM l).1) := by
  rcases PV l with h | ⟨m, h, he, _, _⟩
  · rw [h]; exact RS
  · rw [h]
    have hs : lU m = true := by
      rcases vG m with hc | hc | ⟨hs, _⟩
      · rw [he] at hc; injection hc with _ h2; cases h2
      · rw [he] at hc; injection hc with _ h2; cases h2
      · exact hs
    have hr : 1 ≤ m.f0 ∧ m.f0 ≤ 11 := by
      by_cases hq : m.f0 < 1 ∨ 11 < m.f0
      · rw [yE hq] at hs; cases hs
      · omega
    show SLen (recR m)
    rw [MB hr]
    unfold lU at hs
    rw [Bool.and_eq_true] at hs
    exact NY _ hs.2
theorem UQ (l : List UInt8) : 0 ≤ (decM l).2 ∧ (decM l).2 ≤ 160 := by
  rcases PV l with h | ⟨m, h, _⟩
  · rw [h]; exact ⟨(by decide : (0 : Int) ≤ 160), Int.le_refl _⟩
  · rw [h]; exact ⟨Int.le_refl 0, (by decide : (0 : Int) ≤ 160)⟩
attribute [-go_sem] Instr.build Instr.storeAt
set_option maxRecDepth 20000 in
set_option maxHeartbeats 8000000 in
theorem yV (A : Option Addr) (c : Nat) (l : List UInt8) (w : World) (hCi : (Kd.int .u8).C w A l.length (nums l)) (hc : l.length ≤ c) :
    Calls Tryd.prog 7 #[.slice A l.length c] w fun e w' => e = .returned (.bool true) ∧ Below w.heap.size w w' := by
  have HC := iC.mk hCi
  clear hCi
  by_cases hl : (l.length : Int) > 3000
  · go_enter Tryd.func7, Tryd.ntmps7
    go_wp2_with fail
    go_at_call 25
    refine (zI _).mono ?_
    rintro e w1 ⟨rfl, hb1⟩
    go_wp2
    go_ret
    exact ⟨rfl, hb1⟩
  · obtain ⟨⟨x, E⟩, hD⟩ : ∃ D, decM l = D := ⟨_, rfl⟩
    have hdec := fun w h => uA A c l w h hc
    have hrdec := fun w h => IV A c l w h hc
    have hsl := Q7 l
    have her := UQ l
    rw [hD] at hdec hrdec hsl her
    have HS := iC.mk (TN x hsl)
    have hE0 : 0 ≤ E := her.1
    have hE1 : E ≤ 160 := her.2
    have hwE : wrap64 E = E := by unfold wrap64; omega
    clear hD her hsl
    go_enter Tryd.func7, Tryd.ntmps7
    go_wp2_with fail
    go_at_call 25
    refine (zI _).mono ?_
    rintro e w1 ⟨rfl, hb1⟩
    have HB1 := iC.mk hb1
    have hcall := hdec w1 (Kd.C_below HC.out hb1)
    clear hb1 hdec
    go_wp2_with fail
    go_at_call 32
    refine hcall.mono ?_
    rintro e w2 ⟨A3, a3, A4, a4, A9, a9, rfl, hL, hb2⟩
    dsimp only at hL
    dsimp only
    have hsx := fun (_ : True) => run_storeAt_new (P := Tryd.prog) w2 51 #[.int .u8 0, .int .u32 0, .int .u32 0, .slice none 0 0, .slice none 0 0, .int .i64 0, .int .i64 0, .slice none 0 0] #[.int .u8 x.f0, .int .u32 x.f1, .int .u32 x.f2, .slice A3 x.f3.length a3, .slice A4 x.f4.length a4, .int .i64 x.f5, .int .i64 x.f6, .slice A9 x.f7.length a9] (by kernel_rfl) rfl (by simp [Value.oneCell'])
    obtain ⟨W2, hW2⟩ : ∃ W, W = w2.alloc (.cells #[.int .u8 x.f0, .int .u32 x.f1, .int .u32 x.f2, .slice A3 x.f3.length a3, .slice A4 x.f4.length a4, .int .i64 x.f5, .int .i64 x.f6, .slice A9 x.f7.length a9] 51) := ⟨_, rfl⟩
    have hbw : Below w2.heap.size w2 W2 := by rw [hW2]; exact iF (Below.refl _ _) _
    have HX2 := iC.mk (show W2.heap[w2.heap.size]? = some (.cells #[.int .u8 x.f0, .int .u32 x.f1, .int .u32 x.f2, .slice A3 x.f3.length a3, .slice A4 x.f4.length a4, .int .i64 x.f5, .int .i64 x.f6, .slice A9 x.f7.length a9] 51 (0, 0)) from by rw [hW2]; exact iM rfl)
    have HL2 := iC.mk (hL.below hbw)
    have HB2 := iC.mk (iH (iH HB1.out hb2) hbw)
    have HW2 := iC.mk hW2
    clear hcall hL hb2 hbw hW2 HB1
    go_upto_region 4 with fail
    rw [← HW2.out]
    clear hsx HW2
    have hcall := hrdec W2 (Kd.C_below HC.out HB2.out)
    clear hrdec HC
    go_wp2_with fail
    go_at_call 33
    refine hcall.mono ?_
    rintro e w3 ⟨B3, b3, B4, b4, B9, b9, rfl, hL, hb3⟩
    dsimp only at hL
    dsimp only
    have hsx := fun (_ : True) => run_storeAt_new (P := Tryd.prog) w3 51 #[.int .u8 0, .int .u32 0, .int .u32 0, .slice none 0 0, .slice none 0 0, .int .i64 0, .int .i64 0, .slice none 0 0] #[.int .u8 x.f0, .int .u32 x.f1, .int .u32 x.f2, .slice B3 x.f3.length b3, .slice B4 x.f4.length b4, .int .i64 x.f5, .int .i64 x.f6, .slice B9 x.f7.length b9] (by kernel_rfl) rfl (by simp [Value.oneCell'])
    obtain ⟨W3, hW3⟩ : ∃ W, W = w3.alloc (.cells #[.int .u8 x.f0, .int .u32 x.f1, .int .u32 x.f2, .slice B3 x.f3.length b3, .slice B4 x.f4.length b4, .int .i64 x.f5, .int .i64 x.f6, .slice B9 x.f7.length b9] 51) := ⟨_, rfl⟩
    have hbw : Below w3.heap.size w3 W3 := by rw [hW3]; exact iF (Below.refl _ _) _
    have HY3 := iC.mk (show W3.heap[w3.heap.size]? = some (.cells #[.int .u8 x.f0, .int .u32 x.f1, .int .u32 x.f2, .slice B3 x.f3.length b3, .slice B4 x.f4.length b4, .int .i64 x.f5, .int .i64 x.f6, .slice B9 x.f7.length b9] 51 (0, 0)) from by rw [hW3]; exact iM rfl)
    have HX3 := iC.mk (iJ hbw (iJ hb3 HX2.out))
    have HM3 := iC.mk (hL.below hbw)
    have HL3 := iC.mk ((HL2.out.below hb3).below hbw)
    have HB3 := iC.mk (iH (iH HB2.out hb3) hbw)
    have HW3 := iC.mk hW3
    clear hcall hL hb3 hbw hW3 HB2 HX2 HL2
    go_upto_region 5 with fail
    rw [← HW3.out]
    clear hsx HW3
    have hcall := UM x x rfl A3 a3 A4 a4 A9 a9 B3 b3 B4 b4 B9 b9 W3 HL3.out HM3.out HS.out
    obtain ⟨mz0, mz1, mz2, mz3, mz4, mz5, mz6, mz7, my0, my1, my2, my3, my4, my5, my6, my7⟩ := eight (HX3.out)
    obtain ⟨nz0, nz1, nz2, nz3, nz4, nz5, nz6, nz7, ny0, ny1, ny2, ny3, ny4, ny5, ny6, ny7⟩ := eight (HY3.out)
    clear my0 my1 my2 my3 my4 my5 my6 my7 ny0 ny1 ny2 ny3 ny4 ny5 ny6 ny7
    go_wp2_with fail
    go_at_call 34
    refine hcall.mono ?_
    rintro e w4 ⟨rfl, hb4⟩
    clear hcall
    go_wp2
    go_ret
    exact ⟨by first | rfl | simp, iH HB3.out hb4⟩
theorem msgDecodes_walk (A : Option Addr) (c : Nat) (l : List Int) (W : World) (hC : (Kd.int .u8).C W A l.length l) (hc : l.length ≤ c) (hw : ∀ x ∈ l, 0 ≤ x ∧ x < 256) :
    Calls Tryd.prog 7 #[.slice A l.length c] W fun e w' => e = .returned (.bool true) ∧ Below W.heap.size W w' := by
  have hn := VG l hw
  have hlen : (bytesOf l).length = l.length := by unfold bytesOf; simp
  have := yV A c (bytesOf l) W (by rw [hn, hlen]; exact hC) (by omega)
  rwa [hlen] at this
end Go.Proofs.YtgfkgppomaapiaaDoor.K
end
