/- Parts of the proof, one behind the other: RoH, K2, RoI, RoJ, CoN, CoL, K8, K35, K36, K38, K39, K40, K41, SpQ0, SpR, SpS, SpT, SpU, SpV, SpE, K3, K4. -/
import Derived.Test.YtjppookmjdaplaaQCoordOnce3
set_option linter.unusedVariables false
set_option linter.unusedSimpArgs false
section
namespace Go.Proofs.Ytjppookmjdaplaa.K
open Go Go.RowKit Go.Maps Go.Proofs.YtjppookmjdaplaaW.PrintWords Go.Proofs.YtjppookmjdaplaaW.PrintLast Go.Proofs.YtjppookmjdaplaaW.PrintMore Go.Proofs.Ytjppookmjdaplaa.My
def CS.at_ (s : CS) (id : Int) : CS := ⟨s.L, s.last, id, s.begun, s.ep, s.sp⟩
def CS.zero (s : CS) : CS := ⟨s.L, s.last, s.starts, 0, s.ep, s.sp⟩
def pY (p : Int × CB) : Bool := decide (p.2.st ≠ 1)
set_option maxRecDepth 20000 in
set_option maxHeartbeats 8000000 in
theorem yD {w : World} {B rc : Nat} {s : CS} (h : Ro w B rc s) (hn : s.L.length ≤ 1000000) {id t : Int} {v0 v3 v4 v5 v6 v7 v8 v9 : Value} :
    Calls Try.prog 83 #[.pointer (some ⟨rc, 0, none⟩), .agg #[v0, .int .u32 id, .int .u32 t, v3, v4, v5, v6, v7, v8, v9]] w fun e w' => e = .returned (.int .i64 (s.startE id)) ∧ Ro w' B rc (s.start id) ∧ RoFr B w w' := by
  obtain ⟨W, hW⟩ : ∃ W, W = w.alloc (.cells #[v0, .int .u32 id, .int .u32 t, v3, v4, v5, v6, v7, v8, v9] 48) := ⟨_, rfl⟩
  have hb : Below w.heap.size w W := by rw [hW]; exact iF (Below.refl _ _) _
  have hX : W.heap[w.heap.size]? = some (.cells #[v0, .int .u32 id, .int .u32 t, v3, v4, v5, v6, v7, v8, v9] 48 (0, 0)) := by rw [hW]; exact jD rfl
  have h1 := h.below hb
  obtain ⟨A0, q0, A0', k0', g0, _, _⟩ := h1.blk
  have r1 := (iD hX 1).trans (show _ = some (Value.int .u32 id) from rfl)
  have c2 := (iD g0 2).trans (show _ = some (Value.int .u32 s.starts) from rfl)
  have c3 := (iD g0 3).trans (show _ = some (Value.int .u32 s.begun) from rfl)
  have f2 := iE g0 2
  have f3 := iE g0 3
  have HW := iC.mk hW
  have HX := iC.mk hX
  have H1 := iC.mk h1
  have HF := iC.mk (RoFr.of_below hb h.Ble)
  have HNL := iC.mk hn
  clear h hn hb hX h1 hW g0
  go_enter Try.func83, Try.ntmps83
  go_wp2_with fail
  rw [← HW.out]
  by_cases hle : id ≤ s.starts
  · have hd : decide (id ≤ s.starts) = true := decide_eq_true hle
    have HE := iC.mk (And.intro (show s.startE id = 140 from by unfold CS.startE; rw [if_pos (.inl hle)]) (show s.start id = s from by unfold CS.start; rw [if_pos (.inl hle)]))
    go_upto_region 1 with fail
    refine jQ (n := 12) (S := fun w' => w'.cell? ⟨w.heap.size, 1, none⟩ = some (.int .u32 id) ∧ w'.cell? ⟨rc, 2, none⟩ = some (.int .u32 s.starts)) (ds := []) #[false, false, false, false, false, false, false, false, false, false, false, false] (by kernel_rfl) rfl rfl ⟨r1, c2⟩ (fun hHeld => ?_)
    refine jE (T := (true, [([], []), ([0], [0]), ([], []), ([2], [2]), ([3], [3]), ([4], [4]), ([1, 5], [1, 5]), ([6], [6]), ([7], [7]), ([8, 7], [7, 8]), ([9, 7], [7, 9]), ([7, 10], [7, 10])])) (B := [0, 1, 0, 4, 12, 28, 63, 127, 255, 511, 1023, 2047]) (by kernel_rfl) (by kernel_rfl) (fun HT_ HW_ => ?_)
    refine iM (i := 0) (N := some 7) (v := ?_) (a' := ?_) #[true, false, false, false, false, false, false, false, false, false, false, false] rfl rfl (iI HT_.out (by kernel_rfl)) (fun _ _ _ h => h) (Or.inl ⟨by rfl, ?_⟩) ?_ ?_
    rotate_left
    · intro w'
      go_simp
      with_reducible rfl
    rotate_left
    · simp only [Act.put, List.setIfInBounds_toArray, List.set_cons_zero, List.set_cons_succ, iJ, iK]
      rfl
    refine iM (i := 2) (N := some 9) (v := ?_) (a' := ?_) #[true, false, true, false, false, false, false, false, false, false, false, false] rfl rfl (iI HT_.out (by kernel_rfl)) (fun _ _ _ h => h) (Or.inl ⟨by rfl, ?_⟩) ?_ ?_
    rotate_left
    · intro w'
      go_simp
      with_reducible rfl
    rotate_left
    · simp only [Act.put, List.setIfInBounds_toArray, List.set_cons_zero, List.set_cons_succ, iJ, iK]
      rfl
    refine iM (i := 3) (N := some 10) (v := ?_) (a' := ?_) #[true, false, true, true, false, false, false, false, false, false, false, false] rfl rfl (iI HT_.out (by kernel_rfl)) (fun _ _ _ h => h) (Or.inl ⟨by rfl, ?_⟩) ?_ ?_
    rotate_left
    · intro w'
      go_simp
      with_reducible rfl
    rotate_left
    · simp only [Act.put, List.setIfInBounds_toArray, List.set_cons_zero, List.set_cons_succ, iJ, iK]
      rfl
    refine iM (i := 4) (N := some 11) (v := ?_) (a' := ?_) #[true, false, true, true, true, false, false, false, false, false, false, false] rfl rfl (iI HT_.out (by kernel_rfl)) (fun _ _ _ h => h) (Or.inl ⟨by rfl, ?_⟩) ?_ ?_
    rotate_left
    · intro w'
      go_simp
      with_reducible rfl
    rotate_left
    · simp only [Act.put, List.setIfInBounds_toArray, List.set_cons_zero, List.set_cons_succ, iJ, iK]
      rfl
    refine jH (i := 1) (N := some 8) (v := ?_) (a' := ?_) #[true, true, true, true, true, false, false, false, false, false, false, false] rfl rfl (iT HT_.out HW_.out (by kernel_rfl)) (fun _ _ _ h => h) (Or.inl ⟨by rfl, ?_⟩) hHeld ?_ ?_
    rotate_left
    · rintro w' ⟨s0, s1⟩
      go_simp
      with_reducible rfl
    rotate_left
    · simp only [Act.put, List.setIfInBounds_toArray, List.set_cons_zero, List.set_cons_succ, iJ, iK]
      rfl
    refine jH (i := 5) (N := some 12) (v := ?_) (a' := ?_) #[true, true, true, true, true, true, false, false, false, false, false, false] rfl rfl (iT HT_.out HW_.out (by kernel_rfl)) (fun _ _ _ h => h) (Or.inl ⟨by rfl, ?_⟩) hHeld ?_ ?_
    rotate_left
    · rintro w' ⟨s0, s1⟩
      go_simp
      with_reducible rfl
    rotate_left
    · simp only [Act.put, List.setIfInBounds_toArray, List.set_cons_zero, List.set_cons_succ, iJ, iK]
      rfl
    refine iM (i := 6) (N := some 13) (v := ?_) (a' := ?_) #[true, true, true, true, true, true, true, false, false, false, false, false] rfl rfl (iI HT_.out (by kernel_rfl)) (fun _ _ _ h => h) (Or.inl ⟨by rfl, ?_⟩) ?_ ?_
    rotate_left
    · intro w'
      go_simp
      with_reducible rfl
    rotate_left
    · simp only [Act.put, List.setIfInBounds_toArray, List.set_cons_zero, List.set_cons_succ, iJ, iK]
      rfl
    refine iM (i := 7) (N := some 14) (v := ?_) (a' := ?_) #[true, true, true, true, true, true, true, true, false, false, false, false] rfl rfl (iI HT_.out (by kernel_rfl)) (fun _ _ _ h => h) (Or.inl ⟨by rfl, ?_⟩) ?_ ?_
    rotate_left
    · intro w'
      go_simp
      with_reducible rfl
    rotate_left
    · simp only [Act.put, List.setIfInBounds_toArray, List.set_cons_zero, List.set_cons_succ, iJ, iK]
      rfl
    refine iM (i := 8) (N := some 15) (v := undef) (a' := ?_) #[true, true, true, true, true, true, true, true, true, false, false, false] rfl rfl (iI HT_.out (by kernel_rfl)) (fun _ _ _ h => h) (Or.inr ⟨by rfl, rfl⟩) ?_ ?_
    rotate_left
    · simp only [Act.put, List.setIfInBounds_toArray, List.set_cons_zero, List.set_cons_succ, iJ, iK]
      rfl
    refine iM (i := 9) (N := some 16) (v := undef) (a' := ?_) #[true, true, true, true, true, true, true, true, true, true, false, false] rfl rfl (iI HT_.out (by kernel_rfl)) (fun _ _ _ h => h) (Or.inr ⟨by rfl, rfl⟩) ?_ ?_
    rotate_left
    · simp only [Act.put, List.setIfInBounds_toArray, List.set_cons_zero, List.set_cons_succ, iJ, iK]
      rfl
    refine iM (i := 10) (N := some 17) (v := undef) (a' := ?_) #[true, true, true, true, true, true, true, true, true, true, true, false] rfl rfl (iI HT_.out (by kernel_rfl)) (fun _ _ _ h => h) (Or.inr ⟨by rfl, rfl⟩) ?_ ?_
    rotate_left
    · simp only [Act.put, List.setIfInBounds_toArray, List.set_cons_zero, List.set_cons_succ, iJ, iK]
      rfl
    refine iM (i := 11) (N := some 18) (v := ?_) (a' := ?_) #[true, true, true, true, true, true, true, true, true, true, true, true] rfl rfl (iI HT_.out (by kernel_rfl)) (fun _ _ _ h => h) (Or.inl ⟨by rfl, ?_⟩) ?_ ?_
    rotate_left
    · intro w'
      go_simp
      with_reducible rfl
    rotate_left
    · simp only [Act.put, List.setIfInBounds_toArray, List.set_cons_zero, List.set_cons_succ, iJ, iK]
      rfl
    refine kP (jM HT_.out (by kernel_rfl)) ?_
    go_wp2
    go_ret
    rw [HE.out.1, HE.out.2]
    exact ⟨rfl, H1.out.below (iP (Below.refl _ _)), HF.out.trans (RoFr.of_below (iP (Below.refl _ _)) H1.out.Ble)⟩
  · have hd : decide (id ≤ s.starts) = false := decide_eq_false hle
    go_upto_region 1 with fail
    refine jQ (n := 12) (S := fun w' => w'.cell? ⟨w.heap.size, 1, none⟩ = some (.int .u32 id) ∧ w'.cell? ⟨rc, 2, none⟩ = some (.int .u32 s.starts)) (ds := []) #[false, false, false, false, false, false, false, false, false, false, false, false] (by kernel_rfl) rfl rfl ⟨r1, c2⟩ (fun hHeld => ?_)
    refine jE (T := (true, [([], []), ([0], [0]), ([], []), ([2], [2]), ([3], [3]), ([4], [4]), ([1, 5], [1, 5]), ([6], [6]), ([7], [7]), ([8, 7], [7, 8]), ([9, 7], [7, 9]), ([7, 10], [7, 10])])) (B := [0, 1, 0, 4, 12, 28, 63, 127, 255, 511, 1023, 2047]) (by kernel_rfl) (by kernel_rfl) (fun HT_ HW_ => ?_)
    refine iM (i := 0) (N := some 7) (v := ?_) (a' := ?_) #[true, false, false, false, false, false, false, false, false, false, false, false] rfl rfl (iI HT_.out (by kernel_rfl)) (fun _ _ _ h => h) (Or.inl ⟨by rfl, ?_⟩) ?_ ?_
    rotate_left
    · intro w'
      go_simp
      with_reducible rfl
    rotate_left
    · simp only [Act.put, List.setIfInBounds_toArray, List.set_cons_zero, List.set_cons_succ, iJ, iK]
      rfl
    refine iM (i := 2) (N := some 9) (v := ?_) (a' := ?_) #[true, false, true, false, false, false, false, false, false, false, false, false] rfl rfl (iI HT_.out (by kernel_rfl)) (fun _ _ _ h => h) (Or.inl ⟨by rfl, ?_⟩) ?_ ?_
    rotate_left
    · intro w'
      go_simp
      with_reducible rfl
    rotate_left
    · simp only [Act.put, List.setIfInBounds_toArray, List.set_cons_zero, List.set_cons_succ, iJ, iK]
      rfl
    refine iM (i := 3) (N := some 10) (v := ?_) (a' := ?_) #[true, false, true, true, false, false, false, false, false, false, false, false] rfl rfl (iI HT_.out (by kernel_rfl)) (fun _ _ _ h => h) (Or.inl ⟨by rfl, ?_⟩) ?_ ?_
    rotate_left
    · intro w'
      go_simp
      with_reducible rfl
    rotate_left
    · simp only [Act.put, List.setIfInBounds_toArray, List.set_cons_zero, List.set_cons_succ, iJ, iK]
      rfl
    refine iM (i := 4) (N := some 11) (v := ?_) (a' := ?_) #[true, false, true, true, true, false, false, false, false, false, false, false] rfl rfl (iI HT_.out (by kernel_rfl)) (fun _ _ _ h => h) (Or.inl ⟨by rfl, ?_⟩) ?_ ?_
    rotate_left
    · intro w'
      go_simp
      with_reducible rfl
    rotate_left
    · simp only [Act.put, List.setIfInBounds_toArray, List.set_cons_zero, List.set_cons_succ, iJ, iK]
      rfl
    refine jH (i := 1) (N := some 8) (v := ?_) (a' := ?_) #[true, true, true, true, true, false, false, false, false, false, false, false] rfl rfl (iT HT_.out HW_.out (by kernel_rfl)) (fun _ _ _ h => h) (Or.inl ⟨by rfl, ?_⟩) hHeld ?_ ?_
    rotate_left
    · rintro w' ⟨s0, s1⟩
      go_simp
      with_reducible rfl
    rotate_left
    · simp only [Act.put, List.setIfInBounds_toArray, List.set_cons_zero, List.set_cons_succ, iJ, iK]
      rfl
    refine jH (i := 5) (N := some 12) (v := ?_) (a' := ?_) #[true, true, true, true, true, true, false, false, false, false, false, false] rfl rfl (iT HT_.out HW_.out (by kernel_rfl)) (fun _ _ _ h => h) (Or.inl ⟨by rfl, ?_⟩) hHeld ?_ ?_
    rotate_left
    · rintro w' ⟨s0, s1⟩
      go_simp
      with_reducible rfl
    rotate_left
    · simp only [Act.put, List.setIfInBounds_toArray, List.set_cons_zero, List.set_cons_succ, iJ, iK]
      rfl
    refine iM (i := 6) (N := some 13) (v := ?_) (a' := ?_) #[true, true, true, true, true, true, true, false, false, false, false, false] rfl rfl (iI HT_.out (by kernel_rfl)) (fun _ _ _ h => h) (Or.inl ⟨by rfl, ?_⟩) ?_ ?_
    rotate_left
    · intro w'
      go_simp
      with_reducible rfl
    rotate_left
    · simp only [Act.put, List.setIfInBounds_toArray, List.set_cons_zero, List.set_cons_succ, iJ, iK]
      rfl
    refine iM (i := 7) (N := some 14) (v := ?_) (a' := ?_) #[true, true, true, true, true, true, true, true, false, false, false, false] rfl rfl (iI HT_.out (by kernel_rfl)) (fun _ _ _ h => h) (Or.inl ⟨by rfl, ?_⟩) ?_ ?_
    rotate_left
    · intro w'
      go_simp
      with_reducible rfl
    rotate_left
    · simp only [Act.put, List.setIfInBounds_toArray, List.set_cons_zero, List.set_cons_succ, iJ, iK]
      rfl
    refine iM (i := 8) (N := some 15) (v := ?_) (a' := ?_) #[true, true, true, true, true, true, true, true, true, false, false, false] rfl rfl (iI HT_.out (by kernel_rfl)) (fun _ _ _ h => h) (Or.inl ⟨by rfl, ?_⟩) ?_ ?_
    rotate_left
    · intro w'
      go_simp
      with_reducible rfl
    rotate_left
    · simp only [Act.put, List.setIfInBounds_toArray, List.set_cons_zero, List.set_cons_succ, iJ, iK]
      rfl
    refine jH (i := 9) (N := some 16) (v := ?_) (a' := ?_) #[true, true, true, true, true, true, true, true, true, true, false, false] rfl rfl (iT HT_.out HW_.out (by kernel_rfl)) (fun _ _ _ h => h) (Or.inl ⟨by rfl, ?_⟩) hHeld ?_ ?_
    rotate_left
    · rintro w' ⟨s0, s1⟩
      go_simp
      with_reducible rfl
    rotate_left
    · simp only [Act.put, List.setIfInBounds_toArray, List.set_cons_zero, List.set_cons_succ, iJ, iK]
      rfl
    refine iM (i := 10) (N := some 17) (v := ?_) (a' := ?_) #[true, true, true, true, true, true, true, true, true, true, true, false] rfl rfl (iI HT_.out (by kernel_rfl)) (fun _ _ _ h => h) (Or.inl ⟨by rfl, ?_⟩) ?_ ?_
    rotate_left
    · intro w'
      go_simp
      with_reducible rfl
    rotate_left
    · simp only [Act.put, List.setIfInBounds_toArray, List.set_cons_zero, List.set_cons_succ, iJ, iK]
      rfl
    refine iM (i := 11) (N := some 18) (v := ?_) (a' := ?_) #[true, true, true, true, true, true, true, true, true, true, true, true] rfl rfl (iI HT_.out (by kernel_rfl)) (fun _ _ _ h => h) (Or.inl ⟨by rfl, ?_⟩) ?_ ?_
    rotate_left
    · intro w'
      go_simp
      with_reducible rfl
    rotate_left
    · simp only [Act.put, List.setIfInBounds_toArray, List.set_cons_zero, List.set_cons_succ, iJ, iK]
      rfl
    refine kP (jM HT_.out (by kernel_rfl)) ?_
    by_cases hgt : 1000 < id
    · have hd2 : decide (1000 < id) = true := decide_eq_true hgt
      have HE := iC.mk (And.intro (show s.startE id = 140 from by unfold CS.startE; rw [if_pos (.inr hgt)]) (show s.start id = s from by unfold CS.start; rw [if_pos (.inr hgt)]))
      go_wp2
      go_ret
      rw [HE.out.1, HE.out.2]
      exact ⟨rfl, H1.out.below (iP (Below.refl _ _)), HF.out.trans (RoFr.of_below (iP (Below.refl _ _)) H1.out.Ble)⟩
    · have hd2 : decide (1000 < id) = false := decide_eq_false hgt
      have HE := iC.mk (And.intro (show s.startE id = 0 from by unfold CS.startE; rw [if_neg (by omega)]) (show s.start id = (s.at_ id).zero.withL (s.L.filter pY) from by unfold CS.start; rw [if_neg (by omega)]; rfl))
      clear HT_ HW_ hHeld
      go_wp2_with fail
      obtain ⟨W5, hW5⟩ : ∃ W5, W5 = ((W.setCell ⟨rc, 2, none⟩ (.int .u32 id)).setCell ⟨rc, 3, none⟩ (.int .u32 0)).drew := ⟨_, rfl⟩
      have hn1 := H1.out.num (s.at_ id) rfl rfl (i := 1) (x := .int .u32 id) (fun _ _ => rfl)
      have hn2 := hn1.1.num (s.at_ id).zero rfl rfl (i := 2) (x := .int .u32 0) (fun _ _ => rfl)
      have H5 : iC (Ro W5 B rc (s.at_ id).zero) := iC.mk (by rw [hW5]; exact hn2.1.below (iP (Below.refl _ _)))
      have F5 : iC (RoFr B w W5) := iC.mk (HF.out.trans (hn1.2.trans (hn2.2.trans (by rw [hW5]; exact RoFr.of_below (iP (Below.refl _ _)) hn2.1.Ble))))
      rw [← hW5]
      clear hW5 hn1 hn2 r1 c2 c3 f2 f3
      obtain ⟨A5, q5, A5', k5', g5, hR5, _⟩ := H5.out.blk
      have c5 := (iD g5 0).trans (show _ = some (Value.slice A5 s.L.length q5) from rfl)
      obtain ⟨n, hn⟩ : ∃ n, s.L.length = n := ⟨_, rfl⟩
      have HN := iC.mk hn
      have HR5 : iC (kB.R 130 W5 B (fun _ => True) (.slice A5 n q5) (s.L.map toB)) := iC.mk (by rw [← hn]; exact hR5)
      have HG5 : iC (W5.heap[rc]? = some (Obj.cells #[.slice A5 n q5, .int .u32 s.last, .int .u32 id, .int .u32 0, .int .u32 s.ep, .slice A5' s.sp.length k5'] 109 (0, 0))) := iC.mk (by rw [← hn]; exact g5)
      have hmx : n ≤ 1000000 := by rw [← hn]; exact HNL.out
      clear c5 g5 hR5 hn
      go_loopw [5, 6] (fun p i' wr => ∃ i : Nat, i' = .int .i64 (i : Int) ∧ i ≤ n ∧ iC (kB.R 130 wr B (fun _ => True) p (((s.L.take i).filter pY).map toB)) ∧ iC (∀ j, p.ownBlock = some j → W5.heap.size ≤ j) ∧ iC (Below W5.heap.size W5 wr)) (fun _ i' _ => ((n : Int) - intOf i').toNat)
      case atStart => exact ⟨0, rfl, Nat.zero_le _, ⟨by rw [List.take_zero]; exact Kd.R_nil _ _ _ _ _⟩, ⟨fun j hj => by simp [Value.ownBlock] at hj⟩, ⟨Below.refl _ _⟩⟩
      case round =>
        obtain ⟨i, rfl, hi, HO, HL, HBr⟩ := hrel
        have c5 := (iD (iV HBr.out HG5.out) 0).trans (show _ = some (Value.slice A5 n q5) from rfl)
        by_cases hlt : i < n
        · have hxl : i < s.L.length := by rw [HN.out]; exact hlt
          have hw : wrap64 ((i : Int) + 1) = ((i + 1 : Nat) : Int) := by unfold wrap64; omega
          have hR := Kd.R_below HR5.out HBr.out
          obtain ⟨g, rfl⟩ : ∃ g, A5 = some ⟨g, 0, none⟩ := by
            obtain ⟨g, cap, he, _⟩ := Kd.R_form hR (by rw [List.length_map]; omega)
            injection he with e1 _ _
            exact ⟨g, e1⟩
          obtain ⟨c, hcl, hM, hcc, _⟩ := Kd.R_elem hR J.z130 (i : Int) (by omega) (by omega)
          rw [Int.toNat_natCast, List.getD_eq_getElem?_getD, List.getElem?_map, List.getElem?_eq_getElem hxl] at hM
          rw [Int.toNat_natCast] at hcc
          simp only [Option.map_some, Option.getD_some] at hM
          have hMo := zL hM HO.out
          have ht : s.L.take (i + 1) = s.L.take i ++ [s.L[i]] := by rw [List.take_add_one, List.getElem?_eq_getElem hxl]; rfl
          obtain ⟨P, hP⟩ : ∃ P, P = s.L[i] := ⟨_, rfl⟩
          rw [← hP] at hMo ht hM
          obtain ⟨v3', v4', rfl, r3, r4⟩ := J.k130_openM hM
          obtain ⟨A3, c3, rfl, _, _⟩ := oD r3
          obtain ⟨A4, c4, rfl, _, _⟩ := oD r4
          have HM := iC.mk hMo
          have HT := iC.mk ht
          have y0 : wr.cell? ⟨g, i * 6, none⟩ = some (.int .u32 P.1) := hcc 0 _ rfl
          have y1 : wr.cell? ⟨g, i * 6 + 1, none⟩ = some (.int .u8 P.2.st) := hcc 1 _ rfl
          have y2 : wr.cell? ⟨g, i * 6 + 2, none⟩ = some (.int .u32 P.2.at_) := hcc 2 _ rfl
          have y3 : wr.cell? ⟨g, i * 6 + 3, none⟩ = some (.slice A3 P.2.nodes.length c3) := hcc 3 _ rfl
          have y4 : wr.cell? ⟨g, i * 6 + 4, none⟩ = some (.slice A4 P.2.said.length c4) := hcc 4 _ rfl
          have y5 : wr.cell? ⟨g, i * 6 + 5, none⟩ = some (.bool P.2.ended) := hcc 5 _ rfl
          clear hM hMo hcc hcl hR r3 r4 hP ht
          by_cases hst : P.2.st = 1
          · have hb : (P.2.st != 1) = false := by simp [hst]
            have hf : pY P = false := by simp [pY, hst]
            have HFI := iC.mk hf
            go_wp2
            go_roundw
            case rel => exact ⟨i + 1, by first | rfl | rw [hw], hlt, ⟨by rw [HT.out, List.filter_append, List.filter_cons, HFI.out]; simpa using HO.out⟩, HL, ⟨by first | exact HBr.out | exact iP HBr.out⟩⟩
            case measure => (first | (simp [intOf, hw]; omega) | (simp [intOf]; omega))
          · have hb : (P.2.st != 1) = true := by simpa using hst
            have hf : pY P = true := by simp [pY, hst]
            have HFI := iC.mk hf
            obtain ⟨Av, cv, hv⟩ := Kd.R_slice HO.out
            obtain ⟨M, hM⟩ : ∃ M, (((s.L.take i).filter pY).map toB).length = M := ⟨_, rfl⟩
            have HMM := iC.mk hM
            have hMi : M ≤ i := by rw [← hM, List.length_map]; exact Nat.le_trans (List.length_filter_le _ _) (by rw [List.length_take]; omega)
            rw [hM] at hv
            subst hv
            have hB5 := H5.out.Ble
            have hsz := Nat.le_trans hB5 HBr.out.size
            have hbb := iC.mk (HBr.out.mono hB5)
            clear hM
            go_wp2_with (at_builtin; (refine Kd.R_append kB (w0 := W5) B rfl (.tmp 46) (.tmp 54) 107 130 (.agg #[.int .u32 0, .int .u8 0, .int .u32 0, .slice none 0 0, .slice none 0 0, .bool false]) 72 rfl Try.underlying107 uH rfl (by decide) (by decide) (.slice Av M cv) (((s.L.take i).filter pY).map toB) (toB P) [.int .u32 P.1, .int .u8 P.2.st, .int .u32 P.2.at_, .slice A3 P.2.nodes.length c3, .slice A4 P.2.said.length c4, .bool P.2.ended] (fun _ => True) (fun j => some j ≠ (Value.slice Av M cv).ownBlock) rfl rfl HM.out (fun j hj => ⟨trivial, hj⟩) (fun _ _ => trivial) HO.out hbb.out hsz (by rw [HMM.out]; omega) ?_; intro v1 w4 ho1 hb1 hg1 hat1; have HO4 := iC.mk ho1; have HG4 := iC.mk hg1; have HA4 := iC.mk hat1; clear ho1 hb1 hg1 hat1))
            go_roundw
            case rel => exact ⟨i + 1, by first | rfl | rw [hw], hlt, ⟨by rw [HT.out, List.filter_append, List.filter_cons, HFI.out, List.map_append]; exact HO4.out⟩, ⟨fun j hj => by
              rcases HA4.out with h | ⟨b, h, hb⟩
              · rw [h] at hj; exact HL.out j hj
              · rw [h] at hj; injection hj with hj; subst hj; exact Nat.le_trans HBr.out.size hb⟩, ⟨HBr.out.grown HG4.out HBr.out.size HL.out⟩⟩
            case measure => (first | (simp [intOf, hw]; omega) | (simp [intOf]; omega))
        · obtain rfl : i = n := by omega
          have f5 := iE (iV HBr.out HG5.out) 0
          obtain ⟨Av, cv, rfl⟩ := Kd.R_slice HO.out
          have hrow := (H5.out.below HBr.out).row (iV HBr.out HG5.out) (s.L.filter pY) (v := .slice Av (((s.L.take i).filter pY).map toB).length cv) (by have := HO.out; rw [List.take_of_length_le (by have := HN.out; omega)] at this ⊢; exact this) (H5.out.sd.sub (fun p hp => (List.mem_filter.1 hp).1))
          rw [List.length_map] at hrow
          have HROW := iC.mk hrow
          have HFR := iC.mk (F5.out.trans ((RoFr.of_below HBr.out H5.out.Ble).trans hrow.2))
          clear hrow
          go_wp2
          go_ret
          rw [HE.out.1, HE.out.2]
          exact ⟨rfl, HROW.out.1, HFR.out⟩
end Go.Proofs.Ytjppookmjdaplaa.K
end

section
namespace Go.Proofs.Ytjppookmjdaplaa.K
open Go.RowKit Go.Proofs.YtjppookmjdaplaaW.PrintWords Go.Proofs.YtjppookmjdaplaaW.PrintLast Go.Proofs.YtjppookmjdaplaaW.PrintMore
attribute [local go_sem] jV kJ
def stratumref12_New.f  : Option (Int × (List (S96))) := some (1, (([(⟨0, 0⟩ : S96)] : List (S96))))
set_option maxHeartbeats 8000000 in
set_option maxRecDepth 100000 in
theorem stratumref12_New.calls  (r1 : Int) (r2 : List (S96)) (w : World) (h : stratumref12_New.f  = some (r1, r2)) :
    Calls Try.prog 45 #[] w fun e w' => ∃ v1_ : Value, e = .returned (.agg #[.int .u32 r1, v1_]) ∧ Kd.R k96 96 w' w.heap.size (fun _ => True) v1_ r2 ∧ Below w.heap.size w w' := by
  have hu42 := Try.underlying42
  have hu96 := Try.underlying96
  have HB := iC.mk (Below.refl w.heap.size w)
  have H : (some (1, (([(⟨0, 0⟩ : S96)] : List (S96))))) = some (r1, r2) := h
  clear h
  obtain ⟨y102, hy102⟩ : ∃ y_ : List (S96), y_ = (([(⟨0, 0⟩ : S96)] : List (S96))) := ⟨_, rfl⟩
  replace H : (some (1, y102)) = some (r1, r2) := by first | (rw [hy102]; with_reducible exact H) | (have H2_ := (Option.bind_some _ _).symm.trans H; rw [hy102]; with_reducible exact H2_) | (have H2_ := (Option.bind_some _ _).symm.trans H; with_reducible exact H2_) | with_reducible exact H | (rw [hy102]; exact H) | exact H
  have Ny102 := iC.mk hy102
  clear hy102
  simp only [Option.some.injEq, Prod.mk.injEq] at H
  obtain ⟨rfl, rfl⟩ := H
  go_enter Try.func45, Try.ntmps45
  go_wp2_with (first | ((with_reducible refine kL (N := 0) rfl ?_); refine kF ?hg (N := 0) ?hd (cs := #[.int .u32 0, .slice none 0 0]) (t := 42) ?hr ?_; (case hd => rfl); (case hg => rfl); (case hr => first | (go_simp; done) | (go_simp; rfl)); intro gb101 hg w1 hbox hb; have n0_ := iC.mk (iQ hb_ hb); have n1_ := iC.mk (hbox); have n2_ := iC.mk ((by rw [hg]; exact (iW hb_) : w.heap.size ≤ gb101)); have n3_ := iC.mk ((by rw [hg]; exact (iW hb_) : w.heap.size ≤ gb101)); clear HB; have HB := n0_; have BK101 := n1_; have GW101 := n2_; have GE101 := n3_; clear n0_ n1_ n2_ n3_; clear hb hbox hg) | ((with_reducible refine kL (N := 2) rfl ?_); refine Kd.R_lit k96 _ 96 ?hg (N := 2) ?hd (xs := ([(⟨0, 0⟩ : S96)] : List (S96))) (inner := [.int .i64 0, .int .i64 0]) (ok := fun _ => True) (okp := fun _ => True) ?hr ?hp (fun _ hk => hk) trivial (Below.refl _ _) (Nat.le_refl _) (by simp) ?_; (case hd => rfl); (case hg => rfl); (case hr => first | (go_simp; done) | (go_simp; rfl)); (case hp => exact (Reps.c2 (show Kd.M k96 _ _ _ (⟨0, 0⟩ : S96) [.int .i64 0, .int .i64 0] from (k96_mkM _ _ _ (⟨0, 0⟩ : S96) )) (Reps.none _ _))); intro v103 w2 ho3 hb hg_ hnew_; clear hg_ hnew_; (first | rw [← Ny102.out] at ho3 | (simp only [Int.reduceToNat] at ho3; rw [← Ny102.out] at ho3)); have n0_ := iC.mk (Kd.R_lower ho3 (iW (by repeat (first | (with_reducible first | exact HB.out | apply iF | apply iG | apply iL | refine iH ?_ GE101.out) | exact HB.out)))); have n1_ := iC.mk (iY (g := gb101) (o := .cells #[.int .u32 0, .slice none 0 0] 42 (0, 0)) (bk_ BK101.out) hb); have n2_ := iC.mk (iQ (by repeat (first | (with_reducible first | exact HB.out | apply iF | apply iG | apply iL | refine iH ?_ GE101.out) | exact HB.out)) hb); clear BK101; clear HB; have HO104 := n0_; have BK101 := n1_; have HB := n2_; clear n0_ n1_ n2_; clear hb ho3; obtain ⟨Ao4, co4, eo4⟩ := Kd.R_slice HO104.out; subst eo4; have hcz5_0 : w2.cell? ⟨gb101, 0, none⟩ = some (.int .u32 0) := (iD BK101.out 0).trans rfl; have hcz5_1 : w2.cell? ⟨gb101, 1, none⟩ = some (.slice none 0 0) := (iD BK101.out 1).trans rfl; have hfz5_0 := iE BK101.out 0; have hfz5_1 := iE BK101.out 1))
  refine bodyPost_ret (results_cell_row rfl _ _ gb101 42 #[.int .u32 1, .slice Ao4 y102.length co4] (0, 0) _ rfl (by (with_reducible repeat (first | refine iR ?_ _ | refine iU ?_ | refine iO ?_ _)); refine iZ (cs := #[.int .u32 1, .slice none 0 0]) ?_ 1 _ rfl; (with_reducible repeat (first | refine iR ?_ _ | refine iU ?_ | refine iO ?_ _)); refine iZ (cs := #[.int .u32 0, .slice none 0 0]) ?_ 0 _ rfl; (with_reducible repeat (first | refine iR ?_ _ | refine iU ?_ | refine iO ?_ _)); exact BK101.out) Try.underlying42 rfl (by kernel_rfl)) rfl ?_
  exact ⟨_, by first | rfl | (simp [jF, jG] <;> rfl) | (simp [*, jF, jG] <;> rfl), by (with_reducible repeat (first | apply Kd.R_alloc | apply Kd.R_drewN | apply Kd.R_drew)); exact Kd.R_mono (Kd.R_far (p := ⟨gb101, 1, none⟩) (Kd.R_far (p := ⟨gb101, 0, none⟩) (Kd.R_types HO104.out BK101.out (by decide)) (fun _ hk => hk.2) (.int .u32 1)) (fun _ hk => hk.2) (.slice Ao4 y102.length co4)) (fun _ hk => trivial), by repeat (first | (with_reducible first | exact HB.out | apply iF | apply iG | apply iL | refine iH ?_ GE101.out) | exact HB.out)⟩
end Go.Proofs.Ytjppookmjdaplaa.K
end

section
namespace Go.Proofs.Ytjppookmjdaplaa.K
open Go Go.RowKit Go.Maps Go.Proofs.YtjppookmjdaplaaW.PrintWords Go.Proofs.YtjppookmjdaplaaW.PrintLast Go.Proofs.YtjppookmjdaplaaW.PrintMore Go.Proofs.Ytjppookmjdaplaa.My
theorem NJ (w : World) (e : Int) (A : Option Addr) (n c : Nat) : (Instr.build 109 #[(4, .agg #[.int .u32 e, .slice A n c])]).run Try.prog w = .ok (.agg #[.slice none 0 0, .int .u32 0, .int .u32 0, .int .u32 0, .int .u32 e, .slice A n c]) w := run_build w 109 _ _ (by kernel_rfl)
theorem NP (w : World) (e : Int) : (Instr.build 42 #[(0, .int .u32 e)]).run Try.prog w = .ok (.agg #[.int .u32 e, .slice none 0 0]) w := run_build w 42 _ _ (by kernel_rfl)
attribute [-go_sem] Instr.build
attribute [local go_sem] NJ NP
set_option maxRecDepth 20000 in
theorem J9 (w : World) : Calls Try.prog 29 #[] w fun e w' => ∃ rc, e = .returned (.pointer (some ⟨rc, 0, none⟩)) ∧ Ro w' w.heap.size rc CS.new ∧ Below w.heap.size w w' := by
  have hcall := stratumref12_New.calls 1 [⟨0, 0⟩] w rfl
  go_enter Try.func29, Try.ntmps29
  go_wp2_with (go_at_call 45; refine hcall.mono ?_; rintro e w2 ⟨v, rfl, hR, hB⟩; obtain ⟨A, k, rfl⟩ := Kd.R_slice hR; have HR := iC.mk hR; have HB := iC.mk hB; clear hcall hR hB)
  go_ret
  have hb3 := iF (Below.refl w2.heap.size w2) (.cells #[.slice none 0 0, .int .u32 0, .int .u32 0, .int .u32 0, .int .u32 1, .slice A 1 k] 109)
  refine ⟨w2.heap.size, rfl, ⟨HB.out.size, ⟨none, 0, A, k, jD rfl, Kd.R_nil _ _ _ _ _, Kd.R_below HR.out hb3⟩, fun p hp => (by cases hp)⟩, iQ HB.out hb3⟩
set_option maxRecDepth 20000 in
set_option maxHeartbeats 4000000 in
theorem uO {w : World} {e : Int} {A : Option Addr} {q : Nat} {l : List TSp} (hr : kS.C w A l.length l) (hc : l.length ≤ q) (hl : l.length ≤ 1000000) :
    Calls Try.prog 84 #[.agg #[.int .u32 e, .slice A l.length q]] w fun e' w' => ∃ A' q', e' = .returned (.agg #[.int .u32 e, .slice A' l.length q']) ∧ kS.R 96 w' w.heap.size (fun _ => True) (.slice A' l.length q') l ∧ Below w.heap.size w w' := by
  obtain ⟨N, hN⟩ : ∃ N, l.length = N := ⟨_, rfl⟩
  have HN := iC.mk hN
  have HR := iC.mk hr
  rw [hN] at hc hl ⊢
  clear hr hN
  have hbL : Below w.heap.size w (((w.alloc (.cells #[.int .u32 e, .slice A N q] 42)).alloc (.cells #[.int .u32 0, .slice none 0 0] 42)).alloc (.cells #[.int .u32 e, .slice none 0 0] 42)) := iF (iF (iF (Below.refl _ _) _) _) _
  have hX1 : (((w.alloc (.cells #[.int .u32 e, .slice A N q] 42)).alloc (.cells #[.int .u32 0, .slice none 0 0] 42)).alloc (.cells #[.int .u32 e, .slice none 0 0] 42)).heap[w.heap.size]? = some (.cells #[.int .u32 e, .slice A N q] 42 (0, 0)) := iV (iF (Below.refl _ _) _) (iV (iF (Below.refl _ _) _) (jD rfl))
  have hX2 : (((w.alloc (.cells #[.int .u32 e, .slice A N q] 42)).alloc (.cells #[.int .u32 0, .slice none 0 0] 42)).alloc (.cells #[.int .u32 e, .slice none 0 0] 42)).heap[w.heap.size + 1]? = some (.cells #[.int .u32 0, .slice none 0 0] 42 (0, 0)) := iV (iF (Below.refl _ _) _) (jD (by simp))
  have hX3 : (((w.alloc (.cells #[.int .u32 e, .slice A N q] 42)).alloc (.cells #[.int .u32 0, .slice none 0 0] 42)).alloc (.cells #[.int .u32 e, .slice none 0 0] 42)).heap[w.heap.size + 1 + 1]? = some (.cells #[.int .u32 e, .slice none 0 0] 42 (0, 0)) := jD (by simp)
  have hcs := Kd.C_below HR.out hbL
  rw [HN.out] at hcs
  have HX1 := iC.mk hX1
  have HX2 := iC.mk hX2
  have HX3 := iC.mk hX3
  have HBL := iC.mk hbL
  clear hX1 hX2 hX3 hbL
  go_enter Try.func84, Try.ntmps84
  go_wp2_with (at_builtin; (refine Kd.R_append_rows kS (w0 := (((w.alloc (.cells #[.int .u32 e, .slice A N q] 42)).alloc (.cells #[.int .u32 0, .slice none 0 0] 42)).alloc (.cells #[.int .u32 e, .slice none 0 0] 42))) (((w.alloc (.cells #[.int .u32 e, .slice A N q] 42)).alloc (.cells #[.int .u32 0, .slice none 0 0] 42)).alloc (.cells #[.int .u32 e, .slice none 0 0] 42)).heap.size rfl (.tmp 8) (.tmp 10) 40 96 (.agg #[.int .i64 0, .int .i64 0]) 16 rfl Try.underlying40 JP rfl (by decide) (by omega) (.slice none 0 0) [] l _ _ _ (fun _ => True) (fun _ => False) rfl rfl (Kd.R_nil _ _ _ _ _) hcs (fun x cs hx => by obtain rfl := K.k96_open hx; exact K.k96_mkM _ _ _ x) (fun _ h => h.elim) (fun _ _ => trivial) (Below.refl _ _) (Nat.le_refl _) (by simp only [List.length_nil]; omega) ?_; intro v5 w4 ho4 hb4 hg4 _; rw [List.nil_append] at ho4; obtain ⟨A5, c5, rfl⟩ := Kd.R_slice ho4; rw [HN.out] at ho4 ⊢; have hZ2 := iV hb4 HX2.out; have hZ3 := iV hb4 HX3.out; have HZ2 := iC.mk hZ2; have HZ3 := iC.mk hZ3; have e1 := (iD hZ3 1).trans (show _ = some (Value.slice none 0 0) from rfl); have f1 := iE hZ3 1; have e0 := (iD hZ3 0).trans (show _ = some (Value.int .u32 e) from rfl); have d0 := (iD hZ2 0).trans (show _ = some (Value.int .u32 0) from rfl); have d1 := (iD hZ2 1).trans (show _ = some (Value.slice none 0 0) from rfl); have fz0 := iE hZ2 0; have fz1 := iE hZ2 1; have HO4 := iC.mk ho4; have HB4 := iC.mk hb4; clear ho4 hb4 hg4 hZ2 hZ3 hcs))
  have hg3 := kM w4 (w.heap.size + 1 + 1) 1 (.slice A5 N c5)
  have hq2 : (w4.setCell ⟨w.heap.size + 1 + 1, 1, none⟩ (.slice A5 N c5)).heap[w.heap.size + 1]? = some (.cells #[.int .u32 0, .slice none 0 0] 42 (0, 0)) := (jL hg3 HZ2.out (by omega)).trans HZ2.out
  have hq3 : ((w4.setCell ⟨w.heap.size + 1 + 1, 1, none⟩ (.slice A5 N c5)).setCell ⟨w.heap.size + 1, 0, none⟩ (.int .u32 e)).heap[w.heap.size + 1]? = some (.cells #[.int .u32 e, .slice none 0 0] 42 (0, 0)) := iZ hq2 0 _ rfl
  refine bodyPost_ret (results_cell_row rfl _ _ (w.heap.size + 1) 42 #[.int .u32 e, .slice A5 N c5] (0, 0) _ rfl (iZ hq3 1 _ rfl) Try.underlying42 rfl (by kernel_rfl)) rfl ?_
  have hsz := HBL.out.size
  have hR5 := Kd.R_set HO4.out HZ3.out (fun z hz => by (obtain rfl : z = 96 := (by simpa [show kS.E = [] from rfl] using hz)); decide) 1 (.slice A5 N c5)
  have hR6 := Kd.R_set hR5 hq2 (fun z hz => by (obtain rfl : z = 96 := (by simpa [show kS.E = [] from rfl] using hz)); decide) 0 (.int .u32 e)
  have hR7 := Kd.R_set hR6 hq3 (fun z hz => by (obtain rfl : z = 96 := (by simpa [show kS.E = [] from rfl] using hz)); decide) 1 (.slice A5 N c5)
  exact ⟨A5, c5, rfl, Kd.R_lower hR7 hsz, iH (iH (iH (HBL.out.trans (HB4.out.mono hsz)) (by show w.heap.size ≤ w.heap.size + 1 + 1; omega)) (by show w.heap.size ≤ w.heap.size + 1; omega)) (by show w.heap.size ≤ w.heap.size + 1; omega)⟩
end Go.Proofs.Ytjppookmjdaplaa.K
end

section
namespace Go.Proofs.Ytjppookmjdaplaa.K
open Go Go.RowKit Go.Maps Go.Proofs.YtjppookmjdaplaaW.PrintWords Go.Proofs.YtjppookmjdaplaaW.PrintLast Go.Proofs.YtjppookmjdaplaaW.PrintMore Go.Proofs.Ytjppookmjdaplaa.My
/-- Batch k is ended. -/
theorem Ro.fin {w : World} {B rc : Nat} {s : CS} (h : Ro w B rc s) {k : Nat} {id : Int} {b : CB} (hk : s.L[k]? = some (id, b)) {g q : Nat} {A' : Option Addr} {k' : Nat} (hb : w.heap[rc]? = some (Obj.cells #[.slice (some ⟨g, 0, none⟩) s.L.length q, .int .u32 s.last, .int .u32 s.starts, .int .u32 s.begun, .int .u32 s.ep, .slice A' s.sp.length k'] 109 (0, 0))) :
    Ro (w.setCell ⟨g, k * 6 + 5, none⟩ (.bool true)) B rc (s.withL (s.L.set k (id, b.end_))) ∧ RoFr B w (w.setCell ⟨g, k * 6 + 5, none⟩ (.bool true)) := by
  obtain ⟨A, q2, A2, k2, h1, h2, h3⟩ := h.blk
  rw [hb] at h1
  injection h1 with h1
  injection h1 with h1 _ _
  have e0 := congrArg (fun a : Array Value => a[0]?) h1
  have e5 := congrArg (fun a : Array Value => a[5]?) h1
  simp at e0 e5
  obtain ⟨rfl, rfl⟩ := e0
  obtain ⟨rfl, rfl⟩ := e5
  have hlt : k < s.L.length := (List.getElem?_eq_some_iff.1 hk).1
  obtain ⟨c, hcl, hM, hcc, hfz⟩ := Kd.R_elem h2 J.z130 (k : Int) (by omega) (by omega)
  have hp : (s.L.map toB).getD (k : Int).toNat J.z130 = toB (id, b) := by
    rw [Int.toNat_natCast, List.getD_eq_getElem?_getD, List.getElem?_map, hk]; rfl
  rw [hp] at hM
  obtain ⟨v3, v4, rfl, g3, g4⟩ := J.k130_openM hM
  have hs := Kd.R_seg (j := 5) (okp := fun j => j ≠ g) (seg := [.bool true]) h2 (k : Int) (by omega) (by omega) hcl hcc (x' := toB (id, b.end_)) (by exact Nat.le_refl 6)
    (J.k130_mkM w B _ (toB (id, b.end_)) (Kd.R_mono g3 (fun _ hj => hj.2)) (Kd.R_mono g4 (fun _ hj => hj.2))) (fun j hj => ⟨trivial, hj⟩)
  rw [Int.toNat_natCast] at hs
  obtain ⟨hR, hg⟩ := hs
  obtain ⟨inn, hown⟩ := Kd.R_own h2
  obtain ⟨cg, hcg⟩ := jZ hown g (by simp [Value.ownBlock])
  have hgB := own_base hown g (by simp [Value.ownBlock])
  have hf : RoFr B w _ := RoFr.of_grown hg hgB h.Ble hcg (.inr rfl)
  refine ⟨⟨h.cB, ⟨some ⟨g, 0, none⟩, q, A', k', ?_, ?_, hf.rows h3 (fun z hz => by (obtain rfl : z = 96 := (by simpa [show kS.E = [] from rfl] using hz)); exact (by decide))⟩, ?_⟩, hf⟩
  · show _ = some (Obj.cells #[.slice (some ⟨g, 0, none⟩) (s.L.set k (id, b.end_)).length q, _, _, _, _, _] _ _)
    rw [List.length_set]
    exact (hg.block rc (jJ hb) (fun e => by injection e with e; subst e; rw [hb] at hcg; injection hcg with hcg; injection hcg with _ e2 _; exact absurd e2 (by decide))).trans hb
  · show kB.R _ _ _ _ (.slice _ (s.L.set k (id, b.end_)).length q) ((s.L.set k (id, b.end_)).map toB)
    rw [List.length_set, List.map_set]
    exact hR
  · intro p hp
    rcases List.mem_or_eq_of_mem_set hp with hp | rfl
    · exact h.sd p hp
    · exact (show b.said.Nodup ∧ (∀ x ∈ b.said, x ∈ b.nodes) ∧ b.nodes.Nodup from h.sd _ (List.mem_of_getElem? hk))
section
variable {w : World} {B rc : Nat} {s : CS} {id t e : Int} {A A6 : Option Addr} {q q6 : Nat} {l : List Int} {sp : List TSp} {x4 x7 x8 x9 : Value}
set_option maxRecDepth 20000 in
set_option maxHeartbeats 4000000 in
theorem xJ (h : Ro w B rc s) (hok : s.Ok) :
    Calls Try.prog 63 #[.pointer (some ⟨rc, 0, none⟩), .agg #[.int .u8 4, .int .u32 id, .int .u32 t, .slice A l.length q, x4, .int .u32 e, .slice A6 sp.length q6, x7, x8, x9]] w fun e_ w' => e_ = .returned (.int .i64 (s.endE id)) ∧ Ro w' B rc (s.end_ id) ∧ RoFr B w w' := by
  obtain ⟨W, hW⟩ : ∃ W, W = w.alloc (.cells #[.int .u8 4, .int .u32 id, .int .u32 t, .slice A l.length q, x4, .int .u32 e, .slice A6 sp.length q6, x7, x8, x9] 48) := ⟨_, rfl⟩
  have hb : Below w.heap.size w W := by rw [hW]; exact iF (Below.refl _ _) _
  have hX : W.heap[w.heap.size]? = some (.cells #[.int .u8 4, .int .u32 id, .int .u32 t, .slice A l.length q, x4, .int .u32 e, .slice A6 sp.length q6, x7, x8, x9] 48 (0, 0)) := by rw [hW]; exact jD rfl
  have h1 := h.below hb
  have hst := nU h1 hok.nd id 2
  have r0 := (iD hX 0).trans (show _ = some (Value.int .u8 4) from rfl)
  have r1 := (iD hX 1).trans (show _ = some (Value.int .u32 id) from rfl)
  have HF := iC.mk (RoFr.of_below hb h.Ble)
  have H1 := iC.mk h1
  have HO := iC.mk hok
  have HW := iC.mk hW
  clear h hok hb hX h1 hW
  go_enter Try.func63, Try.ntmps63
  go_upto_region 1 with fail
  rw [← HW.out]
  clear HW
  go_wp2_with fail
  go_at_call 79
  refine hst.mono ?_
  rintro e_ w1 ⟨i, rfl, rfl, hA⟩
  clear hst r0 r1
  rcases hA with ⟨rfl, hg⟩ | ⟨k, b, rfl, hk, hg⟩
  · have HG := iC.mk hg
    clear hg
    go_wp2
    go_ret
    unfold CS.endE CS.end_
    rw [HG.out]
    exact ⟨rfl, H1.out, HF.out⟩
  · obtain ⟨g, q', A', k', h1, _, _, _, _, _, _, _, _, _, _, _, y5, fz⟩ := H1.out.get hk
    have c0 := (iD h1 0).trans (show _ = some (Value.slice (some ⟨g, 0, none⟩) s.L.length q') from rfl)
    have hlt : k < s.L.length := (List.getElem?_eq_some_iff.1 hk).1
    have hfin := iC.mk (H1.out.fin hk h1)
    have HG := iC.mk hg
    have HK := iC.mk hk
    obtain ⟨N, hN⟩ : ∃ N, s.L.length = N := ⟨_, rfl⟩
    rw [hN] at c0 hlt
    have fz5 := fz 5
    simp only at y5
    have hk0 : ¬ ((k : Int) < 0) := by omega
    clear h1 hk hg hN fz
    go_wp2
    go_ret
    unfold CS.endE CS.end_
    rw [HG.out]
    refine ⟨rfl, ?_, HF.out.trans hfin.out.2⟩
    show Ro _ B rc (s.withL (setB s.L id b.end_))
    rw [vN HO.out.nd HK.out]
    exact hfin.out.1
/-- A map is held. -/
theorem Ro.hold {w : World} {B rc : Nat} {s : CS} (h : Ro w B rc s) {e : Int} {A : Option Addr} {q : Nat} {sp : List TSp} (hr : kS.R 96 w B (fun _ => True) (.slice A sp.length q) sp) :
    Ro ((w.setCell ⟨rc, 4, none⟩ (.int .u32 e)).setCell ⟨rc, 5, none⟩ (.slice A sp.length q)) B rc ⟨s.L, s.last, s.starts, s.begun, e, sp⟩ ∧ RoFr B w ((w.setCell ⟨rc, 4, none⟩ (.int .u32 e)).setCell ⟨rc, 5, none⟩ (.slice A sp.length q)) := by
  obtain ⟨A0, q0, A', k', h1, h2, h3⟩ := h.blk
  have hp1 : (w.setCell ⟨rc, 4, none⟩ (.int .u32 e)).heap[rc]? = some (Obj.cells #[.slice A0 s.L.length q0, .int .u32 s.last, .int .u32 s.starts, .int .u32 s.begun, .int .u32 e, .slice A' s.sp.length k'] 109 (0, 0)) := iZ h1 4 _ rfl
  have hp2 : ((w.setCell ⟨rc, 4, none⟩ (.int .u32 e)).setCell ⟨rc, 5, none⟩ (.slice A sp.length q)).heap[rc]? = some (Obj.cells #[.slice A0 s.L.length q0, .int .u32 s.last, .int .u32 s.starts, .int .u32 s.begun, .int .u32 e, .slice A sp.length q] 109 (0, 0)) := iZ hp1 5 _ rfl
  have hf1 : RoFr B w (w.setCell ⟨rc, 4, none⟩ (.int .u32 e)) := RoFr.of_grown (kM w rc 4 _) h.cB h.Ble h1 (.inl rfl)
  have hf2 : RoFr B (w.setCell ⟨rc, 4, none⟩ (.int .u32 e)) ((w.setCell ⟨rc, 4, none⟩ (.int .u32 e)).setCell ⟨rc, 5, none⟩ (.slice A sp.length q)) := RoFr.of_grown (kM _ rc 5 _) h.cB (Nat.le_trans h.Ble hf1.size) hp1 (.inl rfl)
  have hB : ∀ z, z ∈ 130 :: kB.E → z ≠ 109 := fun z hz => by rw [kB_E] at hz; simp at hz; rcases hz with rfl | rfl <;> decide
  have hS : ∀ z, z ∈ 96 :: kS.E → z ≠ 109 := fun z hz => by (obtain rfl : z = 96 := (by simpa [show kS.E = [] from rfl] using hz)); decide
  exact ⟨⟨h.cB, ⟨A0, q0, A, q, hp2, Kd.R_set (Kd.R_set h2 h1 hB 4 _) hp1 hB 5 _, Kd.R_set (Kd.R_set hr h1 hS 4 _) hp1 hS 5 _⟩, h.sd⟩, hf1.trans hf2⟩
set_option maxRecDepth 20000 in
set_option maxHeartbeats 4000000 in
theorem yI (h : Ro w B rc s) (h6 : ∀ W', RoFr B w W' → kS.C W' A6 sp.length sp) (hq6 : sp.length ≤ q6) (hsp : sp.length ≤ 1000) :
    Calls Try.prog 63 #[.pointer (some ⟨rc, 0, none⟩), .agg #[.int .u8 6, .int .u32 id, .int .u32 t, .slice A l.length q, x4, .int .u32 e, .slice A6 sp.length q6, x7, x8, x9]] w fun e_ w' => e_ = .returned (.int .i64 (s.mapE e)) ∧ Ro w' B rc (s.map_ e sp) ∧ RoFr B w w' := by
  obtain ⟨W, hW⟩ : ∃ W, W = w.alloc (.cells #[.int .u8 6, .int .u32 id, .int .u32 t, .slice A l.length q, x4, .int .u32 e, .slice A6 sp.length q6, x7, x8, x9] 48) := ⟨_, rfl⟩
  have hb : Below w.heap.size w W := by rw [hW]; exact iF (Below.refl _ _) _
  have hX : W.heap[w.heap.size]? = some (.cells #[.int .u8 6, .int .u32 id, .int .u32 t, .slice A l.length q, x4, .int .u32 e, .slice A6 sp.length q6, x7, x8, x9] 48 (0, 0)) := by rw [hW]; exact jD rfl
  have hf := RoFr.of_below (B := B) hb h.Ble
  have h1 := h.below hb
  obtain ⟨A0, q0, A', k', g0, _, _⟩ := h1.blk
  have c4 := (iD g0 4).trans (show _ = some (Value.int .u32 s.ep) from rfl)
  have c5 := (iD g0 5).trans (show _ = some (Value.slice A' s.sp.length k') from rfl)
  obtain ⟨N, hN⟩ : ∃ N, sp.length = N := ⟨_, rfl⟩
  have HN := iC.mk hN
  have r0 := (iD hX 0).trans (show _ = some (Value.int .u8 6) from rfl)
  have r5 := (iD hX 5).trans (show _ = some (Value.int .u32 e) from rfl)
  have r6 := (iD hX 6).trans (show _ = some (Value.slice A6 sp.length q6) from rfl)
  have hcm := uO (e := e) (w := W.drew) (h6 _ (hf.trans (RoFr.of_below (iP (Below.refl _ _)) h1.Ble))) hq6 (by omega)
  have HG := iC.mk g0
  have H1 := iC.mk h1
  have HF := iC.mk hf
  have HW := iC.mk hW
  rw [hN] at hcm HW r6 ⊢
  clear h h6 hq6 hsp hb hX hf h1 g0 hW hN
  go_enter Try.func63, Try.ntmps63
  go_upto_region 1 with fail
  rw [← HW.out]
  clear HW
  obtain ⟨m, hm⟩ : ∃ m, m = IntKind.u32.wrap (s.ep + 1) := ⟨_, rfl⟩
  have HM := iC.mk (show m = (s.ep + 1) % 4294967296 from by rw [hm]; rfl)
  have HMS := iC.mk hm.symm
  clear hm
  go_upto_region 13 with fail
  refine jQ (n := 10) (S := fun w' => w'.cell? ⟨w.heap.size, 5, none⟩ = some (.int .u32 e) ∧ w'.cell? ⟨rc, 4, none⟩ = some (.int .u32 s.ep)) (ds := []) #[false, false, false, false, false, false, false, false, false, false] (by kernel_rfl) rfl rfl ⟨r5, c4⟩ (fun hHeld => ?_)
  refine jE (T := (true, [([], []), ([0], [0]), ([1], [1]), ([], []), ([3], [3]), ([4], [4]), ([5], [5]), ([6], [6]), ([7], [7]), ([2, 8], [2, 8])])) (B := [0, 1, 3, 0, 8, 24, 56, 120, 248, 511]) (by kernel_rfl) (by kernel_rfl) (fun HT_ HW_ => ?_)
  refine iM (i := 0) (N := some 35) (v := ?_) (a' := ?_) #[true, false, false, false, false, false, false, false, false, false] rfl rfl (iI HT_.out (by kernel_rfl)) (fun _ _ _ h => h) (Or.inl ⟨by rfl, ?_⟩) ?_ ?_
  rotate_left
  · intro w'
    go_simp
    with_reducible rfl
  rotate_left
  · simp only [Act.put, List.setIfInBounds_toArray, List.set_cons_zero, List.set_cons_succ, iJ, iK]
    rfl
  refine iM (i := 1) (N := some 36) (v := ?_) (a' := ?_) #[true, true, false, false, false, false, false, false, false, false] rfl rfl (iI HT_.out (by kernel_rfl)) (fun _ _ _ h => h) (Or.inl ⟨by rfl, ?_⟩) ?_ ?_
  rotate_left
  · intro w'
    go_simp
    with_reducible rfl
  rotate_left
  · simp only [Act.put, List.setIfInBounds_toArray, List.set_cons_zero, List.set_cons_succ, iJ, iK]
    rfl
  refine iM (i := 3) (N := some 38) (v := ?_) (a' := ?_) #[true, true, false, true, false, false, false, false, false, false] rfl rfl (iI HT_.out (by kernel_rfl)) (fun _ _ _ h => h) (Or.inl ⟨by rfl, ?_⟩) ?_ ?_
  rotate_left
  · intro w'
    go_simp
    with_reducible rfl
  rotate_left
  · simp only [Act.put, List.setIfInBounds_toArray, List.set_cons_zero, List.set_cons_succ, iJ, iK]
    rfl
  refine iM (i := 4) (N := some 39) (v := ?_) (a' := ?_) #[true, true, false, true, true, false, false, false, false, false] rfl rfl (iI HT_.out (by kernel_rfl)) (fun _ _ _ h => h) (Or.inl ⟨by rfl, ?_⟩) ?_ ?_
  rotate_left
  · intro w'
    go_simp
    with_reducible rfl
  rotate_left
  · simp only [Act.put, List.setIfInBounds_toArray, List.set_cons_zero, List.set_cons_succ, iJ, iK]
    rfl
  refine iM (i := 5) (N := some 40) (v := ?_) (a' := ?_) #[true, true, false, true, true, true, false, false, false, false] rfl rfl (iI HT_.out (by kernel_rfl)) (fun _ _ _ h => h) (Or.inl ⟨by rfl, ?_⟩) ?_ ?_
  rotate_left
  · intro w'
    go_simp
    with_reducible rfl
  rotate_left
  · simp only [Act.put, List.setIfInBounds_toArray, List.set_cons_zero, List.set_cons_succ, iJ, iK]
    rfl
  refine iM (i := 6) (N := some 41) (v := ?_) (a' := ?_) #[true, true, false, true, true, true, true, false, false, false] rfl rfl (iI HT_.out (by kernel_rfl)) (fun _ _ _ h => h) (Or.inl ⟨by rfl, ?_⟩) ?_ ?_
  rotate_left
  · intro w'
    go_simp
    with_reducible rfl
  rotate_left
  · simp only [Act.put, List.setIfInBounds_toArray, List.set_cons_zero, List.set_cons_succ, iJ, iK]
    rfl
  refine jH (i := 2) (N := some 37) (v := ?_) (a' := ?_) #[true, true, true, true, true, true, true, false, false, false] rfl rfl (iT HT_.out HW_.out (by kernel_rfl)) (fun _ _ _ h => h) (Or.inl ⟨by rfl, ?_⟩) hHeld ?_ ?_
  rotate_left
  · rintro w' ⟨s0, s1⟩
    go_simp
    with_reducible rfl
  rotate_left
  · simp only [Act.put, List.setIfInBounds_toArray, List.set_cons_zero, List.set_cons_succ, iJ, iK]
    rfl
  refine jH (i := 7) (N := some 42) (v := ?_) (a' := ?_) #[true, true, true, true, true, true, true, true, false, false] rfl rfl (iT HT_.out HW_.out (by kernel_rfl)) (fun _ _ _ h => h) (Or.inl ⟨by rfl, ?_⟩) hHeld ?_ ?_
  rotate_left
  · rintro w' ⟨s0, s1⟩
    go_simp
    with_reducible rfl
  rotate_left
  · simp only [Act.put, List.setIfInBounds_toArray, List.set_cons_zero, List.set_cons_succ, iJ, iK]
    rfl
  refine iM (i := 8) (N := some 43) (v := ?_) (a' := ?_) #[true, true, true, true, true, true, true, true, true, false] rfl rfl (iI HT_.out (by kernel_rfl)) (fun _ _ _ h => h) (Or.inl ⟨by rfl, ?_⟩) ?_ ?_
  rotate_left
  · intro w'
    go_simp
    with_reducible rfl
  rotate_left
  · simp only [Act.put, List.setIfInBounds_toArray, List.set_cons_zero, List.set_cons_succ, iJ, iK]
    rfl
  refine iM (i := 9) (N := some 44) (v := ?_) (a' := ?_) #[true, true, true, true, true, true, true, true, true, true] rfl rfl (iI HT_.out (by kernel_rfl)) (fun _ _ _ h => h) (Or.inl ⟨by rfl, ?_⟩) ?_ ?_
  rotate_left
  · intro w'
    go_simp
    with_reducible rfl
  rotate_left
  · simp only [Act.put, List.setIfInBounds_toArray, List.set_cons_zero, List.set_cons_succ, iJ, iK]
    rfl
  refine kP (jM HT_.out (by kernel_rfl)) ?_
  by_cases he : e = m
  · have hne : (e != m) = false := by simp [he]
    rw [HMS.out, hne]
    have HE := iC.mk (And.intro (show s.mapE e = 0 from by unfold CS.mapE; rw [if_pos (by rw [he]; exact HM.out)]) (show s.map_ e sp = ⟨s.L, s.last, s.starts, s.begun, e, sp⟩ from by unfold CS.map_; rw [if_pos (by rw [he]; exact HM.out)]))
    clear he hne HT_ HW_ hHeld
    go_wp2_with fail
    go_at_call 84
    refine hcm.mono ?_
    rintro e' w2 ⟨A9, q9, rfl, hR, hb2⟩
    have hb12 : Below W.heap.size W w2 := iQ (iP (Below.refl _ _)) hb2
    have hho := (H1.out.below hb12).hold (e := e) (A := A9) (q := q9) (sp := sp) (Kd.R_lower (by rw [HN.out]; exact hR) (H1.out.below (iP (Below.refl _ _))).Ble)
    rw [HN.out] at hho
    have HHO := iC.mk hho
    have hg2 := iV hb12 HG.out
    have d4 := (iD hg2 4).trans (show _ = some (Value.int .u32 s.ep) from rfl)
    have d5 := (iD hg2 5).trans (show _ = some (Value.slice A' s.sp.length k') from rfl)
    have z4 := iE hg2 4
    have z5 := iE hg2 5
    have HFF := iC.mk (HF.out.trans (RoFr.of_below hb12 H1.out.Ble))
    clear hcm hR hb2 hb12 hho hg2 c4 c5 r0 r5 r6
    go_wp2
    go_ret
    rw [HE.out.1, HE.out.2]
    exact ⟨rfl, HHO.out.1, HFF.out.trans HHO.out.2⟩
  · have hne : (e != m) = true := by simpa using he
    rw [HMS.out, hne]
    have HE := iC.mk (And.intro (show s.mapE e = 120 from by unfold CS.mapE; rw [if_neg (by rw [← HM.out]; exact he)]) (show s.map_ e sp = s from by unfold CS.map_; rw [if_neg (by rw [← HM.out]; exact he)]))
    clear he hne HT_ HW_ hHeld hcm
    go_wp2
    go_ret
    rw [HE.out.1, HE.out.2]
    exact ⟨rfl, H1.out.below (iP (Below.refl _ _)), HF.out.trans (RoFr.of_below (iP (Below.refl _ _)) H1.out.Ble)⟩
attribute [-go_sem] Instr.loadAt
set_option maxRecDepth 20000 in
set_option maxHeartbeats 4000000 in
theorem qX (h : Ro w B rc s) (hok : s.Ok) (hn : s.L.length ≤ 1000000) (hr : ∀ W', RoFr B w W' → (Kd.int .i64).C W' A l.length l) (hq : l.length ≤ q) (hl : Rt l) :
    Calls Try.prog 63 #[.pointer (some ⟨rc, 0, none⟩), .agg #[.int .u8 2, .int .u32 id, .int .u32 t, .slice A l.length q, x4, .int .u32 e, .slice A6 sp.length q6, x7, x8, x9]] w fun e_ w' => e_ = .returned (.int .i64 (s.commitE id t)) ∧ Ro w' B rc (s.commit id t l) ∧ RoFr B w w' := by
  obtain ⟨W, hW⟩ : ∃ W, W = w.alloc (.cells #[.int .u8 2, .int .u32 id, .int .u32 t, .slice A l.length q, x4, .int .u32 e, .slice A6 sp.length q6, x7, x8, x9] 48) := ⟨_, rfl⟩
  have hb : Below w.heap.size w W := by rw [hW]; exact iF (Below.refl _ _) _
  have hX : W.heap[w.heap.size]? = some (.cells #[.int .u8 2, .int .u32 id, .int .u32 t, .slice A l.length q, x4, .int .u32 e, .slice A6 sp.length q6, x7, x8, x9] 48 (0, 0)) := by rw [hW]; exact jD rfl
  have hf := RoFr.of_below (B := B) hb h.Ble
  have hcall := vK (id := id) (t := t) (v0 := .int .u8 2) (v4 := x4) (v5 := .int .u32 e) (v6 := .slice A6 sp.length q6) (v7 := x7) (v8 := x8) (v9 := x9) (h.below hb) hok hn (fun W' hw => hr W' (hf.trans hw)) hq hl
  have l0 := fun (_ : True) => JB ((iD hX 0).trans (show _ = some (Value.int .u8 2) from rfl))
  have l1 := fun (_ : True) => rJ hX rfl
  have HF := iC.mk hf
  have HW := iC.mk hW
  clear h hok hn hr hl hb hX hf hW
  go_enter Try.func63, Try.ntmps63
  go_upto_region 1 with fail
  rw [← HW.out]
  clear HW
  go_wp2_with (go_at_call 82; refine hcall.mono ?_; rintro e_ w1 ⟨rfl, h1, hf1⟩)
  go_ret
  exact ⟨rfl, h1, HF.out.trans hf1⟩
set_option maxRecDepth 20000 in
set_option maxHeartbeats 4000000 in
theorem rZ (h : Ro w B rc s) (hn : s.L.length ≤ 1000000) :
    Calls Try.prog 63 #[.pointer (some ⟨rc, 0, none⟩), .agg #[.int .u8 5, .int .u32 id, .int .u32 t, .slice A l.length q, x4, .int .u32 e, .slice A6 sp.length q6, x7, x8, x9]] w fun e_ w' => e_ = .returned (.int .i64 (s.startE id)) ∧ Ro w' B rc (s.start id) ∧ RoFr B w w' := by
  obtain ⟨W, hW⟩ : ∃ W, W = w.alloc (.cells #[.int .u8 5, .int .u32 id, .int .u32 t, .slice A l.length q, x4, .int .u32 e, .slice A6 sp.length q6, x7, x8, x9] 48) := ⟨_, rfl⟩
  have hb : Below w.heap.size w W := by rw [hW]; exact iF (Below.refl _ _) _
  have hX : W.heap[w.heap.size]? = some (.cells #[.int .u8 5, .int .u32 id, .int .u32 t, .slice A l.length q, x4, .int .u32 e, .slice A6 sp.length q6, x7, x8, x9] 48 (0, 0)) := by rw [hW]; exact jD rfl
  have hf := RoFr.of_below (B := B) hb h.Ble
  have hcall := yD (id := id) (t := t) (v0 := .int .u8 5) (v3 := .slice A l.length q) (v4 := x4) (v5 := .int .u32 e) (v6 := .slice A6 sp.length q6) (v7 := x7) (v8 := x8) (v9 := x9) (h.below hb) hn
  have l0 := fun (_ : True) => JB ((iD hX 0).trans (show _ = some (Value.int .u8 5) from rfl))
  have l1 := fun (_ : True) => rJ hX rfl
  have HF := iC.mk hf
  have HW := iC.mk hW
  clear h hn hb hX hf hW
  go_enter Try.func63, Try.ntmps63
  go_upto_region 1 with fail
  rw [← HW.out]
  clear HW
  go_wp2_with (go_at_call 83; refine hcall.mono ?_; rintro e_ w1 ⟨rfl, h1, hf1⟩)
  go_ret
  exact ⟨rfl, h1, HF.out.trans hf1⟩
end
end Go.Proofs.Ytjppookmjdaplaa.K
end

section
namespace Go.Proofs.Ytjppookmjdaplaa.K
open Go Go.RowKit Go.Maps Go.Proofs.YtjppookmjdaplaaW.PrintWords Go.Proofs.YtjppookmjdaplaaW.PrintLast Go.Proofs.YtjppookmjdaplaaW.PrintMore Go.Proofs.Ytjppookmjdaplaa.My
def zRec : Array Value := #[.int .u8 0, .int .u32 0, .int .u32 0, .slice none 0 0, .slice none 0 0, .int .u32 0, .slice none 0 0, .int .i64 0, .int .i64 0, .slice none 0 0]
/-- A block of ten cells written whole. -/
theorem oU {w : World} {g t : Nat} {c0 c1 c2 c3 c4 c5 c6 c7 c8 c9 : Value} (v0 v1 v2 v3 v4 v5 v6 v7 v8 v9 : Value) (h : w.heap[g]? = some (.cells #[c0, c1, c2, c3, c4, c5, c6, c7, c8, c9] t (0, 0))) :
    ∃ W, W = (((((((((w.setCell ⟨g, 0, none⟩ v0).setCell ⟨g, 1, none⟩ v1).setCell ⟨g, 2, none⟩ v2).setCell ⟨g, 3, none⟩ v3).setCell ⟨g, 4, none⟩ v4).setCell ⟨g, 5, none⟩ v5).setCell ⟨g, 6, none⟩ v6).setCell ⟨g, 7, none⟩ v7).setCell ⟨g, 8, none⟩ v8).setCell ⟨g, 9, none⟩ v9 ∧
      W.heap[g]? = some (.cells #[v0, v1, v2, v3, v4, v5, v6, v7, v8, v9] t (0, 0)) ∧ w.grownBy W (some g) := by
  have st := fun (a b : World) (i : Nat) (v : Value) (hab : a.grownBy b (some g)) => hab.andThen (kM b g i v) (fun j hj => .inr hj)
  refine ⟨_, rfl, ?_, st _ _ 9 v9 (st _ _ 8 v8 (st _ _ 7 v7 (st _ _ 6 v6 (st _ _ 5 v5 (st _ _ 4 v4 (st _ _ 3 v3 (st _ _ 2 v2 (st _ _ 1 v1 (kM w g 0 v0)))))))))⟩
  have h0 := iZ (cs := #[c0, c1, c2, c3, c4, c5, c6, c7, c8, c9]) (cs' := #[v0, c1, c2, c3, c4, c5, c6, c7, c8, c9]) h 0 v0 rfl
  have h1 := iZ (cs := #[v0, c1, c2, c3, c4, c5, c6, c7, c8, c9]) (cs' := #[v0, v1, c2, c3, c4, c5, c6, c7, c8, c9]) h0 1 v1 rfl
  have h2 := iZ (cs := #[v0, v1, c2, c3, c4, c5, c6, c7, c8, c9]) (cs' := #[v0, v1, v2, c3, c4, c5, c6, c7, c8, c9]) h1 2 v2 rfl
  have h3 := iZ (cs := #[v0, v1, v2, c3, c4, c5, c6, c7, c8, c9]) (cs' := #[v0, v1, v2, v3, c4, c5, c6, c7, c8, c9]) h2 3 v3 rfl
  have h4 := iZ (cs := #[v0, v1, v2, v3, c4, c5, c6, c7, c8, c9]) (cs' := #[v0, v1, v2, v3, v4, c5, c6, c7, c8, c9]) h3 4 v4 rfl
  have h5 := iZ (cs := #[v0, v1, v2, v3, v4, c5, c6, c7, c8, c9]) (cs' := #[v0, v1, v2, v3, v4, v5, c6, c7, c8, c9]) h4 5 v5 rfl
  have h6 := iZ (cs := #[v0, v1, v2, v3, v4, v5, c6, c7, c8, c9]) (cs' := #[v0, v1, v2, v3, v4, v5, v6, c7, c8, c9]) h5 6 v6 rfl
  have h7 := iZ (cs := #[v0, v1, v2, v3, v4, v5, v6, c7, c8, c9]) (cs' := #[v0, v1, v2, v3, v4, v5, v6, v7, c8, c9]) h6 7 v7 rfl
  have h8 := iZ (cs := #[v0, v1, v2, v3, v4, v5, v6, v7, c8, c9]) (cs' := #[v0, v1, v2, v3, v4, v5, v6, v7, v8, c9]) h7 8 v8 rfl
  have h9 := iZ (cs := #[v0, v1, v2, v3, v4, v5, v6, v7, v8, c9]) (cs' := #[v0, v1, v2, v3, v4, v5, v6, v7, v8, v9]) h8 9 v9 rfl
  exact h9
/-- Is a bit of b 1? -/
def bitB (b : Int) (i : Nat) : Bool := bits BinOp.and IntKind.u8 (b / 2 ^ i) 1 == 1
/-- The numbers of the bits that are 1, of the first so many. -/
def lV (b : Int) : Nat → List Int
  | 0 => []
  | i + 1 => if bitB b i then lV b i ++ [(i : Int)] else lV b i
abbrev nP (b : Int) : List Int := lV b 6
theorem IG (b : Int) : ∀ i, (lV b i).length ≤ i
  | 0 => Nat.le_refl _
  | i + 1 => by
    have := IG b i
    unfold lV; split
    · rw [List.length_append]; simp; omega
    · omega
theorem qZ (b : Int) : ∀ i, (∀ x ∈ lV b i, 0 ≤ x ∧ x < i) ∧ (lV b i).Pairwise (· < ·)
  | 0 => ⟨fun x h => (by cases h), List.Pairwise.nil⟩
  | i + 1 => by
    obtain ⟨h1, h2⟩ := qZ b i
    unfold lV; split
    · refine ⟨fun x hx => ?_, List.pairwise_append.2 ⟨h2, List.pairwise_singleton _ _, fun x hx y hy => ?_⟩⟩
      · rcases List.mem_append.1 hx with hx | hx
        · have := h1 x hx; omega
        · obtain rfl := List.mem_singleton.1 hx; omega
      · obtain rfl := List.mem_singleton.1 hy; exact (h1 x hx).2
    · exact ⟨fun x hx => by have := h1 x hx; omega, h2⟩
theorem uD (b : Int) : Rt (nP b) := ⟨fun x hx => by have := (qZ b 6).1 x hx; omega, (qZ b 6).2⟩
set_option maxRecDepth 20000 in
set_option maxHeartbeats 8000000 in
theorem yG (b : Int) (w : World) (hb : 0 ≤ b ∧ b < 256) :
    Calls Try.prog 38 #[.int .u8 1, .int .u32 0, .int .u32 0, .int .u8 b, .slice none 0 0, .slice none 0 0, .int .u16 0, .int .u16 0, .slice none 0 0] w fun e w' => ∃ A c, e = .returned (.agg #[.int .u8 2, .int .u32 0, .int .u32 0, .slice A (nP b).length c, .slice none 0 0, .int .u32 0, .slice none 0 0, .int .i64 0, .int .i64 0, .slice none 0 0]) ∧ ki.R 3 w' w.heap.size (fun _ => True) (.slice A (nP b).length c) (nP b) ∧ Below w.heap.size w w' := by
  go_enter Try.func38, Try.ntmps38
  go_wp2
  obtain ⟨W, hW⟩ : ∃ W, W = ((w.alloc (.cells zRec 48)).alloc (.cells #[.int .u8 2, .int .u32 0, .int .u32 0, .slice none 0 0, .slice none 0 0, .int .u32 0, .slice none 0 0, .int .i64 0, .int .i64 0, .slice none 0 0] 48)) := ⟨_, rfl⟩
  have hX : W.heap[w.heap.size]? = some (.cells zRec 48 (0, 0)) := by rw [hW]; exact zX (jD rfl)
  have hY : W.heap[w.heap.size + 1]? = some (.cells #[.int .u8 2, .int .u32 0, .int .u32 0, .slice none 0 0, .slice none 0 0, .int .u32 0, .slice none 0 0, .int .i64 0, .int .i64 0, .slice none 0 0] 48 (0, 0)) := by rw [hW]; exact jD (by simp)
  have hb1 : Below w.heap.size w W := by rw [hW]; exact iF (iF (Below.refl _ _) _) _
  have HWS := iC.mk (show W.heap.size = w.heap.size + 2 from by rw [hW]; simp)
  have HX := iC.mk hX
  have HY := iC.mk hY
  have HB := iC.mk hb1
  unfold zRec at hW
  rw [← hW]
  have HBb := iC.mk hb
  clear hX hY hb1 hW hb
  go_loopw [20, 21] (fun p q wr => ∃ (i : Nat) (l : List Int), q = .int .i64 (i : Int) ∧ i ≤ 6 ∧ l.length ≤ i ∧ iC (l = lV b i) ∧ iC (ki.R 3 wr (w.heap.size + 2) (fun _ => True) p l) ∧ iC (Below (w.heap.size + 2) W wr)) (fun _ q _ => ((6 : Int) - intOf q).toNat)
  case atStart => exact ⟨0, [], rfl, by omega, by simp, ⟨rfl⟩, ⟨Kd.R_nil _ _ _ _ _⟩, ⟨Below.refl _ _⟩⟩
  case round =>
    obtain ⟨i, l, rfl, hi, hl, HLI, HR, HBr⟩ := hrel
    by_cases hlt : i < 6
    · have hw : wrap64 ((i : Int) + 1) = ((i + 1 : Nat) : Int) := by unfold wrap64; omega
      cases hbit : (bits BinOp.and IntKind.u8 (b / 2 ^ i) 1 == 1)
      · have HN := iC.mk (show l = lV b (i + 1) from by unfold lV; rw [show bitB b i = false from hbit, if_neg (by decide)]; exact HLI.out)
        go_wp2
        go_roundw
        case rel => exact ⟨i + 1, l, by first | rfl | rw [hw], by omega, by omega, HN, HR, HBr⟩
        case measure => (first | (simp [intOf, hw]; omega) | (simp [intOf]; omega))
      · have HN := iC.mk (show l ++ [(i : Int)] = lV b (i + 1) from by unfold lV; rw [show bitB b i = true from hbit, if_pos rfl, HLI.out])
        obtain ⟨A4, k4, rfl⟩ := Kd.R_slice HR.out
        go_wp2_with (at_builtin; refine Kd.R_append ki (w0 := W) (w.heap.size + 2) rfl (.tmp 40) (.tmp 42) 25 3 (.int .i64 0) 8 rfl Try.underlying25 zH rfl (by decide) (by omega) (.slice A4 l.length k4) l (i : Int) [.int .i64 (i : Int)] (fun _ => True) (fun _ => False) rfl rfl rfl (fun _ hk => hk.elim) (fun _ _ => trivial) HR.out HBr.out (by have := HWS.out; have := HBr.out.size; omega) (by omega) ?_; intro v1 w4 ho1 hb1 hg1 hat1; have HO4 := iC.mk ho1; have HB4 := iC.mk hb1; clear ho1 hb1 hg1 hat1)
        go_roundw
        case rel => exact ⟨i + 1, _, by first | rfl | rw [hw], by omega, by rw [List.length_append]; simp; omega, HN, HO4, HB4⟩
        case measure => (first | (simp [intOf, hw]; omega) | (simp [intOf]; omega))
    · obtain rfl : i = 6 := by omega
      obtain rfl := HLI.out
      obtain ⟨A4, k4, rfl⟩ := Kd.R_slice HR.out
      have hy := (HBr.out.block _ (by omega)).trans HY.out
      have hx := (HBr.out.block _ (by omega)).trans HX.out
      obtain ⟨y0, y1, y2, y3, y5, y6⟩ := jX hy
      have y4 := (iD hy 4).trans (show _ = some (Value.slice none 0 0) from rfl)
      have y7 := (iD hy 7).trans (show _ = some (Value.int .i64 0) from rfl)
      have y8 := (iD hy 8).trans (show _ = some (Value.int .i64 0) from rfl)
      have y9 := (iD hy 9).trans (show _ = some (Value.slice none 0 0) from rfl)
      have f2 := iE hy 2
      have f3 := iE hy 3
      go_upto_region 31 with fail
      obtain ⟨W5, hW5⟩ : ∃ x, x = ((wr.setCell ⟨w.heap.size + 1, 2, none⟩ (.int .u32 0)).setCell ⟨w.heap.size + 1, 3, none⟩ (.slice A4 (lV b 6).length k4)) := ⟨_, rfl⟩
      have hy5 : W5.heap[w.heap.size + 1]? = some (.cells #[.int .u8 2, .int .u32 0, .int .u32 0, .slice A4 (lV b 6).length k4, .slice none 0 0, .int .u32 0, .slice none 0 0, .int .i64 0, .int .i64 0, .slice none 0 0] 48 (0, 0)) := by
        rw [hW5]
        exact iZ (cs := #[.int .u8 2, .int .u32 0, .int .u32 0, .slice none 0 0, .slice none 0 0, .int .u32 0, .slice none 0 0, .int .i64 0, .int .i64 0, .slice none 0 0]) (iZ hy 2 _ rfl) 3 _ rfl
      have hx5 : W5.heap[w.heap.size]? = some (.cells zRec 48 (0, 0)) := by
        rw [hW5]
        exact (Below.heap_setCell _ _ _ _ (by simp)).trans ((Below.heap_setCell _ _ _ _ (by simp)).trans hx)
      have hb5 : Below w.heap.size w W5 := by
        rw [hW5]
        exact iH (iH (iQ HB.out (HBr.out.mono (by have := HWS.out; omega))) (Nat.le_succ _)) (Nat.le_succ _)
      have hr5 : ki.R 3 W5 w.heap.size (fun _ => True) (.slice A4 (lV b 6).length k4) (lV b 6) := by
        rw [hW5]
        exact Kd.R_lower (Kd.R_set (Kd.R_set HR.out hy (by decide) 2 _) (iZ hy 2 (.int .u32 0) rfl) (by decide) 3 _) (by omega)
      rw [← hW5]
      have HX5 := iC.mk hx5
      have HB5 := iC.mk hb5
      have HR5 := iC.mk hr5
      clear y0 y1 y2 y3 y4 y5 y6 y7 y8 y9 f2 f3 hy hx hb5 hr5 hW5
      obtain ⟨y0, y1, y2, y3, y5, y6⟩ := jX hy5
      have y4 := (iD hy5 4).trans (show _ = some (Value.slice none 0 0) from rfl)
      have y7 := (iD hy5 7).trans (show _ = some (Value.int .i64 0) from rfl)
      have y8 := (iD hy5 8).trans (show _ = some (Value.int .i64 0) from rfl)
      have y9 := (iD hy5 9).trans (show _ = some (Value.slice none 0 0) from rfl)
      obtain ⟨x0, x1, x2, x3, x5, x6⟩ := jX (show W5.heap[w.heap.size]? = some (.cells #[.int .u8 0, .int .u32 0, .int .u32 0, .slice none 0 0, .slice none 0 0, .int .u32 0, .slice none 0 0, .int .i64 0, .int .i64 0, .slice none 0 0] 48 (0, 0)) from hx5)
      have x4 := (iD hx5 4).trans (show _ = some (Value.slice none 0 0) from rfl)
      have x7 := (iD hx5 7).trans (show _ = some (Value.int .i64 0) from rfl)
      have x8 := (iD hx5 8).trans (show _ = some (Value.int .i64 0) from rfl)
      have x9 := (iD hx5 9).trans (show _ = some (Value.slice none 0 0) from rfl)
      have f0 := iE hx5 0
      have f1 := iE hx5 1
      have f2 := iE hx5 2
      have f3 := iE hx5 3
      have f4 := iE hx5 4
      have f5 := iE hx5 5
      have f6 := iE hx5 6
      have f7 := iE hx5 7
      have f8 := iE hx5 8
      have f9 := iE hx5 9
      clear hy5 hx5
      go_wp2
      obtain ⟨W6, hW6, hx6, hg6⟩ := oU (.int .u8 2) (.int .u32 0) (.int .u32 0) (.slice A4 (lV b 6).length k4) (.slice none 0 0) (.int .u32 0) (.slice none 0 0) (.int .i64 0) (.int .i64 0) (.slice none 0 0) (show W5.heap[w.heap.size]? = some (.cells #[.int .u8 0, .int .u32 0, .int .u32 0, .slice none 0 0, .slice none 0 0, .int .u32 0, .slice none 0 0, .int .i64 0, .int .i64 0, .slice none 0 0] 48 (0, 0)) from HX5.out)
      rw [← hW6]
      refine bodyPost_ret (results_cell_row rfl _ _ w.heap.size 48 _ (0, 0) _ rfl hx6 Try.underlying48 rfl (by kernel_rfl)) rfl ?_
      exact ⟨A4, k4, rfl, kZ HR5.out (fun j q cs hq hj => jL hg6 hj (fun e => by subst e; rw [HX5.out] at hj; cases hj; simp [show ki.E = [] from rfl] at hq)), HB5.out.grown hg6 HB5.out.size (fun j hj => by cases hj; exact Nat.le_refl _)⟩
set_option maxRecDepth 20000 in
theorem pF (b : Int) (w : World) (hb : 0 ≤ b ∧ b < 256) :
    Calls Try.prog 11 #[.int .u8 b] w fun e w' => ∃ A c, e = .returned (.slice A (nP b).length c) ∧ ki.R 3 w' w.heap.size (fun _ => True) (.slice A (nP b).length c) (nP b) ∧ Below w.heap.size w w' := by
  have hcall := yG b w hb
  have hfd := fun (w : World) (A : Option Addr) (n c : Nat) => LC w (.int .u8 2) (.int .u32 0) (.int .u32 0) (.slice none 0 0) (.int .u32 0) (.slice none 0 0) (.int .i64 0) (.int .i64 0) (.slice none 0 0) A n c
  clear hb
  go_enter Try.func11, Try.ntmps11
  go_wp2_with (go_at_call 38; refine hcall.mono ?_; rintro e w1 ⟨A, c, rfl, hR, hB⟩)
  go_ret
  exact ⟨A, c, rfl, hR, hB⟩
end Go.Proofs.Ytjppookmjdaplaa.K
end

section
namespace Go.Proofs.Ytjppookmjdaplaa.K
open Go Go.RowKit Go.Maps Go.Proofs.YtjppookmjdaplaaW.PrintWords Go.Proofs.YtjppookmjdaplaaW.PrintLast Go.Proofs.YtjppookmjdaplaaW.PrintMore Go.Proofs.Ytjppookmjdaplaa.My
variable {Z : Nat}
abbrev ku : Kd Int := Kd.int .u32
theorem NE : (Try.prog.info? 28).map (fun i => (i.zero, i.size, i.bytes)) = some (some (.int .u32 0), ku.sz, 4) := by kernel_rfl
/-- No number told is above the last one. -/
structure Low (s : CS) (ids : List Int) : Prop where
  key : ∀ p ∈ s.L, p.1 ≤ s.starts * 1000 + s.begun
  ids : ∀ x ∈ ids, x ≤ s.starts * 1000 + s.begun
theorem Low.none {s : CS} {ids : List Int} (h : Low s ids) : getB s.L (s.starts * 1000 + (s.begun + 1)) = none := by
  refine nM.2 (fun hm => ?_)
  obtain ⟨p, hp, e⟩ := List.mem_map.1 hm
  have := h.key p hp
  omega
theorem Low.begin_ {s : CS} {ids : List Int} (h : Low s ids) (hb : s.begun < 900) :
    s.beginId [0] = (s.starts * 1000 + (s.begun + 1), 0) ∧ (s.begin_ [0]).starts = s.starts ∧ (s.begin_ [0]).begun = s.begun + 1 ∧ Low (s.begin_ [0]) (ids ++ [s.starts * 1000 + (s.begun + 1)]) := by
  have hr : kW [0] = true := by decide
  have e : s.begin_ [0] = ⟨s.L ++ [(s.starts * 1000 + (s.begun + 1), ⟨1, 0, [0], [], false⟩)], s.last, s.starts, s.begun + 1, s.ep, s.sp⟩ := by
    unfold CS.begin_
    rw [if_neg (by simp [hr]), if_neg (by omega), h.none]; rfl
  refine ⟨?_, by rw [e], by rw [e], ?_⟩
  · unfold CS.beginId
    rw [if_neg (by simp [hr]), if_neg (by omega), h.none]; rfl
  · rw [e]
    refine ⟨fun p hp => ?_, fun x hx => ?_⟩
    · show p.1 ≤ s.starts * 1000 + (s.begun + 1)
      rcases List.mem_append.1 hp with hp | hp
      · have := h.key p hp; omega
      · obtain rfl := List.mem_singleton.1 hp; exact Int.le_refl _
    · show x ≤ s.starts * 1000 + (s.begun + 1)
      rcases List.mem_append.1 hx with hx | hx
      · have := h.ids x hx; omega
      · obtain rfl := List.mem_singleton.1 hx; exact Int.le_refl _
theorem Low.start {s : CS} {ids : List Int} (h : Low s ids) {d : Int} (h0 : 1 ≤ d) (h1 : s.starts + d ≤ 1000) (hb : s.begun ≤ 900) :
    s.startE (s.starts + d) = 0 ∧ (s.start (s.starts + d)).starts = s.starts + d ∧ (s.start (s.starts + d)).begun = 0 ∧ Low (s.start (s.starts + d)) ids := by
  have e : s.start (s.starts + d) = ⟨s.L.filter fun p => decide (p.2.st ≠ 1), s.last, s.starts + d, 0, s.ep, s.sp⟩ := by
    unfold CS.start; rw [if_neg (by omega)]
  refine ⟨by unfold CS.startE; rw [if_neg (by omega)], by rw [e], by rw [e], ?_⟩
  rw [e]
  refine ⟨fun p hp => ?_, fun x hx => ?_⟩
  · show p.1 ≤ (s.starts + d) * 1000 + 0
    have := h.key p (List.mem_filter.1 hp).1; omega
  · show x ≤ (s.starts + d) * 1000 + 0
    have := h.ids x hx; omega
theorem Low.new : Low CS.new [] := ⟨fun _ h => (by cases h), fun _ h => (by cases h)⟩
attribute [-go_sem] Instr.build
attribute [local go_sem] bu_2
end Go.Proofs.Ytjppookmjdaplaa.K
end

section
namespace Go.Proofs.Ytjppookmjdaplaa.K
open Go.RowKit Go.Proofs.YtjppookmjdaplaaW.PrintWords Go.Proofs.YtjppookmjdaplaaW.PrintLast Go.Proofs.YtjppookmjdaplaaW.PrintMore
attribute [local go_sem] jV kJ
def spans_Parts.l0 : Nat → Int → List (S103) → List (S103) → Int → Int → Int → List (S96) → Option ((List (S103)))
  | 0, _, _, _, _, _, _, _ => none
  | k + 1, x2, x7, x10, x11, x12, x147000, x147001 => if x12 < x11 then (if 0 ≤ x12 then (if x12 < (x10.length : Int) then (if (((oQ x10 x12).f0).length : Int) > 0 then (if 0 < (((oQ x10 x12).f0).length : Int) then ((spans_Find.f x147000 x147001 (rd ((oQ x10 x12).f0) 0)).bind fun t150 => (if t150 = x2 then ((slices_Clone_int_int.f ((oQ x10 x12).f0)).bind fun t151 => (if x7.length < 4398046511104 then (spans_Parts.l0 k x2 (x7 ++ [(⟨t151, (oQ x10 x12).f1⟩ : S103)]) x10 x11 (wrap64 (x12 + 1)) x147000 x147001) else (none))) else (spans_Parts.l0 k x2 x7 x10 x11 (wrap64 (x12 + 1)) x147000 x147001))) else (none)) else (spans_Parts.l0 k x2 x7 x10 x11 (wrap64 (x12 + 1)) x147000 x147001)) else (none)) else (none)) else (some x7)
def spans_Parts.f (k : Nat) (a0_0 : Int) (l0_1 : List (S96)) (l1 : List (S103)) (a2 : Int) : Option ((List (S103))) := spans_Parts.l0 k a2 ([] : List (S103)) l1 (l1.length : Int) 0 a0_0 l0_1
end Go.Proofs.Ytjppookmjdaplaa.K
end

section
namespace Go.Proofs.Ytjppookmjdaplaa.K
open Go.RowKit Go.Proofs.YtjppookmjdaplaaW.PrintWords Go.Proofs.YtjppookmjdaplaaW.PrintLast Go.Proofs.YtjppookmjdaplaaW.PrintMore
attribute [local go_sem] jV kJ
mutual
def spans_Sound.j0 : Nat → Int → Int → Bool → Int → List (S96) → Option (Bool)
  | 0, _, _, _, _, _ => none
  | k + 1, x1, x2, x27, x282000, x282001 => if x27 = true then (some false) else (spans_Sound.l0 k x1 x2 x282001 (x282001.length : Int) 0 (-1) (-1))
def spans_Sound.l0 : Nat → Int → Int → List (S96) → Int → Int → Int → Int → Option (Bool)
  | 0, _, _, _, _, _, _, _ => none
  | k + 1, x1, x2, x30, x31, x32, x284000, x284001 => if x32 < x31 then (if 0 ≤ x32 then (if x32 < (x30.length : Int) then (if ((jC x30 x32).f0) ≤ x284000 then (some false) else (if ((jC x30 x32).f0) ≥ x1 then (some false) else (if ((jC x30 x32).f1) = x284001 then (some false) else (if ((jC x30 x32).f1) < 0 then (some false) else (if ((jC x30 x32).f1) ≥ (mn x2 6) then (some false) else (spans_Sound.l0 k x1 x2 x30 x31 (wrap64 (x32 + 1)) ((jC x30 x32).f0) ((jC x30 x32).f1))))))) else (none)) else (none)) else (some true)
end
def spans_Sound.f (k : Nat) (a0_0 : Int) (l0_1 : List (S96)) (a1 : Int) (a2 : Int) : Option (Bool) := if (l0_1.length : Int) = 0 then (spans_Sound.j0 k a1 a2 true a0_0 l0_1) else (if (l0_1.length : Int) > 40 then (spans_Sound.j0 k a1 a2 true a0_0 l0_1) else (if 0 < (l0_1.length : Int) then (spans_Sound.j0 k a1 a2 (((jC l0_1 0).f0) != 0) a0_0 l0_1) else (none)))
end Go.Proofs.Ytjppookmjdaplaa.K
end

section
namespace Go.Proofs.Ytjppookmjdaplaa.K
open Go.RowKit Go.Proofs.YtjppookmjdaplaaW.PrintWords Go.Proofs.YtjppookmjdaplaaW.PrintLast Go.Proofs.YtjppookmjdaplaaW.PrintMore
attribute [local go_sem] jV kJ
def slices_Equal_int_int.l0 : Nat → List Int → List Int → Int → Int → Option (Bool)
  | 0, _, _, _, _ => none
  | k + 1, x0, x1, x12, x13 => if x13 < x12 then (if 0 ≤ x13 then (if x13 < (x0.length : Int) then (if x13 < (x1.length : Int) then (if (rd x0 x13) = (rd x1 x13) then (slices_Equal_int_int.l0 k x0 x1 x12 (wrap64 (x13 + 1))) else (some false)) else (none)) else (none)) else (none)) else (some true)
def slices_Equal_int_int.f (k : Nat) (l0 : List Int) (l1 : List Int) : Option (Bool) := if (l0.length : Int) = (l1.length : Int) then (slices_Equal_int_int.l0 k l0 l1 (l0.length : Int) 0) else (some false)
end Go.Proofs.Ytjppookmjdaplaa.K
end

section
namespace Go.Proofs.Ytjppookmjdaplaa.K
open Go.RowKit Go.Proofs.YtjppookmjdaplaaW.PrintWords Go.Proofs.YtjppookmjdaplaaW.PrintLast Go.Proofs.YtjppookmjdaplaaW.PrintMore
attribute [local go_sem] jV kJ
mutual
def spans_Split.j0 : Nat → Int → Int → Int → Int → Bool → Int → List (S96) → Option (Int × (List (S96)) × Int)
  | 0, _, _, _, _, _, _, _ => none
  | k + 1, x1, x3, x4, x5, x51, x289000, x289001 => if x51 = true then (some (0, ([] : List (S96)), 120)) else ((spans_Nodes.f x289000 x289001 x3 x4).bind fun t291 => ((slices_Equal_int_int.f k t291 (([x5] : List Int))).bind fun t297 => (if t297 = true then (some (0, ([] : List (S96)), 120)) else (spans_Split.l0 k x1 x3 x4 x5 ([] : List (S96)) x289001 (x289001.length : Int) 0 x289000 x289001))))
def spans_Split.l0 : Nat → Int → Int → Int → Int → List (S96) → List (S96) → Int → Int → Int → List (S96) → Option (Int × (List (S96)) × Int)
  | 0, _, _, _, _, _, _, _, _, _, _ => none
  | k + 1, x1, x3, x4, x5, x14, x62, x63, x64, x289000, x289001 => if x64 < x63 then (if 0 ≤ x64 then (if x64 < (x62.length : Int) then (if ((jC x62 x64).f0) < x3 then (if x14.length < 8796093022208 then (spans_Split.l0 k x1 x3 x4 x5 (x14 ++ [(⟨(jC x62 x64).f0, (jC x62 x64).f1⟩ : S96)]) x62 x63 (wrap64 (x64 + 1)) x289000 x289001) else (none)) else (spans_Split.l0 k x1 x3 x4 x5 x14 x62 x63 (wrap64 (x64 + 1)) x289000 x289001)) else (none)) else (none)) else (if x14.length < 8796093022208 then ((some (x14 ++ [(⟨x3, x5⟩ : S96)] : List (S96))).bind fun y303 => (if x4 < x1 then ((spans_Find.f x289000 x289001 x4).bind fun t306 => (if y303.length < 8796093022208 then (spans_Split.j2 k x4 (y303 ++ [(⟨x4, t306⟩ : S96)]) x289000 x289001) else (none))) else (spans_Split.j2 k x4 y303 x289000 x289001))) else (none))
def spans_Split.j2 : Nat → Int → List (S96) → Int → List (S96) → Option (Int × (List (S96)) × Int)
  | 0, _, _, _, _ => none
  | k + 1, x4, x14, x289000, x289001 => spans_Split.l1 k x4 x14 x289001 (x289001.length : Int) 0 x289000 x289001
def spans_Split.l1 : Nat → Int → List (S96) → List (S96) → Int → Int → Int → List (S96) → Option (Int × (List (S96)) × Int)
  | 0, _, _, _, _, _, _, _ => none
  | k + 1, x4, x14, x95, x96, x97, x289000, x289001 => if x97 < x96 then (if 0 ≤ x97 then (if x97 < (x95.length : Int) then (if ((jC x95 x97).f0) > x4 then (if x14.length < 8796093022208 then (spans_Split.l1 k x4 (x14 ++ [(⟨(jC x95 x97).f0, (jC x95 x97).f1⟩ : S96)]) x95 x96 (wrap64 (x97 + 1)) x289000 x289001) else (none)) else (spans_Split.l1 k x4 x14 x95 x96 (wrap64 (x97 + 1)) x289000 x289001)) else (none)) else (none)) else ((spans_glued.f x14).bind fun t315 => (if (t315.length : Int) > 40 then (some (0, ([] : List (S96)), 3)) else (some ((x289000 + 1) % 4294967296, t315, 0))))
end
def spans_Split.f (k : Nat) (a0_0 : Int) (l0_1 : List (S96)) (a1 : Int) (a2 : Int) (a3 : Int) (a4 : Int) (a5 : Int) : Option (Int × (List (S96)) × Int) := (spans_Sound.f k a0_0 l0_1 a1 a2).bind fun t290 => (if t290 = true then (if a1 > 10000 then (spans_Split.j0 k a1 a3 a4 a5 true a0_0 l0_1) else (if a3 < 0 then (spans_Split.j0 k a1 a3 a4 a5 true a0_0 l0_1) else (if a3 ≥ a4 then (spans_Split.j0 k a1 a3 a4 a5 true a0_0 l0_1) else (if a4 > a1 then (spans_Split.j0 k a1 a3 a4 a5 true a0_0 l0_1) else (if a5 < 0 then (spans_Split.j0 k a1 a3 a4 a5 true a0_0 l0_1) else (spans_Split.j0 k a1 a3 a4 a5 (decide (a5 ≥ (mn a2 6))) a0_0 l0_1)))))) else (spans_Split.j0 k a1 a3 a4 a5 true a0_0 l0_1))
end Go.Proofs.Ytjppookmjdaplaa.K
end

section
namespace Go.Proofs.Ytjppookmjdaplaa.K
open Go.RowKit Go.Proofs.YtjppookmjdaplaaW.PrintWords Go.Proofs.YtjppookmjdaplaaW.PrintLast Go.Proofs.YtjppookmjdaplaaW.PrintMore
attribute [local go_sem] jV kJ
def api_Span_75.l0 : Nat → List (S96) → List (S96) → Int → Int → Option (Bool)
  | 0, _, _, _, _ => none
  | k + 1, x0, x1, x12, x13 => if x13 < x12 then (if 0 ≤ x13 then (if x13 < (x0.length : Int) then (if x13 < (x1.length : Int) then (if (!(((jC x0 x13).f0) == ((jC x1 x13).f0)) || (!(((jC x0 x13).f1) == ((jC x1 x13).f1)))) = true then (some false) else (api_Span_75.l0 k x0 x1 x12 (wrap64 (x13 + 1)))) else (none)) else (none)) else (none)) else (some true)
def api_Span_75.f (k : Nat) (l0 : List (S96)) (l1 : List (S96)) : Option (Bool) := if (l0.length : Int) = (l1.length : Int) then (api_Span_75.l0 k l0 l1 (l0.length : Int) 0) else (some false)
end Go.Proofs.Ytjppookmjdaplaa.K
end

section
namespace Go.Proofs.Ytjppookmjdaplaa.K
open Go.RowKit Go.Proofs.YtjppookmjdaplaaW.PrintWords Go.Proofs.YtjppookmjdaplaaW.PrintLast Go.Proofs.YtjppookmjdaplaaW.PrintMore
attribute [local go_sem] jV kJ
def spans_Same.f (k : Nat) (a0_0 : Int) (l0_1 : List (S96)) (a1_0 : Int) (l1_1 : List (S96)) : Option (Bool) := if a0_0 = a1_0 then ((api_Span_75.f k l0_1 l1_1).bind fun t322 => (some t322)) else (some false)
end Go.Proofs.Ytjppookmjdaplaa.K
end

section
namespace Go.Proofs.Ytjppookmjdaplaa.K
open Go.RowKit Go.Proofs.YtjppookmjdaplaaW.PrintWords Go.Proofs.YtjppookmjdaplaaW.PrintLast Go.Proofs.YtjppookmjdaplaaW.PrintMore
attribute [local go_sem] jV kJ
def stratumlaw12_known.f (k : Nat)  : Option (Bool) := (spans_New.f).bind fun bt323 => ((spans_Split.f k bt323.1 bt323.2 100 2 30 60 1).bind fun bt327 => ((spans_Nodes.f bt327.1 bt327.2.1 0 100).bind fun t333 => (if bt327.2.2 = 0 then (if (bt327.2.1.length : Int) = 3 then (if 1 < (bt327.2.1.length : Int) then (if ((jC bt327.2.1 1).f0) = 30 then (if 2 < (bt327.2.1.length : Int) then (if ((jC bt327.2.1 2).f1) = 0 then (if bt327.1 = 2 then ((spans_Find.f bt327.1 bt327.2.1 59).bind fun t338 => (if t338 = 1 then ((spans_Find.f bt327.1 bt327.2.1 60).bind fun t339 => (if t339 = 0 then (if (t333.length : Int) = 2 then ((spans_Sound.f k bt327.1 bt327.2.1 100 2).bind fun t340 => (if t340 = true then ((spans_Same.f k bt327.1 bt327.2.1 bt327.1 bt327.2.1).bind fun t341 => (if t341 = true then ((spans_Parts.f k bt327.1 bt327.2.1 (([(⟨(([31] : List Int)), 0⟩ : S103)] : List (S103))) 1).bind fun t348 => (some ((t348.length : Int) == 1))) else (some false))) else (some false))) else (some false)) else (some false))) else (some false))) else (some false)) else (some false)) else (none)) else (some false)) else (none)) else (some false)) else (some false))))
end Go.Proofs.Ytjppookmjdaplaa.K
end

section
namespace Go.Proofs.Ytjppookmjdaplaa.K
open Go Go.RowKit Go.Proofs.YtjppookmjdaplaaW.PrintWords Go.Proofs.YtjppookmjdaplaaW.PrintLast Go.Proofs.YtjppookmjdaplaaW.PrintMore
theorem drop_cons {α : Type} (xs : List α) (i : Nat) (h : i < xs.length) : xs.drop i = xs[i] :: xs.drop (i + 1) := by rw [List.drop_eq_getElem_cons h]
theorem J8 (i : Nat) (h : (i : Int) ≤ 8796093022208) : wrap64 ((i : Int) + 1) = ((i + 1 : Nat) : Int) := by unfold wrap64; omega
end Go.Proofs.Ytjppookmjdaplaa.K
end

section
namespace Go.Proofs.Ytjppookmjdaplaa.K
open Go Go.RowKit Go.Proofs.YtjppookmjdaplaaW.PrintWords Go.Proofs.YtjppookmjdaplaaW.PrintLast Go.Proofs.YtjppookmjdaplaaW.PrintMore
/-- The node at u: the last member at or below u; d ahead of all. -/
def fd (d : Int) (l : List TSp) (u : Int) : Int := l.foldl (fun n x => if x.f0 ≤ u then x.f1 else n) d
theorem lI (d : Int) (x : TSp) (l : List TSp) (u : Int) : fd d (x :: l) u = fd (if x.f0 ≤ u then x.f1 else d) l u := rfl
theorem lY (d : Int) (l r : List TSp) (u : Int) : fd d (l ++ r) u = fd (fd d l u) r u := by unfold fd; rw [List.foldl_append]
theorem mO (l : List TSp) (u : Int) : kU l u = fd (-1) l u := by
  unfold kU fd
  suffices h : ∀ (r : List TSp), ((r.find? (fun x => decide (x.f0 ≤ u))).map (fun x => x.f1)).getD (-1) = r.foldr (fun x n => if x.f0 ≤ u then x.f1 else n) (-1) by
    rw [h, List.foldr_reverse]
  intro r
  induction r with
  | nil => rfl
  | cons x r ih =>
    rw [List.find?_cons, List.foldr_cons]
    by_cases hx : x.f0 ≤ u
    · simp [hx]
    · simp only [hx, decide_false, if_false]; exact ih
/-- All begin above u: the node at u is the one ahead. -/
theorem mF {d : Int} {l : List TSp} {u : Int} (h : ∀ x ∈ l, u < x.f0) : fd d l u = d := by
  induction l generalizing d with
  | nil => rfl
  | cons x r ih =>
    rw [lI, if_neg (by have := h x (by simp); omega)]
    exact ih (fun y hy => h y (by simp [hy]))
/-- Members that rise, each from lo on and below hi; neighbours unlike, the first unlike d. -/
def Ris : Int → Int → Int → List TSp → Prop
  | _, _, _, [] => True
  | lo, hi, d, x :: r => lo ≤ x.f0 ∧ x.f0 < hi ∧ x.f1 ≠ d ∧ Ris (x.f0 + 1) hi x.f1 r
theorem Ris.lo {lo hi d : Int} {l : List TSp} (h : Ris lo hi d l) : ∀ x ∈ l, lo ≤ x.f0 ∧ x.f0 < hi := by
  induction l generalizing lo d with
  | nil => simp
  | cons y r ih =>
    intro x hx
    rcases List.mem_cons.1 hx with rfl | hx
    · exact ⟨h.1, h.2.1⟩
    · have := ih h.2.2.2 x hx
      have := h.1
      omega
theorem Ris.weak {lo lo' hi d : Int} {l : List TSp} (h : Ris lo hi d l) (hl : ∀ x ∈ l, lo' ≤ x.f0) : Ris lo' hi d l := by
  cases l with
  | nil => trivial
  | cons x r => exact ⟨hl x (by simp), h.2⟩
/-- Where f turns, from v on, n members. -/
def cn (f : Int → Int) : Int → Int → Nat → List TSp
  | _, _, 0 => []
  | last, v, n + 1 => if f v = last then cn f last (v + 1) n else ⟨v, f v⟩ :: cn f (f v) (v + 1) n
theorem xA (f : Int → Int) : ∀ (n : Nat) (v d : Int) (l : List TSp), Ris v (v + n) d l → (∀ u, v ≤ u → u < v + n → f u = fd d l u) → cn f d v n = l
  | 0, v, d, l, hr, _ => by
    cases l with
    | nil => rfl
    | cons x r => have := hr.1; have := hr.2.1; omega
  | n + 1, v, d, l, hr, hf => by
    have hv := hf v (by omega) (by omega)
    unfold cn
    by_cases hx : ∃ x r, l = x :: r ∧ x.f0 = v
    · obtain ⟨x, r, rfl, hxv⟩ := hx
      have hab : fd d (x :: r) v = x.f1 := by
        rw [lI, if_pos (by omega)]
        exact mF (fun y hy => by have := (hr.2.2.2).lo y hy; omega)
      rw [hab] at hv
      rw [if_neg (by rw [hv]; exact hr.2.2.1), hv]
      have := xA f n (v + 1) x.f1 r (by have h := hr.2.2.2; rw [hxv] at h; rwa [show v + 1 + (n : Int) = v + ((n + 1 : Nat) : Int) by omega]) (fun u h1 h2 => by
        rw [hf u (by omega) (by omega), lI, if_pos (by omega)])
      rw [this, ← hxv]
    · have hne : ∀ x ∈ l, v + 1 ≤ x.f0 := by
        intro x hxl
        cases l with
        | nil => simp at hxl
        | cons y r =>
          have h0 : y.f0 ≠ v := fun e => hx ⟨y, r, rfl, e⟩
          have h1 := hr.1
          rcases List.mem_cons.1 hxl with rfl | hm
          · omega
          · have := (hr.2.2.2).lo x hm; omega
      rw [hv, mF (fun x hxl => by have := hne x hxl; omega), if_pos rfl]
      exact xA f n (v + 1) d l (by have := hr.weak hne; rwa [show v + 1 + (n : Int) = v + ((n + 1 : Nat) : Int) by omega]) (fun u h1 h2 => hf u (by omega) (by omega))
/-- What Sound asks behind the first member. -/
def sndF (size nodes : Int) : Int → Int → List TSp → Bool
  | _, _, [] => true
  | lf, ln, x :: r => !decide (x.f0 ≤ lf) && !decide (x.f0 ≥ size) && !decide (x.f1 = ln) && !decide (x.f1 < 0) && !decide (x.f1 ≥ mn nodes 6) && sndF size nodes x.f0 x.f1 r
def oG (l : List TSp) (size nodes : Int) : Bool := decide (l.length ≠ 0) && decide (l.length ≤ 40) && decide ((rdSp l 0).f0 = 0) && sndF size nodes (-1) (-1) l
theorem nO (l : List TSp) (i : Nat) (h : i < l.length) : jC l (i : Int) = l[i] := by
  show l.getD (i : Int).toNat _ = _
  rw [Int.toNat_natCast, List.getD_eq_getElem?_getD, List.getElem?_eq_getElem h]; rfl
def gl1 : Int → List TSp → List TSp
  | _, [] => []
  | d, x :: r => if x.f1 = d then gl1 d r else x :: gl1 x.f1 r
def ln1 (d : Int) (l : List TSp) : Int := l.foldl (fun _ x => x.f1) d
theorem qP (x : TSp) : ∀ (l : List TSp) (d : Int), gl1 d (l ++ [x]) = if x.f1 = ln1 d l then gl1 d l else gl1 d l ++ [x]
  | [], d => by by_cases h : x.f1 = d <;> simp [gl1, ln1, h]
  | y :: l, d => by
    have hl : ln1 d (y :: l) = ln1 y.f1 l := rfl
    rw [List.cons_append, hl]
    by_cases hy : y.f1 = d
    · simp only [gl1, hy, if_true]; exact qP x l d
    · simp only [gl1, hy, if_false, qP x l y.f1]
      split <;> rfl
def gl0 : List TSp → List TSp
  | [] => []
  | x :: r => x :: gl1 x.f1 r
theorem JD (d : Int) (l : List TSp) (x : TSp) : ln1 d (l ++ [x]) = x.f1 := by simp [ln1]
theorem yS (xs : List TSp) : ∀ m : Nat, m ≤ xs.length → glN xs m = gl0 (xs.take m)
  | 0, _ => by simp [glN, gl0]
  | m + 1, h => by
    rw [take_snoc xs m (by omega)]
    unfold glN
    rw [yS xs m (by omega)]
    cases m with
    | zero => simp [gl0, gl1]
    | succ m =>
      have h1 := take_snoc xs m (by omega)
      cases hc : xs.take (m + 1) with
      | nil => rw [hc] at h1; simp at h1
      | cons y t =>
        have h2 : ln1 y.f1 t = (rdSp xs m).f1 := by
          have : ln1 0 (y :: t) = (rdSp xs m).f1 := by rw [← hc, h1, JD]
          exact this
        rw [List.cons_append]
        simp only [gl0, qP, h2]
        have h3 : ((m + 1 : Nat) : Int) - 1 = (m : Int) := by omega
        rw [h3]
        by_cases he : (rdSp xs ((m + 1 : Nat) : Int)).f1 = (rdSp xs m).f1
        · rw [if_pos ⟨by omega, he⟩, if_pos he]
        · rw [if_neg (fun hh => he hh.2), if_neg he]; rfl
theorem LZ {l : List TSp} {d : Int} (h : ∀ x ∈ l, x.f1 ≠ d) : gl0 l = gl1 d l := by
  cases l with
  | nil => rfl
  | cons x r => simp [gl0, gl1, h x (by simp)]
/-- Members that rise. -/
def Asc (l : List TSp) : Prop := l.Pairwise (fun a b => a.f0 < b.f0)
theorem uY : ∀ (l : List TSp) (d : Int) (x : TSp), x ∈ gl1 d l → x ∈ l
  | [], _, _, h => h
  | y :: r, d, x, h => by
    unfold gl1 at h
    split at h
    · exact List.mem_cons_of_mem _ (uY r d x h)
    · rcases List.mem_cons.1 h with rfl | h
      · exact List.mem_cons_self
      · exact List.mem_cons_of_mem _ (uY r _ x h)
theorem yN (u : Int) : ∀ (l : List TSp) (d : Int), Asc l → fd d (gl1 d l) u = fd d l u
  | [], _, _ => rfl
  | x :: r, d, ha => by
    have har : Asc r := (List.pairwise_cons.1 ha).2
    have hax := (List.pairwise_cons.1 ha).1
    unfold gl1
    by_cases hx : x.f1 = d
    · rw [if_pos hx, yN u r d har, lI]
      by_cases h : x.f0 ≤ u
      · rw [if_pos h, hx]
      · rw [if_neg h]
    · rw [if_neg hx, lI, lI]
      by_cases h : x.f0 ≤ u
      · rw [if_pos h, yN u r x.f1 har]
      · rw [if_neg h, mF (fun y hy => by have := hax y (uY r _ y hy); omega), mF (fun y hy => by have := hax y hy; omega)]
theorem uX {hi : Int} : ∀ (l : List TSp) (d lo : Int), Asc l → (∀ x ∈ l, lo ≤ x.f0 ∧ x.f0 < hi) → Ris lo hi d (gl1 d l)
  | [], _, _, _, _ => trivial
  | x :: r, d, lo, ha, hb => by
    have har : Asc r := (List.pairwise_cons.1 ha).2
    have hax := (List.pairwise_cons.1 ha).1
    unfold gl1
    by_cases hx : x.f1 = d
    · rw [if_pos hx]
      exact uX r d lo har (fun y hy => hb y (List.mem_cons_of_mem _ hy))
    · rw [if_neg hx]
      exact ⟨(hb x List.mem_cons_self).1, (hb x List.mem_cons_self).2, hx, uX r x.f1 (x.f0 + 1) har (fun y hy => ⟨by have := hax y hy; omega, (hb y (List.mem_cons_of_mem _ hy)).2⟩)⟩
/-- What glued members are: where their node turns. -/
theorem NG (l : List TSp) (n : Nat) (ha : Asc l) (hb : ∀ x ∈ l, 0 ≤ x.f0 ∧ x.f0 < n) (hn : ∀ x ∈ l, x.f1 ≠ -1) (f : Int → Int) (hf : ∀ u : Int, 0 ≤ u → u < (n : Int) → f u = fd (-1) l u) : glN l l.length = cn f (-1) 0 n := by
  rw [yS l l.length (Nat.le_refl _), List.take_length, LZ hn]
  refine (xA f n 0 (-1) _ (by rw [Int.zero_add]; exact uX l (-1) 0 ha hb) (fun u h1 h2 => ?_)).symm
  rw [hf u h1 (by omega), yN u l (-1) ha]
end Go.Proofs.Ytjppookmjdaplaa.K
end

section
namespace Go.Proofs.Ytjppookmjdaplaa.K
open Go Go.RowKit Go.Proofs.YtjppookmjdaplaaW.PrintWords Go.Proofs.YtjppookmjdaplaaW.PrintLast Go.Proofs.YtjppookmjdaplaaW.PrintMore
/-- Split's end: the members glued; too many: refused. -/
def IL (a : Int) (L : List TSp) : Int × List TSp × Int := if ((glN L L.length).length : Int) > 40 then (0, [], 3) else ((a + 1) % 4294967296, glN L L.length, 0)
/-- Split's members ahead of gluing. -/
def o8 (l : List TSp) (size tt : Int) (out : List TSp) : List TSp := (if tt < size then out ++ [⟨tt, kU l tt⟩] else out) ++ l.filter (fun x => decide (x.f0 > tt))
end Go.Proofs.Ytjppookmjdaplaa.K
end

section
namespace Go.Proofs.Ytjppookmjdaplaa.K
open Go Go.RowKit Go.Proofs.YtjppookmjdaplaaW.PrintWords Go.Proofs.YtjppookmjdaplaaW.PrintLast Go.Proofs.YtjppookmjdaplaaW.PrintMore
theorem uF (size nodes : Int) : ∀ (l : List TSp) (lf ln : Int), sndF size nodes lf ln l = true → Ris (lf + 1) size ln l ∧ ∀ x ∈ l, 0 ≤ x.f1 ∧ x.f1 < mn nodes 6
  | [], _, _, _ => ⟨trivial, by simp⟩
  | x :: r, lf, ln, h => by
    rw [show sndF size nodes lf ln (x :: r) = (!decide (x.f0 ≤ lf) && !decide (x.f0 ≥ size) && !decide (x.f1 = ln) && !decide (x.f1 < 0) && !decide (x.f1 ≥ mn nodes 6) && sndF size nodes x.f0 x.f1 r) from rfl] at h
    simp only [Bool.and_eq_true, Bool.not_eq_true', decide_eq_false_iff_not] at h
    obtain ⟨⟨⟨⟨⟨h1, h2⟩, h3⟩, h4⟩, h5⟩, h6⟩ := h
    obtain ⟨k1, k2⟩ := uF size nodes r x.f0 x.f1 h6
    refine ⟨⟨by omega, by omega, h3, k1⟩, fun y hy => ?_⟩
    rcases List.mem_cons.1 hy with rfl | hy
    · exact ⟨by omega, by omega⟩
    · exact k2 y hy
theorem Ris.asc {hi : Int} : ∀ {l : List TSp} {lo d : Int}, Ris lo hi d l → Asc l
  | [], _, _, _ => List.Pairwise.nil
  | x :: r, _, _, h => List.pairwise_cons.2 ⟨fun y hy => by have := (h.2.2.2).lo y hy; omega, h.2.2.2.asc⟩
/-- What a sound map is. -/
structure Snd (l : List TSp) (size nodes : Int) : Prop where
  len : l.length ≤ 40
  ris : Ris 0 size (-1) l
  node : ∀ x ∈ l, 0 ≤ x.f1 ∧ x.f1 < mn nodes 6
  ne : l ≠ []
  zero : (rdSp l 0).f0 = 0
theorem MH {l : List TSp} {size nodes : Int} (h : oG l size nodes = true) : Snd l size nodes := by
  unfold oG at h
  simp only [Bool.and_eq_true, decide_eq_true_eq] at h
  obtain ⟨⟨⟨h1, h2⟩, h3⟩, h4⟩ := h
  obtain ⟨k1, k2⟩ := uF size nodes l (-1) (-1) h4
  exact ⟨h2, k1, k2, fun e => h1 (by rw [e]; rfl), h3⟩
theorem xB (size nodes : Int) : ∀ (l : List TSp) (lf ln : Int), Ris (lf + 1) size ln l → (∀ x ∈ l, 0 ≤ x.f1 ∧ x.f1 < mn nodes 6) → sndF size nodes lf ln l = true
  | [], _, _, _, _ => rfl
  | x :: r, lf, ln, h, hn => by
    rw [show sndF size nodes lf ln (x :: r) = (!decide (x.f0 ≤ lf) && !decide (x.f0 ≥ size) && !decide (x.f1 = ln) && !decide (x.f1 < 0) && !decide (x.f1 ≥ mn nodes 6) && sndF size nodes x.f0 x.f1 r) from rfl]
    have h0 := hn x List.mem_cons_self
    rw [xB size nodes r x.f0 x.f1 h.2.2.2 (fun y hy => hn y (List.mem_cons_of_mem _ hy))]
    have := h.1
    have := h.2.1
    simp only [Bool.and_eq_true, Bool.not_eq_true', decide_eq_false_iff_not, and_true]
    exact ⟨⟨⟨⟨by omega, by omega⟩, h.2.2.1⟩, by omega⟩, by omega⟩
theorem ML {l : List TSp} {size nodes : Int} (h : Snd l size nodes) : oG l size nodes = true := by
  unfold oG
  simp only [Bool.and_eq_true, decide_eq_true_eq]
  exact ⟨⟨⟨fun e => h.ne (List.length_eq_zero_iff.1 e), h.len⟩, h.zero⟩, xB size nodes l (-1) (-1) h.ris h.node⟩
/-- The node at u. -/
theorem JO (u : Int) : ∀ (l : List TSp) (d : Int), fd d l u = d ∨ ∃ x ∈ l, fd d l u = x.f1
  | [], _ => .inl rfl
  | x :: r, d => by
    rw [lI]
    rcases JO u r (if x.f0 ≤ u then x.f1 else d) with h | ⟨y, hy, h⟩
    · rw [h]
      by_cases hx : x.f0 ≤ u
      · rw [if_pos hx]; exact .inr ⟨x, List.mem_cons_self, rfl⟩
      · rw [if_neg hx]; exact .inl rfl
    · exact .inr ⟨y, List.mem_cons_of_mem _ hy, h⟩
theorem Snd.find {l : List TSp} {size nodes : Int} (h : Snd l size nodes) (u : Int) (hu : 0 ≤ u) : 0 ≤ kU l u ∧ kU l u < mn nodes 6 := by
  rw [mO]
  obtain ⟨x, r, rfl⟩ : ∃ x r, l = x :: r := by
    cases l with
    | nil => exact absurd rfl h.ne
    | cons x r => exact ⟨x, r, rfl⟩
  have hz : x.f0 = 0 := h.zero
  rw [lI, if_pos (by omega)]
  rcases JO u r x.f1 with h1 | ⟨y, hy, h1⟩
  · rw [h1]; exact h.node x List.mem_cons_self
  · rw [h1]; exact h.node y (List.mem_cons_of_mem _ hy)
/-- A sound map is where its own node turns. -/
theorem Snd.cn {l : List TSp} {nodes : Int} {n : Nat} (h : Snd l n nodes) : cn (kU l) (-1) 0 n = l :=
  xA _ n 0 (-1) l (by rw [Int.zero_add]; exact h.ris) (fun u _ _ => mO l u)
end Go.Proofs.Ytjppookmjdaplaa.K
end

section
namespace Go.Proofs.Ytjppookmjdaplaa.K
open Go Go.RowKit Go.Proofs.YtjppookmjdaplaaW.PrintWords Go.Proofs.YtjppookmjdaplaaW.PrintLast Go.Proofs.YtjppookmjdaplaaW.PrintMore
theorem lX (c : Int) : ∀ {l : List TSp}, Asc l → l.filter (fun x => decide (x.f0 < c)) ++ l.filter (fun x => decide (c ≤ x.f0)) = l
  | [], _ => rfl
  | x :: r, h => by
    have hr : Asc r := (List.pairwise_cons.1 h).2
    have hx := (List.pairwise_cons.1 h).1
    by_cases hc : x.f0 < c
    · rw [List.filter_cons_of_pos (by simpa using hc), List.filter_cons_of_neg (by simp; omega), List.cons_append, lX c hr]
    · rw [List.filter_cons_of_neg (by simpa using hc), List.filter_cons_of_pos (by simp; omega)]
      have h1 : r.filter (fun x => decide (x.f0 < c)) = [] := by
        rw [List.filter_eq_nil_iff]
        intro y hy
        have := hx y hy
        simp; omega
      have h2 := lX c hr
      rw [h1, List.nil_append] at h2 ⊢
      rw [h2]
theorem qO {d u : Int} : ∀ {l : List TSp}, (∀ x ∈ l, x.f0 ≤ u) → fd d l u = ln1 d l
  | [], _ => rfl
  | x :: r, h => by
    rw [lI, if_pos (h x List.mem_cons_self)]
    exact qO (d := x.f1) (fun y hy => h y (List.mem_cons_of_mem _ hy))
theorem xC {l : List TSp} (h : Asc l) (c d u : Int) (hu : u < c) : fd d (l.filter (fun x => decide (x.f0 < c))) u = fd d l u := by
  conv => rhs; rw [← lX c h, lY]
  exact (mF (fun x hx => by have := (List.mem_filter.1 hx).2; simp at this; omega)).symm
theorem L6 {l : List TSp} (h : Asc l) (t u d : Int) (hu : t ≤ u) : fd (fd d l t) (l.filter (fun x => decide (x.f0 > t))) u = fd d l u := by
  have he : (fun x : TSp => decide (x.f0 > t)) = fun x => decide (t + 1 ≤ x.f0) := by
    funext x
    by_cases hx : x.f0 > t
    · simp [hx]; omega
    · simp [hx]; omega
  rw [he]
  conv => rhs; rw [← lX (t + 1) h, lY]
  congr 1
  rw [← xC h (t + 1) d t (by omega)]
  have hb : ∀ x ∈ l.filter (fun x => decide (x.f0 < t + 1)), x.f0 ≤ t := fun x hx => by have := (List.mem_filter.1 hx).2; simp at this; omega
  rw [qO hb, qO (fun x hx => by have := hb x hx; omega)]
theorem JL (d : Int) (x : TSp) (u : Int) : fd d [x] u = if x.f0 ≤ u then x.f1 else d := rfl
/-- The node of a member behind a split. -/
theorem MX {l : List TSp} (h : Asc l) (size fr tt node u : Int) (h1 : fr < tt) (h2 : tt ≤ size) (hu : u < size) :
    fd (-1) (o8 l size tt (l.filter (fun x => decide (x.f0 < fr)) ++ [⟨fr, node⟩])) u = if fr ≤ u ∧ u < tt then node else kU l u := by
  have hab : u < tt → ∀ d, fd d (l.filter (fun x => decide (x.f0 > tt))) u = d := fun hl d => mF (fun x hx => by have := (List.mem_filter.1 hx).2; simp at this; omega)
  have hfr : fd (-1) (l.filter (fun x => decide (x.f0 < fr)) ++ [⟨fr, node⟩]) u = if fr ≤ u then node else kU l u := by
    rw [lY, JL]
    by_cases hq : fr ≤ u
    · rw [if_pos hq, if_pos hq]
    · rw [if_neg hq, if_neg hq, xC h fr _ u (by omega), mO]
  unfold o8
  rw [lY]
  by_cases ht : tt < size
  · rw [if_pos ht, lY, JL, hfr]
    by_cases hq : tt ≤ u
    · rw [if_pos hq, if_neg (by omega), mO, L6 h tt u _ hq, mO]
    · rw [if_neg hq, hab (by omega)]
      by_cases hr : fr ≤ u
      · rw [if_pos hr, if_pos ⟨hr, by omega⟩]
      · rw [if_neg hr, if_neg (by omega)]
  · rw [if_neg ht, hab (by omega), hfr]
    by_cases hr : fr ≤ u
    · rw [if_pos hr, if_pos ⟨hr, by omega⟩]
    · rw [if_neg hr, if_neg (by omega)]
end Go.Proofs.Ytjppookmjdaplaa.K
end

section
namespace Go.Proofs.Ytjppookmjdaplaa.K
open Go Go.RowKit Go.Proofs.YtjppookmjdaplaaW.PrintWords Go.Proofs.YtjppookmjdaplaaW.PrintLast Go.Proofs.YtjppookmjdaplaaW.PrintMore
theorem yY {l : List TSp} {size fr tt node : Int} {x : TSp} (h : x ∈ o8 l size tt (l.filter (fun x => decide (x.f0 < fr)) ++ [⟨fr, node⟩])) : x ∈ l ∨ x = ⟨fr, node⟩ ∨ (tt < size ∧ x = ⟨tt, kU l tt⟩) := by
  unfold o8 at h
  rcases List.mem_append.1 h with h | h
  · by_cases ht : tt < size
    · rw [if_pos ht] at h
      rcases List.mem_append.1 h with h | h
      · rcases List.mem_append.1 h with h | h
        · exact .inl (List.mem_filter.1 h).1
        · exact .inr (.inl (by simpa using h))
      · exact .inr (.inr ⟨ht, by simpa using h⟩)
    · rw [if_neg ht] at h
      rcases List.mem_append.1 h with h | h
      · exact .inl (List.mem_filter.1 h).1
      · exact .inr (.inl (by simpa using h))
  · exact .inl (List.mem_filter.1 h).1
theorem JZ {l : List TSp} (h : Asc l) (size fr tt node : Int) (h1 : fr < tt) : Asc (o8 l size tt (l.filter (fun x => decide (x.f0 < fr)) ++ [⟨fr, node⟩])) := by
  have hf : Asc (l.filter (fun x => decide (x.f0 < fr)) ++ [⟨fr, node⟩]) := by
    refine List.pairwise_append.2 ⟨List.Pairwise.filter _ h, List.pairwise_singleton _ _, fun a ha b hb => ?_⟩
    have h2 := (List.mem_filter.1 ha).2
    simp at h2 hb
    subst hb
    exact h2
  have hlt : ∀ a ∈ l.filter (fun x => decide (x.f0 < fr)) ++ [⟨fr, node⟩], a.f0 ≤ fr := by
    intro a ha
    rcases List.mem_append.1 ha with ha | ha
    · have h2 := (List.mem_filter.1 ha).2
      simp at h2; omega
    · simp at ha; subst ha; exact Int.le_refl _
  unfold o8
  by_cases ht : tt < size
  · rw [if_pos ht]
    refine List.pairwise_append.2 ⟨List.pairwise_append.2 ⟨hf, List.pairwise_singleton _ _, fun a ha b hb => ?_⟩, List.Pairwise.filter _ h, fun a ha b hb => ?_⟩
    · have := hlt a ha
      simp at hb; subst hb
      show a.f0 < tt
      omega
    · have h2 := (List.mem_filter.1 hb).2
      simp at h2
      rcases List.mem_append.1 ha with ha | ha
      · have := hlt a ha; omega
      · simp at ha; subst ha; exact h2
  · rw [if_neg ht]
    refine List.pairwise_append.2 ⟨hf, List.Pairwise.filter _ h, fun a ha b hb => ?_⟩
    have h2 := (List.mem_filter.1 hb).2
    simp at h2
    have := hlt a ha
    omega
/-- Behind a split: the node of each member. -/
def mv (l : List TSp) (fr tt node : Int) (u : Int) : Int := if fr ≤ u ∧ u < tt then node else kU l u
theorem vV {l : List TSp} {nodes fr tt node : Int} {n : Nat} (h : Snd l n nodes) (h0 : 0 ≤ fr) (h1 : fr < tt) (h2 : tt ≤ n) (h3 : 0 ≤ node) :
    glN (o8 l n tt (l.filter (fun x => decide (x.f0 < fr)) ++ [⟨fr, node⟩])) (o8 l n tt (l.filter (fun x => decide (x.f0 < fr)) ++ [⟨fr, node⟩])).length = cn (mv l fr tt node) (-1) 0 n := by
  refine NG _ n (JZ h.ris.asc n fr tt node h1) (fun x hx => ?_) (fun x hx => ?_) _ (fun u hu0 hu => (MX h.ris.asc n fr tt node u h1 h2 hu).symm)
  · rcases yY hx with hx | rfl | ⟨ht, rfl⟩
    · exact h.ris.lo x hx
    · exact ⟨h0, by show fr < n; omega⟩
    · exact ⟨by show 0 ≤ tt; omega, ht⟩
  · rcases yY hx with hx | rfl | ⟨ht, rfl⟩
    · have := h.node x hx; omega
    · show node ≠ -1; omega
    · show kU l tt ≠ -1
      have := h.find tt (by omega); omega
end Go.Proofs.Ytjppookmjdaplaa.K
end

section
namespace Go.Proofs.Ytjppookmjdaplaa.K
open Go Go.RowKit Go.Proofs.YtjppookmjdaplaaW.PrintWords Go.Proofs.YtjppookmjdaplaaW.PrintLast Go.Proofs.YtjppookmjdaplaaW.PrintMore
def okS (l : List TSp) (size nodes fr tt node : Int) : Prop := oG l size nodes = true ∧ size ≤ 10000 ∧ 0 ≤ fr ∧ fr < tt ∧ tt ≤ size ∧ 0 ≤ node ∧ node < mn nodes 6
open Classical in
noncomputable def mW (a : Int) (l : List TSp) (size nodes fr tt node : Int) : Int × List TSp × Int :=
  if okS l size nodes fr tt node ∧ pO l fr tt ≠ [node] then IL a (o8 l size tt (l.filter (fun x => decide (x.f0 < fr)) ++ [⟨fr, node⟩])) else (0, [], 120)
end Go.Proofs.Ytjppookmjdaplaa.K
end

section
namespace Go.Proofs.Ytjppookmjdaplaa.K
open Go.RowKit Go.Proofs.YtjppookmjdaplaaW.PrintWords Go.Proofs.YtjppookmjdaplaaW.PrintLast Go.Proofs.YtjppookmjdaplaaW.PrintMore
attribute [local go_sem] jV kJ
def stratumref12_Find.l0 : Nat → Int → Int → Int → Int → List (S96) → Option (Int)
  | 0, _, _, _, _, _ => none
  | k + 1, x1, x5, x6, x106000, x106001 => if x6 < (x106001.length : Int) then (if 0 ≤ x6 then (if ((jC x106001 x6).f0) ≤ x1 then (stratumref12_Find.l0 k x1 ((jC x106001 x6).f1) (wrap64 (x6 + 1)) x106000 x106001) else (stratumref12_Find.l0 k x1 x5 (wrap64 (x6 + 1)) x106000 x106001)) else (none)) else (some x5)
def stratumref12_Find.f (k : Nat) (a0_0 : Int) (l0_1 : List (S96)) (a1 : Int) : Option (Int) := stratumref12_Find.l0 k a1 (-1) 0 a0_0 l0_1
set_option maxHeartbeats 8000000 in
set_option maxRecDepth 100000 in
theorem stratumref12_Find.calls (k : Nat) (a0_0 : Int) (A0_1 : Option Addr) (c0_1 : Nat) (l0_1 : List (S96)) (a1 : Int) (r : Int) (w : World) (hr0_1 : Kd.C k96 w A0_1 l0_1.length l0_1) (hc0_1 : l0_1.length ≤ c0_1) (h : stratumref12_Find.f k a0_0 l0_1 a1 = some r) :
    Calls Try.prog 56 #[.agg #[.int .u32 a0_0, .slice A0_1 l0_1.length c0_1], .int .i64 a1] w fun e w' => e = .returned (.int .i64 r) ∧ Below w.heap.size w w' := by
  have hu42 := Try.underlying42
  have HR0_1 := iC.mk hr0_1
  have HC0_1 := iC.mk hc0_1
  clear hr0_1 hc0_1
  have HB := iC.mk (Below.refl w.heap.size w)
  have H : (stratumref12_Find.l0 k a1 (-1) 0 a0_0 l0_1) = some r := h
  clear h
  have H' := iC.mk H
  clear H
  go_enter Try.func56, Try.ntmps56
  go_wp2_with (first | ((with_reducible refine kL (N := 2) rfl ?_); refine kF ?hg (N := 2) ?hd (cs := #[.int .u32 a0_0, .slice A0_1 l0_1.length c0_1]) (t := 42) ?hr ?_; (case hd => rfl); (case hg => rfl); (case hr => first | (go_simp; done) | (go_simp; rfl)); intro gb105 hg w3 hbox hb; have n0_ := iC.mk (iQ hb_ hb); have n1_ := iC.mk (hbox); have n2_ := iC.mk ((by rw [hg]; exact (iW hb_) : w.heap.size ≤ gb105)); have n3_ := iC.mk ((by rw [hg]; exact (iW hb_) : w.heap.size ≤ gb105)); clear HB; have HB := n0_; have BK105 := n1_; have GW105 := n2_; have GE105 := n3_; clear n0_ n1_ n2_ n3_; clear hb hbox hg))
  go_loopg [5, 6] k (fun kq v5 v6 w' => ∃ (x5_1 : Int) (x6_1 : Int), v5 = .int .i64 x5_1 ∧ v6 = .int .i64 x6_1 ∧ iC (stratumref12_Find.l0 kq a1 x5_1 x6_1 a0_0 l0_1 = some r) ∧ iC (kq ≤ k) ∧ iC (w'.heap[gb105]? = some (.cells #[.int .u32 a0_0, (.slice A0_1 l0_1.length c0_1)] 42 (0, 0))) ∧ iC (Below w.heap.size w w'))
  case atStart => exact ⟨((-1)), (0), (by first | rfl | (simp; done) | (simp [*]; done)), (by first | rfl | (simp; done) | (simp [*]; done)), H', ⟨Nat.le_refl _⟩, ⟨bk_ BK105.out⟩, ⟨by repeat (first | (with_reducible first | exact HB.out | apply iF | apply iG | apply iL | refine iH ?_ GE105.out) | exact HB.out)⟩⟩
  case round =>
    clear H'
    try clear p2
    obtain ⟨x5_1, x6_1, rfl, rfl, HA, HK1, BK105, HB⟩ := hrel
    cases gk with
    | zero => exact absurd HA.out (by simp [stratumref12_Find.l0])
    | succ k1 =>
      have H := HA.out
      clear HA
      simp only [stratumref12_Find.l0] at H
      by_cases c4 : x6_1 < (l0_1.length : Int)
      · rw [if_pos c4] at H
        have c4b0 : decide (x6_1 < (l0_1.length : Int)) = true := decide_eq_true c4
        clear c4
        by_cases c5 : 0 ≤ x6_1
        · rw [if_pos c5] at H
          have c5b0 : decide (0 ≤ x6_1) = true := decide_eq_true c5
          clear c5
          by_cases c6 : ((jC l0_1 x6_1).f0) ≤ a1
          · rw [if_pos c6] at H
            have c6b0 : decide (((jC l0_1 x6_1).f0) ≤ a1) = true := decide_eq_true c6
            clear c6
            have H' := iC.mk H
            clear H
            have hcz7_0 : wr.cell? ⟨gb105, 0, none⟩ = some (.int .u32 a0_0) := (iD BK105.out 0).trans rfl
            have hcz7_1 : wr.cell? ⟨gb105, 1, none⟩ = some (.slice A0_1 l0_1.length c0_1) := (iD BK105.out 1).trans rfl
            have hfz7_0 := iE BK105.out 0
            have hfz7_1 := iE BK105.out 1
            have p106 : 0 ≤ (x6_1 : Int) := of_decide_eq_true asm_
            have q106 : x6_1 < (l0_1.length : Int) := of_decide_eq_true asm_
            obtain ⟨ad106, e106, hx106_0, hx106_1⟩ := jW HR0_1.out x6_1 p106 q106
            cases e106
            replace hx106_0 := (HB.out.cell (World.block_lt_of_cell? w _ hx106_0)).trans hx106_0
            replace hx106_1 := (HB.out.cell (World.block_lt_of_cell? w _ hx106_1)).trans hx106_1
            replace p106 := eq_true p106
            replace q106 := eq_true q106
            have p107 : 0 ≤ (x6_1 : Int) := of_decide_eq_true asm_
            have q107 : x6_1 < (l0_1.length : Int) := of_decide_eq_true asm_
            obtain ⟨ad107, e107, hx107_0, hx107_1⟩ := jW HR0_1.out x6_1 p107 q107
            obtain rfl : ad106 = ad107 := (by injection e107)
            replace hx107_0 := (HB.out.cell (World.block_lt_of_cell? w _ hx107_0)).trans hx107_0
            replace hx107_1 := (HB.out.cell (World.block_lt_of_cell? w _ hx107_1)).trans hx107_1
            replace p107 := eq_true p107
            replace q107 := eq_true q107
            go_wp2
            go_roundg k1
            case measure => have := HK1.out; omega
            case rel => exact ⟨((jC l0_1 x6_1).f1), (wrap64 (x6_1 + 1)), (by first | rfl | (simp; done) | (simp [*]; done)), (by first | rfl | (simp; done) | (simp [*]; done)), H', ⟨by have := HK1.out; omega⟩, ⟨bk_ BK105.out⟩, ⟨by repeat (first | (with_reducible first | exact HB.out | apply iF | apply iG | apply iL | refine iH ?_ GE105.out) | exact HB.out)⟩⟩
          · rw [if_neg c6] at H
            have c6b0 : decide (((jC l0_1 x6_1).f0) ≤ a1) = false := decide_eq_false c6
            clear c6
            have H' := iC.mk H
            clear H
            have hcz8_0 : wr.cell? ⟨gb105, 0, none⟩ = some (.int .u32 a0_0) := (iD BK105.out 0).trans rfl
            have hcz8_1 : wr.cell? ⟨gb105, 1, none⟩ = some (.slice A0_1 l0_1.length c0_1) := (iD BK105.out 1).trans rfl
            have hfz8_0 := iE BK105.out 0
            have hfz8_1 := iE BK105.out 1
            have p106 : 0 ≤ (x6_1 : Int) := of_decide_eq_true asm_
            have q106 : x6_1 < (l0_1.length : Int) := of_decide_eq_true asm_
            obtain ⟨ad106, e106, hx106_0, hx106_1⟩ := jW HR0_1.out x6_1 p106 q106
            cases e106
            replace hx106_0 := (HB.out.cell (World.block_lt_of_cell? w _ hx106_0)).trans hx106_0
            replace hx106_1 := (HB.out.cell (World.block_lt_of_cell? w _ hx106_1)).trans hx106_1
            replace p106 := eq_true p106
            replace q106 := eq_true q106
            go_wp2
            go_roundg k1
            case measure => have := HK1.out; omega
            case rel => exact ⟨(x5_1), (wrap64 (x6_1 + 1)), (by first | rfl | (simp; done) | (simp [*]; done)), (by first | rfl | (simp; done) | (simp [*]; done)), H', ⟨by have := HK1.out; omega⟩, ⟨bk_ BK105.out⟩, ⟨by repeat (first | (with_reducible first | exact HB.out | apply iF | apply iG | apply iL | refine iH ?_ GE105.out) | exact HB.out)⟩⟩
        · rw [if_neg c5] at H
          exact absurd H (by simp)
      · rw [if_neg c4] at H
        have c4b0 : decide (x6_1 < (l0_1.length : Int)) = false := decide_eq_false c4
        clear c4
        obtain rfl := Option.some.inj H
        have hcz9_0 : wr.cell? ⟨gb105, 0, none⟩ = some (.int .u32 a0_0) := (iD BK105.out 0).trans rfl
        have hcz9_1 : wr.cell? ⟨gb105, 1, none⟩ = some (.slice A0_1 l0_1.length c0_1) := (iD BK105.out 1).trans rfl
        have hfz9_0 := iE BK105.out 0
        have hfz9_1 := iE BK105.out 1
        go_wp2
        go_ret
        exact ⟨by first | rfl | (simp [jF, jG] <;> rfl) | (simp [*, jF, jG] <;> rfl), by repeat (first | (with_reducible first | exact HB.out | apply iF | apply iG | apply iL | refine iH ?_ GE105.out) | exact HB.out)⟩
end Go.Proofs.Ytjppookmjdaplaa.K
end

section
namespace Go.Proofs.Ytjppookmjdaplaa.K
open Go.RowKit Go.Proofs.YtjppookmjdaplaaW.PrintWords Go.Proofs.YtjppookmjdaplaaW.PrintLast Go.Proofs.YtjppookmjdaplaaW.PrintMore
attribute [local go_sem] jV kJ
mutual
def stratumref12_Sound.l0 : Nat → Int → Int → Int → Int → List (S96) → Option (Bool)
  | 0, _, _, _, _, _ => none
  | k + 1, x1, x2, x7, x109000, x109001 => if x7 < (x109001.length : Int) then (if 0 ≤ x7 then (if ((jC x109001 x7).f1) < 0 then (stratumref12_Sound.j1 k x1 x2 x7 true x109000 x109001) else (if ((jC x109001 x7).f1) ≥ (mn x2 6) then (stratumref12_Sound.j1 k x1 x2 x7 true x109000 x109001) else (if ((jC x109001 x7).f0) ≥ x1 then (stratumref12_Sound.j1 k x1 x2 x7 true x109000 x109001) else (if x7 = 0 then (stratumref12_Sound.j1 k x1 x2 x7 (((jC x109001 x7).f0) != 0) x109000 x109001) else (stratumref12_Sound.j1 k x1 x2 x7 false x109000 x109001))))) else (none)) else (if (x109001.length : Int) ≥ 1 then (some (decide ((x109001.length : Int) ≤ 40))) else (some false))
def stratumref12_Sound.j1 : Nat → Int → Int → Int → Bool → Int → List (S96) → Option (Bool)
  | 0, _, _, _, _, _, _ => none
  | k + 1, x1, x2, x7, x55, x109000, x109001 => if x55 = true then (some false) else (if x7 > 0 then (if 0 ≤ x7 then (if x7 < (x109001.length : Int) then (if 0 ≤ (wrap64 (x7 - 1)) then (if (wrap64 (x7 - 1)) < (x109001.length : Int) then (if ((jC x109001 x7).f0) ≤ ((jC x109001 (wrap64 (x7 - 1))).f0) then (some false) else (if ((jC x109001 x7).f1) = ((jC x109001 (wrap64 (x7 - 1))).f1) then (some false) else (stratumref12_Sound.l0 k x1 x2 (wrap64 (x7 + 1)) x109000 x109001))) else (none)) else (none)) else (none)) else (none)) else (stratumref12_Sound.l0 k x1 x2 (wrap64 (x7 + 1)) x109000 x109001))
end
def stratumref12_Sound.f (k : Nat) (a0_0 : Int) (l0_1 : List (S96)) (a1 : Int) (a2 : Int) : Option (Bool) := stratumref12_Sound.l0 k a1 a2 0 a0_0 l0_1
set_option maxHeartbeats 8000000 in
set_option maxRecDepth 100000 in
theorem stratumref12_Sound.calls (k : Nat) (a0_0 : Int) (A0_1 : Option Addr) (c0_1 : Nat) (l0_1 : List (S96)) (a1 : Int) (a2 : Int) (r : Bool) (w : World) (hr0_1 : Kd.C k96 w A0_1 l0_1.length l0_1) (hc0_1 : l0_1.length ≤ c0_1) (h : stratumref12_Sound.f k a0_0 l0_1 a1 a2 = some r) :
    Calls Try.prog 69 #[.agg #[.int .u32 a0_0, .slice A0_1 l0_1.length c0_1], .int .i64 a1, .int .i64 a2] w fun e w' => e = .returned (.bool r) ∧ Below w.heap.size w w' := by
  have hu42 := Try.underlying42
  have HR0_1 := iC.mk hr0_1
  have HC0_1 := iC.mk hc0_1
  clear hr0_1 hc0_1
  have HB := iC.mk (Below.refl w.heap.size w)
  have H : (stratumref12_Sound.l0 k a1 a2 0 a0_0 l0_1) = some r := h
  clear h
  have H' := iC.mk H
  clear H
  go_enter Try.func69, Try.ntmps69
  go_wp2_with (first | ((with_reducible refine kL (N := 3) rfl ?_); (try (refine kK (by rfl) ?_; dsimp only)); refine kF ?hg (N := 3) ?hd (cs := #[.int .u32 a0_0, .slice A0_1 l0_1.length c0_1]) (t := 42) ?hr ?_; (case hd => rfl); (case hg => rfl); (case hr => first | (go_simp; done) | (go_simp; rfl)); intro gb108 hg w4 hbox hb; have n0_ := iC.mk (iQ hb_ hb); have n1_ := iC.mk (hbox); have n2_ := iC.mk ((by rw [hg]; exact (iW hb_) : w.heap.size ≤ gb108)); have n3_ := iC.mk ((by rw [hg]; exact (iW hb_) : w.heap.size ≤ gb108)); clear HB; have HB := n0_; have BK108 := n1_; have GW108 := n2_; have GE108 := n3_; clear n0_ n1_ n2_ n3_; clear hb hbox hg))
  repeat (go_quiet (first | ((with_reducible refine kL (N := 3) rfl ?_); (try (refine kK (by rfl) ?_; dsimp only)); refine kF ?hg (N := 3) ?hd (cs := #[.int .u32 a0_0, .slice A0_1 l0_1.length c0_1]) (t := 42) ?hr ?_; (case hd => rfl); (case hg => rfl); (case hr => first | (go_simp; done) | (go_simp; rfl)); intro gb108 hg w4 hbox hb; have n0_ := iC.mk (iQ hb_ hb); have n1_ := iC.mk (hbox); have n2_ := iC.mk ((by rw [hg]; exact (iW hb_) : w.heap.size ≤ gb108)); have n3_ := iC.mk ((by rw [hg]; exact (iW hb_) : w.heap.size ≤ gb108)); clear HB; have HB := n0_; have BK108 := n1_; have GW108 := n2_; have GE108 := n3_; clear n0_ n1_ n2_ n3_; clear hb hbox hg)); try go_wp2_with (first | ((with_reducible refine kL (N := 3) rfl ?_); (try (refine kK (by rfl) ?_; dsimp only)); refine kF ?hg (N := 3) ?hd (cs := #[.int .u32 a0_0, .slice A0_1 l0_1.length c0_1]) (t := 42) ?hr ?_; (case hd => rfl); (case hg => rfl); (case hr => first | (go_simp; done) | (go_simp; rfl)); intro gb108 hg w4 hbox hb; have n0_ := iC.mk (iQ hb_ hb); have n1_ := iC.mk (hbox); have n2_ := iC.mk ((by rw [hg]; exact (iW hb_) : w.heap.size ≤ gb108)); have n3_ := iC.mk ((by rw [hg]; exact (iW hb_) : w.heap.size ≤ gb108)); clear HB; have HB := n0_; have BK108 := n1_; have GW108 := n2_; have GE108 := n3_; clear n0_ n1_ n2_ n3_; clear hb hbox hg)))
  go_loopg [7] k (fun kq v7 w' => ∃ (x7_1 : Int), v7 = .int .i64 x7_1 ∧ iC (stratumref12_Sound.l0 kq a1 a2 x7_1 a0_0 l0_1 = some r) ∧ iC (kq ≤ k) ∧ iC (w'.heap[gb108]? = some (.cells #[.int .u32 a0_0, (.slice A0_1 l0_1.length c0_1)] 42 (0, 0))) ∧ iC (Below w.heap.size w w'))
  case atStart => exact ⟨(0), (by first | rfl | (simp; done) | (simp [*]; done)), H', ⟨Nat.le_refl _⟩, ⟨bk_ BK108.out⟩, ⟨by repeat (first | (with_reducible first | exact HB.out | apply iF | apply iG | apply iL | refine iH ?_ GE108.out) | exact HB.out)⟩⟩
  case round =>
    clear H'
    try clear p2
    obtain ⟨x7_1, rfl, HA, HK1, BK108, HB⟩ := hrel
    cases gk with
    | zero => exact absurd HA.out (by simp [stratumref12_Sound.l0])
    | succ k1 =>
      have H := HA.out
      clear HA
      simp only [stratumref12_Sound.l0] at H
      by_cases c5 : x7_1 < (l0_1.length : Int)
      · rw [if_pos c5] at H
        have c5b0 : decide (x7_1 < (l0_1.length : Int)) = true := decide_eq_true c5
        clear c5
        have HC6 := iC.mk H
        clear H
        have hcz7_0 : wr.cell? ⟨gb108, 0, none⟩ = some (.int .u32 a0_0) := (iD BK108.out 0).trans rfl
        have hcz7_1 : wr.cell? ⟨gb108, 1, none⟩ = some (.slice A0_1 l0_1.length c0_1) := (iD BK108.out 1).trans rfl
        have hfz7_0 := iE BK108.out 0
        have hfz7_1 := iE BK108.out 1
        go_upto_region 4 with (fail)
        repeat (go_quiet (fail); go_upto_region 4 with (fail))
        go_cut [55] (fun v55 wc => ∃ (kq : Nat) (x55_5 : Bool), v55 = .bool x55_5 ∧ iC (stratumref12_Sound.j1 kq a1 a2 x7_1 x55_5 a0_0 l0_1 = some r) ∧ iC (kq ≤ k1) ∧ iC (wc.heap[gb108]? = some (.cells #[.int .u32 a0_0, (.slice A0_1 l0_1.length c0_1)] 42 (0, 0))) ∧ iC (Below w.heap.size w wc))
        case first =>
          have H := HC6.out
          clear HC6
          by_cases c8 : 0 ≤ x7_1
          · rw [if_pos c8] at H
            have c8b0 : decide (0 ≤ x7_1) = true := decide_eq_true c8
            clear c8
            (first | rw [c8b0] | (simp only [iJ, iK]; rw [c8b0]) | skip)
            by_cases c9 : ((jC l0_1 x7_1).f1) < 0
            · rw [if_pos c9] at H
              have c9b0 : decide (((jC l0_1 x7_1).f1) < 0) = true := decide_eq_true c9
              clear c9
              have H' := iC.mk H
              clear H
              have hcz10_0 : wr.cell? ⟨gb108, 0, none⟩ = some (.int .u32 a0_0) := (iD BK108.out 0).trans rfl
              have hcz10_1 : wr.cell? ⟨gb108, 1, none⟩ = some (.slice A0_1 l0_1.length c0_1) := (iD BK108.out 1).trans rfl
              have hfz10_0 := iE BK108.out 0
              have hfz10_1 := iE BK108.out 1
              have p109 : 0 ≤ (x7_1 : Int) := of_decide_eq_true asm_
              have q109 : x7_1 < (l0_1.length : Int) := of_decide_eq_true asm_
              obtain ⟨ad109, e109, hx109_0, hx109_1⟩ := jW HR0_1.out x7_1 p109 q109
              cases e109
              replace hx109_0 := (HB.out.cell (World.block_lt_of_cell? w _ hx109_0)).trans hx109_0
              replace hx109_1 := (HB.out.cell (World.block_lt_of_cell? w _ hx109_1)).trans hx109_1
              replace p109 := eq_true p109
              replace q109 := eq_true q109
              go_wp2
              repeat (go_quiet (fail); try go_wp2)
              go_meet
              case rel => exact ⟨_, (true), (by first | rfl | (simp; done) | (simp [*]; done)), H', ⟨by have := HK1.out; first | omega | exact Nat.le_refl _⟩, ⟨bk_ BK108.out⟩, ⟨by repeat (first | (with_reducible first | exact HB.out | apply iF | apply iG | apply iL | refine iH ?_ GE108.out) | exact HB.out)⟩⟩
            · rw [if_neg c9] at H
              have c9b0 : decide (((jC l0_1 x7_1).f1) < 0) = false := decide_eq_false c9
              clear c9
              obtain ⟨ji11, hji11⟩ : ∃ j_ : Int, (mn a2 6) = j_ := ⟨_, rfl⟩
              replace H : (if ((jC l0_1 x7_1).f1) ≥ (ji11) then (stratumref12_Sound.j1 k1 a1 a2 x7_1 true a0_0 l0_1) else (if ((jC l0_1 x7_1).f0) ≥ a1 then (stratumref12_Sound.j1 k1 a1 a2 x7_1 true a0_0 l0_1) else (if x7_1 = 0 then (stratumref12_Sound.j1 k1 a1 a2 x7_1 (((jC l0_1 x7_1).f0) != 0) a0_0 l0_1) else (stratumref12_Sound.j1 k1 a1 a2 x7_1 false a0_0 l0_1)))) = some r := by first | (rw [hji11] at H; exact H) | (simp only [hji11] at H ⊢; exact H)
              have hji11_ : (if 6 < a2 then 6 else a2) = ji11 := hji11
              by_cases c12 : ((jC l0_1 x7_1).f1) ≥ (ji11)
              · rw [if_pos c12] at H
                have c12b0 : decide ((ji11) ≤ ((jC l0_1 x7_1).f1)) = true := decide_eq_true c12
                clear c12
                have H' := iC.mk H
                clear H
                have hcz13_0 : wr.cell? ⟨gb108, 0, none⟩ = some (.int .u32 a0_0) := (iD BK108.out 0).trans rfl
                have hcz13_1 : wr.cell? ⟨gb108, 1, none⟩ = some (.slice A0_1 l0_1.length c0_1) := (iD BK108.out 1).trans rfl
                have hfz13_0 := iE BK108.out 0
                have hfz13_1 := iE BK108.out 1
                have p109 : 0 ≤ (x7_1 : Int) := of_decide_eq_true asm_
                have q109 : x7_1 < (l0_1.length : Int) := of_decide_eq_true asm_
                obtain ⟨ad109, e109, hx109_0, hx109_1⟩ := jW HR0_1.out x7_1 p109 q109
                cases e109
                replace hx109_0 := (HB.out.cell (World.block_lt_of_cell? w _ hx109_0)).trans hx109_0
                replace hx109_1 := (HB.out.cell (World.block_lt_of_cell? w _ hx109_1)).trans hx109_1
                replace p109 := eq_true p109
                replace q109 := eq_true q109
                have p110 : 0 ≤ (x7_1 : Int) := of_decide_eq_true asm_
                have q110 : x7_1 < (l0_1.length : Int) := of_decide_eq_true asm_
                obtain ⟨ad110, e110, hx110_0, hx110_1⟩ := jW HR0_1.out x7_1 p110 q110
                obtain rfl : ad109 = ad110 := (by injection e110)
                replace hx110_0 := (HB.out.cell (World.block_lt_of_cell? w _ hx110_0)).trans hx110_0
                replace hx110_1 := (HB.out.cell (World.block_lt_of_cell? w _ hx110_1)).trans hx110_1
                replace p110 := eq_true p110
                replace q110 := eq_true q110
                go_wp2
                repeat (go_quiet (fail); try go_wp2)
                go_meet
                case rel => exact ⟨_, (true), (by first | rfl | (simp; done) | (simp [*]; done)), H', ⟨by have := HK1.out; first | omega | exact Nat.le_refl _⟩, ⟨bk_ BK108.out⟩, ⟨by repeat (first | (with_reducible first | exact HB.out | apply iF | apply iG | apply iL | refine iH ?_ GE108.out) | exact HB.out)⟩⟩
              · rw [if_neg c12] at H
                have c12b0 : decide ((ji11) ≤ ((jC l0_1 x7_1).f1)) = false := decide_eq_false c12
                clear c12
                by_cases c14 : ((jC l0_1 x7_1).f0) ≥ a1
                · rw [if_pos c14] at H
                  have c14b0 : decide (a1 ≤ ((jC l0_1 x7_1).f0)) = true := decide_eq_true c14
                  clear c14
                  have H' := iC.mk H
                  clear H
                  have hcz15_0 : wr.cell? ⟨gb108, 0, none⟩ = some (.int .u32 a0_0) := (iD BK108.out 0).trans rfl
                  have hcz15_1 : wr.cell? ⟨gb108, 1, none⟩ = some (.slice A0_1 l0_1.length c0_1) := (iD BK108.out 1).trans rfl
                  have hfz15_0 := iE BK108.out 0
                  have hfz15_1 := iE BK108.out 1
                  have p109 : 0 ≤ (x7_1 : Int) := of_decide_eq_true asm_
                  have q109 : x7_1 < (l0_1.length : Int) := of_decide_eq_true asm_
                  obtain ⟨ad109, e109, hx109_0, hx109_1⟩ := jW HR0_1.out x7_1 p109 q109
                  cases e109
                  replace hx109_0 := (HB.out.cell (World.block_lt_of_cell? w _ hx109_0)).trans hx109_0
                  replace hx109_1 := (HB.out.cell (World.block_lt_of_cell? w _ hx109_1)).trans hx109_1
                  replace p109 := eq_true p109
                  replace q109 := eq_true q109
                  have p110 : 0 ≤ (x7_1 : Int) := of_decide_eq_true asm_
                  have q110 : x7_1 < (l0_1.length : Int) := of_decide_eq_true asm_
                  obtain ⟨ad110, e110, hx110_0, hx110_1⟩ := jW HR0_1.out x7_1 p110 q110
                  obtain rfl : ad109 = ad110 := (by injection e110)
                  replace hx110_0 := (HB.out.cell (World.block_lt_of_cell? w _ hx110_0)).trans hx110_0
                  replace hx110_1 := (HB.out.cell (World.block_lt_of_cell? w _ hx110_1)).trans hx110_1
                  replace p110 := eq_true p110
                  replace q110 := eq_true q110
                  have p111 : 0 ≤ (x7_1 : Int) := of_decide_eq_true asm_
                  have q111 : x7_1 < (l0_1.length : Int) := of_decide_eq_true asm_
                  obtain ⟨ad111, e111, hx111_0, hx111_1⟩ := jW HR0_1.out x7_1 p111 q111
                  obtain rfl : ad109 = ad111 := (by injection e111)
                  replace hx111_0 := (HB.out.cell (World.block_lt_of_cell? w _ hx111_0)).trans hx111_0
                  replace hx111_1 := (HB.out.cell (World.block_lt_of_cell? w _ hx111_1)).trans hx111_1
                  replace p111 := eq_true p111
                  replace q111 := eq_true q111
                  go_wp2
                  repeat (go_quiet (fail); try go_wp2)
                  go_meet
                  case rel => exact ⟨_, (true), (by first | rfl | (simp; done) | (simp [*]; done)), H', ⟨by have := HK1.out; first | omega | exact Nat.le_refl _⟩, ⟨bk_ BK108.out⟩, ⟨by repeat (first | (with_reducible first | exact HB.out | apply iF | apply iG | apply iL | refine iH ?_ GE108.out) | exact HB.out)⟩⟩
                · rw [if_neg c14] at H
                  have c14b0 : decide (a1 ≤ ((jC l0_1 x7_1).f0)) = false := decide_eq_false c14
                  clear c14
                  by_cases c16 : x7_1 = 0
                  · rw [if_pos c16] at H
                    have c16b0 : (x7_1 == 0) = true := beq_iff_eq.mpr c16
                    have c16b1 : (x7_1 != 0) = false := bne_eq_false_iff_eq.mpr c16
                    clear c16
                    have H' := iC.mk H
                    clear H
                    have hcz17_0 : wr.cell? ⟨gb108, 0, none⟩ = some (.int .u32 a0_0) := (iD BK108.out 0).trans rfl
                    have hcz17_1 : wr.cell? ⟨gb108, 1, none⟩ = some (.slice A0_1 l0_1.length c0_1) := (iD BK108.out 1).trans rfl
                    have hfz17_0 := iE BK108.out 0
                    have hfz17_1 := iE BK108.out 1
                    have p109 : 0 ≤ (x7_1 : Int) := of_decide_eq_true asm_
                    have q109 : x7_1 < (l0_1.length : Int) := of_decide_eq_true asm_
                    obtain ⟨ad109, e109, hx109_0, hx109_1⟩ := jW HR0_1.out x7_1 p109 q109
                    cases e109
                    replace hx109_0 := (HB.out.cell (World.block_lt_of_cell? w _ hx109_0)).trans hx109_0
                    replace hx109_1 := (HB.out.cell (World.block_lt_of_cell? w _ hx109_1)).trans hx109_1
                    replace p109 := eq_true p109
                    replace q109 := eq_true q109
                    have p110 : 0 ≤ (x7_1 : Int) := of_decide_eq_true asm_
                    have q110 : x7_1 < (l0_1.length : Int) := of_decide_eq_true asm_
                    obtain ⟨ad110, e110, hx110_0, hx110_1⟩ := jW HR0_1.out x7_1 p110 q110
                    obtain rfl : ad109 = ad110 := (by injection e110)
                    replace hx110_0 := (HB.out.cell (World.block_lt_of_cell? w _ hx110_0)).trans hx110_0
                    replace hx110_1 := (HB.out.cell (World.block_lt_of_cell? w _ hx110_1)).trans hx110_1
                    replace p110 := eq_true p110
                    replace q110 := eq_true q110
                    have p111 : 0 ≤ (x7_1 : Int) := of_decide_eq_true asm_
                    have q111 : x7_1 < (l0_1.length : Int) := of_decide_eq_true asm_
                    obtain ⟨ad111, e111, hx111_0, hx111_1⟩ := jW HR0_1.out x7_1 p111 q111
                    obtain rfl : ad109 = ad111 := (by injection e111)
                    replace hx111_0 := (HB.out.cell (World.block_lt_of_cell? w _ hx111_0)).trans hx111_0
                    replace hx111_1 := (HB.out.cell (World.block_lt_of_cell? w _ hx111_1)).trans hx111_1
                    replace p111 := eq_true p111
                    replace q111 := eq_true q111
                    have p112 : 0 ≤ (x7_1 : Int) := of_decide_eq_true asm_
                    have q112 : x7_1 < (l0_1.length : Int) := of_decide_eq_true asm_
                    obtain ⟨ad112, e112, hx112_0, hx112_1⟩ := jW HR0_1.out x7_1 p112 q112
                    obtain rfl : ad109 = ad112 := (by injection e112)
                    replace hx112_0 := (HB.out.cell (World.block_lt_of_cell? w _ hx112_0)).trans hx112_0
                    replace hx112_1 := (HB.out.cell (World.block_lt_of_cell? w _ hx112_1)).trans hx112_1
                    replace p112 := eq_true p112
                    replace q112 := eq_true q112
                    go_wp2
                    repeat (go_quiet (fail); try go_wp2)
                    go_meet
                    case rel => exact ⟨_, ((((jC l0_1 x7_1).f0) != 0)), (by first | rfl | (simp; done) | (simp [*]; done)), H', ⟨by have := HK1.out; first | omega | exact Nat.le_refl _⟩, ⟨bk_ BK108.out⟩, ⟨by repeat (first | (with_reducible first | exact HB.out | apply iF | apply iG | apply iL | refine iH ?_ GE108.out) | exact HB.out)⟩⟩
                  · rw [if_neg c16] at H
                    have c16b0 : (x7_1 == 0) = false := beq_eq_false_iff_ne.mpr c16
                    have c16b1 : (x7_1 != 0) = true := bne_iff_ne.mpr c16
                    have H' := iC.mk H
                    clear H
                    have hcz18_0 : wr.cell? ⟨gb108, 0, none⟩ = some (.int .u32 a0_0) := (iD BK108.out 0).trans rfl
                    have hcz18_1 : wr.cell? ⟨gb108, 1, none⟩ = some (.slice A0_1 l0_1.length c0_1) := (iD BK108.out 1).trans rfl
                    have hfz18_0 := iE BK108.out 0
                    have hfz18_1 := iE BK108.out 1
                    have p109 : 0 ≤ (x7_1 : Int) := of_decide_eq_true asm_
                    have q109 : x7_1 < (l0_1.length : Int) := of_decide_eq_true asm_
                    obtain ⟨ad109, e109, hx109_0, hx109_1⟩ := jW HR0_1.out x7_1 p109 q109
                    cases e109
                    replace hx109_0 := (HB.out.cell (World.block_lt_of_cell? w _ hx109_0)).trans hx109_0
                    replace hx109_1 := (HB.out.cell (World.block_lt_of_cell? w _ hx109_1)).trans hx109_1
                    replace p109 := eq_true p109
                    replace q109 := eq_true q109
                    have p110 : 0 ≤ (x7_1 : Int) := of_decide_eq_true asm_
                    have q110 : x7_1 < (l0_1.length : Int) := of_decide_eq_true asm_
                    obtain ⟨ad110, e110, hx110_0, hx110_1⟩ := jW HR0_1.out x7_1 p110 q110
                    obtain rfl : ad109 = ad110 := (by injection e110)
                    replace hx110_0 := (HB.out.cell (World.block_lt_of_cell? w _ hx110_0)).trans hx110_0
                    replace hx110_1 := (HB.out.cell (World.block_lt_of_cell? w _ hx110_1)).trans hx110_1
                    replace p110 := eq_true p110
                    replace q110 := eq_true q110
                    have p111 : 0 ≤ (x7_1 : Int) := of_decide_eq_true asm_
                    have q111 : x7_1 < (l0_1.length : Int) := of_decide_eq_true asm_
                    obtain ⟨ad111, e111, hx111_0, hx111_1⟩ := jW HR0_1.out x7_1 p111 q111
                    obtain rfl : ad109 = ad111 := (by injection e111)
                    replace hx111_0 := (HB.out.cell (World.block_lt_of_cell? w _ hx111_0)).trans hx111_0
                    replace hx111_1 := (HB.out.cell (World.block_lt_of_cell? w _ hx111_1)).trans hx111_1
                    replace p111 := eq_true p111
                    replace q111 := eq_true q111
                    go_wp2
                    repeat (go_quiet (fail); try go_wp2)
                    go_meet
                    case rel => exact ⟨_, (false), (by first | rfl | (simp; done) | (simp [*]; done)), H', ⟨by have := HK1.out; first | omega | exact Nat.le_refl _⟩, ⟨bk_ BK108.out⟩, ⟨by repeat (first | (with_reducible first | exact HB.out | apply iF | apply iG | apply iL | refine iH ?_ GE108.out) | exact HB.out)⟩⟩
          · rw [if_neg c8] at H
            exact absurd H (by simp)
        case rest =>
          clear HC6
          try clear c1
          try clear p1
          try clear q1
          try clear hx1
          try clear p2
          try clear c5
          try clear c5b0
          try clear c6
          try clear c8
          try clear c8b0
          try clear c9
          try clear c9b0
          try clear p10
          try clear q10
          try clear hx10
          try clear p11
          try clear q11
          try clear hx11
          try clear c12
          try clear c12b0
          try clear c14
          try clear c14b0
          try clear c16
          try clear c16b0
          try clear c16b1
          try clear hcz10_0
          try clear hcz10_1
          try clear hcz13_0
          try clear hcz13_1
          try clear hcz15_0
          try clear hcz15_1
          try clear hcz17_0
          try clear hcz17_1
          try clear hcz18_0
          try clear hcz18_1
          try clear hcz7_0
          try clear hcz7_1
          try clear hfz10_0
          try clear hfz10_1
          try clear hfz13_0
          try clear hfz13_1
          try clear hfz15_0
          try clear hfz15_1
          try clear hfz17_0
          try clear hfz17_1
          try clear hfz18_0
          try clear hfz18_1
          try clear hfz7_0
          try clear hfz7_1
          try clear hx109_0
          try clear hx109_1
          try clear hx110_0
          try clear hx110_1
          try clear hx111_0
          try clear hx111_1
          try clear hx112_0
          try clear hx112_1
          try clear p109
          try clear p110
          try clear p111
          try clear p112
          try clear p2
          try clear q109
          try clear q110
          try clear q111
          try clear q112
          obtain ⟨kq, x55_5, rfl, HA, HJ5, BK108, HB⟩ := hcut
          cases kq with
          | zero => exact absurd HA.out (by simp [stratumref12_Sound.j1])
          | succ kj5 =>
            have H := HA.out
            clear HA
            simp only [stratumref12_Sound.j1] at H
            by_cases c19 : x55_5 = true
            · subst c19
              have H1 : (some false) = some r := by rw [if_pos rfl] at H; exact H
              clear H
              have H := H1
              clear H1
              obtain rfl := Option.some.inj H
              go_wp2
              repeat (go_quiet (fail); try go_wp2)
              go_ret
              exact ⟨by first | rfl | (simp [jF, jG] <;> rfl) | (simp [*, jF, jG] <;> rfl), by repeat (first | (with_reducible first | exact HB.out | apply iF | apply iG | apply iL | refine iH ?_ GE108.out) | exact HB.out)⟩
            · replace c19 := Bool.eq_false_iff.mpr c19
              subst c19
              have H1 : (if x7_1 > 0 then (if 0 ≤ x7_1 then (if x7_1 < (l0_1.length : Int) then (if 0 ≤ (wrap64 (x7_1 - 1)) then (if (wrap64 (x7_1 - 1)) < (l0_1.length : Int) then (if ((jC l0_1 x7_1).f0) ≤ ((jC l0_1 (wrap64 (x7_1 - 1))).f0) then (some false) else (if ((jC l0_1 x7_1).f1) = ((jC l0_1 (wrap64 (x7_1 - 1))).f1) then (some false) else (stratumref12_Sound.l0 kj5 a1 a2 (wrap64 (x7_1 + 1)) a0_0 l0_1))) else (none)) else (none)) else (none)) else (none)) else (stratumref12_Sound.l0 kj5 a1 a2 (wrap64 (x7_1 + 1)) a0_0 l0_1)) = some r := by rw [if_neg (show ¬ (false = true) by decide)] at H; exact H
              clear H
              have H := H1
              clear H1
              by_cases c20 : x7_1 > 0
              · rw [if_pos c20] at H
                have c20b0 : decide (0 < x7_1) = true := decide_eq_true c20
                clear c20
                by_cases c21 : 0 ≤ x7_1
                · rw [if_pos c21] at H
                  have c21b0 : decide (0 ≤ x7_1) = true := decide_eq_true c21
                  clear c21
                  by_cases c22 : x7_1 < (l0_1.length : Int)
                  · rw [if_pos c22] at H
                    have c22b0 : decide (x7_1 < (l0_1.length : Int)) = true := decide_eq_true c22
                    clear c22
                    obtain ⟨ji23, hji23⟩ : ∃ j_ : Int, (wrap64 (x7_1 - 1)) = j_ := ⟨_, rfl⟩
                    replace H : (if 0 ≤ (ji23) then (if (ji23) < (l0_1.length : Int) then (if ((jC l0_1 x7_1).f0) ≤ ((jC l0_1 (ji23)).f0) then (some false) else (if ((jC l0_1 x7_1).f1) = ((jC l0_1 (ji23)).f1) then (some false) else (stratumref12_Sound.l0 kj5 a1 a2 (wrap64 (x7_1 + 1)) a0_0 l0_1))) else (none)) else (none)) = some r := by first | (rw [hji23] at H; exact H) | (simp only [hji23] at H ⊢; exact H)
                    have hji23w : (IntKind.i64.wrap (x7_1 - 1)) = ji23 := (iJ _).trans hji23
                    by_cases c24 : 0 ≤ (ji23)
                    · rw [if_pos c24] at H
                      have c24b0 : decide (0 ≤ (ji23)) = true := decide_eq_true c24
                      clear c24
                      by_cases c25 : (ji23) < (l0_1.length : Int)
                      · rw [if_pos c25] at H
                        have c25b0 : decide ((ji23) < (l0_1.length : Int)) = true := decide_eq_true c25
                        clear c25
                        by_cases c26 : ((jC l0_1 x7_1).f0) ≤ ((jC l0_1 (ji23)).f0)
                        · rw [if_pos c26] at H
                          have c26b0 : decide (((jC l0_1 x7_1).f0) ≤ ((jC l0_1 (ji23)).f0)) = true := decide_eq_true c26
                          clear c26
                          obtain rfl := Option.some.inj H
                          have hcz27_0 : wc.cell? ⟨gb108, 0, none⟩ = some (.int .u32 a0_0) := (iD BK108.out 0).trans rfl
                          have hcz27_1 : wc.cell? ⟨gb108, 1, none⟩ = some (.slice A0_1 l0_1.length c0_1) := (iD BK108.out 1).trans rfl
                          have hfz27_0 := iE BK108.out 0
                          have hfz27_1 := iE BK108.out 1
                          have p113 : 0 ≤ (x7_1 : Int) := of_decide_eq_true asm_
                          have q113 : x7_1 < (l0_1.length : Int) := of_decide_eq_true asm_
                          obtain ⟨ad113, e113, hx113_0, hx113_1⟩ := jW HR0_1.out x7_1 p113 q113
                          cases e113
                          replace hx113_0 := (HB.out.cell (World.block_lt_of_cell? w _ hx113_0)).trans hx113_0
                          replace hx113_1 := (HB.out.cell (World.block_lt_of_cell? w _ hx113_1)).trans hx113_1
                          replace p113 := eq_true p113
                          replace q113 := eq_true q113
                          have p114 : 0 ≤ ((ji23) : Int) := of_decide_eq_true asm_
                          have q114 : (ji23) < (l0_1.length : Int) := of_decide_eq_true asm_
                          obtain ⟨ad114, e114, hx114_0, hx114_1⟩ := jW HR0_1.out (ji23) p114 q114
                          obtain rfl : ad113 = ad114 := (by injection e114)
                          replace hx114_0 := (HB.out.cell (World.block_lt_of_cell? w _ hx114_0)).trans hx114_0
                          replace hx114_1 := (HB.out.cell (World.block_lt_of_cell? w _ hx114_1)).trans hx114_1
                          replace p114 := eq_true p114
                          replace q114 := eq_true q114
                          go_wp2
                          repeat (go_quiet (fail); try go_wp2)
                          go_ret
                          exact ⟨by first | rfl | (simp [jF, jG] <;> rfl) | (simp only [← hji23]; first | rfl | (simp [jF, jG] <;> rfl)) | (simp [*, jF, jG] <;> rfl), by repeat (first | (with_reducible first | exact HB.out | apply iF | apply iG | apply iL | refine iH ?_ GE108.out) | exact HB.out)⟩
                        · rw [if_neg c26] at H
                          have c26b0 : decide (((jC l0_1 x7_1).f0) ≤ ((jC l0_1 (ji23)).f0)) = false := decide_eq_false c26
                          clear c26
                          by_cases c28 : ((jC l0_1 x7_1).f1) = ((jC l0_1 (ji23)).f1)
                          · rw [if_pos c28] at H
                            have c28b0 : (((jC l0_1 x7_1).f1) == ((jC l0_1 (ji23)).f1)) = true := beq_iff_eq.mpr c28
                            have c28b1 : (((jC l0_1 x7_1).f1) != ((jC l0_1 (ji23)).f1)) = false := bne_eq_false_iff_eq.mpr c28
                            clear c28
                            obtain rfl := Option.some.inj H
                            have hcz29_0 : wc.cell? ⟨gb108, 0, none⟩ = some (.int .u32 a0_0) := (iD BK108.out 0).trans rfl
                            have hcz29_1 : wc.cell? ⟨gb108, 1, none⟩ = some (.slice A0_1 l0_1.length c0_1) := (iD BK108.out 1).trans rfl
                            have hfz29_0 := iE BK108.out 0
                            have hfz29_1 := iE BK108.out 1
                            have p113 : 0 ≤ (x7_1 : Int) := of_decide_eq_true asm_
                            have q113 : x7_1 < (l0_1.length : Int) := of_decide_eq_true asm_
                            obtain ⟨ad113, e113, hx113_0, hx113_1⟩ := jW HR0_1.out x7_1 p113 q113
                            cases e113
                            replace hx113_0 := (HB.out.cell (World.block_lt_of_cell? w _ hx113_0)).trans hx113_0
                            replace hx113_1 := (HB.out.cell (World.block_lt_of_cell? w _ hx113_1)).trans hx113_1
                            replace p113 := eq_true p113
                            replace q113 := eq_true q113
                            have p114 : 0 ≤ ((ji23) : Int) := of_decide_eq_true asm_
                            have q114 : (ji23) < (l0_1.length : Int) := of_decide_eq_true asm_
                            obtain ⟨ad114, e114, hx114_0, hx114_1⟩ := jW HR0_1.out (ji23) p114 q114
                            obtain rfl : ad113 = ad114 := (by injection e114)
                            replace hx114_0 := (HB.out.cell (World.block_lt_of_cell? w _ hx114_0)).trans hx114_0
                            replace hx114_1 := (HB.out.cell (World.block_lt_of_cell? w _ hx114_1)).trans hx114_1
                            replace p114 := eq_true p114
                            replace q114 := eq_true q114
                            have p115 : 0 ≤ (x7_1 : Int) := of_decide_eq_true asm_
                            have q115 : x7_1 < (l0_1.length : Int) := of_decide_eq_true asm_
                            obtain ⟨ad115, e115, hx115_0, hx115_1⟩ := jW HR0_1.out x7_1 p115 q115
                            obtain rfl : ad113 = ad115 := (by injection e115)
                            replace hx115_0 := (HB.out.cell (World.block_lt_of_cell? w _ hx115_0)).trans hx115_0
                            replace hx115_1 := (HB.out.cell (World.block_lt_of_cell? w _ hx115_1)).trans hx115_1
                            replace p115 := eq_true p115
                            replace q115 := eq_true q115
                            have p116 : 0 ≤ ((ji23) : Int) := of_decide_eq_true asm_
                            have q116 : (ji23) < (l0_1.length : Int) := of_decide_eq_true asm_
                            obtain ⟨ad116, e116, hx116_0, hx116_1⟩ := jW HR0_1.out (ji23) p116 q116
                            obtain rfl : ad113 = ad116 := (by injection e116)
                            replace hx116_0 := (HB.out.cell (World.block_lt_of_cell? w _ hx116_0)).trans hx116_0
                            replace hx116_1 := (HB.out.cell (World.block_lt_of_cell? w _ hx116_1)).trans hx116_1
                            replace p116 := eq_true p116
                            replace q116 := eq_true q116
                            go_wp2
                            repeat (go_quiet (fail); try go_wp2)
                            go_ret
                            exact ⟨by first | rfl | (simp [jF, jG] <;> rfl) | (simp only [← hji23]; first | rfl | (simp [jF, jG] <;> rfl)) | (simp [*, jF, jG] <;> rfl), by repeat (first | (with_reducible first | exact HB.out | apply iF | apply iG | apply iL | refine iH ?_ GE108.out) | exact HB.out)⟩
                          · rw [if_neg c28] at H
                            have c28b0 : (((jC l0_1 x7_1).f1) == ((jC l0_1 (ji23)).f1)) = false := beq_eq_false_iff_ne.mpr c28
                            have c28b1 : (((jC l0_1 x7_1).f1) != ((jC l0_1 (ji23)).f1)) = true := bne_iff_ne.mpr c28
                            have H' := iC.mk H
                            clear H
                            have hcz30_0 : wc.cell? ⟨gb108, 0, none⟩ = some (.int .u32 a0_0) := (iD BK108.out 0).trans rfl
                            have hcz30_1 : wc.cell? ⟨gb108, 1, none⟩ = some (.slice A0_1 l0_1.length c0_1) := (iD BK108.out 1).trans rfl
                            have hfz30_0 := iE BK108.out 0
                            have hfz30_1 := iE BK108.out 1
                            have p113 : 0 ≤ (x7_1 : Int) := of_decide_eq_true asm_
                            have q113 : x7_1 < (l0_1.length : Int) := of_decide_eq_true asm_
                            obtain ⟨ad113, e113, hx113_0, hx113_1⟩ := jW HR0_1.out x7_1 p113 q113
                            cases e113
                            replace hx113_0 := (HB.out.cell (World.block_lt_of_cell? w _ hx113_0)).trans hx113_0
                            replace hx113_1 := (HB.out.cell (World.block_lt_of_cell? w _ hx113_1)).trans hx113_1
                            replace p113 := eq_true p113
                            replace q113 := eq_true q113
                            have p114 : 0 ≤ ((ji23) : Int) := of_decide_eq_true asm_
                            have q114 : (ji23) < (l0_1.length : Int) := of_decide_eq_true asm_
                            obtain ⟨ad114, e114, hx114_0, hx114_1⟩ := jW HR0_1.out (ji23) p114 q114
                            obtain rfl : ad113 = ad114 := (by injection e114)
                            replace hx114_0 := (HB.out.cell (World.block_lt_of_cell? w _ hx114_0)).trans hx114_0
                            replace hx114_1 := (HB.out.cell (World.block_lt_of_cell? w _ hx114_1)).trans hx114_1
                            replace p114 := eq_true p114
                            replace q114 := eq_true q114
                            have p115 : 0 ≤ (x7_1 : Int) := of_decide_eq_true asm_
                            have q115 : x7_1 < (l0_1.length : Int) := of_decide_eq_true asm_
                            obtain ⟨ad115, e115, hx115_0, hx115_1⟩ := jW HR0_1.out x7_1 p115 q115
                            obtain rfl : ad113 = ad115 := (by injection e115)
                            replace hx115_0 := (HB.out.cell (World.block_lt_of_cell? w _ hx115_0)).trans hx115_0
                            replace hx115_1 := (HB.out.cell (World.block_lt_of_cell? w _ hx115_1)).trans hx115_1
                            replace p115 := eq_true p115
                            replace q115 := eq_true q115
                            have p116 : 0 ≤ ((ji23) : Int) := of_decide_eq_true asm_
                            have q116 : (ji23) < (l0_1.length : Int) := of_decide_eq_true asm_
                            obtain ⟨ad116, e116, hx116_0, hx116_1⟩ := jW HR0_1.out (ji23) p116 q116
                            obtain rfl : ad113 = ad116 := (by injection e116)
                            replace hx116_0 := (HB.out.cell (World.block_lt_of_cell? w _ hx116_0)).trans hx116_0
                            replace hx116_1 := (HB.out.cell (World.block_lt_of_cell? w _ hx116_1)).trans hx116_1
                            replace p116 := eq_true p116
                            replace q116 := eq_true q116
                            go_wp2
                            repeat (go_quiet (fail); try go_wp2)
                            go_roundg kj5
                            case measure => have := HK1.out; have := HJ5.out; omega
                            case rel => exact ⟨(wrap64 (x7_1 + 1)), (by first | rfl | (simp; done) | (simp [*]; done)), H', ⟨by have := HK1.out; have := HJ5.out; omega⟩, ⟨bk_ BK108.out⟩, ⟨by repeat (first | (with_reducible first | exact HB.out | apply iF | apply iG | apply iL | refine iH ?_ GE108.out) | exact HB.out)⟩⟩
                      · rw [if_neg c25] at H
                        exact absurd H (by simp)
                    · rw [if_neg c24] at H
                      exact absurd H (by simp)
                  · rw [if_neg c22] at H
                    exact absurd H (by simp)
                · rw [if_neg c21] at H
                  exact absurd H (by simp)
              · rw [if_neg c20] at H
                have c20b0 : decide (0 < x7_1) = false := decide_eq_false c20
                clear c20
                have H' := iC.mk H
                clear H
                go_wp2
                repeat (go_quiet (fail); try go_wp2)
                go_roundg kj5
                case measure => have := HK1.out; have := HJ5.out; omega
                case rel => exact ⟨(wrap64 (x7_1 + 1)), (by first | rfl | (simp; done) | (simp [*]; done)), H', ⟨by have := HK1.out; have := HJ5.out; omega⟩, ⟨bk_ BK108.out⟩, ⟨by repeat (first | (with_reducible first | exact HB.out | apply iF | apply iG | apply iL | refine iH ?_ GE108.out) | exact HB.out)⟩⟩
      · rw [if_neg c5] at H
        have c5b0 : decide (x7_1 < (l0_1.length : Int)) = false := decide_eq_false c5
        clear c5
        by_cases c31 : (l0_1.length : Int) ≥ 1
        · rw [if_pos c31] at H
          have c31b0 : decide (1 ≤ (l0_1.length : Int)) = true := decide_eq_true c31
          have c31b1 : decide (1 ≤ l0_1.length) = true := decide_eq_true (by omega)
          clear c31
          obtain rfl := Option.some.inj H
          have hcz32_0 : wr.cell? ⟨gb108, 0, none⟩ = some (.int .u32 a0_0) := (iD BK108.out 0).trans rfl
          have hcz32_1 : wr.cell? ⟨gb108, 1, none⟩ = some (.slice A0_1 l0_1.length c0_1) := (iD BK108.out 1).trans rfl
          have hfz32_0 := iE BK108.out 0
          have hfz32_1 := iE BK108.out 1
          go_wp2
          repeat (go_quiet (fail); try go_wp2)
          go_ret
          exact ⟨by first | rfl | (simp [jF, jG] <;> rfl) | (simp [*, jF, jG] <;> rfl), by repeat (first | (with_reducible first | exact HB.out | apply iF | apply iG | apply iL | refine iH ?_ GE108.out) | exact HB.out)⟩
        · rw [if_neg c31] at H
          have c31b0 : decide (1 ≤ (l0_1.length : Int)) = false := decide_eq_false c31
          have c31b1 : decide (1 ≤ l0_1.length) = false := decide_eq_false (by omega)
          clear c31
          obtain rfl := Option.some.inj H
          have hcz33_0 : wr.cell? ⟨gb108, 0, none⟩ = some (.int .u32 a0_0) := (iD BK108.out 0).trans rfl
          have hcz33_1 : wr.cell? ⟨gb108, 1, none⟩ = some (.slice A0_1 l0_1.length c0_1) := (iD BK108.out 1).trans rfl
          have hfz33_0 := iE BK108.out 0
          have hfz33_1 := iE BK108.out 1
          go_wp2
          repeat (go_quiet (fail); try go_wp2)
          go_ret
          exact ⟨by first | rfl | (simp [jF, jG] <;> rfl) | (simp [*, jF, jG] <;> rfl), by repeat (first | (with_reducible first | exact HB.out | apply iF | apply iG | apply iL | refine iH ?_ GE108.out) | exact HB.out)⟩
end Go.Proofs.Ytjppookmjdaplaa.K
end
