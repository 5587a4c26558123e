/- Parts of the proof, one behind the other: MsgR, MsgS, BytesW, MsgE, MsgD, MsgN, MsgQ, MsgM, MsgB, MsgV, MsgX, MsgW5. -/
import Derived.Test.YtgfkgppomaapiaaDoorQMsgEncodes7
import Derived.Lib.SliceRun
set_option linter.unusedVariables false
set_option linter.unusedSimpArgs false
section
namespace Go.Proofs.YtgfkgppomaapiaaDoor.K
open RowKit YtgfkgppomaapiaaDoorW.PrintWords YtgfkgppomaapiaaDoorW.PrintLast YtgfkgppomaapiaaDoorW.PrintMore My
set_option maxHeartbeats 4000000 in
theorem UR (k : Int) (w : World) : Calls Tryd.prog 103 #[.int .u8 k] w fun e w' => e = .returned (.int .u8 (nJ k)) ∧ w' = w := by
  by_cases h1 : k = 1
  · subst h1; go_enter Tryd.func103, Tryd.ntmps103; go_wp2; go_ret; exact ⟨rfl, rfl⟩
  by_cases h2 : k = 4
  · subst h2; go_enter Tryd.func103, Tryd.ntmps103; go_wp2; go_ret; exact ⟨rfl, rfl⟩
  by_cases h3 : k = 8
  · subst h3; go_enter Tryd.func103, Tryd.ntmps103; go_wp2; go_ret; exact ⟨rfl, rfl⟩
  by_cases h4 : k = 9
  · subst h4; go_enter Tryd.func103, Tryd.ntmps103; go_wp2; go_ret; exact ⟨rfl, rfl⟩
  by_cases h5 : k = 10
  · subst h5; go_enter Tryd.func103, Tryd.ntmps103; go_wp2; go_ret; exact ⟨rfl, rfl⟩
  by_cases h6 : k = 2
  · subst h6; go_enter Tryd.func103, Tryd.ntmps103; go_wp2; go_ret; exact ⟨rfl, rfl⟩
  by_cases h7 : k = 3
  · subst h7; go_enter Tryd.func103, Tryd.ntmps103; go_wp2; go_ret; exact ⟨rfl, rfl⟩
  by_cases h8 : k = 5
  · subst h8; go_enter Tryd.func103, Tryd.ntmps103; go_wp2; go_ret; exact ⟨rfl, rfl⟩
  by_cases h9 : k = 6
  · subst h9; go_enter Tryd.func103, Tryd.ntmps103; go_wp2; go_ret; exact ⟨rfl, rfl⟩
  by_cases h10 : k = 7
  · subst h10; go_enter Tryd.func103, Tryd.ntmps103; go_wp2; go_ret; exact ⟨rfl, rfl⟩
  by_cases h11 : k = 11
  · subst h11; go_enter Tryd.func103, Tryd.ntmps103; go_wp2; go_ret; exact ⟨rfl, rfl⟩
  · have hz : 0 = nJ k := by unfold nJ; simp [h1, h2, h3, h4, h5, h6, h7, h8, h9, h10, h11]
    go_enter Tryd.func103, Tryd.ntmps103; go_wp2; go_ret; exact ⟨by rw [← hz]; rfl, rfl⟩
theorem eight {w : World} {b t : Nat} {v0 v1 v2 v3 v4 v5 v6 v7 : Value} (h : w.heap[b]? = some (.cells #[v0, v1, v2, v3, v4, v5, v6, v7] t (0, 0))) :
    w.cell? ⟨b, 0, none⟩ = some v0 ∧ w.cell? ⟨b, 1, none⟩ = some v1 ∧ w.cell? ⟨b, 2, none⟩ = some v2 ∧ w.cell? ⟨b, 3, none⟩ = some v3 ∧ w.cell? ⟨b, 4, none⟩ = some v4 ∧ w.cell? ⟨b, 5, none⟩ = some v5 ∧ w.cell? ⟨b, 6, none⟩ = some v6 ∧ w.cell? ⟨b, 7, none⟩ = some v7 ∧
    w.frozen? ⟨b, 0, none⟩ = false ∧ w.frozen? ⟨b, 1, none⟩ = false ∧ w.frozen? ⟨b, 2, none⟩ = false ∧ w.frozen? ⟨b, 3, none⟩ = false ∧ w.frozen? ⟨b, 4, none⟩ = false ∧ w.frozen? ⟨b, 5, none⟩ = false ∧ w.frozen? ⟨b, 6, none⟩ = false ∧ w.frozen? ⟨b, 7, none⟩ = false :=
  ⟨(iE h 0).trans rfl, (iE h 1).trans rfl, (iE h 2).trans rfl, (iE h 3).trans rfl, (iE h 4).trans rfl, (iE h 5).trans rfl, (iE h 6).trans rfl, (iE h 7).trans rfl,
   iD h 0, iD h 1, iD h 2, iD h 3, iD h 4, iD h 5, iD h 6, iD h 7⟩
theorem NF (k i a p q : Int) (A3 : Option Addr) (n3 c3 : Nat) (A4 : Option Addr) (n4 c4 : Nat) (A9 : Option Addr) (n9 c9 : Nat) : (Tryd.prog).built 30 (#[(0, .int .u8 k), (1, .int .u32 i), (2, .int .u32 a), (3, .slice A3 n3 c3), (4, .slice A4 n4 c4), (6, .int .i64 p), (7, .int .i64 q), (8, .slice A9 n9 c9)] : Array (Nat × Value)).toList = some #[.int .u8 k, .int .u32 i, .int .u32 a, .slice A3 n3 c3, .slice A4 n4 c4, .int .u32 0, .slice none 0 0, .int .i64 p, .int .i64 q, .slice A9 n9 c9] := by kernel_rfl
theorem QG (w : World) (k i a p q : Int) (A3 : Option Addr) (n3 c3 : Nat) (A4 : Option Addr) (n4 c4 : Nat) (A9 : Option Addr) (n9 c9 : Nat) : (Instr.build 30 #[(0, .int .u8 k), (1, .int .u32 i), (2, .int .u32 a), (3, .slice A3 n3 c3), (4, .slice A4 n4 c4), (6, .int .i64 p), (7, .int .i64 q), (8, .slice A9 n9 c9)]).run Tryd.prog w = .ok (.agg #[.int .u8 k, .int .u32 i, .int .u32 a, .slice A3 n3 c3, .slice A4 n4 c4, .int .u32 0, .slice none 0 0, .int .i64 p, .int .i64 q, .slice A9 n9 c9]) w := run_build w _ _ _ (NF k i a p q A3 n3 c3 A4 n4 c4 A9 n9 c9)
theorem WE {tmps : Array Value} {W : World} {p : Tmp} {b : Nat} {cs : Array Value} (h : Tryd.f80.results = #[.cell p 30]) (hp : tmps.getD p undef = .pointer (some ⟨b, 0, none⟩)) (hx : W.heap[b]? = some (.cells cs 30 (0, 0))) (hs : cs.size = 10) :
    (results Tryd.f80 tmps).run Tryd.prog W = .ok (.agg cs) W := by
  exact results_cell_row h _ _ _ _ _ _ _ hp hx Tryd.underlying30 rfl (by rw [hs]; kernel_rfl)
attribute [-go_sem] Instr.build Instr.storeAt
attribute [local go_sem] QG
set_option maxRecDepth 20000 in
set_option maxHeartbeats 8000000 in
theorem pF (k i a p q : Int) (A3 : Option Addr) (n3 c3 : Nat) (A4 : Option Addr) (n4 c4 : Nat) (A9 : Option Addr) (n9 c9 : Nat) (w : World) :
    Calls Tryd.prog 80 #[.agg #[.int .u8 k, .int .u32 i, .int .u32 a, .slice A3 n3 c3, .slice A4 n4 c4, .int .i64 p, .int .i64 q, .slice A9 n9 c9]] w fun e w' => e = .returned (.agg #[.int .u8 (nJ k), .int .u32 i, .int .u32 a, .slice A3 n3 c3, .slice A4 n4 c4, .int .u32 0, .slice none 0 0, .int .i64 p, .int .i64 q, .slice A9 n9 c9]) ∧ Below w.heap.size w w' := by
  have hx : ((w.alloc (.cells #[.int .u8 k, .int .u32 i, .int .u32 a, .slice A3 n3 c3, .slice A4 n4 c4, .int .i64 p, .int .i64 q, .slice A9 n9 c9] 51)).alloc (.cells #[.int .u8 0, .int .u32 0, .int .u32 0, .slice none 0 0, .slice none 0 0, .int .u32 0, .slice none 0 0, .int .i64 0, .int .i64 0, .slice none 0 0] 30)).heap[w.heap.size]? = some (.cells #[.int .u8 k, .int .u32 i, .int .u32 a, .slice A3 n3 c3, .slice A4 n4 c4, .int .i64 p, .int .i64 q, .slice A9 n9 c9] 51 (0, 0)) := jI (iV rfl)
  have hz : ((w.alloc (.cells #[.int .u8 k, .int .u32 i, .int .u32 a, .slice A3 n3 c3, .slice A4 n4 c4, .int .i64 p, .int .i64 q, .slice A9 n9 c9] 51)).alloc (.cells #[.int .u8 0, .int .u32 0, .int .u32 0, .slice none 0 0, .slice none 0 0, .int .u32 0, .slice none 0 0, .int .i64 0, .int .i64 0, .slice none 0 0] 30)).heap[w.heap.size + 1]? = some (.cells #[.int .u8 0, .int .u32 0, .int .u32 0, .slice none 0 0, .slice none 0 0, .int .u32 0, .slice none 0 0, .int .i64 0, .int .i64 0, .slice none 0 0] 30 (0, 0)) := iV (by simp)
  have hb : Below w.heap.size w ((w.alloc (.cells #[.int .u8 k, .int .u32 i, .int .u32 a, .slice A3 n3 c3, .slice A4 n4 c4, .int .i64 p, .int .i64 q, .slice A9 n9 c9] 51)).alloc (.cells #[.int .u8 0, .int .u32 0, .int .u32 0, .slice none 0 0, .slice none 0 0, .int .u32 0, .slice none 0 0, .int .i64 0, .int .i64 0, .slice none 0 0] 30)) := iF (iF (Below.refl _ _) _) _
  have HB := iC.mk hb
  clear hb
  go_enter Tryd.func80, Tryd.ntmps80
  go_wp2
  generalize ((w.alloc (.cells #[.int .u8 k, .int .u32 i, .int .u32 a, .slice A3 n3 c3, .slice A4 n4 c4, .int .i64 p, .int .i64 q, .slice A9 n9 c9] 51)).alloc (.cells #[.int .u8 0, .int .u32 0, .int .u32 0, .slice none 0 0, .slice none 0 0, .int .u32 0, .slice none 0 0, .int .i64 0, .int .i64 0, .slice none 0 0] 30)) = W at hx hz HB
  have HX := iC.mk hx
  have HZ := iC.mk hz
  have hst := fun (_ : True) => nO (a := nJ k) (k := i) (i := a) (x3 := .slice A3 n3 c3) (x4 := .slice A4 n4 c4) (j := 0) (x6 := .slice none 0 0) (p := p) (q := q) (x9 := .slice A9 n9 c9) (show W.drew.heap[w.heap.size + 1]? = _ from hz) rfl rfl rfl rfl
  clear hx hz
  refine qP (n := 19) (S := fun w' => w'.cell? ⟨w.heap.size, 0, none⟩ = some (.int .u8 k) ∧ w'.cell? ⟨w.heap.size, 1, none⟩ = some (.int .u32 i) ∧ w'.cell? ⟨w.heap.size, 2, none⟩ = some (.int .u32 a) ∧ w'.cell? ⟨w.heap.size, 3, none⟩ = some (.slice A3 n3 c3) ∧ w'.cell? ⟨w.heap.size, 4, none⟩ = some (.slice A4 n4 c4) ∧ w'.cell? ⟨w.heap.size, 5, none⟩ = some (.int .i64 p) ∧ w'.cell? ⟨w.heap.size, 6, none⟩ = some (.int .i64 q) ∧ w'.cell? ⟨w.heap.size, 7, none⟩ = some (.slice A9 n9 c9)) (ds := [18]) #[false, false, false, false, false, false, false, false, false, false, false, false, false, false, false, false, false, false, false] (by kernel_rfl) rfl rfl ⟨(iE HX.out 0).trans rfl, (iE HX.out 1).trans rfl, (iE HX.out 2).trans rfl, (iE HX.out 3).trans rfl, (iE HX.out 4).trans rfl, (iE HX.out 5).trans rfl, (iE HX.out 6).trans rfl, (iE HX.out 7).trans rfl⟩ (fun hHeld => ?_)
  refine mG (T := (true, [([], []), ([0], [0]), ([1], [1]), ([], []), ([3], [3]), ([], []), ([5], [5]), ([], []), ([7], [7]), ([], []), ([9], [9]), ([], []), ([11], [11]), ([], []), ([13], [13]), ([], []), ([15], [15]), ([2, 4, 6, 8, 10, 12, 14, 16], [2, 4, 6, 8, 10, 12, 14, 16]), ([17, 2, 0, 1, 2, 3, 4, 5, 6, 7, 8, 9, 10, 11, 12, 13, 14, 15, 16, 17], [17])])) (B := [0, 1, 3, 0, 8, 0, 32, 0, 128, 0, 512, 0, 2048, 0, 8192, 0, 32768, 131071, 262143]) (by kernel_rfl) (by kernel_rfl) (fun HT_ HW_ => ?_)
  refine jK (i := 0) (N := some 3) (v := ?_) (a' := ?_) #[true, false, false, false, false, false, false, false, false, false, false, false, false, false, false, false, false, false, false] rfl rfl (jB HT_.out (by kernel_rfl)) (fun _ _ _ h => h) (Or.inl ⟨by rfl, ?_⟩) ?_ ?_
  rotate_left
  · intro w'
    go_simp
    with_reducible rfl
  rotate_left
  · simp only [Act.put, List.setIfInBounds_toArray, List.set_cons_zero, List.set_cons_succ, iY, jD]
    rfl
  refine jK (i := 3) (N := some 6) (v := ?_) (a' := ?_) #[true, false, false, true, false, false, false, false, false, false, false, false, false, false, false, false, false, false, false] rfl rfl (jB HT_.out (by kernel_rfl)) (fun _ _ _ h => h) (Or.inl ⟨by rfl, ?_⟩) ?_ ?_
  rotate_left
  · intro w'
    go_simp
    with_reducible rfl
  rotate_left
  · simp only [Act.put, List.setIfInBounds_toArray, List.set_cons_zero, List.set_cons_succ, iY, jD]
    rfl
  refine jK (i := 5) (N := some 8) (v := ?_) (a' := ?_) #[true, false, false, true, false, true, false, false, false, false, false, false, false, false, false, false, false, false, false] rfl rfl (jB HT_.out (by kernel_rfl)) (fun _ _ _ h => h) (Or.inl ⟨by rfl, ?_⟩) ?_ ?_
  rotate_left
  · intro w'
    go_simp
    with_reducible rfl
  rotate_left
  · simp only [Act.put, List.setIfInBounds_toArray, List.set_cons_zero, List.set_cons_succ, iY, jD]
    rfl
  refine jK (i := 7) (N := some 10) (v := ?_) (a' := ?_) #[true, false, false, true, false, true, false, true, false, false, false, false, false, false, false, false, false, false, false] rfl rfl (jB HT_.out (by kernel_rfl)) (fun _ _ _ h => h) (Or.inl ⟨by rfl, ?_⟩) ?_ ?_
  rotate_left
  · intro w'
    go_simp
    with_reducible rfl
  rotate_left
  · simp only [Act.put, List.setIfInBounds_toArray, List.set_cons_zero, List.set_cons_succ, iY, jD]
    rfl
  refine jK (i := 9) (N := some 12) (v := ?_) (a' := ?_) #[true, false, false, true, false, true, false, true, false, true, false, false, false, false, false, false, false, false, false] rfl rfl (jB HT_.out (by kernel_rfl)) (fun _ _ _ h => h) (Or.inl ⟨by rfl, ?_⟩) ?_ ?_
  rotate_left
  · intro w'
    go_simp
    with_reducible rfl
  rotate_left
  · simp only [Act.put, List.setIfInBounds_toArray, List.set_cons_zero, List.set_cons_succ, iY, jD]
    rfl
  refine jK (i := 11) (N := some 14) (v := ?_) (a' := ?_) #[true, false, false, true, false, true, false, true, false, true, false, true, false, false, false, false, false, false, false] rfl rfl (jB HT_.out (by kernel_rfl)) (fun _ _ _ h => h) (Or.inl ⟨by rfl, ?_⟩) ?_ ?_
  rotate_left
  · intro w'
    go_simp
    with_reducible rfl
  rotate_left
  · simp only [Act.put, List.setIfInBounds_toArray, List.set_cons_zero, List.set_cons_succ, iY, jD]
    rfl
  refine jK (i := 13) (N := some 16) (v := ?_) (a' := ?_) #[true, false, false, true, false, true, false, true, false, true, false, true, false, true, false, false, false, false, false] rfl rfl (jB HT_.out (by kernel_rfl)) (fun _ _ _ h => h) (Or.inl ⟨by rfl, ?_⟩) ?_ ?_
  rotate_left
  · intro w'
    go_simp
    with_reducible rfl
  rotate_left
  · simp only [Act.put, List.setIfInBounds_toArray, List.set_cons_zero, List.set_cons_succ, iY, jD]
    rfl
  refine jK (i := 15) (N := some 18) (v := ?_) (a' := ?_) #[true, false, false, true, false, true, false, true, false, true, false, true, false, true, false, true, false, false, false] rfl rfl (jB HT_.out (by kernel_rfl)) (fun _ _ _ h => h) (Or.inl ⟨by rfl, ?_⟩) ?_ ?_
  rotate_left
  · intro w'
    go_simp
    with_reducible rfl
  rotate_left
  · simp only [Act.put, List.setIfInBounds_toArray, List.set_cons_zero, List.set_cons_succ, iY, jD]
    rfl
  refine lZ (i := 1) (N := some 4) (v := ?_) (a' := ?_) #[true, true, false, true, false, true, false, true, false, true, false, true, false, true, false, true, false, false, false] rfl rfl (jU HT_.out HW_.out (by kernel_rfl)) (fun _ _ _ h => h) (Or.inl ⟨by rfl, ?_⟩) hHeld ?_ ?_
  rotate_left
  · rintro w' ⟨s0, s1, s2, s3, s4, s5, s6, s7⟩
    go_simp
    with_reducible rfl
  rotate_left
  · simp only [Act.put, List.setIfInBounds_toArray, List.set_cons_zero, List.set_cons_succ, iY, jD]
    rfl
  refine lZ (i := 4) (N := some 7) (v := ?_) (a' := ?_) #[true, true, false, true, true, true, false, true, false, true, false, true, false, true, false, true, false, false, false] rfl rfl (jU HT_.out HW_.out (by kernel_rfl)) (fun _ _ _ h => h) (Or.inl ⟨by rfl, ?_⟩) hHeld ?_ ?_
  rotate_left
  · rintro w' ⟨s0, s1, s2, s3, s4, s5, s6, s7⟩
    go_simp
    with_reducible rfl
  rotate_left
  · simp only [Act.put, List.setIfInBounds_toArray, List.set_cons_zero, List.set_cons_succ, iY, jD]
    rfl
  refine lZ (i := 6) (N := some 9) (v := ?_) (a' := ?_) #[true, true, false, true, true, true, true, true, false, true, false, true, false, true, false, true, false, false, false] rfl rfl (jU HT_.out HW_.out (by kernel_rfl)) (fun _ _ _ h => h) (Or.inl ⟨by rfl, ?_⟩) hHeld ?_ ?_
  rotate_left
  · rintro w' ⟨s0, s1, s2, s3, s4, s5, s6, s7⟩
    go_simp
    with_reducible rfl
  rotate_left
  · simp only [Act.put, List.setIfInBounds_toArray, List.set_cons_zero, List.set_cons_succ, iY, jD]
    rfl
  refine lZ (i := 8) (N := some 11) (v := ?_) (a' := ?_) #[true, true, false, true, true, true, true, true, true, true, false, true, false, true, false, true, false, false, false] rfl rfl (jU HT_.out HW_.out (by kernel_rfl)) (fun _ _ _ h => h) (Or.inl ⟨by rfl, ?_⟩) hHeld ?_ ?_
  rotate_left
  · rintro w' ⟨s0, s1, s2, s3, s4, s5, s6, s7⟩
    go_simp
    with_reducible rfl
  rotate_left
  · simp only [Act.put, List.setIfInBounds_toArray, List.set_cons_zero, List.set_cons_succ, iY, jD]
    rfl
  refine lZ (i := 10) (N := some 13) (v := ?_) (a' := ?_) #[true, true, false, true, true, true, true, true, true, true, true, true, false, true, false, true, false, false, false] rfl rfl (jU HT_.out HW_.out (by kernel_rfl)) (fun _ _ _ h => h) (Or.inl ⟨by rfl, ?_⟩) hHeld ?_ ?_
  rotate_left
  · rintro w' ⟨s0, s1, s2, s3, s4, s5, s6, s7⟩
    go_simp
    with_reducible rfl
  rotate_left
  · simp only [Act.put, List.setIfInBounds_toArray, List.set_cons_zero, List.set_cons_succ, iY, jD]
    rfl
  refine lZ (i := 12) (N := some 15) (v := ?_) (a' := ?_) #[true, true, false, true, true, true, true, true, true, true, true, true, true, true, false, true, false, false, false] rfl rfl (jU HT_.out HW_.out (by kernel_rfl)) (fun _ _ _ h => h) (Or.inl ⟨by rfl, ?_⟩) hHeld ?_ ?_
  rotate_left
  · rintro w' ⟨s0, s1, s2, s3, s4, s5, s6, s7⟩
    go_simp
    with_reducible rfl
  rotate_left
  · simp only [Act.put, List.setIfInBounds_toArray, List.set_cons_zero, List.set_cons_succ, iY, jD]
    rfl
  refine lZ (i := 14) (N := some 17) (v := ?_) (a' := ?_) #[true, true, false, true, true, true, true, true, true, true, true, true, true, true, true, true, false, false, false] rfl rfl (jU HT_.out HW_.out (by kernel_rfl)) (fun _ _ _ h => h) (Or.inl ⟨by rfl, ?_⟩) hHeld ?_ ?_
  rotate_left
  · rintro w' ⟨s0, s1, s2, s3, s4, s5, s6, s7⟩
    go_simp
    with_reducible rfl
  rotate_left
  · simp only [Act.put, List.setIfInBounds_toArray, List.set_cons_zero, List.set_cons_succ, iY, jD]
    rfl
  refine lZ (i := 16) (N := some 19) (v := ?_) (a' := ?_) #[true, true, false, true, true, true, true, true, true, true, true, true, true, true, true, true, true, false, false] rfl rfl (jU HT_.out HW_.out (by kernel_rfl)) (fun _ _ _ h => h) (Or.inl ⟨by rfl, ?_⟩) hHeld ?_ ?_
  rotate_left
  · rintro w' ⟨s0, s1, s2, s3, s4, s5, s6, s7⟩
    go_simp
    with_reducible rfl
  rotate_left
  · simp only [Act.put, List.setIfInBounds_toArray, List.set_cons_zero, List.set_cons_succ, iY, jD]
    rfl
  refine one_ (i := 2) (N := some 5) #[true, true, true, true, true, true, true, true, true, true, true, true, true, true, true, true, true, false, false] rfl rfl (mX HT_.out (by kernel_rfl)) (by decide) (fun K hK => ?_)
  refine xJ Tryd.func103 (by kernel_rfl) rfl #[.int .u8 k] (by rfl) rfl rfl (by simp only [List.map_toArray, List.map_cons, List.map_nil]; rfl) ?_
  with_reducible refine (UR k _).mono ?_
  rintro e w2 ⟨rfl, rfl⟩
  refine ⟨_, rfl, ?_⟩
  refine hK.out _ _ ⟨(iE HX.out 0).trans rfl, (iE HX.out 1).trans rfl, (iE HX.out 2).trans rfl, (iE HX.out 3).trans rfl, (iE HX.out 4).trans rfl, (iE HX.out 5).trans rfl, (iE HX.out 6).trans rfl, (iE HX.out 7).trans rfl⟩ (fun hHeld => ?_)
  clear hK K
  refine uX (a' := ?_) ?_ ?_
  rotate_left
  · show Act.put _ (some 5) _ = _
    simp only [Act.put, List.setIfInBounds_toArray, List.set_cons_zero, List.set_cons_succ, iY, jD]
    rfl
  refine jK (i := 17) (N := some 20) (v := ?_) (a' := ?_) #[true, true, true, true, true, true, true, true, true, true, true, true, true, true, true, true, true, true, false] rfl rfl (jB HT_.out (by kernel_rfl)) (fun _ _ _ h => h) (Or.inl ⟨by rfl, ?_⟩) ?_ ?_
  rotate_left
  · intro w'
    go_simp
    with_reducible rfl
  rotate_left
  · simp only [Act.put, List.setIfInBounds_toArray, List.set_cons_zero, List.set_cons_succ, iY, jD]
    rfl
  refine PS (i := 18) (N := none) #[true, true, true, true, true, true, true, true, true, true, true, true, true, true, true, true, true, true, true] rfl rfl (mX HT_.out (by kernel_rfl)) (by decide) (fun K hK => ?_)
  refine OZ (w1 := ?_) (by rfl) rfl ?_ ?_
  rotate_left
  · go_simp
    rfl
  refine hK.out _ _ ?_
  clear hK K
  refine I7 (pW HT_.out (by kernel_rfl)) ?_
  (try go_wp2)
  ((try simp only [Exit.inBlock, Exit.then]); exact bodyPost_ret (WE rfl rfl (setRow_heap _ _ _ _ _ _ (show W.drew.heap[w.heap.size + 1]? = _ from HZ.out)) rfl) rfl ⟨rfl, below_grown (g := w.heap.size + 1) (show Below w.heap.size w W.drew from iJ HB.out) (jC _ _ _) (Nat.le_succ _) (Nat.le_refl _)⟩)
end Go.Proofs.YtgfkgppomaapiaaDoor.K
end

section
namespace Go.Proofs.YtgfkgppomaapiaaDoor.K
open RowKit YtgfkgppomaapiaaDoorW.PrintWords YtgfkgppomaapiaaDoorW.PrintLast YtgfkgppomaapiaaDoorW.PrintMore My
structure qB (w : World) (m : SMsg) (A3 : Option Addr) (a3 : Nat) (A4 : Option Addr) (a4 : Nat) (A9 : Option Addr) (a9 : Nat) : Prop where
  h3 : Kd.C (Kd.int .i64) w A3 m.f3.length m.f3
  d3 : m.f3.length ≤ a3
  h4 : Kd.C k139 w A4 m.f4.length m.f4
  d4 : m.f4.length ≤ a4
  h9 : Kd.C k86 w A9 m.f7.length m.f7
  d9 : m.f7.length ≤ a9
section
variable {w w' : World} {m : SMsg} {A3 A4 A9 : Option Addr} {a3 a4 a9 : Nat}
theorem qB.below (h : qB w m A3 a3 A4 a4 A9 a9) (hb : Below w.heap.size w w') : qB w' m A3 a3 A4 a4 A9 a9 :=
  ⟨Kd.C_below h.h3 hb, h.d3, Kd.C_below h.h4 hb, h.d4, Kd.C_below h.h9 hb, h.d9⟩
theorem pM (h : qB w m A3 a3 A4 a4 A9 a9) {S : Bool} (hS : jM (recM m) = S) : Calls Tryd.prog 19 #[.agg #[.int .u8 (nJ m.f0), .int .u32 m.f1, .int .u32 m.f2, .slice A3 m.f3.length a3, .slice A4 m.f4.length a4, .int .u32 0, .slice none 0 0, .int .i64 m.f5, .int .i64 m.f6, .slice A9 m.f7.length a9]] w fun e w' => e = .returned (.bool S) ∧ Below w.heap.size w w' :=
  code_Sound.calls (nJ m.f0) m.f1 m.f2 A3 a3 m.f3 A4 a4 m.f4 0 none 0 [] m.f5 m.f6 A9 a9 m.f7 S w h.h3 h.d3 h.h4 h.d4 (Kd.C_nil _ _) (Nat.le_refl _) h.h9 h.d9 (congrArg some hS)
theorem IY (h : qB w m A3 a3 A4 a4 A9 a9) {E1 : List Int} {E2 : Int} (hE : encR (recM m) = (E1, E2)) : Calls Tryd.prog 17 #[.agg #[.int .u8 (nJ m.f0), .int .u32 m.f1, .int .u32 m.f2, .slice A3 m.f3.length a3, .slice A4 m.f4.length a4, .int .u32 0, .slice none 0 0, .int .i64 m.f5, .int .i64 m.f6, .slice A9 m.f7.length a9]] w fun e w' => ∃ v0_ : Value, e = .returned (.tuple #[v0_, .int .u16 E2]) ∧ Kd.R (Kd.int .u8) 5 w' w.heap.size (fun _ => True) v0_ E1 ∧ Below w.heap.size w w' :=
  code_Encode.calls (nJ m.f0) m.f1 m.f2 A3 a3 m.f3 A4 a4 m.f4 0 none 0 [] m.f5 m.f6 A9 a9 m.f7 E1 E2 w h.h3 h.d3 h.h4 h.d4 (Kd.C_nil _ _) (Nat.le_refl _) h.h9 h.d9 (congrArg some hE)
end
theorem IZ {m : SMsg} (h : preM m = false) : lT m = false := by unfold lT; rw [h]; rfl
theorem oM {m : SMsg} (h : preM m = true) : lT m = jM (recM m) := by unfold lT; rw [h]; rfl
set_option maxRecDepth 20000 in
set_option maxHeartbeats 8000000 in
theorem rE (m : SMsg) (A3 : Option Addr) (a3 : Nat) (A4 : Option Addr) (a4 : Nat) (A9 : Option Addr) (a9 : Nat) (w : World) (h : qB w m A3 a3 A4 a4 A9 a9) :
    Calls Tryd.prog 30 #[.agg #[.int .u8 m.f0, .int .u32 m.f1, .int .u32 m.f2, .slice A3 m.f3.length a3, .slice A4 m.f4.length a4, .int .i64 m.f5, .int .i64 m.f6, .slice A9 m.f7.length a9]] w fun e w' => e = .returned (.bool (lT m)) ∧ Below w.heap.size w w' := by
  have hb : Below w.heap.size w (w.alloc (.cells #[.int .u8 m.f0, .int .u32 m.f1, .int .u32 m.f2, .slice A3 m.f3.length a3, .slice A4 m.f4.length a4, .int .i64 m.f5, .int .i64 m.f6, .slice A9 m.f7.length a9] 51)) := iF (Below.refl _ _) _
  have HX := iC.mk (show (w.alloc (.cells #[.int .u8 m.f0, .int .u32 m.f1, .int .u32 m.f2, .slice A3 m.f3.length a3, .slice A4 m.f4.length a4, .int .i64 m.f5, .int .i64 m.f6, .slice A9 m.f7.length a9] 51)).heap[w.heap.size]? = some (.cells #[.int .u8 m.f0, .int .u32 m.f1, .int .u32 m.f2, .slice A3 m.f3.length a3, .slice A4 m.f4.length a4, .int .i64 m.f5, .int .i64 m.f6, .slice A9 m.f7.length a9] 51 (0, 0)) from iV rfl)
  have HL := iC.mk (h.below hb)
  have HB := iC.mk hb
  clear h hb
  obtain ⟨S, hS⟩ : ∃ S, lT m = S := ⟨_, rfl⟩
  rw [hS]
  have HS := iC.mk hS
  clear hS
  have hpre : preM m = (!(decide (m.f0 = 4) && decide (0 < m.f3.length)) && !(decide (m.f0 = 8) && decide (0 < m.f7.length)) && !(decide (m.f0 = 9) && (!decide (m.f5 = 0) || !decide (m.f6 = 0)))) := rfl
  obtain ⟨k, i, a, l3, l4, p, q, l7⟩ := m
  simp only at HX HL hpre ⊢
  have bad : preM ⟨k, i, a, l3, l4, p, q, l7⟩ = false → S = false := fun h => by rw [← HS.out]; exact IZ h
  have good : preM ⟨k, i, a, l3, l4, p, q, l7⟩ = true → jM (recM ⟨k, i, a, l3, l4, p, q, l7⟩) = S := fun h => by rw [← HS.out]; exact (oM h).symm
  by_cases h4 : k = 4
  · subst h4
    by_cases hl : 0 < l3.length
    · have hf := bad (by rw [hpre]; simp [hl])
      subst hf
      clear bad good hpre
      obtain ⟨z0, z1, z2, z3, z4, z5, z6, z7, y0, y1, y2, y3, y4, y5, y6, y7⟩ := eight HX.out
      go_enter Tryd.func30, Tryd.ntmps30
      go_wp2
      go_ret
      exact ⟨rfl, HB.out⟩
    · have hf := good (by rw [hpre]; simp [hl])
      clear bad good hpre
      have HF := iC.mk hf
      clear hf
      obtain ⟨z0, z1, z2, z3, z4, z5, z6, z7, y0, y1, y2, y3, y4, y5, y6, y7⟩ := eight HX.out
      go_enter Tryd.func30, Tryd.ntmps30
      (go_wp2_with fail; go_at_call 80; (with_reducible refine (pF _ _ _ _ _ _ _ _ _ _ _ _ _ _ _).mono ?_); rintro e w1 ⟨rfl, hb1⟩; have HB1 := iC.mk (iI HB.out hb1); have HL1 := iC.mk (HL.out.below hb1); clear hb1 z0 z1 z2 z3 z4 z5 z6 z7 y0 y1 y2 y3 y4 y5 y6 y7; go_wp2_with fail; go_at_call 19; (refine (pM HL1.out HF.out).mono ?_); rintro e w2 ⟨rfl, hb2⟩; go_wp2; go_ret; exact ⟨rfl, iI HB1.out hb2⟩)
  by_cases h8 : k = 8
  · subst h8
    by_cases hl : 0 < l7.length
    · have hf := bad (by rw [hpre]; simp [hl])
      subst hf
      clear bad good hpre
      obtain ⟨z0, z1, z2, z3, z4, z5, z6, z7, y0, y1, y2, y3, y4, y5, y6, y7⟩ := eight HX.out
      go_enter Tryd.func30, Tryd.ntmps30
      go_wp2
      go_ret
      exact ⟨rfl, HB.out⟩
    · have hf := good (by rw [hpre]; simp [hl])
      clear bad good hpre
      have HF := iC.mk hf
      clear hf
      obtain ⟨z0, z1, z2, z3, z4, z5, z6, z7, y0, y1, y2, y3, y4, y5, y6, y7⟩ := eight HX.out
      go_enter Tryd.func30, Tryd.ntmps30
      (go_wp2_with fail; go_at_call 80; (with_reducible refine (pF _ _ _ _ _ _ _ _ _ _ _ _ _ _ _).mono ?_); rintro e w1 ⟨rfl, hb1⟩; have HB1 := iC.mk (iI HB.out hb1); have HL1 := iC.mk (HL.out.below hb1); clear hb1 z0 z1 z2 z3 z4 z5 z6 z7 y0 y1 y2 y3 y4 y5 y6 y7; go_wp2_with fail; go_at_call 19; (refine (pM HL1.out HF.out).mono ?_); rintro e w2 ⟨rfl, hb2⟩; go_wp2; go_ret; exact ⟨rfl, iI HB1.out hb2⟩)
  by_cases h9 : k = 9
  · subst h9
    by_cases hp : p = 0
    · subst hp
      by_cases hq : q = 0
      · subst hq
        have hf := good (by rw [hpre]; simp)
        clear bad good hpre
        have HF := iC.mk hf
        clear hf
        obtain ⟨z0, z1, z2, z3, z4, z5, z6, z7, y0, y1, y2, y3, y4, y5, y6, y7⟩ := eight HX.out
        go_enter Tryd.func30, Tryd.ntmps30
        (go_wp2_with fail; go_at_call 80; (with_reducible refine (pF _ _ _ _ _ _ _ _ _ _ _ _ _ _ _).mono ?_); rintro e w1 ⟨rfl, hb1⟩; have HB1 := iC.mk (iI HB.out hb1); have HL1 := iC.mk (HL.out.below hb1); clear hb1 z0 z1 z2 z3 z4 z5 z6 z7 y0 y1 y2 y3 y4 y5 y6 y7; go_wp2_with fail; go_at_call 19; (refine (pM HL1.out HF.out).mono ?_); rintro e w2 ⟨rfl, hb2⟩; go_wp2; go_ret; exact ⟨rfl, iI HB1.out hb2⟩)
      · have hf := bad (by rw [hpre]; simp [hq])
        subst hf
        clear bad good hpre
        obtain ⟨z0, z1, z2, z3, z4, z5, z6, z7, y0, y1, y2, y3, y4, y5, y6, y7⟩ := eight HX.out
        go_enter Tryd.func30, Tryd.ntmps30
        go_wp2
        go_ret
        exact ⟨rfl, HB.out⟩
    · have hf := bad (by rw [hpre]; simp [hp])
      subst hf
      clear bad good hpre
      obtain ⟨z0, z1, z2, z3, z4, z5, z6, z7, y0, y1, y2, y3, y4, y5, y6, y7⟩ := eight HX.out
      go_enter Tryd.func30, Tryd.ntmps30
      go_wp2
      go_ret
      exact ⟨rfl, HB.out⟩
  · have hf := good (by rw [hpre]; simp [h4, h8, h9])
    clear bad good hpre
    have HF := iC.mk hf
    clear hf
    obtain ⟨z0, z1, z2, z3, z4, z5, z6, z7, y0, y1, y2, y3, y4, y5, y6, y7⟩ := eight HX.out
    go_enter Tryd.func30, Tryd.ntmps30
    (go_wp2_with fail; go_at_call 80; (with_reducible refine (pF _ _ _ _ _ _ _ _ _ _ _ _ _ _ _).mono ?_); rintro e w1 ⟨rfl, hb1⟩; have HB1 := iC.mk (iI HB.out hb1); have HL1 := iC.mk (HL.out.below hb1); clear hb1 z0 z1 z2 z3 z4 z5 z6 z7 y0 y1 y2 y3 y4 y5 y6 y7; go_wp2_with fail; go_at_call 19; (refine (pM HL1.out HF.out).mono ?_); rintro e w2 ⟨rfl, hb2⟩; go_wp2; go_ret; exact ⟨rfl, iI HB1.out hb2⟩)
end Go.Proofs.YtgfkgppomaapiaaDoor.K
end

section
namespace Go.Proofs.YtgfkgppomaapiaaDoor.My
open Go Go.RowKit Go.Proofs.YtgfkgppomaapiaaDoorW.PrintWords
def OB (w : World) (base : Nat) (v : Value) (l : List UInt8) : Prop := kb.R 5 w base (fun _ => True) v l
theorem OB.nil (w : World) (base : Nat) : OB w base (.slice none 0 0) [] := Kd.R_nil _ _ _ _ _
theorem IJ : (Tryd.prog.info? 5).map (fun i => (i.zero, i.size, i.bytes)) = some (some (.int .u8 0), kb.sz, 1) := by kernel_rfl
theorem OB.empty (w : World) : OB (w.alloc (.cells #[] 5)) w.heap.size (.slice (some ⟨w.heap.size, 0, none⟩) 0 0) [] := by
  refine Kd.R_of_own ?_ (fun _ _ => trivial)
  have h := World.ownsRow_lit (base := w.heap.size) (e := 5) (size := 1) w #[] 0 (Nat.le_refl _) (by simp) (by simp)
  simpa [encs] using h
set_option maxHeartbeats 1000000 in
theorem PY (n : Nat) (w : World) (hn : n ≤ 140737488355327) :
    Calls Tryd.prog 104 #[.slice none 0 0, .int .i64 (n : Int)] w fun e w' => ∃ v, e = .returned v ∧ OB w' w.heap.size v [] ∧ Below w.heap.size w w' := by
  have hn0 : ¬ (n : Int) < 0 := by omega
  by_cases h0 : (0 : Int) < n
  · go_enter Tryd.func104, Tryd.ntmps104
    go_wp2_with (at_builtin; refine Kd.R_append_zeros kb (w0 := w) w.heap.size rfl (.tmp 20) (.tmp 21) 33 3 5 (.int .u8 0) 1 rfl Tryd.underlying33 Tryd.underlying3 IJ rfl (by decide) (by omega) (.slice none 0 0) [] 0 (n : Int) (fun _ => True) rfl rfl rfl (fun _ _ => trivial) (Kd.R_nil _ _ _ _ _) (by omega) ?aB ?aS ?aL ?_; (case aB => (repeat (first | exact Below.refl _ _ | apply iF | apply lG | apply iG | apply below_bytesWorld | (refine iM ?_ (by first | assumption | omega)) | refine iI ?_ (by assumption)))); (case aS => exact iW (by (repeat (first | exact Below.refl _ _ | apply iF | apply lG | apply iG | apply below_bytesWorld | (refine iM ?_ (by first | assumption | omega)) | refine iI ?_ (by assumption))))); (case aL => simp; omega); intro v1 w2 HO HB hg hat; rw [List.nil_append, Int.toNat_natCast] at HO; obtain ⟨g, cap, rfl, hlc, hgb, _, hfr, hC1⟩ := WA HO (by simp; omega); have HR := iC.mk HO; clear HO hg hat hfr hC1; rw [List.length_replicate] at HR hlc; rw [List.length_replicate])
    go_ret
    exact ⟨_, rfl, Kd.R_take (m := 0) HR.out (Nat.zero_le _), HB⟩
  · go_enter Tryd.func104, Tryd.ntmps104
    go_wp2_with fail
    go_ret
    exact ⟨_, rfl, OB.nil _ _, by (repeat (first | exact Below.refl _ _ | apply iF | apply lG | apply iG | apply below_bytesWorld | (refine iM ?_ (by first | assumption | omega)) | refine iI ?_ (by assumption)))⟩
theorem IW (l : List (List UInt8)) (k : Nat) (h : k < l.length) : (l.take (k + 1)).flatten = (l.take k).flatten ++ l.getD k [] := by
  rw [lW [] l k h, List.flatten_append]
  simp
theorem TA (l : List (List UInt8)) (k : Nat) : (l.take k).flatten.length ≤ l.flatten.length := by
  conv => rhs; rw [← List.take_append_drop k l, List.flatten_append, List.length_append]
  omega
def pK (l : List (List UInt8)) : Nat := l.flatten.length
set_option maxHeartbeats 1000000 in
theorem LY (A : Option Addr) (c : Nat) (l : List (List UInt8)) (w : World) (hr : (Kd.slice 5 kb).C w A l.length l) (hs : l.flatten.length ≤ 140737488355327) :
    Calls Tryd.prog 81 #[.slice A l.length c] w fun e w' => ∃ v, e = .returned v ∧ OB w' w.heap.size v l.flatten ∧ Below w.heap.size w w' := by
  have hm := lC hr
  have HR := iC.mk hr
  clear hr
  go_enter Tryd.func81, Tryd.ntmps81
  go_wp2
  go_loop [3, 11] (fun s i => ∃ k : Nat, k ≤ l.length ∧ i = .int .i64 k ∧ s = .int .i64 (pK (l.take k) : Int)) (fun _ i => l.length - (intOf i).toNat)
  case atStart => exact ⟨0, Nat.zero_le _, rfl, rfl⟩
  case round =>
    obtain ⟨k, hk, rfl, rfl⟩ := hrel
    by_cases hlt : k < l.length
    · obtain ⟨ad, A', c', rfl, hx, hxl, hxc⟩ := X5 HR.out k hlt
      have hf := IW l k hlt
      have hle := TA l (k + 1)
      have hadd : (pK (l.take k) : Int) + ((l.getD k []).length : Int) = (pK (l.take (k + 1)) : Int) := by unfold pK; rw [hf, List.length_append]; omega
      have hb1 : ((pK (l.take k) : Int) + ((l.getD k []).length : Int)) ≤ 140737488355327 := by rw [hadd]; unfold pK; omega
      have HADD := iC.mk hadd
      clear hf hle hadd hxl hxc
      generalize (l.getD k []).length = m at hx hb1 HADD
      have hb0 : ¬ (pK (l.take k) : Int) + (m : Int) < 0 := by omega
      generalize pK (l.take k) = q at hb1 HADD hb0
      go_wp2
      go_round
      case rel => exact ⟨k + 1, by omega, by go_num, by rw [HADD.out]⟩
      case measure => simp [intOf]; omega
    · obtain rfl : k = l.length := by omega
      simp only [List.take_length]
      go_wp2_with fail
      refine (PY (pK l) _ hs).mono ?_
      rintro e w1 ⟨v0, rfl, HO0, hb1⟩
      have HO0' := iC.mk HO0
      clear HO0
      go_wp2
      go_loopw [6, 27] (fun v i wr => ∃ k : Nat, k ≤ l.length ∧ i = .int .i64 k ∧ iC (OB wr w.heap.size v (l.take k).flatten) ∧ iC (Below w.heap.size w wr)) (fun _ i _ => l.length - (intOf i).toNat)
      case atStart => exact ⟨0, Nat.zero_le _, rfl, HO0', ⟨hb1⟩⟩
      case round =>
        obtain ⟨k, hk, rfl, HO, HB⟩ := hrel
        by_cases hlt : k < l.length
        · obtain ⟨ad, A', c', rfl, hx, hxl, hxc⟩ := X5 HR.out k hlt
          have hx' := XW HB.out hx
          have HX := iC.mk (Kd.C_below hxc HB.out)
          have HF := iC.mk (IW l k hlt)
          have hle : (l.take k).flatten.length + (l.getD k []).length ≤ 140737488355327 := by have := TA l (k + 1); rw [HF.out, List.length_append] at this; omega
          clear hx hxl hxc
          obtain ⟨x, hxe⟩ : ∃ x, x = l.getD k [] := ⟨_, rfl⟩
          rw [← hxe] at hx' HX HF hle
          clear hxe
          go_wp2_with (at_builtin; refine Kd.R_append_rows kb (w0 := w) w.heap.size rfl (.tmp 31) (.tmp 32) 33 5 (.int .u8 0) 1 rfl Tryd.underlying33 IJ rfl (by decide) (by omega) _ _ x _ _ _ (fun _ => True) (fun _ => False) rfl rfl HO.out HX.out (fun _ _ h => h) (fun _ h => h.elim) (fun _ _ => trivial) HB.out HB.out.size (by omega) ?_; intro v1 w2 HO1 HB1 hg hat; have HO1' := iC.mk HO1; have HB1' := iC.mk HB1; clear HO1 HB1 hg hat)
          go_roundw
          case rel => exact ⟨k + 1, by omega, by go_num, ⟨by rw [HF.out]; exact HO1'.out⟩, HB1'⟩
          case measure => simp [intOf]; omega
        · obtain rfl : k = l.length := by omega
          have HO2 := HO.out
          rw [List.take_length] at HO2
          have HO2' := iC.mk HO2
          clear HO2
          go_wp2
          go_ret
          exact ⟨_, rfl, HO2'.out, HB.out⟩
end Go.Proofs.YtgfkgppomaapiaaDoor.My
end

section
namespace Go.Proofs.YtgfkgppomaapiaaDoor.K
open RowKit YtgfkgppomaapiaaDoorW.PrintWords YtgfkgppomaapiaaDoorW.PrintLast YtgfkgppomaapiaaDoorW.PrintMore My
theorem WF {w : World} {base : Nat} {v : Value} {l : List UInt8} (h : OB w base v l) : Kd.R (Kd.int .u8) 5 w base (fun _ => True) v (nums l) := by
  have h1 := Kd.own_of_R h
  refine Kd.R_of_own ?_ (fun _ _ => trivial)
  rw [jH]
  have : encs (fun n : Int => Value.int .u8 n) (nums l) = encs (fun b : UInt8 => Value.int .u8 (b.toNat : Int)) l := by
    unfold nums encs
    simp [List.map_map, Function.comp_def]
  rw [this]
  exact h1
theorem UT {k : Int} (h0 : 0 ≤ k) (h1 : k < 256) : ∃ b : UInt8, k = (b.toNat : Int) := ⟨UInt8.ofNat k.toNat, by rw [UInt8.toNat_ofNat']; omega⟩
def U7 (w : World) (E1 : List Int) (E2 : Int) (e : Ending) (w' : World) : Prop := ∃ v0_ : Value, e = .returned (.tuple #[v0_, .int .u16 E2]) ∧ Kd.R (Kd.int .u8) 5 w' w.heap.size (fun _ => True) v0_ E1 ∧ Below w.heap.size w w'
set_option maxRecDepth 20000 in
set_option maxHeartbeats 8000000 in
theorem pX (m : SMsg) (A3 : Option Addr) (a3 : Nat) (A4 : Option Addr) (a4 : Nat) (A9 : Option Addr) (a9 : Nat) (w : World) (h : qB w m A3 a3 A4 a4 A9 a9) (h0 : 0 ≤ m.f0 ∧ m.f0 < 256) {E1 : List Int} {E2 : Int} (hE : encM m = (E1, E2)) :
    Calls Tryd.prog 28 #[.agg #[.int .u8 m.f0, .int .u32 m.f1, .int .u32 m.f2, .slice A3 m.f3.length a3, .slice A4 m.f4.length a4, .int .i64 m.f5, .int .i64 m.f6, .slice A9 m.f7.length a9]] w (U7 w E1 E2) := by
  have hb : Below w.heap.size w (w.alloc (.cells #[.int .u8 m.f0, .int .u32 m.f1, .int .u32 m.f2, .slice A3 m.f3.length a3, .slice A4 m.f4.length a4, .int .i64 m.f5, .int .i64 m.f6, .slice A9 m.f7.length a9] 51)) := iF (Below.refl _ _) _
  have HX := iC.mk (show (w.alloc (.cells #[.int .u8 m.f0, .int .u32 m.f1, .int .u32 m.f2, .slice A3 m.f3.length a3, .slice A4 m.f4.length a4, .int .i64 m.f5, .int .i64 m.f6, .slice A9 m.f7.length a9] 51)).heap[w.heap.size]? = some (.cells #[.int .u8 m.f0, .int .u32 m.f1, .int .u32 m.f2, .slice A3 m.f3.length a3, .slice A4 m.f4.length a4, .int .i64 m.f5, .int .i64 m.f6, .slice A9 m.f7.length a9] 51 (0, 0)) from iV rfl)
  have HL := iC.mk (h.below hb)
  have HB := iC.mk hb
  have hsound := rE m A3 a3 A4 a4 A9 a9 _ HL.out
  obtain ⟨k8, hk8⟩ := UT h0.1 h0.2
  have HK := iC.mk hk8
  have HE := iC.mk hE
  clear h hb h0 hk8 hE
  obtain ⟨z0, z1, z2, z3, z4, z5, z6, z7, y0, y1, y2, y3, y4, y5, y6, y7⟩ := eight HX.out
  by_cases hs : lT m = true
  · rw [hs] at hsound
    have HS := iC.mk hs
    clear hs
    go_enter Tryd.func28, Tryd.ntmps28
    go_wp2_with fail
    go_at_call 30
    refine hsound.mono ?_
    rintro e w1 ⟨rfl, hb1⟩
    have HX1 := iC.mk (iL hb1 HX.out)
    have HL1 := iC.mk (HL.out.below hb1)
    have HB1 := iC.mk (iI HB.out hb1)
    clear hsound hb1 z0 z1 z2 z3 z4 z5 z6 z7 y0 y1 y2 y3 y4 y5 y6 y7
    obtain ⟨z0, z1, z2, z3, z4, z5, z6, z7, y0, y1, y2, y3, y4, y5, y6, y7⟩ := eight HX1.out
    go_wp2_with fail
    go_at_call 80
    (refine (pF _ _ _ _ _ _ _ _ _ _ _ _ _ _ _).mono ?_)
    rintro e w2 ⟨rfl, hb2⟩
    have HX2 := iC.mk (iL hb2 HX1.out)
    have HL2 := iC.mk (HL1.out.below hb2)
    have HB2 := iC.mk (iI HB1.out hb2)
    clear hb2 z0 z1 z2 z3 z4 z5 z6 z7 y0 y1 y2 y3 y4 y5 y6 y7
    obtain ⟨⟨F1, F2⟩, hF⟩ : ∃ F : List Int × Int, encR (recM m) = F := ⟨_, rfl⟩
    have hEF : encM m = if F2 = 0 then (m.f0 :: F1, 0) else ([], F2) := by unfold encM; rw [if_pos HS.out, hF]
    rw [HE.out] at hEF
    have hcases := rD (recM m)
    have hsb : jM (recM m) = true := by have := HS.out; unfold lT at this; simp only [Bool.and_eq_true] at this; exact this.2
    rw [hF] at hcases
    have hlen : F2 = 0 → F1.length ≤ 60000 := fun hz => by
      have hF' := hF
      unfold encR at hF'
      rw [if_pos hsb] at hF'
      split at hF'
      · injection hF' with _ h2; rw [← h2] at hz; cases hz
      · injection hF' with h1 _; rw [← h1, jH]; omega
    have hcall := IY HL2.out hF
    clear hF hsb
    go_wp2_with fail
    go_at_call 17
    refine hcall.mono ?_
    rintro e w3 ⟨v0, rfl, h0, hb3⟩
    have HX3 := iC.mk (iL hb3 HX2.out)
    have HB3 := iC.mk (iI HB2.out hb3)
    obtain ⟨A0, c0, rfl⟩ := Kd.R_slice h0
    obtain ⟨_, q0, C0⟩ := Kd.R_reads' h0
    clear hcall hb3 h0
    rcases hcases with hc | hc | hc
    · obtain ⟨rfl, rfl⟩ := Prod.mk.inj hc
      rw [if_neg (by decide)] at hEF
      obtain ⟨rfl, rfl⟩ := Prod.mk.inj hEF
      clear hEF hc hlen C0 q0
      go_wp2
      go_ret2
      exact ⟨_, rfl, Kd.R_nil _ _ _ _ _, HB3.out⟩
    · obtain ⟨rfl, rfl⟩ := Prod.mk.inj hc
      rw [if_neg (by decide)] at hEF
      obtain ⟨rfl, rfl⟩ := Prod.mk.inj hEF
      clear hEF hc hlen C0 q0
      go_wp2
      go_ret2
      exact ⟨_, rfl, Kd.R_nil _ _ _ _ _, HB3.out⟩
    · obtain ⟨hf1, rfl⟩ := Prod.mk.inj hc
      have hlen := hlen rfl
      subst hf1
      rw [if_pos rfl] at hEF
      obtain ⟨rfl, rfl⟩ := Prod.mk.inj hEF
      obtain ⟨l, hl⟩ : ∃ l, l = recE (recM m) := ⟨_, rfl⟩
      rw [← hl] at C0 q0 hlen ⊢
      rw [jH] at hlen q0
      have C0 : (Kd.int .u8).C w3 A0 l.length (nums l) := by rw [jH] at C0; exact C0
      have HC0 := iC.mk (rG C0)
      simp only [jH]
      have HLL := iC.mk hl
      clear hEF hc C0 hl
      obtain ⟨z0, z1, z2, z3, z4, z5, z6, z7, y0, y1, y2, y3, y4, y5, y6, y7⟩ := eight HX3.out
      rw [HK.out] at z0 ⊢
      go_wp2_with fail
      go_at_call 81
      refine (LY _ _ [[k8], l] _ (XK (by (repeat (first | (refine iV ?_; simp; done) | apply heap_drew' | apply jI | refine iL (by assumption) ?_))) rfl (by simp) (Cs.cons (n := 1) (Kd.C_below (XA (W := w3) rfl rfl (show (1 : Nat) ≤ 9223372036854775807 by decide) (by rfl)) (by (repeat (first | exact Below.refl _ _ | apply iF | apply lG | apply iG | apply below_bytesWorld | (refine iM ?_ (by first | assumption | omega)) | refine iI ?_ (by assumption))))) (Nat.le_refl _) (Cs.cons (n := l.length) (Kd.C_below HC0.out (by (repeat (first | exact Below.refl _ _ | apply iF | apply lG | apply iG | apply below_bytesWorld | (refine iM ?_ (by first | assumption | omega)) | refine iI ?_ (by assumption))))) q0 (Cs.nil _)))) (by simp; omega)).mono ?_
      rintro e w4 ⟨v4, rfl, ho4, hb4⟩
      have ho5 := WF ho4
      rw [show ([[k8], l] : List (List UInt8)).flatten = k8 :: l by simp] at ho5
      have HO := iC.mk (Kd.R_lower ho5 (iF (iF HB3.out _) _).size)
      have HB4 := iC.mk (show Below w.heap.size w w4 from iI (iF (iF HB3.out _) _) hb4)
      clear ho4 ho5 hb4 z0 z1 z2 z3 z4 z5 z6 z7 y0 y1 y2 y3 y4 y5 y6 y7
      go_wp2
      go_ret2
      exact ⟨_, rfl, (by have ho := HO.out; rw [HLL.out] at ho; rw [HK.out]; exact ho), HB4.out⟩
  · have hs : lT m = false := by simpa using hs
    rw [hs] at hsound
    have hEF : encM m = ([], 1) := by unfold encM; rw [hs, if_neg (by decide)]
    rw [HE.out] at hEF
    obtain ⟨rfl, rfl⟩ := Prod.mk.inj hEF
    clear hs hEF
    go_enter Tryd.func28, Tryd.ntmps28
    go_wp2_with fail
    go_at_call 30
    refine hsound.mono ?_
    rintro e w1 ⟨rfl, hb1⟩
    clear hsound
    go_wp2
    go_ret2
    exact ⟨_, rfl, Kd.R_nil _ _ _ _ _, iI HB.out hb1⟩
end Go.Proofs.YtgfkgppomaapiaaDoor.K
end

section
namespace Go.Proofs.YtgfkgppomaapiaaDoor.K
open RowKit YtgfkgppomaapiaaDoorW.PrintWords YtgfkgppomaapiaaDoorW.PrintLast YtgfkgppomaapiaaDoorW.PrintMore My
theorem pG {w : World} {A : Option Addr} {n : Nat} {l : List UInt8} (h : kb.C w A n l) : (Kd.int .u8).C w A n (nums l) := by
  refine ⟨by rw [jH]; exact h.1, h.2.1, fun hn => ?_⟩
  obtain ⟨ad, e, hc⟩ := h.2.2 hn
  refine ⟨ad, e, fun j p hj => ?_⟩
  unfold nums at hj
  rw [List.getElem?_map] at hj
  obtain ⟨b, hb, rfl⟩ := Option.map_eq_some_iff.1 hj
  exact hc j b hb
def uU (w : World) (d : SMsg × Int) (e : Ending) (w' : World) : Prop := ∃ A3 a3 A4 a4 A9 a9, e = .returned (.tuple #[.agg #[.int .u8 d.1.f0, .int .u32 d.1.f1, .int .u32 d.1.f2, .slice A3 d.1.f3.length a3, .slice A4 d.1.f4.length a4, .int .i64 d.1.f5, .int .i64 d.1.f6, .slice A9 d.1.f7.length a9], .int .u16 d.2]) ∧ qB w' d.1 A3 a3 A4 a4 A9 a9 ∧ Below w.heap.size w w'
theorem NI (w : World) : qB w mP none 0 none 0 none 0 := ⟨Kd.C_nil _ _, Nat.le_refl _, Kd.C_nil _ _, Nat.le_refl _, Kd.C_nil _ _, Nat.le_refl _⟩
theorem UX (w w' : World) (c : Int) (h : Below w.heap.size w w') : uU w (mP, c) (.returned (.tuple #[.agg #[.int .u8 0, .int .u32 0, .int .u32 0, .slice none 0 0, .slice none 0 0, .int .i64 0, .int .i64 0, .slice none 0 0], .int .u16 c])) w' := ⟨none, 0, none, 0, none, 0, rfl, NI _, h⟩
theorem uH (w W : World) (h : Below w.heap.size w W) (c : Int) : uU w (mP, c) (.returned (.tuple #[.agg #[.int .u8 0, .int .u32 0, .int .u32 0, .slice none 0 0, .slice none 0 0, .int .i64 0, .int .i64 0, .slice none 0 0], .int .u16 c])) (W.setRow w.heap.size #[.int .u8 0, .int .u32 0, .int .u32 0, .slice none 0 0, .slice none 0 0, .int .i64 0, .int .i64 0, .slice none 0 0]) :=
  UX w _ c (below_grown h (jC W w.heap.size _) (Nat.le_refl _) (Nat.le_refl _))
theorem rC {tmps : Array Value} {W : World} {p u : Tmp} {b : Nat} {cs : Array Value} {x : Value} (h : Tryd.f32.results = #[.cell p 51, .tmp u]) (hp : tmps.getD p undef = .pointer (some ⟨b, 0, none⟩)) (hu : tmps.getD u undef = x) (hx : W.heap[b]? = some (.cells cs 51 (0, 0))) (hs : cs.size = 8) :
    (results Tryd.f32 tmps).run Tryd.prog W = .ok (.tuple #[.agg cs, x]) W := by
  have h1 := run_loadVar_row (P := Tryd.prog) W b 51 51 cs (0, 0) _ hx Tryd.underlying51 rfl (by rw [hs]; kernel_rfl)
  rw [results_cell_tmp h, hp, hu]
  simp [asAddr, h1, Result.andThen]
theorem MB : (Tryd.prog).built 51 (#[] : Array (Nat × Value)).toList = some #[.int .u8 0, .int .u32 0, .int .u32 0, .slice none 0 0, .slice none 0 0, .int .i64 0, .int .i64 0, .slice none 0 0] := by kernel_rfl
theorem UO (w : World) : (Instr.build 51 #[]).run Tryd.prog w = .ok (.agg #[.int .u8 0, .int .u32 0, .int .u32 0, .slice none 0 0, .slice none 0 0, .int .i64 0, .int .i64 0, .slice none 0 0]) w := run_build w _ _ _ MB
theorem TF (k i a p q : Int) (A3 : Option Addr) (n3 c3 : Nat) (A4 : Option Addr) (n4 c4 : Nat) (A9 : Option Addr) (n9 c9 : Nat) : (Tryd.prog).built 51 (#[(0, .int .u8 k), (1, .int .u32 i), (2, .int .u32 a), (3, .slice A3 n3 c3), (4, .slice A4 n4 c4), (5, .int .i64 p), (6, .int .i64 q), (7, .slice A9 n9 c9)] : Array (Nat × Value)).toList = some #[.int .u8 k, .int .u32 i, .int .u32 a, .slice A3 n3 c3, .slice A4 n4 c4, .int .i64 p, .int .i64 q, .slice A9 n9 c9] := by kernel_rfl
theorem VB (w : World) (k i a p q : Int) (A3 : Option Addr) (n3 c3 : Nat) (A4 : Option Addr) (n4 c4 : Nat) (A9 : Option Addr) (n9 c9 : Nat) : (Instr.build 51 #[(0, .int .u8 k), (1, .int .u32 i), (2, .int .u32 a), (3, .slice A3 n3 c3), (4, .slice A4 n4 c4), (5, .int .i64 p), (6, .int .i64 q), (7, .slice A9 n9 c9)]).run Tryd.prog w = .ok (.agg #[.int .u8 k, .int .u32 i, .int .u32 a, .slice A3 n3 c3, .slice A4 n4 c4, .int .i64 p, .int .i64 q, .slice A9 n9 c9]) w := run_build w _ _ _ (TF k i a p q A3 n3 c3 A4 n4 c4 A9 n9 c9)
theorem XG {w : World} {b : Nat} {cs : Array Value} (h : w.heap[b]? = some (.cells cs 51 (0, 0))) (hs : cs.size = 8) : (Instr.loadAt 51 (.pointer (some ⟨b, 0, none⟩))).run Tryd.prog w = .ok (.agg cs) w := by
  simp only [Instr.loadAt, Instr.sureAddr, Sem.run_bind, Sem.run_pure, Result.andThen]
  exact run_loadVar_row w b 51 51 cs (0, 0) _ h Tryd.underlying51 rfl (by rw [hs]; kernel_rfl)
theorem rO {w : World} {b : Nat} {cs : Array Value} {a k i : Int} {x3 x4 x7 : Value} {p q : Int} (hs : cs.size = 8) (h : w.heap[b]? = some (.cells cs 51 (0, 0))) (o3 : x3.oneCell' = true) (o4 : x4.oneCell' = true) (o7 : x7.oneCell' = true) :
    (Instr.storeAt 51 (.pointer (some ⟨b, 0, none⟩)) (.agg #[.int .u8 a, .int .u32 k, .int .u32 i, x3, x4, .int .i64 p, .int .i64 q, x7])).run Tryd.prog w = .ok () (w.setRow b #[.int .u8 a, .int .u32 k, .int .u32 i, x3, x4, .int .i64 p, .int .i64 q, x7]) := by
  simp only [Instr.storeAt, Instr.sureAddr, Sem.run_bind, Sem.run_pure, Result.andThen]
  exact run_storeVar_row w b 51 51 _ _ h (by kernel_rfl) hs (by simp [o3, o4, o7, show ∀ k n, (Value.int k n).oneCell' = true from fun _ _ => rfl])
theorem uS {w : World} {b : Nat} {cs : Array Value} (hs : cs.size = 8) (h : w.heap[b]? = some (.cells cs 51 (0, 0))) : (Instr.storeAt 51 (.pointer (some ⟨b, 0, none⟩)) (.agg #[.int .u8 0, .int .u32 0, .int .u32 0, .slice none 0 0, .slice none 0 0, .int .i64 0, .int .i64 0, .slice none 0 0])).run Tryd.prog w = .ok () (w.setRow b #[.int .u8 0, .int .u32 0, .int .u32 0, .slice none 0 0, .slice none 0 0, .int .i64 0, .int .i64 0, .slice none 0 0]) := rO (a := 0) (k := 0) (i := 0) (x3 := .slice none 0 0) (x4 := .slice none 0 0) (p := 0) (q := 0) (x7 := .slice none 0 0) hs h rfl rfl rfl
theorem PM (k8 : UInt8) (t : List UInt8) (x : SRec) (h : decR t = (x, 0)) : decM (k8 :: t) = if encM (msgR k8.toNat x) = (nums (k8 :: t), 0) then (msgR k8.toNat x, 0) else (mP, 160) := by
  show (if (decR t).2 = 0 then _ else _) = _
  rw [h, if_pos rfl]
theorem UC (k8 : UInt8) (t : List UInt8) (h : (decR t).2 ≠ 0) : decM (k8 :: t) = (mP, 160) := by
  show (if (decR t).2 = 0 then _ else _) = _
  rw [if_neg h]
theorem P7 {base : Nat} {x : SRec} {A3 A4 A6 A9 : Option Addr} {d3 d4 d6 d9 : Nat} {w : World} (h : RecV base x (.agg #[.int .u8 x.f0, .int .u32 x.f1, .int .u32 x.f2, .slice A3 x.f3.length d3, .slice A4 x.f4.length d4, .int .u32 x.f5.f0, .slice A6 x.f5.f1.length d6, .int .i64 x.f6, .int .i64 x.f7, .slice A9 x.f8.length d9]) w) (k : Int) : qB w (msgR k x) A3 d3 A4 d4 A9 d9 := by
  obtain ⟨v3, v4, v6, v9, he, h3, h4, h6, h9⟩ := h
  simp only [Value.agg.injEq, Array.mk.injEq, List.cons.injEq, true_and, and_true] at he
  obtain ⟨rfl, rfl, rfl, rfl⟩ := he
  obtain ⟨_, q3, C3⟩ := Kd.R_reads' h3
  obtain ⟨_, q4, C4⟩ := Kd.R_reads' h4
  obtain ⟨_, q9, C9⟩ := Kd.R_reads' h9
  exact ⟨C3, q3, C4, q4, C9, q9⟩
theorem qL {w : World} {o : Obj} {p : Addr} {v : Value} (h : w.cell? p = some v) : (w.alloc o).cell? p = some v := ((iF (Below.refl w.heap.size w) o).cell (World.block_lt_of_cell? w p h)).trans h
attribute [-go_sem] Instr.build Instr.storeAt
attribute [local go_sem] UO VB
set_option maxRecDepth 20000 in
set_option maxHeartbeats 16000000 in
theorem xO (A : Option Addr) (c : Nat) (l : List UInt8) (w : World) (hCi : (Kd.int .u8).C w A l.length (nums l)) (hc : l.length ≤ c) :
    Calls Tryd.prog 32 #[.slice A l.length c] w (uU w (decM l)) := by
  cases l with
  | nil =>
    have hst := fun (_ : True) => uS rfl (show (w.alloc (.cells #[.int .u8 0, .int .u32 0, .int .u32 0, .slice none 0 0, .slice none 0 0, .int .i64 0, .int .i64 0, .slice none 0 0] 51)).heap[w.heap.size]? = _ from iV rfl)
    show Calls _ _ _ _ (uU w (mP, 160))
    simp only [List.length_nil]
    go_enter Tryd.func32, Tryd.ntmps32
    go_wp2
    ((try simp only [Exit.inBlock, Exit.then]); exact bodyPost_ret (rC rfl rfl rfl (setRow_heap _ _ _ _ _ _ (iV rfl)) rfl) rfl (uH w _ (iF (Below.refl _ _) _) 160))
  | cons k8 t =>
    obtain ⟨Wa, hWa⟩ : ∃ Wa, Wa = w.alloc (.cells #[.int .u8 0, .int .u32 0, .int .u32 0, .slice none 0 0, .slice none 0 0, .int .i64 0, .int .i64 0, .slice none 0 0] 51) := ⟨_, rfl⟩
    have hBa : Below w.heap.size w Wa := by rw [hWa]; exact iF (Below.refl _ _) _
    have HXA := iC.mk (show Wa.heap[w.heap.size]? = some (.cells #[.int .u8 0, .int .u32 0, .int .u32 0, .slice none 0 0, .slice none 0 0, .int .i64 0, .int .i64 0, .slice none 0 0] 51 (0, 0)) from by rw [hWa]; exact iV rfl)
    have HBA := iC.mk hBa
    have hC := rG (Kd.C_below hCi hBa)
    have hm := lC hC
    obtain ⟨A2, hcut, hC2⟩ := XE hC hc 1 1 rfl (by simp)
    obtain ⟨ad, rfl, hk0⟩ := C_at hC 0 (by simp)
    have hk0 : Wa.cell? (ad.add 0) = some (.int .u8 (k8.toNat : Int)) := hk0
    rw [Addr.add_zero'] at hk0
    have HC := iC.mk hC
    have HC2 := iC.mk (show kb.C Wa A2 t.length t from hC2)
    have HWA := iC.mk hWa
    have HK0 := iC.mk hk0
    have hcall := decode_any A2 (c - 1) t Wa (pG HC2.out) (by simp at hc; omega)
    simp only [List.length_cons, Nat.add_sub_cancel] at hcut hc hm ⊢
    have hnz : ¬ ((t.length : Int) + 1 = 0) := by omega
    have hk255 := k8.toNat_lt
    clear hCi hBa hC hC2 hWa hk0
    obtain ⟨⟨x, E⟩, hD⟩ : ∃ D, decR t = D := ⟨_, rfl⟩
    rw [hD] at hcall
    have HD := iC.mk hD
    clear hD
    go_enter Tryd.func32, Tryd.ntmps32
    go_wp2_with fail
    rw [← HWA.out]
    go_at_call 22
    refine hcall.mono ?_
    rintro e w1 ⟨v, rfl, ⟨v3, v4, v6, v9, rfl, h3, h4, h6, h9⟩, hB⟩
    obtain ⟨A3, d3, rfl⟩ := Kd.R_slice h3
    obtain ⟨A4, d4, rfl⟩ := Kd.R_slice h4
    obtain ⟨A6, d6, rfl⟩ := Kd.R_slice h6
    obtain ⟨A9, d9, rfl⟩ := Kd.R_slice h9
    obtain ⟨_, q3, C3⟩ := Kd.R_reads' h3
    obtain ⟨_, q4, C4⟩ := Kd.R_reads' h4
    obtain ⟨_, q9, C9⟩ := Kd.R_reads' h9
    have hbw : Below w1.heap.size w1 (w1.alloc (.cells #[.int .u8 x.f0, .int .u32 x.f1, .int .u32 x.f2, .slice A3 x.f3.length d3, .slice A4 x.f4.length d4, .int .u32 x.f5.f0, .slice A6 x.f5.f1.length d6, .int .i64 x.f6, .int .i64 x.f7, .slice A9 x.f8.length d9] 30)) := iF (Below.refl _ _) _
    have hsx := fun (_ : True) => run_storeAt_new (P := Tryd.prog) w1 30 #[.int .u8 0, .int .u32 0, .int .u32 0, .slice none 0 0, .slice none 0 0, .int .u32 0, .slice none 0 0, .int .i64 0, .int .i64 0, .slice none 0 0] #[.int .u8 x.f0, .int .u32 x.f1, .int .u32 x.f2, .slice A3 x.f3.length d3, .slice A4 x.f4.length d4, .int .u32 x.f5.f0, .slice A6 x.f5.f1.length d6, .int .i64 x.f6, .int .i64 x.f7, .slice A9 x.f8.length d9] (by kernel_rfl) rfl (by simp [Value.oneCell'])
    have HXR := iC.mk (show (w1.alloc (.cells #[.int .u8 x.f0, .int .u32 x.f1, .int .u32 x.f2, .slice A3 x.f3.length d3, .slice A4 x.f4.length d4, .int .u32 x.f5.f0, .slice A6 x.f5.f1.length d6, .int .i64 x.f6, .int .i64 x.f7, .slice A9 x.f8.length d9] 30)).heap[w1.heap.size]? = some (.cells #[.int .u8 x.f0, .int .u32 x.f1, .int .u32 x.f2, .slice A3 x.f3.length d3, .slice A4 x.f4.length d4, .int .u32 x.f5.f0, .slice A6 x.f5.f1.length d6, .int .i64 x.f6, .int .i64 x.f7, .slice A9 x.f8.length d9] 30 (0, 0)) from iV rfl)
    have hb1 := hB.trans (hbw.mono hB.size)
    have HX1 := iC.mk (iL hb1 HXA.out)
    have HB1 := iC.mk (HBA.out.trans (hb1.mono HBA.out.size))
    have HC1 := iC.mk (Kd.C_below HC.out hb1)
    have HK1 := iC.mk ((hb1.cell (World.block_lt_of_cell? _ _ HK0.out)).trans HK0.out)
    have HLM := iC.mk (show qB _ (msgR k8.toNat x) A3 d3 A4 d4 A9 d9 from ⟨Kd.C_below C3 hbw, q3, Kd.C_below C4 hbw, q4, Kd.C_below C9 hbw, q9⟩)
    have HV := iC.mk (lH (show RecV Wa.heap.size x _ w1 from ⟨_, _, _, _, rfl, h3, h4, h6, h9⟩) hbw)
    have HLT := iC.mk (jR HXA.out)
    clear h3 h4 h6 h9 C3 C4 C9 q3 q4 q9 hB hbw hcall hb1 HK0 HXA HBA
    by_cases hE : E = 0
    · subst hE
      obtain ⟨W, hW⟩ : ∃ W, W = w1.alloc (.cells #[.int .u8 x.f0, .int .u32 x.f1, .int .u32 x.f2, .slice A3 x.f3.length d3, .slice A4 x.f4.length d4, .int .u32 x.f5.f0, .slice A6 x.f5.f1.length d6, .int .i64 x.f6, .int .i64 x.f7, .slice A9 x.f8.length d9] 30) := ⟨_, rfl⟩
      have HW := iC.mk hW
      rw [← hW] at HXR HX1 HB1 HC1 HK1 HLM HV
      have hgs : w1.heap.size + 1 = W.heap.size := by rw [hW]; simp
      clear hW
      have hR := PM k8 t x HD.out
      go_wp2
      rw [← HW.out]
      clear hsx
      have hsn := fun (_ : True) => rO (a := (k8.toNat : Int)) (k := x.f1) (i := x.f2) (x3 := .slice A3 x.f3.length d3) (x4 := .slice A4 x.f4.length d4) (p := x.f6) (q := x.f7) (x7 := .slice A9 x.f8.length d9) rfl (show ((W.alloc (.cells #[.int .u8 0, .int .u32 0, .int .u32 0, .slice none 0 0, .slice none 0 0, .int .i64 0, .int .i64 0, .slice none 0 0] 51)).drew).heap[W.heap.size]? = some (.cells #[.int .u8 0, .int .u32 0, .int .u32 0, .slice none 0 0, .slice none 0 0, .int .i64 0, .int .i64 0, .slice none 0 0] 51 (0, 0)) from iV rfl) rfl rfl rfl
      have h0t : (0 : Int) < (((t.length + 1 : Nat)) : Int) := by omega
      have h0u : (0 : Nat) < t.length + 1 := by omega
      refine qP (n := 20) (S := fun w' => w'.cell? ad = some (.int .u8 (k8.toNat : Int)) ∧ w'.cell? ⟨w1.heap.size, 1, none⟩ = some (.int .u32 x.f1) ∧ w'.cell? ⟨w1.heap.size, 2, none⟩ = some (.int .u32 x.f2) ∧ w'.cell? ⟨w1.heap.size, 3, none⟩ = some (.slice A3 x.f3.length d3) ∧ w'.cell? ⟨w1.heap.size, 4, none⟩ = some (.slice A4 x.f4.length d4) ∧ w'.cell? ⟨w1.heap.size, 7, none⟩ = some (.int .i64 x.f6) ∧ w'.cell? ⟨w1.heap.size, 8, none⟩ = some (.int .i64 x.f7) ∧ w'.cell? ⟨w1.heap.size, 9, none⟩ = some (.slice A9 x.f8.length d9)) (ds := [19]) #[false, false, false, false, false, false, false, false, false, false, false, false, false, false, false, false, false, false, false, false] (by kernel_rfl) rfl rfl ⟨HK1.out, (iE HXR.out 1).trans rfl, (iE HXR.out 2).trans rfl, (iE HXR.out 3).trans rfl, (iE HXR.out 4).trans rfl, (iE HXR.out 7).trans rfl, (iE HXR.out 8).trans rfl, (iE HXR.out 9).trans rfl⟩ (fun hHeld => ?_)
      refine mG (T := (true, [([], []), ([0], [0]), ([1], [1]), ([], []), ([3], [3]), ([], []), ([5], [5]), ([], []), ([7], [7]), ([], []), ([9], [9]), ([], []), ([11], [11]), ([], []), ([13], [13]), ([], []), ([15], [15]), ([2, 4, 6, 8, 10, 12, 14, 16], [2, 4, 6, 8, 10, 12, 14, 16]), ([], []), ([18, 17, 0, 1, 2, 3, 4, 5, 6, 7, 8, 9, 10, 11, 12, 13, 14, 15, 16, 17, 18], [17, 18])])) (B := [0, 1, 3, 0, 8, 0, 32, 0, 128, 0, 512, 0, 2048, 0, 8192, 0, 32768, 131071, 0, 524287]) (by kernel_rfl) (by kernel_rfl) (fun HT_ HW_ => ?_)
      refine jK (i := 0) (N := some 21) (v := ?_) (a' := ?_) #[true, false, false, false, false, false, false, false, false, false, false, false, false, false, false, false, false, false, false, false] rfl rfl (jB HT_.out (by kernel_rfl)) (fun _ _ _ h => h) (Or.inl ⟨by rfl, ?_⟩) ?_ ?_
      rotate_left
      · intro w'
        go_simp
        with_reducible rfl
      rotate_left
      · simp only [Act.put, List.setIfInBounds_toArray, List.set_cons_zero, List.set_cons_succ, iY, jD]
        rfl
      refine jK (i := 1) (N := some 22) (v := ?_) (a' := ?_) #[true, true, false, false, false, false, false, false, false, false, false, false, false, false, false, false, false, false, false, false] rfl rfl (jB HT_.out (by kernel_rfl)) (fun _ _ _ h => h) (Or.inl ⟨by rfl, ?_⟩) ?_ ?_
      rotate_left
      · intro w'
        go_simp
        with_reducible rfl
      rotate_left
      · simp only [Act.put, List.setIfInBounds_toArray, List.set_cons_zero, List.set_cons_succ, iY, jD]
        rfl
      refine jK (i := 3) (N := some 24) (v := ?_) (a' := ?_) #[true, true, false, true, false, false, false, false, false, false, false, false, false, false, false, false, false, false, false, false] rfl rfl (jB HT_.out (by kernel_rfl)) (fun _ _ _ h => h) (Or.inl ⟨by rfl, ?_⟩) ?_ ?_
      rotate_left
      · intro w'
        go_simp
        with_reducible rfl
      rotate_left
      · simp only [Act.put, List.setIfInBounds_toArray, List.set_cons_zero, List.set_cons_succ, iY, jD]
        rfl
      refine jK (i := 5) (N := some 26) (v := ?_) (a' := ?_) #[true, true, false, true, false, true, false, false, false, false, false, false, false, false, false, false, false, false, false, false] rfl rfl (jB HT_.out (by kernel_rfl)) (fun _ _ _ h => h) (Or.inl ⟨by rfl, ?_⟩) ?_ ?_
      rotate_left
      · intro w'
        go_simp
        with_reducible rfl
      rotate_left
      · simp only [Act.put, List.setIfInBounds_toArray, List.set_cons_zero, List.set_cons_succ, iY, jD]
        rfl
      refine jK (i := 7) (N := some 28) (v := ?_) (a' := ?_) #[true, true, false, true, false, true, false, true, false, false, false, false, false, false, false, false, false, false, false, false] rfl rfl (jB HT_.out (by kernel_rfl)) (fun _ _ _ h => h) (Or.inl ⟨by rfl, ?_⟩) ?_ ?_
      rotate_left
      · intro w'
        go_simp
        with_reducible rfl
      rotate_left
      · simp only [Act.put, List.setIfInBounds_toArray, List.set_cons_zero, List.set_cons_succ, iY, jD]
        rfl
      refine jK (i := 9) (N := some 30) (v := ?_) (a' := ?_) #[true, true, false, true, false, true, false, true, false, true, false, false, false, false, false, false, false, false, false, false] rfl rfl (jB HT_.out (by kernel_rfl)) (fun _ _ _ h => h) (Or.inl ⟨by rfl, ?_⟩) ?_ ?_
      rotate_left
      · intro w'
        go_simp
        with_reducible rfl
      rotate_left
      · simp only [Act.put, List.setIfInBounds_toArray, List.set_cons_zero, List.set_cons_succ, iY, jD]
        rfl
      refine jK (i := 11) (N := some 32) (v := ?_) (a' := ?_) #[true, true, false, true, false, true, false, true, false, true, false, true, false, false, false, false, false, false, false, false] rfl rfl (jB HT_.out (by kernel_rfl)) (fun _ _ _ h => h) (Or.inl ⟨by rfl, ?_⟩) ?_ ?_
      rotate_left
      · intro w'
        go_simp
        with_reducible rfl
      rotate_left
      · simp only [Act.put, List.setIfInBounds_toArray, List.set_cons_zero, List.set_cons_succ, iY, jD]
        rfl
      refine jK (i := 13) (N := some 34) (v := ?_) (a' := ?_) #[true, true, false, true, false, true, false, true, false, true, false, true, false, true, false, false, false, false, false, false] rfl rfl (jB HT_.out (by kernel_rfl)) (fun _ _ _ h => h) (Or.inl ⟨by rfl, ?_⟩) ?_ ?_
      rotate_left
      · intro w'
        go_simp
        with_reducible rfl
      rotate_left
      · simp only [Act.put, List.setIfInBounds_toArray, List.set_cons_zero, List.set_cons_succ, iY, jD]
        rfl
      refine jK (i := 15) (N := some 36) (v := ?_) (a' := ?_) #[true, true, false, true, false, true, false, true, false, true, false, true, false, true, false, true, false, false, false, false] rfl rfl (jB HT_.out (by kernel_rfl)) (fun _ _ _ h => h) (Or.inl ⟨by rfl, ?_⟩) ?_ ?_
      rotate_left
      · intro w'
        go_simp
        with_reducible rfl
      rotate_left
      · simp only [Act.put, List.setIfInBounds_toArray, List.set_cons_zero, List.set_cons_succ, iY, jD]
        rfl
      refine lZ (i := 2) (N := some 23) (v := ?_) (a' := ?_) #[true, true, true, true, false, true, false, true, false, true, false, true, false, true, false, true, false, false, false, false] rfl rfl (jU HT_.out HW_.out (by kernel_rfl)) (fun _ _ _ h => h) (Or.inl ⟨by rfl, ?_⟩) hHeld ?_ ?_
      rotate_left
      · rintro w' ⟨s0, s1, s2, s3, s4, s5, s6, s7⟩
        go_simp
        with_reducible rfl
      rotate_left
      · simp only [Act.put, List.setIfInBounds_toArray, List.set_cons_zero, List.set_cons_succ, iY, jD]
        rfl
      refine lZ (i := 4) (N := some 25) (v := ?_) (a' := ?_) #[true, true, true, true, true, true, false, true, false, true, false, true, false, true, false, true, false, false, false, false] rfl rfl (jU HT_.out HW_.out (by kernel_rfl)) (fun _ _ _ h => h) (Or.inl ⟨by rfl, ?_⟩) hHeld ?_ ?_
      rotate_left
      · rintro w' ⟨s0, s1, s2, s3, s4, s5, s6, s7⟩
        go_simp
        with_reducible rfl
      rotate_left
      · simp only [Act.put, List.setIfInBounds_toArray, List.set_cons_zero, List.set_cons_succ, iY, jD]
        rfl
      refine lZ (i := 6) (N := some 27) (v := ?_) (a' := ?_) #[true, true, true, true, true, true, true, true, false, true, false, true, false, true, false, true, false, false, false, false] rfl rfl (jU HT_.out HW_.out (by kernel_rfl)) (fun _ _ _ h => h) (Or.inl ⟨by rfl, ?_⟩) hHeld ?_ ?_
      rotate_left
      · rintro w' ⟨s0, s1, s2, s3, s4, s5, s6, s7⟩
        go_simp
        with_reducible rfl
      rotate_left
      · simp only [Act.put, List.setIfInBounds_toArray, List.set_cons_zero, List.set_cons_succ, iY, jD]
        rfl
      refine lZ (i := 8) (N := some 29) (v := ?_) (a' := ?_) #[true, true, true, true, true, true, true, true, true, true, false, true, false, true, false, true, false, false, false, false] rfl rfl (jU HT_.out HW_.out (by kernel_rfl)) (fun _ _ _ h => h) (Or.inl ⟨by rfl, ?_⟩) hHeld ?_ ?_
      rotate_left
      · rintro w' ⟨s0, s1, s2, s3, s4, s5, s6, s7⟩
        go_simp
        with_reducible rfl
      rotate_left
      · simp only [Act.put, List.setIfInBounds_toArray, List.set_cons_zero, List.set_cons_succ, iY, jD]
        rfl
      refine lZ (i := 10) (N := some 31) (v := ?_) (a' := ?_) #[true, true, true, true, true, true, true, true, true, true, true, true, false, true, false, true, false, false, false, false] rfl rfl (jU HT_.out HW_.out (by kernel_rfl)) (fun _ _ _ h => h) (Or.inl ⟨by rfl, ?_⟩) hHeld ?_ ?_
      rotate_left
      · rintro w' ⟨s0, s1, s2, s3, s4, s5, s6, s7⟩
        go_simp
        with_reducible rfl
      rotate_left
      · simp only [Act.put, List.setIfInBounds_toArray, List.set_cons_zero, List.set_cons_succ, iY, jD]
        rfl
      refine lZ (i := 12) (N := some 33) (v := ?_) (a' := ?_) #[true, true, true, true, true, true, true, true, true, true, true, true, true, true, false, true, false, false, false, false] rfl rfl (jU HT_.out HW_.out (by kernel_rfl)) (fun _ _ _ h => h) (Or.inl ⟨by rfl, ?_⟩) hHeld ?_ ?_
      rotate_left
      · rintro w' ⟨s0, s1, s2, s3, s4, s5, s6, s7⟩
        go_simp
        with_reducible rfl
      rotate_left
      · simp only [Act.put, List.setIfInBounds_toArray, List.set_cons_zero, List.set_cons_succ, iY, jD]
        rfl
      refine lZ (i := 14) (N := some 35) (v := ?_) (a' := ?_) #[true, true, true, true, true, true, true, true, true, true, true, true, true, true, true, true, false, false, false, false] rfl rfl (jU HT_.out HW_.out (by kernel_rfl)) (fun _ _ _ h => h) (Or.inl ⟨by rfl, ?_⟩) hHeld ?_ ?_
      rotate_left
      · rintro w' ⟨s0, s1, s2, s3, s4, s5, s6, s7⟩
        go_simp
        with_reducible rfl
      rotate_left
      · simp only [Act.put, List.setIfInBounds_toArray, List.set_cons_zero, List.set_cons_succ, iY, jD]
        rfl
      refine lZ (i := 16) (N := some 37) (v := ?_) (a' := ?_) #[true, true, true, true, true, true, true, true, true, true, true, true, true, true, true, true, true, false, false, false] rfl rfl (jU HT_.out HW_.out (by kernel_rfl)) (fun _ _ _ h => h) (Or.inl ⟨by rfl, ?_⟩) hHeld ?_ ?_
      rotate_left
      · rintro w' ⟨s0, s1, s2, s3, s4, s5, s6, s7⟩
        go_simp
        with_reducible rfl
      rotate_left
      · simp only [Act.put, List.setIfInBounds_toArray, List.set_cons_zero, List.set_cons_succ, iY, jD]
        rfl
      refine jK (i := 17) (N := some 38) (v := ?_) (a' := ?_) #[true, true, true, true, true, true, true, true, true, true, true, true, true, true, true, true, true, true, false, false] rfl rfl (jB HT_.out (by kernel_rfl)) (fun _ _ _ h => h) (Or.inl ⟨by rfl, ?_⟩) ?_ ?_
      rotate_left
      · intro w'
        go_simp
        with_reducible rfl
      rotate_left
      · simp only [Act.put, List.setIfInBounds_toArray, List.set_cons_zero, List.set_cons_succ, iY, jD]
        rfl
      refine one_ (i := 18) (N := some 6) #[true, true, true, true, true, true, true, true, true, true, true, true, true, true, true, true, true, true, true, false] rfl rfl (mX HT_.out (by kernel_rfl)) (by decide) (fun K hK => ?_)
      refine jT (w1 := ?_) (v := ?_) (by rfl) rfl ?_ ?_
      rotate_left 2
      · go_simp
        constructor
        · rfl
        · rfl
      refine hK.out _ _ ⟨(qL (w := W.drew) HK1.out), (qL (w := W.drew) ((iE HXR.out 1).trans rfl)), (qL (w := W.drew) ((iE HXR.out 2).trans rfl)), (qL (w := W.drew) ((iE HXR.out 3).trans rfl)), (qL (w := W.drew) ((iE HXR.out 4).trans rfl)), (qL (w := W.drew) ((iE HXR.out 7).trans rfl)), (qL (w := W.drew) ((iE HXR.out 8).trans rfl)), (qL (w := W.drew) ((iE HXR.out 9).trans rfl))⟩ (fun hHeld => ?_)
      clear hK K
      refine uX (a' := ?_) ?_ ?_
      rotate_left
      · show Act.put _ (some 6) _ = _
        simp only [Act.put, List.setIfInBounds_toArray, List.set_cons_zero, List.set_cons_succ, iY, jD]
        rfl
      refine PS (i := 19) (N := none) #[true, true, true, true, true, true, true, true, true, true, true, true, true, true, true, true, true, true, true, true] rfl rfl (mX HT_.out (by kernel_rfl)) (by decide) (fun K hK => ?_)
      refine OZ (w1 := ?_) (by rfl) rfl ?_ ?_
      rotate_left
      · go_simp
        rfl
      refine hK.out _ _ ?_
      clear hK K
      refine I7 (pW HT_.out (by kernel_rfl)) ?_
      have hbW : Below W.heap.size W (((W.alloc (.cells #[.int .u8 0, .int .u32 0, .int .u32 0, .slice none 0 0, .slice none 0 0, .int .i64 0, .int .i64 0, .slice none 0 0] 51)).drew).setRow W.heap.size #[.int .u8 (k8.toNat : Int), .int .u32 x.f1, .int .u32 x.f2, .slice A3 x.f3.length d3, .slice A4 x.f4.length d4, .int .i64 x.f6, .int .i64 x.f7, .slice A9 x.f8.length d9]) := below_grown (g := W.heap.size) (iJ (iF (Below.refl W.heap.size W) _)) (jC _ _ _) (Nat.le_refl _) (Nat.le_refl _)
      have hm2 : (((W.alloc (.cells #[.int .u8 0, .int .u32 0, .int .u32 0, .slice none 0 0, .slice none 0 0, .int .i64 0, .int .i64 0, .slice none 0 0] 51)).drew).setRow W.heap.size #[.int .u8 (k8.toNat : Int), .int .u32 x.f1, .int .u32 x.f2, .slice A3 x.f3.length d3, .slice A4 x.f4.length d4, .int .i64 x.f6, .int .i64 x.f7, .slice A9 x.f8.length d9]).heap[W.heap.size]? = some (.cells #[.int .u8 (k8.toNat : Int), .int .u32 x.f1, .int .u32 x.f2, .slice A3 x.f3.length d3, .slice A4 x.f4.length d4, .int .i64 x.f6, .int .i64 x.f7, .slice A9 x.f8.length d9] 51 (0, 0)) := setRow_heap _ _ _ _ _ _ (iV rfl)
      obtain ⟨W2, hW2⟩ : ∃ W2, W2 = ((W.alloc (.cells #[.int .u8 0, .int .u32 0, .int .u32 0, .slice none 0 0, .slice none 0 0, .int .i64 0, .int .i64 0, .slice none 0 0] 51)).drew).setRow W.heap.size #[.int .u8 (k8.toNat : Int), .int .u32 x.f1, .int .u32 x.f2, .slice A3 x.f3.length d3, .slice A4 x.f4.length d4, .int .i64 x.f6, .int .i64 x.f7, .slice A9 x.f8.length d9] := ⟨_, rfl⟩
      rw [← hW2] at hbW hm2 ⊢
      have HM2 := iC.mk hm2
      have HX2 := iC.mk (iL hbW HX1.out)
      have HB2 := iC.mk (iI HB1.out hbW)
      have HLM2 := iC.mk (HLM.out.below hbW)
      have HC3 := iC.mk (Kd.C_below HC1.out hbW)
      have HV2 := iC.mk (lH HV.out hbW)
      clear hbW hm2 hW2 hsn hHeld HT_ HW_ HX1 HB1 HLM HC1 HK1 HXR hgs HW
      obtain ⟨⟨E1, E2⟩, hEE⟩ : ∃ E : List Int × Int, encM (msgR k8.toNat x) = E := ⟨_, rfl⟩
      have hcs := yX (msgR k8.toNat x)
      rw [hEE] at hR hcs
      have hcall := pX (msgR k8.toNat x) A3 d3 A4 d4 A9 d9 W2 HLM2.out ⟨by show (0 : Int) ≤ (k8.toNat : Int); omega, by show (k8.toNat : Int) < 256; omega⟩ hEE
      have HR := iC.mk hR
      clear hEE hR
      obtain ⟨z0, z1, z2, z3, z4, z5, z6, z7, y0, y1, y2, y3, y4, y5, y6, y7⟩ := eight HM2.out
      go_wp2_with fail
      go_at_call 28
      refine hcall.mono ?_
      rintro e w4 ⟨v0, rfl, h0, hb4⟩
      obtain ⟨A0, c0, rfl⟩ := Kd.R_slice h0
      obtain ⟨_, q0, C0⟩ := Kd.R_reads' h0
      have HM4 := iC.mk (iL hb4 HM2.out)
      have HX4 := iC.mk (iL hb4 HX2.out)
      have HB4 := iC.mk (iI HB2.out hb4)
      have HV4 := iC.mk (lH HV2.out hb4)
      have HC4 := iC.mk (pG (Kd.C_below HC3.out hb4))
      clear hcall hb4 h0 HM2 HX2 HB2 HLM2 HC3 z0 z1 z2 z3 z4 z5 z6 z7 y0 y1 y2 y3 y4 y5 y6 y7
      rcases hcs with hc2 | hc2 | ⟨hsd, hc2⟩
      · obtain ⟨rfl, rfl⟩ := Prod.mk.inj hc2
        have HDM := iC.mk (show decM (k8 :: t) = (mP, 160) from HR.out.trans (if_neg (by intro h; injection h with _ h2; cases h2)))
        have hst := fun (_ : True) => uS rfl HX4.out
        clear C0 q0 hc2
        go_wp2
        ((try simp only [Exit.inBlock, Exit.then]); exact bodyPost_ret (rC rfl rfl rfl (setRow_heap _ _ _ _ _ _ HX4.out) rfl) rfl (by rw [HDM.out]; exact uH w _ HB4.out 160))
      · obtain ⟨rfl, rfl⟩ := Prod.mk.inj hc2
        have HDM := iC.mk (show decM (k8 :: t) = (mP, 160) from HR.out.trans (if_neg (by intro h; injection h with _ h2; cases h2)))
        have hst := fun (_ : True) => uS rfl HX4.out
        clear C0 q0 hc2
        go_wp2
        ((try simp only [Exit.inBlock, Exit.then]); exact bodyPost_ret (rC rfl rfl rfl (setRow_heap _ _ _ _ _ _ HX4.out) rfl) rfl (by rw [HDM.out]; exact uH w _ HB4.out 160))
      · obtain ⟨rfl, rfl⟩ := Prod.mk.inj hc2
        have q0 : (nums (recE (recM (msgR k8.toNat x)))).length + 1 ≤ c0 := q0
        have hlen : (nums (k8 :: recE (recM (msgR k8.toNat x)))).length = (nums (recE (recM (msgR k8.toNat x)))).length + 1 := rfl
        have C0 : (Kd.int .u8).C w4 A0 (nums (k8 :: recE (recM (msgR k8.toNat x)))).length (nums (k8 :: recE (recM (msgR k8.toNat x)))) := C0
        have hcall := bytes_Equal.calls A0 c0 (nums (k8 :: recE (recM (msgR k8.toNat x)))) (some ad) c (nums (k8 :: t)) _ w4 C0 q0 (by rw [jH]; exact HC4.out) (by rw [jH]; simpa using hc) rfl
        rw [zD] at hcall
        obtain ⟨L, hL⟩ : ∃ L, L = recE (recM (msgR k8.toNat x)) := ⟨_, rfl⟩
        rw [← hL] at hcall
        have HLE := iC.mk hL
        rw [show (nums (k8 :: L)).length = (nums L).length + 1 from rfl, show (nums (k8 :: t)).length = t.length + 1 from by rw [jH]; rfl] at hcall
        simp only [List.length_cons, ← hL]
        clear hlen C0 q0 hc2 hsd hL
        by_cases hq : k8 :: L = k8 :: t
        · rw [decide_eq_true hq] at hcall
          have HDM := iC.mk (show decM (k8 :: t) = (msgR k8.toNat x, 0) from HR.out.trans (if_pos (by rw [← hq, HLE.out]; rfl)))
          clear hq
          go_wp2_with fail
          go_at_call 75
          refine hcall.mono ?_
          rintro e w5 ⟨rfl, hD⟩
          have hb5 := hD.below
          have HX5 := iC.mk (iL hb5 HX4.out)
          have hl5 := fun (_ : True) => XG (iL hb5 HM4.out) rfl
          have HB5 := iC.mk (iI HB4.out hb5)
          have HV5 := iC.mk (lH HV4.out hb5)
          obtain ⟨z0, z1, z2, z3, z4, z5, z6, z7, y0, y1, y2, y3, y4, y5, y6, y7⟩ := eight (iL hb5 HM4.out)
          have hst := fun (_ : True) => rO (a := (k8.toNat : Int)) (k := x.f1) (i := x.f2) (x3 := .slice A3 x.f3.length d3) (x4 := .slice A4 x.f4.length d4) (p := x.f6) (q := x.f7) (x7 := .slice A9 x.f8.length d9) rfl HX5.out rfl rfl rfl
          clear hcall hD hb5
          go_wp2
          ((try simp only [Exit.inBlock, Exit.then]); refine bodyPost_ret (rC rfl rfl rfl (setRow_heap _ _ _ _ _ _ HX5.out) rfl) rfl ?_)
          rw [HDM.out]
          exact ⟨A3, d3, A4, d4, A9, d9, rfl, P7 (kQ HV5.out (jC _ w.heap.size _) HLT.out) _, below_grown HB5.out (jC _ w.heap.size _) (Nat.le_refl _) (Nat.le_refl _)⟩
        · rw [decide_eq_false hq] at hcall
          have HDM := iC.mk (show decM (k8 :: t) = (mP, 160) from HR.out.trans (if_neg (by
            intro h
            injection h with h1 _
            apply hq
            rw [HLE.out]
            exact MW h1)))
          clear hq
          go_wp2_with fail
          go_at_call 75
          refine hcall.mono ?_
          rintro e w5 ⟨rfl, hD⟩
          have HX5 := iC.mk (iL hD.below HX4.out)
          have HB5 := iC.mk (iI HB4.out hD.below)
          have hst := fun (_ : True) => uS rfl HX5.out
          clear hcall hD
          go_wp2
          ((try simp only [Exit.inBlock, Exit.then]); exact bodyPost_ret (rC rfl rfl rfl (setRow_heap _ _ _ _ _ _ HX5.out) rfl) rfl (by rw [HDM.out]; exact uH w _ HB5.out 160))
    · have HDM := iC.mk (UC k8 t (by rw [HD.out]; exact hE))
      have hst := fun (_ : True) => uS rfl HX1.out
      go_wp2
      ((try simp only [Exit.inBlock, Exit.then]); exact bodyPost_ret (rC rfl rfl rfl (setRow_heap _ _ _ _ _ _ HX1.out) rfl) rfl (by rw [HDM.out]; exact uH w _ HB1.out 160))
end Go.Proofs.YtgfkgppomaapiaaDoor.K
end

section
namespace Go.Proofs.YtgfkgppomaapiaaDoor.K
open RowKit YtgfkgppomaapiaaDoorW.PrintWords YtgfkgppomaapiaaDoorW.PrintLast YtgfkgppomaapiaaDoorW.PrintMore My
theorem TV (a b : Int) : (Tryd.prog).built 51 (#[(0, .int .u8 a), (1, .int .u32 b)] : Array (Nat × Value)).toList = some #[.int .u8 a, .int .u32 b, .int .u32 0, .slice none 0 0, .slice none 0 0, .int .i64 0, .int .i64 0, .slice none 0 0] := by kernel_rfl
theorem X7 (w : World) (a b : Int) : (Instr.build 51 #[(0, .int .u8 a), (1, .int .u32 b)]).run Tryd.prog w = .ok (.agg #[.int .u8 a, .int .u32 b, .int .u32 0, .slice none 0 0, .slice none 0 0, .int .i64 0, .int .i64 0, .slice none 0 0]) w := run_build w _ _ _ (TV a b)
theorem NR (w : World) (k i a : Int) : qB w ⟨k, i, a, [], [], 0, 0, []⟩ none 0 none 0 none 0 := ⟨Kd.C_nil _ _, Nat.le_refl _, Kd.C_nil _ _, Nat.le_refl _, Kd.C_nil _ _, Nat.le_refl _⟩
attribute [-go_sem] Instr.build Instr.storeAt
attribute [local go_sem] X7
set_option maxRecDepth 20000 in
set_option maxHeartbeats 8000000 in
theorem zN (w : World) : Calls Tryd.prog 25 #[] w fun e w' => e = .returned (.bool true) ∧ Below w.heap.size w w' := by
  have henc : Calls Tryd.prog 28 #[.agg #[.int .u8 2, .int .u32 5, .int .u32 0, .slice none 0 0, .slice none 0 0, .int .i64 0, .int .i64 0, .slice none 0 0]] w _ := pX qA none 0 none 0 none 0 w (NR w 2 5 0) (by decide) NM
  go_enter Tryd.func25, Tryd.ntmps25
  go_wp2_with fail
  go_at_call 28
  refine henc.mono ?_
  rintro e w1 ⟨v0, rfl, h0, hB⟩
  clear henc
  obtain ⟨A0, d0, rfl⟩ := Kd.R_slice h0
  obtain ⟨_, q0, C0⟩ := Kd.R_reads' h0
  have q0 : 6 ≤ d0 := q0
  have C0 : (Kd.int .u8).C w1 A0 6 (nums [2, 4, 0, 0, 0, 5]) := C0
  simp only [show (nums [2, 4, 0, 0, 0, 5]).length = 6 from rfl]
  have HB := iC.mk hB
  have HC := iC.mk C0
  have hdec : Calls Tryd.prog 32 #[.slice A0 6 d0] w1 (uU w1 (decM [2, 4, 0, 0, 0, 5])) := xO A0 d0 [2, 4, 0, 0, 0, 5] w1 C0 q0
  rw [P5] at hdec
  clear h0 hB C0
  go_wp2_with fail
  go_at_call 32
  refine hdec.mono ?_
  rintro e w2 ⟨A3, d3, A4, d4, A9, d9, rfl, hL, hB⟩
  clear hdec
  have hbw : Below w2.heap.size w2 (w2.alloc (.cells #[.int .u8 2, .int .u32 5, .int .u32 0, .slice A3 0 d3, .slice A4 0 d4, .int .i64 0, .int .i64 0, .slice A9 0 d9] 51)) := iF (Below.refl _ _) _
  have hbv : Below w2.heap.size w2 ((w2.alloc (.cells #[.int .u8 2, .int .u32 5, .int .u32 0, .slice A3 0 d3, .slice A4 0 d4, .int .i64 0, .int .i64 0, .slice A9 0 d9] 51)).alloc (.cells #[.int .u8 99] 5)) := iF hbw _
  have HB2 := iC.mk (HB.out.trans ((hB.trans (hbv.mono hB.size)).mono HB.out.size))
  have HC2 := iC.mk (Kd.C_below HC.out (hB.trans (hbv.mono hB.size)))
  have HL2 := iC.mk (hL.below hbv)
  have HX2 := iC.mk (show ((w2.alloc (.cells #[.int .u8 2, .int .u32 5, .int .u32 0, .slice A3 0 d3, .slice A4 0 d4, .int .i64 0, .int .i64 0, .slice A9 0 d9] 51)).alloc (.cells #[.int .u8 99] 5)).heap[w2.heap.size]? = some (.cells #[.int .u8 2, .int .u32 5, .int .u32 0, .slice A3 0 d3, .slice A4 0 d4, .int .i64 0, .int .i64 0, .slice A9 0 d9] 51 (0, 0)) from jI (iV rfl))
  have hsx := fun (_ : True) => run_storeAt_new (P := Tryd.prog) w2 51 #[.int .u8 0, .int .u32 0, .int .u32 0, .slice none 0 0, .slice none 0 0, .int .i64 0, .int .i64 0, .slice none 0 0] #[.int .u8 2, .int .u32 5, .int .u32 0, .slice A3 0 d3, .slice A4 0 d4, .int .i64 0, .int .i64 0, .slice A9 0 d9] (by kernel_rfl) rfl (by simp [Value.oneCell'])
  have hdec := xO (some ⟨w2.heap.size + 1, 0, none⟩) 1 [99] ((w2.alloc (.cells #[.int .u8 2, .int .u32 5, .int .u32 0, .slice A3 0 d3, .slice A4 0 d4, .int .i64 0, .int .i64 0, .slice A9 0 d9] 51)).alloc (.cells #[.int .u8 99] 5)) (pG (XA (by simp) rfl (by decide) (by rfl))) (Nat.le_refl _)
  rw [OD] at hdec
  simp only [List.length_cons, List.length_nil, Nat.zero_add] at hdec
  clear hL hB hbw hbv
  simp only [qA, List.length_nil]
  go_wp2_with fail
  go_at_call 32
  refine hdec.mono ?_
  rintro e w3 ⟨B3, e3, B4, e4, B9, e9, rfl, hL3, hB⟩
  clear hdec hsx
  have hbw : Below w3.heap.size w3 (w3.alloc (.cells #[.int .u8 0, .int .u32 0, .int .u32 0, .slice B3 0 e3, .slice B4 0 e4, .int .i64 0, .int .i64 0, .slice B9 0 e9] 51)) := iF (Below.refl _ _) _
  have hb' := hB.trans (hbw.mono hB.size)
  have HB3 := iC.mk (HB2.out.trans (hb'.mono HB2.out.size))
  have hcv := fun (_ : True) => MC (c := d0) (rG (n := 6) (l := [2, 4, 0, 0, 0, 5]) (Kd.C_below HC2.out hb'))
  have hsx := fun (_ : True) => run_storeAt_new (P := Tryd.prog) w3 51 #[.int .u8 0, .int .u32 0, .int .u32 0, .slice none 0 0, .slice none 0 0, .int .i64 0, .int .i64 0, .slice none 0 0] #[.int .u8 0, .int .u32 0, .int .u32 0, .slice B3 0 e3, .slice B4 0 e4, .int .i64 0, .int .i64 0, .slice B9 0 e9] (by kernel_rfl) rfl (by simp [Value.oneCell'])
  obtain ⟨z0, z1, z2, z3, z4, z5, z6, z7, y0, y1, y2, y3, y4, y5, y6, y7⟩ := eight (iL hb' HX2.out)
  have hsd := rE qA A3 d3 A4 d4 A9 d9 _ (HL2.out.below hb')
  rw [IV] at hsd
  simp only [qA, List.length_nil] at hsd
  clear hB hb' hbw hL3
  simp only [mP, List.length_nil]
  have hbl : True → (bs [2, 4, 0, 0, 0, 5]).toList = [2, 4, 0, 0, 0, 5] := fun _ => jL _
  go_wp2_with fail
  go_at_call 30
  refine hsd.mono ?_
  rintro e w4 ⟨rfl, hB⟩
  have HB4 := iC.mk (HB3.out.trans (hB.mono HB3.out.size))
  clear hsd hB
  go_wp2
  go_ret
  exact ⟨rfl, HB4.out⟩
end Go.Proofs.YtgfkgppomaapiaaDoor.K
end

section
namespace Go.Proofs.YtgfkgppomaapiaaDoor.K
open RowKit YtgfkgppomaapiaaDoorW.PrintWords YtgfkgppomaapiaaDoorW.PrintLast YtgfkgppomaapiaaDoorW.PrintMore My
def rW (k : Int) : Int := if k = 1 then 1 else if k = 4 then 2 else if k = 8 then 7 else if k = 9 then 7 else if k = 10 then 7 else 4
def recR (m : SMsg) : SRec := ⟨rW m.f0, m.f1, m.f2, m.f3, m.f4, ⟨0, []⟩, m.f5, m.f6, m.f7⟩
theorem VT (k : Int) (h : 1 ≤ k ∧ k ≤ 11) : rW k = nJ k := by
  unfold rW nJ
  (repeat' split) <;> omega
theorem st_0 {w : World} {b : Nat} {c0 c1 c2 c3 c4 c5 c6 c7 c8 c9 : Value} (x : Int) (h : w.heap[b]? = some (.cells #[c0, c1, c2, c3, c4, c5, c6, c7, c8, c9] 30 (0, 0))) : (Instr.storeAt 5 (.pointer (some ⟨b, 0, none⟩)) (.int .u8 x)).run Tryd.prog w = .ok () (w.setRow b #[.int .u8 x, c1, c2, c3, c4, c5, c6, c7, c8, c9]) := by
  have z : w.cell? ⟨b, 0, none⟩ = some c0 := (iE h 0).trans rfl
  have y : w.frozen? ⟨b, 0, none⟩ = false := iD h 0
  rw [show w.setRow b #[.int .u8 x, c1, c2, c3, c4, c5, c6, c7, c8, c9] = w.setCell ⟨b, 0, none⟩ (.int .u8 x) from (setCell_eq_setRow w b 0 _ _ _ (.int .u8 x) h).symm]
  simp [go_sem, z, y]
theorem qZ {tmps : Array Value} {W : World} {p : Tmp} {b : Nat} {cs : Array Value} (h : Tryd.f82.results = #[.cell p 30]) (hp : tmps.getD p undef = .pointer (some ⟨b, 0, none⟩)) (hx : W.heap[b]? = some (.cells cs 30 (0, 0))) (hs : cs.size = 10) :
    (results Tryd.f82 tmps).run Tryd.prog W = .ok (.agg cs) W := by
  exact results_cell_row h _ _ _ _ _ _ _ hp hx Tryd.underlying30 rfl (by rw [hs]; kernel_rfl)
attribute [-go_sem] Instr.build Instr.storeAt
attribute [local go_sem] QG
set_option maxRecDepth 20000 in
set_option maxHeartbeats 16000000 in
theorem nT (k i a p q : Int) (A3 : Option Addr) (n3 c3 : Nat) (A4 : Option Addr) (n4 c4 : Nat) (A9 : Option Addr) (n9 c9 : Nat) (w : World) :
    Calls Tryd.prog 82 #[.agg #[.int .u8 k, .int .u32 i, .int .u32 a, .slice A3 n3 c3, .slice A4 n4 c4, .int .i64 p, .int .i64 q, .slice A9 n9 c9]] w fun e w' => e = .returned (.agg #[.int .u8 (rW k), .int .u32 i, .int .u32 a, .slice A3 n3 c3, .slice A4 n4 c4, .int .u32 0, .slice none 0 0, .int .i64 p, .int .i64 q, .slice A9 n9 c9]) ∧ Below w.heap.size w w' := by
  obtain ⟨W0, hW0⟩ : ∃ W0, W0 = ((w.alloc (.cells #[.int .u8 k, .int .u32 i, .int .u32 a, .slice A3 n3 c3, .slice A4 n4 c4, .int .i64 p, .int .i64 q, .slice A9 n9 c9] 51)).alloc (.cells #[.int .u8 0, .int .u32 0, .int .u32 0, .slice none 0 0, .slice none 0 0, .int .u32 0, .slice none 0 0, .int .i64 0, .int .i64 0, .slice none 0 0] 30)) := ⟨_, rfl⟩
  have hs0 : W0.heap.size = w.heap.size + 1 + 1 := by rw [hW0]; simp
  have hsx := fun (_ : True) => run_storeAt_new (P := Tryd.prog) W0 30 #[.int .u8 0, .int .u32 0, .int .u32 0, .slice none 0 0, .slice none 0 0, .int .u32 0, .slice none 0 0, .int .i64 0, .int .i64 0, .slice none 0 0] #[.int .u8 4, .int .u32 i, .int .u32 a, .slice A3 n3 c3, .slice A4 n4 c4, .int .u32 0, .slice none 0 0, .int .i64 p, .int .i64 q, .slice A9 n9 c9] (by kernel_rfl) rfl (by simp [Value.oneCell'])
  rw [hs0] at hsx
  obtain ⟨W1, hW1⟩ : ∃ W1, W1 = W0.alloc (.cells #[.int .u8 4, .int .u32 i, .int .u32 a, .slice A3 n3 c3, .slice A4 n4 c4, .int .u32 0, .slice none 0 0, .int .i64 p, .int .i64 q, .slice A9 n9 c9] 30) := ⟨_, rfl⟩
  have HR := iC.mk (show W1.heap[w.heap.size + 1 + 1]? = some (.cells #[.int .u8 4, .int .u32 i, .int .u32 a, .slice A3 n3 c3, .slice A4 n4 c4, .int .u32 0, .slice none 0 0, .int .i64 p, .int .i64 q, .slice A9 n9 c9] 30 (0, 0)) from by rw [hW1]; exact iV hs0.symm)
  have HZ := iC.mk (show W1.heap[w.heap.size + 1]? = some (.cells #[.int .u8 0, .int .u32 0, .int .u32 0, .slice none 0 0, .slice none 0 0, .int .u32 0, .slice none 0 0, .int .i64 0, .int .i64 0, .slice none 0 0] 30 (0, 0)) from by rw [hW1, hW0]; exact jI (iV (by simp)))
  have HB := iC.mk (show Below w.heap.size w W1 from by rw [hW1, hW0]; exact iF (iF (iF (Below.refl _ _) _) _) _)
  obtain ⟨z0, z1, z2, z3, z4, z5, z6, z7, y0, y1, y2, y3, y4, y5, y6, y7⟩ := eight (show W0.heap[w.heap.size]? = some (.cells #[.int .u8 k, .int .u32 i, .int .u32 a, .slice A3 n3 c3, .slice A4 n4 c4, .int .i64 p, .int .i64 q, .slice A9 n9 c9] 51 (0, 0)) from by rw [hW0]; exact jI (iV rfl))
  obtain ⟨x0, x1, x2, x3, x4, x5, x6, x7, _⟩ := eight (show W1.heap[w.heap.size]? = some (.cells #[.int .u8 k, .int .u32 i, .int .u32 a, .slice A3 n3 c3, .slice A4 n4 c4, .int .i64 p, .int .i64 q, .slice A9 n9 c9] 51 (0, 0)) from by rw [hW1, hW0]; exact jI (jI (iV rfl)))
  clear hs0 x1 x2 x3 x4 x5 x6 x7
  by_cases h1 : k = 1
  · subst h1
    have hk : rW 1 = 1 := rfl
    (have hset := fun (_ : True) => st_0 (1) HR.out; have HR2 := iC.mk (setRow_heap _ _ _ #[.int .u8 1, .int .u32 i, .int .u32 a, .slice A3 n3 c3, .slice A4 n4 c4, .int .u32 0, .slice none 0 0, .int .i64 p, .int .i64 q, .slice A9 n9 c9] _ _ HR.out); have HZ2 := iC.mk ((setRow_other W1 (w.heap.size + 1 + 1) (w.heap.size + 1) #[.int .u8 1, .int .u32 i, .int .u32 a, .slice A3 n3 c3, .slice A4 n4 c4, .int .u32 0, .slice none 0 0, .int .i64 p, .int .i64 q, .slice A9 n9 c9] (by omega)).trans HZ.out); have HB2 := iC.mk (show Below w.heap.size w (W1.setRow (w.heap.size + 1 + 1) #[.int .u8 1, .int .u32 i, .int .u32 a, .slice A3 n3 c3, .slice A4 n4 c4, .int .u32 0, .slice none 0 0, .int .i64 p, .int .i64 q, .slice A9 n9 c9]) from below_grown (g := w.heap.size + 1 + 1) HB.out (jC _ _ _) (by omega) (Nat.le_refl _)); have hld := fun (_ : True) => mV HR2.out rfl; have hst := fun (_ : True) => nO (a := 1) (k := i) (i := a) (x3 := .slice A3 n3 c3) (x4 := .slice A4 n4 c4) (j := 0) (x6 := .slice none 0 0) (p := p) (q := q) (x9 := .slice A9 n9 c9) HZ2.out rfl rfl rfl rfl; obtain ⟨xz0, xz1, xz2, xz3, xz4, xz5, xz6, xz7, xz8, xz9, xy0, xy1, xy2, xy3, xy4, xy5, xy6, xy7, xy8, xy9⟩ := ten HR2.out; clear HR HZ HB hld; subst hW1; subst hW0; go_enter Tryd.func82, Tryd.ntmps82; go_wp2; ((try simp only [Exit.inBlock, Exit.then]); exact bodyPost_ret (qZ rfl rfl (setRow_heap _ _ _ _ _ _ HZ2.out) rfl) rfl ⟨by rw [hk], below_grown (g := w.heap.size + 1) HB2.out (jC _ _ _) (Nat.le_succ _) (Nat.le_refl _)⟩))
  by_cases h4 : k = 4
  · subst h4
    have hk : rW 4 = 2 := rfl
    (have hset := fun (_ : True) => st_0 (2) HR.out; have HR2 := iC.mk (setRow_heap _ _ _ #[.int .u8 2, .int .u32 i, .int .u32 a, .slice A3 n3 c3, .slice A4 n4 c4, .int .u32 0, .slice none 0 0, .int .i64 p, .int .i64 q, .slice A9 n9 c9] _ _ HR.out); have HZ2 := iC.mk ((setRow_other W1 (w.heap.size + 1 + 1) (w.heap.size + 1) #[.int .u8 2, .int .u32 i, .int .u32 a, .slice A3 n3 c3, .slice A4 n4 c4, .int .u32 0, .slice none 0 0, .int .i64 p, .int .i64 q, .slice A9 n9 c9] (by omega)).trans HZ.out); have HB2 := iC.mk (show Below w.heap.size w (W1.setRow (w.heap.size + 1 + 1) #[.int .u8 2, .int .u32 i, .int .u32 a, .slice A3 n3 c3, .slice A4 n4 c4, .int .u32 0, .slice none 0 0, .int .i64 p, .int .i64 q, .slice A9 n9 c9]) from below_grown (g := w.heap.size + 1 + 1) HB.out (jC _ _ _) (by omega) (Nat.le_refl _)); have hld := fun (_ : True) => mV HR2.out rfl; have hst := fun (_ : True) => nO (a := 2) (k := i) (i := a) (x3 := .slice A3 n3 c3) (x4 := .slice A4 n4 c4) (j := 0) (x6 := .slice none 0 0) (p := p) (q := q) (x9 := .slice A9 n9 c9) HZ2.out rfl rfl rfl rfl; obtain ⟨xz0, xz1, xz2, xz3, xz4, xz5, xz6, xz7, xz8, xz9, xy0, xy1, xy2, xy3, xy4, xy5, xy6, xy7, xy8, xy9⟩ := ten HR2.out; clear HR HZ HB hld; subst hW1; subst hW0; go_enter Tryd.func82, Tryd.ntmps82; go_wp2; ((try simp only [Exit.inBlock, Exit.then]); exact bodyPost_ret (qZ rfl rfl (setRow_heap _ _ _ _ _ _ HZ2.out) rfl) rfl ⟨by rw [hk], below_grown (g := w.heap.size + 1) HB2.out (jC _ _ _) (Nat.le_succ _) (Nat.le_refl _)⟩))
  by_cases h8 : k = 8
  · subst h8
    have hk : rW 8 = 7 := rfl
    (have hset := fun (_ : True) => st_0 (7) HR.out; have HR2 := iC.mk (setRow_heap _ _ _ #[.int .u8 7, .int .u32 i, .int .u32 a, .slice A3 n3 c3, .slice A4 n4 c4, .int .u32 0, .slice none 0 0, .int .i64 p, .int .i64 q, .slice A9 n9 c9] _ _ HR.out); have HZ2 := iC.mk ((setRow_other W1 (w.heap.size + 1 + 1) (w.heap.size + 1) #[.int .u8 7, .int .u32 i, .int .u32 a, .slice A3 n3 c3, .slice A4 n4 c4, .int .u32 0, .slice none 0 0, .int .i64 p, .int .i64 q, .slice A9 n9 c9] (by omega)).trans HZ.out); have HB2 := iC.mk (show Below w.heap.size w (W1.setRow (w.heap.size + 1 + 1) #[.int .u8 7, .int .u32 i, .int .u32 a, .slice A3 n3 c3, .slice A4 n4 c4, .int .u32 0, .slice none 0 0, .int .i64 p, .int .i64 q, .slice A9 n9 c9]) from below_grown (g := w.heap.size + 1 + 1) HB.out (jC _ _ _) (by omega) (Nat.le_refl _)); have hld := fun (_ : True) => mV HR2.out rfl; have hst := fun (_ : True) => nO (a := 7) (k := i) (i := a) (x3 := .slice A3 n3 c3) (x4 := .slice A4 n4 c4) (j := 0) (x6 := .slice none 0 0) (p := p) (q := q) (x9 := .slice A9 n9 c9) HZ2.out rfl rfl rfl rfl; obtain ⟨xz0, xz1, xz2, xz3, xz4, xz5, xz6, xz7, xz8, xz9, xy0, xy1, xy2, xy3, xy4, xy5, xy6, xy7, xy8, xy9⟩ := ten HR2.out; clear HR HZ HB hld; subst hW1; subst hW0; go_enter Tryd.func82, Tryd.ntmps82; go_wp2; ((try simp only [Exit.inBlock, Exit.then]); exact bodyPost_ret (qZ rfl rfl (setRow_heap _ _ _ _ _ _ HZ2.out) rfl) rfl ⟨by rw [hk], below_grown (g := w.heap.size + 1) HB2.out (jC _ _ _) (Nat.le_succ _) (Nat.le_refl _)⟩))
  by_cases h9 : k = 9
  · subst h9
    have hk : rW 9 = 7 := rfl
    (have hset := fun (_ : True) => st_0 (7) HR.out; have HR2 := iC.mk (setRow_heap _ _ _ #[.int .u8 7, .int .u32 i, .int .u32 a, .slice A3 n3 c3, .slice A4 n4 c4, .int .u32 0, .slice none 0 0, .int .i64 p, .int .i64 q, .slice A9 n9 c9] _ _ HR.out); have HZ2 := iC.mk ((setRow_other W1 (w.heap.size + 1 + 1) (w.heap.size + 1) #[.int .u8 7, .int .u32 i, .int .u32 a, .slice A3 n3 c3, .slice A4 n4 c4, .int .u32 0, .slice none 0 0, .int .i64 p, .int .i64 q, .slice A9 n9 c9] (by omega)).trans HZ.out); have HB2 := iC.mk (show Below w.heap.size w (W1.setRow (w.heap.size + 1 + 1) #[.int .u8 7, .int .u32 i, .int .u32 a, .slice A3 n3 c3, .slice A4 n4 c4, .int .u32 0, .slice none 0 0, .int .i64 p, .int .i64 q, .slice A9 n9 c9]) from below_grown (g := w.heap.size + 1 + 1) HB.out (jC _ _ _) (by omega) (Nat.le_refl _)); have hld := fun (_ : True) => mV HR2.out rfl; have hst := fun (_ : True) => nO (a := 7) (k := i) (i := a) (x3 := .slice A3 n3 c3) (x4 := .slice A4 n4 c4) (j := 0) (x6 := .slice none 0 0) (p := p) (q := q) (x9 := .slice A9 n9 c9) HZ2.out rfl rfl rfl rfl; obtain ⟨xz0, xz1, xz2, xz3, xz4, xz5, xz6, xz7, xz8, xz9, xy0, xy1, xy2, xy3, xy4, xy5, xy6, xy7, xy8, xy9⟩ := ten HR2.out; clear HR HZ HB hld; subst hW1; subst hW0; go_enter Tryd.func82, Tryd.ntmps82; go_wp2; ((try simp only [Exit.inBlock, Exit.then]); exact bodyPost_ret (qZ rfl rfl (setRow_heap _ _ _ _ _ _ HZ2.out) rfl) rfl ⟨by rw [hk], below_grown (g := w.heap.size + 1) HB2.out (jC _ _ _) (Nat.le_succ _) (Nat.le_refl _)⟩))
  by_cases h10 : k = 10
  · subst h10
    have hk : rW 10 = 7 := rfl
    (have hset := fun (_ : True) => st_0 (7) HR.out; have HR2 := iC.mk (setRow_heap _ _ _ #[.int .u8 7, .int .u32 i, .int .u32 a, .slice A3 n3 c3, .slice A4 n4 c4, .int .u32 0, .slice none 0 0, .int .i64 p, .int .i64 q, .slice A9 n9 c9] _ _ HR.out); have HZ2 := iC.mk ((setRow_other W1 (w.heap.size + 1 + 1) (w.heap.size + 1) #[.int .u8 7, .int .u32 i, .int .u32 a, .slice A3 n3 c3, .slice A4 n4 c4, .int .u32 0, .slice none 0 0, .int .i64 p, .int .i64 q, .slice A9 n9 c9] (by omega)).trans HZ.out); have HB2 := iC.mk (show Below w.heap.size w (W1.setRow (w.heap.size + 1 + 1) #[.int .u8 7, .int .u32 i, .int .u32 a, .slice A3 n3 c3, .slice A4 n4 c4, .int .u32 0, .slice none 0 0, .int .i64 p, .int .i64 q, .slice A9 n9 c9]) from below_grown (g := w.heap.size + 1 + 1) HB.out (jC _ _ _) (by omega) (Nat.le_refl _)); have hld := fun (_ : True) => mV HR2.out rfl; have hst := fun (_ : True) => nO (a := 7) (k := i) (i := a) (x3 := .slice A3 n3 c3) (x4 := .slice A4 n4 c4) (j := 0) (x6 := .slice none 0 0) (p := p) (q := q) (x9 := .slice A9 n9 c9) HZ2.out rfl rfl rfl rfl; obtain ⟨xz0, xz1, xz2, xz3, xz4, xz5, xz6, xz7, xz8, xz9, xy0, xy1, xy2, xy3, xy4, xy5, xy6, xy7, xy8, xy9⟩ := ten HR2.out; clear HR HZ HB hld; subst hW1; subst hW0; go_enter Tryd.func82, Tryd.ntmps82; go_wp2; ((try simp only [Exit.inBlock, Exit.then]); exact bodyPost_ret (qZ rfl rfl (setRow_heap _ _ _ _ _ _ HZ2.out) rfl) rfl ⟨by rw [hk], below_grown (g := w.heap.size + 1) HB2.out (jC _ _ _) (Nat.le_succ _) (Nat.le_refl _)⟩))
  · have hk : rW k = 4 := by unfold rW; simp [h1, h4, h8, h9, h10]
    have hld := fun (_ : True) => mV HR.out rfl
    have hst := fun (_ : True) => nO (a := 4) (k := i) (i := a) (x3 := .slice A3 n3 c3) (x4 := .slice A4 n4 c4) (j := 0) (x6 := .slice none 0 0) (p := p) (q := q) (x9 := .slice A9 n9 c9) HZ.out rfl rfl rfl rfl
    clear HR
    subst hW1
    subst hW0
    go_enter Tryd.func82, Tryd.ntmps82
    go_wp2
    ((try simp only [Exit.inBlock, Exit.then]); exact bodyPost_ret (qZ rfl rfl (setRow_heap _ _ _ _ _ _ HZ.out) rfl) rfl ⟨by rw [hk], below_grown (g := w.heap.size + 1) HB.out (jC _ _ _) (Nat.le_succ _) (Nat.le_refl _)⟩)
end Go.Proofs.YtgfkgppomaapiaaDoor.K
end

section
namespace Go.Proofs.YtgfkgppomaapiaaDoor.K
open RowKit YtgfkgppomaapiaaDoorW.PrintWords YtgfkgppomaapiaaDoorW.PrintLast YtgfkgppomaapiaaDoorW.PrintMore My
theorem JO (kind id at_ nodes : Int) {A4 : Option Addr} {a4 : Nat} (l4 : List jO) {A5 : Option Addr} {a5 : Nat} (l5 : List Int) (from_ to_ : Int) {A8 : Option Addr} {a8 : Nat} (l8 : List jJ) {w : World} (h4 : Kd.C k139 w A4 l4.length l4) (d4 : l4.length ≤ a4) (h5 : Kd.C (Kd.int .u16) w A5 l5.length l5) (d5 : l5.length ≤ a5) (h8 : Kd.C k86 w A8 l8.length l8) (d8 : l8.length ≤ a8) (hf : ∀ e ∈ l8, e.f1.length ≤ 9223372036854775807)
    {r : SRec} (hr : rH kind id at_ nodes l4 l5 from_ to_ l8 = r) :
    Calls Tryd.prog 21 #[.int .u8 kind, .int .u32 id, .int .u32 at_, .int .u8 nodes, .slice A4 l4.length a4, .slice A5 l5.length a5, .int .u16 from_, .int .u16 to_, .slice A8 l8.length a8] w fun e w' => ∃ A3 a3 A4 a4 A6 a6 A9 a9, e = .returned (.agg #[.int .u8 r.f0, .int .u32 r.f1, .int .u32 r.f2, .slice A3 r.f3.length a3, .slice A4 r.f4.length a4, .int .u32 r.f5.f0, .slice A6 r.f5.f1.length a6, .int .i64 r.f6, .int .i64 r.f7, .slice A9 r.f8.length a9]) ∧ RecV w.heap.size r (.agg #[.int .u8 r.f0, .int .u32 r.f1, .int .u32 r.f2, .slice A3 r.f3.length a3, .slice A4 r.f4.length a4, .int .u32 r.f5.f0, .slice A6 r.f5.f1.length a6, .int .i64 r.f6, .int .i64 r.f7, .slice A9 r.f8.length a9]) w' ∧ Below w.heap.size w w' := by
  have hev := VJ kind id at_ nodes l4 l5 from_ to_ l8 (lC h4) hf
  rw [hr] at hev
  obtain ⟨k, hk⟩ := hev.rounds
  refine (stratumlaw07_Make.calls k kind id at_ nodes A4 a4 l4 A5 a5 l5 from_ to_ A8 a8 l8 _ _ _ _ _ _ _ _ _ _ w h4 d4 h5 d5 h8 d8 hk).mono ?_
  rintro e w1 ⟨v3, v4, v6, v9, rfl, g3, g4, g6, g9, hB⟩
  obtain ⟨B3, b3, rfl⟩ := Kd.R_slice g3
  obtain ⟨B4, b4, rfl⟩ := Kd.R_slice g4
  obtain ⟨B6, b6, rfl⟩ := Kd.R_slice g6
  obtain ⟨B9, b9, rfl⟩ := Kd.R_slice g9
  exact ⟨B3, b3, B4, b4, B6, b6, B9, b9, rfl, ⟨_, _, _, _, rfl, g3, g4, g6, g9⟩, hB⟩
theorem oI {base : Nat} {x : SRec} {A3 A4 A6 A9 : Option Addr} {d3 d4 d6 d9 : Nat} {w : World} (h : RecV base x (.agg #[.int .u8 x.f0, .int .u32 x.f1, .int .u32 x.f2, .slice A3 x.f3.length d3, .slice A4 x.f4.length d4, .int .u32 x.f5.f0, .slice A6 x.f5.f1.length d6, .int .i64 x.f6, .int .i64 x.f7, .slice A9 x.f8.length d9]) w) : Lies w x A3 d3 A4 d4 A6 d6 A9 d9 := by
  obtain ⟨v3, v4, v6, v9, he, h3, h4, h6, h9⟩ := h
  simp only [Value.agg.injEq, Array.mk.injEq, List.cons.injEq, true_and, and_true] at he
  obtain ⟨rfl, rfl, rfl, rfl⟩ := he
  obtain ⟨_, q3, C3⟩ := Kd.R_reads' h3
  obtain ⟨_, q4, C4⟩ := Kd.R_reads' h4
  obtain ⟨_, q6, C6⟩ := Kd.R_reads' h6
  obtain ⟨_, q9, C9⟩ := Kd.R_reads' h9
  exact ⟨C3, q3, C4, q4, C6, q6, C9, q9⟩
def RH (kind : Int) (r : SRec) (nodes : Int) : SMsg :=
  let k := 1 + kind % 11
  let t := rH 6 r.f1 0 0 [] [] (IntKind.u16.wrap (Int.tmod r.f6 60000)) (IntKind.u16.wrap (Int.tmod r.f7 60000)) r.f8
  let x := rH 0 r.f1 0 nodes r.f4 [] 0 0 []
  if k = 1 then ⟨k, r.f1, 0, x.f3, x.f4, 0, 0, []⟩
  else if k = 4 then ⟨k, r.f1, r.f2, [], [], 0, 0, []⟩
  else if k = 8 then ⟨k, r.f1, 0, [], [], t.f6, t.f7, []⟩
  else if k = 9 then ⟨k, r.f1, 0, [], [], 0, 0, t.f8⟩
  else if k = 10 then ⟨k, r.f1, 0, [], [], t.f6, t.f7, t.f8⟩
  else ⟨k, r.f1, 0, [], [], 0, 0, []⟩
section
variable {w : World} {b : Nat} {c0 c1 c2 c3 c4 c5 c6 c7 : Value}
theorem XO (x : Int) (h : w.heap[b]? = some (.cells #[c0, c1, c2, c3, c4, c5, c6, c7] 51 (0, 0))) : (Instr.storeAt 22 (.pointer (some ⟨b, 2, none⟩)) (.int .u32 x)).run Tryd.prog w = .ok () (w.setRow b #[c0, c1, .int .u32 x, c3, c4, c5, c6, c7]) := by
  have z : w.cell? ⟨b, 2, none⟩ = some c2 := (iE h 2).trans rfl
  have y : w.frozen? ⟨b, 2, none⟩ = false := iD h 2
  rw [show w.setRow b #[c0, c1, .int .u32 x, c3, c4, c5, c6, c7] = w.setCell ⟨b, 2, none⟩ (.int .u32 x) from (setCell_eq_setRow w b 2 _ _ _ (.int .u32 x) h).symm]
  simp [go_sem, z, y]
theorem XV (A : Option Addr) (n c : Nat) (h : w.heap[b]? = some (.cells #[c0, c1, c2, c3, c4, c5, c6, c7] 51 (0, 0))) : (Instr.storeAt 23 (.pointer (some ⟨b, 3, none⟩)) (.slice A n c)).run Tryd.prog w = .ok () (w.setRow b #[c0, c1, c2, .slice A n c, c4, c5, c6, c7]) := by
  have z : w.cell? ⟨b, 3, none⟩ = some c3 := (iE h 3).trans rfl
  have y : w.frozen? ⟨b, 3, none⟩ = false := iD h 3
  rw [show w.setRow b #[c0, c1, c2, .slice A n c, c4, c5, c6, c7] = w.setCell ⟨b, 3, none⟩ (.slice A n c) from (setCell_eq_setRow w b 3 _ _ _ (.slice A n c) h).symm]
  simp [go_sem, z, y]
theorem XP (A : Option Addr) (n c : Nat) (h : w.heap[b]? = some (.cells #[c0, c1, c2, c3, c4, c5, c6, c7] 51 (0, 0))) : (Instr.storeAt 24 (.pointer (some ⟨b, 4, none⟩)) (.slice A n c)).run Tryd.prog w = .ok () (w.setRow b #[c0, c1, c2, c3, .slice A n c, c5, c6, c7]) := by
  have z : w.cell? ⟨b, 4, none⟩ = some c4 := (iE h 4).trans rfl
  have y : w.frozen? ⟨b, 4, none⟩ = false := iD h 4
  rw [show w.setRow b #[c0, c1, c2, c3, .slice A n c, c5, c6, c7] = w.setCell ⟨b, 4, none⟩ (.slice A n c) from (setCell_eq_setRow w b 4 _ _ _ (.slice A n c) h).symm]
  simp [go_sem, z, y]
theorem XJ (x : Int) (h : w.heap[b]? = some (.cells #[c0, c1, c2, c3, c4, c5, c6, c7] 51 (0, 0))) : (Instr.storeAt 3 (.pointer (some ⟨b, 5, none⟩)) (.int .i64 x)).run Tryd.prog w = .ok () (w.setRow b #[c0, c1, c2, c3, c4, .int .i64 x, c6, c7]) := by
  have z : w.cell? ⟨b, 5, none⟩ = some c5 := (iE h 5).trans rfl
  have y : w.frozen? ⟨b, 5, none⟩ = false := iD h 5
  rw [show w.setRow b #[c0, c1, c2, c3, c4, .int .i64 x, c6, c7] = w.setCell ⟨b, 5, none⟩ (.int .i64 x) from (setCell_eq_setRow w b 5 _ _ _ (.int .i64 x) h).symm]
  simp [go_sem, z, y]
theorem XM (x : Int) (h : w.heap[b]? = some (.cells #[c0, c1, c2, c3, c4, c5, c6, c7] 51 (0, 0))) : (Instr.storeAt 3 (.pointer (some ⟨b, 6, none⟩)) (.int .i64 x)).run Tryd.prog w = .ok () (w.setRow b #[c0, c1, c2, c3, c4, c5, .int .i64 x, c7]) := by
  have z : w.cell? ⟨b, 6, none⟩ = some c6 := (iE h 6).trans rfl
  have y : w.frozen? ⟨b, 6, none⟩ = false := iD h 6
  rw [show w.setRow b #[c0, c1, c2, c3, c4, c5, .int .i64 x, c7] = w.setCell ⟨b, 6, none⟩ (.int .i64 x) from (setCell_eq_setRow w b 6 _ _ _ (.int .i64 x) h).symm]
  simp [go_sem, z, y]
theorem XI (A : Option Addr) (n c : Nat) (h : w.heap[b]? = some (.cells #[c0, c1, c2, c3, c4, c5, c6, c7] 51 (0, 0))) : (Instr.storeAt 28 (.pointer (some ⟨b, 7, none⟩)) (.slice A n c)).run Tryd.prog w = .ok () (w.setRow b #[c0, c1, c2, c3, c4, c5, c6, .slice A n c]) := by
  have z : w.cell? ⟨b, 7, none⟩ = some c7 := (iE h 7).trans rfl
  have y : w.frozen? ⟨b, 7, none⟩ = false := iD h 7
  rw [show w.setRow b #[c0, c1, c2, c3, c4, c5, c6, .slice A n c] = w.setCell ⟨b, 7, none⟩ (.slice A n c) from (setCell_eq_setRow w b 7 _ _ _ (.slice A n c) h).symm]
  simp [go_sem, z, y]
end
theorem oV {tmps : Array Value} {W : World} {p : Tmp} {b : Nat} {cs : Array Value} (h : Tryd.f27.results = #[.cell p 51]) (hp : tmps.getD p undef = .pointer (some ⟨b, 0, none⟩)) (hx : W.heap[b]? = some (.cells cs 51 (0, 0))) (hs : cs.size = 8) :
    (results Tryd.f27 tmps).run Tryd.prog W = .ok (.agg cs) W := by
  exact results_cell_row h _ _ _ _ _ _ _ hp hx Tryd.underlying51 rfl (by rw [hs]; kernel_rfl)
def PU (w : World) (m : SMsg) (e : Ending) (w' : World) : Prop := ∃ A3 a3 A4 a4 A9 a9, e = .returned (.agg #[.int .u8 m.f0, .int .u32 m.f1, .int .u32 m.f2, .slice A3 m.f3.length a3, .slice A4 m.f4.length a4, .int .i64 m.f5, .int .i64 m.f6, .slice A9 m.f7.length a9]) ∧ qB w' m A3 a3 A4 a4 A9 a9 ∧ Below w.heap.size w w'
structure JS (w W : World) (r t : SRec) (A3 : Option Addr) (a3 : Nat) (A4 : Option Addr) (a4 : Nat) (A6 : Option Addr) (a6 : Nat) (A9 : Option Addr) (a9 : Nat) (T3 : Option Addr) (t3 : Nat) (T4 : Option Addr) (t4 : Nat) (T6 : Option Addr) (t6 : Nat) (T9 : Option Addr) (t9 : Nat) (g : Nat) (cs : Array Value) : Prop where
  rb : W.heap[w.heap.size]? = some (.cells #[.int .u8 r.f0, .int .u32 r.f1, .int .u32 r.f2, .slice A3 r.f3.length a3, .slice A4 r.f4.length a4, .int .u32 r.f5.f0, .slice A6 r.f5.f1.length a6, .int .i64 r.f6, .int .i64 r.f7, .slice A9 r.f8.length a9] 30 (0, 0))
  zb : W.heap[w.heap.size + 1]? = some (.cells #[.int .u8 0, .int .u32 0, .int .u32 0, .slice none 0 0, .slice none 0 0, .int .i64 0, .int .i64 0, .slice none 0 0] 51 (0, 0))
  mb : W.heap[w.heap.size + 1 + 1]? = some (.cells cs 51 (0, 0))
  tb : W.heap[g]? = some (.cells #[.int .u8 t.f0, .int .u32 t.f1, .int .u32 t.f2, .slice T3 t.f3.length t3, .slice T4 t.f4.length t4, .int .u32 t.f5.f0, .slice T6 t.f5.f1.length t6, .int .i64 t.f6, .int .i64 t.f7, .slice T9 t.f8.length t9] 30 (0, 0))
  gl : w.heap.size + 1 + 1 < g
  tv : RecV (w.heap.size + 1 + 1 + 1) t (.agg #[.int .u8 t.f0, .int .u32 t.f1, .int .u32 t.f2, .slice T3 t.f3.length t3, .slice T4 t.f4.length t4, .int .u32 t.f5.f0, .slice T6 t.f5.f1.length t6, .int .i64 t.f6, .int .i64 t.f7, .slice T9 t.f8.length t9]) W
  bel : Below w.heap.size w W
theorem JS.set {w W : World} {r t : SRec} {A3 : Option Addr} {a3 : Nat} {A4 : Option Addr} {a4 : Nat} {A6 : Option Addr} {a6 : Nat} {A9 : Option Addr} {a9 : Nat} {T3 : Option Addr} {t3 : Nat} {T4 : Option Addr} {t4 : Nat} {T6 : Option Addr} {t6 : Nat} {T9 : Option Addr} {t9 : Nat} {g : Nat} {cs : Array Value} (h : JS w W r t A3 a3 A4 a4 A6 a6 A9 a9 T3 t3 T4 t4 T6 t6 T9 t9 g cs) (cs' : Array Value) :
    JS w (W.setRow (w.heap.size + 1 + 1) cs') r t A3 a3 A4 a4 A6 a6 A9 a9 T3 t3 T4 t4 T6 t6 T9 t9 g cs' :=
  ⟨(setRow_other W (w.heap.size + 1 + 1) _ cs' (by omega)).trans h.rb, (setRow_other W (w.heap.size + 1 + 1) _ cs' (by omega)).trans h.zb, setRow_heap _ _ _ cs' _ _ h.mb, (setRow_other W (w.heap.size + 1 + 1) g cs' (by have := h.gl; omega)).trans h.tb, h.gl,
   kQ h.tv (jC _ _ _) (by omega), below_grown (g := w.heap.size + 1 + 1) h.bel (jC _ _ _) (by omega) (Nat.le_refl _)⟩
theorem JS.below {w W W' : World} {r t : SRec} {A3 : Option Addr} {a3 : Nat} {A4 : Option Addr} {a4 : Nat} {A6 : Option Addr} {a6 : Nat} {A9 : Option Addr} {a9 : Nat} {T3 : Option Addr} {t3 : Nat} {T4 : Option Addr} {t4 : Nat} {T6 : Option Addr} {t6 : Nat} {T9 : Option Addr} {t9 : Nat} {g : Nat} {cs : Array Value} (h : JS w W r t A3 a3 A4 a4 A6 a6 A9 a9 T3 t3 T4 t4 T6 t6 T9 t9 g cs) (hb : Below W.heap.size W W') :
    JS w W' r t A3 a3 A4 a4 A6 a6 A9 a9 T3 t3 T4 t4 T6 t6 T9 t9 g cs :=
  ⟨iL hb h.rb, iL hb h.zb, iL hb h.mb, iL hb h.tb, h.gl, lH h.tv hb, iI h.bel hb⟩
attribute [-go_sem] Instr.build Instr.storeAt
attribute [local go_sem] X7
set_option maxRecDepth 20000 in
set_option maxHeartbeats 16000000 in
theorem RY (kind nodes : Int) (hk : 0 ≤ kind ∧ kind < 256) (r : SRec) (A3 : Option Addr) (a3 : Nat) (A4 : Option Addr) (a4 : Nat) (A6 : Option Addr) (a6 : Nat) (A9 : Option Addr) (a9 : Nat) (w : World) (h : Lies w r A3 a3 A4 a4 A6 a6 A9 a9) (hf : ∀ e ∈ r.f8, e.f1.length ≤ 9223372036854775807) :
    Calls Tryd.prog 27 #[.int .u8 kind, .agg #[.int .u8 r.f0, .int .u32 r.f1, .int .u32 r.f2, .slice A3 r.f3.length a3, .slice A4 r.f4.length a4, .int .u32 r.f5.f0, .slice A6 r.f5.f1.length a6, .int .i64 r.f6, .int .i64 r.f7, .slice A9 r.f8.length a9], .int .u8 nodes] w (PU w (RH kind r nodes)) := by
  have HL := iC.mk h
  have HF := iC.mk hf
  clear h hf
  obtain ⟨W0, hW0⟩ : ∃ W0, W0 = ((w.alloc (.cells #[.int .u8 r.f0, .int .u32 r.f1, .int .u32 r.f2, .slice A3 r.f3.length a3, .slice A4 r.f4.length a4, .int .u32 r.f5.f0, .slice A6 r.f5.f1.length a6, .int .i64 r.f6, .int .i64 r.f7, .slice A9 r.f8.length a9] 30)).alloc (.cells #[.int .u8 0, .int .u32 0, .int .u32 0, .slice none 0 0, .slice none 0 0, .int .i64 0, .int .i64 0, .slice none 0 0] 51)) := ⟨_, rfl⟩
  have hs0 : W0.heap.size = w.heap.size + 1 + 1 := by rw [hW0]; simp
  have hsx := fun (_ : True) => run_storeAt_new (P := Tryd.prog) W0 51 #[.int .u8 0, .int .u32 0, .int .u32 0, .slice none 0 0, .slice none 0 0, .int .i64 0, .int .i64 0, .slice none 0 0] #[.int .u8 (1 + kind % 11), .int .u32 r.f1, .int .u32 0, .slice none 0 0, .slice none 0 0, .int .i64 0, .int .i64 0, .slice none 0 0] (by kernel_rfl) rfl (by simp [Value.oneCell'])
  rw [hs0] at hsx
  obtain ⟨W1, hW1⟩ : ∃ W1, W1 = W0.alloc (.cells #[.int .u8 (1 + kind % 11), .int .u32 r.f1, .int .u32 0, .slice none 0 0, .slice none 0 0, .int .i64 0, .int .i64 0, .slice none 0 0] 51) := ⟨_, rfl⟩
  have HR := iC.mk (show W1.heap[w.heap.size]? = some (.cells #[.int .u8 r.f0, .int .u32 r.f1, .int .u32 r.f2, .slice A3 r.f3.length a3, .slice A4 r.f4.length a4, .int .u32 r.f5.f0, .slice A6 r.f5.f1.length a6, .int .i64 r.f6, .int .i64 r.f7, .slice A9 r.f8.length a9] 30 (0, 0)) from by rw [hW1, hW0]; exact jI (jI (iV rfl)))
  have HZ := iC.mk (show W1.heap[w.heap.size + 1]? = some (.cells #[.int .u8 0, .int .u32 0, .int .u32 0, .slice none 0 0, .slice none 0 0, .int .i64 0, .int .i64 0, .slice none 0 0] 51 (0, 0)) from by rw [hW1, hW0]; exact jI (iV (by simp)))
  have HM := iC.mk (show W1.heap[w.heap.size + 1 + 1]? = some (.cells #[.int .u8 (1 + kind % 11), .int .u32 r.f1, .int .u32 0, .slice none 0 0, .slice none 0 0, .int .i64 0, .int .i64 0, .slice none 0 0] 51 (0, 0)) from by rw [hW1]; exact iV hs0.symm)
  have HB := iC.mk (show Below w.heap.size w W1 from by rw [hW1, hW0]; exact iF (iF (iF (Below.refl _ _) _) _) _)
  have hs1 : W1.heap.size = w.heap.size + 1 + 1 + 1 := by rw [hW1]; simp [hs0]
  obtain ⟨z0, z1, z2, z3, z4, z5, z6, z7, z8, z9, y0, y1, y2, y3, y4, y5, y6, y7, y8, y9⟩ := ten (show W0.heap[w.heap.size]? = some (.cells #[.int .u8 r.f0, .int .u32 r.f1, .int .u32 r.f2, .slice A3 r.f3.length a3, .slice A4 r.f4.length a4, .int .u32 r.f5.f0, .slice A6 r.f5.f1.length a6, .int .i64 r.f6, .int .i64 r.f7, .slice A9 r.f8.length a9] 30 (0, 0)) from by rw [hW0]; exact jI (iV rfl))
  have hx := ten HR.out
  obtain ⟨x0, x1, x2, x3, x4, x5, x6, x7, x8, x9, _⟩ := hx
  have GL := HL.out.below HB.out
  have hcall := fun fr tt => JO 6 r.f1 0 0 (A4 := none) (a4 := 0) [] (A5 := none) (a5 := 0) [] fr tt (A8 := A9) (a8 := a9) r.f8 (Kd.C_nil _ W1) (Nat.le_refl _) (Kd.C_nil _ _) (Nat.le_refl _) GL.h9 GL.d9 HF.out rfl
  simp only [List.length_nil] at hcall
  have HW1 := iC.mk hW1
  have HW0 := iC.mk hW0
  subst hW0
  clear hW1 hs0 GL
  obtain ⟨M, hM⟩ : ∃ M, RH kind r nodes = M := ⟨_, rfl⟩
  rw [hM]
  have HMM := iC.mk hM
  clear hM
  go_enter Tryd.func27, Tryd.ntmps27
  go_wp2_with fail
  rw [← HW1.out]
  go_at_call 21
  obtain ⟨t, ht⟩ : ∃ t, rH 6 r.f1 0 0 [] [] (IntKind.u16.wrap (Int.tmod r.f6 60000)) (IntKind.u16.wrap (Int.tmod r.f7 60000)) r.f8 = t := ⟨_, rfl⟩
  have hcall := hcall (IntKind.u16.wrap (Int.tmod r.f6 60000)) (IntKind.u16.wrap (Int.tmod r.f7 60000))
  rw [ht] at hcall
  refine hcall.mono ?_
  rintro e w2 ⟨T3, t3, T4, t4, T6, t6, T9, t9, rfl, hv, hb2⟩
  have hbw : Below w2.heap.size w2 (w2.alloc (.cells #[.int .u8 t.f0, .int .u32 t.f1, .int .u32 t.f2, .slice T3 t.f3.length t3, .slice T4 t.f4.length t4, .int .u32 t.f5.f0, .slice T6 t.f5.f1.length t6, .int .i64 t.f6, .int .i64 t.f7, .slice T9 t.f8.length t9] 30)) := iF (Below.refl _ _) _
  have hb3 := hb2.trans (hbw.mono hb2.size)
  obtain ⟨K, hK⟩ : ∃ K, K = 1 + kind % 11 := ⟨_, rfl⟩
  rw [← hK] at HM ⊢
  have H := iC.mk (show JS w (w2.alloc (.cells #[.int .u8 t.f0, .int .u32 t.f1, .int .u32 t.f2, .slice T3 t.f3.length t3, .slice T4 t.f4.length t4, .int .u32 t.f5.f0, .slice T6 t.f5.f1.length t6, .int .i64 t.f6, .int .i64 t.f7, .slice T9 t.f8.length t9] 30)) r t A3 a3 A4 a4 A6 a6 A9 a9 T3 t3 T4 t4 T6 t6 T9 t9 w2.heap.size #[.int .u8 K, .int .u32 r.f1, .int .u32 0, .slice none 0 0, .slice none 0 0, .int .i64 0, .int .i64 0, .slice none 0 0] from
    ⟨iL hb3 HR.out, iL hb3 HZ.out, iL hb3 HM.out, iV rfl, by have := hb2.size; omega, hs1 ▸ lH hv hbw, iI HB.out hb3⟩)
  have hst2 := fun (_ : True) => run_storeAt_new (P := Tryd.prog) w2 30 #[.int .u8 0, .int .u32 0, .int .u32 0, .slice none 0 0, .slice none 0 0, .int .u32 0, .slice none 0 0, .int .i64 0, .int .i64 0, .slice none 0 0] #[.int .u8 t.f0, .int .u32 t.f1, .int .u32 t.f2, .slice T3 t.f3.length t3, .slice T4 t.f4.length t4, .int .u32 t.f5.f0, .slice T6 t.f5.f1.length t6, .int .i64 t.f6, .int .i64 t.f7, .slice T9 t.f8.length t9] (by kernel_rfl) rfl (by simp [Value.oneCell'])
  have hM := HMM.out
  have hMM : M = if K = 1 then ⟨K, r.f1, 0, (rH 0 r.f1 0 nodes r.f4 [] 0 0 []).f3, (rH 0 r.f1 0 nodes r.f4 [] 0 0 []).f4, 0, 0, []⟩ else if K = 4 then ⟨K, r.f1, r.f2, [], [], 0, 0, []⟩ else if K = 8 then ⟨K, r.f1, 0, [], [], t.f6, t.f7, []⟩ else if K = 9 then ⟨K, r.f1, 0, [], [], 0, 0, t.f8⟩ else if K = 10 then ⟨K, r.f1, 0, [], [], t.f6, t.f7, t.f8⟩ else ⟨K, r.f1, 0, [], [], 0, 0, []⟩ := by
    rw [← hM, hK, ← ht]; rfl
  clear hcall hv hbw hb3 hb2 hsx hM HMM hK ht HR HZ HM HB z0 z1 z2 z3 z4 z5 z6 z7 z8 z9 y0 y1 y2 y3 y4 y5 y6 y7 y8 y9 x0 x1 x2 x3 x4 x5 x6 x7 x8 x9 HW1 hs1
  obtain ⟨mz0, mz1, mz2, mz3, mz4, mz5, mz6, mz7, my0, my1, my2, my3, my4, my5, my6, my7⟩ := eight H.out.mb
  obtain ⟨rz0, rz1, rz2, rz3, rz4, rz5, rz6, rz7, rz8, rz9, ry0, ry1, ry2, ry3, ry4, ry5, ry6, ry7, ry8, ry9⟩ := ten H.out.rb
  obtain ⟨tz0, tz1, tz2, tz3, tz4, tz5, tz6, tz7, tz8, tz9, ty0, ty1, ty2, ty3, ty4, ty5, ty6, ty7, ty8, ty9⟩ := ten H.out.tb
  by_cases h1 : K = 1
  · subst h1
    rw [if_pos rfl] at hMM
    obtain ⟨x, hx⟩ : ∃ x, rH 0 r.f1 0 nodes r.f4 [] 0 0 [] = x := ⟨_, rfl⟩
    rw [hx] at hMM
    subst hMM
    have GL := HL.out.below H.out.bel
    have hcall := JO 0 r.f1 0 nodes (A4 := A4) (a4 := a4) r.f4 (A5 := none) (a5 := 0) [] 0 0 (A8 := none) (a8 := 0) [] GL.h4 GL.d4 (Kd.C_nil _ _) (Nat.le_refl _) (Kd.C_nil _ _) (Nat.le_refl _) (fun e he => by cases he) hx
    simp only [List.length_nil] at hcall
    clear GL hx
    go_wp2_with fail
    go_at_call 21
    refine hcall.mono ?_
    rintro e w3 ⟨X3, x3, X4, x4, X6, x6, X9, x9, rfl, hv, hb4⟩
    have hbw : Below w3.heap.size w3 (w3.alloc (.cells #[.int .u8 x.f0, .int .u32 x.f1, .int .u32 x.f2, .slice X3 x.f3.length x3, .slice X4 x.f4.length x4, .int .u32 x.f5.f0, .slice X6 x.f5.f1.length x6, .int .i64 x.f6, .int .i64 x.f7, .slice X9 x.f8.length x9] 30)) := iF (Below.refl _ _) _
    have HW := iC.mk H.out
    have hb5 := hb4.trans (hbw.mono hb4.size)
    have H1 := iC.mk (H.out.below hb5)
    have hgx : w.heap.size + 1 + 1 < w3.heap.size := by have := jR H.out.mb; have := hb4.size; omega
    have hgy : w.heap.size + 1 + 1 < (w2.alloc (.cells #[.int .u8 t.f0, .int .u32 t.f1, .int .u32 t.f2, .slice T3 t.f3.length t3, .slice T4 t.f4.length t4, .int .u32 t.f5.f0, .slice T6 t.f5.f1.length t6, .int .i64 t.f6, .int .i64 t.f7, .slice T9 t.f8.length t9] 30)).heap.size := jR H.out.mb
    have HV := iC.mk (lH hv hbw)
    have hxb : (w3.alloc (.cells #[.int .u8 x.f0, .int .u32 x.f1, .int .u32 x.f2, .slice X3 x.f3.length x3, .slice X4 x.f4.length x4, .int .u32 x.f5.f0, .slice X6 x.f5.f1.length x6, .int .i64 x.f6, .int .i64 x.f7, .slice X9 x.f8.length x9] 30)).heap[w3.heap.size]? = some (.cells #[.int .u8 x.f0, .int .u32 x.f1, .int .u32 x.f2, .slice X3 x.f3.length x3, .slice X4 x.f4.length x4, .int .u32 x.f5.f0, .slice X6 x.f5.f1.length x6, .int .i64 x.f6, .int .i64 x.f7, .slice X9 x.f8.length x9] 30 (0, 0)) := iV rfl
    have hst3 := fun (_ : True) => run_storeAt_new (P := Tryd.prog) w3 30 #[.int .u8 0, .int .u32 0, .int .u32 0, .slice none 0 0, .slice none 0 0, .int .u32 0, .slice none 0 0, .int .i64 0, .int .i64 0, .slice none 0 0] #[.int .u8 x.f0, .int .u32 x.f1, .int .u32 x.f2, .slice X3 x.f3.length x3, .slice X4 x.f4.length x4, .int .u32 x.f5.f0, .slice X6 x.f5.f1.length x6, .int .i64 x.f6, .int .i64 x.f7, .slice X9 x.f8.length x9] (by kernel_rfl) rfl (by simp [Value.oneCell'])
    have hs3 := fun (_ : True) => XV X3 x.f3.length x3 H1.out.mb
    have H2 := iC.mk (H1.out.set #[.int .u8 1, .int .u32 r.f1, .int .u32 0, .slice X3 x.f3.length x3, .slice none 0 0, .int .i64 0, .int .i64 0, .slice none 0 0])
    have hs4 := fun (_ : True) => XP X4 x.f4.length x4 H2.out.mb
    have H3 := iC.mk (H2.out.set #[.int .u8 1, .int .u32 r.f1, .int .u32 0, .slice X3 x.f3.length x3, .slice X4 x.f4.length x4, .int .i64 0, .int .i64 0, .slice none 0 0])
    have hxb2 := (setRow_other _ (w.heap.size + 1 + 1) w3.heap.size #[.int .u8 1, .int .u32 r.f1, .int .u32 0, .slice X3 x.f3.length x3, .slice none 0 0, .int .i64 0, .int .i64 0, .slice none 0 0] (by omega)).trans hxb
    obtain ⟨uz0, uz1, uz2, uz3, uz4, uz5, uz6, uz7, uz8, uz9, _⟩ := ten hxb
    obtain ⟨vz0, vz1, vz2, vz3, vz4, vz5, vz6, vz7, vz8, vz9, _⟩ := ten hxb2
    obtain ⟨mz0, mz1, mz2, mz3, mz4, mz5, mz6, mz7, my0, my1, my2, my3, my4, my5, my6, my7⟩ := eight H3.out.mb
    have hst := fun (_ : True) => rO (a := 1) (k := r.f1) (i := 0) (x3 := .slice X3 x.f3.length x3) (x4 := .slice X4 x.f4.length x4) (p := 0) (q := 0) (x7 := .slice none 0 0) rfl H3.out.zb rfl rfl rfl
    clear hcall hv hb4 hbw hb5 hxb hxb2
    go_wp2
    ((try simp only [Exit.inBlock, Exit.then]); exact bodyPost_ret (oV rfl rfl (setRow_heap _ _ _ _ _ _ H3.out.zb) rfl) rfl ⟨_, _, _, _, _, _, rfl, ⟨(oI (kQ (kQ (kQ HV.out (jC _ (w.heap.size + 1 + 1) #[.int .u8 1, .int .u32 r.f1, .int .u32 0, .slice X3 x.f3.length x3, .slice none 0 0, .int .i64 0, .int .i64 0, .slice none 0 0]) hgy) (jC _ (w.heap.size + 1 + 1) #[.int .u8 1, .int .u32 r.f1, .int .u32 0, .slice X3 x.f3.length x3, .slice X4 x.f4.length x4, .int .i64 0, .int .i64 0, .slice none 0 0]) hgy) (jC _ (w.heap.size + 1) _) (by omega))).h3, (oI HV.out).d3, (oI (kQ (kQ (kQ HV.out (jC _ (w.heap.size + 1 + 1) #[.int .u8 1, .int .u32 r.f1, .int .u32 0, .slice X3 x.f3.length x3, .slice none 0 0, .int .i64 0, .int .i64 0, .slice none 0 0]) hgy) (jC _ (w.heap.size + 1 + 1) #[.int .u8 1, .int .u32 r.f1, .int .u32 0, .slice X3 x.f3.length x3, .slice X4 x.f4.length x4, .int .i64 0, .int .i64 0, .slice none 0 0]) hgy) (jC _ (w.heap.size + 1) _) (by omega))).h4, (oI HV.out).d4, Kd.C_nil _ _, Nat.le_refl _⟩, below_grown (g := w.heap.size + 1) H3.out.bel (jC _ _ _) (Nat.le_succ _) (Nat.le_refl _)⟩)
  by_cases h4 : K = 4
  · subst h4
    rw [if_neg (by decide), if_pos rfl] at hMM
    subst hMM
    have hs0 := fun (_ : True) => XO r.f2 H.out.mb
    have H1 := iC.mk (H.out.set #[.int .u8 4, .int .u32 r.f1, .int .u32 r.f2, .slice none 0 0, .slice none 0 0, .int .i64 0, .int .i64 0, .slice none 0 0])
    obtain ⟨a00, a01, a02, a03, a04, a05, a06, a07, a08, a09, _⟩ := ten H1.out.tb
    obtain ⟨mz0, mz1, mz2, mz3, mz4, mz5, mz6, mz7, my0, my1, my2, my3, my4, my5, my6, my7⟩ := eight H1.out.mb
    have hst := fun (_ : True) => rO (a := 4) (k := r.f1) (i := r.f2) (x3 := .slice none 0 0) (x4 := .slice none 0 0) (p := 0) (q := 0) (x7 := .slice none 0 0) rfl H1.out.zb rfl rfl rfl
    go_wp2
    ((try simp only [Exit.inBlock, Exit.then]); exact bodyPost_ret (oV rfl rfl (setRow_heap _ _ _ _ _ _ H1.out.zb) rfl) rfl ⟨_, _, _, _, _, _, rfl, ⟨Kd.C_nil _ _, Nat.le_refl _, Kd.C_nil _ _, Nat.le_refl _, Kd.C_nil _ _, Nat.le_refl _⟩, below_grown (g := w.heap.size + 1) H1.out.bel (jC _ _ _) (Nat.le_succ _) (Nat.le_refl _)⟩)
  by_cases h8 : K = 8
  · subst h8
    rw [if_neg (by decide), if_neg (by decide), if_pos rfl] at hMM
    subst hMM
    have hs0 := fun (_ : True) => XJ t.f6 H.out.mb
    have H1 := iC.mk (H.out.set #[.int .u8 8, .int .u32 r.f1, .int .u32 0, .slice none 0 0, .slice none 0 0, .int .i64 t.f6, .int .i64 0, .slice none 0 0])
    obtain ⟨a00, a01, a02, a03, a04, a05, a06, a07, a08, a09, _⟩ := ten H1.out.tb
    have hs1 := fun (_ : True) => XM t.f7 H1.out.mb
    have H2 := iC.mk (H1.out.set #[.int .u8 8, .int .u32 r.f1, .int .u32 0, .slice none 0 0, .slice none 0 0, .int .i64 t.f6, .int .i64 t.f7, .slice none 0 0])
    obtain ⟨a10, a11, a12, a13, a14, a15, a16, a17, a18, a19, _⟩ := ten H2.out.tb
    obtain ⟨mz0, mz1, mz2, mz3, mz4, mz5, mz6, mz7, my0, my1, my2, my3, my4, my5, my6, my7⟩ := eight H2.out.mb
    have hst := fun (_ : True) => rO (a := 8) (k := r.f1) (i := 0) (x3 := .slice none 0 0) (x4 := .slice none 0 0) (p := t.f6) (q := t.f7) (x7 := .slice none 0 0) rfl H2.out.zb rfl rfl rfl
    go_wp2
    ((try simp only [Exit.inBlock, Exit.then]); exact bodyPost_ret (oV rfl rfl (setRow_heap _ _ _ _ _ _ H2.out.zb) rfl) rfl ⟨_, _, _, _, _, _, rfl, ⟨Kd.C_nil _ _, Nat.le_refl _, Kd.C_nil _ _, Nat.le_refl _, Kd.C_nil _ _, Nat.le_refl _⟩, below_grown (g := w.heap.size + 1) H2.out.bel (jC _ _ _) (Nat.le_succ _) (Nat.le_refl _)⟩)
  by_cases h9 : K = 9
  · subst h9
    rw [if_neg (by decide), if_neg (by decide), if_neg (by decide), if_pos rfl] at hMM
    subst hMM
    have hs0 := fun (_ : True) => XI T9 t.f8.length t9 H.out.mb
    have H1 := iC.mk (H.out.set #[.int .u8 9, .int .u32 r.f1, .int .u32 0, .slice none 0 0, .slice none 0 0, .int .i64 0, .int .i64 0, .slice T9 t.f8.length t9])
    obtain ⟨a00, a01, a02, a03, a04, a05, a06, a07, a08, a09, _⟩ := ten H1.out.tb
    obtain ⟨mz0, mz1, mz2, mz3, mz4, mz5, mz6, mz7, my0, my1, my2, my3, my4, my5, my6, my7⟩ := eight H1.out.mb
    have hst := fun (_ : True) => rO (a := 9) (k := r.f1) (i := 0) (x3 := .slice none 0 0) (x4 := .slice none 0 0) (p := 0) (q := 0) (x7 := .slice T9 t.f8.length t9) rfl H1.out.zb rfl rfl rfl
    go_wp2
    ((try simp only [Exit.inBlock, Exit.then]); exact bodyPost_ret (oV rfl rfl (setRow_heap _ _ _ _ _ _ H1.out.zb) rfl) rfl ⟨_, _, _, _, _, _, rfl, ⟨Kd.C_nil _ _, Nat.le_refl _, Kd.C_nil _ _, Nat.le_refl _, (oI (kQ H1.out.tv (jC _ (w.heap.size + 1) _) (by omega))).h9, (oI H1.out.tv).d9⟩, below_grown (g := w.heap.size + 1) H1.out.bel (jC _ _ _) (Nat.le_succ _) (Nat.le_refl _)⟩)
  by_cases h10 : K = 10
  · subst h10
    rw [if_neg (by decide), if_neg (by decide), if_neg (by decide), if_neg (by decide), if_pos rfl] at hMM
    subst hMM
    have hs0 := fun (_ : True) => XJ t.f6 H.out.mb
    have H1 := iC.mk (H.out.set #[.int .u8 10, .int .u32 r.f1, .int .u32 0, .slice none 0 0, .slice none 0 0, .int .i64 t.f6, .int .i64 0, .slice none 0 0])
    obtain ⟨a00, a01, a02, a03, a04, a05, a06, a07, a08, a09, _⟩ := ten H1.out.tb
    have hs1 := fun (_ : True) => XM t.f7 H1.out.mb
    have H2 := iC.mk (H1.out.set #[.int .u8 10, .int .u32 r.f1, .int .u32 0, .slice none 0 0, .slice none 0 0, .int .i64 t.f6, .int .i64 t.f7, .slice none 0 0])
    obtain ⟨a10, a11, a12, a13, a14, a15, a16, a17, a18, a19, _⟩ := ten H2.out.tb
    have hs2 := fun (_ : True) => XI T9 t.f8.length t9 H2.out.mb
    have H3 := iC.mk (H2.out.set #[.int .u8 10, .int .u32 r.f1, .int .u32 0, .slice none 0 0, .slice none 0 0, .int .i64 t.f6, .int .i64 t.f7, .slice T9 t.f8.length t9])
    obtain ⟨a20, a21, a22, a23, a24, a25, a26, a27, a28, a29, _⟩ := ten H3.out.tb
    obtain ⟨mz0, mz1, mz2, mz3, mz4, mz5, mz6, mz7, my0, my1, my2, my3, my4, my5, my6, my7⟩ := eight H3.out.mb
    have hst := fun (_ : True) => rO (a := 10) (k := r.f1) (i := 0) (x3 := .slice none 0 0) (x4 := .slice none 0 0) (p := t.f6) (q := t.f7) (x7 := .slice T9 t.f8.length t9) rfl H3.out.zb rfl rfl rfl
    go_wp2
    ((try simp only [Exit.inBlock, Exit.then]); exact bodyPost_ret (oV rfl rfl (setRow_heap _ _ _ _ _ _ H3.out.zb) rfl) rfl ⟨_, _, _, _, _, _, rfl, ⟨Kd.C_nil _ _, Nat.le_refl _, Kd.C_nil _ _, Nat.le_refl _, (oI (kQ H3.out.tv (jC _ (w.heap.size + 1) _) (by omega))).h9, (oI H3.out.tv).d9⟩, below_grown (g := w.heap.size + 1) H3.out.bel (jC _ _ _) (Nat.le_succ _) (Nat.le_refl _)⟩)
  · rw [if_neg h1, if_neg h4, if_neg h8, if_neg h9, if_neg h10] at hMM
    subst hMM
    have hst := fun (_ : True) => rO (a := K) (k := r.f1) (i := 0) (x3 := .slice none 0 0) (x4 := .slice none 0 0) (p := 0) (q := 0) (x7 := .slice none 0 0) rfl H.out.zb rfl rfl rfl
    go_wp2
    ((try simp only [Exit.inBlock, Exit.then]); exact bodyPost_ret (oV rfl rfl (setRow_heap _ _ _ _ _ _ H.out.zb) rfl) rfl ⟨_, _, _, _, _, _, rfl, ⟨Kd.C_nil _ _, Nat.le_refl _, Kd.C_nil _ _, Nat.le_refl _, Kd.C_nil _ _, Nat.le_refl _⟩, below_grown (g := w.heap.size + 1) H.out.bel (jC _ _ _) (Nat.le_succ _) (Nat.le_refl _)⟩)
end Go.Proofs.YtgfkgppomaapiaaDoor.K
end

section
namespace Go.Proofs.YtgfkgppomaapiaaDoor.K
open RowKit YtgfkgppomaapiaaDoorW.PrintWords YtgfkgppomaapiaaDoorW.PrintLast YtgfkgppomaapiaaDoorW.PrintMore My
theorem MS (x : Int) : 0 ≤ IntKind.u16.wrap x ∧ IntKind.u16.wrap x < 65536 := by
  have : IntKind.u16.wrap x = x % 65536 := by simp [IntKind.wrap, IntKind.bits, IntKind.signed]
  rw [this]
  exact ⟨Int.emod_nonneg _ (by decide), Int.emod_lt_of_pos _ (by decide)⟩
structure VA (m : SMsg) : Prop where
  kind : 1 ≤ m.f0 ∧ m.f0 ≤ 11
  sound : lT m = true
  ok : WH (recM m)
theorem WM (kind : Int) (hk : 0 ≤ kind ∧ kind < 256) (r : SRec) (wr : RecW r) (nodes : Int) : VA (RH kind r nodes) := by
  have hsT := zI 6 r.f1 0 0 [] [] (IntKind.u16.wrap (Int.tmod r.f6 60000)) (IntKind.u16.wrap (Int.tmod r.f7 60000)) r.f8 (by decide) (fun v hv => by cases hv) (MS _) (MS _) (fun e he => (wr.n9 e he).1.1)
  have hsX := zI 0 r.f1 0 nodes r.f4 [] 0 0 [] (by decide) (fun v hv => by cases hv) ⟨by decide, by decide⟩ ⟨by decide, by decide⟩ (fun e he => by cases he)
  have okT := RJ 6 r.f1 0 0 [] [] (IntKind.u16.wrap (Int.tmod r.f6 60000)) (IntKind.u16.wrap (Int.tmod r.f7 60000)) r.f8 wr.ok.id (by decide) (fun e he => by cases he) wr.n9
  have okX := RJ 0 r.f1 0 nodes r.f4 [] 0 0 [] wr.ok.id (by decide) wr.n4 (fun e he => by cases he)
  have hT : ∃ p q es, rH 6 r.f1 0 0 [] [] (IntKind.u16.wrap (Int.tmod r.f6 60000)) (IntKind.u16.wrap (Int.tmod r.f7 60000)) r.f8 = ⟨7, r.f1, 0, [], [], ⟨0, []⟩, p, q, es⟩ := ⟨_, _, _, rfl⟩
  have hX : ∃ n f, rH 0 r.f1 0 nodes r.f4 [] 0 0 [] = ⟨1, r.f1, 0, n, f, ⟨0, []⟩, 0, 0, []⟩ := ⟨_, _, rfl⟩
  unfold RH
  simp only
  obtain ⟨p, q, es, hT⟩ := hT
  obtain ⟨n, f, hX⟩ := hX
  rw [hT] at hsT okT ⊢
  rw [hX] at hsX okX ⊢
  have hid := wr.ok.id
  have hat := wr.ok.at_
  have z32 : (0 : Int) ≤ 0 ∧ (0 : Int) < 4294967296 := by decide
  have h7 : 0 ≤ p ∧ p ≤ 10000 ∧ 0 ≤ q ∧ q ≤ 10000 ∧ mD es = true ∧ es.length ≤ 5000 := by
    have hq := hsT
    rw [MM] at hq
    simp only [Bool.and_eq_true, decide_eq_true_eq] at hq
    obtain ⟨⟨⟨⟨⟨⟨he, hel⟩, p0⟩, p1⟩, q0⟩, q1⟩, _⟩ := hq
    exact ⟨p0, p1, q0, q1, he, by omega⟩
  obtain ⟨p0, p1, q0, q1, he, hel⟩ := h7
  by_cases h1 : 1 + kind % 11 = 1
  · rw [if_pos h1, h1]
    exact ⟨(show (1 : Int) ≤ 1 ∧ (1 : Int) ≤ 11 from by decide), hsX, okX⟩
  rw [if_neg h1]
  by_cases h4 : 1 + kind % 11 = 4
  · rw [if_pos h4, h4]
    exact ⟨(show (1 : Int) ≤ 4 ∧ (4 : Int) ≤ 11 from by decide), rfl, ⟨by show (0 : Int) ≤ 2 ∧ (2 : Int) < 256; decide, hid, hat, fun e h => (by cases h), z32, fun e h => by cases h⟩⟩
  rw [if_neg h4]
  by_cases h8 : 1 + kind % 11 = 8
  · rw [if_pos h8, h8]
    refine ⟨(show (1 : Int) ≤ 8 ∧ (8 : Int) ≤ 11 from by decide), ?_, ⟨by show (0 : Int) ≤ 7 ∧ (7 : Int) < 256; decide, hid, z32, fun e h => (by cases h), z32, fun e h => by cases h⟩⟩
    rw [oM (by rfl)]
    simp [recM, nJ, jM, mD, mJ, p0, p1, q0, q1]
  rw [if_neg h8]
  by_cases h9 : 1 + kind % 11 = 9
  · rw [if_pos h9, h9]
    refine ⟨(show (1 : Int) ≤ 9 ∧ (9 : Int) ≤ 11 from by decide), ?_, ⟨by show (0 : Int) ≤ 7 ∧ (7 : Int) < 256; decide, hid, z32, fun e h => (by cases h), z32, okT.entries⟩⟩
    rw [oM (by rfl)]
    simp [recM, nJ, jM, he, hel]
  rw [if_neg h9]
  by_cases h10 : 1 + kind % 11 = 10
  · rw [if_pos h10, h10]
    exact ⟨(show (1 : Int) ≤ 10 ∧ (10 : Int) ≤ 11 from by decide), hsT, okT⟩
  rw [if_neg h10]
  have hr : 1 ≤ 1 + kind % 11 ∧ 1 + kind % 11 ≤ 11 := by omega
  generalize 1 + kind % 11 = k at *
  have hkm : nJ k = 4 := by
    rcases IX k with e | ⟨e, e2⟩ | ⟨e, e2⟩ | ⟨e, e2, e3⟩ | ⟨e, _⟩
    · have := OI k e; omega
    · exact absurd e2 h1
    · exact absurd e2 h4
    · omega
    · exact e
  refine ⟨hr, ?_, ⟨by show (0 : Int) ≤ nJ k ∧ nJ k < 256; rw [hkm]; decide, hid, z32, fun e h => (by cases h), z32, fun e h => by cases h⟩⟩
  rw [oM (by simp [preM, h4, h8, h9])]
  unfold recM
  simp only
  rw [hkm]
  rfl
end Go.Proofs.YtgfkgppomaapiaaDoor.K
end

section
namespace Go.Proofs.YtgfkgppomaapiaaDoor.K
open RowKit YtgfkgppomaapiaaDoorW.PrintWords YtgfkgppomaapiaaDoorW.PrintLast YtgfkgppomaapiaaDoorW.PrintMore My
section
variable {w w' : World} {m : SMsg} {A3 A4 A9 : Option Addr} {a3 a4 a9 : Nat}
theorem pO (h : qB w m A3 a3 A4 a4 A9 a9) {S : Bool} (hS : jM (recR m) = S) : Calls Tryd.prog 20 #[.agg #[.int .u8 (rW m.f0), .int .u32 m.f1, .int .u32 m.f2, .slice A3 m.f3.length a3, .slice A4 m.f4.length a4, .int .u32 0, .slice none 0 0, .int .i64 m.f5, .int .i64 m.f6, .slice A9 m.f7.length a9]] w fun e w' => e = .returned (.bool S) ∧ Below w.heap.size w w' :=
  LP (rW m.f0) m.f1 m.f2 A3 a3 m.f3 A4 a4 m.f4 0 none 0 [] m.f5 m.f6 A9 a9 m.f7 w h.h3 h.d3 h.h4 h.d4 (Kd.C_nil _ _) (Nat.le_refl _) h.h9 h.d9 hS
theorem JA (h : qB w m A3 a3 A4 a4 A9 a9) {E1 : List Int} {E2 : Int} (hE : encR (recR m) = (E1, E2)) : Calls Tryd.prog 18 #[.agg #[.int .u8 (rW m.f0), .int .u32 m.f1, .int .u32 m.f2, .slice A3 m.f3.length a3, .slice A4 m.f4.length a4, .int .u32 0, .slice none 0 0, .int .i64 m.f5, .int .i64 m.f6, .slice A9 m.f7.length a9]] w (nU w (E1, E2)) := by
  rw [← hE]
  exact IE (rW m.f0) m.f1 m.f2 A3 a3 m.f3 A4 a4 m.f4 0 none 0 [] m.f5 m.f6 A9 a9 m.f7 w h.h3 h.d3 h.h4 h.d4 (Kd.C_nil _ _) (Nat.le_refl _) h.h9 h.d9
end
theorem TN (r : SRec) (h : r.f0 = 0) : jM r = false := by unfold jM; simp [h]
theorem IU {m : SMsg} (h : m.f0 < 1 ∨ 11 < m.f0) : lT m = false := by
  have hk : nJ m.f0 = 0 := by
    rcases IX m.f0 with e | ⟨_, e2⟩ | ⟨_, e2⟩ | ⟨_, e2, e3⟩ | ⟨_, e2, e3, _⟩
    · exact e
    all_goals omega
  unfold lT
  rw [TN (recM m) hk, Bool.and_false]
theorem PQ {m : SMsg} (h : 1 ≤ m.f0 ∧ m.f0 ≤ 11) : recR m = recM m := by
  unfold recR recM
  rw [VT m.f0 h]
set_option maxRecDepth 20000 in
set_option maxHeartbeats 16000000 in
theorem yD (m : SMsg) (A3 : Option Addr) (a3 : Nat) (A4 : Option Addr) (a4 : Nat) (A9 : Option Addr) (a9 : Nat) (w : World) (h : qB w m A3 a3 A4 a4 A9 a9) :
    Calls Tryd.prog 31 #[.agg #[.int .u8 m.f0, .int .u32 m.f1, .int .u32 m.f2, .slice A3 m.f3.length a3, .slice A4 m.f4.length a4, .int .i64 m.f5, .int .i64 m.f6, .slice A9 m.f7.length a9]] w fun e w' => e = .returned (.bool (lT m)) ∧ Below w.heap.size w w' := by
  have hb : Below w.heap.size w (w.alloc (.cells #[.int .u8 m.f0, .int .u32 m.f1, .int .u32 m.f2, .slice A3 m.f3.length a3, .slice A4 m.f4.length a4, .int .i64 m.f5, .int .i64 m.f6, .slice A9 m.f7.length a9] 51)) := iF (Below.refl _ _) _
  have HX := iC.mk (show (w.alloc (.cells #[.int .u8 m.f0, .int .u32 m.f1, .int .u32 m.f2, .slice A3 m.f3.length a3, .slice A4 m.f4.length a4, .int .i64 m.f5, .int .i64 m.f6, .slice A9 m.f7.length a9] 51)).heap[w.heap.size]? = some (.cells #[.int .u8 m.f0, .int .u32 m.f1, .int .u32 m.f2, .slice A3 m.f3.length a3, .slice A4 m.f4.length a4, .int .i64 m.f5, .int .i64 m.f6, .slice A9 m.f7.length a9] 51 (0, 0)) from iV rfl)
  have HL := iC.mk (h.below hb)
  have HB := iC.mk hb
  clear h hb
  obtain ⟨S, hS⟩ : ∃ S, lT m = S := ⟨_, rfl⟩
  rw [hS]
  have HS := iC.mk hS
  clear hS
  have hout := fun h => (IU (m := m) h).symm.trans HS.out
  have hpre : preM m = (!(decide (m.f0 = 4) && decide (0 < m.f3.length)) && !(decide (m.f0 = 8) && decide (0 < m.f7.length)) && !(decide (m.f0 = 9) && (!decide (m.f5 = 0) || !decide (m.f6 = 0)))) := rfl
  have bad : preM m = false → S = false := fun h => by rw [← HS.out]; exact IZ h
  have good : 1 ≤ m.f0 ∧ m.f0 ≤ 11 → preM m = true → jM (recR m) = S := fun hr h => by rw [PQ hr, ← HS.out]; exact (oM h).symm
  obtain ⟨k, i, a, l3, l4, p, q, l7⟩ := m
  simp only at HX HL hpre hout good HB ⊢
  by_cases hlo : k < 1
  · obtain rfl := hout (.inl hlo)
    clear bad good hpre hout
    (obtain ⟨z0, z1, z2, z3, z4, z5, z6, z7, y0, y1, y2, y3, y4, y5, y6, y7⟩ := eight HX.out; go_enter Tryd.func31, Tryd.ntmps31; go_wp2; go_ret; exact ⟨rfl, HB.out⟩)
  by_cases hhi : k > 11
  · obtain rfl := hout (.inr hhi)
    clear bad good hpre hout
    (obtain ⟨z0, z1, z2, z3, z4, z5, z6, z7, y0, y1, y2, y3, y4, y5, y6, y7⟩ := eight HX.out; go_enter Tryd.func31, Tryd.ntmps31; go_wp2; go_ret; exact ⟨rfl, HB.out⟩)
  have good := good ⟨by omega, by omega⟩
  clear hout
  by_cases h4 : k = 4
  · subst h4
    by_cases hl : 0 < l3.length
    · have hf := bad (by rw [hpre]; simp [hl])
      subst hf
      clear bad good hpre
      (obtain ⟨z0, z1, z2, z3, z4, z5, z6, z7, y0, y1, y2, y3, y4, y5, y6, y7⟩ := eight HX.out; go_enter Tryd.func31, Tryd.ntmps31; go_wp2; go_ret; exact ⟨rfl, HB.out⟩)
    · have hf := good (by rw [hpre]; simp [hl])
      clear bad good hpre
      have HF := iC.mk hf
      clear hf
      obtain ⟨z0, z1, z2, z3, z4, z5, z6, z7, y0, y1, y2, y3, y4, y5, y6, y7⟩ := eight HX.out
      go_enter Tryd.func31, Tryd.ntmps31
      (go_wp2_with fail; go_at_call 82; (with_reducible refine (nT _ _ _ _ _ _ _ _ _ _ _ _ _ _ _).mono ?_); rintro e w1 ⟨rfl, hb1⟩; have HB1 := iC.mk (iI HB.out hb1); have HL1 := iC.mk (HL.out.below hb1); clear hb1 z0 z1 z2 z3 z4 z5 z6 z7 y0 y1 y2 y3 y4 y5 y6 y7; go_wp2_with fail; go_at_call 20; (refine (pO HL1.out HF.out).mono ?_); rintro e w2 ⟨rfl, hb2⟩; go_wp2; go_ret; exact ⟨rfl, iI HB1.out hb2⟩)
  by_cases h8 : k = 8
  · subst h8
    by_cases hl : 0 < l7.length
    · have hf := bad (by rw [hpre]; simp [hl])
      subst hf
      clear bad good hpre
      (obtain ⟨z0, z1, z2, z3, z4, z5, z6, z7, y0, y1, y2, y3, y4, y5, y6, y7⟩ := eight HX.out; go_enter Tryd.func31, Tryd.ntmps31; go_wp2; go_ret; exact ⟨rfl, HB.out⟩)
    · have hf := good (by rw [hpre]; simp [hl])
      clear bad good hpre
      have HF := iC.mk hf
      clear hf
      obtain ⟨z0, z1, z2, z3, z4, z5, z6, z7, y0, y1, y2, y3, y4, y5, y6, y7⟩ := eight HX.out
      go_enter Tryd.func31, Tryd.ntmps31
      (go_wp2_with fail; go_at_call 82; (with_reducible refine (nT _ _ _ _ _ _ _ _ _ _ _ _ _ _ _).mono ?_); rintro e w1 ⟨rfl, hb1⟩; have HB1 := iC.mk (iI HB.out hb1); have HL1 := iC.mk (HL.out.below hb1); clear hb1 z0 z1 z2 z3 z4 z5 z6 z7 y0 y1 y2 y3 y4 y5 y6 y7; go_wp2_with fail; go_at_call 20; (refine (pO HL1.out HF.out).mono ?_); rintro e w2 ⟨rfl, hb2⟩; go_wp2; go_ret; exact ⟨rfl, iI HB1.out hb2⟩)
  by_cases h9 : k = 9
  · subst h9
    by_cases hp : p = 0
    · subst hp
      by_cases hq : q = 0
      · subst hq
        have hf := good (by rw [hpre]; simp)
        clear bad good hpre
        have HF := iC.mk hf
        clear hf
        obtain ⟨z0, z1, z2, z3, z4, z5, z6, z7, y0, y1, y2, y3, y4, y5, y6, y7⟩ := eight HX.out
        go_enter Tryd.func31, Tryd.ntmps31
        (go_wp2_with fail; go_at_call 82; (with_reducible refine (nT _ _ _ _ _ _ _ _ _ _ _ _ _ _ _).mono ?_); rintro e w1 ⟨rfl, hb1⟩; have HB1 := iC.mk (iI HB.out hb1); have HL1 := iC.mk (HL.out.below hb1); clear hb1 z0 z1 z2 z3 z4 z5 z6 z7 y0 y1 y2 y3 y4 y5 y6 y7; go_wp2_with fail; go_at_call 20; (refine (pO HL1.out HF.out).mono ?_); rintro e w2 ⟨rfl, hb2⟩; go_wp2; go_ret; exact ⟨rfl, iI HB1.out hb2⟩)
      · have hf := bad (by rw [hpre]; simp [hq])
        subst hf
        clear bad good hpre
        (obtain ⟨z0, z1, z2, z3, z4, z5, z6, z7, y0, y1, y2, y3, y4, y5, y6, y7⟩ := eight HX.out; go_enter Tryd.func31, Tryd.ntmps31; go_wp2; go_ret; exact ⟨rfl, HB.out⟩)
    · have hf := bad (by rw [hpre]; simp [hp])
      subst hf
      clear bad good hpre
      (obtain ⟨z0, z1, z2, z3, z4, z5, z6, z7, y0, y1, y2, y3, y4, y5, y6, y7⟩ := eight HX.out; go_enter Tryd.func31, Tryd.ntmps31; go_wp2; go_ret; exact ⟨rfl, HB.out⟩)
  · have hf := good (by rw [hpre]; simp [h4, h8, h9])
    clear bad good hpre
    have HF := iC.mk hf
    clear hf
    obtain ⟨z0, z1, z2, z3, z4, z5, z6, z7, y0, y1, y2, y3, y4, y5, y6, y7⟩ := eight HX.out
    go_enter Tryd.func31, Tryd.ntmps31
    (go_wp2_with fail; go_at_call 82; (with_reducible refine (nT _ _ _ _ _ _ _ _ _ _ _ _ _ _ _).mono ?_); rintro e w1 ⟨rfl, hb1⟩; have HB1 := iC.mk (iI HB.out hb1); have HL1 := iC.mk (HL.out.below hb1); clear hb1 z0 z1 z2 z3 z4 z5 z6 z7 y0 y1 y2 y3 y4 y5 y6 y7; go_wp2_with fail; go_at_call 20; (refine (pO HL1.out HF.out).mono ?_); rintro e w2 ⟨rfl, hb2⟩; go_wp2; go_ret; exact ⟨rfl, iI HB1.out hb2⟩)
end Go.Proofs.YtgfkgppomaapiaaDoor.K
end

section
namespace Go.Proofs.YtgfkgppomaapiaaDoor.K
open RowKit YtgfkgppomaapiaaDoorW.PrintWords YtgfkgppomaapiaaDoorW.PrintLast YtgfkgppomaapiaaDoorW.PrintMore My
theorem VV {tmps : Array Value} {W : World} {p : Tmp} {b : Nat} {cs : Array Value} (h : Tryd.f26.results = #[.cell p 51]) (hp : tmps.getD p undef = .pointer (some ⟨b, 0, none⟩)) (hx : W.heap[b]? = some (.cells cs 51 (0, 0))) (hs : cs.size = 8) :
    (results Tryd.f26 tmps).run Tryd.prog W = .ok (.agg cs) W := by
  exact results_cell_row h _ _ _ _ _ _ _ hp hx Tryd.underlying51 rfl (by rw [hs]; kernel_rfl)
section
attribute [-go_sem] Instr.build Instr.storeAt
attribute [local go_sem] VB
set_option maxRecDepth 20000 in
set_option maxHeartbeats 8000000 in
theorem VS (k : Int) (r : SRec) (A3 : Option Addr) (a3 : Nat) (A4 : Option Addr) (a4 : Nat) (A6 : Option Addr) (a6 : Nat) (A9 : Option Addr) (a9 : Nat) (w : World) :
    Calls Tryd.prog 26 #[.int .u8 k, .agg #[.int .u8 r.f0, .int .u32 r.f1, .int .u32 r.f2, .slice A3 r.f3.length a3, .slice A4 r.f4.length a4, .int .u32 r.f5.f0, .slice A6 r.f5.f1.length a6, .int .i64 r.f6, .int .i64 r.f7, .slice A9 r.f8.length a9]] w fun e w' => e = .returned (.agg #[.int .u8 k, .int .u32 r.f1, .int .u32 r.f2, .slice A3 r.f3.length a3, .slice A4 r.f4.length a4, .int .i64 r.f6, .int .i64 r.f7, .slice A9 r.f8.length a9]) ∧ Below w.heap.size w w' := by
  have hx : ((w.alloc (.cells #[.int .u8 r.f0, .int .u32 r.f1, .int .u32 r.f2, .slice A3 r.f3.length a3, .slice A4 r.f4.length a4, .int .u32 r.f5.f0, .slice A6 r.f5.f1.length a6, .int .i64 r.f6, .int .i64 r.f7, .slice A9 r.f8.length a9] 30)).alloc (.cells #[.int .u8 0, .int .u32 0, .int .u32 0, .slice none 0 0, .slice none 0 0, .int .i64 0, .int .i64 0, .slice none 0 0] 51)).heap[w.heap.size]? = some (.cells #[.int .u8 r.f0, .int .u32 r.f1, .int .u32 r.f2, .slice A3 r.f3.length a3, .slice A4 r.f4.length a4, .int .u32 r.f5.f0, .slice A6 r.f5.f1.length a6, .int .i64 r.f6, .int .i64 r.f7, .slice A9 r.f8.length a9] 30 (0, 0)) := jI (iV rfl)
  have hz : ((w.alloc (.cells #[.int .u8 r.f0, .int .u32 r.f1, .int .u32 r.f2, .slice A3 r.f3.length a3, .slice A4 r.f4.length a4, .int .u32 r.f5.f0, .slice A6 r.f5.f1.length a6, .int .i64 r.f6, .int .i64 r.f7, .slice A9 r.f8.length a9] 30)).alloc (.cells #[.int .u8 0, .int .u32 0, .int .u32 0, .slice none 0 0, .slice none 0 0, .int .i64 0, .int .i64 0, .slice none 0 0] 51)).heap[w.heap.size + 1]? = some (.cells #[.int .u8 0, .int .u32 0, .int .u32 0, .slice none 0 0, .slice none 0 0, .int .i64 0, .int .i64 0, .slice none 0 0] 51 (0, 0)) := iV (by simp)
  have hb : Below w.heap.size w ((w.alloc (.cells #[.int .u8 r.f0, .int .u32 r.f1, .int .u32 r.f2, .slice A3 r.f3.length a3, .slice A4 r.f4.length a4, .int .u32 r.f5.f0, .slice A6 r.f5.f1.length a6, .int .i64 r.f6, .int .i64 r.f7, .slice A9 r.f8.length a9] 30)).alloc (.cells #[.int .u8 0, .int .u32 0, .int .u32 0, .slice none 0 0, .slice none 0 0, .int .i64 0, .int .i64 0, .slice none 0 0] 51)) := iF (iF (Below.refl _ _) _) _
  have HB := iC.mk hb
  have HZ := iC.mk hz
  have HX := iC.mk hx
  have hst := fun (_ : True) => rO (a := k) (k := r.f1) (i := r.f2) (x3 := .slice A3 r.f3.length a3) (x4 := .slice A4 r.f4.length a4) (p := r.f6) (q := r.f7) (x7 := .slice A9 r.f8.length a9) rfl hz rfl rfl rfl
  clear hx hz hb
  obtain ⟨wz0, wz1, wz2, wz3, wz4, wz5, wz6, wz7, wz8, wz9, wy0, wy1, wy2, wy3, wy4, wy5, wy6, wy7, wy8, wy9⟩ := ten (HX.out)
  go_enter Tryd.func26, Tryd.ntmps26
  go_wp2
  ((try simp only [Exit.inBlock, Exit.then]); exact bodyPost_ret (VV rfl rfl (setRow_heap _ _ _ _ _ _ HZ.out) rfl) rfl ⟨rfl, below_grown (g := w.heap.size + 1) HB.out (jC _ _ _) (Nat.le_succ _) (Nat.le_refl _)⟩)
end
set_option maxRecDepth 20000 in
set_option maxHeartbeats 8000000 in
theorem vU (m : SMsg) (A3 : Option Addr) (a3 : Nat) (A4 : Option Addr) (a4 : Nat) (A9 : Option Addr) (a9 : Nat) (w : World) (h : qB w m A3 a3 A4 a4 A9 a9) {E1 : List Int} {E2 : Int} (hE : encM m = (E1, E2)) :
    Calls Tryd.prog 29 #[.agg #[.int .u8 m.f0, .int .u32 m.f1, .int .u32 m.f2, .slice A3 m.f3.length a3, .slice A4 m.f4.length a4, .int .i64 m.f5, .int .i64 m.f6, .slice A9 m.f7.length a9]] w (nU w (E1, E2)) := by
  have hb : Below w.heap.size w (w.alloc (.cells #[.int .u8 m.f0, .int .u32 m.f1, .int .u32 m.f2, .slice A3 m.f3.length a3, .slice A4 m.f4.length a4, .int .i64 m.f5, .int .i64 m.f6, .slice A9 m.f7.length a9] 51)) := iF (Below.refl _ _) _
  have HX := iC.mk (show (w.alloc (.cells #[.int .u8 m.f0, .int .u32 m.f1, .int .u32 m.f2, .slice A3 m.f3.length a3, .slice A4 m.f4.length a4, .int .i64 m.f5, .int .i64 m.f6, .slice A9 m.f7.length a9] 51)).heap[w.heap.size]? = some (.cells #[.int .u8 m.f0, .int .u32 m.f1, .int .u32 m.f2, .slice A3 m.f3.length a3, .slice A4 m.f4.length a4, .int .i64 m.f5, .int .i64 m.f6, .slice A9 m.f7.length a9] 51 (0, 0)) from iV rfl)
  have HL := iC.mk (h.below hb)
  have HB := iC.mk hb
  have hsound := yD m A3 a3 A4 a4 A9 a9 _ HL.out
  have HE := iC.mk hE
  clear h hb hE
  obtain ⟨z0, z1, z2, z3, z4, z5, z6, z7, y0, y1, y2, y3, y4, y5, y6, y7⟩ := eight HX.out
  by_cases hs : lT m = true
  · rw [hs] at hsound
    have hrange : 1 ≤ m.f0 ∧ m.f0 ≤ 11 := by
      by_cases hq : m.f0 < 1 ∨ 11 < m.f0
      · rw [IU hq] at hs; cases hs
      · omega
    have HS := iC.mk hs
    have HRG := iC.mk hrange
    clear hs hrange
    go_enter Tryd.func29, Tryd.ntmps29
    go_wp2_with fail
    go_at_call 31
    refine hsound.mono ?_
    rintro e w1 ⟨rfl, hb1⟩
    have HX1 := iC.mk (iL hb1 HX.out)
    have HL1 := iC.mk (HL.out.below hb1)
    have HB1 := iC.mk (iI HB.out hb1)
    clear hsound hb1 z0 z1 z2 z3 z4 z5 z6 z7 y0 y1 y2 y3 y4 y5 y6 y7
    obtain ⟨z0, z1, z2, z3, z4, z5, z6, z7, y0, y1, y2, y3, y4, y5, y6, y7⟩ := eight HX1.out
    go_wp2_with fail
    go_at_call 82
    (with_reducible refine (nT _ _ _ _ _ _ _ _ _ _ _ _ _ _ _).mono ?_)
    rintro e w2 ⟨rfl, hb2⟩
    have HX2 := iC.mk (iL hb2 HX1.out)
    have HL2 := iC.mk (HL1.out.below hb2)
    have HB2 := iC.mk (iI HB1.out hb2)
    clear hb2 z0 z1 z2 z3 z4 z5 z6 z7 y0 y1 y2 y3 y4 y5 y6 y7
    obtain ⟨⟨F1, F2⟩, hF⟩ : ∃ F : List Int × Int, encR (recM m) = F := ⟨_, rfl⟩
    have hEF : encM m = if F2 = 0 then (m.f0 :: F1, 0) else ([], F2) := by unfold encM; rw [if_pos HS.out, hF]
    rw [HE.out] at hEF
    have hcases := rD (recM m)
    have hsb : jM (recM m) = true := by have := HS.out; unfold lT at this; simp only [Bool.and_eq_true] at this; exact this.2
    rw [hF] at hcases
    have hlen : F2 = 0 → F1.length ≤ 60000 := fun hz => by
      have hF' := hF
      unfold encR at hF'
      rw [if_pos hsb] at hF'
      split at hF'
      · injection hF' with _ h2; rw [← h2] at hz; cases hz
      · injection hF' with h1 _; rw [← h1, jH]; omega
    have hcall := JA HL2.out (show encR (recR m) = (F1, F2) from by rw [PQ HRG.out]; exact hF)
    have HEF := iC.mk hEF
    have HCS := iC.mk hcases
    have HLN := iC.mk hlen
    clear hF hsb hEF hcases hlen
    go_wp2_with fail
    go_at_call 18
    refine hcall.mono ?_
    rintro e w3 ⟨v0, rfl, h0, hb3⟩
    have h0 : Kd.R (Kd.int .u8) 5 w3 w2.heap.size (fun _ => True) v0 F1 := h0
    dsimp only
    have HX3 := iC.mk (iL hb3 HX2.out)
    have HB3 := iC.mk (iI HB2.out hb3)
    obtain ⟨A0, c0, rfl⟩ := Kd.R_slice h0
    obtain ⟨_, q0, C0⟩ := Kd.R_reads' h0
    have hEF := HEF.out
    have hcases := HCS.out
    have hlen := HLN.out
    clear hcall hb3 h0 HEF HCS HLN
    rcases hcases with hc | hc | hc
    · obtain ⟨rfl, rfl⟩ := Prod.mk.inj hc
      rw [if_neg (by decide)] at hEF
      obtain ⟨rfl, rfl⟩ := Prod.mk.inj hEF
      clear hEF hc hlen C0 q0
      go_wp2
      go_ret2
      exact ⟨_, rfl, Kd.R_nil _ _ _ _ _, HB3.out⟩
    · obtain ⟨rfl, rfl⟩ := Prod.mk.inj hc
      rw [if_neg (by decide)] at hEF
      obtain ⟨rfl, rfl⟩ := Prod.mk.inj hEF
      clear hEF hc hlen C0 q0
      go_wp2
      go_ret2
      exact ⟨_, rfl, Kd.R_nil _ _ _ _ _, HB3.out⟩
    · obtain ⟨hf1, rfl⟩ := Prod.mk.inj hc
      have hlen := hlen rfl
      clear hf1 hc
      rw [if_pos rfl] at hEF
      obtain ⟨rfl, rfl⟩ := Prod.mk.inj hEF
      clear hEF
      obtain ⟨z0, z1, z2, z3, z4, z5, z6, z7, y0, y1, y2, y3, y4, y5, y6, y7⟩ := eight HX3.out
      have HO := iC.mk (Kd.R_mono (ok' := fun _ => True) (IR w3 w.heap.size m.f0 w.heap.size HB3.out.size (jR HX3.out)) (fun _ _ => trivial))
      have hb4 := iF HB3.out (.cells #[.int .u8 m.f0] 5)
      have HC := iC.mk (Kd.C_below C0 (iF (Below.refl w3.heap.size w3) (.cells #[.int .u8 m.f0] 5)))
      have HB4 := iC.mk hb4
      clear C0 q0 hb4
      go_wp2_with (at_builtin; refine Kd.R_append_rows (Kd.int .u8) (w0 := w) w.heap.size rfl (.tmp 22) (.tmp 23) 33 5 (.int .u8 0) 1 rfl Tryd.underlying33 IJ rfl (by decide) (by omega) (.slice (some ⟨w3.heap.size, 0, none⟩) 1 1) [m.f0] F1 _ _ _ (fun _ => True) (fun _ => False) rfl rfl HO.out HC.out (fun _ _ h => h) (fun _ h => h.elim) (fun _ _ => trivial) HB4.out HB4.out.size ?aL ?_; (case aL => (simp only [List.length_cons, List.length_nil]; omega)); intro v1 w5 HO5 HB5 hg hat)
      go_ret2
      exact ⟨_, rfl, HO5, HB5⟩
  · have hs : lT m = false := by simpa using hs
    rw [hs] at hsound
    have hEF : encM m = ([], 1) := by unfold encM; rw [hs, if_neg (by decide)]
    rw [HE.out] at hEF
    obtain ⟨rfl, rfl⟩ := Prod.mk.inj hEF
    clear hs hEF
    go_enter Tryd.func29, Tryd.ntmps29
    go_wp2_with fail
    go_at_call 31
    refine hsound.mono ?_
    rintro e w1 ⟨rfl, hb1⟩
    clear hsound
    go_wp2
    go_ret2
    exact ⟨_, rfl, Kd.R_nil _ _ _ _ _, iI HB.out hb1⟩
end Go.Proofs.YtgfkgppomaapiaaDoor.K
end

section
namespace Go.Proofs.YtgfkgppomaapiaaDoor.K
open RowKit YtgfkgppomaapiaaDoorW.PrintWords YtgfkgppomaapiaaDoorW.PrintLast YtgfkgppomaapiaaDoorW.PrintMore My
theorem N8 {m : SMsg} {E1 : List Int} {E2 : Int} (h : encM m = (E1, E2)) : 0 ≤ E2 ∧ E2 < 65536 := by
  rcases yX m with e | e | ⟨_, e⟩ <;> rw [e] at h <;> injection h with _ h2 <;> subst h2 <;> exact ⟨by decide, by decide⟩
theorem X0 (k : Int) (r : SRec) (X : SMsg) (hX : msgR k r = X) (A3 : Option Addr) (a3 : Nat) (A4 : Option Addr) (a4 : Nat) (A6 : Option Addr) (a6 : Nat) (A9 : Option Addr) (a9 : Nat) (w : World) :
    Calls Tryd.prog 26 #[.int .u8 k, .agg #[.int .u8 r.f0, .int .u32 r.f1, .int .u32 r.f2, .slice A3 r.f3.length a3, .slice A4 r.f4.length a4, .int .u32 r.f5.f0, .slice A6 r.f5.f1.length a6, .int .i64 r.f6, .int .i64 r.f7, .slice A9 r.f8.length a9]] w fun e w' => e = .returned (.agg #[.int .u8 X.f0, .int .u32 X.f1, .int .u32 X.f2, .slice A3 X.f3.length a3, .slice A4 X.f4.length a4, .int .i64 X.f5, .int .i64 X.f6, .slice A9 X.f7.length a9]) ∧ Below w.heap.size w w' := by
  subst hX
  exact VS k r A3 a3 A4 a4 A6 a6 A9 a9 w
attribute [-go_sem] Instr.storeAt
set_option maxRecDepth 20000 in
set_option maxHeartbeats 16000000 in
theorem yO (kind nodes : Int) (hk : 0 ≤ kind ∧ kind < 256) (r : SRec) (A3 : Option Addr) (a3 : Nat) (A4 : Option Addr) (a4 : Nat) (A6 : Option Addr) (a6 : Nat) (A9 : Option Addr) (a9 : Nat) (w : World) (g : Lies w r A3 a3 A4 a4 A6 a6 A9 a9)
    (hfr : ∀ e ∈ r.f8, e.f1.length ≤ 9223372036854775807) (X Y : SMsg) (hX : msgR kind r = X) (hY : RH kind r nodes = Y) (okX : 0 ≤ X.f0 ∧ X.f0 < 256) (okY : VA Y) (hl : ∀ w, Lies w r A3 a3 A4 a4 A6 a6 A9 a9 → qB w X A3 a3 A4 a4 A9 a9) :
    Calls Tryd.prog 6 #[.int .u8 kind, .agg #[.int .u8 r.f0, .int .u32 r.f1, .int .u32 r.f2, .slice A3 r.f3.length a3, .slice A4 r.f4.length a4, .int .u32 r.f5.f0, .slice A6 r.f5.f1.length a6, .int .i64 r.f6, .int .i64 r.f7, .slice A9 r.f8.length a9], .int .u8 nodes] w fun e w' => e = .returned (.bool true) ∧ Below w.heap.size w w' := by
  have hbw : Below w.heap.size w (w.alloc (.cells #[.int .u8 r.f0, .int .u32 r.f1, .int .u32 r.f2, .slice A3 r.f3.length a3, .slice A4 r.f4.length a4, .int .u32 r.f5.f0, .slice A6 r.f5.f1.length a6, .int .i64 r.f6, .int .i64 r.f7, .slice A9 r.f8.length a9] 30)) := iF (Below.refl _ _) _
  have HXB := iC.mk (show (w.alloc (.cells #[.int .u8 r.f0, .int .u32 r.f1, .int .u32 r.f2, .slice A3 r.f3.length a3, .slice A4 r.f4.length a4, .int .u32 r.f5.f0, .slice A6 r.f5.f1.length a6, .int .i64 r.f6, .int .i64 r.f7, .slice A9 r.f8.length a9] 30)).heap[w.heap.size]? = some (.cells #[.int .u8 r.f0, .int .u32 r.f1, .int .u32 r.f2, .slice A3 r.f3.length a3, .slice A4 r.f4.length a4, .int .u32 r.f5.f0, .slice A6 r.f5.f1.length a6, .int .i64 r.f6, .int .i64 r.f7, .slice A9 r.f8.length a9] 30 (0, 0)) from iV rfl)
  obtain ⟨v, hheavy⟩ := O3 (g.below hbw)
  have G := iC.mk g; have HFR := iC.mk hfr; have HMX := iC.mk hX; have HMY := iC.mk hY; have OX := iC.mk okX; have OY := iC.mk okY; have HB0 := iC.mk hbw; have HL := iC.mk hl
  clear g hfr hX hY okX okY hbw hl
  go_enter Tryd.func6, Tryd.ntmps6
  obtain ⟨xz0, xz1, xz2, xz3, xz4, xz5, xz6, xz7, xz8, xz9, xy0, xy1, xy2, xy3, xy4, xy5, xy6, xy7, xy8, xy9⟩ := ten (HXB.out)
  go_wp2_with fail
  go_at_call 15
  (with_reducible refine hheavy.mono ?_)
  clear xz0 xz1 xz2 xz3 xz4 xz5 xz6 xz7 xz8 xz9 xy0 xy1 xy2 xy3 xy4 xy5 xy6 xy7 xy8 xy9
  clear hheavy
  rintro e w1 ⟨rfl, hb1⟩
  have HB1 := iC.mk (iI HB0.out hb1)
  have HX1 := iC.mk (iL hb1 HXB.out)
  clear hb1 HB0 HXB
  by_cases hv : v > 3000
  · go_wp2_with fail
    go_at_call 25
    refine (zN _).mono ?_
    rintro e wk ⟨rfl, hbk⟩
    go_wp2
    go_ret
    exact ⟨rfl, iI HB1.out hbk⟩
  go_wp2_with fail
  go_at_call 25
  refine (zN _).mono ?_
  rintro e w2 ⟨rfl, hb2⟩
  have HB2 := iC.mk (iI HB1.out hb2)
  have HX2 := iC.mk (iL hb2 HX1.out)
  clear hb2 HB1 HX1
  obtain ⟨xz0, xz1, xz2, xz3, xz4, xz5, xz6, xz7, xz8, xz9, xy0, xy1, xy2, xy3, xy4, xy5, xy6, xy7, xy8, xy9⟩ := ten (HX2.out)
  have hcall := X0 kind r X HMX.out A3 a3 A4 a4 A6 a6 A9 a9 w2
  go_wp2_with fail
  go_at_call 26
  refine hcall.mono ?_
  clear xz0 xz1 xz2 xz3 xz4 xz5 xz6 xz7 xz8 xz9 xy0 xy1 xy2 xy3 xy4 xy5 xy6 xy7 xy8 xy9
  clear hcall
  rintro e w3 ⟨rfl, hb3⟩
  have hbm : Below w3.heap.size w3 (w3.alloc (.cells #[.int .u8 X.f0, .int .u32 X.f1, .int .u32 X.f2, .slice A3 X.f3.length a3, .slice A4 X.f4.length a4, .int .i64 X.f5, .int .i64 X.f6, .slice A9 X.f7.length a9] 51)) := iF (Below.refl _ _) _
  have hbb := hb3.trans (hbm.mono hb3.size)
  have HB3 := iC.mk (iI HB2.out hbb)
  have HX3 := iC.mk (iL hbb HX2.out)
  have HP3 := iC.mk (show (w3.alloc (.cells #[.int .u8 X.f0, .int .u32 X.f1, .int .u32 X.f2, .slice A3 X.f3.length a3, .slice A4 X.f4.length a4, .int .i64 X.f5, .int .i64 X.f6, .slice A9 X.f7.length a9] 51)).heap[w3.heap.size]? = some (.cells #[.int .u8 X.f0, .int .u32 X.f1, .int .u32 X.f2, .slice A3 X.f3.length a3, .slice A4 X.f4.length a4, .int .i64 X.f5, .int .i64 X.f6, .slice A9 X.f7.length a9] 51 (0, 0)) from iV rfl)
  have hsx := fun (_ : True) => run_storeAt_new (P := Tryd.prog) w3 51 #[.int .u8 0, .int .u32 0, .int .u32 0, .slice none 0 0, .slice none 0 0, .int .i64 0, .int .i64 0, .slice none 0 0] #[.int .u8 X.f0, .int .u32 X.f1, .int .u32 X.f2, .slice A3 X.f3.length a3, .slice A4 X.f4.length a4, .int .i64 X.f5, .int .i64 X.f6, .slice A9 X.f7.length a9] (by kernel_rfl) rfl (by simp [Value.oneCell'])
  clear hbm hbb hb3 HB2 HX2
  obtain ⟨xz0, xz1, xz2, xz3, xz4, xz5, xz6, xz7, xz8, xz9, xy0, xy1, xy2, xy3, xy4, xy5, xy6, xy7, xy8, xy9⟩ := ten (HX3.out)
  have hcall := RY kind nodes hk r A3 a3 A4 a4 A6 a6 A9 a9 _ (G.out.below HB3.out) HFR.out
  rw [HMY.out] at hcall
  go_wp2_with fail
  go_at_call 27
  refine hcall.mono ?_
  clear xz0 xz1 xz2 xz3 xz4 xz5 xz6 xz7 xz8 xz9 xy0 xy1 xy2 xy3 xy4 xy5 xy6 xy7 xy8 xy9
  clear hcall hsx
  rintro e w4 ⟨D3, d3, D4, d4, D9, d9, rfl, ly, hb4⟩
  have hbm : Below w4.heap.size w4 (w4.alloc (.cells #[.int .u8 Y.f0, .int .u32 Y.f1, .int .u32 Y.f2, .slice D3 Y.f3.length d3, .slice D4 Y.f4.length d4, .int .i64 Y.f5, .int .i64 Y.f6, .slice D9 Y.f7.length d9] 51)) := iF (Below.refl _ _) _
  have hbb := hb4.trans (hbm.mono hb4.size)
  have HB4 := iC.mk (iI HB3.out hbb)
  have LX4 := iC.mk (HL.out _ (G.out.below HB4.out))
  have LY4 := iC.mk (ly.below hbm)
  have HP4 := iC.mk (iL hbb HP3.out)
  have HQ4 := iC.mk (show (w4.alloc (.cells #[.int .u8 Y.f0, .int .u32 Y.f1, .int .u32 Y.f2, .slice D3 Y.f3.length d3, .slice D4 Y.f4.length d4, .int .i64 Y.f5, .int .i64 Y.f6, .slice D9 Y.f7.length d9] 51)).heap[w4.heap.size]? = some (.cells #[.int .u8 Y.f0, .int .u32 Y.f1, .int .u32 Y.f2, .slice D3 Y.f3.length d3, .slice D4 Y.f4.length d4, .int .i64 Y.f5, .int .i64 Y.f6, .slice D9 Y.f7.length d9] 51 (0, 0)) from iV rfl)
  have hsx := fun (_ : True) => run_storeAt_new (P := Tryd.prog) w4 51 #[.int .u8 0, .int .u32 0, .int .u32 0, .slice none 0 0, .slice none 0 0, .int .i64 0, .int .i64 0, .slice none 0 0] #[.int .u8 Y.f0, .int .u32 Y.f1, .int .u32 Y.f2, .slice D3 Y.f3.length d3, .slice D4 Y.f4.length d4, .int .i64 Y.f5, .int .i64 Y.f6, .slice D9 Y.f7.length d9] (by kernel_rfl) rfl (by simp [Value.oneCell'])
  clear ly hbm hbb hb4 HB3 HX3 HP3 G HFR HMX HMY HL
  have hyr := OY.out.kind
  obtain ⟨⟨E1, E2⟩, hE⟩ : ∃ E : List Int × Int, encM X = E := ⟨_, rfl⟩
  obtain ⟨⟨F1, F2⟩, hF⟩ : ∃ E : List Int × Int, encM Y = E := ⟨_, rfl⟩
  have HE := iC.mk hE
  have HF := iC.mk hF
  obtain ⟨hE0, hE1⟩ := N8 hE
  obtain ⟨hF0, hF1⟩ := N8 hF
  obtain ⟨S, hS⟩ : ∃ S, lT X = S := ⟨_, rfl⟩
  have hsx1 := fun w h => rE X A3 a3 A4 a4 A9 a9 w h
  have hsx2 := fun w h => yD X A3 a3 A4 a4 A9 a9 w h
  have hsy := fun w h => rE Y D3 d3 D4 d4 D9 d9 w h
  rw [hS] at hsx1 hsx2
  rw [OY.out.sound] at hsy
  have HS1 := iC.mk hsx1
  have HS2 := iC.mk hsx2
  have HSY := iC.mk hsy
  have HY0 := iC.mk (show 0 ≤ Y.f0 ∧ Y.f0 < 256 from ⟨by omega, by omega⟩)
  clear hE hF hS hsx1 hsx2 hsy hyr
  have hcall := pX X A3 a3 A4 a4 A9 a9 _ LX4.out OX.out HE.out
  obtain ⟨mz0, mz1, mz2, mz3, mz4, mz5, mz6, mz7, my0, my1, my2, my3, my4, my5, my6, my7⟩ := eight (HP4.out)
  go_wp2_with fail
  go_at_call 28
  refine hcall.mono ?_
  rintro e w5 ⟨va, rfl, hra, hb5⟩
  clear hcall hsx mz0 mz1 mz2 mz3 mz4 mz5 mz6 mz7 my0 my1 my2 my3 my4 my5 my6 my7
  obtain ⟨Aa, ca, rfl⟩ := Kd.R_slice hra
  have HB5 := iC.mk (iI HB4.out hb5)
  have LX5 := iC.mk (LX4.out.below hb5); have LY5 := iC.mk (LY4.out.below hb5); have HP5 := iC.mk (iL hb5 HP4.out); have HQ5 := iC.mk (iL hb5 HQ4.out); have HRA5 := iC.mk hra
  clear hra hb5 HB4 LX4 LY4 HP4 HQ4
  have hcall := vU X A3 a3 A4 a4 A9 a9 _ LX5.out HE.out
  obtain ⟨mz0, mz1, mz2, mz3, mz4, mz5, mz6, mz7, my0, my1, my2, my3, my4, my5, my6, my7⟩ := eight (HP5.out)
  go_wp2_with fail
  go_at_call 29
  refine hcall.mono ?_
  rintro e w6 ⟨vb, rfl, hrb, hb6⟩
  dsimp only at hrb ⊢
  clear hcall mz0 mz1 mz2 mz3 mz4 mz5 mz6 mz7 my0 my1 my2 my3 my4 my5 my6 my7
  obtain ⟨Ab, cb, rfl⟩ := Kd.R_slice hrb
  have HB6 := iC.mk (iI HB5.out hb6)
  have LX6 := iC.mk (LX5.out.below hb6); have LY6 := iC.mk (LY5.out.below hb6); have HP6 := iC.mk (iL hb6 HP5.out); have HQ6 := iC.mk (iL hb6 HQ5.out); have HRA6 := iC.mk (Kd.R_below HRA5.out hb6); have HRB6 := iC.mk hrb
  clear hrb hb6 HB5 LX5 LY5 HP5 HQ5 HRA5
  have hcall := pX Y D3 d3 D4 d4 D9 d9 _ LY6.out HY0.out HF.out
  obtain ⟨mz0, mz1, mz2, mz3, mz4, mz5, mz6, mz7, my0, my1, my2, my3, my4, my5, my6, my7⟩ := eight (HQ6.out)
  go_wp2_with fail
  go_at_call 28
  refine hcall.mono ?_
  rintro e w7 ⟨vc, rfl, hrc, hb7⟩
  clear hcall mz0 mz1 mz2 mz3 mz4 mz5 mz6 mz7 my0 my1 my2 my3 my4 my5 my6 my7
  obtain ⟨Ac, cc, rfl⟩ := Kd.R_slice hrc
  have HB7 := iC.mk (iI HB6.out hb7)
  have LX7 := iC.mk (LX6.out.below hb7); have LY7 := iC.mk (LY6.out.below hb7); have HP7 := iC.mk (iL hb7 HP6.out); have HQ7 := iC.mk (iL hb7 HQ6.out); have HRA7 := iC.mk (Kd.R_below HRA6.out hb7); have HRB7 := iC.mk (Kd.R_below HRB6.out hb7); have HRC7 := iC.mk hrc
  clear hrc hb7 HB6 LX6 LY6 HP6 HQ6 HRA6 HRB6
  have hcall := vU Y D3 d3 D4 d4 D9 d9 _ LY7.out HF.out
  obtain ⟨mz0, mz1, mz2, mz3, mz4, mz5, mz6, mz7, my0, my1, my2, my3, my4, my5, my6, my7⟩ := eight (HQ7.out)
  go_wp2_with fail
  go_at_call 29
  refine hcall.mono ?_
  rintro e w8 ⟨vd, rfl, hrd, hb8⟩
  dsimp only at hrd ⊢
  clear hcall mz0 mz1 mz2 mz3 mz4 mz5 mz6 mz7 my0 my1 my2 my3 my4 my5 my6 my7
  obtain ⟨Ad, cd, rfl⟩ := Kd.R_slice hrd
  have HB8 := iC.mk (iI HB7.out hb8)
  have LX8 := iC.mk (LX7.out.below hb8); have LY8 := iC.mk (LY7.out.below hb8); have HP8 := iC.mk (iL hb8 HP7.out); have HQ8 := iC.mk (iL hb8 HQ7.out); have HRA8 := iC.mk (Kd.R_below HRA7.out hb8); have HRB8 := iC.mk (Kd.R_below HRB7.out hb8); have HRC8 := iC.mk (Kd.R_below HRC7.out hb8); have HRD8 := iC.mk hrd
  clear hrd hb8 HB7 LX7 LY7 HP7 HQ7 HRA7 HRB7 HRC7
  go_wp2_with fail
  refine VN [52, 53, 54, 55, 56, 57, 58, 59, 60, 61, 62, 63, 64, 65, 66, 67, 68, 69, 70, 71, 72, 73, 74, 75, 76, 77, 78, 79, 80, 81, 82, 83, 84, 85, 86, 6] [fun v _ => v = (.agg #[.int .u8 X.f0, .int .u32 X.f1, .int .u32 X.f2, .slice A3 X.f3.length a3, .slice A4 X.f4.length a4, .int .i64 X.f5, .int .i64 X.f6, .slice A9 X.f7.length a9]), fun v _ => v = (.bool S), fun v _ => v = (.agg #[.int .u8 X.f0, .int .u32 X.f1, .int .u32 X.f2, .slice A3 X.f3.length a3, .slice A4 X.f4.length a4, .int .i64 X.f5, .int .i64 X.f6, .slice A9 X.f7.length a9]), fun v _ => v = (.bool S), fun v _ => v = (.bool true), fun v _ => v = (.bool true), fun v _ => v = (.agg #[.int .u8 Y.f0, .int .u32 Y.f1, .int .u32 Y.f2, .slice D3 Y.f3.length d3, .slice D4 Y.f4.length d4, .int .i64 Y.f5, .int .i64 Y.f6, .slice D9 Y.f7.length d9]), fun v _ => v = (.bool true), fun v _ => v = (.bool true), fun v _ => v = (.bool true), fun v _ => v = (.slice Aa E1.length ca), fun v _ => v = (.string (strOfNums E1)), fun v _ => v = (.slice Ab E1.length cb), fun v _ => v = (.string (strOfNums E1)), fun v _ => v = (.bool true), fun v _ => v = (.bool true), fun v _ => v = (.bool true), fun v _ => v = (.int .u16 E2), fun v _ => v = (.int .i64 E2), fun v _ => v = (.int .i64 E2), fun v _ => v = (.bool true), fun v _ => v = (.bool true), fun v _ => v = (.bool true), fun v _ => v = (.slice Ac F1.length cc), fun v _ => v = (.string (strOfNums F1)), fun v _ => v = (.slice Ad F1.length cd), fun v _ => v = (.string (strOfNums F1)), fun v _ => v = (.bool true), fun v _ => v = (.bool true), fun v _ => v = (.bool true), fun v _ => v = (.int .u16 F2), fun v _ => v = (.int .i64 F2), fun v _ => v = (.int .i64 F2), fun v _ => v = (.bool true), fun v _ => v = (.bool true), fun v _ => v = (.bool true)] [0, 1, 2, 3, 4, 5, 6, 7, 8, 9, 10, 11, 12, 13, 14, 15, 16, 17, 18, 19, 20, 21, 22, 23, 24, 25, 26, 27, 28, 29, 30, 31, 32, 33, 34, 35] (true, [([], []), ([0], [0]), ([], []), ([2, 1], [2]), ([1, 3], [1, 3]), ([4, 3], [4]), ([5], [5]), ([6, 5, 5], [5, 6]), ([5, 7], [5, 7]), ([8, 7], [8]), ([9], [9]), ([10, 9], [9, 10]), ([9], [9]), ([12, 9], [9, 12]), ([11, 13, 9], [9, 11, 13]), ([9, 14], [9, 14]), ([15, 9], [15]), ([16], [16]), ([17, 16], [16, 17]), ([16], [16]), ([18, 19, 16], [16, 18, 19]), ([16, 20], [16, 20]), ([21, 16], [21]), ([22], [22]), ([23, 22], [22, 23]), ([22], [22]), ([25, 22], [22, 25]), ([24, 26, 22], [22, 24, 26]), ([22, 27], [22, 27]), ([28, 22], [28]), ([29], [29]), ([30, 29], [29, 30]), ([29], [29]), ([31, 32, 29], [29, 31, 32]), ([29, 33], [29, 33]), ([34, 29, 0, 1, 2, 3, 4, 5, 6, 7, 8, 9, 10, 11, 12, 13, 14, 15, 16, 17, 18, 19, 20, 21, 22, 23, 24, 25, 26, 27, 28, 29, 30, 31, 32, 33, 34], [34])]) [0, 1, 0, 7, 15, 31, 63, 127, 255, 511, 1023, 2047, 1023, 5119, 16383, 32767, 65535, 131071, 262143, 131071, 1048575, 2097151, 4194303, 8388607, 16777215, 8388607, 41943039, 134217727, 268435455, 536870911, 1073741823, 2147483647, 1073741823, 8589934591, 17179869183, 34359738367] (by kernel_rfl) (by kernel_rfl) (by kernel_rfl) (by kernel_rfl) (by kernel_rfl) (by kernel_rfl) (by kernel_rfl) (by rfl) (by kernel_rfl) ?_ ?_ ?_
  · exact (jQ (lK _) (jQ (lK _) (jQ (lK _) (jQ (lK _) (jQ (lK _) (jQ (lK _) (jQ (lK _) (jQ (lK _) (jQ (lK _) (jQ (lK _) (jQ (lK _) (jQ (lK _) (jQ (lK _) (jQ (lK _) (jQ (lK _) (jQ (lK _) (jQ (lK _) (jQ (lK _) (jQ (lK _) (jQ (lK _) (jQ (lK _) (jQ (lK _) (jQ (lK _) (jQ (lK _) (jQ (lK _) (jQ (lK _) (jQ (lK _) (jQ (lK _) (jQ (lK _) (jQ (lK _) (jQ (lK _) (jQ (lK _) (jQ (lK _) (jQ (lK _) (jQ (lK _) (jQ (lK _) VE))))))))))))))))))))))))))))))))))))
  · refine jF ?_ ?_
    · intro a w' vs hB hel hd
      have e7 : a.tmps[7]? = some (.pointer (some ⟨w3.heap.size, 0, none⟩)) := (hel 7 (by kernel_rfl)).trans (by rfl)
      obtain ⟨mz0, mz1, mz2, mz3, mz4, mz5, mz6, mz7, my0, my1, my2, my3, my4, my5, my6, my7⟩ := eight (iL hB HP8.out)
      refine ⟨_, rfl, rfl, fun K hK => ?_⟩
      refine jT (w1 := w') (v := .agg #[.int .u8 X.f0, .int .u32 X.f1, .int .u32 X.f2, .slice A3 X.f3.length a3, .slice A4 X.f4.length a4, .int .i64 X.f5, .int .i64 X.f6, .slice A9 X.f7.length a9]) (by rfl) rfl ?_ (hK _ _ (by exact rfl) (Below.refl _ _))
      · go_simp
        (try simp only [iY, jL])
        (try rfl)
        (try (unfold Go.RowKit.wrap64; omega))
    refine jF ?_ ?_
    · intro a w' vs hB hel hd
      obtain ⟨f52, r52⟩ := hd 0 (by kernel_rfl)
      have e52 : a.tmps[52]? = some (.agg #[.int .u8 X.f0, .int .u32 X.f1, .int .u32 X.f2, .slice A3 X.f3.length a3, .slice A4 X.f4.length a4, .int .i64 X.f5, .int .i64 X.f6, .slice A9 X.f7.length a9]) := f52.trans (congrArg some (r52 : vs 0 = (.agg #[.int .u8 X.f0, .int .u32 X.f1, .int .u32 X.f2, .slice A3 X.f3.length a3, .slice A4 X.f4.length a4, .int .i64 X.f5, .int .i64 X.f6, .slice A9 X.f7.length a9])))
      refine ⟨_, rfl, rfl, fun K hK => ?_⟩
      refine xJ Tryd.func30 (by kernel_rfl) rfl #[.agg #[.int .u8 X.f0, .int .u32 X.f1, .int .u32 X.f2, .slice A3 X.f3.length a3, .slice A4 X.f4.length a4, .int .i64 X.f5, .int .i64 X.f6, .slice A9 X.f7.length a9]] (by rfl) rfl rfl (by first | (simp only [List.map_toArray, List.map_cons, List.map_nil, Act.eval, Array.getD_eq_getD_getElem?, Option.getD_some, e52]; done) | (simp only [List.map_toArray, List.map_cons, List.map_nil, Act.eval, Array.getD_eq_getD_getElem?, Option.getD_some, e52]; rfl)) ?_
      refine (HS1.out _ (LX8.out.below hB)).mono ?_
      rintro e_ w2_ ⟨rfl, hb2_⟩
      exact ⟨_, rfl, hK _ _ (by exact rfl) hb2_⟩
    refine jF ?_ ?_
    · intro a w' vs hB hel hd
      have e7 : a.tmps[7]? = some (.pointer (some ⟨w3.heap.size, 0, none⟩)) := (hel 7 (by kernel_rfl)).trans (by rfl)
      obtain ⟨mz0, mz1, mz2, mz3, mz4, mz5, mz6, mz7, my0, my1, my2, my3, my4, my5, my6, my7⟩ := eight (iL hB HP8.out)
      refine ⟨_, rfl, rfl, fun K hK => ?_⟩
      refine jT (w1 := w') (v := .agg #[.int .u8 X.f0, .int .u32 X.f1, .int .u32 X.f2, .slice A3 X.f3.length a3, .slice A4 X.f4.length a4, .int .i64 X.f5, .int .i64 X.f6, .slice A9 X.f7.length a9]) (by rfl) rfl ?_ (hK _ _ (by exact rfl) (Below.refl _ _))
      · go_simp
        (try simp only [iY, jL])
        (try rfl)
        (try (unfold Go.RowKit.wrap64; omega))
    refine jF ?_ ?_
    · intro a w' vs hB hel hd
      obtain ⟨f54, r54⟩ := hd 2 (by kernel_rfl)
      have e54 : a.tmps[54]? = some (.agg #[.int .u8 X.f0, .int .u32 X.f1, .int .u32 X.f2, .slice A3 X.f3.length a3, .slice A4 X.f4.length a4, .int .i64 X.f5, .int .i64 X.f6, .slice A9 X.f7.length a9]) := f54.trans (congrArg some (r54 : vs 2 = (.agg #[.int .u8 X.f0, .int .u32 X.f1, .int .u32 X.f2, .slice A3 X.f3.length a3, .slice A4 X.f4.length a4, .int .i64 X.f5, .int .i64 X.f6, .slice A9 X.f7.length a9])))
      refine ⟨_, rfl, rfl, fun K hK => ?_⟩
      refine xJ Tryd.func31 (by kernel_rfl) rfl #[.agg #[.int .u8 X.f0, .int .u32 X.f1, .int .u32 X.f2, .slice A3 X.f3.length a3, .slice A4 X.f4.length a4, .int .i64 X.f5, .int .i64 X.f6, .slice A9 X.f7.length a9]] (by rfl) rfl rfl (by first | (simp only [List.map_toArray, List.map_cons, List.map_nil, Act.eval, Array.getD_eq_getD_getElem?, Option.getD_some, e54]; done) | (simp only [List.map_toArray, List.map_cons, List.map_nil, Act.eval, Array.getD_eq_getD_getElem?, Option.getD_some, e54]; rfl)) ?_
      refine (HS2.out _ (LX8.out.below hB)).mono ?_
      rintro e_ w2_ ⟨rfl, hb2_⟩
      exact ⟨_, rfl, hK _ _ (by exact rfl) hb2_⟩
    refine jF ?_ ?_
    · intro a w' vs hB hel hd
      obtain ⟨f53, r53⟩ := hd 1 (by kernel_rfl)
      have e53 : a.tmps[53]? = some (.bool S) := f53.trans (congrArg some (r53 : vs 1 = (.bool S)))
      obtain ⟨f55, r55⟩ := hd 3 (by kernel_rfl)
      have e55 : a.tmps[55]? = some (.bool S) := f55.trans (congrArg some (r55 : vs 3 = (.bool S)))
      refine ⟨_, rfl, rfl, fun K hK => ?_⟩
      refine jT (w1 := w') (v := .bool true) (by rfl) rfl ?_ (hK _ _ (by exact rfl) (Below.refl _ _))
      · go_simp
        (try simp only [iY, jL])
        (try rfl)
        (try (unfold Go.RowKit.wrap64; omega))
    refine jF ?_ ?_
    · intro a w' vs hB hel hd
      obtain ⟨f56, r56⟩ := hd 4 (by kernel_rfl)
      have e56 : a.tmps[56]? = some (.bool true) := f56.trans (congrArg some (r56 : vs 4 = (.bool true)))
      refine ⟨_, rfl, rfl, fun K hK => ?_⟩
      refine jT (w1 := w') (v := .bool true) (by rfl) rfl ?_ (hK _ _ (by exact rfl) (Below.refl _ _))
      · go_simp
        (try simp only [iY, jL])
        (try rfl)
        (try (unfold Go.RowKit.wrap64; omega))
    refine jF ?_ ?_
    · intro a w' vs hB hel hd
      have e8 : a.tmps[8]? = some (.pointer (some ⟨w4.heap.size, 0, none⟩)) := (hel 8 (by kernel_rfl)).trans (by rfl)
      obtain ⟨f57, r57⟩ := hd 5 (by kernel_rfl)
      have e57 : a.tmps[57]? = some (.bool true) := f57.trans (congrArg some (r57 : vs 5 = (.bool true)))
      obtain ⟨mz0, mz1, mz2, mz3, mz4, mz5, mz6, mz7, my0, my1, my2, my3, my4, my5, my6, my7⟩ := eight (iL hB HQ8.out)
      refine ⟨_, rfl, rfl, fun K hK => ?_⟩
      refine jT (w1 := w') (v := .agg #[.int .u8 Y.f0, .int .u32 Y.f1, .int .u32 Y.f2, .slice D3 Y.f3.length d3, .slice D4 Y.f4.length d4, .int .i64 Y.f5, .int .i64 Y.f6, .slice D9 Y.f7.length d9]) (kF rfl rfl rfl e57) rfl ?_ (hK _ _ (by exact rfl) (Below.refl _ _))
      · go_simp
        (try simp only [iY, jL])
        (try rfl)
        (try (unfold Go.RowKit.wrap64; omega))
    refine jF ?_ ?_
    · intro a w' vs hB hel hd
      obtain ⟨f58, r58⟩ := hd 6 (by kernel_rfl)
      have e58 : a.tmps[58]? = some (.agg #[.int .u8 Y.f0, .int .u32 Y.f1, .int .u32 Y.f2, .slice D3 Y.f3.length d3, .slice D4 Y.f4.length d4, .int .i64 Y.f5, .int .i64 Y.f6, .slice D9 Y.f7.length d9]) := f58.trans (congrArg some (r58 : vs 6 = (.agg #[.int .u8 Y.f0, .int .u32 Y.f1, .int .u32 Y.f2, .slice D3 Y.f3.length d3, .slice D4 Y.f4.length d4, .int .i64 Y.f5, .int .i64 Y.f6, .slice D9 Y.f7.length d9])))
      obtain ⟨f57, r57⟩ := hd 5 (by kernel_rfl)
      have e57 : a.tmps[57]? = some (.bool true) := f57.trans (congrArg some (r57 : vs 5 = (.bool true)))
      refine ⟨_, rfl, rfl, fun K hK => ?_⟩
      refine xJ Tryd.func30 (by kernel_rfl) rfl #[.agg #[.int .u8 Y.f0, .int .u32 Y.f1, .int .u32 Y.f2, .slice D3 Y.f3.length d3, .slice D4 Y.f4.length d4, .int .i64 Y.f5, .int .i64 Y.f6, .slice D9 Y.f7.length d9]] (kF rfl rfl rfl e57) rfl rfl (by first | (simp only [List.map_toArray, List.map_cons, List.map_nil, Act.eval, Array.getD_eq_getD_getElem?, Option.getD_some, e58, e57]; done) | (simp only [List.map_toArray, List.map_cons, List.map_nil, Act.eval, Array.getD_eq_getD_getElem?, Option.getD_some, e58, e57]; rfl)) ?_
      refine (HSY.out _ (LY8.out.below hB)).mono ?_
      rintro e_ w2_ ⟨rfl, hb2_⟩
      exact ⟨_, rfl, hK _ _ (by exact rfl) hb2_⟩
    refine jF ?_ ?_
    · intro a w' vs hB hel hd
      obtain ⟨f57, r57⟩ := hd 5 (by kernel_rfl)
      have e57 : a.tmps[57]? = some (.bool true) := f57.trans (congrArg some (r57 : vs 5 = (.bool true)))
      obtain ⟨f59, r59⟩ := hd 7 (by kernel_rfl)
      have e59 : a.tmps[59]? = some (.bool true) := f59.trans (congrArg some (r59 : vs 7 = (.bool true)))
      refine ⟨_, rfl, rfl, fun K hK => ?_⟩
      refine jT (w1 := w') (v := .bool true) (by rfl) rfl ?_ (hK _ _ (by exact rfl) (Below.refl _ _))
      · go_simp
        (try simp only [iY, jL])
        (try rfl)
        (try (unfold Go.RowKit.wrap64; omega))
    refine jF ?_ ?_
    · intro a w' vs hB hel hd
      obtain ⟨f60, r60⟩ := hd 8 (by kernel_rfl)
      have e60 : a.tmps[60]? = some (.bool true) := f60.trans (congrArg some (r60 : vs 8 = (.bool true)))
      refine ⟨_, rfl, rfl, fun K hK => ?_⟩
      refine jT (w1 := w') (v := .bool true) (by rfl) rfl ?_ (hK _ _ (by exact rfl) (Below.refl _ _))
      · go_simp
        (try simp only [iY, jL])
        (try rfl)
        (try (unfold Go.RowKit.wrap64; omega))
    refine jF ?_ ?_
    · intro a w' vs hB hel hd
      have e9 : a.tmps[9]? = some (.slice Aa E1.length ca) := (hel 9 (by kernel_rfl)).trans (by rfl)
      obtain ⟨f61, r61⟩ := hd 9 (by kernel_rfl)
      have e61 : a.tmps[61]? = some (.bool true) := f61.trans (congrArg some (r61 : vs 9 = (.bool true)))
      refine ⟨_, rfl, rfl, fun K hK => ?_⟩
      refine jT (w1 := w') (v := .slice Aa E1.length ca) (kF rfl rfl rfl e61) rfl ?_ (hK _ _ (by exact rfl) (Below.refl _ _))
      · go_simp
        (try simp only [iY, jL])
        (try rfl)
        (try (unfold Go.RowKit.wrap64; omega))
    refine jF ?_ ?_
    · intro a w' vs hB hel hd
      obtain ⟨f62, r62⟩ := hd 10 (by kernel_rfl)
      have e62 : a.tmps[62]? = some (.slice Aa E1.length ca) := f62.trans (congrArg some (r62 : vs 10 = (.slice Aa E1.length ca)))
      obtain ⟨f61, r61⟩ := hd 9 (by kernel_rfl)
      have e61 : a.tmps[61]? = some (.bool true) := f61.trans (congrArg some (r61 : vs 9 = (.bool true)))
      have q1 := uM (Kd.R_below HRA8.out hB)
      refine ⟨_, rfl, rfl, fun K hK => ?_⟩
      refine jT (w1 := w') (v := .string (strOfNums E1)) (kF rfl rfl rfl e61) rfl ?_ (hK _ _ (by exact rfl) (Below.refl _ _))
      · go_simp
        (try simp only [iY, jL])
        (try rfl)
        (try (unfold Go.RowKit.wrap64; omega))
    refine jF ?_ ?_
    · intro a w' vs hB hel hd
      have e11 : a.tmps[11]? = some (.slice Ab E1.length cb) := (hel 11 (by kernel_rfl)).trans (by rfl)
      obtain ⟨f61, r61⟩ := hd 9 (by kernel_rfl)
      have e61 : a.tmps[61]? = some (.bool true) := f61.trans (congrArg some (r61 : vs 9 = (.bool true)))
      refine ⟨_, rfl, rfl, fun K hK => ?_⟩
      refine jT (w1 := w') (v := .slice Ab E1.length cb) (kF rfl rfl rfl e61) rfl ?_ (hK _ _ (by exact rfl) (Below.refl _ _))
      · go_simp
        (try simp only [iY, jL])
        (try rfl)
        (try (unfold Go.RowKit.wrap64; omega))
    refine jF ?_ ?_
    · intro a w' vs hB hel hd
      obtain ⟨f64, r64⟩ := hd 12 (by kernel_rfl)
      have e64 : a.tmps[64]? = some (.slice Ab E1.length cb) := f64.trans (congrArg some (r64 : vs 12 = (.slice Ab E1.length cb)))
      obtain ⟨f61, r61⟩ := hd 9 (by kernel_rfl)
      have e61 : a.tmps[61]? = some (.bool true) := f61.trans (congrArg some (r61 : vs 9 = (.bool true)))
      have q1 := uM (Kd.R_below HRB8.out hB)
      refine ⟨_, rfl, rfl, fun K hK => ?_⟩
      refine jT (w1 := w') (v := .string (strOfNums E1)) (kF rfl rfl rfl e61) rfl ?_ (hK _ _ (by exact rfl) (Below.refl _ _))
      · go_simp
        (try simp only [iY, jL])
        (try rfl)
        (try (unfold Go.RowKit.wrap64; omega))
    refine jF ?_ ?_
    · intro a w' vs hB hel hd
      obtain ⟨f63, r63⟩ := hd 11 (by kernel_rfl)
      have e63 : a.tmps[63]? = some (.string (strOfNums E1)) := f63.trans (congrArg some (r63 : vs 11 = (.string (strOfNums E1))))
      obtain ⟨f65, r65⟩ := hd 13 (by kernel_rfl)
      have e65 : a.tmps[65]? = some (.string (strOfNums E1)) := f65.trans (congrArg some (r65 : vs 13 = (.string (strOfNums E1))))
      obtain ⟨f61, r61⟩ := hd 9 (by kernel_rfl)
      have e61 : a.tmps[61]? = some (.bool true) := f61.trans (congrArg some (r61 : vs 9 = (.bool true)))
      refine ⟨_, rfl, rfl, fun K hK => ?_⟩
      refine jT (w1 := w') (v := .bool true) (kF rfl rfl rfl e61) rfl ?_ (hK _ _ (by exact rfl) (Below.refl _ _))
      · go_simp
        (try simp only [iY, jL])
        (try rfl)
        (try (unfold Go.RowKit.wrap64; omega))
    refine jF ?_ ?_
    · intro a w' vs hB hel hd
      obtain ⟨f61, r61⟩ := hd 9 (by kernel_rfl)
      have e61 : a.tmps[61]? = some (.bool true) := f61.trans (congrArg some (r61 : vs 9 = (.bool true)))
      obtain ⟨f66, r66⟩ := hd 14 (by kernel_rfl)
      have e66 : a.tmps[66]? = some (.bool true) := f66.trans (congrArg some (r66 : vs 14 = (.bool true)))
      refine ⟨_, rfl, rfl, fun K hK => ?_⟩
      refine jT (w1 := w') (v := .bool true) (by rfl) rfl ?_ (hK _ _ (by exact rfl) (Below.refl _ _))
      · go_simp
        (try simp only [iY, jL])
        (try rfl)
        (try (unfold Go.RowKit.wrap64; omega))
    refine jF ?_ ?_
    · intro a w' vs hB hel hd
      obtain ⟨f67, r67⟩ := hd 15 (by kernel_rfl)
      have e67 : a.tmps[67]? = some (.bool true) := f67.trans (congrArg some (r67 : vs 15 = (.bool true)))
      refine ⟨_, rfl, rfl, fun K hK => ?_⟩
      refine jT (w1 := w') (v := .bool true) (by rfl) rfl ?_ (hK _ _ (by exact rfl) (Below.refl _ _))
      · go_simp
        (try simp only [iY, jL])
        (try rfl)
        (try (unfold Go.RowKit.wrap64; omega))
    refine jF ?_ ?_
    · intro a w' vs hB hel hd
      have e10 : a.tmps[10]? = some (.int .u16 E2) := (hel 10 (by kernel_rfl)).trans (by rfl)
      obtain ⟨f68, r68⟩ := hd 16 (by kernel_rfl)
      have e68 : a.tmps[68]? = some (.bool true) := f68.trans (congrArg some (r68 : vs 16 = (.bool true)))
      refine ⟨_, rfl, rfl, fun K hK => ?_⟩
      refine jT (w1 := w') (v := .int .u16 E2) (kF rfl rfl rfl e68) rfl ?_ (hK _ _ (by exact rfl) (Below.refl _ _))
      · go_simp
        (try simp only [iY, jL])
        (try rfl)
        (try (unfold Go.RowKit.wrap64; omega))
    refine jF ?_ ?_
    · intro a w' vs hB hel hd
      obtain ⟨f69, r69⟩ := hd 17 (by kernel_rfl)
      have e69 : a.tmps[69]? = some (.int .u16 E2) := f69.trans (congrArg some (r69 : vs 17 = (.int .u16 E2)))
      obtain ⟨f68, r68⟩ := hd 16 (by kernel_rfl)
      have e68 : a.tmps[68]? = some (.bool true) := f68.trans (congrArg some (r68 : vs 16 = (.bool true)))
      refine ⟨_, rfl, rfl, fun K hK => ?_⟩
      refine jT (w1 := w') (v := .int .i64 E2) (kF rfl rfl rfl e68) rfl ?_ (hK _ _ (by exact rfl) (Below.refl _ _))
      · go_simp
        (try simp only [iY, jL])
        (try rfl)
        (try (unfold Go.RowKit.wrap64; omega))
    refine jF ?_ ?_
    · intro a w' vs hB hel hd
      have e12 : a.tmps[12]? = some (.int .i64 E2) := (hel 12 (by kernel_rfl)).trans (by rfl)
      obtain ⟨f68, r68⟩ := hd 16 (by kernel_rfl)
      have e68 : a.tmps[68]? = some (.bool true) := f68.trans (congrArg some (r68 : vs 16 = (.bool true)))
      refine ⟨_, rfl, rfl, fun K hK => ?_⟩
      refine jT (w1 := w') (v := .int .i64 E2) (kF rfl rfl rfl e68) rfl ?_ (hK _ _ (by exact rfl) (Below.refl _ _))
      · go_simp
        (try simp only [iY, jL])
        (try rfl)
        (try (unfold Go.RowKit.wrap64; omega))
    refine jF ?_ ?_
    · intro a w' vs hB hel hd
      obtain ⟨f70, r70⟩ := hd 18 (by kernel_rfl)
      have e70 : a.tmps[70]? = some (.int .i64 E2) := f70.trans (congrArg some (r70 : vs 18 = (.int .i64 E2)))
      obtain ⟨f71, r71⟩ := hd 19 (by kernel_rfl)
      have e71 : a.tmps[71]? = some (.int .i64 E2) := f71.trans (congrArg some (r71 : vs 19 = (.int .i64 E2)))
      obtain ⟨f68, r68⟩ := hd 16 (by kernel_rfl)
      have e68 : a.tmps[68]? = some (.bool true) := f68.trans (congrArg some (r68 : vs 16 = (.bool true)))
      refine ⟨_, rfl, rfl, fun K hK => ?_⟩
      refine jT (w1 := w') (v := .bool true) (kF rfl rfl rfl e68) rfl ?_ (hK _ _ (by exact rfl) (Below.refl _ _))
      · go_simp
        (try simp only [iY, jL])
        (try rfl)
        (try (unfold Go.RowKit.wrap64; omega))
    refine jF ?_ ?_
    · intro a w' vs hB hel hd
      obtain ⟨f68, r68⟩ := hd 16 (by kernel_rfl)
      have e68 : a.tmps[68]? = some (.bool true) := f68.trans (congrArg some (r68 : vs 16 = (.bool true)))
      obtain ⟨f72, r72⟩ := hd 20 (by kernel_rfl)
      have e72 : a.tmps[72]? = some (.bool true) := f72.trans (congrArg some (r72 : vs 20 = (.bool true)))
      refine ⟨_, rfl, rfl, fun K hK => ?_⟩
      refine jT (w1 := w') (v := .bool true) (by rfl) rfl ?_ (hK _ _ (by exact rfl) (Below.refl _ _))
      · go_simp
        (try simp only [iY, jL])
        (try rfl)
        (try (unfold Go.RowKit.wrap64; omega))
    refine jF ?_ ?_
    · intro a w' vs hB hel hd
      obtain ⟨f73, r73⟩ := hd 21 (by kernel_rfl)
      have e73 : a.tmps[73]? = some (.bool true) := f73.trans (congrArg some (r73 : vs 21 = (.bool true)))
      refine ⟨_, rfl, rfl, fun K hK => ?_⟩
      refine jT (w1 := w') (v := .bool true) (by rfl) rfl ?_ (hK _ _ (by exact rfl) (Below.refl _ _))
      · go_simp
        (try simp only [iY, jL])
        (try rfl)
        (try (unfold Go.RowKit.wrap64; omega))
    refine jF ?_ ?_
    · intro a w' vs hB hel hd
      have e13 : a.tmps[13]? = some (.slice Ac F1.length cc) := (hel 13 (by kernel_rfl)).trans (by rfl)
      obtain ⟨f74, r74⟩ := hd 22 (by kernel_rfl)
      have e74 : a.tmps[74]? = some (.bool true) := f74.trans (congrArg some (r74 : vs 22 = (.bool true)))
      refine ⟨_, rfl, rfl, fun K hK => ?_⟩
      refine jT (w1 := w') (v := .slice Ac F1.length cc) (kF rfl rfl rfl e74) rfl ?_ (hK _ _ (by exact rfl) (Below.refl _ _))
      · go_simp
        (try simp only [iY, jL])
        (try rfl)
        (try (unfold Go.RowKit.wrap64; omega))
    refine jF ?_ ?_
    · intro a w' vs hB hel hd
      obtain ⟨f75, r75⟩ := hd 23 (by kernel_rfl)
      have e75 : a.tmps[75]? = some (.slice Ac F1.length cc) := f75.trans (congrArg some (r75 : vs 23 = (.slice Ac F1.length cc)))
      obtain ⟨f74, r74⟩ := hd 22 (by kernel_rfl)
      have e74 : a.tmps[74]? = some (.bool true) := f74.trans (congrArg some (r74 : vs 22 = (.bool true)))
      have q1 := uM (Kd.R_below HRC8.out hB)
      refine ⟨_, rfl, rfl, fun K hK => ?_⟩
      refine jT (w1 := w') (v := .string (strOfNums F1)) (kF rfl rfl rfl e74) rfl ?_ (hK _ _ (by exact rfl) (Below.refl _ _))
      · go_simp
        (try simp only [iY, jL])
        (try rfl)
        (try (unfold Go.RowKit.wrap64; omega))
    refine jF ?_ ?_
    · intro a w' vs hB hel hd
      have e15 : a.tmps[15]? = some (.slice Ad F1.length cd) := (hel 15 (by kernel_rfl)).trans (by rfl)
      obtain ⟨f74, r74⟩ := hd 22 (by kernel_rfl)
      have e74 : a.tmps[74]? = some (.bool true) := f74.trans (congrArg some (r74 : vs 22 = (.bool true)))
      refine ⟨_, rfl, rfl, fun K hK => ?_⟩
      refine jT (w1 := w') (v := .slice Ad F1.length cd) (kF rfl rfl rfl e74) rfl ?_ (hK _ _ (by exact rfl) (Below.refl _ _))
      · go_simp
        (try simp only [iY, jL])
        (try rfl)
        (try (unfold Go.RowKit.wrap64; omega))
    refine jF ?_ ?_
    · intro a w' vs hB hel hd
      obtain ⟨f77, r77⟩ := hd 25 (by kernel_rfl)
      have e77 : a.tmps[77]? = some (.slice Ad F1.length cd) := f77.trans (congrArg some (r77 : vs 25 = (.slice Ad F1.length cd)))
      obtain ⟨f74, r74⟩ := hd 22 (by kernel_rfl)
      have e74 : a.tmps[74]? = some (.bool true) := f74.trans (congrArg some (r74 : vs 22 = (.bool true)))
      have q1 := uM (Kd.R_below HRD8.out hB)
      refine ⟨_, rfl, rfl, fun K hK => ?_⟩
      refine jT (w1 := w') (v := .string (strOfNums F1)) (kF rfl rfl rfl e74) rfl ?_ (hK _ _ (by exact rfl) (Below.refl _ _))
      · go_simp
        (try simp only [iY, jL])
        (try rfl)
        (try (unfold Go.RowKit.wrap64; omega))
    refine jF ?_ ?_
    · intro a w' vs hB hel hd
      obtain ⟨f76, r76⟩ := hd 24 (by kernel_rfl)
      have e76 : a.tmps[76]? = some (.string (strOfNums F1)) := f76.trans (congrArg some (r76 : vs 24 = (.string (strOfNums F1))))
      obtain ⟨f78, r78⟩ := hd 26 (by kernel_rfl)
      have e78 : a.tmps[78]? = some (.string (strOfNums F1)) := f78.trans (congrArg some (r78 : vs 26 = (.string (strOfNums F1))))
      obtain ⟨f74, r74⟩ := hd 22 (by kernel_rfl)
      have e74 : a.tmps[74]? = some (.bool true) := f74.trans (congrArg some (r74 : vs 22 = (.bool true)))
      refine ⟨_, rfl, rfl, fun K hK => ?_⟩
      refine jT (w1 := w') (v := .bool true) (kF rfl rfl rfl e74) rfl ?_ (hK _ _ (by exact rfl) (Below.refl _ _))
      · go_simp
        (try simp only [iY, jL])
        (try rfl)
        (try (unfold Go.RowKit.wrap64; omega))
    refine jF ?_ ?_
    · intro a w' vs hB hel hd
      obtain ⟨f74, r74⟩ := hd 22 (by kernel_rfl)
      have e74 : a.tmps[74]? = some (.bool true) := f74.trans (congrArg some (r74 : vs 22 = (.bool true)))
      obtain ⟨f79, r79⟩ := hd 27 (by kernel_rfl)
      have e79 : a.tmps[79]? = some (.bool true) := f79.trans (congrArg some (r79 : vs 27 = (.bool true)))
      refine ⟨_, rfl, rfl, fun K hK => ?_⟩
      refine jT (w1 := w') (v := .bool true) (by rfl) rfl ?_ (hK _ _ (by exact rfl) (Below.refl _ _))
      · go_simp
        (try simp only [iY, jL])
        (try rfl)
        (try (unfold Go.RowKit.wrap64; omega))
    refine jF ?_ ?_
    · intro a w' vs hB hel hd
      obtain ⟨f80, r80⟩ := hd 28 (by kernel_rfl)
      have e80 : a.tmps[80]? = some (.bool true) := f80.trans (congrArg some (r80 : vs 28 = (.bool true)))
      refine ⟨_, rfl, rfl, fun K hK => ?_⟩
      refine jT (w1 := w') (v := .bool true) (by rfl) rfl ?_ (hK _ _ (by exact rfl) (Below.refl _ _))
      · go_simp
        (try simp only [iY, jL])
        (try rfl)
        (try (unfold Go.RowKit.wrap64; omega))
    refine jF ?_ ?_
    · intro a w' vs hB hel hd
      have e14 : a.tmps[14]? = some (.int .u16 F2) := (hel 14 (by kernel_rfl)).trans (by rfl)
      obtain ⟨f81, r81⟩ := hd 29 (by kernel_rfl)
      have e81 : a.tmps[81]? = some (.bool true) := f81.trans (congrArg some (r81 : vs 29 = (.bool true)))
      refine ⟨_, rfl, rfl, fun K hK => ?_⟩
      refine jT (w1 := w') (v := .int .u16 F2) (kF rfl rfl rfl e81) rfl ?_ (hK _ _ (by exact rfl) (Below.refl _ _))
      · go_simp
        (try simp only [iY, jL])
        (try rfl)
        (try (unfold Go.RowKit.wrap64; omega))
    refine jF ?_ ?_
    · intro a w' vs hB hel hd
      obtain ⟨f82, r82⟩ := hd 30 (by kernel_rfl)
      have e82 : a.tmps[82]? = some (.int .u16 F2) := f82.trans (congrArg some (r82 : vs 30 = (.int .u16 F2)))
      obtain ⟨f81, r81⟩ := hd 29 (by kernel_rfl)
      have e81 : a.tmps[81]? = some (.bool true) := f81.trans (congrArg some (r81 : vs 29 = (.bool true)))
      refine ⟨_, rfl, rfl, fun K hK => ?_⟩
      refine jT (w1 := w') (v := .int .i64 F2) (kF rfl rfl rfl e81) rfl ?_ (hK _ _ (by exact rfl) (Below.refl _ _))
      · go_simp
        (try simp only [iY, jL])
        (try rfl)
        (try (unfold Go.RowKit.wrap64; omega))
    refine jF ?_ ?_
    · intro a w' vs hB hel hd
      have e16 : a.tmps[16]? = some (.int .i64 F2) := (hel 16 (by kernel_rfl)).trans (by rfl)
      obtain ⟨f81, r81⟩ := hd 29 (by kernel_rfl)
      have e81 : a.tmps[81]? = some (.bool true) := f81.trans (congrArg some (r81 : vs 29 = (.bool true)))
      refine ⟨_, rfl, rfl, fun K hK => ?_⟩
      refine jT (w1 := w') (v := .int .i64 F2) (kF rfl rfl rfl e81) rfl ?_ (hK _ _ (by exact rfl) (Below.refl _ _))
      · go_simp
        (try simp only [iY, jL])
        (try rfl)
        (try (unfold Go.RowKit.wrap64; omega))
    refine jF ?_ ?_
    · intro a w' vs hB hel hd
      obtain ⟨f83, r83⟩ := hd 31 (by kernel_rfl)
      have e83 : a.tmps[83]? = some (.int .i64 F2) := f83.trans (congrArg some (r83 : vs 31 = (.int .i64 F2)))
      obtain ⟨f84, r84⟩ := hd 32 (by kernel_rfl)
      have e84 : a.tmps[84]? = some (.int .i64 F2) := f84.trans (congrArg some (r84 : vs 32 = (.int .i64 F2)))
      obtain ⟨f81, r81⟩ := hd 29 (by kernel_rfl)
      have e81 : a.tmps[81]? = some (.bool true) := f81.trans (congrArg some (r81 : vs 29 = (.bool true)))
      refine ⟨_, rfl, rfl, fun K hK => ?_⟩
      refine jT (w1 := w') (v := .bool true) (kF rfl rfl rfl e81) rfl ?_ (hK _ _ (by exact rfl) (Below.refl _ _))
      · go_simp
        (try simp only [iY, jL])
        (try rfl)
        (try (unfold Go.RowKit.wrap64; omega))
    refine jF ?_ ?_
    · intro a w' vs hB hel hd
      obtain ⟨f81, r81⟩ := hd 29 (by kernel_rfl)
      have e81 : a.tmps[81]? = some (.bool true) := f81.trans (congrArg some (r81 : vs 29 = (.bool true)))
      obtain ⟨f85, r85⟩ := hd 33 (by kernel_rfl)
      have e85 : a.tmps[85]? = some (.bool true) := f85.trans (congrArg some (r85 : vs 33 = (.bool true)))
      refine ⟨_, rfl, rfl, fun K hK => ?_⟩
      refine jT (w1 := w') (v := .bool true) (by rfl) rfl ?_ (hK _ _ (by exact rfl) (Below.refl _ _))
      · go_simp
        (try simp only [iY, jL])
        (try rfl)
        (try (unfold Go.RowKit.wrap64; omega))
    refine jF ?_ ?_
    · intro a w' vs hB hel hd
      obtain ⟨f86, r86⟩ := hd 34 (by kernel_rfl)
      have e86 : a.tmps[86]? = some (.bool true) := f86.trans (congrArg some (r86 : vs 34 = (.bool true)))
      refine ⟨_, rfl, rfl, fun K hK => ?_⟩
      refine jT (w1 := w') (v := .bool true) (by rfl) rfl ?_ (hK _ _ (by exact rfl) (Below.refl _ _))
      · go_simp
        (try simp only [iY, jL])
        (try rfl)
        (try (unfold Go.RowKit.wrap64; omega))
    exact OE
  · intro vs w' hB hR
    have hv0_ : vs 0 = (.agg #[.int .u8 X.f0, .int .u32 X.f1, .int .u32 X.f2, .slice A3 X.f3.length a3, .slice A4 X.f4.length a4, .int .i64 X.f5, .int .i64 X.f6, .slice A9 X.f7.length a9]) := hR 0 (by kernel_rfl)
    have hv1_ : vs 1 = (.bool S) := hR 1 (by kernel_rfl)
    have hv2_ : vs 2 = (.agg #[.int .u8 X.f0, .int .u32 X.f1, .int .u32 X.f2, .slice A3 X.f3.length a3, .slice A4 X.f4.length a4, .int .i64 X.f5, .int .i64 X.f6, .slice A9 X.f7.length a9]) := hR 2 (by kernel_rfl)
    have hv3_ : vs 3 = (.bool S) := hR 3 (by kernel_rfl)
    have hv4_ : vs 4 = (.bool true) := hR 4 (by kernel_rfl)
    have hv5_ : vs 5 = (.bool true) := hR 5 (by kernel_rfl)
    have hv6_ : vs 6 = (.agg #[.int .u8 Y.f0, .int .u32 Y.f1, .int .u32 Y.f2, .slice D3 Y.f3.length d3, .slice D4 Y.f4.length d4, .int .i64 Y.f5, .int .i64 Y.f6, .slice D9 Y.f7.length d9]) := hR 6 (by kernel_rfl)
    have hv7_ : vs 7 = (.bool true) := hR 7 (by kernel_rfl)
    have hv8_ : vs 8 = (.bool true) := hR 8 (by kernel_rfl)
    have hv9_ : vs 9 = (.bool true) := hR 9 (by kernel_rfl)
    have hv10_ : vs 10 = (.slice Aa E1.length ca) := hR 10 (by kernel_rfl)
    have hv11_ : vs 11 = (.string (strOfNums E1)) := hR 11 (by kernel_rfl)
    have hv12_ : vs 12 = (.slice Ab E1.length cb) := hR 12 (by kernel_rfl)
    have hv13_ : vs 13 = (.string (strOfNums E1)) := hR 13 (by kernel_rfl)
    have hv14_ : vs 14 = (.bool true) := hR 14 (by kernel_rfl)
    have hv15_ : vs 15 = (.bool true) := hR 15 (by kernel_rfl)
    have hv16_ : vs 16 = (.bool true) := hR 16 (by kernel_rfl)
    have hv17_ : vs 17 = (.int .u16 E2) := hR 17 (by kernel_rfl)
    have hv18_ : vs 18 = (.int .i64 E2) := hR 18 (by kernel_rfl)
    have hv19_ : vs 19 = (.int .i64 E2) := hR 19 (by kernel_rfl)
    have hv20_ : vs 20 = (.bool true) := hR 20 (by kernel_rfl)
    have hv21_ : vs 21 = (.bool true) := hR 21 (by kernel_rfl)
    have hv22_ : vs 22 = (.bool true) := hR 22 (by kernel_rfl)
    have hv23_ : vs 23 = (.slice Ac F1.length cc) := hR 23 (by kernel_rfl)
    have hv24_ : vs 24 = (.string (strOfNums F1)) := hR 24 (by kernel_rfl)
    have hv25_ : vs 25 = (.slice Ad F1.length cd) := hR 25 (by kernel_rfl)
    have hv26_ : vs 26 = (.string (strOfNums F1)) := hR 26 (by kernel_rfl)
    have hv27_ : vs 27 = (.bool true) := hR 27 (by kernel_rfl)
    have hv28_ : vs 28 = (.bool true) := hR 28 (by kernel_rfl)
    have hv29_ : vs 29 = (.bool true) := hR 29 (by kernel_rfl)
    have hv30_ : vs 30 = (.int .u16 F2) := hR 30 (by kernel_rfl)
    have hv31_ : vs 31 = (.int .i64 F2) := hR 31 (by kernel_rfl)
    have hv32_ : vs 32 = (.int .i64 F2) := hR 32 (by kernel_rfl)
    have hv33_ : vs 33 = (.bool true) := hR 33 (by kernel_rfl)
    have hv34_ : vs 34 = (.bool true) := hR 34 (by kernel_rfl)
    have hv35_ : vs 35 = (.bool true) := hR 35 (by kernel_rfl)
    rw [show entries [52, 53, 54, 55, 56, 57, 58, 59, 60, 61, 62, 63, 64, 65, 66, 67, 68, 69, 70, 71, 72, 73, 74, 75, 76, 77, 78, 79, 80, 81, 82, 83, 84, 85, 86, 6] vs = [(0, 52, vs 0), (1, 53, vs 1), (2, 54, vs 2), (3, 55, vs 3), (4, 56, vs 4), (5, 57, vs 5), (6, 58, vs 6), (7, 59, vs 7), (8, 60, vs 8), (9, 61, vs 9), (10, 62, vs 10), (11, 63, vs 11), (12, 64, vs 12), (13, 65, vs 13), (14, 66, vs 14), (15, 67, vs 15), (16, 68, vs 16), (17, 69, vs 17), (18, 70, vs 18), (19, 71, vs 19), (20, 72, vs 20), (21, 73, vs 21), (22, 74, vs 22), (23, 75, vs 23), (24, 76, vs 24), (25, 77, vs 25), (26, 78, vs 26), (27, 79, vs 27), (28, 80, vs 28), (29, 81, vs 29), (30, 82, vs 30), (31, 83, vs 31), (32, 84, vs 32), (33, 85, vs 33), (34, 86, vs 34), (35, 6, vs 35)] from rfl]
    simp only [jZ, if_true, Act.put, List.setIfInBounds_toArray, List.set_cons_zero, List.set_cons_succ, hv0_, hv1_, hv2_, hv3_, hv4_, hv5_, hv6_, hv7_, hv8_, hv9_, hv10_, hv11_, hv12_, hv13_, hv14_, hv15_, hv16_, hv17_, hv18_, hv19_, hv20_, hv21_, hv22_, hv23_, hv24_, hv25_, hv26_, hv27_, hv28_, hv29_, hv30_, hv31_, hv32_, hv33_, hv34_, hv35_]
    clear hR hv0_ hv1_ hv2_ hv3_ hv4_ hv5_ hv6_ hv7_ hv8_ hv9_ hv10_ hv11_ hv12_ hv13_ hv14_ hv15_ hv16_ hv17_ hv18_ hv19_ hv20_ hv21_ hv22_ hv23_ hv24_ hv25_ hv26_ hv27_ hv28_ hv29_ hv30_ hv31_ hv32_ hv33_ hv34_ hv35_
    go_wp2
    go_ret
    exact ⟨rfl, iI HB8.out hB⟩
theorem msgEncodes_walk (kind : Int) (r : SRec) (cs : Array Value) (nodes : Int) (W : World) (hk : 0 ≤ kind ∧ kind < 256) (hr : XF W r cs.toList) (wr : RecW r) (_ : 0 ≤ nodes ∧ nodes < 256) :
    Calls Tryd.prog 6 #[.int .u8 kind, .agg cs, .int .u8 nodes] W fun e w' => e = .returned (.bool true) ∧ Below W.heap.size W w' := by
  obtain ⟨A3, a3, A4, a4, A6, a6, A9, a9, e, h3, d3, h4, d4, h6, d6, h9, d9⟩ := hr
  have e : cs = #[.int .u8 r.f0, .int .u32 r.f1, .int .u32 r.f2, .slice A3 r.f3.length a3, .slice A4 r.f4.length a4, .int .u32 r.f5.f0, .slice A6 r.f5.f1.length a6, .int .i64 r.f6, .int .i64 r.f7, .slice A9 r.f8.length a9] := by cases cs with | mk l => exact congrArg Array.mk e
  subst e
  exact yO kind nodes hk r A3 a3 A4 a4 A6 a6 A9 a9 W ⟨h3, d3, h4, d4, h6, d6, h9, d9⟩ (fun e he => ((oK h3 h4 h6 h9).f9 e he).1) _ _ rfl rfl hk (WM kind hk r wr nodes) (fun _ g => ⟨g.h3, g.d3, g.h4, g.d4, g.h9, g.d9⟩)
end Go.Proofs.YtgfkgppomaapiaaDoor.K
end
