/- Parts of the proof, one behind the other: TwB, TwC, OnK, OnB. -/
import Derived.Test.YtjppookmjdaplaaQCoordOnce6
import Derived.Deep.MidRow
set_option linter.unusedVariables false
set_option linter.unusedSimpArgs false
section
namespace Go.Proofs.Ytjppookmjdaplaa.K
open Go Go.RowKit Go.Maps Go.Proofs.YtjppookmjdaplaaW.PrintWords Go.Proofs.YtjppookmjdaplaaW.PrintLast Go.Proofs.YtjppookmjdaplaaW.PrintMore Go.Proofs.Ytjppookmjdaplaa.My
abbrev recV (k id t : Int) (A : Option Addr) (n q : Nat) (e : Int) (A6 : Option Addr) (n6 q6 : Nat) : Array Value := #[.int .u8 k, .int .u32 id, .int .u32 t, .slice A n q, .slice none 0 0, .int .u32 e, .slice A6 n6 q6, .int .i64 0, .int .i64 0, .slice none 0 0]
/-- A record that rec makes. -/
def RecO (w : World) (B : Nat) (v : Value) : Prop := ∃ (k id t : Int) (A : Option Addr) (q : Nat) (l : List Int) (e : Int) (A6 : Option Addr) (q6 : Nat) (sp : List TSp), v = .agg (recV k id t A l.length q e A6 sp.length q6) ∧ (k = 2 ∨ k = 4 ∨ k = 5 ∨ k = 6) ∧ (0 ≤ id ∧ id < 4294967296) ∧ (0 ≤ t ∧ t < 4294967296) ∧ (0 ≤ e ∧ e < 4294967296) ∧ Rt l ∧ sp.length ≤ 1000 ∧
  ki.R 3 w B (fun _ => True) (.slice A l.length q) l ∧ kS.R 96 w B (fun _ => True) (.slice A6 sp.length q6) sp
theorem JS (w : World) (B : Nat) {k id t : Int} (hk : k = 2 ∨ k = 4 ∨ k = 5 ∨ k = 6) (hid : 0 ≤ id ∧ id < 4294967296) (ht : 0 ≤ t ∧ t < 4294967296) : RecO w B (.agg (recV k id t none 0 0 0 none 0 0)) :=
  ⟨k, id, t, none, 0, [], 0, none, 0, [], rfl, hk, hid, ht, by omega, JH, by simp, Kd.R_nil _ _ _ _ _, Kd.R_nil _ _ _ _ _⟩
theorem RecO.grown {w w' : World} {B g : Nat} {v : Value} {cs : Array Value} (h : RecO w B v) (hx : w.heap[g]? = some (.cells cs 48 (0, 0))) (hg : w.grownBy w' (some g)) : RecO w' B v := by
  obtain ⟨k, id, t, A, q, l, e, A6, q6, sp, h0, h1, h2, h3, h4, h5, h6, h7, h8⟩ := h
  have hne : ∀ {j : Nat} {q : TypeId} {ds : Array Value}, w.heap[j]? = some (.cells ds q (0, 0)) → q ≠ 48 → j ≠ g := fun hj hq e => by subst e; rw [hx] at hj; cases hj; exact hq rfl
  exact ⟨k, id, t, A, q, l, e, A6, q6, sp, h0, h1, h2, h3, h4, h5, h6, kZ h7 (fun j q ds hq hj => jL hg hj (hne hj (by (obtain rfl : q = 3 := (by simpa [show ki.E = [] from rfl] using hq)); decide))), kZ h8 (fun j q ds hq hj => jL hg hj (hne hj (by (obtain rfl : q = 96 := (by simpa [show kS.E = [] from rfl] using hq)); decide)))⟩
theorem rC (x : Int) : 0 ≤ IntKind.u32.wrap x ∧ IntKind.u32.wrap x < 4294967296 := ⟨Int.emod_nonneg _ (by decide), Int.emod_lt_of_pos _ (by decide)⟩
attribute [-go_sem] Instr.build
attribute [local go_sem] bu_2 bu_4 MR
set_option maxRecDepth 20000 in
set_option maxHeartbeats 8000000 in
theorem MF {w : World} {B tp c rc n : Nat} {s : CS} {ids : List Int} (h : Tw w B tp c rc n s ids) (hok : s.Ok) (kd oid nd on : Nat) (at_ id : Int) (hk : kd < 256) (hnd : nd < 256) (hat : 0 ≤ at_ ∧ at_ < 4294967296) (hid : 0 ≤ id ∧ id < 4294967296)
    {Am : Option Addr} {mm : List TCu} {km : Nat} (hm : ∀ W', Below w.heap.size w W' → k91.C W' Am mm.length mm) (hmk : mm.length ≤ km) (hmo : ∀ x ∈ mm, yT x) {vr : Value} :
    Calls Try.prog 62 #[.pointer (some ⟨tp, 0, none⟩), .agg #[.int .u8 (kd : Int), .int .u8 (oid : Int), .int .u32 at_, .int .u8 (nd : Int), .int .u8 (on : Int), .slice Am mm.length km, vr], .int .u32 id] w fun e w' => ∃ v, e = .returned v ∧ RecO w' w.heap.size v ∧ Below w.heap.size w w' := by
  have HH := iC.mk h
  have HID := iC.mk hid
  have HM := iC.mk hm
  have HMO := iC.mk hmo
  have HAT := iC.mk hat
  have HO := iC.mk hok
  obtain ⟨N, hN⟩ : ∃ N, mm.length = N := ⟨_, rfl⟩
  have HN := iC.mk hN
  rw [hN] at hmk ⊢
  clear h hok hid hm hmo hat hN
  go_enter Try.func62, Try.ntmps62
  go_upto_region 2 with fail
  obtain ⟨W3, hW3⟩ : ∃ W3, W3 = (((w.alloc (.cells #[.int .u8 (kd : Int), .int .u8 (oid : Int), .int .u32 at_, .int .u8 (nd : Int), .int .u8 (on : Int), .slice Am N km, vr] 69)).alloc (.cells #[.int .u8 0, .int .u32 0, .int .u32 0, .slice none 0 0, .slice none 0 0, .int .u32 0, .slice none 0 0, .int .i64 0, .int .i64 0, .slice none 0 0] 48)).alloc (.cells #[.int .u8 4, .int .u32 id, .int .u32 0, .slice none 0 0, .slice none 0 0, .int .u32 0, .slice none 0 0, .int .i64 0, .int .i64 0, .slice none 0 0] 48)) := ⟨_, rfl⟩
  have hb3 : Below w.heap.size w W3 := by rw [hW3]; exact iF (iF (iF (Below.refl _ _) _) _) _
  have hO3 : W3.heap[w.heap.size]? = some (.cells #[.int .u8 (kd : Int), .int .u8 (oid : Int), .int .u32 at_, .int .u8 (nd : Int), .int .u8 (on : Int), .slice Am N km, vr] 69 (0, 0)) := by rw [hW3]; exact iV (iF (Below.refl _ _) _) (iV (iF (Below.refl _ _) _) (jD rfl))
  have hx3 : W3.heap[w.heap.size + 1]? = some (.cells #[.int .u8 0, .int .u32 0, .int .u32 0, .slice none 0 0, .slice none 0 0, .int .u32 0, .slice none 0 0, .int .i64 0, .int .i64 0, .slice none 0 0] 48 (0, 0)) := by rw [hW3]; exact iV (iF (Below.refl _ _) _) (jD (by simp))
  have hy3 : W3.heap[w.heap.size + 1 + 1]? = some (.cells #[.int .u8 4, .int .u32 id, .int .u32 0, .slice none 0 0, .slice none 0 0, .int .u32 0, .slice none 0 0, .int .i64 0, .int .i64 0, .slice none 0 0] 48 (0, 0)) := by rw [hW3]; exact jD (by simp)
  rw [← hW3]
  have HO3 := iC.mk hO3
  have HX := iC.mk hx3
  have HY := iC.mk hy3
  have HBW := iC.mk hb3
  have HT3 := iC.mk (HH.out.below hb3)
  have o0 := (iD hO3 0).trans (show _ = some (Value.int .u8 (kd : Int)) from rfl)
  have o2 := (iD hO3 2).trans (show _ = some (Value.int .u32 at_) from rfl)
  obtain ⟨d, hd⟩ : ∃ d : Nat, (kd : Int) % 12 = (d : Int) := ⟨kd % 12, by omega⟩
  have hd12 : d < 12 := by omega
  clear hW3 hb3 hO3 hx3 hy3
  by_cases h6 : d = 6 ∨ d = 7
  · have g6 : ((d : Int) == 6 || (d : Int) == 7) = true := by rcases h6 with h | h <;> simp [h]
    have hno := pF (nd : Int) W3.drew (by omega)
    have hrt := uD (nd : Int)
    obtain ⟨ns, hns⟩ : ∃ ns, ns = nP (nd : Int) := ⟨_, rfl⟩
    rw [← hns] at hno hrt
    obtain ⟨M9, hM9⟩ : ∃ M9, ns.length = M9 := ⟨_, rfl⟩
    have HM9 := iC.mk hM9
    have HRT := iC.mk hrt
    rw [hM9] at hno
    obtain ⟨Ai, ki', t0, _⟩ := HT3.out.blk
    have u1 := (iD t0 1).trans (show _ = some (Value.pointer (some ⟨rc, 0, none⟩)) from rfl)
    obtain ⟨A0, q0, A0', k0', g0, _, _⟩ := HT3.out.ro.blk
    have c1 := (iD g0 1).trans (show _ = some (Value.int .u32 s.last) from rfl)
    have o3 := (iD HO3.out 3).trans (show _ = some (Value.int .u8 (nd : Int)) from rfl)
    have y0 := (iD HY.out 0).trans (show _ = some (Value.int .u8 4) from rfl)
    have y1 := (iD HY.out 1).trans (show _ = some (Value.int .u32 id) from rfl)
    have y2 := (iD HY.out 2).trans (show _ = some (Value.int .u32 0) from rfl)
    have y3 := (iD HY.out 3).trans (show _ = some (Value.slice none 0 0) from rfl)
    have y4 := (iD HY.out 4).trans (show _ = some (Value.slice none 0 0) from rfl)
    have y5 := (iD HY.out 5).trans (show _ = some (Value.int .u32 0) from rfl)
    have y6 := (iD HY.out 6).trans (show _ = some (Value.slice none 0 0) from rfl)
    have y7 := (iD HY.out 7).trans (show _ = some (Value.int .i64 0) from rfl)
    have y8 := (iD HY.out 8).trans (show _ = some (Value.int .i64 0) from rfl)
    have y9 := (iD HY.out 9).trans (show _ = some (Value.slice none 0 0) from rfl)
    have f0 := iE HY.out 0
    have f1 := iE HY.out 1
    have f2 := iE HY.out 2
    have f3 := iE HY.out 3
    have f4 := iE HY.out 4
    have f5 := iE HY.out 5
    have f6 := iE HY.out 6
    have f7 := iE HY.out 7
    have f8 := iE HY.out 8
    have f9 := iE HY.out 9
    clear hns hM9 hrt t0 g0
    rcases h6 with h6 | h6
    · subst h6
      clear g6
      go_upto_region 5 with fail
      refine jQ (n := 17) (S := fun w' => w'.cell? ⟨tp, 1, none⟩ = some (.pointer (some ⟨rc, 0, none⟩)) ∧ w'.cell? ⟨rc, 1, none⟩ = some (.int .u32 s.last) ∧ w'.cell? ⟨w.heap.size, 2, none⟩ = some (.int .u32 at_) ∧ w'.cell? ⟨w.heap.size, 3, none⟩ = some (.int .u8 (nd : Int)) ∧ w'.cell? ⟨w.heap.size + 1 + 1, 0, none⟩ = some (.int .u8 4) ∧ w'.cell? ⟨w.heap.size + 1 + 1, 1, none⟩ = some (.int .u32 id) ∧ w'.cell? ⟨w.heap.size + 1 + 1, 2, none⟩ = some (.int .u32 0) ∧ w'.cell? ⟨w.heap.size + 1 + 1, 3, none⟩ = some (.slice none 0 0) ∧ w'.cell? ⟨w.heap.size + 1 + 1, 4, none⟩ = some (.slice none 0 0) ∧ w'.cell? ⟨w.heap.size + 1 + 1, 5, none⟩ = some (.int .u32 0) ∧ w'.cell? ⟨w.heap.size + 1 + 1, 6, none⟩ = some (.slice none 0 0) ∧ w'.cell? ⟨w.heap.size + 1 + 1, 7, none⟩ = some (.int .i64 0) ∧ w'.cell? ⟨w.heap.size + 1 + 1, 8, none⟩ = some (.int .i64 0) ∧ w'.cell? ⟨w.heap.size + 1 + 1, 9, none⟩ = some (.slice none 0 0) ∧ w'.frozen? ⟨w.heap.size + 1 + 1, 0, none⟩ = false ∧ w'.frozen? ⟨w.heap.size + 1 + 1, 1, none⟩ = false ∧ w'.frozen? ⟨w.heap.size + 1 + 1, 2, none⟩ = false ∧ w'.frozen? ⟨w.heap.size + 1 + 1, 3, none⟩ = false ∧ w'.frozen? ⟨w.heap.size + 1 + 1, 4, none⟩ = false ∧ w'.frozen? ⟨w.heap.size + 1 + 1, 5, none⟩ = false ∧ w'.frozen? ⟨w.heap.size + 1 + 1, 6, none⟩ = false ∧ w'.frozen? ⟨w.heap.size + 1 + 1, 7, none⟩ = false ∧ w'.frozen? ⟨w.heap.size + 1 + 1, 8, none⟩ = false ∧ w'.frozen? ⟨w.heap.size + 1 + 1, 9, none⟩ = false) (ds := [16]) #[false, false, false, false, false, false, false, false, false, false, false, false, false, false, false, false, false] (by kernel_rfl) rfl rfl ⟨u1, c1, o2, o3, y0, y1, y2, y3, y4, y5, y6, y7, y8, y9, f0, f1, f2, f3, f4, f5, f6, f7, f8, f9⟩ (fun hHeld => ?_)
      refine jE (T := (true, [([], []), ([], []), ([1], [1]), ([2], [2]), ([3], [3]), ([4], [4]), ([5], [5]), ([6], [6]), ([], []), ([8], [8]), ([9], [9]), ([7, 10], [7, 10]), ([], []), ([12], [12]), ([13], [13]), ([0, 11, 14], [0, 11, 14]), ([15, 14, 0, 1, 2, 3, 4, 5, 6, 7, 8, 9, 10, 11, 12, 13, 14, 15], [15])])) (B := [0, 0, 2, 6, 14, 30, 62, 126, 0, 256, 768, 2046, 0, 4096, 12288, 32767, 65535]) (by kernel_rfl) (by kernel_rfl) (fun HT_ HW_ => ?_)
      refine iM (i := 0) (N := some 16) (v := ?_) (a' := ?_) #[true, false, false, false, false, false, false, false, false, false, false, false, false, false, false, false, false] rfl rfl (iI HT_.out (by kernel_rfl)) (fun _ _ _ h => h) (Or.inl ⟨by rfl, ?_⟩) ?_ ?_
      rotate_left
      · intro w'
        go_simp
        with_reducible rfl
      rotate_left
      · simp only [Act.put, List.setIfInBounds_toArray, List.set_cons_zero, List.set_cons_succ, iJ, iK]
        rfl
      refine iM (i := 1) (N := some 17) (v := ?_) (a' := ?_) #[true, true, false, false, false, false, false, false, false, false, false, false, false, false, false, false, false] rfl rfl (iI HT_.out (by kernel_rfl)) (fun _ _ _ h => h) (Or.inl ⟨by rfl, ?_⟩) ?_ ?_
      rotate_left
      · intro w'
        go_simp
        with_reducible rfl
      rotate_left
      · simp only [Act.put, List.setIfInBounds_toArray, List.set_cons_zero, List.set_cons_succ, iJ, iK]
        rfl
      refine iM (i := 2) (N := some 18) (v := ?_) (a' := ?_) #[true, true, true, false, false, false, false, false, false, false, false, false, false, false, false, false, false] rfl rfl (iI HT_.out (by kernel_rfl)) (fun _ _ _ h => h) (Or.inl ⟨by rfl, ?_⟩) ?_ ?_
      rotate_left
      · intro w'
        go_simp
        with_reducible rfl
      rotate_left
      · simp only [Act.put, List.setIfInBounds_toArray, List.set_cons_zero, List.set_cons_succ, iJ, iK]
        rfl
      refine iM (i := 3) (N := some 19) (v := ?_) (a' := ?_) #[true, true, true, true, false, false, false, false, false, false, false, false, false, false, false, false, false] rfl rfl (iI HT_.out (by kernel_rfl)) (fun _ _ _ h => h) (Or.inl ⟨by rfl, ?_⟩) ?_ ?_
      rotate_left
      · intro w'
        go_simp
        with_reducible rfl
      rotate_left
      · simp only [Act.put, List.setIfInBounds_toArray, List.set_cons_zero, List.set_cons_succ, iJ, iK]
        rfl
      refine iM (i := 8) (N := some 24) (v := ?_) (a' := ?_) #[true, true, true, true, false, false, false, false, true, false, false, false, false, false, false, false, false] rfl rfl (iI HT_.out (by kernel_rfl)) (fun _ _ _ h => h) (Or.inl ⟨by rfl, ?_⟩) ?_ ?_
      rotate_left
      · intro w'
        go_simp
        with_reducible rfl
      rotate_left
      · simp only [Act.put, List.setIfInBounds_toArray, List.set_cons_zero, List.set_cons_succ, iJ, iK]
        rfl
      refine iM (i := 12) (N := some 28) (v := ?_) (a' := ?_) #[true, true, true, true, false, false, false, false, true, false, false, false, true, false, false, false, false] rfl rfl (iI HT_.out (by kernel_rfl)) (fun _ _ _ h => h) (Or.inl ⟨by rfl, ?_⟩) ?_ ?_
      rotate_left
      · intro w'
        go_simp
        with_reducible rfl
      rotate_left
      · simp only [Act.put, List.setIfInBounds_toArray, List.set_cons_zero, List.set_cons_succ, iJ, iK]
        rfl
      refine jH (i := 4) (N := some 20) (v := ?_) (a' := ?_) #[true, true, true, true, true, false, false, false, true, false, false, false, true, false, false, false, false] rfl rfl (iT HT_.out HW_.out (by kernel_rfl)) (fun _ _ _ h => h) (Or.inl ⟨by rfl, ?_⟩) hHeld ?_ ?_
      rotate_left
      · rintro w' ⟨s0, s1, s2, s3, s4, s5, s6, s7, s8, s9, s10, s11, s12, s13, s14, s15, s16, s17, s18, s19, s20, s21, s22, s23⟩
        go_simp
        with_reducible rfl
      rotate_left
      · simp only [Act.put, List.setIfInBounds_toArray, List.set_cons_zero, List.set_cons_succ, iJ, iK]
        rfl
      refine iM (i := 5) (N := some 21) (v := ?_) (a' := ?_) #[true, true, true, true, true, true, false, false, true, false, false, false, true, false, false, false, false] rfl rfl (iI HT_.out (by kernel_rfl)) (fun _ _ _ h => h) (Or.inl ⟨by rfl, ?_⟩) ?_ ?_
      rotate_left
      · intro w'
        go_simp
        with_reducible rfl
      rotate_left
      · simp only [Act.put, List.setIfInBounds_toArray, List.set_cons_zero, List.set_cons_succ, iJ, iK]
        rfl
      refine iM (i := 6) (N := some 22) (v := ?_) (a' := ?_) #[true, true, true, true, true, true, true, false, true, false, false, false, true, false, false, false, false] rfl rfl (iI HT_.out (by kernel_rfl)) (fun _ _ _ h => h) (Or.inl ⟨by rfl, ?_⟩) ?_ ?_
      rotate_left
      · intro w'
        go_simp
        with_reducible rfl
      rotate_left
      · simp only [Act.put, List.setIfInBounds_toArray, List.set_cons_zero, List.set_cons_succ, iJ, iK]
        rfl
      refine jH (i := 7) (N := some 23) (v := ?_) (a' := ?_) #[true, true, true, true, true, true, true, true, true, false, false, false, true, false, false, false, false] rfl rfl (iT HT_.out HW_.out (by kernel_rfl)) (fun _ _ _ h => h) (Or.inl ⟨by rfl, ?_⟩) hHeld ?_ ?_
      rotate_left
      · rintro w' ⟨s0, s1, s2, s3, s4, s5, s6, s7, s8, s9, s10, s11, s12, s13, s14, s15, s16, s17, s18, s19, s20, s21, s22, s23⟩
        go_simp
        with_reducible rfl
      rotate_left
      · simp only [Act.put, List.setIfInBounds_toArray, List.set_cons_zero, List.set_cons_succ, iJ, iK]
        rfl
      refine jH (i := 9) (N := some 25) (v := ?_) (a' := ?_) #[true, true, true, true, true, true, true, true, true, true, false, false, true, false, false, false, false] rfl rfl (iT HT_.out HW_.out (by kernel_rfl)) (fun _ _ _ h => h) (Or.inl ⟨by rfl, ?_⟩) hHeld ?_ ?_
      rotate_left
      · rintro w' ⟨s0, s1, s2, s3, s4, s5, s6, s7, s8, s9, s10, s11, s12, s13, s14, s15, s16, s17, s18, s19, s20, s21, s22, s23⟩
        go_simp
        with_reducible rfl
      rotate_left
      · simp only [Act.put, List.setIfInBounds_toArray, List.set_cons_zero, List.set_cons_succ, iJ, iK]
        rfl
      refine iM (i := 10) (N := some 26) (v := ?_) (a' := ?_) #[true, true, true, true, true, true, true, true, true, true, true, false, true, false, false, false, false] rfl rfl (iI HT_.out (by kernel_rfl)) (fun _ _ _ h => h) (Or.inl ⟨by rfl, ?_⟩) ?_ ?_
      rotate_left
      · intro w'
        go_simp
        with_reducible rfl
      rotate_left
      · simp only [Act.put, List.setIfInBounds_toArray, List.set_cons_zero, List.set_cons_succ, iJ, iK]
        rfl
      refine iM (i := 11) (N := some 27) (v := ?_) (a' := ?_) #[true, true, true, true, true, true, true, true, true, true, true, true, true, false, false, false, false] rfl rfl (iI HT_.out (by kernel_rfl)) (fun _ _ _ h => h) (Or.inl ⟨by rfl, ?_⟩) ?_ ?_
      rotate_left
      · intro w'
        go_simp
        with_reducible rfl
      rotate_left
      · simp only [Act.put, List.setIfInBounds_toArray, List.set_cons_zero, List.set_cons_succ, iJ, iK]
        rfl
      refine jH (i := 13) (N := some 29) (v := ?_) (a' := ?_) #[true, true, true, true, true, true, true, true, true, true, true, true, true, true, false, false, false] rfl rfl (iT HT_.out HW_.out (by kernel_rfl)) (fun _ _ _ h => h) (Or.inl ⟨by rfl, ?_⟩) hHeld ?_ ?_
      rotate_left
      · rintro w' ⟨s0, s1, s2, s3, s4, s5, s6, s7, s8, s9, s10, s11, s12, s13, s14, s15, s16, s17, s18, s19, s20, s21, s22, s23⟩
        go_simp
        with_reducible rfl
      rotate_left
      · simp only [Act.put, List.setIfInBounds_toArray, List.set_cons_zero, List.set_cons_succ, iJ, iK]
        rfl
      refine one_ (i := 14) (N := some 30) #[true, true, true, true, true, true, true, true, true, true, true, true, true, true, true, false, false] rfl rfl (jK HT_.out (by kernel_rfl)) (by decide) (fun K hK => ?_)
      refine l7 Try.func11 (by kernel_rfl) rfl #[.int .u8 (nd : Int)] (by rfl) rfl rfl (by simp only [List.map_toArray, List.map_cons, List.map_nil]; rfl) ?_
      with_reducible refine (hno).mono ?_
      rintro e w2 ⟨A9, q9, rfl, hR9, hb9⟩
      refine ⟨_, rfl, ?_⟩
      have HB2 := iC.mk (show Below W3.heap.size W3 w2 from iQ (iP (Below.refl _ _)) hb9)
      have HR2 := iC.mk (Kd.R_lower hR9 (HBW.out.size))
      have HY2 := iC.mk (iV HB2.out HY.out)
      have HX2 := iC.mk (iV HB2.out HX.out)
      clear hR9 hb9 hno
      refine hK.out _ _ ⟨(jI HB2.out u1), (jI HB2.out c1), (jI HB2.out o2), (jI HB2.out o3), (jI HB2.out y0), (jI HB2.out y1), (jI HB2.out y2), (jI HB2.out y3), (jI HB2.out y4), (jI HB2.out y5), (jI HB2.out y6), (jI HB2.out y7), (jI HB2.out y8), (jI HB2.out y9), (iE HY2.out 0), (iE HY2.out 1), (iE HY2.out 2), (iE HY2.out 3), (iE HY2.out 4), (iE HY2.out 5), (iE HY2.out 6), (iE HY2.out 7), (iE HY2.out 8), (iE HY2.out 9)⟩ (fun hHeld => ?_)
      clear hK K
      refine kC (a' := ?_) ?_ ?_
      rotate_left
      · show Act.put _ (some 30) _ = _
        simp only [Act.put, List.setIfInBounds_toArray, List.set_cons_zero, List.set_cons_succ, iJ, iK]
        rfl
      refine iM (i := 15) (N := some 31) (v := ?_) (a' := ?_) #[true, true, true, true, true, true, true, true, true, true, true, true, true, true, true, true, false] rfl rfl (iI HT_.out (by kernel_rfl)) (fun _ _ _ h => h) (Or.inl ⟨by rfl, ?_⟩) ?_ ?_
      rotate_left
      · intro w'
        go_simp
        with_reducible rfl
      rotate_left
      · simp only [Act.put, List.setIfInBounds_toArray, List.set_cons_zero, List.set_cons_succ, iJ, iK]
        rfl
      refine mQ (i := 16) (N := none) #[true, true, true, true, true, true, true, true, true, true, true, true, true, true, true, true, true] rfl rfl (jK HT_.out (by kernel_rfl)) (by decide) (fun K hK => ?_)
      refine mX (w1 := ?_) (by rfl) rfl ?_ ?_
      rotate_left
      · go_simp
        rfl
      refine hK.out _ _ ?_
      clear hK K
      refine kP (jM HT_.out (by kernel_rfl)) ?_
      clear HT_ HW_ hHeld u1 c1 o0 o2 o3 y0 f0 y1 f1 y2 f2 y3 f3 y4 f4 y5 f5 y6 f6 y7 f7 y8 f8 y9 f9
      obtain ⟨T0, hT0⟩ : ∃ T0, T0 = (IntKind.u32.wrap (s.last + at_.tmod 3)) := ⟨_, rfl⟩
      rw [← hT0]
      have HT0 := iC.mk (show 0 ≤ T0 ∧ T0 < 4294967296 from by rw [hT0]; exact rC _)
      clear hT0
      obtain ⟨W4, hW4, hy4, hg4⟩ := oU (.int .u8 2) (.int .u32 id) (.int .u32 T0) (.slice A9 M9 q9) (.slice none 0 0) (.int .u32 0) (.slice none 0 0) (.int .i64 0) (.int .i64 0) (.slice none 0 0) (show w2.heap[w.heap.size + 1 + 1]? = some (.cells #[.int .u8 4, .int .u32 id, .int .u32 0, .slice none 0 0, .slice none 0 0, .int .u32 0, .slice none 0 0, .int .i64 0, .int .i64 0, .slice none 0 0] 48 (0, 0)) from HY2.out)
      rw [← hW4]
      have hro : RecO w2 w.heap.size (.agg (recV 2 id T0 A9 M9 q9 0 none 0 0)) := ⟨2, id, T0, A9, q9, ns, 0, none, 0, [], by rw [HM9.out]; rfl, .inl rfl, HID.out, HT0.out, by omega, HRT.out, by simp, by rw [HM9.out]; exact HR2.out, Kd.R_nil _ _ _ _ _⟩
      have HRO := iC.mk (hro.grown HY2.out hg4)
      have HY4 := iC.mk hy4
      have HX4 := iC.mk ((jL hg4 HX2.out (by omega)).trans HX2.out)
      have HB4 := iC.mk ((iQ HBW.out HB2.out).grown hg4 (iQ HBW.out HB2.out).size (fun j hj => by cases hj; omega))
      clear hW4 hy4 hg4 hro HY HX HBW HY2 HX2 HB2 HR2
      have HY := HY4
      have HX := HX4
      have HBW := HB4
      clear HY4 HX4 HB4
      have hy := HY.out
      have hx := HX.out
      have y0 := (iD hy 0).trans (show _ = some (Value.int .u8 2) from rfl)
      have y1 := (iD hy 1).trans (show _ = some (Value.int .u32 id) from rfl)
      have y2 := (iD hy 2).trans (show _ = some (Value.int .u32 T0) from rfl)
      have y3 := (iD hy 3).trans (show _ = some (Value.slice A9 M9 q9) from rfl)
      have y4 := (iD hy 4).trans (show _ = some (Value.slice none 0 0) from rfl)
      have y5 := (iD hy 5).trans (show _ = some (Value.int .u32 0) from rfl)
      have y6 := (iD hy 6).trans (show _ = some (Value.slice none 0 0) from rfl)
      have y7 := (iD hy 7).trans (show _ = some (Value.int .i64 0) from rfl)
      have y8 := (iD hy 8).trans (show _ = some (Value.int .i64 0) from rfl)
      have y9 := (iD hy 9).trans (show _ = some (Value.slice none 0 0) from rfl)
      have x0 := (iD hx 0).trans (show _ = some (Value.int .u8 0) from rfl)
      have x1 := (iD hx 1).trans (show _ = some (Value.int .u32 0) from rfl)
      have x2 := (iD hx 2).trans (show _ = some (Value.int .u32 0) from rfl)
      have x3 := (iD hx 3).trans (show _ = some (Value.slice none 0 0) from rfl)
      have x4 := (iD hx 4).trans (show _ = some (Value.slice none 0 0) from rfl)
      have x5 := (iD hx 5).trans (show _ = some (Value.int .u32 0) from rfl)
      have x6 := (iD hx 6).trans (show _ = some (Value.slice none 0 0) from rfl)
      have x7 := (iD hx 7).trans (show _ = some (Value.int .i64 0) from rfl)
      have x8 := (iD hx 8).trans (show _ = some (Value.int .i64 0) from rfl)
      have x9 := (iD hx 9).trans (show _ = some (Value.slice none 0 0) from rfl)
      have f0 := iE hx 0
      have f1 := iE hx 1
      have f2 := iE hx 2
      have f3 := iE hx 3
      have f4 := iE hx 4
      have f5 := iE hx 5
      have f6 := iE hx 6
      have f7 := iE hx 7
      have f8 := iE hx 8
      have f9 := iE hx 9
      clear hy hx
      go_wp2
      obtain ⟨W6, hW6, hx6, hg6⟩ := oU (.int .u8 2) (.int .u32 id) (.int .u32 T0) (.slice A9 M9 q9) (.slice none 0 0) (.int .u32 0) (.slice none 0 0) (.int .i64 0) (.int .i64 0) (.slice none 0 0) (show W4.heap[w.heap.size + 1]? = some (.cells #[.int .u8 0, .int .u32 0, .int .u32 0, .slice none 0 0, .slice none 0 0, .int .u32 0, .slice none 0 0, .int .i64 0, .int .i64 0, .slice none 0 0] 48 (0, 0)) from HX.out)
      rw [← hW6]
      refine bodyPost_ret (results_cell_row rfl _ _ (w.heap.size + 1) 48 _ (0, 0) _ rfl hx6 Try.underlying48 rfl (by kernel_rfl)) rfl ?_
      exact ⟨_, rfl, RecO.grown (HRO.out) HX.out hg6, HBW.out.grown hg6 HBW.out.size (fun j hj => by cases hj; exact Nat.le_succ _)⟩
    · subst h6
      clear g6
      go_upto_region 5 with fail
      refine jQ (n := 17) (S := fun w' => w'.cell? ⟨tp, 1, none⟩ = some (.pointer (some ⟨rc, 0, none⟩)) ∧ w'.cell? ⟨rc, 1, none⟩ = some (.int .u32 s.last) ∧ w'.cell? ⟨w.heap.size, 2, none⟩ = some (.int .u32 at_) ∧ w'.cell? ⟨w.heap.size, 3, none⟩ = some (.int .u8 (nd : Int)) ∧ w'.cell? ⟨w.heap.size + 1 + 1, 0, none⟩ = some (.int .u8 4) ∧ w'.cell? ⟨w.heap.size + 1 + 1, 1, none⟩ = some (.int .u32 id) ∧ w'.cell? ⟨w.heap.size + 1 + 1, 2, none⟩ = some (.int .u32 0) ∧ w'.cell? ⟨w.heap.size + 1 + 1, 3, none⟩ = some (.slice none 0 0) ∧ w'.cell? ⟨w.heap.size + 1 + 1, 4, none⟩ = some (.slice none 0 0) ∧ w'.cell? ⟨w.heap.size + 1 + 1, 5, none⟩ = some (.int .u32 0) ∧ w'.cell? ⟨w.heap.size + 1 + 1, 6, none⟩ = some (.slice none 0 0) ∧ w'.cell? ⟨w.heap.size + 1 + 1, 7, none⟩ = some (.int .i64 0) ∧ w'.cell? ⟨w.heap.size + 1 + 1, 8, none⟩ = some (.int .i64 0) ∧ w'.cell? ⟨w.heap.size + 1 + 1, 9, none⟩ = some (.slice none 0 0) ∧ w'.frozen? ⟨w.heap.size + 1 + 1, 0, none⟩ = false ∧ w'.frozen? ⟨w.heap.size + 1 + 1, 1, none⟩ = false ∧ w'.frozen? ⟨w.heap.size + 1 + 1, 2, none⟩ = false ∧ w'.frozen? ⟨w.heap.size + 1 + 1, 3, none⟩ = false ∧ w'.frozen? ⟨w.heap.size + 1 + 1, 4, none⟩ = false ∧ w'.frozen? ⟨w.heap.size + 1 + 1, 5, none⟩ = false ∧ w'.frozen? ⟨w.heap.size + 1 + 1, 6, none⟩ = false ∧ w'.frozen? ⟨w.heap.size + 1 + 1, 7, none⟩ = false ∧ w'.frozen? ⟨w.heap.size + 1 + 1, 8, none⟩ = false ∧ w'.frozen? ⟨w.heap.size + 1 + 1, 9, none⟩ = false) (ds := [16]) #[false, false, false, false, false, false, false, false, false, false, false, false, false, false, false, false, false] (by kernel_rfl) rfl rfl ⟨u1, c1, o2, o3, y0, y1, y2, y3, y4, y5, y6, y7, y8, y9, f0, f1, f2, f3, f4, f5, f6, f7, f8, f9⟩ (fun hHeld => ?_)
      refine jE (T := (true, [([], []), ([], []), ([1], [1]), ([2], [2]), ([3], [3]), ([4], [4]), ([5], [5]), ([6], [6]), ([], []), ([8], [8]), ([9], [9]), ([7, 10], [7, 10]), ([], []), ([12], [12]), ([13], [13]), ([0, 11, 14], [0, 11, 14]), ([15, 14, 0, 1, 2, 3, 4, 5, 6, 7, 8, 9, 10, 11, 12, 13, 14, 15], [15])])) (B := [0, 0, 2, 6, 14, 30, 62, 126, 0, 256, 768, 2046, 0, 4096, 12288, 32767, 65535]) (by kernel_rfl) (by kernel_rfl) (fun HT_ HW_ => ?_)
      refine iM (i := 0) (N := some 16) (v := ?_) (a' := ?_) #[true, false, false, false, false, false, false, false, false, false, false, false, false, false, false, false, false] rfl rfl (iI HT_.out (by kernel_rfl)) (fun _ _ _ h => h) (Or.inl ⟨by rfl, ?_⟩) ?_ ?_
      rotate_left
      · intro w'
        go_simp
        with_reducible rfl
      rotate_left
      · simp only [Act.put, List.setIfInBounds_toArray, List.set_cons_zero, List.set_cons_succ, iJ, iK]
        rfl
      refine iM (i := 1) (N := some 17) (v := ?_) (a' := ?_) #[true, true, false, false, false, false, false, false, false, false, false, false, false, false, false, false, false] rfl rfl (iI HT_.out (by kernel_rfl)) (fun _ _ _ h => h) (Or.inl ⟨by rfl, ?_⟩) ?_ ?_
      rotate_left
      · intro w'
        go_simp
        with_reducible rfl
      rotate_left
      · simp only [Act.put, List.setIfInBounds_toArray, List.set_cons_zero, List.set_cons_succ, iJ, iK]
        rfl
      refine iM (i := 2) (N := some 18) (v := ?_) (a' := ?_) #[true, true, true, false, false, false, false, false, false, false, false, false, false, false, false, false, false] rfl rfl (iI HT_.out (by kernel_rfl)) (fun _ _ _ h => h) (Or.inl ⟨by rfl, ?_⟩) ?_ ?_
      rotate_left
      · intro w'
        go_simp
        with_reducible rfl
      rotate_left
      · simp only [Act.put, List.setIfInBounds_toArray, List.set_cons_zero, List.set_cons_succ, iJ, iK]
        rfl
      refine iM (i := 3) (N := some 19) (v := ?_) (a' := ?_) #[true, true, true, true, false, false, false, false, false, false, false, false, false, false, false, false, false] rfl rfl (iI HT_.out (by kernel_rfl)) (fun _ _ _ h => h) (Or.inl ⟨by rfl, ?_⟩) ?_ ?_
      rotate_left
      · intro w'
        go_simp
        with_reducible rfl
      rotate_left
      · simp only [Act.put, List.setIfInBounds_toArray, List.set_cons_zero, List.set_cons_succ, iJ, iK]
        rfl
      refine iM (i := 8) (N := some 24) (v := ?_) (a' := ?_) #[true, true, true, true, false, false, false, false, true, false, false, false, false, false, false, false, false] rfl rfl (iI HT_.out (by kernel_rfl)) (fun _ _ _ h => h) (Or.inl ⟨by rfl, ?_⟩) ?_ ?_
      rotate_left
      · intro w'
        go_simp
        with_reducible rfl
      rotate_left
      · simp only [Act.put, List.setIfInBounds_toArray, List.set_cons_zero, List.set_cons_succ, iJ, iK]
        rfl
      refine iM (i := 12) (N := some 28) (v := ?_) (a' := ?_) #[true, true, true, true, false, false, false, false, true, false, false, false, true, false, false, false, false] rfl rfl (iI HT_.out (by kernel_rfl)) (fun _ _ _ h => h) (Or.inl ⟨by rfl, ?_⟩) ?_ ?_
      rotate_left
      · intro w'
        go_simp
        with_reducible rfl
      rotate_left
      · simp only [Act.put, List.setIfInBounds_toArray, List.set_cons_zero, List.set_cons_succ, iJ, iK]
        rfl
      refine jH (i := 4) (N := some 20) (v := ?_) (a' := ?_) #[true, true, true, true, true, false, false, false, true, false, false, false, true, false, false, false, false] rfl rfl (iT HT_.out HW_.out (by kernel_rfl)) (fun _ _ _ h => h) (Or.inl ⟨by rfl, ?_⟩) hHeld ?_ ?_
      rotate_left
      · rintro w' ⟨s0, s1, s2, s3, s4, s5, s6, s7, s8, s9, s10, s11, s12, s13, s14, s15, s16, s17, s18, s19, s20, s21, s22, s23⟩
        go_simp
        with_reducible rfl
      rotate_left
      · simp only [Act.put, List.setIfInBounds_toArray, List.set_cons_zero, List.set_cons_succ, iJ, iK]
        rfl
      refine iM (i := 5) (N := some 21) (v := ?_) (a' := ?_) #[true, true, true, true, true, true, false, false, true, false, false, false, true, false, false, false, false] rfl rfl (iI HT_.out (by kernel_rfl)) (fun _ _ _ h => h) (Or.inl ⟨by rfl, ?_⟩) ?_ ?_
      rotate_left
      · intro w'
        go_simp
        with_reducible rfl
      rotate_left
      · simp only [Act.put, List.setIfInBounds_toArray, List.set_cons_zero, List.set_cons_succ, iJ, iK]
        rfl
      refine iM (i := 6) (N := some 22) (v := ?_) (a' := ?_) #[true, true, true, true, true, true, true, false, true, false, false, false, true, false, false, false, false] rfl rfl (iI HT_.out (by kernel_rfl)) (fun _ _ _ h => h) (Or.inl ⟨by rfl, ?_⟩) ?_ ?_
      rotate_left
      · intro w'
        go_simp
        with_reducible rfl
      rotate_left
      · simp only [Act.put, List.setIfInBounds_toArray, List.set_cons_zero, List.set_cons_succ, iJ, iK]
        rfl
      refine jH (i := 7) (N := some 23) (v := ?_) (a' := ?_) #[true, true, true, true, true, true, true, true, true, false, false, false, true, false, false, false, false] rfl rfl (iT HT_.out HW_.out (by kernel_rfl)) (fun _ _ _ h => h) (Or.inl ⟨by rfl, ?_⟩) hHeld ?_ ?_
      rotate_left
      · rintro w' ⟨s0, s1, s2, s3, s4, s5, s6, s7, s8, s9, s10, s11, s12, s13, s14, s15, s16, s17, s18, s19, s20, s21, s22, s23⟩
        go_simp
        with_reducible rfl
      rotate_left
      · simp only [Act.put, List.setIfInBounds_toArray, List.set_cons_zero, List.set_cons_succ, iJ, iK]
        rfl
      refine jH (i := 9) (N := some 25) (v := ?_) (a' := ?_) #[true, true, true, true, true, true, true, true, true, true, false, false, true, false, false, false, false] rfl rfl (iT HT_.out HW_.out (by kernel_rfl)) (fun _ _ _ h => h) (Or.inl ⟨by rfl, ?_⟩) hHeld ?_ ?_
      rotate_left
      · rintro w' ⟨s0, s1, s2, s3, s4, s5, s6, s7, s8, s9, s10, s11, s12, s13, s14, s15, s16, s17, s18, s19, s20, s21, s22, s23⟩
        go_simp
        with_reducible rfl
      rotate_left
      · simp only [Act.put, List.setIfInBounds_toArray, List.set_cons_zero, List.set_cons_succ, iJ, iK]
        rfl
      refine iM (i := 10) (N := some 26) (v := ?_) (a' := ?_) #[true, true, true, true, true, true, true, true, true, true, true, false, true, false, false, false, false] rfl rfl (iI HT_.out (by kernel_rfl)) (fun _ _ _ h => h) (Or.inl ⟨by rfl, ?_⟩) ?_ ?_
      rotate_left
      · intro w'
        go_simp
        with_reducible rfl
      rotate_left
      · simp only [Act.put, List.setIfInBounds_toArray, List.set_cons_zero, List.set_cons_succ, iJ, iK]
        rfl
      refine iM (i := 11) (N := some 27) (v := ?_) (a' := ?_) #[true, true, true, true, true, true, true, true, true, true, true, true, true, false, false, false, false] rfl rfl (iI HT_.out (by kernel_rfl)) (fun _ _ _ h => h) (Or.inl ⟨by rfl, ?_⟩) ?_ ?_
      rotate_left
      · intro w'
        go_simp
        with_reducible rfl
      rotate_left
      · simp only [Act.put, List.setIfInBounds_toArray, List.set_cons_zero, List.set_cons_succ, iJ, iK]
        rfl
      refine jH (i := 13) (N := some 29) (v := ?_) (a' := ?_) #[true, true, true, true, true, true, true, true, true, true, true, true, true, true, false, false, false] rfl rfl (iT HT_.out HW_.out (by kernel_rfl)) (fun _ _ _ h => h) (Or.inl ⟨by rfl, ?_⟩) hHeld ?_ ?_
      rotate_left
      · rintro w' ⟨s0, s1, s2, s3, s4, s5, s6, s7, s8, s9, s10, s11, s12, s13, s14, s15, s16, s17, s18, s19, s20, s21, s22, s23⟩
        go_simp
        with_reducible rfl
      rotate_left
      · simp only [Act.put, List.setIfInBounds_toArray, List.set_cons_zero, List.set_cons_succ, iJ, iK]
        rfl
      refine one_ (i := 14) (N := some 30) #[true, true, true, true, true, true, true, true, true, true, true, true, true, true, true, false, false] rfl rfl (jK HT_.out (by kernel_rfl)) (by decide) (fun K hK => ?_)
      refine l7 Try.func11 (by kernel_rfl) rfl #[.int .u8 (nd : Int)] (by rfl) rfl rfl (by simp only [List.map_toArray, List.map_cons, List.map_nil]; rfl) ?_
      with_reducible refine (hno).mono ?_
      rintro e w2 ⟨A9, q9, rfl, hR9, hb9⟩
      refine ⟨_, rfl, ?_⟩
      have HB2 := iC.mk (show Below W3.heap.size W3 w2 from iQ (iP (Below.refl _ _)) hb9)
      have HR2 := iC.mk (Kd.R_lower hR9 (HBW.out.size))
      have HY2 := iC.mk (iV HB2.out HY.out)
      have HX2 := iC.mk (iV HB2.out HX.out)
      clear hR9 hb9 hno
      refine hK.out _ _ ⟨(jI HB2.out u1), (jI HB2.out c1), (jI HB2.out o2), (jI HB2.out o3), (jI HB2.out y0), (jI HB2.out y1), (jI HB2.out y2), (jI HB2.out y3), (jI HB2.out y4), (jI HB2.out y5), (jI HB2.out y6), (jI HB2.out y7), (jI HB2.out y8), (jI HB2.out y9), (iE HY2.out 0), (iE HY2.out 1), (iE HY2.out 2), (iE HY2.out 3), (iE HY2.out 4), (iE HY2.out 5), (iE HY2.out 6), (iE HY2.out 7), (iE HY2.out 8), (iE HY2.out 9)⟩ (fun hHeld => ?_)
      clear hK K
      refine kC (a' := ?_) ?_ ?_
      rotate_left
      · show Act.put _ (some 30) _ = _
        simp only [Act.put, List.setIfInBounds_toArray, List.set_cons_zero, List.set_cons_succ, iJ, iK]
        rfl
      refine iM (i := 15) (N := some 31) (v := ?_) (a' := ?_) #[true, true, true, true, true, true, true, true, true, true, true, true, true, true, true, true, false] rfl rfl (iI HT_.out (by kernel_rfl)) (fun _ _ _ h => h) (Or.inl ⟨by rfl, ?_⟩) ?_ ?_
      rotate_left
      · intro w'
        go_simp
        with_reducible rfl
      rotate_left
      · simp only [Act.put, List.setIfInBounds_toArray, List.set_cons_zero, List.set_cons_succ, iJ, iK]
        rfl
      refine mQ (i := 16) (N := none) #[true, true, true, true, true, true, true, true, true, true, true, true, true, true, true, true, true] rfl rfl (jK HT_.out (by kernel_rfl)) (by decide) (fun K hK => ?_)
      refine mX (w1 := ?_) (by rfl) rfl ?_ ?_
      rotate_left
      · go_simp
        rfl
      refine hK.out _ _ ?_
      clear hK K
      refine kP (jM HT_.out (by kernel_rfl)) ?_
      clear HT_ HW_ hHeld u1 c1 o0 o2 o3 y0 f0 y1 f1 y2 f2 y3 f3 y4 f4 y5 f5 y6 f6 y7 f7 y8 f8 y9 f9
      obtain ⟨T0, hT0⟩ : ∃ T0, T0 = (IntKind.u32.wrap (s.last + at_.tmod 3)) := ⟨_, rfl⟩
      rw [← hT0]
      have HT0 := iC.mk (show 0 ≤ T0 ∧ T0 < 4294967296 from by rw [hT0]; exact rC _)
      clear hT0
      obtain ⟨W4, hW4, hy4, hg4⟩ := oU (.int .u8 2) (.int .u32 id) (.int .u32 T0) (.slice A9 M9 q9) (.slice none 0 0) (.int .u32 0) (.slice none 0 0) (.int .i64 0) (.int .i64 0) (.slice none 0 0) (show w2.heap[w.heap.size + 1 + 1]? = some (.cells #[.int .u8 4, .int .u32 id, .int .u32 0, .slice none 0 0, .slice none 0 0, .int .u32 0, .slice none 0 0, .int .i64 0, .int .i64 0, .slice none 0 0] 48 (0, 0)) from HY2.out)
      rw [← hW4]
      have hro : RecO w2 w.heap.size (.agg (recV 2 id T0 A9 M9 q9 0 none 0 0)) := ⟨2, id, T0, A9, q9, ns, 0, none, 0, [], by rw [HM9.out]; rfl, .inl rfl, HID.out, HT0.out, by omega, HRT.out, by simp, by rw [HM9.out]; exact HR2.out, Kd.R_nil _ _ _ _ _⟩
      have HRO := iC.mk (hro.grown HY2.out hg4)
      have HY4 := iC.mk hy4
      have HX4 := iC.mk ((jL hg4 HX2.out (by omega)).trans HX2.out)
      have HB4 := iC.mk ((iQ HBW.out HB2.out).grown hg4 (iQ HBW.out HB2.out).size (fun j hj => by cases hj; omega))
      clear hW4 hy4 hg4 hro HY HX HBW HY2 HX2 HB2 HR2
      have HY := HY4
      have HX := HX4
      have HBW := HB4
      clear HY4 HX4 HB4
      have hy := HY.out
      have hx := HX.out
      have y0 := (iD hy 0).trans (show _ = some (Value.int .u8 2) from rfl)
      have y1 := (iD hy 1).trans (show _ = some (Value.int .u32 id) from rfl)
      have y2 := (iD hy 2).trans (show _ = some (Value.int .u32 T0) from rfl)
      have y3 := (iD hy 3).trans (show _ = some (Value.slice A9 M9 q9) from rfl)
      have y4 := (iD hy 4).trans (show _ = some (Value.slice none 0 0) from rfl)
      have y5 := (iD hy 5).trans (show _ = some (Value.int .u32 0) from rfl)
      have y6 := (iD hy 6).trans (show _ = some (Value.slice none 0 0) from rfl)
      have y7 := (iD hy 7).trans (show _ = some (Value.int .i64 0) from rfl)
      have y8 := (iD hy 8).trans (show _ = some (Value.int .i64 0) from rfl)
      have y9 := (iD hy 9).trans (show _ = some (Value.slice none 0 0) from rfl)
      have x0 := (iD hx 0).trans (show _ = some (Value.int .u8 0) from rfl)
      have x1 := (iD hx 1).trans (show _ = some (Value.int .u32 0) from rfl)
      have x2 := (iD hx 2).trans (show _ = some (Value.int .u32 0) from rfl)
      have x3 := (iD hx 3).trans (show _ = some (Value.slice none 0 0) from rfl)
      have x4 := (iD hx 4).trans (show _ = some (Value.slice none 0 0) from rfl)
      have x5 := (iD hx 5).trans (show _ = some (Value.int .u32 0) from rfl)
      have x6 := (iD hx 6).trans (show _ = some (Value.slice none 0 0) from rfl)
      have x7 := (iD hx 7).trans (show _ = some (Value.int .i64 0) from rfl)
      have x8 := (iD hx 8).trans (show _ = some (Value.int .i64 0) from rfl)
      have x9 := (iD hx 9).trans (show _ = some (Value.slice none 0 0) from rfl)
      have f0 := iE hx 0
      have f1 := iE hx 1
      have f2 := iE hx 2
      have f3 := iE hx 3
      have f4 := iE hx 4
      have f5 := iE hx 5
      have f6 := iE hx 6
      have f7 := iE hx 7
      have f8 := iE hx 8
      have f9 := iE hx 9
      clear hy hx
      go_wp2
      obtain ⟨W6, hW6, hx6, hg6⟩ := oU (.int .u8 2) (.int .u32 id) (.int .u32 T0) (.slice A9 M9 q9) (.slice none 0 0) (.int .u32 0) (.slice none 0 0) (.int .i64 0) (.int .i64 0) (.slice none 0 0) (show W4.heap[w.heap.size + 1]? = some (.cells #[.int .u8 0, .int .u32 0, .int .u32 0, .slice none 0 0, .slice none 0 0, .int .u32 0, .slice none 0 0, .int .i64 0, .int .i64 0, .slice none 0 0] 48 (0, 0)) from HX.out)
      rw [← hW6]
      refine bodyPost_ret (results_cell_row rfl _ _ (w.heap.size + 1) 48 _ (0, 0) _ rfl hx6 Try.underlying48 rfl (by kernel_rfl)) rfl ?_
      exact ⟨_, rfl, RecO.grown (HRO.out) HX.out hg6, HBW.out.grown hg6 HBW.out.size (fun j hj => by cases hj; exact Nat.le_succ _)⟩
  · by_cases h10 : d = 10
    · have g6 : ((d : Int) == 6) = false := by simp; omega
      have g7 : ((d : Int) == 7) = false := by simp; omega
      have g10 : ((d : Int) == 10) = true := by simp; omega
      obtain ⟨Ai, ki', t0, _⟩ := HT3.out.blk
      have u1 := (iD t0 1).trans (show _ = some (Value.pointer (some ⟨rc, 0, none⟩)) from rfl)
      obtain ⟨A0, q0, A0', k0', g0, _, _⟩ := HT3.out.ro.blk
      have c2 := (iD g0 2).trans (show _ = some (Value.int .u32 s.starts) from rfl)
      have y0 := (iD HY.out 0).trans (show _ = some (Value.int .u8 4) from rfl)
      have y1 := (iD HY.out 1).trans (show _ = some (Value.int .u32 id) from rfl)
      have y2 := (iD HY.out 2).trans (show _ = some (Value.int .u32 0) from rfl)
      have y3 := (iD HY.out 3).trans (show _ = some (Value.slice none 0 0) from rfl)
      have y4 := (iD HY.out 4).trans (show _ = some (Value.slice none 0 0) from rfl)
      have y5 := (iD HY.out 5).trans (show _ = some (Value.int .u32 0) from rfl)
      have y6 := (iD HY.out 6).trans (show _ = some (Value.slice none 0 0) from rfl)
      have y7 := (iD HY.out 7).trans (show _ = some (Value.int .i64 0) from rfl)
      have y8 := (iD HY.out 8).trans (show _ = some (Value.int .i64 0) from rfl)
      have y9 := (iD HY.out 9).trans (show _ = some (Value.slice none 0 0) from rfl)
      have f0 := iE HY.out 0
      have f1 := iE HY.out 1
      have f2 := iE HY.out 2
      have f3 := iE HY.out 3
      have f4 := iE HY.out 4
      have f5 := iE HY.out 5
      have f6 := iE HY.out 6
      have f7 := iE HY.out 7
      have f8 := iE HY.out 8
      have f9 := iE HY.out 9
      clear h6 h10 t0 g0
      go_upto_region 7 with fail
      refine jQ (n := 13) (S := fun w' => w'.cell? ⟨tp, 1, none⟩ = some (.pointer (some ⟨rc, 0, none⟩)) ∧ w'.cell? ⟨rc, 2, none⟩ = some (.int .u32 s.starts) ∧ w'.cell? ⟨w.heap.size, 2, none⟩ = some (.int .u32 at_) ∧ w'.cell? ⟨w.heap.size + 1 + 1, 0, none⟩ = some (.int .u8 4) ∧ w'.cell? ⟨w.heap.size + 1 + 1, 1, none⟩ = some (.int .u32 id) ∧ w'.cell? ⟨w.heap.size + 1 + 1, 2, none⟩ = some (.int .u32 0) ∧ w'.cell? ⟨w.heap.size + 1 + 1, 3, none⟩ = some (.slice none 0 0) ∧ w'.cell? ⟨w.heap.size + 1 + 1, 4, none⟩ = some (.slice none 0 0) ∧ w'.cell? ⟨w.heap.size + 1 + 1, 5, none⟩ = some (.int .u32 0) ∧ w'.cell? ⟨w.heap.size + 1 + 1, 6, none⟩ = some (.slice none 0 0) ∧ w'.cell? ⟨w.heap.size + 1 + 1, 7, none⟩ = some (.int .i64 0) ∧ w'.cell? ⟨w.heap.size + 1 + 1, 8, none⟩ = some (.int .i64 0) ∧ w'.cell? ⟨w.heap.size + 1 + 1, 9, none⟩ = some (.slice none 0 0) ∧ w'.frozen? ⟨w.heap.size + 1 + 1, 0, none⟩ = false ∧ w'.frozen? ⟨w.heap.size + 1 + 1, 1, none⟩ = false ∧ w'.frozen? ⟨w.heap.size + 1 + 1, 2, none⟩ = false ∧ w'.frozen? ⟨w.heap.size + 1 + 1, 3, none⟩ = false ∧ w'.frozen? ⟨w.heap.size + 1 + 1, 4, none⟩ = false ∧ w'.frozen? ⟨w.heap.size + 1 + 1, 5, none⟩ = false ∧ w'.frozen? ⟨w.heap.size + 1 + 1, 6, none⟩ = false ∧ w'.frozen? ⟨w.heap.size + 1 + 1, 7, none⟩ = false ∧ w'.frozen? ⟨w.heap.size + 1 + 1, 8, none⟩ = false ∧ w'.frozen? ⟨w.heap.size + 1 + 1, 9, none⟩ = false) (ds := [12]) #[false, false, false, false, false, false, false, false, false, false, false, false, false] (by kernel_rfl) rfl rfl ⟨u1, c2, o2, y0, y1, y2, y3, y4, y5, y6, y7, y8, y9, f0, f1, f2, f3, f4, f5, f6, f7, f8, f9⟩ (fun hHeld => ?_)
      refine jE (T := (true, [([], []), ([0], [0]), ([1], [1]), ([2], [2]), ([3], [3]), ([4], [4]), ([5], [5]), ([], []), ([7], [7]), ([8], [8]), ([6, 9], [6, 9]), ([10], [10]), ([11, 0, 1, 2, 3, 4, 5, 6, 7, 8, 9, 10, 11], [11])])) (B := [0, 1, 3, 7, 15, 31, 63, 0, 128, 384, 1023, 2047, 4095]) (by kernel_rfl) (by kernel_rfl) (fun HT_ HW_ => ?_)
      refine iM (i := 0) (N := some 34) (v := ?_) (a' := ?_) #[true, false, false, false, false, false, false, false, false, false, false, false, false] rfl rfl (iI HT_.out (by kernel_rfl)) (fun _ _ _ h => h) (Or.inl ⟨by rfl, ?_⟩) ?_ ?_
      rotate_left
      · intro w'
        go_simp
        with_reducible rfl
      rotate_left
      · simp only [Act.put, List.setIfInBounds_toArray, List.set_cons_zero, List.set_cons_succ, iJ, iK]
        rfl
      refine iM (i := 1) (N := some 35) (v := ?_) (a' := ?_) #[true, true, false, false, false, false, false, false, false, false, false, false, false] rfl rfl (iI HT_.out (by kernel_rfl)) (fun _ _ _ h => h) (Or.inl ⟨by rfl, ?_⟩) ?_ ?_
      rotate_left
      · intro w'
        go_simp
        with_reducible rfl
      rotate_left
      · simp only [Act.put, List.setIfInBounds_toArray, List.set_cons_zero, List.set_cons_succ, iJ, iK]
        rfl
      refine iM (i := 2) (N := some 36) (v := ?_) (a' := ?_) #[true, true, true, false, false, false, false, false, false, false, false, false, false] rfl rfl (iI HT_.out (by kernel_rfl)) (fun _ _ _ h => h) (Or.inl ⟨by rfl, ?_⟩) ?_ ?_
      rotate_left
      · intro w'
        go_simp
        with_reducible rfl
      rotate_left
      · simp only [Act.put, List.setIfInBounds_toArray, List.set_cons_zero, List.set_cons_succ, iJ, iK]
        rfl
      refine iM (i := 7) (N := some 41) (v := ?_) (a' := ?_) #[true, true, true, false, false, false, false, true, false, false, false, false, false] rfl rfl (iI HT_.out (by kernel_rfl)) (fun _ _ _ h => h) (Or.inl ⟨by rfl, ?_⟩) ?_ ?_
      rotate_left
      · intro w'
        go_simp
        with_reducible rfl
      rotate_left
      · simp only [Act.put, List.setIfInBounds_toArray, List.set_cons_zero, List.set_cons_succ, iJ, iK]
        rfl
      refine jH (i := 3) (N := some 37) (v := ?_) (a' := ?_) #[true, true, true, true, false, false, false, true, false, false, false, false, false] rfl rfl (iT HT_.out HW_.out (by kernel_rfl)) (fun _ _ _ h => h) (Or.inl ⟨by rfl, ?_⟩) hHeld ?_ ?_
      rotate_left
      · rintro w' ⟨s0, s1, s2, s3, s4, s5, s6, s7, s8, s9, s10, s11, s12, s13, s14, s15, s16, s17, s18, s19, s20, s21, s22⟩
        go_simp
        with_reducible rfl
      rotate_left
      · simp only [Act.put, List.setIfInBounds_toArray, List.set_cons_zero, List.set_cons_succ, iJ, iK]
        rfl
      refine iM (i := 4) (N := some 38) (v := ?_) (a' := ?_) #[true, true, true, true, true, false, false, true, false, false, false, false, false] rfl rfl (iI HT_.out (by kernel_rfl)) (fun _ _ _ h => h) (Or.inl ⟨by rfl, ?_⟩) ?_ ?_
      rotate_left
      · intro w'
        go_simp
        with_reducible rfl
      rotate_left
      · simp only [Act.put, List.setIfInBounds_toArray, List.set_cons_zero, List.set_cons_succ, iJ, iK]
        rfl
      refine iM (i := 5) (N := some 39) (v := ?_) (a' := ?_) #[true, true, true, true, true, true, false, true, false, false, false, false, false] rfl rfl (iI HT_.out (by kernel_rfl)) (fun _ _ _ h => h) (Or.inl ⟨by rfl, ?_⟩) ?_ ?_
      rotate_left
      · intro w'
        go_simp
        with_reducible rfl
      rotate_left
      · simp only [Act.put, List.setIfInBounds_toArray, List.set_cons_zero, List.set_cons_succ, iJ, iK]
        rfl
      refine jH (i := 6) (N := some 40) (v := ?_) (a' := ?_) #[true, true, true, true, true, true, true, true, false, false, false, false, false] rfl rfl (iT HT_.out HW_.out (by kernel_rfl)) (fun _ _ _ h => h) (Or.inl ⟨by rfl, ?_⟩) hHeld ?_ ?_
      rotate_left
      · rintro w' ⟨s0, s1, s2, s3, s4, s5, s6, s7, s8, s9, s10, s11, s12, s13, s14, s15, s16, s17, s18, s19, s20, s21, s22⟩
        go_simp
        with_reducible rfl
      rotate_left
      · simp only [Act.put, List.setIfInBounds_toArray, List.set_cons_zero, List.set_cons_succ, iJ, iK]
        rfl
      refine jH (i := 8) (N := some 42) (v := ?_) (a' := ?_) #[true, true, true, true, true, true, true, true, true, false, false, false, false] rfl rfl (iT HT_.out HW_.out (by kernel_rfl)) (fun _ _ _ h => h) (Or.inl ⟨by rfl, ?_⟩) hHeld ?_ ?_
      rotate_left
      · rintro w' ⟨s0, s1, s2, s3, s4, s5, s6, s7, s8, s9, s10, s11, s12, s13, s14, s15, s16, s17, s18, s19, s20, s21, s22⟩
        go_simp
        with_reducible rfl
      rotate_left
      · simp only [Act.put, List.setIfInBounds_toArray, List.set_cons_zero, List.set_cons_succ, iJ, iK]
        rfl
      refine iM (i := 9) (N := some 43) (v := ?_) (a' := ?_) #[true, true, true, true, true, true, true, true, true, true, false, false, false] rfl rfl (iI HT_.out (by kernel_rfl)) (fun _ _ _ h => h) (Or.inl ⟨by rfl, ?_⟩) ?_ ?_
      rotate_left
      · intro w'
        go_simp
        with_reducible rfl
      rotate_left
      · simp only [Act.put, List.setIfInBounds_toArray, List.set_cons_zero, List.set_cons_succ, iJ, iK]
        rfl
      refine iM (i := 10) (N := some 44) (v := ?_) (a' := ?_) #[true, true, true, true, true, true, true, true, true, true, true, false, false] rfl rfl (iI HT_.out (by kernel_rfl)) (fun _ _ _ h => h) (Or.inl ⟨by rfl, ?_⟩) ?_ ?_
      rotate_left
      · intro w'
        go_simp
        with_reducible rfl
      rotate_left
      · simp only [Act.put, List.setIfInBounds_toArray, List.set_cons_zero, List.set_cons_succ, iJ, iK]
        rfl
      refine iM (i := 11) (N := some 45) (v := ?_) (a' := ?_) #[true, true, true, true, true, true, true, true, true, true, true, true, false] rfl rfl (iI HT_.out (by kernel_rfl)) (fun _ _ _ h => h) (Or.inl ⟨by rfl, ?_⟩) ?_ ?_
      rotate_left
      · intro w'
        go_simp
        with_reducible rfl
      rotate_left
      · simp only [Act.put, List.setIfInBounds_toArray, List.set_cons_zero, List.set_cons_succ, iJ, iK]
        rfl
      refine mQ (i := 12) (N := none) #[true, true, true, true, true, true, true, true, true, true, true, true, true] rfl rfl (jK HT_.out (by kernel_rfl)) (by decide) (fun K hK => ?_)
      refine mX (w1 := ?_) (by rfl) rfl ?_ ?_
      rotate_left
      · go_simp
        rfl
      refine hK.out _ _ ?_
      clear hK K
      refine kP (jM HT_.out (by kernel_rfl)) ?_
      clear HT_ HW_ hHeld u1 c2 o0 o2 y0 f0 y1 f1 y2 f2 y3 f3 y4 f4 y5 f5 y6 f6 y7 f7 y8 f8 y9 f9
      obtain ⟨T0, hT0⟩ : ∃ T0, T0 = (IntKind.u32.wrap (s.starts + at_.tmod 3)) := ⟨_, rfl⟩
      rw [← hT0]
      have HT0 := iC.mk (show 0 ≤ T0 ∧ T0 < 4294967296 from by rw [hT0]; exact rC _)
      clear hT0
      obtain ⟨W4, hW4, hy4, hg4⟩ := oU (.int .u8 5) (.int .u32 T0) (.int .u32 0) (.slice none 0 0) (.slice none 0 0) (.int .u32 0) (.slice none 0 0) (.int .i64 0) (.int .i64 0) (.slice none 0 0) (show W3.heap[w.heap.size + 1 + 1]? = some (.cells #[.int .u8 4, .int .u32 id, .int .u32 0, .slice none 0 0, .slice none 0 0, .int .u32 0, .slice none 0 0, .int .i64 0, .int .i64 0, .slice none 0 0] 48 (0, 0)) from HY.out)
      rw [← hW4]
      obtain ⟨W5, hW5⟩ : ∃ W5, W5 = W4.drew := ⟨_, rfl⟩
      have hb5 : Below W4.heap.size W4 W5 := by rw [hW5]; exact iP (Below.refl _ _)
      have HY5 := iC.mk (iV hb5 hy4)
      have HX5 := iC.mk (iV hb5 ((jL hg4 HX.out (by omega)).trans HX.out))
      have HBW5 := iC.mk (iQ (HBW.out.grown hg4 HBW.out.size (fun j hj => by cases hj; omega)) hb5)
      rw [← hW5]
      clear hW4 hy4 hg4 hW5 hb5 HY HX HBW
      have HY := HY5
      have HX := HX5
      have HBW := HBW5
      clear HY5 HX5 HBW5
      have hy := HY.out
      have hx := HX.out
      have y0 := (iD hy 0).trans (show _ = some (Value.int .u8 5) from rfl)
      have y1 := (iD hy 1).trans (show _ = some (Value.int .u32 T0) from rfl)
      have y2 := (iD hy 2).trans (show _ = some (Value.int .u32 0) from rfl)
      have y3 := (iD hy 3).trans (show _ = some (Value.slice none 0 0) from rfl)
      have y4 := (iD hy 4).trans (show _ = some (Value.slice none 0 0) from rfl)
      have y5 := (iD hy 5).trans (show _ = some (Value.int .u32 0) from rfl)
      have y6 := (iD hy 6).trans (show _ = some (Value.slice none 0 0) from rfl)
      have y7 := (iD hy 7).trans (show _ = some (Value.int .i64 0) from rfl)
      have y8 := (iD hy 8).trans (show _ = some (Value.int .i64 0) from rfl)
      have y9 := (iD hy 9).trans (show _ = some (Value.slice none 0 0) from rfl)
      have x0 := (iD hx 0).trans (show _ = some (Value.int .u8 0) from rfl)
      have x1 := (iD hx 1).trans (show _ = some (Value.int .u32 0) from rfl)
      have x2 := (iD hx 2).trans (show _ = some (Value.int .u32 0) from rfl)
      have x3 := (iD hx 3).trans (show _ = some (Value.slice none 0 0) from rfl)
      have x4 := (iD hx 4).trans (show _ = some (Value.slice none 0 0) from rfl)
      have x5 := (iD hx 5).trans (show _ = some (Value.int .u32 0) from rfl)
      have x6 := (iD hx 6).trans (show _ = some (Value.slice none 0 0) from rfl)
      have x7 := (iD hx 7).trans (show _ = some (Value.int .i64 0) from rfl)
      have x8 := (iD hx 8).trans (show _ = some (Value.int .i64 0) from rfl)
      have x9 := (iD hx 9).trans (show _ = some (Value.slice none 0 0) from rfl)
      have f0 := iE hx 0
      have f1 := iE hx 1
      have f2 := iE hx 2
      have f3 := iE hx 3
      have f4 := iE hx 4
      have f5 := iE hx 5
      have f6 := iE hx 6
      have f7 := iE hx 7
      have f8 := iE hx 8
      have f9 := iE hx 9
      clear hy hx
      go_wp2
      obtain ⟨W6, hW6, hx6, hg6⟩ := oU (.int .u8 5) (.int .u32 T0) (.int .u32 0) (.slice none 0 0) (.slice none 0 0) (.int .u32 0) (.slice none 0 0) (.int .i64 0) (.int .i64 0) (.slice none 0 0) (show W5.heap[w.heap.size + 1]? = some (.cells #[.int .u8 0, .int .u32 0, .int .u32 0, .slice none 0 0, .slice none 0 0, .int .u32 0, .slice none 0 0, .int .i64 0, .int .i64 0, .slice none 0 0] 48 (0, 0)) from HX.out)
      rw [← hW6]
      refine bodyPost_ret (results_cell_row rfl _ _ (w.heap.size + 1) 48 _ (0, 0) _ rfl hx6 Try.underlying48 rfl (by kernel_rfl)) rfl ?_
      exact ⟨_, rfl, RecO.grown (JS W5 w.heap.size (.inr (.inr (.inl rfl))) HT0.out (by omega)) HX.out hg6, HBW.out.grown hg6 HBW.out.size (fun j hj => by cases hj; exact Nat.le_succ _)⟩
    · by_cases h11 : d = 11
      · have g6 : ((d : Int) == 6) = false := by simp; omega
        have g7 : ((d : Int) == 7) = false := by simp; omega
        have g10 : ((d : Int) == 10) = false := by simp; omega
        have g11 : ((d : Int) == 11) = true := by simp; omega
        obtain ⟨e0, LL, hof, hre, hsnd⟩ := NT 100 3 (by omega) (by omega) (by omega) (by omega) mm HMO.out 20500 (by omega)
        have hofc := stratumlaw12_Of.calls 20500 100 3 Am km mm e0 LL W3 (HM.out W3 HBW.out) (by rw [HN.out]; exact hmk) hof
        rw [HN.out] at hofc
        have HRE := iC.mk hre
        have hLl := hsnd.len
        obtain ⟨M9, hM9⟩ : ∃ M9, LL.length = M9 := ⟨_, rfl⟩
        have HM9 := iC.mk hM9
        rw [hM9] at hLl
        have o5 := (iD HO3.out 5).trans (show _ = some (Value.slice Am N km) from rfl)
        clear h6 h10 h11 hof hre hsnd hM9
        go_wp2_with fail
        go_at_call 17
        refine hofc.mono ?_
        rintro e w2 ⟨v9, rfl, hR9, hb2⟩
        obtain ⟨A9, q9, rfl⟩ := Kd.R_slice hR9
        rw [HM9.out] at hR9 ⊢
        have HB2 := iC.mk hb2
        have HR2 := iC.mk (Kd.R_lower hR9 HBW.out.size)
        have HY2 := iC.mk (iV hb2 HY.out)
        have HX2 := iC.mk (iV hb2 HX.out)
        have p2 := jI hb2 o2
        clear hofc hR9 hb2 o0 o2 o5
        have y0 := (iD HY2.out 0).trans (show _ = some (Value.int .u8 4) from rfl)
        have y1 := (iD HY2.out 1).trans (show _ = some (Value.int .u32 id) from rfl)
        have y2 := (iD HY2.out 2).trans (show _ = some (Value.int .u32 0) from rfl)
        have y3 := (iD HY2.out 3).trans (show _ = some (Value.slice none 0 0) from rfl)
        have y4 := (iD HY2.out 4).trans (show _ = some (Value.slice none 0 0) from rfl)
        have y5 := (iD HY2.out 5).trans (show _ = some (Value.int .u32 0) from rfl)
        have y6 := (iD HY2.out 6).trans (show _ = some (Value.slice none 0 0) from rfl)
        have y7 := (iD HY2.out 7).trans (show _ = some (Value.int .i64 0) from rfl)
        have y8 := (iD HY2.out 8).trans (show _ = some (Value.int .i64 0) from rfl)
        have y9 := (iD HY2.out 9).trans (show _ = some (Value.slice none 0 0) from rfl)
        have f0 := iE HY2.out 0
        have f1 := iE HY2.out 1
        have f2 := iE HY2.out 2
        have f3 := iE HY2.out 3
        have f4 := iE HY2.out 4
        have f5 := iE HY2.out 5
        have f6 := iE HY2.out 6
        have f7 := iE HY2.out 7
        have f8 := iE HY2.out 8
        have f9 := iE HY2.out 9
        go_upto_region 10 with fail
        obtain ⟨W4, hW4, hy4, hg4⟩ := oU (.int .u8 6) (.int .u32 0) (.int .u32 0) (.slice none 0 0) (.slice none 0 0) (.int .u32 e0) (.slice A9 M9 q9) (.int .i64 0) (.int .i64 0) (.slice none 0 0) (show w2.heap[w.heap.size + 1 + 1]? = some (.cells #[.int .u8 4, .int .u32 id, .int .u32 0, .slice none 0 0, .slice none 0 0, .int .u32 0, .slice none 0 0, .int .i64 0, .int .i64 0, .slice none 0 0] 48 (0, 0)) from HY2.out)
        rw [← hW4]
        have hro : ∀ E : Int, 0 ≤ E ∧ E < 4294967296 → RecO w2 w.heap.size (.agg (recV 6 0 0 none 0 0 E A9 M9 q9)) := fun E hE => ⟨6, 0, 0, none, 0, [], E, A9, q9, LL, by rw [HM9.out]; rfl, .inr (.inr (.inr rfl)), by omega, by omega, hE, JH, by rw [HM9.out]; omega, Kd.R_nil _ _ _ _ _, by rw [HM9.out]; exact HR2.out⟩
        have HRO := iC.mk (fun (E : Int) (hE : 0 ≤ E ∧ E < 4294967296) => (hro E hE).grown HY2.out hg4)
        have HY4 := iC.mk hy4
        have HX4 := iC.mk ((jL hg4 HX2.out (by omega)).trans HX2.out)
        have HB4 := iC.mk ((iQ HBW.out HB2.out).grown hg4 (iQ HBW.out HB2.out).size (fun j hj => by cases hj; omega))
        have p4 := (iD ((jL hg4 (iV HB2.out HO3.out) (by omega)).trans (iV HB2.out HO3.out)) 2).trans (show _ = some (Value.int .u32 at_) from rfl)
        clear hW4 hy4 hg4 hro HY HX HBW HY2 HX2 HB2 HR2 p2 y0 f0 y1 f1 y2 f2 y3 f3 y4 f4 y5 f5 y6 f6 y7 f7 y8 f8 y9 f9
        have HY := HY4
        have HX := HX4
        have HBW := HB4
        clear HY4 HX4 HB4
        by_cases hgt : 0 < at_.tmod 3
        · have hdg : decide (0 < at_.tmod 3) = true := decide_eq_true hgt
          have HT4 := HH.out.below HBW.out
          obtain ⟨Ai, ki', t0, _⟩ := HT4.blk
          have u1 := (iD t0 1).trans (show _ = some (Value.pointer (some ⟨rc, 0, none⟩)) from rfl)
          obtain ⟨A0, q0, A0', k0', g0, _, _⟩ := HT4.ro.blk
          have c4 := (iD g0 4).trans (show _ = some (Value.int .u32 s.ep) from rfl)
          have y5 := (iD HY.out 5).trans (show _ = some (Value.int .u32 e0) from rfl)
          have f5 := iE HY.out 5
          obtain ⟨E0, hE0⟩ : ∃ E0, E0 = (s.ep + 1) % 4294967296 := ⟨_, rfl⟩
          have HE0 := iC.mk (show 0 ≤ E0 ∧ E0 < 4294967296 from by omega)
          have hE1 : (s.ep + 1) % 4294967296 = E0 := hE0.symm
          clear hE0 HT4 t0 g0
          go_upto_region 12 with fail
          obtain ⟨W5, hW5⟩ : ∃ W5, W5 = W4.setCell ⟨w.heap.size + 1 + 1, 5, none⟩ (.int .u32 E0) := ⟨_, rfl⟩
          have hg5 := kM W4 (w.heap.size + 1 + 1) 5 (.int .u32 E0)
          rw [← hW5] at hg5
          have HRO5 := iC.mk ((HRO.out E0 HE0.out).grown HY.out hg5)
          have HY5 : iC (W5.heap[w.heap.size + 1 + 1]? = some (.cells #[.int .u8 6, .int .u32 0, .int .u32 0, .slice none 0 0, .slice none 0 0, .int .u32 E0, .slice A9 M9 q9, .int .i64 0, .int .i64 0, .slice none 0 0] 48 (0, 0))) := iC.mk (by rw [hW5]; exact iZ HY.out 5 _ rfl)
          have HX5 := iC.mk ((jL hg5 HX.out (by omega)).trans HX.out)
          have HB5 := iC.mk (HBW.out.grown hg5 HBW.out.size (fun j hj => by cases hj; omega))
          rw [← hW5]
          clear hW5 hg5 HY HX HBW y5 f5 u1 c4 p4 hE1
          have HY := HY5
          have HX := HX5
          have HBW := HB5
          clear HY5 HX5 HB5
          have hy := HY.out
          have hx := HX.out
          have y0 := (iD hy 0).trans (show _ = some (Value.int .u8 6) from rfl)
          have y1 := (iD hy 1).trans (show _ = some (Value.int .u32 0) from rfl)
          have y2 := (iD hy 2).trans (show _ = some (Value.int .u32 0) from rfl)
          have y3 := (iD hy 3).trans (show _ = some (Value.slice none 0 0) from rfl)
          have y4 := (iD hy 4).trans (show _ = some (Value.slice none 0 0) from rfl)
          have y5 := (iD hy 5).trans (show _ = some (Value.int .u32 E0) from rfl)
          have y6 := (iD hy 6).trans (show _ = some (Value.slice A9 M9 q9) from rfl)
          have y7 := (iD hy 7).trans (show _ = some (Value.int .i64 0) from rfl)
          have y8 := (iD hy 8).trans (show _ = some (Value.int .i64 0) from rfl)
          have y9 := (iD hy 9).trans (show _ = some (Value.slice none 0 0) from rfl)
          have x0 := (iD hx 0).trans (show _ = some (Value.int .u8 0) from rfl)
          have x1 := (iD hx 1).trans (show _ = some (Value.int .u32 0) from rfl)
          have x2 := (iD hx 2).trans (show _ = some (Value.int .u32 0) from rfl)
          have x3 := (iD hx 3).trans (show _ = some (Value.slice none 0 0) from rfl)
          have x4 := (iD hx 4).trans (show _ = some (Value.slice none 0 0) from rfl)
          have x5 := (iD hx 5).trans (show _ = some (Value.int .u32 0) from rfl)
          have x6 := (iD hx 6).trans (show _ = some (Value.slice none 0 0) from rfl)
          have x7 := (iD hx 7).trans (show _ = some (Value.int .i64 0) from rfl)
          have x8 := (iD hx 8).trans (show _ = some (Value.int .i64 0) from rfl)
          have x9 := (iD hx 9).trans (show _ = some (Value.slice none 0 0) from rfl)
          have f0 := iE hx 0
          have f1 := iE hx 1
          have f2 := iE hx 2
          have f3 := iE hx 3
          have f4 := iE hx 4
          have f5 := iE hx 5
          have f6 := iE hx 6
          have f7 := iE hx 7
          have f8 := iE hx 8
          have f9 := iE hx 9
          clear hy hx
          go_wp2
          obtain ⟨W6, hW6, hx6, hg6⟩ := oU (.int .u8 6) (.int .u32 0) (.int .u32 0) (.slice none 0 0) (.slice none 0 0) (.int .u32 E0) (.slice A9 M9 q9) (.int .i64 0) (.int .i64 0) (.slice none 0 0) (show W5.heap[w.heap.size + 1]? = some (.cells #[.int .u8 0, .int .u32 0, .int .u32 0, .slice none 0 0, .slice none 0 0, .int .u32 0, .slice none 0 0, .int .i64 0, .int .i64 0, .slice none 0 0] 48 (0, 0)) from HX.out)
          rw [← hW6]
          refine bodyPost_ret (results_cell_row rfl _ _ (w.heap.size + 1) 48 _ (0, 0) _ rfl hx6 Try.underlying48 rfl (by kernel_rfl)) rfl ?_
          exact ⟨_, rfl, RecO.grown (HRO5.out) HX.out hg6, HBW.out.grown hg6 HBW.out.size (fun j hj => by cases hj; exact Nat.le_succ _)⟩
        · have hdg : decide (0 < at_.tmod 3) = false := decide_eq_false hgt
          have hy := HY.out
          have hx := HX.out
          have y0 := (iD hy 0).trans (show _ = some (Value.int .u8 6) from rfl)
          have y1 := (iD hy 1).trans (show _ = some (Value.int .u32 0) from rfl)
          have y2 := (iD hy 2).trans (show _ = some (Value.int .u32 0) from rfl)
          have y3 := (iD hy 3).trans (show _ = some (Value.slice none 0 0) from rfl)
          have y4 := (iD hy 4).trans (show _ = some (Value.slice none 0 0) from rfl)
          have y5 := (iD hy 5).trans (show _ = some (Value.int .u32 e0) from rfl)
          have y6 := (iD hy 6).trans (show _ = some (Value.slice A9 M9 q9) from rfl)
          have y7 := (iD hy 7).trans (show _ = some (Value.int .i64 0) from rfl)
          have y8 := (iD hy 8).trans (show _ = some (Value.int .i64 0) from rfl)
          have y9 := (iD hy 9).trans (show _ = some (Value.slice none 0 0) from rfl)
          have x0 := (iD hx 0).trans (show _ = some (Value.int .u8 0) from rfl)
          have x1 := (iD hx 1).trans (show _ = some (Value.int .u32 0) from rfl)
          have x2 := (iD hx 2).trans (show _ = some (Value.int .u32 0) from rfl)
          have x3 := (iD hx 3).trans (show _ = some (Value.slice none 0 0) from rfl)
          have x4 := (iD hx 4).trans (show _ = some (Value.slice none 0 0) from rfl)
          have x5 := (iD hx 5).trans (show _ = some (Value.int .u32 0) from rfl)
          have x6 := (iD hx 6).trans (show _ = some (Value.slice none 0 0) from rfl)
          have x7 := (iD hx 7).trans (show _ = some (Value.int .i64 0) from rfl)
          have x8 := (iD hx 8).trans (show _ = some (Value.int .i64 0) from rfl)
          have x9 := (iD hx 9).trans (show _ = some (Value.slice none 0 0) from rfl)
          have f0 := iE hx 0
          have f1 := iE hx 1
          have f2 := iE hx 2
          have f3 := iE hx 3
          have f4 := iE hx 4
          have f5 := iE hx 5
          have f6 := iE hx 6
          have f7 := iE hx 7
          have f8 := iE hx 8
          have f9 := iE hx 9
          clear hy hx
          go_wp2
          obtain ⟨W6, hW6, hx6, hg6⟩ := oU (.int .u8 6) (.int .u32 0) (.int .u32 0) (.slice none 0 0) (.slice none 0 0) (.int .u32 e0) (.slice A9 M9 q9) (.int .i64 0) (.int .i64 0) (.slice none 0 0) (show W4.heap[w.heap.size + 1]? = some (.cells #[.int .u8 0, .int .u32 0, .int .u32 0, .slice none 0 0, .slice none 0 0, .int .u32 0, .slice none 0 0, .int .i64 0, .int .i64 0, .slice none 0 0] 48 (0, 0)) from HX.out)
          rw [← hW6]
          refine bodyPost_ret (results_cell_row rfl _ _ (w.heap.size + 1) 48 _ (0, 0) _ rfl hx6 Try.underlying48 rfl (by kernel_rfl)) rfl ?_
          exact ⟨_, rfl, RecO.grown (HRO.out e0 HRE.out) HX.out hg6, HBW.out.grown hg6 HBW.out.size (fun j hj => by cases hj; exact Nat.le_succ _)⟩
      · have g6 : ((d : Int) == 6) = false := by simp; omega
        have g7 : ((d : Int) == 7) = false := by simp; omega
        have g10 : ((d : Int) == 10) = false := by simp; omega
        have g11 : ((d : Int) == 11) = false := by simp; omega
        clear h6 h10 h11
        have hy := HY.out
        have hx := HX.out
        have y0 := (iD hy 0).trans (show _ = some (Value.int .u8 4) from rfl)
        have y1 := (iD hy 1).trans (show _ = some (Value.int .u32 id) from rfl)
        have y2 := (iD hy 2).trans (show _ = some (Value.int .u32 0) from rfl)
        have y3 := (iD hy 3).trans (show _ = some (Value.slice none 0 0) from rfl)
        have y4 := (iD hy 4).trans (show _ = some (Value.slice none 0 0) from rfl)
        have y5 := (iD hy 5).trans (show _ = some (Value.int .u32 0) from rfl)
        have y6 := (iD hy 6).trans (show _ = some (Value.slice none 0 0) from rfl)
        have y7 := (iD hy 7).trans (show _ = some (Value.int .i64 0) from rfl)
        have y8 := (iD hy 8).trans (show _ = some (Value.int .i64 0) from rfl)
        have y9 := (iD hy 9).trans (show _ = some (Value.slice none 0 0) from rfl)
        have x0 := (iD hx 0).trans (show _ = some (Value.int .u8 0) from rfl)
        have x1 := (iD hx 1).trans (show _ = some (Value.int .u32 0) from rfl)
        have x2 := (iD hx 2).trans (show _ = some (Value.int .u32 0) from rfl)
        have x3 := (iD hx 3).trans (show _ = some (Value.slice none 0 0) from rfl)
        have x4 := (iD hx 4).trans (show _ = some (Value.slice none 0 0) from rfl)
        have x5 := (iD hx 5).trans (show _ = some (Value.int .u32 0) from rfl)
        have x6 := (iD hx 6).trans (show _ = some (Value.slice none 0 0) from rfl)
        have x7 := (iD hx 7).trans (show _ = some (Value.int .i64 0) from rfl)
        have x8 := (iD hx 8).trans (show _ = some (Value.int .i64 0) from rfl)
        have x9 := (iD hx 9).trans (show _ = some (Value.slice none 0 0) from rfl)
        have f0 := iE hx 0
        have f1 := iE hx 1
        have f2 := iE hx 2
        have f3 := iE hx 3
        have f4 := iE hx 4
        have f5 := iE hx 5
        have f6 := iE hx 6
        have f7 := iE hx 7
        have f8 := iE hx 8
        have f9 := iE hx 9
        clear hy hx
        go_wp2
        obtain ⟨W6, hW6, hx6, hg6⟩ := oU (.int .u8 4) (.int .u32 id) (.int .u32 0) (.slice none 0 0) (.slice none 0 0) (.int .u32 0) (.slice none 0 0) (.int .i64 0) (.int .i64 0) (.slice none 0 0) (show W3.heap[w.heap.size + 1]? = some (.cells #[.int .u8 0, .int .u32 0, .int .u32 0, .slice none 0 0, .slice none 0 0, .int .u32 0, .slice none 0 0, .int .i64 0, .int .i64 0, .slice none 0 0] 48 (0, 0)) from HX.out)
        rw [← hW6]
        refine bodyPost_ret (results_cell_row rfl _ _ (w.heap.size + 1) 48 _ (0, 0) _ rfl hx6 Try.underlying48 rfl (by kernel_rfl)) rfl ?_
        exact ⟨_, rfl, RecO.grown (JS W3 w.heap.size (.inr (.inl rfl)) HID.out (by omega)) HX.out hg6, HBW.out.grown hg6 HBW.out.size (fun j hj => by cases hj; exact Nat.le_succ _)⟩
end Go.Proofs.Ytjppookmjdaplaa.K
end

section
namespace Go.Proofs.Ytjppookmjdaplaa.K
open Go Go.RowKit Go.Maps Go.Proofs.YtjppookmjdaplaaW.PrintWords Go.Proofs.YtjppookmjdaplaaW.PrintLast Go.Proofs.YtjppookmjdaplaaW.PrintMore Go.Proofs.Ytjppookmjdaplaa.My
set_option maxRecDepth 20000 in
set_option maxHeartbeats 8000000 in
theorem JE {w : World} {B tp c rc n : Nat} {s : CS} {ids : List Int} (h : Tw w B tp c rc n s ids) (hn : n < 1000) (hL : s.L.length ≤ 1000) (hI : ids.length ≤ 1000) (kd oid nd on : Nat) (at_ : Int) (hk : kd < 256) (hoid : oid < 256) (hnd : nd < 256) (hon : on < 256) (hat : 0 ≤ at_ ∧ at_ < 4294967296)
    {Am : Option Addr} {mm : List TCu} {km : Nat} (hm : ∀ W', Below B w W' → k91.C W' Am mm.length mm) (hmk : mm.length ≤ km) (hmo : ∀ x ∈ mm, yT x)
    {Ar : Option Addr} {rr : List Int} {kr : Nat} (hrw : ∀ W', Below B w W' → ki.C W' Ar rr.length rr) (hrk : rr.length ≤ kr) (hrl : rr.length ≤ 20) :
    Calls Try.prog 30 #[.pointer (some ⟨tp, 0, none⟩), .agg #[.int .u8 (kd : Int), .int .u8 (oid : Int), .int .u32 at_, .int .u8 (nd : Int), .int .u8 (on : Int), .slice Am mm.length km, .slice Ar rr.length kr]] w fun e w' => e = .returned (.bool true) ∧ ∃ n' s' ids', Tw w' B tp c rc n' s' ids' ∧ kN s s' ∧ n' ≤ n + 1 ∧ ids <+: ids' ∧ ids'.length ≤ ids.length + 1 ∧ DFr B w w' := by
  have HH := iC.mk h
  have HM := iC.mk hm
  have HMO := iC.mk hmo
  have HRW := iC.mk hrw
  have HAT := iC.mk hat
  have HNN := iC.mk (And.intro hn (And.intro hL hI))
  obtain ⟨N, hN⟩ : ∃ N, mm.length = N := ⟨_, rfl⟩
  have HN := iC.mk hN
  obtain ⟨M, hM⟩ : ∃ M, rr.length = M := ⟨_, rfl⟩
  have HM2 := iC.mk hM
  obtain ⟨OP, hOP⟩ : ∃ OP : Array Value, OP = #[.int .u8 (kd : Int), .int .u8 (oid : Int), .int .u32 at_, .int .u8 (nd : Int), .int .u8 (on : Int), .slice Am N km, .slice Ar M kr] := ⟨_, rfl⟩
  obtain ⟨W1, hW1⟩ : ∃ W1, W1 = w.alloc (.cells #[.int .u8 (kd : Int), .int .u8 (oid : Int), .int .u32 at_, .int .u8 (nd : Int), .int .u8 (on : Int), .slice Am N km, .slice Ar M kr] 69) := ⟨_, rfl⟩
  have hb1 : Below w.heap.size w W1 := by rw [hW1]; exact iF (Below.refl _ _) _
  have hO1 : W1.heap[w.heap.size]? = some (.cells #[.int .u8 (kd : Int), .int .u8 (oid : Int), .int .u32 at_, .int .u8 (nd : Int), .int .u8 (on : Int), .slice Am N km, .slice Ar M kr] 69 (0, 0)) := by rw [hW1]; exact jD rfl
  have ht1 := h.below hb1
  obtain ⟨Ai, ki', t0, hRi⟩ := ht1.blk
  have u2 := (iD t0 2).trans (show _ = some (Value.slice Ai ids.length ki') from rfl)
  have o1 := (iD hO1 1).trans (show _ = some (Value.int .u8 (oid : Int)) from rfl)
  have o4 := (iD hO1 4).trans (show _ = some (Value.int .u8 (on : Int)) from rfl)
  have HT1 := iC.mk ht1
  have HB1 := iC.mk (DFr.of_below hb1 h.Ble)
  have HO1 := iC.mk hO1
  have HW1 := iC.mk hW1
  have HRI := iC.mk hRi
  obtain ⟨L, hLe⟩ : ∃ L, ids.length = L := ⟨_, rfl⟩
  have HL := iC.mk hLe
  rw [hLe] at u2
  rw [hN] at hmk ⊢
  rw [hM] at hrk hrl ⊢
  clear h hm hmo hrw hat hn hL hI hN hM hOP OP hb1 hO1 ht1 t0 hRi hLe hW1
  go_enter Try.func30, Try.ntmps30
  go_upto_region 2 with fail
  rw [← HW1.out]
  obtain ⟨k7, hk7⟩ : ∃ k7 : Nat, (on : Int) % 7 = (k7 : Int) := ⟨on % 7, by omega⟩
  have hk77 : k7 < 7 := by omega
  obtain ⟨d, hd⟩ : ∃ d : Nat, (kd : Int) % 12 = (d : Int) := ⟨kd % 12, by omega⟩
  have hd12 : d < 12 := by omega
  go_cut [26] (fun x wx => x = .bool (decide (0 < L) && decide (oid < 250)) ∧ W1 = wx)
  case first =>
    by_cases hL0 : L = 0
    · subst hL0
      go_wp2_with fail
      go_meet
      exact ⟨rfl, rfl⟩
    · have hLn : decide (0 < L) = true := decide_eq_true (by omega)
      have hLp : decide (0 < (L : Int)) = true := decide_eq_true (by omega)
      by_cases h2 : oid < 250
      · have ho : decide ((oid : Int) < 250) = true := decide_eq_true (by omega)
        have ho2 : decide (oid < 250) = true := decide_eq_true h2
        go_wp2_with fail
        go_meet
        exact ⟨by simp [hLn, ho2], rfl⟩
      · have ho : decide ((oid : Int) < 250) = false := decide_eq_false (by omega)
        have ho2 : decide (oid < 250) = false := decide_eq_false h2
        go_wp2_with fail
        go_meet
        exact ⟨by simp [ho2], rfl⟩
  case rest =>
  obtain ⟨rfl, rfl⟩ := hcut
  go_upto_if 26 with fail
  go_cut [5] (fun s5 wx => ∃ id : Int, s5 = .int .u32 id ∧ iC (0 ≤ id ∧ id < 4294967296) ∧ iC (Tw wx B tp c rc n s ids) ∧ iC (wx.heap[w.heap.size]? = some (.cells #[.int .u8 (kd : Int), .int .u8 (oid : Int), .int .u32 at_, .int .u8 (nd : Int), .int .u8 (on : Int), .slice Am N km, .slice Ar M kr] 69 (0, 0))) ∧ iC (DFr B w wx))
  case first =>
    by_cases hsel : 0 < L ∧ oid < 250
    · have hse : (decide (0 < L) && decide (oid < 250)) = true := by simp [hsel.1, hsel.2]
      rw [hse]
      have hLz : ((L : Int) == 0) = false := by simp; omega
      have ho : decide ((oid : Int) < 250) = true := decide_eq_true (by omega)
      have hmod : (oid : Int) % (L : Int) < L := Int.emod_lt_of_pos _ (by omega)
      have hmod0 : 0 ≤ (oid : Int) % (L : Int) := Int.emod_nonneg _ (by omega)
      obtain ⟨j, hj⟩ : ∃ j : Nat, (oid : Int) % (L : Int) = (j : Int) := ⟨((oid : Int) % (L : Int)).toNat, by omega⟩
      have hjL : j < L := by omega
      have hCi := (Kd.R_reads' HRI.out).2.2
      rw [HL.out] at hCi
      obtain ⟨ai, rfl⟩ : ∃ ai, Ai = some ai := by
        obtain ⟨ai, _, e, _⟩ := Kd.C_get hCi 0 (j : Int) (by omega) (by omega)
        exact ⟨ai, e⟩
      have xi := Kd.foot_int hCi (j : Int) (by omega) (by omega)
      rw [Int.toNat_natCast] at xi
      have hL0 : ¬ L = 0 := by omega
      have hwo : wrap64 (oid : Int) = (oid : Int) := by unfold wrap64; omega
      have htm : ((oid : Int)).tmod (L : Int) = (j : Int) := by rw [Int.tmod_eq_emod_of_nonneg (Int.natCast_nonneg oid)]; exact hj
      clear hCi hj hmod hmod0
      go_upto_region 3 with fail
      refine jQ (n := 16) (S := fun w' => w'.cell? ⟨tp, 2, none⟩ = some (.slice (some ai) L ki') ∧ w'.cell? ⟨w.heap.size, 1, none⟩ = some (.int .u8 (oid : Int)) ∧ w'.cell? (ai.add j) = some (.int .u32 (rd ids (j : Int)))) (ds := []) #[false, false, false, false, false, false, false, false, false, false, false, false, false, false, false, false] (by kernel_rfl) rfl rfl ⟨u2, o1, xi⟩ (fun hHeld => ?_)
      refine jE (T := (true, [([], []), ([0], [0]), ([1], [1]), ([2], [2]), ([], []), ([4], [4]), ([5], [5]), ([], []), ([7], [7]), ([8], [8]), ([9], [9]), ([10], [10]), ([6, 11], [6, 11]), ([3, 12], [3, 12]), ([13], [13]), ([14, 0, 1, 2, 3, 4, 5, 6, 7, 8, 9, 10, 11, 12, 13, 14], [14])])) (B := [0, 1, 3, 7, 0, 16, 48, 0, 128, 384, 896, 1920, 4080, 8191, 16383, 32767]) (by kernel_rfl) (by kernel_rfl) (fun HT_ HW_ => ?_)
      refine iM (i := 0) (N := some 27) (v := ?_) (a' := ?_) #[true, false, false, false, false, false, false, false, false, false, false, false, false, false, false, false] rfl rfl (iI HT_.out (by kernel_rfl)) (fun _ _ _ h => h) (Or.inl ⟨by rfl, ?_⟩) ?_ ?_
      rotate_left
      · intro w'
        go_simp
        with_reducible rfl
      rotate_left
      · simp only [Act.put, List.setIfInBounds_toArray, List.set_cons_zero, List.set_cons_succ, iJ, iK]
        rfl
      refine iM (i := 1) (N := some 28) (v := ?_) (a' := ?_) #[true, true, false, false, false, false, false, false, false, false, false, false, false, false, false, false] rfl rfl (iI HT_.out (by kernel_rfl)) (fun _ _ _ h => h) (Or.inl ⟨by rfl, ?_⟩) ?_ ?_
      rotate_left
      · intro w'
        go_simp
        with_reducible rfl
      rotate_left
      · simp only [Act.put, List.setIfInBounds_toArray, List.set_cons_zero, List.set_cons_succ, iJ, iK]
        rfl
      refine iM (i := 2) (N := some 29) (v := ?_) (a' := ?_) #[true, true, true, false, false, false, false, false, false, false, false, false, false, false, false, false] rfl rfl (iI HT_.out (by kernel_rfl)) (fun _ _ _ h => h) (Or.inl ⟨by rfl, ?_⟩) ?_ ?_
      rotate_left
      · intro w'
        go_simp
        with_reducible rfl
      rotate_left
      · simp only [Act.put, List.setIfInBounds_toArray, List.set_cons_zero, List.set_cons_succ, iJ, iK]
        rfl
      refine iM (i := 4) (N := some 31) (v := ?_) (a' := ?_) #[true, true, true, false, true, false, false, false, false, false, false, false, false, false, false, false] rfl rfl (iI HT_.out (by kernel_rfl)) (fun _ _ _ h => h) (Or.inl ⟨by rfl, ?_⟩) ?_ ?_
      rotate_left
      · intro w'
        go_simp
        with_reducible rfl
      rotate_left
      · simp only [Act.put, List.setIfInBounds_toArray, List.set_cons_zero, List.set_cons_succ, iJ, iK]
        rfl
      refine iM (i := 7) (N := some 34) (v := ?_) (a' := ?_) #[true, true, true, false, true, false, false, true, false, false, false, false, false, false, false, false] rfl rfl (iI HT_.out (by kernel_rfl)) (fun _ _ _ h => h) (Or.inl ⟨by rfl, ?_⟩) ?_ ?_
      rotate_left
      · intro w'
        go_simp
        with_reducible rfl
      rotate_left
      · simp only [Act.put, List.setIfInBounds_toArray, List.set_cons_zero, List.set_cons_succ, iJ, iK]
        rfl
      refine iM (i := 8) (N := some 35) (v := ?_) (a' := ?_) #[true, true, true, false, true, false, false, true, true, false, false, false, false, false, false, false] rfl rfl (iI HT_.out (by kernel_rfl)) (fun _ _ _ h => h) (Or.inl ⟨by rfl, ?_⟩) ?_ ?_
      rotate_left
      · intro w'
        go_simp
        with_reducible rfl
      rotate_left
      · simp only [Act.put, List.setIfInBounds_toArray, List.set_cons_zero, List.set_cons_succ, iJ, iK]
        rfl
      refine iM (i := 9) (N := some 36) (v := ?_) (a' := ?_) #[true, true, true, false, true, false, false, true, true, true, false, false, false, false, false, false] rfl rfl (iI HT_.out (by kernel_rfl)) (fun _ _ _ h => h) (Or.inl ⟨by rfl, ?_⟩) ?_ ?_
      rotate_left
      · intro w'
        go_simp
        with_reducible rfl
      rotate_left
      · simp only [Act.put, List.setIfInBounds_toArray, List.set_cons_zero, List.set_cons_succ, iJ, iK]
        rfl
      refine jH (i := 3) (N := some 30) (v := ?_) (a' := ?_) #[true, true, true, true, true, false, false, true, true, true, false, false, false, false, false, false] rfl rfl (iT HT_.out HW_.out (by kernel_rfl)) (fun _ _ _ h => h) (Or.inl ⟨by rfl, ?_⟩) hHeld ?_ ?_
      rotate_left
      · rintro w' ⟨s0, s1, s2⟩
        go_simp
        with_reducible rfl
      rotate_left
      · simp only [Act.put, List.setIfInBounds_toArray, List.set_cons_zero, List.set_cons_succ, iJ, iK]
        rfl
      refine jH (i := 5) (N := some 32) (v := ?_) (a' := ?_) #[true, true, true, true, true, true, false, true, true, true, false, false, false, false, false, false] rfl rfl (iT HT_.out HW_.out (by kernel_rfl)) (fun _ _ _ h => h) (Or.inl ⟨by rfl, ?_⟩) hHeld ?_ ?_
      rotate_left
      · rintro w' ⟨s0, s1, s2⟩
        go_simp
        with_reducible rfl
      rotate_left
      · simp only [Act.put, List.setIfInBounds_toArray, List.set_cons_zero, List.set_cons_succ, iJ, iK]
        rfl
      refine iM (i := 6) (N := some 33) (v := ?_) (a' := ?_) #[true, true, true, true, true, true, true, true, true, true, false, false, false, false, false, false] rfl rfl (iI HT_.out (by kernel_rfl)) (fun _ _ _ h => h) (Or.inl ⟨by rfl, ?_⟩) ?_ ?_
      rotate_left
      · intro w'
        go_simp
        with_reducible rfl
      rotate_left
      · simp only [Act.put, List.setIfInBounds_toArray, List.set_cons_zero, List.set_cons_succ, iJ, iK]
        rfl
      refine jH (i := 10) (N := some 37) (v := ?_) (a' := ?_) #[true, true, true, true, true, true, true, true, true, true, true, false, false, false, false, false] rfl rfl (iT HT_.out HW_.out (by kernel_rfl)) (fun _ _ _ h => h) (Or.inl ⟨by rfl, ?_⟩) hHeld ?_ ?_
      rotate_left
      · rintro w' ⟨s0, s1, s2⟩
        go_simp
        with_reducible rfl
      rotate_left
      · simp only [Act.put, List.setIfInBounds_toArray, List.set_cons_zero, List.set_cons_succ, iJ, iK]
        rfl
      refine iM (i := 11) (N := some 38) (v := ?_) (a' := ?_) #[true, true, true, true, true, true, true, true, true, true, true, true, false, false, false, false] rfl rfl (iI HT_.out (by kernel_rfl)) (fun _ _ _ h => h) (Or.inl ⟨by rfl, ?_⟩) ?_ ?_
      rotate_left
      · intro w'
        go_simp
        with_reducible rfl
      rotate_left
      · simp only [Act.put, List.setIfInBounds_toArray, List.set_cons_zero, List.set_cons_succ, iJ, iK]
        rfl
      refine iM (i := 12) (N := some 39) (v := ?_) (a' := ?_) #[true, true, true, true, true, true, true, true, true, true, true, true, true, false, false, false] rfl rfl (iI HT_.out (by kernel_rfl)) (fun _ _ _ h => h) (Or.inl ⟨by rfl, ?_⟩) ?_ ?_
      rotate_left
      · intro w'
        go_simp
        with_reducible rfl
      rotate_left
      · simp only [Act.put, List.setIfInBounds_toArray, List.set_cons_zero, List.set_cons_succ, iJ, iK]
        rfl
      refine iM (i := 13) (N := some 40) (v := ?_) (a' := ?_) #[true, true, true, true, true, true, true, true, true, true, true, true, true, true, false, false] rfl rfl (iI HT_.out (by kernel_rfl)) (fun _ _ _ h => h) (Or.inl ⟨by rfl, ?_⟩) ?_ ?_
      rotate_left
      · intro w'
        go_simp
        with_reducible rfl
      rotate_left
      · simp only [Act.put, List.setIfInBounds_toArray, List.set_cons_zero, List.set_cons_succ, iJ, iK]
        rfl
      refine jH (i := 14) (N := some 41) (v := ?_) (a' := ?_) #[true, true, true, true, true, true, true, true, true, true, true, true, true, true, true, false] rfl rfl (iT HT_.out HW_.out (by kernel_rfl)) (fun _ _ _ h => h) (Or.inl ⟨by rfl, ?_⟩) hHeld ?_ ?_
      rotate_left
      · rintro w' ⟨s0, s1, s2⟩
        go_simp
        with_reducible rfl
      rotate_left
      · simp only [Act.put, List.setIfInBounds_toArray, List.set_cons_zero, List.set_cons_succ, iJ, iK]
        rfl
      refine iM (i := 15) (N := some 5) (v := ?_) (a' := ?_) #[true, true, true, true, true, true, true, true, true, true, true, true, true, true, true, true] rfl rfl (iI HT_.out (by kernel_rfl)) (fun _ _ _ h => h) (Or.inl ⟨by rfl, ?_⟩) ?_ ?_
      rotate_left
      · intro w'
        go_simp
        with_reducible rfl
      rotate_left
      · simp only [Act.put, List.setIfInBounds_toArray, List.set_cons_zero, List.set_cons_succ, iJ, iK]
        rfl
      refine kP (jM HT_.out (by kernel_rfl)) ?_
      have hb12 : Below W1.heap.size W1 W1.drew := iP (Below.refl _ _)
      go_wp2_with fail
      go_meet
      exact ⟨_, rfl, ⟨by
        have hjl : j < ids.length := by rw [HL.out]; exact hjL
        unfold rd; rw [Int.toNat_natCast, List.getD_eq_getElem?_getD, List.getElem?_eq_getElem hjl]
        exact HH.out.idr _ (List.getElem_mem hjl)⟩, ⟨HT1.out.below hb12⟩, ⟨iV hb12 HO1.out⟩, ⟨HB1.out.trans (DFr.of_below hb12 HT1.out.Ble)⟩⟩
    · have hse : (decide (0 < L) && decide (oid < 250)) = false := by
        rw [Bool.eq_false_iff]; intro hh; simp at hh; exact hsel hh
      rw [hse]
      go_wp2_with fail
      go_meet
      exact ⟨_, rfl, ⟨by omega⟩, HT1, HO1, HB1⟩
  case rest =>
    obtain ⟨id, rfl, HIDR, HT2, HO2, HB2⟩ := hcut
    obtain ⟨W2, rfl⟩ : ∃ x : World, x = wc := ⟨_, rfl⟩
    clear u2 o1 o4 HT1 HO1 HB1 HRI HW1
    have p0 := (iD HO2.out 0).trans (show _ = some (Value.int .u8 (kd : Int)) from rfl)
    have p4 := (iD HO2.out 4).trans (show _ = some (Value.int .u8 (on : Int)) from rfl)
    go_upto_if 49 with fail
    go_cut [49] (fun x wx => x = .bool ((d : Int) == 0 || (d : Int) == 1) ∧ W2 = wx)
    case first =>
      by_cases h0 : d = 0
      · subst h0
        go_wp2_with fail
        go_meet
        exact ⟨rfl, rfl⟩
      · have g0 : ((d : Int) == 0) = false := by simp; omega
        go_wp2_with fail
        go_meet
        exact ⟨by simp [g0], rfl⟩
    case rest =>
    obtain ⟨rfl, rfl⟩ := hcut
    by_cases h01 : d = 0 ∨ d = 1
    · have gb : ((d : Int) == 0 || (d : Int) == 1) = true := by rcases h01 with h | h <;> simp [h]
      rw [gb]
      have hno := pF (nd : Int) W2 (by omega)
      obtain ⟨ns, hns⟩ : ∃ ns, ns = nP (nd : Int) := ⟨_, rfl⟩
      have hns6 := (uD (nd : Int)).len
      rw [← hns] at hno hns6
      have p3 := (iD HO2.out 3).trans (show _ = some (Value.int .u8 (nd : Int)) from rfl)
      clear hns gb
      go_wp2_with fail
      go_at_call 11
      refine hno.mono ?_
      rintro e w3 ⟨A2, q2, rfl, hR3, hb3⟩
      have HT3 := iC.mk (HT2.out.below hb3)
      have HO3 := iC.mk (iV hb3 HO2.out)
      have HB3 := iC.mk (HB2.out.trans (DFr.of_below hb3 HT2.out.Ble))
      have HR3 := iC.mk (Kd.R_lower hR3 HT2.out.Ble)
      have p6 := (iD HO3.out 6).trans (show _ = some (Value.slice Ar M kr) from rfl)
      obtain ⟨M9, hM9⟩ : ∃ M9, ns.length = M9 := ⟨_, rfl⟩
      have HM9 := iC.mk hM9
      rw [hM9] at hns6 ⊢
      clear hno hR3 hb3 hM9 p0 p3 p4 HT2 HO2 HB2
      go_upto_if 58 with fail
      go_cut [7] (fun x wx => ∃ (lA : Option Addr) (ll : List Int) (lk K : Nat), x = .slice lA K lk ∧ K ≤ lk ∧ K ≤ 20 ∧ w3 = wx ∧ iC (ll.length = K) ∧ iC (∀ W4, CoFr B w3 W4 → ki.C W4 lA K ll ∧ ∀ W5, RoFr B W4 W5 → ki.C W5 lA K ll))
      case first =>
        by_cases hM0 : M = 0
        · subst hM0
          go_wp2_with fail
          go_meet
          refine ⟨A2, ns, q2, M9, rfl, by rw [← HM9.out]; exact (R_C HR3.out).2.1, by omega, rfl, HM9, ⟨fun W4 h4 => ?_⟩⟩
          have hE : ∀ q, q ∈ 3 :: ki.E → q = 3 := fun q hq => by simpa [show ki.E = [] from rfl] using hq
          have hr4 := h4.rows HR3.out (fun q hq => by (obtain rfl := hE q hq); exact (by decide))
          refine ⟨?_, fun W5 h5 => ?_⟩
          · have := (R_C hr4).2.2; rw [HM9.out] at this; exact this
          · have := (R_C (h5.rows hr4 (fun q hq => by (obtain rfl := hE q hq); exact (by decide)))).2.2; rw [HM9.out] at this; exact this
        · have hMp : decide (0 < (M : Int)) = true := decide_eq_true (by omega)
          have hMn : decide (0 < M) = true := decide_eq_true (by omega)
          go_wp2_with fail
          go_meet
          refine ⟨Ar, rr, kr, M, rfl, hrk, hrl, rfl, HM2, ⟨fun W4 h4 => ⟨?_, fun W5 h5 => ?_⟩⟩⟩
          · have := HRW.out W4 (HB3.out.below.trans h4.below); rw [HM2.out] at this; exact this
          · have := HRW.out W5 ((HB3.out.below.trans h4.below).trans h5.below); rw [HM2.out] at this; exact this
      case rest =>
      obtain ⟨lA, ll, lk, K, rfl, hKk, hK20, rfl, HK, HLL⟩ := hcut
      have hcb := uM HT3.out.co (A := lA) (l := ll) (k := lk) (fun W' hf => by rw [HK.out]; exact (HLL.out W' hf).1) (by rw [HK.out]; exact hKk) (by have := HNN.out; omega)
      obtain ⟨hbe, hbi⟩ := xP s HT3.out.co.ok ll
      obtain ⟨bi, hBI⟩ : ∃ bi, bi = (s.beginId ll).1 := ⟨_, rfl⟩
      obtain ⟨be, hBE⟩ : ∃ be, be = (s.beginId ll).2 := ⟨_, rfl⟩
      rw [HK.out, ← hBI, ← hBE] at hcb
      rw [← hBE] at hbe
      rw [← hBI] at hbi
      have HBI := iC.mk hBI
      have HBE := iC.mk hBE
      have HBR := iC.mk hbi
      have HOR := iC.mk hbe
      obtain ⟨Ai3, ki3, t0, _⟩ := HT3.out.blk
      have u0 := (iD t0 0).trans (show _ = some (Value.pointer (some ⟨c, 0, none⟩)) from rfl)
      have HT0 := iC.mk t0
      clear t0 hBI hBE hbi hbe p6
      go_wp2_with fail
      go_at_call 13
      refine hcb.mono ?_
      rintro e w4 ⟨rfl, h4, hf4⟩
      have H4 := iC.mk h4
      have HF4 := iC.mk hf4
      have t4 := hf4.cells _ _ _ _ HT0.out (by decide) (by decide)
      have u1 := (iD t4 1).trans (show _ = some (Value.pointer (some ⟨rc, 0, none⟩)) from rfl)
      have hrb := yB (HT3.out.ro.co hf4) HT3.out.co.ok (by have := HNN.out; omega) (A := lA) (l := ll) (k := lk) (fun W' hf => by rw [HK.out]; exact (HLL.out w4 HF4.out).2 W' hf) (by rw [HK.out]; exact hKk) (by rw [HK.out]; omega)
      rw [HK.out, ← HBI.out, ← HBE.out] at hrb
      clear hcb h4 hf4 t4 u0
      go_wp2_with fail
      go_at_call 58
      refine hrb.mono ?_
      rintro e w5 ⟨rfl, h5, hf5⟩
      have HTW := iC.mk (HT3.out.both H4.out HF4.out h5 hf5)
      have HFB := iC.mk ((HB3.out.trans (DFr.of_co HF4.out)).trans (DFr.of_ro hf5))
      clear hrb h5 hf5 u1
      by_cases hb0 : be = 0
      · subst hb0
        obtain ⟨A5, k5, t5, hR5⟩ := HTW.out.blk
        have u2 := (iD t5 2).trans (show _ = some (Value.slice A5 ids.length k5) from rfl)
        rw [HL.out] at u2
        have HR5 := iC.mk hR5
        have HT5 := iC.mk t5
        have hlen := HNN.out
        have HRL := iC.mk (show ku.R 28 w5 B (fun _ => True) (.slice A5 L k5) ids from by rw [← HL.out]; exact hR5)
        clear t5 hR5 hlen
        go_wp2_with (at_builtin; go_loud (refine Kd.R_append ku (w0 := w5) B rfl (.tmp 85) (.tmp 87) 51 28 (.int .u32 0) 4 rfl Try.underlying51 NE rfl (by decide) (by omega) (.slice A5 L k5) ids bi [.int .u32 bi] (fun _ => True) (fun _ => False) rfl rfl rfl (fun _ hk => hk.elim) (fun _ _ => trivial) HRL.out (Below.refl _ _) HTW.out.Ble (by have := HNN.out; omega) ?_; intro v1 w6 ho1 hb1 hg1 hat1; obtain ⟨A6, k6, rfl⟩ := Kd.R_slice ho1; have HO6 := iC.mk ho1; have HG6 := iC.mk (show w5.grownBy w6 (Value.slice A5 ids.length k5).ownBlock from by rw [HL.out]; exact hg1); have ht6 := jR (g := tp) HT5.out HG6.out (Kd.R_ne HR5.out HT5.out (by decide)); have u6 := (iD ht6 2).trans (show _ = some (Value.slice A5 ids.length k5) from rfl); have f6 := iE ht6 2; clear ho1 hb1 hg1 hat1 ht6 u2))
        go_ret
        have hp := HTW.out.push HT5.out HR5.out HBR.out HO6.out HG6.out
        rw [show (ids ++ [bi]).length = ids.length + 1 from by simp] at hp
        exact ⟨rfl, n + 1, s.begin_ ll, ids ++ [bi], hp.1, pU s ll, Nat.le_refl _, ⟨[bi], rfl⟩, by simp, HFB.out.trans hp.2⟩
      · have hbe := HOR.out
        rcases hbe with h | rfl | rfl | rfl
        · exact absurd h hb0
        all_goals
          clear hb0
          go_wp2
          go_ret
          exact ⟨rfl, n + 1, s.begin_ ll, ids, HTW.out, pU s ll, Nat.le_refl _, List.prefix_refl _, Nat.le_succ _, HFB.out⟩
    · have gb : ((d : Int) == 0 || (d : Int) == 1) = false := by
        have h0 : ((d : Int) == 0) = false := by simp; omega
        have h1 : ((d : Int) == 1) = false := by simp; omega
        rw [h0, h1]; rfl
      rw [gb]
      clear gb
      go_upto_if 100 with fail
      go_cut [100] (fun x wx => x = .bool ((d : Int) == 2 || (d : Int) == 3 || (d : Int) == 4) ∧ W2 = wx)
      case first =>
        by_cases h2 : d = 2
        · subst h2
          go_wp2_with fail
          go_meet
          exact ⟨rfl, rfl⟩
        · have g2 : ((d : Int) == 2) = false := by simp; omega
          by_cases h3 : d = 3
          · subst h3
            go_wp2_with fail
            go_meet
            exact ⟨rfl, rfl⟩
          · have g3 : ((d : Int) == 3) = false := by simp; omega
            go_wp2_with fail
            go_meet
            exact ⟨by simp [g2, g3], rfl⟩
      case rest =>
      obtain ⟨rfl, rfl⟩ := hcut
      by_cases hv : d = 2 ∨ d = 3 ∨ d = 4
      · have gv : ((d : Int) == 2 || (d : Int) == 3 || (d : Int) == 4) = true := by rcases hv with h | h | h <;> simp [h]
        rw [gv]
        clear gv hv
        obtain ⟨Ai, ki', t0, _⟩ := HT2.out.blk
        have u0 := (iD t0 0).trans (show _ = some (Value.pointer (some ⟨c, 0, none⟩)) from rfl)
        have u1 := (iD t0 1).trans (show _ = some (Value.pointer (some ⟨rc, 0, none⟩)) from rfl)
        have hcv := qM (HT2.out.co.below (iP (Below.refl _ _))) HIDR.out (k7 : Int) (by omega)
        have HT0 := iC.mk t0
        clear t0
        go_upto_region 19 with fail
        refine jQ (n := 16) (S := fun w' => w'.cell? ⟨tp, 0, none⟩ = some (.pointer (some ⟨c, 0, none⟩)) ∧ w'.cell? ⟨tp, 1, none⟩ = some (.pointer (some ⟨rc, 0, none⟩))) (ds := []) #[false, false, false, false, false, false, false, false, false, false, false, false, false, false, false, false] (by kernel_rfl) rfl rfl ⟨u0, u1⟩ (fun hHeld => ?_)
        refine jE (T := (true, [([], []), ([0], [0]), ([1], [1]), ([2], [2]), ([], []), ([], []), ([3, 4, 5], [3, 4, 5]), ([], []), ([7], [7]), ([8], [8]), ([9], [9]), ([], []), ([], []), ([10, 11, 12, 6], [10, 11, 12]), ([6, 13], [6, 13]), ([14, 13, 0, 1, 2, 3, 4, 5, 6, 7, 8, 9, 10, 11, 12, 13, 14], [14])])) (B := [0, 1, 3, 7, 0, 0, 63, 0, 128, 384, 896, 0, 0, 8191, 16383, 32767]) (by kernel_rfl) (by kernel_rfl) (fun HT_ HW_ => ?_)
        refine iM (i := 0) (N := some 104) (v := ?_) (a' := ?_) #[true, false, false, false, false, false, false, false, false, false, false, false, false, false, false, false] rfl rfl (iI HT_.out (by kernel_rfl)) (fun _ _ _ h => h) (Or.inl ⟨by rfl, ?_⟩) ?_ ?_
        rotate_left
        · intro w'
          go_simp
          with_reducible rfl
        rotate_left
        · simp only [Act.put, List.setIfInBounds_toArray, List.set_cons_zero, List.set_cons_succ, iJ, iK]
          rfl
        refine iM (i := 1) (N := some 105) (v := ?_) (a' := ?_) #[true, true, false, false, false, false, false, false, false, false, false, false, false, false, false, false] rfl rfl (iI HT_.out (by kernel_rfl)) (fun _ _ _ h => h) (Or.inl ⟨by rfl, ?_⟩) ?_ ?_
        rotate_left
        · intro w'
          go_simp
          with_reducible rfl
        rotate_left
        · simp only [Act.put, List.setIfInBounds_toArray, List.set_cons_zero, List.set_cons_succ, iJ, iK]
          rfl
        refine iM (i := 2) (N := some 106) (v := ?_) (a' := ?_) #[true, true, true, false, false, false, false, false, false, false, false, false, false, false, false, false] rfl rfl (iI HT_.out (by kernel_rfl)) (fun _ _ _ h => h) (Or.inl ⟨by rfl, ?_⟩) ?_ ?_
        rotate_left
        · intro w'
          go_simp
          with_reducible rfl
        rotate_left
        · simp only [Act.put, List.setIfInBounds_toArray, List.set_cons_zero, List.set_cons_succ, iJ, iK]
          rfl
        refine iM (i := 4) (N := some 108) (v := ?_) (a' := ?_) #[true, true, true, false, true, false, false, false, false, false, false, false, false, false, false, false] rfl rfl (iI HT_.out (by kernel_rfl)) (fun _ _ _ h => h) (Or.inl ⟨by rfl, ?_⟩) ?_ ?_
        rotate_left
        · intro w'
          go_simp
          with_reducible rfl
        rotate_left
        · simp only [Act.put, List.setIfInBounds_toArray, List.set_cons_zero, List.set_cons_succ, iJ, iK]
          rfl
        refine iM (i := 5) (N := some 109) (v := ?_) (a' := ?_) #[true, true, true, false, true, true, false, false, false, false, false, false, false, false, false, false] rfl rfl (iI HT_.out (by kernel_rfl)) (fun _ _ _ h => h) (Or.inl ⟨by rfl, ?_⟩) ?_ ?_
        rotate_left
        · intro w'
          go_simp
          with_reducible rfl
        rotate_left
        · simp only [Act.put, List.setIfInBounds_toArray, List.set_cons_zero, List.set_cons_succ, iJ, iK]
          rfl
        refine iM (i := 7) (N := some 111) (v := ?_) (a' := ?_) #[true, true, true, false, true, true, false, true, false, false, false, false, false, false, false, false] rfl rfl (iI HT_.out (by kernel_rfl)) (fun _ _ _ h => h) (Or.inl ⟨by rfl, ?_⟩) ?_ ?_
        rotate_left
        · intro w'
          go_simp
          with_reducible rfl
        rotate_left
        · simp only [Act.put, List.setIfInBounds_toArray, List.set_cons_zero, List.set_cons_succ, iJ, iK]
          rfl
        refine iM (i := 8) (N := some 112) (v := ?_) (a' := ?_) #[true, true, true, false, true, true, false, true, true, false, false, false, false, false, false, false] rfl rfl (iI HT_.out (by kernel_rfl)) (fun _ _ _ h => h) (Or.inl ⟨by rfl, ?_⟩) ?_ ?_
        rotate_left
        · intro w'
          go_simp
          with_reducible rfl
        rotate_left
        · simp only [Act.put, List.setIfInBounds_toArray, List.set_cons_zero, List.set_cons_succ, iJ, iK]
          rfl
        refine iM (i := 9) (N := some 113) (v := ?_) (a' := ?_) #[true, true, true, false, true, true, false, true, true, true, false, false, false, false, false, false] rfl rfl (iI HT_.out (by kernel_rfl)) (fun _ _ _ h => h) (Or.inl ⟨by rfl, ?_⟩) ?_ ?_
        rotate_left
        · intro w'
          go_simp
          with_reducible rfl
        rotate_left
        · simp only [Act.put, List.setIfInBounds_toArray, List.set_cons_zero, List.set_cons_succ, iJ, iK]
          rfl
        refine iM (i := 11) (N := some 115) (v := ?_) (a' := ?_) #[true, true, true, false, true, true, false, true, true, true, false, true, false, false, false, false] rfl rfl (iI HT_.out (by kernel_rfl)) (fun _ _ _ h => h) (Or.inl ⟨by rfl, ?_⟩) ?_ ?_
        rotate_left
        · intro w'
          go_simp
          with_reducible rfl
        rotate_left
        · simp only [Act.put, List.setIfInBounds_toArray, List.set_cons_zero, List.set_cons_succ, iJ, iK]
          rfl
        refine iM (i := 12) (N := some 116) (v := ?_) (a' := ?_) #[true, true, true, false, true, true, false, true, true, true, false, true, true, false, false, false] rfl rfl (iI HT_.out (by kernel_rfl)) (fun _ _ _ h => h) (Or.inl ⟨by rfl, ?_⟩) ?_ ?_
        rotate_left
        · intro w'
          go_simp
          with_reducible rfl
        rotate_left
        · simp only [Act.put, List.setIfInBounds_toArray, List.set_cons_zero, List.set_cons_succ, iJ, iK]
          rfl
        refine jH (i := 3) (N := some 107) (v := ?_) (a' := ?_) #[true, true, true, true, true, true, false, true, true, true, false, true, true, false, false, false] rfl rfl (iT HT_.out HW_.out (by kernel_rfl)) (fun _ _ _ h => h) (Or.inl ⟨by rfl, ?_⟩) hHeld ?_ ?_
        rotate_left
        · rintro w' ⟨s0, s1⟩
          go_simp
          with_reducible rfl
        rotate_left
        · simp only [Act.put, List.setIfInBounds_toArray, List.set_cons_zero, List.set_cons_succ, iJ, iK]
          rfl
        refine jH (i := 10) (N := some 114) (v := ?_) (a' := ?_) #[true, true, true, true, true, true, false, true, true, true, true, true, true, false, false, false] rfl rfl (iT HT_.out HW_.out (by kernel_rfl)) (fun _ _ _ h => h) (Or.inl ⟨by rfl, ?_⟩) hHeld ?_ ?_
        rotate_left
        · rintro w' ⟨s0, s1⟩
          go_simp
          with_reducible rfl
        rotate_left
        · simp only [Act.put, List.setIfInBounds_toArray, List.set_cons_zero, List.set_cons_succ, iJ, iK]
          rfl
        refine one_ (i := 6) (N := some 110) #[true, true, true, true, true, true, true, true, true, true, true, true, true, false, false, false] rfl rfl (jK HT_.out (by kernel_rfl)) (by decide) (fun K hK => ?_)
        refine l7 Try.func14 (by kernel_rfl) rfl #[.pointer (some ⟨c, 0, none⟩), .int .u32 id, .int .i64 (k7 : Int)] (by rfl) rfl rfl (by simp only [List.map_toArray, List.map_cons, List.map_nil]; rfl) ?_
        with_reducible refine (hcv).mono ?_
        rintro e w3 ⟨rfl, h3, hf3⟩
        refine ⟨_, rfl, ?_⟩
        have H3 := iC.mk h3
        have HF3 := iC.mk ((CoFr.of_below (iP (Below.refl _ _)) HT2.out.Ble).trans hf3)
        have t3 := HF3.out.cells _ _ _ _ HT0.out (by decide) (by decide)
        have hrv := yU (HT2.out.ro.co HF3.out) HT2.out.co.ok id (k7 : Int)
        have HT3' := iC.mk t3
        clear h3 hf3 hcv t3
        refine hK.out _ _ ⟨(iD HT3'.out 0).trans rfl, (iD HT3'.out 1).trans rfl⟩ (fun hHeld => ?_)
        clear hK K
        refine kC (a' := ?_) ?_ ?_
        rotate_left
        · show Act.put _ (some 110) _ = _
          simp only [Act.put, List.setIfInBounds_toArray, List.set_cons_zero, List.set_cons_succ, iJ, iK]
          rfl
        refine one_ (i := 13) (N := some 117) #[true, true, true, true, true, true, true, true, true, true, true, true, true, true, false, false] rfl rfl (jK HT_.out (by kernel_rfl)) (by decide) (fun K hK => ?_)
        refine l7 Try.func59 (by kernel_rfl) rfl #[.pointer (some ⟨rc, 0, none⟩), .int .u32 id, .int .i64 (k7 : Int)] (by rfl) rfl rfl (by simp only [List.map_toArray, List.map_cons, List.map_nil]; rfl) ?_
        with_reducible refine (hrv).mono ?_
        rintro e w4 ⟨rfl, h4, hf4⟩
        refine ⟨_, rfl, ?_⟩
        have HTW := iC.mk (HT2.out.both H3.out HF3.out h4 hf4)
        have HFB := iC.mk ((HB2.out.trans (DFr.of_co HF3.out)).trans (DFr.of_ro hf4))
        have t4 := hf4.keep _ _ HT3'.out (fun cs t fz e => by injection e with _ e2 _; subst e2; exact ⟨by decide, by decide⟩)
        have HT4' := iC.mk t4
        clear h4 hf4 hrv t4
        refine hK.out _ _ ⟨(iD HT4'.out 0).trans rfl, (iD HT4'.out 1).trans rfl⟩ (fun hHeld => ?_)
        clear hK K
        refine kC (a' := ?_) ?_ ?_
        rotate_left
        · show Act.put _ (some 117) _ = _
          simp only [Act.put, List.setIfInBounds_toArray, List.set_cons_zero, List.set_cons_succ, iJ, iK]
          rfl
        refine iM (i := 14) (N := some 118) (v := ?_) (a' := ?_) #[true, true, true, true, true, true, true, true, true, true, true, true, true, true, true, false] rfl rfl (iI HT_.out (by kernel_rfl)) (fun _ _ _ h => h) (Or.inl ⟨by rfl, ?_⟩) ?_ ?_
        rotate_left
        · intro w'
          go_simp
          with_reducible rfl
        rotate_left
        · simp only [Act.put, List.setIfInBounds_toArray, List.set_cons_zero, List.set_cons_succ, iJ, iK]
          rfl
        refine iM (i := 15) (N := some 4) (v := ?_) (a' := ?_) #[true, true, true, true, true, true, true, true, true, true, true, true, true, true, true, true] rfl rfl (iI HT_.out (by kernel_rfl)) (fun _ _ _ h => h) (Or.inl ⟨by rfl, ?_⟩) ?_ ?_
        rotate_left
        · intro w'
          go_simp
          with_reducible rfl
        rotate_left
        · simp only [Act.put, List.setIfInBounds_toArray, List.set_cons_zero, List.set_cons_succ, iJ, iK]
          rfl
        refine kP (jM HT_.out (by kernel_rfl)) ?_
        have hbb : (s.voteE id (k7 : Int) == s.voteE id (k7 : Int)) = true := by simp
        go_wp2
        go_ret
        exact ⟨rfl, n, s.vote id (k7 : Int), ids, HTW.out, xW s id _, Nat.le_succ _, List.prefix_refl _, Nat.le_succ _, HFB.out⟩
      · have gv : ((d : Int) == 2 || (d : Int) == 3 || (d : Int) == 4) = false := by
          have h2 : ((d : Int) == 2) = false := by simp; omega
          have h3 : ((d : Int) == 3) = false := by simp; omega
          have h4 : ((d : Int) == 4) = false := by simp; omega
          rw [h2, h3, h4]; rfl
        rw [gv]
        clear gv
        by_cases h5 : d = 5
        · subst h5
          obtain ⟨Ai, ki', t0, _⟩ := HT2.out.blk
          have u0 := (iD t0 0).trans (show _ = some (Value.pointer (some ⟨c, 0, none⟩)) from rfl)
          have u1 := (iD t0 1).trans (show _ = some (Value.pointer (some ⟨rc, 0, none⟩)) from rfl)
          have hcv := IW (HT2.out.co.below (iP (Below.refl _ _))) HIDR.out
          have HT0 := iC.mk t0
          clear t0
          go_upto_region 21 with fail
          refine jQ (n := 14) (S := fun w' => w'.cell? ⟨tp, 0, none⟩ = some (.pointer (some ⟨c, 0, none⟩)) ∧ w'.cell? ⟨tp, 1, none⟩ = some (.pointer (some ⟨rc, 0, none⟩))) (ds := []) #[false, false, false, false, false, false, false, false, false, false, false, false, false, false] (by kernel_rfl) rfl rfl ⟨u0, u1⟩ (fun hHeld => ?_)
          refine jE (T := (true, [([], []), ([0], [0]), ([1], [1]), ([2], [2]), ([], []), ([3, 4], [3, 4]), ([], []), ([6], [6]), ([7], [7]), ([8], [8]), ([], []), ([9, 10, 5], [9, 10]), ([5, 11], [5, 11]), ([12, 11, 0, 1, 2, 3, 4, 5, 6, 7, 8, 9, 10, 11, 12], [12])])) (B := [0, 1, 3, 7, 0, 31, 0, 64, 192, 448, 0, 2047, 4095, 8191]) (by kernel_rfl) (by kernel_rfl) (fun HT_ HW_ => ?_)
          refine iM (i := 0) (N := some 121) (v := ?_) (a' := ?_) #[true, false, false, false, false, false, false, false, false, false, false, false, false, false] rfl rfl (iI HT_.out (by kernel_rfl)) (fun _ _ _ h => h) (Or.inl ⟨by rfl, ?_⟩) ?_ ?_
          rotate_left
          · intro w'
            go_simp
            with_reducible rfl
          rotate_left
          · simp only [Act.put, List.setIfInBounds_toArray, List.set_cons_zero, List.set_cons_succ, iJ, iK]
            rfl
          refine iM (i := 1) (N := some 122) (v := ?_) (a' := ?_) #[true, true, false, false, false, false, false, false, false, false, false, false, false, false] rfl rfl (iI HT_.out (by kernel_rfl)) (fun _ _ _ h => h) (Or.inl ⟨by rfl, ?_⟩) ?_ ?_
          rotate_left
          · intro w'
            go_simp
            with_reducible rfl
          rotate_left
          · simp only [Act.put, List.setIfInBounds_toArray, List.set_cons_zero, List.set_cons_succ, iJ, iK]
            rfl
          refine iM (i := 2) (N := some 123) (v := ?_) (a' := ?_) #[true, true, true, false, false, false, false, false, false, false, false, false, false, false] rfl rfl (iI HT_.out (by kernel_rfl)) (fun _ _ _ h => h) (Or.inl ⟨by rfl, ?_⟩) ?_ ?_
          rotate_left
          · intro w'
            go_simp
            with_reducible rfl
          rotate_left
          · simp only [Act.put, List.setIfInBounds_toArray, List.set_cons_zero, List.set_cons_succ, iJ, iK]
            rfl
          refine iM (i := 4) (N := some 125) (v := ?_) (a' := ?_) #[true, true, true, false, true, false, false, false, false, false, false, false, false, false] rfl rfl (iI HT_.out (by kernel_rfl)) (fun _ _ _ h => h) (Or.inl ⟨by rfl, ?_⟩) ?_ ?_
          rotate_left
          · intro w'
            go_simp
            with_reducible rfl
          rotate_left
          · simp only [Act.put, List.setIfInBounds_toArray, List.set_cons_zero, List.set_cons_succ, iJ, iK]
            rfl
          refine iM (i := 6) (N := some 127) (v := ?_) (a' := ?_) #[true, true, true, false, true, false, true, false, false, false, false, false, false, false] rfl rfl (iI HT_.out (by kernel_rfl)) (fun _ _ _ h => h) (Or.inl ⟨by rfl, ?_⟩) ?_ ?_
          rotate_left
          · intro w'
            go_simp
            with_reducible rfl
          rotate_left
          · simp only [Act.put, List.setIfInBounds_toArray, List.set_cons_zero, List.set_cons_succ, iJ, iK]
            rfl
          refine iM (i := 7) (N := some 128) (v := ?_) (a' := ?_) #[true, true, true, false, true, false, true, true, false, false, false, false, false, false] rfl rfl (iI HT_.out (by kernel_rfl)) (fun _ _ _ h => h) (Or.inl ⟨by rfl, ?_⟩) ?_ ?_
          rotate_left
          · intro w'
            go_simp
            with_reducible rfl
          rotate_left
          · simp only [Act.put, List.setIfInBounds_toArray, List.set_cons_zero, List.set_cons_succ, iJ, iK]
            rfl
          refine iM (i := 8) (N := some 129) (v := ?_) (a' := ?_) #[true, true, true, false, true, false, true, true, true, false, false, false, false, false] rfl rfl (iI HT_.out (by kernel_rfl)) (fun _ _ _ h => h) (Or.inl ⟨by rfl, ?_⟩) ?_ ?_
          rotate_left
          · intro w'
            go_simp
            with_reducible rfl
          rotate_left
          · simp only [Act.put, List.setIfInBounds_toArray, List.set_cons_zero, List.set_cons_succ, iJ, iK]
            rfl
          refine iM (i := 10) (N := some 131) (v := ?_) (a' := ?_) #[true, true, true, false, true, false, true, true, true, false, true, false, false, false] rfl rfl (iI HT_.out (by kernel_rfl)) (fun _ _ _ h => h) (Or.inl ⟨by rfl, ?_⟩) ?_ ?_
          rotate_left
          · intro w'
            go_simp
            with_reducible rfl
          rotate_left
          · simp only [Act.put, List.setIfInBounds_toArray, List.set_cons_zero, List.set_cons_succ, iJ, iK]
            rfl
          refine jH (i := 3) (N := some 124) (v := ?_) (a' := ?_) #[true, true, true, true, true, false, true, true, true, false, true, false, false, false] rfl rfl (iT HT_.out HW_.out (by kernel_rfl)) (fun _ _ _ h => h) (Or.inl ⟨by rfl, ?_⟩) hHeld ?_ ?_
          rotate_left
          · rintro w' ⟨s0, s1⟩
            go_simp
            with_reducible rfl
          rotate_left
          · simp only [Act.put, List.setIfInBounds_toArray, List.set_cons_zero, List.set_cons_succ, iJ, iK]
            rfl
          refine jH (i := 9) (N := some 130) (v := ?_) (a' := ?_) #[true, true, true, true, true, false, true, true, true, true, true, false, false, false] rfl rfl (iT HT_.out HW_.out (by kernel_rfl)) (fun _ _ _ h => h) (Or.inl ⟨by rfl, ?_⟩) hHeld ?_ ?_
          rotate_left
          · rintro w' ⟨s0, s1⟩
            go_simp
            with_reducible rfl
          rotate_left
          · simp only [Act.put, List.setIfInBounds_toArray, List.set_cons_zero, List.set_cons_succ, iJ, iK]
            rfl
          refine one_ (i := 5) (N := some 126) #[true, true, true, true, true, true, true, true, true, true, true, false, false, false] rfl rfl (jK HT_.out (by kernel_rfl)) (by decide) (fun K hK => ?_)
          refine l7 Try.func35 (by kernel_rfl) rfl #[.pointer (some ⟨c, 0, none⟩), .int .u32 id] (by rfl) rfl rfl (by simp only [List.map_toArray, List.map_cons, List.map_nil]; rfl) ?_
          with_reducible refine (hcv).mono ?_
          rintro e w3 ⟨rfl, h3, hf3⟩
          refine ⟨_, rfl, ?_⟩
          have H3 := iC.mk h3
          have HF3 := iC.mk ((CoFr.of_below (iP (Below.refl _ _)) HT2.out.Ble).trans hf3)
          have t3 := HF3.out.cells _ _ _ _ HT0.out (by decide) (by decide)
          have hrv := zI (HT2.out.ro.co HF3.out) HT2.out.co.ok (by have := HNN.out; omega) id
          have HT3' := iC.mk t3
          clear h3 hf3 hcv t3
          refine hK.out _ _ ⟨(iD HT3'.out 0).trans rfl, (iD HT3'.out 1).trans rfl⟩ (fun hHeld => ?_)
          clear hK K
          refine kC (a' := ?_) ?_ ?_
          rotate_left
          · show Act.put _ (some 126) _ = _
            simp only [Act.put, List.setIfInBounds_toArray, List.set_cons_zero, List.set_cons_succ, iJ, iK]
            rfl
          refine one_ (i := 11) (N := some 132) #[true, true, true, true, true, true, true, true, true, true, true, true, false, false] rfl rfl (jK HT_.out (by kernel_rfl)) (by decide) (fun K hK => ?_)
          refine l7 Try.func60 (by kernel_rfl) rfl #[.pointer (some ⟨rc, 0, none⟩), .int .u32 id] (by rfl) rfl rfl (by simp only [List.map_toArray, List.map_cons, List.map_nil]; rfl) ?_
          with_reducible refine (hrv).mono ?_
          rintro e w4 ⟨rfl, h4, hf4⟩
          refine ⟨_, rfl, ?_⟩
          have HTW := iC.mk (HT2.out.both H3.out HF3.out h4 hf4)
          have HFB := iC.mk ((HB2.out.trans (DFr.of_co HF3.out)).trans (DFr.of_ro hf4))
          have t4 := hf4.keep _ _ HT3'.out (fun cs t fz e => by injection e with _ e2 _; subst e2; exact ⟨by decide, by decide⟩)
          have HT4' := iC.mk t4
          clear h4 hf4 hrv t4
          refine hK.out _ _ ⟨(iD HT4'.out 0).trans rfl, (iD HT4'.out 1).trans rfl⟩ (fun hHeld => ?_)
          clear hK K
          refine kC (a' := ?_) ?_ ?_
          rotate_left
          · show Act.put _ (some 132) _ = _
            simp only [Act.put, List.setIfInBounds_toArray, List.set_cons_zero, List.set_cons_succ, iJ, iK]
            rfl
          refine iM (i := 12) (N := some 133) (v := ?_) (a' := ?_) #[true, true, true, true, true, true, true, true, true, true, true, true, true, false] rfl rfl (iI HT_.out (by kernel_rfl)) (fun _ _ _ h => h) (Or.inl ⟨by rfl, ?_⟩) ?_ ?_
          rotate_left
          · intro w'
            go_simp
            with_reducible rfl
          rotate_left
          · simp only [Act.put, List.setIfInBounds_toArray, List.set_cons_zero, List.set_cons_succ, iJ, iK]
            rfl
          refine iM (i := 13) (N := some 4) (v := ?_) (a' := ?_) #[true, true, true, true, true, true, true, true, true, true, true, true, true, true] rfl rfl (iI HT_.out (by kernel_rfl)) (fun _ _ _ h => h) (Or.inl ⟨by rfl, ?_⟩) ?_ ?_
          rotate_left
          · intro w'
            go_simp
            with_reducible rfl
          rotate_left
          · simp only [Act.put, List.setIfInBounds_toArray, List.set_cons_zero, List.set_cons_succ, iJ, iK]
            rfl
          refine kP (jM HT_.out (by kernel_rfl)) ?_
          have hbb : (s.dropE id == s.dropE id) = true := by simp
          go_wp2
          go_ret
          exact ⟨rfl, n, s.drop id, ids, HTW.out, xG s id, Nat.le_succ _, List.prefix_refl _, Nat.le_succ _, HFB.out⟩
        · by_cases h8 : d = 8
          · subst h8
            obtain ⟨Ai, ki', t0, _⟩ := HT2.out.blk
            have u0 := (iD t0 0).trans (show _ = some (Value.pointer (some ⟨c, 0, none⟩)) from rfl)
            have u1 := (iD t0 1).trans (show _ = some (Value.pointer (some ⟨rc, 0, none⟩)) from rfl)
            have hcv := J5 (HT2.out.co.below (iP (Below.refl _ _))) HIDR.out (k7 : Int) (by omega)
            have HT0 := iC.mk t0
            clear t0
            go_upto_region 23 with fail
            refine jQ (n := 16) (S := fun w' => w'.cell? ⟨tp, 0, none⟩ = some (.pointer (some ⟨c, 0, none⟩)) ∧ w'.cell? ⟨tp, 1, none⟩ = some (.pointer (some ⟨rc, 0, none⟩))) (ds := []) #[false, false, false, false, false, false, false, false, false, false, false, false, false, false, false, false] (by kernel_rfl) rfl rfl ⟨u0, u1⟩ (fun hHeld => ?_)
            refine jE (T := (true, [([], []), ([0], [0]), ([1], [1]), ([2], [2]), ([], []), ([], []), ([3, 4, 5], [3, 4, 5]), ([], []), ([7], [7]), ([8], [8]), ([9], [9]), ([], []), ([], []), ([10, 11, 12, 6], [10, 11, 12]), ([6, 13], [6, 13]), ([14, 13, 0, 1, 2, 3, 4, 5, 6, 7, 8, 9, 10, 11, 12, 13, 14], [14])])) (B := [0, 1, 3, 7, 0, 0, 63, 0, 128, 384, 896, 0, 0, 8191, 16383, 32767]) (by kernel_rfl) (by kernel_rfl) (fun HT_ HW_ => ?_)
            refine iM (i := 0) (N := some 136) (v := ?_) (a' := ?_) #[true, false, false, false, false, false, false, false, false, false, false, false, false, false, false, false] rfl rfl (iI HT_.out (by kernel_rfl)) (fun _ _ _ h => h) (Or.inl ⟨by rfl, ?_⟩) ?_ ?_
            rotate_left
            · intro w'
              go_simp
              with_reducible rfl
            rotate_left
            · simp only [Act.put, List.setIfInBounds_toArray, List.set_cons_zero, List.set_cons_succ, iJ, iK]
              rfl
            refine iM (i := 1) (N := some 137) (v := ?_) (a' := ?_) #[true, true, false, false, false, false, false, false, false, false, false, false, false, false, false, false] rfl rfl (iI HT_.out (by kernel_rfl)) (fun _ _ _ h => h) (Or.inl ⟨by rfl, ?_⟩) ?_ ?_
            rotate_left
            · intro w'
              go_simp
              with_reducible rfl
            rotate_left
            · simp only [Act.put, List.setIfInBounds_toArray, List.set_cons_zero, List.set_cons_succ, iJ, iK]
              rfl
            refine iM (i := 2) (N := some 138) (v := ?_) (a' := ?_) #[true, true, true, false, false, false, false, false, false, false, false, false, false, false, false, false] rfl rfl (iI HT_.out (by kernel_rfl)) (fun _ _ _ h => h) (Or.inl ⟨by rfl, ?_⟩) ?_ ?_
            rotate_left
            · intro w'
              go_simp
              with_reducible rfl
            rotate_left
            · simp only [Act.put, List.setIfInBounds_toArray, List.set_cons_zero, List.set_cons_succ, iJ, iK]
              rfl
            refine iM (i := 4) (N := some 140) (v := ?_) (a' := ?_) #[true, true, true, false, true, false, false, false, false, false, false, false, false, false, false, false] rfl rfl (iI HT_.out (by kernel_rfl)) (fun _ _ _ h => h) (Or.inl ⟨by rfl, ?_⟩) ?_ ?_
            rotate_left
            · intro w'
              go_simp
              with_reducible rfl
            rotate_left
            · simp only [Act.put, List.setIfInBounds_toArray, List.set_cons_zero, List.set_cons_succ, iJ, iK]
              rfl
            refine iM (i := 5) (N := some 141) (v := ?_) (a' := ?_) #[true, true, true, false, true, true, false, false, false, false, false, false, false, false, false, false] rfl rfl (iI HT_.out (by kernel_rfl)) (fun _ _ _ h => h) (Or.inl ⟨by rfl, ?_⟩) ?_ ?_
            rotate_left
            · intro w'
              go_simp
              with_reducible rfl
            rotate_left
            · simp only [Act.put, List.setIfInBounds_toArray, List.set_cons_zero, List.set_cons_succ, iJ, iK]
              rfl
            refine iM (i := 7) (N := some 143) (v := ?_) (a' := ?_) #[true, true, true, false, true, true, false, true, false, false, false, false, false, false, false, false] rfl rfl (iI HT_.out (by kernel_rfl)) (fun _ _ _ h => h) (Or.inl ⟨by rfl, ?_⟩) ?_ ?_
            rotate_left
            · intro w'
              go_simp
              with_reducible rfl
            rotate_left
            · simp only [Act.put, List.setIfInBounds_toArray, List.set_cons_zero, List.set_cons_succ, iJ, iK]
              rfl
            refine iM (i := 8) (N := some 144) (v := ?_) (a' := ?_) #[true, true, true, false, true, true, false, true, true, false, false, false, false, false, false, false] rfl rfl (iI HT_.out (by kernel_rfl)) (fun _ _ _ h => h) (Or.inl ⟨by rfl, ?_⟩) ?_ ?_
            rotate_left
            · intro w'
              go_simp
              with_reducible rfl
            rotate_left
            · simp only [Act.put, List.setIfInBounds_toArray, List.set_cons_zero, List.set_cons_succ, iJ, iK]
              rfl
            refine iM (i := 9) (N := some 145) (v := ?_) (a' := ?_) #[true, true, true, false, true, true, false, true, true, true, false, false, false, false, false, false] rfl rfl (iI HT_.out (by kernel_rfl)) (fun _ _ _ h => h) (Or.inl ⟨by rfl, ?_⟩) ?_ ?_
            rotate_left
            · intro w'
              go_simp
              with_reducible rfl
            rotate_left
            · simp only [Act.put, List.setIfInBounds_toArray, List.set_cons_zero, List.set_cons_succ, iJ, iK]
              rfl
            refine iM (i := 11) (N := some 147) (v := ?_) (a' := ?_) #[true, true, true, false, true, true, false, true, true, true, false, true, false, false, false, false] rfl rfl (iI HT_.out (by kernel_rfl)) (fun _ _ _ h => h) (Or.inl ⟨by rfl, ?_⟩) ?_ ?_
            rotate_left
            · intro w'
              go_simp
              with_reducible rfl
            rotate_left
            · simp only [Act.put, List.setIfInBounds_toArray, List.set_cons_zero, List.set_cons_succ, iJ, iK]
              rfl
            refine iM (i := 12) (N := some 148) (v := ?_) (a' := ?_) #[true, true, true, false, true, true, false, true, true, true, false, true, true, false, false, false] rfl rfl (iI HT_.out (by kernel_rfl)) (fun _ _ _ h => h) (Or.inl ⟨by rfl, ?_⟩) ?_ ?_
            rotate_left
            · intro w'
              go_simp
              with_reducible rfl
            rotate_left
            · simp only [Act.put, List.setIfInBounds_toArray, List.set_cons_zero, List.set_cons_succ, iJ, iK]
              rfl
            refine jH (i := 3) (N := some 139) (v := ?_) (a' := ?_) #[true, true, true, true, true, true, false, true, true, true, false, true, true, false, false, false] rfl rfl (iT HT_.out HW_.out (by kernel_rfl)) (fun _ _ _ h => h) (Or.inl ⟨by rfl, ?_⟩) hHeld ?_ ?_
            rotate_left
            · rintro w' ⟨s0, s1⟩
              go_simp
              with_reducible rfl
            rotate_left
            · simp only [Act.put, List.setIfInBounds_toArray, List.set_cons_zero, List.set_cons_succ, iJ, iK]
              rfl
            refine jH (i := 10) (N := some 146) (v := ?_) (a' := ?_) #[true, true, true, true, true, true, false, true, true, true, true, true, true, false, false, false] rfl rfl (iT HT_.out HW_.out (by kernel_rfl)) (fun _ _ _ h => h) (Or.inl ⟨by rfl, ?_⟩) hHeld ?_ ?_
            rotate_left
            · rintro w' ⟨s0, s1⟩
              go_simp
              with_reducible rfl
            rotate_left
            · simp only [Act.put, List.setIfInBounds_toArray, List.set_cons_zero, List.set_cons_succ, iJ, iK]
              rfl
            refine one_ (i := 6) (N := some 142) #[true, true, true, true, true, true, true, true, true, true, true, true, true, false, false, false] rfl rfl (jK HT_.out (by kernel_rfl)) (by decide) (fun K hK => ?_)
            refine l7 Try.func32 (by kernel_rfl) rfl #[.pointer (some ⟨c, 0, none⟩), .int .u32 id, .int .i64 (k7 : Int)] (by rfl) rfl rfl (by simp only [List.map_toArray, List.map_cons, List.map_nil]; rfl) ?_
            with_reducible refine (hcv).mono ?_
            rintro e w3 ⟨rfl, h3, hf3⟩
            refine ⟨_, rfl, ?_⟩
            have H3 := iC.mk h3
            have HF3 := iC.mk ((CoFr.of_below (iP (Below.refl _ _)) HT2.out.Ble).trans hf3)
            have t3 := HF3.out.cells _ _ _ _ HT0.out (by decide) (by decide)
            have hrv := IA (HT2.out.ro.co HF3.out) HT2.out.co.ok id (k7 : Int)
            have HT3' := iC.mk t3
            clear h3 hf3 hcv t3
            refine hK.out _ _ ⟨(iD HT3'.out 0).trans rfl, (iD HT3'.out 1).trans rfl⟩ (fun hHeld => ?_)
            clear hK K
            refine kC (a' := ?_) ?_ ?_
            rotate_left
            · show Act.put _ (some 142) _ = _
              simp only [Act.put, List.setIfInBounds_toArray, List.set_cons_zero, List.set_cons_succ, iJ, iK]
              rfl
            refine one_ (i := 13) (N := some 149) #[true, true, true, true, true, true, true, true, true, true, true, true, true, true, false, false] rfl rfl (jK HT_.out (by kernel_rfl)) (by decide) (fun K hK => ?_)
            refine l7 Try.func61 (by kernel_rfl) rfl #[.pointer (some ⟨rc, 0, none⟩), .int .u32 id, .int .i64 (k7 : Int)] (by rfl) rfl rfl (by simp only [List.map_toArray, List.map_cons, List.map_nil]; rfl) ?_
            with_reducible refine (hrv).mono ?_
            rintro e w4 ⟨rfl, h4, hf4⟩
            refine ⟨_, rfl, ?_⟩
            have HTW := iC.mk (HT2.out.both H3.out HF3.out h4 hf4)
            have HFB := iC.mk ((HB2.out.trans (DFr.of_co HF3.out)).trans (DFr.of_ro hf4))
            have t4 := hf4.keep _ _ HT3'.out (fun cs t fz e => by injection e with _ e2 _; subst e2; exact ⟨by decide, by decide⟩)
            have HT4' := iC.mk t4
            clear h4 hf4 hrv t4
            refine hK.out _ _ ⟨(iD HT4'.out 0).trans rfl, (iD HT4'.out 1).trans rfl⟩ (fun hHeld => ?_)
            clear hK K
            refine kC (a' := ?_) ?_ ?_
            rotate_left
            · show Act.put _ (some 149) _ = _
              simp only [Act.put, List.setIfInBounds_toArray, List.set_cons_zero, List.set_cons_succ, iJ, iK]
              rfl
            refine iM (i := 14) (N := some 150) (v := ?_) (a' := ?_) #[true, true, true, true, true, true, true, true, true, true, true, true, true, true, true, false] rfl rfl (iI HT_.out (by kernel_rfl)) (fun _ _ _ h => h) (Or.inl ⟨by rfl, ?_⟩) ?_ ?_
            rotate_left
            · intro w'
              go_simp
              with_reducible rfl
            rotate_left
            · simp only [Act.put, List.setIfInBounds_toArray, List.set_cons_zero, List.set_cons_succ, iJ, iK]
              rfl
            refine iM (i := 15) (N := some 4) (v := ?_) (a' := ?_) #[true, true, true, true, true, true, true, true, true, true, true, true, true, true, true, true] rfl rfl (iI HT_.out (by kernel_rfl)) (fun _ _ _ h => h) (Or.inl ⟨by rfl, ?_⟩) ?_ ?_
            rotate_left
            · intro w'
              go_simp
              with_reducible rfl
            rotate_left
            · simp only [Act.put, List.setIfInBounds_toArray, List.set_cons_zero, List.set_cons_succ, iJ, iK]
              rfl
            refine kP (jM HT_.out (by kernel_rfl)) ?_
            have hbb : (s.doneE id (k7 : Int) == s.doneE id (k7 : Int)) = true := by simp
            go_wp2
            go_ret
            exact ⟨rfl, n, s.done id (k7 : Int), ids, HTW.out, xN s id _, Nat.le_succ _, List.prefix_refl _, Nat.le_succ _, HFB.out⟩
          · have g5 : ((d : Int) == 5) = false := by simp; omega
            have g8 : ((d : Int) == 8) = false := by simp; omega
            have hrec := MF HT2.out HT2.out.co.ok kd oid nd on at_ id hk hnd HAT.out HIDR.out (mm := mm) (km := km) (Am := Am) (fun W' hb => HM.out W' (HB2.out.below.trans (hb.mono HT2.out.Ble))) (by rw [HN.out]; exact hmk) HMO.out (vr := .slice Ar M kr)
            rw [HN.out] at hrec
            have p1 := (iD HO2.out 1).trans (show _ = some (Value.int .u8 (oid : Int)) from rfl)
            have p2 := (iD HO2.out 2).trans (show _ = some (Value.int .u32 at_) from rfl)
            have p3 := (iD HO2.out 3).trans (show _ = some (Value.int .u8 (nd : Int)) from rfl)
            have p5 := (iD HO2.out 5).trans (show _ = some (Value.slice Am N km) from rfl)
            have p6 := (iD HO2.out 6).trans (show _ = some (Value.slice Ar M kr) from rfl)
            go_wp2_with fail
            go_at_call 62
            refine hrec.mono ?_
            rintro e w3 ⟨v, rfl, ⟨k, id2, t, A, q, l, e2, A6, q6, sp, rfl, hkk, hi2, ht2, he2, hl2, hs2, hr2, hr6⟩, hb3⟩
            obtain ⟨K1, hK1⟩ : ∃ K1, l.length = K1 := ⟨_, rfl⟩
            obtain ⟨K2, hK2⟩ : ∃ K2, sp.length = K2 := ⟨_, rfl⟩
            have HKs := iC.mk (And.intro hK1 hK2)
            have HR2 := iC.mk hr2
            have HR6 := iC.mk hr6
            have HQS := iC.mk (And.intro hkk (And.intro hi2 (And.intro ht2 (And.intro he2 (And.intro hl2 hs2)))))
            have HT3 := iC.mk (HT2.out.below hb3)
            have HB3 := iC.mk (HB2.out.trans (DFr.of_below hb3 HT2.out.Ble))
            rw [hK1, hK2]
            clear hrec hkk hi2 ht2 he2 hl2 hs2 hr2 hr6 hb3 hK1 hK2 p0 p1 p2 p3 p4 p5 p6
            go_upto_region 25 with fail
            obtain ⟨W5, hW5⟩ : ∃ W5, W5 = w3.alloc (.cells #[.int .u8 k, .int .u32 id2, .int .u32 t, .slice A K1 q, .slice none 0 0, .int .u32 e2, .slice A6 K2 q6, .int .i64 0, .int .i64 0, .slice none 0 0] 48) := ⟨_, rfl⟩
            have hb5 : Below w3.heap.size w3 W5 := by rw [hW5]; exact iF (Below.refl _ _) _
            have hx5 : W5.heap[w3.heap.size]? = some (.cells #[.int .u8 k, .int .u32 id2, .int .u32 t, .slice A K1 q, .slice none 0 0, .int .u32 e2, .slice A6 K2 q6, .int .i64 0, .int .i64 0, .slice none 0 0] 48 (0, 0)) := by rw [hW5]; exact jD rfl
            have HT5 := iC.mk (HT3.out.below hb5)
            have HB5 := iC.mk (HB3.out.trans (DFr.of_below hb5 HT3.out.Ble))
            have HX5 := iC.mk hx5
            have hbd : Below W5.heap.size W5 W5.drew := iP (Below.refl _ _)
            have HRd := iC.mk (Kd.R_below (Kd.R_below HR2.out hb5) hbd)
            have HSd := iC.mk (Kd.R_below (Kd.R_below HR6.out hb5) hbd)
            obtain ⟨X, hX⟩ : ∃ X, X = s.applyE k id2 t e2 := ⟨_, rfl⟩
            have hXr := yA s k id2 t e2
            have hcv := zC (HT5.out.co.below hbd) HQS.out.1 (⟨fr_C HRd.out, (R_Cd HRd.out).2.1, fr_S HSd.out, (R_Cd HSd.out).2.1, fun _ => HQS.out.2.2.2.2.1, HQS.out.2.1, HQS.out.2.2.1, HQS.out.2.2.2.1, HQS.out.2.2.2.2.2⟩ : RecA W5.drew B k id2 t A q l e2 A6 q6 sp) (by have := HNN.out; omega)
            rw [HKs.out.1, HKs.out.2, ← hX] at hcv
            rw [← hX] at hXr
            have hwx : wrap64 X = X := by unfold wrap64; omega
            have HX := iC.mk hX
            have hbb : (X == X) = true := by simp
            obtain ⟨Ai, ki', t0, _⟩ := HT5.out.blk
            have u0 := (iD t0 0).trans (show _ = some (Value.pointer (some ⟨c, 0, none⟩)) from rfl)
            have u1 := (iD t0 1).trans (show _ = some (Value.pointer (some ⟨rc, 0, none⟩)) from rfl)
            have y0 := (iD hx5 0).trans (show _ = some (Value.int .u8 k) from rfl)
            have y1 := (iD hx5 1).trans (show _ = some (Value.int .u32 id2) from rfl)
            have y2 := (iD hx5 2).trans (show _ = some (Value.int .u32 t) from rfl)
            have y3 := (iD hx5 3).trans (show _ = some (Value.slice A K1 q) from rfl)
            have y4 := (iD hx5 4).trans (show _ = some (Value.slice none 0 0) from rfl)
            have y5 := (iD hx5 5).trans (show _ = some (Value.int .u32 e2) from rfl)
            have y6 := (iD hx5 6).trans (show _ = some (Value.slice A6 K2 q6) from rfl)
            have y7 := (iD hx5 7).trans (show _ = some (Value.int .i64 0) from rfl)
            have y8 := (iD hx5 8).trans (show _ = some (Value.int .i64 0) from rfl)
            have y9 := (iD hx5 9).trans (show _ = some (Value.slice none 0 0) from rfl)
            obtain ⟨rb, hrb⟩ : ∃ rb, rb = w3.heap.size := ⟨_, rfl⟩
            rw [← hrb] at y0 y1 y2 y3 y4 y5 y6 y7 y8 y9
            have HRB := iC.mk (show W5.heap[rb]? = some (.cells #[.int .u8 k, .int .u32 id2, .int .u32 t, .slice A K1 q, .slice none 0 0, .int .u32 e2, .slice A6 K2 q6, .int .i64 0, .int .i64 0, .slice none 0 0] 48 (0, 0)) from by rw [hrb]; exact hx5)
            rw [← hW5, ← hrb]
            have HT0 := iC.mk t0
            clear t0 hW5 hb5 hx5 hbd hX hXr hrb
            refine jQ (n := 15) (S := fun w' => w'.cell? ⟨tp, 0, none⟩ = some (.pointer (some ⟨c, 0, none⟩)) ∧ w'.cell? ⟨tp, 1, none⟩ = some (.pointer (some ⟨rc, 0, none⟩)) ∧ w'.cell? ⟨rb, 0, none⟩ = some (.int .u8 k) ∧ w'.cell? ⟨rb, 1, none⟩ = some (.int .u32 id2) ∧ w'.cell? ⟨rb, 2, none⟩ = some (.int .u32 t) ∧ w'.cell? ⟨rb, 3, none⟩ = some (.slice A K1 q) ∧ w'.cell? ⟨rb, 4, none⟩ = some (.slice none 0 0) ∧ w'.cell? ⟨rb, 5, none⟩ = some (.int .u32 e2) ∧ w'.cell? ⟨rb, 6, none⟩ = some (.slice A6 K2 q6) ∧ w'.cell? ⟨rb, 7, none⟩ = some (.int .i64 0) ∧ w'.cell? ⟨rb, 8, none⟩ = some (.int .i64 0) ∧ w'.cell? ⟨rb, 9, none⟩ = some (.slice none 0 0)) (ds := []) #[false, false, false, false, false, false, false, false, false, false, false, false, false, false, false] (by kernel_rfl) rfl rfl ⟨u0, u1, y0, y1, y2, y3, y4, y5, y6, y7, y8, y9⟩ (fun hHeld => ?_)
            refine jE (T := (true, [([], []), ([0], [0]), ([1], [1]), ([2], [2]), ([], []), ([3, 4], [3, 4]), ([5], [5]), ([], []), ([7], [7]), ([8], [8]), ([9], [9]), ([], []), ([10, 11, 5], [10, 11]), ([6, 12], [6, 12]), ([13, 12, 0, 1, 2, 3, 4, 5, 6, 7, 8, 9, 10, 11, 12, 13], [13])])) (B := [0, 1, 3, 7, 0, 31, 63, 0, 128, 384, 896, 0, 4031, 8191, 16383]) (by kernel_rfl) (by kernel_rfl) (fun HT_ HW_ => ?_)
            refine iM (i := 0) (N := some 155) (v := ?_) (a' := ?_) #[true, false, false, false, false, false, false, false, false, false, false, false, false, false, false] rfl rfl (iI HT_.out (by kernel_rfl)) (fun _ _ _ h => h) (Or.inl ⟨by rfl, ?_⟩) ?_ ?_
            rotate_left
            · intro w'
              go_simp
              with_reducible rfl
            rotate_left
            · simp only [Act.put, List.setIfInBounds_toArray, List.set_cons_zero, List.set_cons_succ, iJ, iK]
              rfl
            refine iM (i := 1) (N := some 156) (v := ?_) (a' := ?_) #[true, true, false, false, false, false, false, false, false, false, false, false, false, false, false] rfl rfl (iI HT_.out (by kernel_rfl)) (fun _ _ _ h => h) (Or.inl ⟨by rfl, ?_⟩) ?_ ?_
            rotate_left
            · intro w'
              go_simp
              with_reducible rfl
            rotate_left
            · simp only [Act.put, List.setIfInBounds_toArray, List.set_cons_zero, List.set_cons_succ, iJ, iK]
              rfl
            refine iM (i := 2) (N := some 157) (v := ?_) (a' := ?_) #[true, true, true, false, false, false, false, false, false, false, false, false, false, false, false] rfl rfl (iI HT_.out (by kernel_rfl)) (fun _ _ _ h => h) (Or.inl ⟨by rfl, ?_⟩) ?_ ?_
            rotate_left
            · intro w'
              go_simp
              with_reducible rfl
            rotate_left
            · simp only [Act.put, List.setIfInBounds_toArray, List.set_cons_zero, List.set_cons_succ, iJ, iK]
              rfl
            refine iM (i := 7) (N := some 162) (v := ?_) (a' := ?_) #[true, true, true, false, false, false, false, true, false, false, false, false, false, false, false] rfl rfl (iI HT_.out (by kernel_rfl)) (fun _ _ _ h => h) (Or.inl ⟨by rfl, ?_⟩) ?_ ?_
            rotate_left
            · intro w'
              go_simp
              with_reducible rfl
            rotate_left
            · simp only [Act.put, List.setIfInBounds_toArray, List.set_cons_zero, List.set_cons_succ, iJ, iK]
              rfl
            refine iM (i := 8) (N := some 163) (v := ?_) (a' := ?_) #[true, true, true, false, false, false, false, true, true, false, false, false, false, false, false] rfl rfl (iI HT_.out (by kernel_rfl)) (fun _ _ _ h => h) (Or.inl ⟨by rfl, ?_⟩) ?_ ?_
            rotate_left
            · intro w'
              go_simp
              with_reducible rfl
            rotate_left
            · simp only [Act.put, List.setIfInBounds_toArray, List.set_cons_zero, List.set_cons_succ, iJ, iK]
              rfl
            refine iM (i := 9) (N := some 164) (v := ?_) (a' := ?_) #[true, true, true, false, false, false, false, true, true, true, false, false, false, false, false] rfl rfl (iI HT_.out (by kernel_rfl)) (fun _ _ _ h => h) (Or.inl ⟨by rfl, ?_⟩) ?_ ?_
            rotate_left
            · intro w'
              go_simp
              with_reducible rfl
            rotate_left
            · simp only [Act.put, List.setIfInBounds_toArray, List.set_cons_zero, List.set_cons_succ, iJ, iK]
              rfl
            refine jH (i := 3) (N := some 158) (v := ?_) (a' := ?_) #[true, true, true, true, false, false, false, true, true, true, false, false, false, false, false] rfl rfl (iT HT_.out HW_.out (by kernel_rfl)) (fun _ _ _ h => h) (Or.inl ⟨by rfl, ?_⟩) hHeld ?_ ?_
            rotate_left
            · rintro w' ⟨s0, s1, s2, s3, s4, s5, s6, s7, s8, s9, s10, s11⟩
              go_simp
              with_reducible rfl
            rotate_left
            · simp only [Act.put, List.setIfInBounds_toArray, List.set_cons_zero, List.set_cons_succ, iJ, iK]
              rfl
            refine jH (i := 4) (N := some 159) (v := ?_) (a' := ?_) #[true, true, true, true, true, false, false, true, true, true, false, false, false, false, false] rfl rfl (iT HT_.out HW_.out (by kernel_rfl)) (fun _ _ _ h => h) (Or.inl ⟨by rfl, ?_⟩) hHeld ?_ ?_
            rotate_left
            · rintro w' ⟨s0, s1, s2, s3, s4, s5, s6, s7, s8, s9, s10, s11⟩
              go_simp
              with_reducible rfl
            rotate_left
            · simp only [Act.put, List.setIfInBounds_toArray, List.set_cons_zero, List.set_cons_succ, iJ, iK]
              rfl
            refine jH (i := 10) (N := some 165) (v := ?_) (a' := ?_) #[true, true, true, true, true, false, false, true, true, true, true, false, false, false, false] rfl rfl (iT HT_.out HW_.out (by kernel_rfl)) (fun _ _ _ h => h) (Or.inl ⟨by rfl, ?_⟩) hHeld ?_ ?_
            rotate_left
            · rintro w' ⟨s0, s1, s2, s3, s4, s5, s6, s7, s8, s9, s10, s11⟩
              go_simp
              with_reducible rfl
            rotate_left
            · simp only [Act.put, List.setIfInBounds_toArray, List.set_cons_zero, List.set_cons_succ, iJ, iK]
              rfl
            refine jH (i := 11) (N := some 166) (v := ?_) (a' := ?_) #[true, true, true, true, true, false, false, true, true, true, true, true, false, false, false] rfl rfl (iT HT_.out HW_.out (by kernel_rfl)) (fun _ _ _ h => h) (Or.inl ⟨by rfl, ?_⟩) hHeld ?_ ?_
            rotate_left
            · rintro w' ⟨s0, s1, s2, s3, s4, s5, s6, s7, s8, s9, s10, s11⟩
              go_simp
              with_reducible rfl
            rotate_left
            · simp only [Act.put, List.setIfInBounds_toArray, List.set_cons_zero, List.set_cons_succ, iJ, iK]
              rfl
            refine one_ (i := 5) (N := some 160) #[true, true, true, true, true, true, false, true, true, true, true, true, false, false, false] rfl rfl (jK HT_.out (by kernel_rfl)) (by decide) (fun K hK => ?_)
            refine l7 Try.func18 (by kernel_rfl) rfl #[.pointer (some ⟨c, 0, none⟩), .agg #[.int .u8 k, .int .u32 id2, .int .u32 t, .slice A K1 q, .slice none 0 0, .int .u32 e2, .slice A6 K2 q6, .int .i64 0, .int .i64 0, .slice none 0 0]] (by rfl) rfl rfl (by simp only [List.map_toArray, List.map_cons, List.map_nil]; rfl) ?_
            with_reducible refine (hcv).mono ?_
            rintro e w4 ⟨rfl, h4, hf4⟩
            refine ⟨_, rfl, ?_⟩
            have H4 := iC.mk h4
            have HF4 := iC.mk ((CoFr.of_below (iP (Below.refl _ _)) HT5.out.Ble).trans hf4)
            have t4 := HF4.out.cells _ _ _ _ HT0.out (by decide) (by decide)
            have x4 := HF4.out.cells _ _ _ _ HRB.out (by decide) (by decide)
            have hE : ∀ q, q ∈ 3 :: ki.E → q = 3 := fun q hq => by simpa [show ki.E = [] from rfl] using hq
            have hS : ∀ q, q ∈ 96 :: kS.E → q = 96 := fun q hq => by simpa [show kS.E = [] from rfl] using hq
            have hr4 := hf4.rows HRd.out (fun q hq => by (obtain rfl := hE q hq); exact (by decide))
            have hs4 := hf4.rows HSd.out (fun q hq => by (obtain rfl := hS q hq); exact (by decide))
            have hrv := xI (HT5.out.ro.co HF4.out) HT5.out.co.ok (by have := HNN.out; omega) HQS.out.1 (fun W' hf => (R_Cd (hf.rows hr4 (fun q hq => by (obtain rfl := hE q hq); exact (by decide)))).2.2) (R_Cd HRd.out).2.1 HQS.out.2.2.2.2.1 (fun W' hf => (R_Cd (hf.rows hs4 (fun q hq => by (obtain rfl := hS q hq); exact (by decide)))).2.2) (R_Cd HSd.out).2.1 HQS.out.2.2.2.2.2 (id := id2) (t := t) (e := e2)
            rw [HKs.out.1, HKs.out.2, ← HX.out] at hrv
            have HT4' := iC.mk t4
            have HX4' := iC.mk x4
            clear h4 hf4 hcv t4 x4 hr4 hs4 hE hS
            refine hK.out _ _ ⟨(iD HT4'.out 0).trans rfl, (iD HT4'.out 1).trans rfl, (iD HX4'.out 0).trans rfl, (iD HX4'.out 1).trans rfl, (iD HX4'.out 2).trans rfl, (iD HX4'.out 3).trans rfl, (iD HX4'.out 4).trans rfl, (iD HX4'.out 5).trans rfl, (iD HX4'.out 6).trans rfl, (iD HX4'.out 7).trans rfl, (iD HX4'.out 8).trans rfl, (iD HX4'.out 9).trans rfl⟩ (fun hHeld => ?_)
            clear hK K
            refine kC (a' := ?_) ?_ ?_
            rotate_left
            · show Act.put _ (some 160) _ = _
              simp only [Act.put, List.setIfInBounds_toArray, List.set_cons_zero, List.set_cons_succ, iJ, iK]
              rfl
            refine iM (i := 6) (N := some 161) (v := ?_) (a' := ?_) #[true, true, true, true, true, true, true, true, true, true, true, true, false, false, false] rfl rfl (iI HT_.out (by kernel_rfl)) (fun _ _ _ h => h) (Or.inl ⟨by rfl, ?_⟩) ?_ ?_
            rotate_left
            · intro w'
              go_simp
              with_reducible rfl
            rotate_left
            · simp only [Act.put, List.setIfInBounds_toArray, List.set_cons_zero, List.set_cons_succ, iJ, iK]
              rfl
            refine one_ (i := 12) (N := some 167) #[true, true, true, true, true, true, true, true, true, true, true, true, true, false, false] rfl rfl (jK HT_.out (by kernel_rfl)) (by decide) (fun K hK => ?_)
            refine l7 Try.func63 (by kernel_rfl) rfl #[.pointer (some ⟨rc, 0, none⟩), .agg #[.int .u8 k, .int .u32 id2, .int .u32 t, .slice A K1 q, .slice none 0 0, .int .u32 e2, .slice A6 K2 q6, .int .i64 0, .int .i64 0, .slice none 0 0]] (by rfl) rfl rfl (by simp only [List.map_toArray, List.map_cons, List.map_nil]; rfl) ?_
            with_reducible refine (hrv).mono ?_
            rintro e w6 ⟨rfl, h6, hf6⟩
            refine ⟨_, rfl, ?_⟩
            have HTW := iC.mk (HT5.out.both H4.out HF4.out h6 hf6)
            have HFB := iC.mk ((HB5.out.trans (DFr.of_co HF4.out)).trans (DFr.of_ro hf6))
            have t6 := hf6.keep _ _ HT4'.out (fun cs t fz e => by injection e with _ e2 _; subst e2; exact ⟨by decide, by decide⟩)
            have x6 := hf6.keep _ _ HX4'.out (fun cs t fz e => by injection e with _ e2 _; subst e2; exact ⟨by decide, by decide⟩)
            have HT6' := iC.mk t6
            have HX6' := iC.mk x6
            clear h6 hf6 hrv t6 x6
            refine hK.out _ _ ⟨(iD HT6'.out 0).trans rfl, (iD HT6'.out 1).trans rfl, (iD HX6'.out 0).trans rfl, (iD HX6'.out 1).trans rfl, (iD HX6'.out 2).trans rfl, (iD HX6'.out 3).trans rfl, (iD HX6'.out 4).trans rfl, (iD HX6'.out 5).trans rfl, (iD HX6'.out 6).trans rfl, (iD HX6'.out 7).trans rfl, (iD HX6'.out 8).trans rfl, (iD HX6'.out 9).trans rfl⟩ (fun hHeld => ?_)
            clear hK K
            refine kC (a' := ?_) ?_ ?_
            rotate_left
            · show Act.put _ (some 167) _ = _
              simp only [Act.put, List.setIfInBounds_toArray, List.set_cons_zero, List.set_cons_succ, iJ, iK]
              rfl
            refine iM (i := 13) (N := some 168) (v := ?_) (a' := ?_) #[true, true, true, true, true, true, true, true, true, true, true, true, true, true, false] rfl rfl (iI HT_.out (by kernel_rfl)) (fun _ _ _ h => h) (Or.inl ⟨by rfl, ?_⟩) ?_ ?_
            rotate_left
            · intro w'
              go_simp
              with_reducible rfl
            rotate_left
            · simp only [Act.put, List.setIfInBounds_toArray, List.set_cons_zero, List.set_cons_succ, iJ, iK]
              rfl
            refine iM (i := 14) (N := some 4) (v := ?_) (a' := ?_) #[true, true, true, true, true, true, true, true, true, true, true, true, true, true, true] rfl rfl (iI HT_.out (by kernel_rfl)) (fun _ _ _ h => h) (Or.inl ⟨by rfl, ?_⟩) ?_ ?_
            rotate_left
            · intro w'
              go_simp
              with_reducible rfl
            rotate_left
            · simp only [Act.put, List.setIfInBounds_toArray, List.set_cons_zero, List.set_cons_succ, iJ, iK]
              rfl
            refine kP (jM HT_.out (by kernel_rfl)) ?_
            go_wp2
            go_ret
            exact ⟨rfl, n + 1, s.apply k id2 t l e2 sp, ids, HTW.out, vC HT5.out.co.ok.nd k id2 t l e2 sp, Nat.le_refl _, List.prefix_refl _, Nat.le_succ _, HFB.out⟩
end Go.Proofs.Ytjppookmjdaplaa.K
end

section
namespace Go.Proofs.Ytjppookmjdaplaa.K
open Go Go.RowKit Go.Maps Go.Proofs.YtjppookmjdaplaaW.PrintWords Go.Proofs.YtjppookmjdaplaaW.PrintLast Go.Proofs.YtjppookmjdaplaaW.PrintMore Go.Proofs.Ytjppookmjdaplaa.My
structure TOp where
  k : Int
  id : Int
  at_ : Int
  nd : Int
  n : Int
  map : List TCu
  raw : List Int
instance : Inhabited TOp := ⟨⟨0, 0, 0, 0, 0, [], []⟩⟩
abbrev kOp : Kd TOp := Kd.iso (Kd.pair (Kd.int .u8) (Kd.pair (Kd.int .u8) (Kd.pair (Kd.int .u32) (Kd.pair (Kd.int .u8) (Kd.pair (Kd.int .u8) (Kd.pair (Kd.slice 91 k91) (Kd.slice 3 (Kd.int .i64)))))))) (fun x : TOp => (x.k, x.id, x.at_, x.nd, x.n, x.map, x.raw))
abbrev opC (x : TOp) (A5 : Option Addr) (c5 : Nat) (A6 : Option Addr) (c6 : Nat) : Array Value := #[.int .u8 x.k, .int .u8 x.id, .int .u32 x.at_, .int .u8 x.nd, .int .u8 x.n, .slice A5 x.map.length c5, .slice A6 x.raw.length c6]
def OpOk (x : TOp) : Prop := (0 ≤ x.k ∧ x.k < 256) ∧ (0 ≤ x.id ∧ x.id < 256) ∧ (0 ≤ x.at_ ∧ x.at_ < 4294967296) ∧ (0 ≤ x.nd ∧ x.nd < 256) ∧ (0 ≤ x.n ∧ x.n < 256) ∧ ∀ c ∈ x.map, yT c
theorem IU {w : World} {x : TOp} {cs : List Value} (h : kOp.K w x cs) : ∃ A5 c5 A6 c6, cs = (opC x A5 c5 A6 c6).toList ∧ x.map.length ≤ c5 ∧ k91.C w A5 x.map.length x.map ∧ x.raw.length ≤ c6 ∧ ki.C w A6 x.raw.length x.raw := by
  obtain ⟨_, _, rfl, rfl, ⟨_, _, rfl, rfl, ⟨_, _, rfl, rfl, ⟨_, _, rfl, rfl, ⟨_, _, rfl, rfl, ⟨_, _, rfl, ⟨A5, c5, rfl, l5, g5⟩, ⟨A6, c6, rfl, l6, g6⟩⟩⟩⟩⟩⟩⟩ := h
  exact ⟨A5, c5, A6, c6, rfl, l5, g5, l6, g6⟩
/-- Element i of a row of Ops. -/
theorem MO {w : World} {A : Option Addr} {n : Nat} {l : List TOp} (h : kOp.C w A n l) (i : Nat) (hi : i < n) :
    ∃ ad A5 c5 A6 c6, A = some ad ∧ (w.cell? (ad.add (i * 7)) = some (.int .u8 (l.getD i default).k) ∧ w.cell? ⟨(ad.add (i * 7)).block, (ad.add (i * 7)).off + 1, none⟩ = some (.int .u8 (l.getD i default).id) ∧ w.cell? ⟨(ad.add (i * 7)).block, (ad.add (i * 7)).off + 2, none⟩ = some (.int .u32 (l.getD i default).at_) ∧ w.cell? ⟨(ad.add (i * 7)).block, (ad.add (i * 7)).off + 3, none⟩ = some (.int .u8 (l.getD i default).nd) ∧ w.cell? ⟨(ad.add (i * 7)).block, (ad.add (i * 7)).off + 4, none⟩ = some (.int .u8 (l.getD i default).n) ∧ w.cell? ⟨(ad.add (i * 7)).block, (ad.add (i * 7)).off + 5, none⟩ = some (.slice A5 (l.getD i default).map.length c5) ∧ w.cell? ⟨(ad.add (i * 7)).block, (ad.add (i * 7)).off + 6, none⟩ = some (.slice A6 (l.getD i default).raw.length c6)) ∧ (l.getD i default).map.length ≤ c5 ∧ k91.C w A5 (l.getD i default).map.length (l.getD i default).map ∧ (l.getD i default).raw.length ≤ c6 ∧ ki.C w A6 (l.getD i default).raw.length (l.getD i default).raw := by
  obtain ⟨ad, c, e, _, hK, hc0⟩ := Kd.C_get h default (i : Int) (by omega) (by omega)
  rw [Int.toNat_natCast] at hK hc0
  have hc : ∀ j u, c[j]? = some u → w.cell? (ad.add (i * 7 + j)) = some u := hc0
  obtain ⟨A5, c5, A6, c6, rfl, l5, g5, l6, g6⟩ := IU hK
  exact ⟨ad, A5, c5, A6, c6, e, ⟨hc 0 _ rfl, by rw [← kT _ _ 1 (by omega)]; exact hc 1 _ rfl, by rw [← kT _ _ 2 (by omega)]; exact hc 2 _ rfl, by rw [← kT _ _ 3 (by omega)]; exact hc 3 _ rfl, by rw [← kT _ _ 4 (by omega)]; exact hc 4 _ rfl, by rw [← kT _ _ 5 (by omega)]; exact hc 5 _ rfl, by rw [← kT _ _ 6 (by omega)]; exact hc 6 _ rfl⟩, l5, g5, l6, g6⟩
set_option maxRecDepth 20000 in
set_option maxHeartbeats 4000000 in
theorem LV (A : Option Addr) (c : Nat) (l : List TOp) (w : World) (h : kOp.C w A l.length l) :
    Calls Try.prog 28 #[.slice A l.length c] w fun e w' => ∃ b, e = .returned (.bool b) ∧ (b = false → l.length ≤ 60 ∧ ∀ x ∈ l, x.raw.length ≤ 20) ∧ w' = w := by
  have hm := h.2.1
  have H := iC.mk h
  obtain ⟨N, hN⟩ : ∃ N, l.length = N := ⟨_, rfl⟩
  have HN := iC.mk hN
  rw [hN] at hm H ⊢
  clear h hN
  go_enter Try.func28, Try.ntmps28
  go_wp2
  go_loopw [3] (fun i wr => ∃ k : Nat, k ≤ N ∧ i = .int .i64 k ∧ wr = w ∧ iC (∀ j, j < k → (l.getD j default).raw.length ≤ 20)) (fun i _ => N - (intOf i).toNat)
  case atStart => exact ⟨0, Nat.zero_le _, rfl, rfl, ⟨fun j hj => by omega⟩⟩
  case round =>
    obtain ⟨k, hk, rfl, rfl, HJ⟩ := hrel
    by_cases hlt : k < N
    · obtain ⟨ad, A5, c5, A6, c6, rfl, ⟨_, _, _, _, _, _, h6⟩, _, _, hr, _⟩ := MO H.out k hlt
      have hw : wrap64 ((k : Int) + 1) = ((k + 1 : Nat) : Int) := by unfold wrap64; omega
      obtain ⟨M, hM⟩ : ∃ M, (l.getD k default).raw.length = M := ⟨_, rfl⟩
      have HM := iC.mk hM
      rw [hM] at h6
      clear hM hr
      by_cases h20 : 20 < M
      · have hd : decide (20 < (M : Int)) = true := decide_eq_true (by omega)
        have hd2 : decide (20 < M) = true := decide_eq_true h20
        go_wp2
        go_ret
        exact ⟨true, rfl, fun h => (by cases h), rfl⟩
      · have hd : decide (20 < (M : Int)) = false := decide_eq_false (by omega)
        have hd2 : decide (20 < M) = false := decide_eq_false h20
        have H20 := iC.mk h20
        clear h20
        go_wp2
        go_roundw
        case rel => exact ⟨k + 1, hlt, by first | rfl | rw [hw], by first | rfl | trivial, ⟨fun j hj => by
          rcases (by omega : j < k ∨ j = k) with h | rfl
          · exact HJ.out j h
          · have := H20.out; rw [HM.out]; omega⟩⟩
        case measure => (first | (simp [intOf, hw]; omega) | (simp [intOf]; omega))
    · obtain rfl : k = N := by omega
      by_cases h60 : 60 < k
      · have hd : decide (60 < (k : Int)) = true := decide_eq_true (by omega)
        have hd2 : decide (60 < k) = true := decide_eq_true h60
        go_wp2
        go_ret
        exact ⟨true, rfl, fun h => (by cases h), rfl⟩
      · have hd : decide (60 < (k : Int)) = false := decide_eq_false (by omega)
        have hd2 : decide (60 < k) = false := decide_eq_false h60
        have H60 := iC.mk h60
        clear h60
        go_wp2
        go_ret
        refine ⟨false, rfl, fun _ => ⟨by have := H60.out; have := HN.out; omega, fun x hx => ?_⟩, rfl⟩
        obtain ⟨j, hj, rfl⟩ := List.mem_iff_getElem.1 hx
        have := HJ.out j (by rw [← HN.out]; exact hj)
        rwa [List.getD_eq_getElem?_getD, List.getElem?_eq_getElem hj] at this
end Go.Proofs.Ytjppookmjdaplaa.K
end

section
namespace Go.Proofs.Ytjppookmjdaplaa.K
open Go Go.RowKit Go.Maps Go.Proofs.YtjppookmjdaplaaW.PrintWords Go.Proofs.YtjppookmjdaplaaW.PrintLast Go.Proofs.YtjppookmjdaplaaW.PrintMore Go.Proofs.Ytjppookmjdaplaa.My
theorem NI (w : World) (c rc : Nat) : (Instr.build 65 #[(0, .pointer (some ⟨c, 0, none⟩)), (1, .pointer (some ⟨rc, 0, none⟩))]).run Try.prog w = .ok (.agg #[.pointer (some ⟨c, 0, none⟩), .pointer (some ⟨rc, 0, none⟩), .slice none 0 0]) w := run_build w 65 _ _ (by kernel_rfl)
theorem Ro.lower {w : World} {B B' rc : Nat} {s : CS} (h : Ro w B rc s) (hB : B' ≤ B) : Ro w B' rc s := by
  obtain ⟨A, k, A', k', h1, h2, h3⟩ := h.blk
  exact ⟨Nat.le_trans hB h.cB, ⟨A, k, A', k', h1, Kd.R_lower h2 hB, Kd.R_lower h3 hB⟩, h.sd⟩
abbrev twC (c rc : Nat) : Array Value := #[.pointer (some ⟨c, 0, none⟩), .pointer (some ⟨rc, 0, none⟩), .slice none 0 0]
theorem Tw.new {w w3 w4 : World} {c rc : Nat} (h3 : Co c w3 w.heap.size c 0 CS.new) (hb3 : Below w.heap.size w w3) (h4 : Ro w4 w3.heap.size rc CS.new) (hb4 : Below w3.heap.size w3 w4) :
    Tw (w4.alloc (.cells (twC c rc) 65)) w.heap.size w4.heap.size c rc 0 CS.new [] ∧ Below w.heap.size w (w4.alloc (.cells (twC c rc) 65)) := by
  have hb5 : Below w4.heap.size w4 (w4.alloc (.cells (twC c rc) 65)) := iF (Below.refl _ _) _
  have hb : Below w.heap.size w w4 := hb3.trans (hb4.mono hb3.size)
  exact ⟨⟨hb.size, ⟨none, 0, jD rfl, Kd.R_nil _ _ _ _ _⟩, (h3.below hb4).below hb5, (h4.lower hb3.size).below hb5, fun x h => by cases h⟩, hb.trans (hb5.mono hb.size)⟩
/-- A row of Status of the law's own changes. -/
theorem Tw.other {w w' : World} {B tp c rc n : Nat} {s : CS} {ids : List Int} (h : Tw w B tp c rc n s ids) {g : Nat} {cs : Array Value} (hc : w.heap[g]? = some (Obj.cells cs 36 (0, 0))) (hg : w.grownBy w' (some g)) : Tw w' B tp c rc n s ids := by
  obtain ⟨A, k, h1, h2⟩ := h.blk
  have hne : ∀ {j : Nat} {t : TypeId} {ds : Array Value}, w.heap[j]? = some (Obj.cells ds t (0, 0)) → t ≠ 36 → w'.heap[j]? = w.heap[j]? := fun hj ht => jL hg hj (fun e => by subst e; rw [hc] at hj; injection hj with hj; injection hj with _ hj _; exact ht hj.symm)
  refine ⟨h.tB, ⟨A, k, (hne h1 (by decide)).trans h1, kZ h2 (fun j q ds hq hj => hne hj ?_)⟩, h.co.other hc hg (by decide) (by decide) (by decide) (fun e => absurd e (by decide)), h.ro.other hg (fun j hj => ?_), h.idr⟩
  · (obtain rfl : q = 28 := (by simpa [show ku.E = [] from rfl] using hq)); decide
  · cases hj; exact ⟨cs, _, hc, by decide, by decide, by decide, by decide⟩
/-- The law's own row of Status: the first k are told. -/
def StB (w : World) (g L k : Nat) (f : Nat → Int × Int) : Prop := ∃ cs : Array Value, w.heap[g]? = some (.cells cs 36 (0, 0)) ∧ cs.size = L * 2 ∧ ∀ j, j < k → cs[j * 2]? = some (.int .u8 (f j).1) ∧ cs[j * 2 + 1]? = some (.int .u32 (f j).2)
theorem StB.below {w w' : World} {g L k : Nat} {f : Nat → Int × Int} (h : StB w g L k f) (hb : Below w.heap.size w w') : StB w' g L k f := by
  obtain ⟨cs, h1, h2⟩ := h
  exact ⟨cs, iV hb h1, h2⟩
theorem StB.keep {w w' : World} {B g L k : Nat} {f : Nat → Int × Int} (h : StB w g L k f) (hd : DFr B w w') : StB w' g L k f := by
  obtain ⟨cs, h1, h2⟩ := h
  exact ⟨cs, hd.keep _ _ _ h1, h2⟩
abbrev LH (w : World) (g k : Nat) (p : Int × Int) : World := (w.setCell ⟨g, k * 2, none⟩ (.int .u8 p.1)).setCell ⟨g, k * 2 + 1, none⟩ (.int .u32 p.2)
theorem StB.get {w : World} {g L k : Nat} {f : Nat → Int × Int} (h : StB w g L k f) {j : Nat} (hj : j < k) : w.cell? ⟨g, j * 2, none⟩ = some (.int .u8 (f j).1) ∧ w.cell? ⟨g, j * 2 + 1, none⟩ = some (.int .u32 (f j).2) := by
  obtain ⟨cs, h1, _, h2⟩ := h
  exact ⟨(iD h1 _).trans (h2 j hj).1, (iD h1 _).trans (h2 j hj).2⟩
theorem StB.room {w : World} {g L k : Nat} {f : Nat → Int × Int} (h : StB w g L k f) {j : Nat} (hj : j < L) : (∃ v0 v1, w.cell? ⟨g, j * 2, none⟩ = some v0 ∧ w.cell? ⟨g, j * 2 + 1, none⟩ = some v1) ∧ ∀ i, w.frozen? ⟨g, i, none⟩ = false := by
  obtain ⟨cs, h1, h3, _⟩ := h
  refine ⟨⟨cs[j * 2]'(by omega), cs[j * 2 + 1]'(by omega), (iD h1 _).trans (Array.getElem?_eq_getElem _), (iD h1 _).trans (Array.getElem?_eq_getElem _)⟩, fun i => iE h1 i⟩
theorem StB.put {w : World} {g L k : Nat} {f : Nat → Int × Int} (h : StB w g L k f) (hk : k < L) : StB (LH w g k (f k)) g L (k + 1) f ∧ (∃ cs, w.heap[g]? = some (.cells cs 36 (0, 0))) ∧ w.grownBy (LH w g k (f k)) (some g) := by
  obtain ⟨cs, h1, h3, h2⟩ := h
  have e1 := iZ h1 (k * 2) (.int .u8 (f k).1) rfl
  have e2 := iZ e1 (k * 2 + 1) (.int .u32 (f k).2) rfl
  have g1 := kM w g (k * 2) (.int .u8 (f k).1)
  have g2 := kM (w.setCell ⟨g, k * 2, none⟩ (.int .u8 (f k).1)) g (k * 2 + 1) (.int .u32 (f k).2)
  refine ⟨⟨_, e2, by simp [h3], fun j hj => ?_⟩, ⟨cs, h1⟩, ⟨g2.os.trans g1.os, g2.tape.trans g1.tape, g2.output.trans g1.output, Nat.le_trans g1.size g2.size, fun i hi hne => (g2.block i (Nat.lt_of_lt_of_le hi g1.size) hne).trans (g1.block i hi hne)⟩⟩
  rcases (by omega : j < k ∨ j = k) with hj | rfl
  · have := h2 j hj
    constructor
    · rw [Array.getElem?_setIfInBounds_ne (by omega), Array.getElem?_setIfInBounds_ne (by omega)]; exact this.1
    · rw [Array.getElem?_setIfInBounds_ne (by omega), Array.getElem?_setIfInBounds_ne (by omega)]; exact this.2
  · constructor
    · rw [Array.getElem?_setIfInBounds_ne (by omega), Array.getElem?_setIfInBounds_self_of_lt (by omega)]
    · rw [Array.getElem?_setIfInBounds_self_of_lt (by simp; omega)]
theorem LG : (Try.prog.info? 36).map (fun i => (i.zero, i.size, i.bytes)) = some (some (.agg #[.int .u8 0, .int .u32 0]), 2, 8) := by kernel_rfl
abbrev stZ (L : Nat) : Array Value := madeCells #[.int .u8 0, .int .u32 0] (L * 2)
theorem mkst (L : Nat) (hL : L ≤ 1000) (W : World) : (Instr.makeSlice 66 (.int .i64 (L : Int)) (.int .i64 (L : Int))).run Try.prog W = .ok (.slice (some ⟨W.heap.size, 0, none⟩) L L) (W.alloc (.cells (stZ L) 36)) := by
  obtain ⟨i, hi, hzz⟩ := Option.map_eq_some_iff.1 LG
  simp only [Prod.mk.injEq] at hzz
  obtain ⟨hz, hs, hb⟩ := hzz
  have h := run_make (P := Try.prog) W 66 36 i (.agg #[.int .u8 0, .int .u32 0]) Try.underlying66 hi hz .i64 .i64 (L : Int) (L : Int) (by omega) (Int.le_refl _) (by rw [hb]; omega) (by omega)
  rw [Int.toNat_natCast, hs] at h
  exact h
theorem MK {ids ids' : List Int} (h : ids <+: ids') {k : Nat} (hk : k < ids.length) : rd ids' (k : Int) = rd ids (k : Int) := by
  obtain ⟨m, rfl⟩ := h
  unfold rd
  rw [Int.toNat_natCast, List.getD_eq_getElem?_getD, List.getD_eq_getElem?_getD, List.getElem?_append_left hk]
theorem Tw.id {w : World} {B tp c rc n : Nat} {s : CS} {ids : List Int} (h : Tw w B tp c rc n s ids) {k : Nat} (hk : k < ids.length) : 0 ≤ rd ids (k : Int) ∧ rd ids (k : Int) < 4294967296 := by
  unfold rd
  rw [Int.toNat_natCast, List.getD_eq_getElem?_getD, List.getElem?_eq_getElem hk]
  exact h.idr _ (List.getElem_mem hk)
/-- The numbers, as they are read. -/
theorem Tw.ids {w : World} {B tp c rc n : Nat} {s : CS} {ids : List Int} (h : Tw w B tp c rc n s ids) {k : Nat} (hk : k < ids.length) :
    ∃ ai q, w.heap[tp]? = some (Obj.cells #[.pointer (some ⟨c, 0, none⟩), .pointer (some ⟨rc, 0, none⟩), .slice (some ai) ids.length q] 65 (0, 0)) ∧ w.cell? (ai.add k) = some (.int .u32 (rd ids (k : Int))) := by
  obtain ⟨A, q, h1, h2⟩ := h.blk
  have hC := (Kd.R_reads' h2).2.2
  obtain ⟨ai, rfl⟩ : ∃ ai, A = some ai := by
    obtain ⟨ai, _, e, _⟩ := Kd.C_get hC 0 (k : Int) (by omega) (by omega)
    exact ⟨ai, e⟩
  have hx := Kd.foot_int hC (k : Int) (by omega) (by omega)
  rw [Int.toNat_natCast] at hx
  exact ⟨ai, q, h1, hx⟩
theorem kV {j k : Nat} (h : j < k) : ((k : Int) - intOf (.int .i64 ((j + 1 : Nat) : Int))).toNat < ((k : Int) - intOf (.int .i64 (j : Int))).toNat := by simp only [intOf]; omega
theorem I5 (j : Nat) (h : j ≤ 1000) : wrap64 ((j : Int) + 1) = ((j + 1 : Nat) : Int) := by unfold wrap64; omega
theorem vS {j k : Nat} (h : j < k) : decide ((j : Int) < (k : Int)) = true := decide_eq_true (Int.ofNat_lt.2 h)
theorem JA {N i n n' : Nat} {s s' : CS} {ids ids' : List Int} {last : Int} (h1 : i < N ∧ N ≤ 60 ∧ n ≤ i ∧ s.L.length ≤ i ∧ ids.length ≤ i ∧ last ≤ s.last) (h2 : kN s s') (h3 : n' ≤ n + 1 ∧ ids'.length ≤ ids.length + 1) :
    decide (s'.last < last) = false ∧ (n' ≤ i + 1 ∧ s'.L.length ≤ i + 1 ∧ ids'.length ≤ i + 1 ∧ s'.last ≤ s'.last) ∧ wrap64 ((i : Int) + 1) = ((i + 1 : Nat) : Int) := by
  have h4 := h2.last
  have h5 := h2.len
  exact ⟨decide_eq_false (by omega), ⟨by omega, by omega, by omega, Int.le_refl _⟩, I5 i (by omega)⟩
theorem IP {N i n L : Nat} {s : CS} {ids : List Int} {last : Int} (h1 : i < N ∧ N ≤ 60 ∧ n ≤ i ∧ s.L.length ≤ i ∧ ids.length ≤ i ∧ last ≤ s.last) : n < 1000 ∧ s.L.length ≤ 1000 ∧ ids.length ≤ 1000 := by omega
theorem vO {x : Int} (h : 0 ≤ x ∧ x < 256) : ∃ k : Nat, x = (k : Int) ∧ k < 256 := ⟨x.toNat, by omega, by omega⟩
end Go.Proofs.Ytjppookmjdaplaa.K
end
