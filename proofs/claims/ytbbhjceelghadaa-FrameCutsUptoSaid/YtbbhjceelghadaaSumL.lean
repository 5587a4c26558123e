/- The walks of layer 8's laws. -/
import Derived.Test.YtbbhjceelghadaaSumW
import Derived.Test.YtbbhjceelghadaaRegion
namespace Go.Proofs.Ytbbhjceelghadaa.My
open Go Go.RowKit Go.Proofs.YtbbhjceelghadaaW.PrintWords Go.Proofs.YtbbhjceelghadaaW.PrintMore Go.Proofs.YtbbhjceelghadaaW.PrintLast
attribute [local go_sem] max2_int min2_int max_two min_two

def wiki : List UInt8 := [87, 105, 107, 105, 112, 101, 100, 105, 97]
theorem wiki_sum : sumN [wiki] = 300286872 := by decide +kernel

set_option maxHeartbeats 1000000 in
theorem known8 (w : World) :
    Calls Try.prog 15 #[] w fun e w' => e = .returned (.bool true) ∧ Below w.heap.size w w' := by
  have kc := fun (w : World) (C : Array Value) (n c : Nat) => Lib.run_convert_bytes_const (P := Try.prog) w 22 5 C n c Try.underlying22 Try.underlying5
  go_enter Try.func15, Try.ntmps15
  go_wp2_with fail
  refine (sum_any _ _ [wiki] _ (CC_new (by simp) rfl (by decide) (Cs.cons (C_new rfl rfl (by decide) rfl) (by decide) (Cs.nil _)))).mono ?_
  rintro e w1 ⟨rfl, hb1⟩
  have H1 := Aside0.mk hb1
  clear hb1
  rw [wiki_sum]
  go_wp2_with fail
  refine (sum_any _ _ [] _ ⟨rfl, by decide, fun h => absurd h (Nat.lt_irrefl 0)⟩).mono ?_
  rintro e w2 ⟨rfl, hb2⟩
  have H2 := Aside0.mk hb2
  clear hb2
  rw [show sumN [] = 1 from rfl]
  go_wp2
  go_ret
  refine ⟨rfl, below_step (below_step ?_ H1.out) H2.out⟩
  (repeat (first | exact Below.refl _ _ | apply below_alloc | apply below_drew | apply pw_below_drewN | apply below_bytesWorld | (refine below_set ?_ (by first | assumption | omega)) | refine below_step ?_ (by assumption)))

/-- One list of bytes, handed over. -/
theorem one_arg {w W : World} {e b : Nat} {A : Option Addr} {c : Nat} {l : List UInt8} (hr : kb.C w A l.length l) (hc : l.length ≤ c) (hb : Below w.heap.size w W) (he : b = W.heap.size) :
    (Kd.slice 5 kb).C (W.alloc (.cells #[.slice A l.length c] e)) (some ⟨b, 0, none⟩) 1 [l] :=
  CC_new he rfl (by simp) (Cs.cons (Kd.C_below hr hb) hc (Cs.nil _))
theorem two_args {w W : World} {e b : Nat} {A A' : Option Addr} {c n c' : Nat} {l x : List UInt8} (hr : kb.C w A l.length l) (hc : l.length ≤ c) (hb : Below w.heap.size w W) (hx : kb.C W A' n x) (hc' : n ≤ c') (he : b = W.heap.size) :
    (Kd.slice 5 kb).C (W.alloc (.cells #[.slice A l.length c, .slice A' n c'] e)) (some ⟨b, 0, none⟩) 2 [l, x] :=
  CC_new he rfl (by simp) (Cs.cons (Kd.C_below hr hb) hc (Cs.cons hx hc' (Cs.nil _)))

theorem info_u8 : (Try.prog.info? 5).map (fun i => (i.zero, i.size, i.bytes)) = some (some (.int .u8 0), 1, 1) := by kernel_rfl

set_option maxHeartbeats 1000000 in
theorem sumLong_walk (A : Option Addr) (c : Nat) (l : List UInt8) (n m : Nat) (w : World) (hr : kb.C w A l.length l) (hc : l.length ≤ c) (hn : n < 256) (hm : m < 256) :
    Calls Try.prog 3 #[.slice A l.length c, .int .u8 (n : Int), .int .u8 (m : Int)] w fun e w' => e = .returned (.bool true) ∧ Below w.heap.size w w' := by
  by_cases hbig : (1500 : Int) < l.length
  · go_enter Try.func3, Try.ntmps3
    go_wp2_with ((go_at_call 15; refine (known8 _).mono ?_; rintro e_ w_ ⟨rfl, hb_⟩))
    go_ret
    exact ⟨rfl, by (repeat (first | exact Below.refl _ _ | apply below_alloc | apply below_drew | apply pw_below_drewN | apply below_bytesWorld | (refine below_set ?_ (by first | assumption | omega)) | refine below_step ?_ (by assumption)))⟩
  · have hmn := print_make (P := Try.prog) 22 5 .u8 1 Try.underlying22 info_u8 (by decide) (n % 200) (by omega)
    have hmm := print_make (P := Try.prog) 22 5 .u8 1 Try.underlying22 info_u8 (by decide) (m % 200) (by omega)
    rw [show ((n % 200 : Nat) : Int) = (n : Int) % 200 from by omega] at hmn
    rw [show ((m % 200 : Nat) : Int) = (m : Int) % 200 from by omega] at hmm
    have hmn0 : (n : Int) % 200 < 200 := by omega
    have hmm0 : (m : Int) % 200 < 200 := by omega
    go_enter Try.func3, Try.ntmps3
    go_wp2_with fail
    refine (known8 _).mono ?_; rintro e w1 ⟨rfl, hb1⟩
    go_wp2_with fail
    refine (sum_any _ _ [l] _ (one_arg hr hc (by (repeat (first | exact Below.refl _ _ | apply below_alloc | apply below_drew | apply pw_below_drewN | apply below_bytesWorld | (refine below_set ?_ (by first | assumption | omega)) | refine below_step ?_ (by assumption)))) (by simp))).mono ?_; rintro e w2 ⟨rfl, hb2⟩
    have hX := C_made (W := w1) (b := w1.heap.size) (e := 5) (m := n % 200) rfl (by omega)
    have hY := C_made (W := w1.alloc (.cells (madeCells #[.int .u8 0] (n % 200)) 5)) (b := w1.heap.size + 1) (e := 5) (m := m % 200) (by simp) (by omega)
    have HX := Aside0.mk hX
    have HY := Aside0.mk hY
    clear hX hY
    by_cases h0 : sumN [l] % 65536 = 0
    · have h0' : ((sumN [l] : Int) % 65536 == 0) = true := by rw [beq_iff_eq]; omega
      clear h0
      go_wp2_with fail
      go_ret
      exact ⟨rfl, by (repeat (first | exact Below.refl _ _ | apply below_alloc | apply below_drew | apply pw_below_drewN | apply below_bytesWorld | (refine below_set ?_ (by first | assumption | omega)) | refine below_step ?_ (by assumption)))⟩
    · have h0' : ((sumN [l] : Int) % 65536 == 0) = false := by rw [beq_eq_false_iff_ne]; omega
      have H0 := Aside0.mk h0
      clear h0
      go_wp2_with fail
      refine (sum_any _ _ [l, List.replicate (n % 200) 0] _ (two_args hr hc (by (repeat (first | exact Below.refl _ _ | apply below_alloc | apply below_drew | apply pw_below_drewN | apply below_bytesWorld | (refine below_set ?_ (by first | assumption | omega)) | refine below_step ?_ (by assumption)))) (Kd.C_below HX.out (by (repeat (first | exact Below.refl _ _ | apply below_alloc | apply below_drew | apply pw_below_drewN | apply below_bytesWorld | (refine below_set ?_ (by first | assumption | omega)) | refine below_step ?_ (by assumption))))) (Nat.le_refl _) (by simp))).mono ?_; rintro e w3 ⟨rfl, hb3⟩
      go_wp2_with fail
      refine (sum_any _ _ [l, List.replicate (m % 200) 0] _ (two_args hr hc (by (repeat (first | exact Below.refl _ _ | apply below_alloc | apply below_drew | apply pw_below_drewN | apply below_bytesWorld | (refine below_set ?_ (by first | assumption | omega)) | refine below_step ?_ (by assumption)))) (Kd.C_below HY.out (by (repeat (first | exact Below.refl _ _ | apply below_alloc | apply below_drew | apply pw_below_drewN | apply below_bytesWorld | (refine below_set ?_ (by first | assumption | omega)) | refine below_step ?_ (by assumption))))) (Nat.le_refl _) (by simp))).mono ?_; rintro e w4 ⟨rfl, hb4⟩
      have key := zeros_apart l (n % 200) (m % 200) (by omega) (by omega) H0.out
      by_cases hnm : n % 200 = m % 200
      · have k1 : ((sumN [l, List.replicate (n % 200) 0] : Int) == (sumN [l, List.replicate (m % 200) 0] : Int)) = true := by rw [beq_iff_eq]; rw [key.2 hnm]
        have k2 : ((n : Int) % 200 == (m : Int) % 200) = true := by rw [beq_iff_eq]; omega
        clear key hnm
        go_wp2_with fail
        go_ret
        exact ⟨rfl, by (repeat (first | exact Below.refl _ _ | apply below_alloc | apply below_drew | apply pw_below_drewN | apply below_bytesWorld | (refine below_set ?_ (by first | assumption | omega)) | refine below_step ?_ (by assumption)))⟩
      · have k1 : ((sumN [l, List.replicate (n % 200) 0] : Int) == (sumN [l, List.replicate (m % 200) 0] : Int)) = false := by
          rw [beq_eq_false_iff_ne]
          intro he
          exact hnm (key.1 (by omega))
        have k2 : ((n : Int) % 200 == (m : Int) % 200) = false := by rw [beq_eq_false_iff_ne]; omega
        clear key hnm
        go_wp2_with fail
        go_ret
        exact ⟨rfl, by (repeat (first | exact Below.refl _ _ | apply below_alloc | apply below_drew | apply pw_below_drewN | apply below_bytesWorld | (refine below_set ?_ (by first | assumption | omega)) | refine below_step ?_ (by assumption)))⟩

theorem one_arg' {W : World} {e b : Nat} {A : Option Addr} {c n : Nat} {l : List UInt8} (hr : kb.C W A n l) (hc : n ≤ c) (he : b = W.heap.size) :
    (Kd.slice 5 kb).C (W.alloc (.cells #[.slice A n c] e)) (some ⟨b, 0, none⟩) 1 [l] :=
  CC_new he rfl (by simp) (Cs.cons hr hc (Cs.nil _))
theorem kb_size {w : World} {A : Option Addr} {n : Nat} {l : List UInt8} (h : kb.C w A n l) : l.length ≤ 9223372036854775807 := by have := h.1; have := h.2.1; omega

set_option maxHeartbeats 1000000 in
theorem sumStays_walk (A : Option Addr) (c : Nat) (l : List UInt8) (w : World) (hr : kb.C w A l.length l) (hc : l.length ≤ c) :
    Calls Try.prog 4 #[.slice A l.length c] w fun e w' => e = .returned (.bool true) ∧ Below w.heap.size w w' := by
  by_cases hbig : (1500 : Int) < l.length
  · go_enter Try.func4, Try.ntmps4
    go_wp2_with ((go_at_call 15; refine (known8 _).mono ?_; rintro e_ w_ ⟨rfl, hb_⟩))
    go_ret
    exact ⟨rfl, by (repeat (first | exact Below.refl _ _ | apply below_alloc | apply below_drew | apply pw_below_drewN | apply below_bytesWorld | (refine below_set ?_ (by first | assumption | omega)) | refine below_step ?_ (by assumption)))⟩
  · have hB := conv_bytes l
    have hsz := bs_size l
    have HL := Aside0.mk hr
    clear hr
    go_enter Try.func4, Try.ntmps4
    go_wp2_with fail
    refine (known8 _).mono ?_; rintro e w1 ⟨rfl, hb1⟩
    have k1 := conv_string (c := c) (Kd.C_below HL.out hb1)
    go_wp2_with fail
    refine (sum_any _ _ [l] _ (one_arg HL.out hc (by (repeat (first | exact Below.refl _ _ | apply below_alloc | apply below_drew | apply pw_below_drewN | apply below_bytesWorld | (refine below_set ?_ (by first | assumption | omega)) | refine below_step ?_ (by assumption)))) (by simp))).mono ?_; rintro e w2 ⟨rfl, hb2⟩
    have k2 := conv_string (c := c) (Kd.C_below HL.out (w1 := w2) (by (repeat (first | exact Below.refl _ _ | apply below_alloc | apply below_drew | apply pw_below_drewN | apply below_bytesWorld | (refine below_set ?_ (by first | assumption | omega)) | refine below_step ?_ (by assumption)))))
    go_wp2_with fail
    refine (sum_any _ _ [l] _ (one_arg HL.out hc (by (repeat (first | exact Below.refl _ _ | apply below_alloc | apply below_drew | apply pw_below_drewN | apply below_bytesWorld | (refine below_set ?_ (by first | assumption | omega)) | refine below_step ?_ (by assumption)))) (by simp))).mono ?_; rintro e w3 ⟨rfl, hb3⟩
    go_wp2_with fail
    refine (sum_any _ _ [l] _ (one_arg' (C_bytesWorld _ l (kb_size HL.out)) (grownCap_ge _ _ _ _) (by simp))).mono ?_; rintro e w4 ⟨rfl, hb4⟩
    go_wp2_with fail
    go_ret
    exact ⟨rfl, by (repeat (first | exact Below.refl _ _ | apply below_alloc | apply below_drew | apply pw_below_drewN | apply below_bytesWorld | (refine below_set ?_ (by first | assumption | omega)) | refine below_step ?_ (by assumption)))⟩

set_option maxHeartbeats 1000000 in
theorem sumParts_walk (A : Option Addr) (c : Nat) (l : List UInt8) (i j : Int) (w : World) (hr : kb.C w A l.length l) (hc : l.length ≤ c) (hi : -9223372036854775808 ≤ i ∧ i ≤ 9223372036854775807) (hj : -9223372036854775808 ≤ j ∧ j ≤ 9223372036854775807) :
    Calls Try.prog 6 #[.slice A l.length c, .int .i64 i, .int .i64 j] w fun e w' => e = .returned (.bool true) ∧ Below w.heap.size w w' := by
  by_cases hbig : (1500 : Int) < l.length
  · go_enter Try.func6, Try.ntmps6
    go_wp2_with ((go_at_call 15; refine (known8 _).mono ?_; rintro e_ w_ ⟨rfl, hb_⟩))
    go_ret
    exact ⟨rfl, by (repeat (first | exact Below.refl _ _ | apply below_alloc | apply below_drew | apply pw_below_drewN | apply below_bytesWorld | (refine below_set ?_ (by first | assumption | omega)) | refine below_step ?_ (by assumption)))⟩
  · have HL := Aside0.mk hr
    clear hr
    obtain ⟨i0, hi0⟩ : ∃ i0 : Nat, (if i < 0 then (0 : Int) else i) = (i0 : Int) := by
      by_cases h : i < 0
      · exact ⟨0, by rw [if_pos h]; rfl⟩
      · exact ⟨i.toNat, by rw [if_neg h]; omega⟩
    obtain ⟨j0, hj0⟩ : ∃ j0 : Nat, (if j < 0 then (0 : Int) else j) = (j0 : Int) := by
      by_cases h : j < 0
      · exact ⟨0, by rw [if_pos h]; rfl⟩
      · exact ⟨j.toNat, by rw [if_neg h]; omega⟩
    obtain ⟨n, hn0, hnl⟩ : ∃ n : Nat, (i0 : Int) % ((l.length : Int) + 1) = (n : Int) ∧ n ≤ l.length := ⟨i0 % (l.length + 1), (Int.natCast_emod i0 (l.length + 1)).symm, Nat.le_of_lt_succ (Nat.mod_lt i0 (Nat.succ_pos l.length))⟩
    obtain ⟨m, hm0, hml⟩ : ∃ m : Nat, (j0 : Int) % ((l.length : Int) - (n : Int) + 1) = (m : Int) ∧ n + m ≤ l.length := by
      refine ⟨j0 % (l.length - n + 1), ?_, by have := Nat.le_of_lt_succ (Nat.mod_lt j0 (Nat.succ_pos (l.length - n))); simp only [Nat.succ_eq_add_one] at this; omega⟩
      rw [show (l.length : Int) - (n : Int) + 1 = ((l.length - n + 1 : Nat) : Int) from by omega]
      exact (Int.natCast_emod _ _).symm
    clear hi hj
    go_enter Try.func6, Try.ntmps6
    go_wp2_with fail
    refine (known8 _).mono ?_; rintro e w1 ⟨rfl, hb1⟩
    go_wp2_with fail
    simp only [hn0, hm0]
    have hnm : (n : Int) ≤ (n : Int) + (m : Int) := by omega
    have hnm' : (n : Int) + (m : Int) ≤ (l.length : Int) := by omega
    have hnl' : (n : Int) ≤ (l.length : Int) := by omega
    have hlc : (l.length : Int) ≤ (c : Int) := by omega
    obtain ⟨A1, hr1, hC1⟩ := cut_lh HL.out hc n (n + m) (n : Int) ((n : Int) + (m : Int)) rfl (by omega) (by omega) (by omega)
    obtain ⟨A2, hr2, hC2⟩ := cut_l HL.out hc (n + m) ((n : Int) + (m : Int)) (by omega) (by omega)
    have HC1 := Aside0.mk hC1
    have HC2 := Aside0.mk hC2
    have HC0 := Aside0.mk (C_take_n HL.out n (by omega))
    have hall : sumN [l.take n, (l.take (n + m)).drop n, [], l.drop (n + m)] = sumN [l] := by
      rw [sumN_flat, show ([l.take n, (l.take (n + m)).drop n, [], l.drop (n + m)] : List (List UInt8)).flatten = l from ?_]
      simp only [List.flatten_cons, List.flatten_nil, List.nil_append, List.append_nil]
      have e1 : (l.take (n + m)).take n = l.take n := by rw [List.take_take]; congr 1; omega
      rw [← e1, ← List.append_assoc, List.take_append_drop, List.take_append_drop]
    have hr0 := cut_h A l.length c n (n : Int) rfl hnl hc
    have HALL := Aside0.mk hall
    clear hn0 hm0 hi0 hj0 hC1 hC2 hall
    refine grow_rs [33, 34, 35, 36, 37, 38, 39, 40, 41, 42, 43, 44, 45, 46, 47, 48, 6] [fun v _ => v = (.slice A l.length c), RLit 1 #[.slice A l.length c] 22, fun v _ => v = (.int .u32 (sumN [l] : Int)), fun v _ => v = (.slice A l.length c), fun v _ => v = (.int .i64 (n : Int)), fun v _ => v = (.slice A n c), fun v _ => v = (.slice A l.length c), fun v _ => v = (.int .i64 (n : Int)), fun v _ => v = (.int .i64 ((n : Int) + (m : Int))), fun v _ => v = (.slice A1 (n + m - n) (c - n)), fun v _ => v = (.slice A l.length c), fun v _ => v = (.int .i64 ((n : Int) + (m : Int))), fun v _ => v = (.slice A2 (l.length - (n + m)) (c - (n + m))), RLit 4 #[.slice A n c, .slice A1 (n + m - n) (c - n), (Value.slice none 0 0), .slice A2 (l.length - (n + m)) (c - (n + m))] 22, fun v _ => v = (.int .u32 (sumN [l.take n, (l.take (n + m)).drop n, [], l.drop (n + m)] : Int)), fun v _ => v = (.bool ((sumN [l] : Int) == (sumN [l.take n, (l.take (n + m)).drop n, [], l.drop (n + m)] : Int))), fun v _ => v = (.bool ((sumN [l] : Int) == (sumN [l.take n, (l.take (n + m)).drop n, [], l.drop (n + m)] : Int)))] [0, 1, 2, 3, 4, 5, 6, 7, 8, 9, 10, 11, 12, 13, 14, 15, 16] (true, [([], []), ([0], [0]), ([1], [1]), ([], []), ([], []), ([3, 4], [3, 4]), ([], []), ([], []), ([], []), ([6, 7, 8], [6, 7, 8]), ([], []), ([], []), ([10, 11], [10, 11]), ([5, 9, 12], [5, 9, 12]), ([13, 2], [13]), ([2, 14], [2, 14]), ([15, 14, 0, 1, 2, 3, 4, 5, 6, 7, 8, 9, 10, 11, 12, 13, 14, 15], [15])]) [0, 1, 3, 0, 0, 24, 0, 0, 0, 448, 0, 0, 3072, 8184, 16383, 32767, 65535] (by kernel_rfl) (by kernel_rfl) (by kernel_rfl) (by kernel_rfl) (by kernel_rfl) (by kernel_rfl) (by kernel_rfl) (by rfl) (by kernel_rfl) ?_ ?_ ?_
    · exact (Rms_cons (Rm_eq _) (Rms_cons (Rm_lit _ _ _) (Rms_cons (Rm_eq _) (Rms_cons (Rm_eq _) (Rms_cons (Rm_eq _) (Rms_cons (Rm_eq _) (Rms_cons (Rm_eq _) (Rms_cons (Rm_eq _) (Rms_cons (Rm_eq _) (Rms_cons (Rm_eq _) (Rms_cons (Rm_eq _) (Rms_cons (Rm_eq _) (Rms_cons (Rm_eq _) (Rms_cons (Rm_lit _ _ _) (Rms_cons (Rm_eq _) (Rms_cons (Rm_eq _) (Rms_cons (Rm_eq _) Rms_nil)))))))))))))))))
    · refine gsteps_cons ?_ ?_
      · intro a w' vs hB hel hd
        have e0 : a.tmps[0]? = some (.slice A l.length c) := (hel 0 (by kernel_rfl)).trans (by rfl)
        refine ⟨_, rfl, rfl, fun K hK => ?_⟩
        refine value_ (w1 := w') (v := .slice A l.length c) (by rfl) rfl ?_ (hK _ _ (by exact rfl) (Below.refl _ _))
        · go_simp
          (try simp only [i64_w])
          (try rfl)
          (try (unfold Go.RowKit.wrap64; omega))
      refine gsteps_cons ?_ ?_
      · intro a w' vs hB hel hd
        obtain ⟨f33, r33⟩ := hd 0 (by kernel_rfl)
        have e33 : a.tmps[33]? = some (.slice A l.length c) := f33.trans (congrArg some (r33 : vs 0 = (.slice A l.length c)))
        refine ⟨_, rfl, rfl, fun K hK => ?_⟩
        refine value_ (w1 := w'.alloc (.cells #[.slice A l.length c] 22)) (v := .slice (some ⟨w'.heap.size, 0, none⟩) 1 1) (by rfl) rfl ?_ (hK _ _ (by exact ⟨w'.heap.size, rfl, heap_new' rfl⟩) (below_alloc (Below.refl _ _) _))
        · go_simp
          (try rfl)
      refine gsteps_cons ?_ ?_
      · intro a w' vs hB hel hd
        obtain ⟨f34, r34⟩ := hd 1 (by kernel_rfl)
        obtain ⟨b1_, hv1_, hb1_⟩ := (r34 : (RLit 1 #[.slice A l.length c] 22) (vs 1) w')
        have e34 : a.tmps[34]? = some (.slice (some ⟨b1_, 0, none⟩) 1 1) := f34.trans (congrArg some hv1_)
        refine ⟨_, rfl, rfl, fun K hK => ?_⟩
        refine goes_ Try.func16 (by kernel_rfl) rfl #[.slice (some ⟨b1_, 0, none⟩) 1 1] (by rfl) rfl rfl (by first | (simp only [List.map_toArray, List.map_cons, List.map_nil, Act.eval, Array.getD_eq_getD_getElem?, Option.getD_some, e34]; done) | (simp only [List.map_toArray, List.map_cons, List.map_nil, Act.eval, Array.getD_eq_getD_getElem?, Option.getD_some, e34]; rfl)) ?_
        refine (sum_blk [l] hb1_ rfl (by simp) (Cs.cons (Kd.C_below HL.out (by (repeat (first | exact Below.refl _ _ | apply below_alloc | apply below_drew | apply pw_below_drewN | apply below_bytesWorld | (refine below_set ?_ (by first | assumption | omega)) | refine below_step ?_ (by assumption))))) hc (Cs.nil _))).mono ?_
        rintro e_ w2_ ⟨rfl, hb2_⟩
        exact ⟨_, rfl, hK _ _ (by exact rfl) hb2_⟩
      refine gsteps_cons ?_ ?_
      · intro a w' vs hB hel hd
        have e0 : a.tmps[0]? = some (.slice A l.length c) := (hel 0 (by kernel_rfl)).trans (by rfl)
        refine ⟨_, rfl, rfl, fun K hK => ?_⟩
        refine value_ (w1 := w') (v := .slice A l.length c) (by rfl) rfl ?_ (hK _ _ (by exact rfl) (Below.refl _ _))
        · go_simp
          (try simp only [i64_w])
          (try rfl)
          (try (unfold Go.RowKit.wrap64; omega))
      refine gsteps_cons ?_ ?_
      · intro a w' vs hB hel hd
        have e7 : a.tmps[7]? = some (.int .i64 (n : Int)) := (hel 7 (by kernel_rfl)).trans (by rfl)
        refine ⟨_, rfl, rfl, fun K hK => ?_⟩
        refine value_ (w1 := w') (v := .int .i64 (n : Int)) (by rfl) rfl ?_ (hK _ _ (by exact rfl) (Below.refl _ _))
        · go_simp
          (try simp only [i64_w])
          (try rfl)
          (try (unfold Go.RowKit.wrap64; omega))
      refine gsteps_cons ?_ ?_
      · intro a w' vs hB hel hd
        obtain ⟨f36, r36⟩ := hd 3 (by kernel_rfl)
        have e36 : a.tmps[36]? = some (.slice A l.length c) := f36.trans (congrArg some (r36 : vs 3 = (.slice A l.length c)))
        obtain ⟨f37, r37⟩ := hd 4 (by kernel_rfl)
        have e37 : a.tmps[37]? = some (.int .i64 (n : Int)) := f37.trans (congrArg some (r37 : vs 4 = (.int .i64 (n : Int))))
        refine ⟨_, rfl, rfl, fun K hK => ?_⟩
        refine value_ (w1 := w') (v := .slice A n c) (by rfl) rfl ?_ (hK _ _ (by exact rfl) (Below.refl _ _))
        · go_simp
          (try simp only [i64_w])
          (try rfl)
          (try (unfold Go.RowKit.wrap64; omega))
      refine gsteps_cons ?_ ?_
      · intro a w' vs hB hel hd
        have e0 : a.tmps[0]? = some (.slice A l.length c) := (hel 0 (by kernel_rfl)).trans (by rfl)
        refine ⟨_, rfl, rfl, fun K hK => ?_⟩
        refine value_ (w1 := w') (v := .slice A l.length c) (by rfl) rfl ?_ (hK _ _ (by exact rfl) (Below.refl _ _))
        · go_simp
          (try simp only [i64_w])
          (try rfl)
          (try (unfold Go.RowKit.wrap64; omega))
      refine gsteps_cons ?_ ?_
      · intro a w' vs hB hel hd
        have e7 : a.tmps[7]? = some (.int .i64 (n : Int)) := (hel 7 (by kernel_rfl)).trans (by rfl)
        refine ⟨_, rfl, rfl, fun K hK => ?_⟩
        refine value_ (w1 := w') (v := .int .i64 (n : Int)) (by rfl) rfl ?_ (hK _ _ (by exact rfl) (Below.refl _ _))
        · go_simp
          (try simp only [i64_w])
          (try rfl)
          (try (unfold Go.RowKit.wrap64; omega))
      refine gsteps_cons ?_ ?_
      · intro a w' vs hB hel hd
        have e8 : a.tmps[8]? = some (.int .i64 ((n : Int) + (m : Int))) := (hel 8 (by kernel_rfl)).trans (by rfl)
        refine ⟨_, rfl, rfl, fun K hK => ?_⟩
        refine value_ (w1 := w') (v := .int .i64 ((n : Int) + (m : Int))) (by rfl) rfl ?_ (hK _ _ (by exact rfl) (Below.refl _ _))
        · go_simp
          (try simp only [i64_w])
          (try rfl)
          (try (unfold Go.RowKit.wrap64; omega))
      refine gsteps_cons ?_ ?_
      · intro a w' vs hB hel hd
        obtain ⟨f39, r39⟩ := hd 6 (by kernel_rfl)
        have e39 : a.tmps[39]? = some (.slice A l.length c) := f39.trans (congrArg some (r39 : vs 6 = (.slice A l.length c)))
        obtain ⟨f40, r40⟩ := hd 7 (by kernel_rfl)
        have e40 : a.tmps[40]? = some (.int .i64 (n : Int)) := f40.trans (congrArg some (r40 : vs 7 = (.int .i64 (n : Int))))
        obtain ⟨f41, r41⟩ := hd 8 (by kernel_rfl)
        have e41 : a.tmps[41]? = some (.int .i64 ((n : Int) + (m : Int))) := f41.trans (congrArg some (r41 : vs 8 = (.int .i64 ((n : Int) + (m : Int)))))
        refine ⟨_, rfl, rfl, fun K hK => ?_⟩
        refine value_ (w1 := w') (v := .slice A1 (n + m - n) (c - n)) (by rfl) rfl ?_ (hK _ _ (by exact rfl) (Below.refl _ _))
        · go_simp
          (try simp only [i64_w])
          (try rfl)
          (try (unfold Go.RowKit.wrap64; omega))
      refine gsteps_cons ?_ ?_
      · intro a w' vs hB hel hd
        have e0 : a.tmps[0]? = some (.slice A l.length c) := (hel 0 (by kernel_rfl)).trans (by rfl)
        refine ⟨_, rfl, rfl, fun K hK => ?_⟩
        refine value_ (w1 := w') (v := .slice A l.length c) (by rfl) rfl ?_ (hK _ _ (by exact rfl) (Below.refl _ _))
        · go_simp
          (try simp only [i64_w])
          (try rfl)
          (try (unfold Go.RowKit.wrap64; omega))
      refine gsteps_cons ?_ ?_
      · intro a w' vs hB hel hd
        have e8 : a.tmps[8]? = some (.int .i64 ((n : Int) + (m : Int))) := (hel 8 (by kernel_rfl)).trans (by rfl)
        refine ⟨_, rfl, rfl, fun K hK => ?_⟩
        refine value_ (w1 := w') (v := .int .i64 ((n : Int) + (m : Int))) (by rfl) rfl ?_ (hK _ _ (by exact rfl) (Below.refl _ _))
        · go_simp
          (try simp only [i64_w])
          (try rfl)
          (try (unfold Go.RowKit.wrap64; omega))
      refine gsteps_cons ?_ ?_
      · intro a w' vs hB hel hd
        obtain ⟨f43, r43⟩ := hd 10 (by kernel_rfl)
        have e43 : a.tmps[43]? = some (.slice A l.length c) := f43.trans (congrArg some (r43 : vs 10 = (.slice A l.length c)))
        obtain ⟨f44, r44⟩ := hd 11 (by kernel_rfl)
        have e44 : a.tmps[44]? = some (.int .i64 ((n : Int) + (m : Int))) := f44.trans (congrArg some (r44 : vs 11 = (.int .i64 ((n : Int) + (m : Int)))))
        refine ⟨_, rfl, rfl, fun K hK => ?_⟩
        refine value_ (w1 := w') (v := .slice A2 (l.length - (n + m)) (c - (n + m))) (by rfl) rfl ?_ (hK _ _ (by exact rfl) (Below.refl _ _))
        · go_simp
          (try simp only [i64_w])
          (try rfl)
          (try (unfold Go.RowKit.wrap64; omega))
      refine gsteps_cons ?_ ?_
      · intro a w' vs hB hel hd
        obtain ⟨f38, r38⟩ := hd 5 (by kernel_rfl)
        have e38 : a.tmps[38]? = some (.slice A n c) := f38.trans (congrArg some (r38 : vs 5 = (.slice A n c)))
        obtain ⟨f42, r42⟩ := hd 9 (by kernel_rfl)
        have e42 : a.tmps[42]? = some (.slice A1 (n + m - n) (c - n)) := f42.trans (congrArg some (r42 : vs 9 = (.slice A1 (n + m - n) (c - n))))
        obtain ⟨f45, r45⟩ := hd 12 (by kernel_rfl)
        have e45 : a.tmps[45]? = some (.slice A2 (l.length - (n + m)) (c - (n + m))) := f45.trans (congrArg some (r45 : vs 12 = (.slice A2 (l.length - (n + m)) (c - (n + m)))))
        refine ⟨_, rfl, rfl, fun K hK => ?_⟩
        refine value_ (w1 := w'.alloc (.cells #[.slice A n c, .slice A1 (n + m - n) (c - n), (Value.slice none 0 0), .slice A2 (l.length - (n + m)) (c - (n + m))] 22)) (v := .slice (some ⟨w'.heap.size, 0, none⟩) 4 4) (by rfl) rfl ?_ (hK _ _ (by exact ⟨w'.heap.size, rfl, heap_new' rfl⟩) (below_alloc (Below.refl _ _) _))
        · go_simp
          (try rfl)
      refine gsteps_cons ?_ ?_
      · intro a w' vs hB hel hd
        obtain ⟨f46, r46⟩ := hd 13 (by kernel_rfl)
        obtain ⟨b13_, hv13_, hb13_⟩ := (r46 : (RLit 4 #[.slice A n c, .slice A1 (n + m - n) (c - n), (Value.slice none 0 0), .slice A2 (l.length - (n + m)) (c - (n + m))] 22) (vs 13) w')
        have e46 : a.tmps[46]? = some (.slice (some ⟨b13_, 0, none⟩) 4 4) := f46.trans (congrArg some hv13_)
        refine ⟨_, rfl, rfl, fun K hK => ?_⟩
        refine goes_ Try.func16 (by kernel_rfl) rfl #[.slice (some ⟨b13_, 0, none⟩) 4 4] (by rfl) rfl rfl (by first | (simp only [List.map_toArray, List.map_cons, List.map_nil, Act.eval, Array.getD_eq_getD_getElem?, Option.getD_some, e46]; done) | (simp only [List.map_toArray, List.map_cons, List.map_nil, Act.eval, Array.getD_eq_getD_getElem?, Option.getD_some, e46]; rfl)) ?_
        refine (sum_blk [l.take n, (l.take (n + m)).drop n, [], l.drop (n + m)] hb13_ rfl (by simp) (Cs.cons (Kd.C_below HC0.out (by (repeat (first | exact Below.refl _ _ | apply below_alloc | apply below_drew | apply pw_below_drewN | apply below_bytesWorld | (refine below_set ?_ (by first | assumption | omega)) | refine below_step ?_ (by assumption))))) (by omega) (Cs.cons (Kd.C_below HC1.out (by (repeat (first | exact Below.refl _ _ | apply below_alloc | apply below_drew | apply pw_below_drewN | apply below_bytesWorld | (refine below_set ?_ (by first | assumption | omega)) | refine below_step ?_ (by assumption))))) (by omega) (Cs.cons (C_nil0 _) (by omega) (Cs.cons (Kd.C_below HC2.out (by (repeat (first | exact Below.refl _ _ | apply below_alloc | apply below_drew | apply pw_below_drewN | apply below_bytesWorld | (refine below_set ?_ (by first | assumption | omega)) | refine below_step ?_ (by assumption))))) (by omega) (Cs.nil _)))))).mono ?_
        rintro e_ w2_ ⟨rfl, hb2_⟩
        exact ⟨_, rfl, hK _ _ (by exact rfl) hb2_⟩
      refine gsteps_cons ?_ ?_
      · intro a w' vs hB hel hd
        obtain ⟨f35, r35⟩ := hd 2 (by kernel_rfl)
        have e35 : a.tmps[35]? = some (.int .u32 (sumN [l] : Int)) := f35.trans (congrArg some (r35 : vs 2 = (.int .u32 (sumN [l] : Int))))
        obtain ⟨f47, r47⟩ := hd 14 (by kernel_rfl)
        have e47 : a.tmps[47]? = some (.int .u32 (sumN [l.take n, (l.take (n + m)).drop n, [], l.drop (n + m)] : Int)) := f47.trans (congrArg some (r47 : vs 14 = (.int .u32 (sumN [l.take n, (l.take (n + m)).drop n, [], l.drop (n + m)] : Int))))
        refine ⟨_, rfl, rfl, fun K hK => ?_⟩
        refine value_ (w1 := w') (v := .bool ((sumN [l] : Int) == (sumN [l.take n, (l.take (n + m)).drop n, [], l.drop (n + m)] : Int))) (by rfl) rfl ?_ (hK _ _ (by exact rfl) (Below.refl _ _))
        · go_simp
          (try simp only [i64_w])
          (try rfl)
          (try (unfold Go.RowKit.wrap64; omega))
      refine gsteps_cons ?_ ?_
      · intro a w' vs hB hel hd
        obtain ⟨f48, r48⟩ := hd 15 (by kernel_rfl)
        have e48 : a.tmps[48]? = some (.bool ((sumN [l] : Int) == (sumN [l.take n, (l.take (n + m)).drop n, [], l.drop (n + m)] : Int))) := f48.trans (congrArg some (r48 : vs 15 = (.bool ((sumN [l] : Int) == (sumN [l.take n, (l.take (n + m)).drop n, [], l.drop (n + m)] : Int)))))
        refine ⟨_, rfl, rfl, fun K hK => ?_⟩
        refine value_ (w1 := w') (v := .bool ((sumN [l] : Int) == (sumN [l.take n, (l.take (n + m)).drop n, [], l.drop (n + m)] : Int))) (by rfl) rfl ?_ (hK _ _ (by exact rfl) (Below.refl _ _))
        · go_simp
          (try simp only [i64_w])
          (try rfl)
          (try (unfold Go.RowKit.wrap64; omega))
      exact gsteps_nil
    · intro vs w' hB hR
      have hv0_ : vs 0 = (.slice A l.length c) := hR 0 (by kernel_rfl)
      obtain ⟨b1_, hv1_, hb1_⟩ := (hR 1 (by kernel_rfl) : (RLit 1 #[.slice A l.length c] 22) (vs 1) w')
      have hv2_ : vs 2 = (.int .u32 (sumN [l] : Int)) := hR 2 (by kernel_rfl)
      have hv3_ : vs 3 = (.slice A l.length c) := hR 3 (by kernel_rfl)
      have hv4_ : vs 4 = (.int .i64 (n : Int)) := hR 4 (by kernel_rfl)
      have hv5_ : vs 5 = (.slice A n c) := hR 5 (by kernel_rfl)
      have hv6_ : vs 6 = (.slice A l.length c) := hR 6 (by kernel_rfl)
      have hv7_ : vs 7 = (.int .i64 (n : Int)) := hR 7 (by kernel_rfl)
      have hv8_ : vs 8 = (.int .i64 ((n : Int) + (m : Int))) := hR 8 (by kernel_rfl)
      have hv9_ : vs 9 = (.slice A1 (n + m - n) (c - n)) := hR 9 (by kernel_rfl)
      have hv10_ : vs 10 = (.slice A l.length c) := hR 10 (by kernel_rfl)
      have hv11_ : vs 11 = (.int .i64 ((n : Int) + (m : Int))) := hR 11 (by kernel_rfl)
      have hv12_ : vs 12 = (.slice A2 (l.length - (n + m)) (c - (n + m))) := hR 12 (by kernel_rfl)
      obtain ⟨b13_, hv13_, hb13_⟩ := (hR 13 (by kernel_rfl) : (RLit 4 #[.slice A n c, .slice A1 (n + m - n) (c - n), (Value.slice none 0 0), .slice A2 (l.length - (n + m)) (c - (n + m))] 22) (vs 13) w')
      have hv14_ : vs 14 = (.int .u32 (sumN [l.take n, (l.take (n + m)).drop n, [], l.drop (n + m)] : Int)) := hR 14 (by kernel_rfl)
      have hv15_ : vs 15 = (.bool ((sumN [l] : Int) == (sumN [l.take n, (l.take (n + m)).drop n, [], l.drop (n + m)] : Int))) := hR 15 (by kernel_rfl)
      have hv16_ : vs 16 = (.bool ((sumN [l] : Int) == (sumN [l.take n, (l.take (n + m)).drop n, [], l.drop (n + m)] : Int))) := hR 16 (by kernel_rfl)
      rw [show entries [33, 34, 35, 36, 37, 38, 39, 40, 41, 42, 43, 44, 45, 46, 47, 48, 6] vs = [(0, 33, vs 0), (1, 34, vs 1), (2, 35, vs 2), (3, 36, vs 3), (4, 37, vs 4), (5, 38, vs 5), (6, 39, vs 6), (7, 40, vs 7), (8, 41, vs 8), (9, 42, vs 9), (10, 43, vs 10), (11, 44, vs 11), (12, 45, vs 12), (13, 46, vs 13), (14, 47, vs 14), (15, 48, vs 15), (16, 6, vs 16)] from rfl]
      simp only [putSel, if_true, Act.put, List.setIfInBounds_toArray, List.set_cons_zero, List.set_cons_succ, hv0_, hv1_, hv2_, hv3_, hv4_, hv5_, hv6_, hv7_, hv8_, hv9_, hv10_, hv11_, hv12_, hv13_, hv14_, hv15_, hv16_]
      clear hR hv0_ hv2_ hv3_ hv4_ hv5_ hv6_ hv7_ hv8_ hv9_ hv10_ hv11_ hv12_ hv14_ hv15_ hv16_
      rw [HALL.out]
      go_wp2
      go_ret
      exact ⟨by simp, by (repeat (first | exact Below.refl _ _ | apply below_alloc | apply below_drew | apply pw_below_drewN | apply below_bytesWorld | (refine below_set ?_ (by first | assumption | omega)) | refine below_step ?_ (by assumption)))⟩

set_option maxHeartbeats 1000000 in
theorem sumBytes_walk (A : Option Addr) (c : Nat) (l : List UInt8) (i : Int) (x : Nat) (w : World) (hr : kb.C w A l.length l) (hc : l.length ≤ c) (hi : -9223372036854775808 ≤ i ∧ i ≤ 9223372036854775807) (hx : x < 256) :
    Calls Try.prog 7 #[.slice A l.length c, .int .i64 i, .int .u8 (x : Int)] w fun e w' => e = .returned (.bool true) ∧ Below w.heap.size w w' := by
  by_cases hbig : (1500 : Int) < l.length
  · go_enter Try.func7, Try.ntmps7
    go_wp2_with ((go_at_call 15; refine (known8 _).mono ?_; rintro e_ w_ ⟨rfl, hb_⟩))
    go_ret
    exact ⟨rfl, by (repeat (first | exact Below.refl _ _ | apply below_alloc | apply below_drew | apply pw_below_drewN | apply below_bytesWorld | (refine below_set ?_ (by first | assumption | omega)) | refine below_step ?_ (by assumption)))⟩
  · by_cases h0 : ((l.length : Int) == 0) = true
    · go_enter Try.func7, Try.ntmps7
      go_wp2_with ((go_at_call 15; refine (known8 _).mono ?_; rintro e_ w_ ⟨rfl, hb_⟩))
      go_ret
      exact ⟨rfl, by (repeat (first | exact Below.refl _ _ | apply below_alloc | apply below_drew | apply pw_below_drewN | apply below_bytesWorld | (refine below_set ?_ (by first | assumption | omega)) | refine below_step ?_ (by assumption)))⟩
    · have h0' : ((l.length : Int) == 0) = false := by simpa using h0
      clear h0
      by_cases hx0 : ((x : Int) == 0) = true
      · go_enter Try.func7, Try.ntmps7
        go_wp2_with ((go_at_call 15; refine (known8 _).mono ?_; rintro e_ w_ ⟨rfl, hb_⟩))
        go_ret
        exact ⟨rfl, by (repeat (first | exact Below.refl _ _ | apply below_alloc | apply below_drew | apply pw_below_drewN | apply below_bytesWorld | (refine below_set ?_ (by first | assumption | omega)) | refine below_step ?_ (by assumption)))⟩
      · have hx0' : ((x : Int) == 0) = false := by simpa using hx0
        clear hx0
        obtain ⟨xb, rfl⟩ : ∃ xb : UInt8, x = xb.toNat := ⟨UInt8.ofNat x, by rw [UInt8.toNat_ofNat']; omega⟩
        have hxb : xb ≠ 0 := fun h => by subst h; simp at hx0'
        have HXB := Aside0.mk hxb
        clear hxb
        have HL := Aside0.mk hr
        clear hr
        obtain ⟨i0, hi0⟩ : ∃ i0 : Nat, (if i < 0 then (0 : Int) else i) = (i0 : Int) := by
          by_cases h : i < 0
          · exact ⟨0, by rw [if_pos h]; rfl⟩
          · exact ⟨i.toNat, by rw [if_neg h]; omega⟩
        have hlp : 0 < l.length := by
          rcases Nat.eq_zero_or_pos l.length with h | h
          · rw [h] at h0'; simp at h0'
          · exact h
        obtain ⟨n, hn0, hnl⟩ : ∃ n : Nat, (i0 : Int) % (l.length : Int) = (n : Int) ∧ n < l.length := ⟨i0 % l.length, (Int.natCast_emod i0 l.length).symm, Nat.mod_lt i0 hlp⟩
        clear hi
        go_enter Try.func7, Try.ntmps7
        go_wp2_with (first | (go_at_call 15; refine (known8 _).mono ?_; rintro e_ w_ ⟨rfl, hb_⟩) | (at_builtin; refine Kd.R_append_rows kb (w0 := w) w.heap.size rfl (.tmp 26) (.tmp 27) 22 5 (.int .u8 0) 1 rfl Try.underlying22 info_u8 rfl (by decide) (by omega) (.slice none 0 0) [] l _ _ _ (fun _ => True) (fun _ => False) rfl rfl (Kd.R_nil _ _ _ _ _) ?aR (fun _ _ h => h) (fun _ h => h.elim) (fun _ _ => trivial) ?aB ?aS ?aL ?_; (case aR => exact Kd.C_below HL.out (by (repeat (first | exact Below.refl _ _ | apply below_alloc | apply below_drew | apply pw_below_drewN | apply below_bytesWorld | (refine below_set ?_ (by first | assumption | omega)) | refine below_step ?_ (by assumption))))); (case aB => (repeat (first | exact Below.refl _ _ | apply below_alloc | apply below_drew | apply pw_below_drewN | apply below_bytesWorld | (refine below_set ?_ (by first | assumption | omega)) | refine below_step ?_ (by assumption)))); (case aS => exact below_size (by (repeat (first | exact Below.refl _ _ | apply below_alloc | apply below_drew | apply pw_below_drewN | apply below_bytesWorld | (refine below_set ?_ (by first | assumption | omega)) | refine below_step ?_ (by assumption))))); (case aL => simp; omega); intro v1 w2 HO HB hg hat; obtain ⟨g, cap, rfl, hlc, hgb, _, hfr, hC1⟩ := kb_form HO (by simpa using hlp); have HR := Aside0.mk HO; obtain ⟨ad_, hade_, hcl⟩ := C_at hC1 n (by simpa using hnl); cases hade_; have hfrn := hfr n; rw [add_plain, List.nil_append] at hcl; obtain ⟨cb, hcb⟩ : ∃ cb, cb = l.getD n 0 := ⟨_, rfl⟩; rw [← hcb] at hcl; have HCB := Aside0.mk hcb; have hxor := xor_byte cb xb; clear HO hg hat hfr hC1 hcb))
        have HS := Aside0.mk (kb_set HR.out n (cb ^^^ xb))
        refine (sum_blk [l] (by (repeat (first | (refine heap_new' ?_; simp; done) | apply heap_drew' | apply heap_old' | refine heap_below (by assumption) ?_))) rfl (by simp) (Cs.cons (Kd.C_below HL.out (by (repeat (first | exact Below.refl _ _ | apply below_alloc | apply below_drew | apply pw_below_drewN | apply below_bytesWorld | (refine below_set ?_ (by first | assumption | omega)) | refine below_step ?_ (by assumption))))) hc (Cs.nil _))).mono ?_; rintro e w3 ⟨rfl, hb3⟩
        have hCb := (kb_R HS.out).2.2
        go_wp2_with fail
        refine (sum_blk [l.set n (cb ^^^ xb)] (by (repeat (first | (refine heap_new' ?_; simp; done) | apply heap_drew' | apply heap_old' | refine heap_below (by assumption) ?_))) rfl (by simp) (Cs.cons (n := l.length) (Kd.C_below (n := l.length) (by simpa using hCb) (by (repeat (first | exact Below.refl _ _ | apply below_alloc | apply below_drew | apply pw_below_drewN | apply below_bytesWorld | (refine below_set ?_ (by first | assumption | omega)) | refine below_step ?_ (by assumption))))) (by simpa using hlc) (Cs.nil _))).mono ?_; rintro e w4 ⟨rfl, hb4⟩
        have hne : ((sumN [l] : Int) != (sumN [l.set n (cb ^^^ xb)] : Int)) = true := by
          have := set_other l n hnl xb HXB.out
          rw [← HCB.out] at this
          rw [bne_iff_ne]
          omega
        go_wp2_with fail
        go_ret
        exact ⟨rfl, by (repeat (first | exact Below.refl _ _ | apply below_alloc | apply below_drew | apply pw_below_drewN | apply below_bytesWorld | (refine below_set ?_ (by first | assumption | omega)) | refine below_step ?_ (by assumption)))⟩

set_option maxHeartbeats 1000000 in
theorem sumSwaps_walk (A : Option Addr) (c : Nat) (l : List UInt8) (i : Int) (w : World) (hr : kb.C w A l.length l) (hc : l.length ≤ c) (hi : -9223372036854775808 ≤ i ∧ i ≤ 9223372036854775807) :
    Calls Try.prog 8 #[.slice A l.length c, .int .i64 i] w fun e w' => e = .returned (.bool true) ∧ Below w.heap.size w w' := by
  by_cases hbig : (1500 : Int) < l.length
  · go_enter Try.func8, Try.ntmps8
    go_wp2_with ((go_at_call 15; refine (known8 _).mono ?_; rintro e_ w_ ⟨rfl, hb_⟩))
    go_ret
    exact ⟨rfl, by (repeat (first | exact Below.refl _ _ | apply below_alloc | apply below_drew | apply pw_below_drewN | apply below_bytesWorld | (refine below_set ?_ (by first | assumption | omega)) | refine below_step ?_ (by assumption)))⟩
  · by_cases h0 : (l.length : Int) < 2
    · go_enter Try.func8, Try.ntmps8
      go_wp2_with ((go_at_call 15; refine (known8 _).mono ?_; rintro e_ w_ ⟨rfl, hb_⟩))
      go_ret
      exact ⟨rfl, by (repeat (first | exact Below.refl _ _ | apply below_alloc | apply below_drew | apply pw_below_drewN | apply below_bytesWorld | (refine below_set ?_ (by first | assumption | omega)) | refine below_step ?_ (by assumption)))⟩
    · have h2 : (2 : Int) ≤ l.length := by omega
      clear h0
      obtain ⟨i0, hi0⟩ : ∃ i0 : Nat, (if i < 0 then (0 : Int) else i) = (i0 : Int) := by
        by_cases h : i < 0
        · exact ⟨0, by rw [if_pos h]; rfl⟩
        · exact ⟨i.toNat, by rw [if_neg h]; omega⟩
      obtain ⟨n, hn0, hnl⟩ : ∃ n : Nat, (i0 : Int) % ((l.length : Int) - 1) = (n : Int) ∧ n + 1 < l.length := by
        have e : (l.length : Int) - 1 = ((l.length - 1 : Nat) : Int) := by omega
        rw [e]
        exact ⟨i0 % (l.length - 1), (Int.natCast_emod i0 (l.length - 1)).symm, by have := Nat.mod_lt i0 (show 0 < l.length - 1 by omega); omega⟩
      obtain ⟨ad, hA, hx0⟩ := C_at hr n (by omega)
      obtain ⟨ad', hA', hx1⟩ := C_at hr (n + 1) (by omega)
      subst hA
      obtain rfl : ad = ad' := by injection hA'
      clear hA'
      obtain ⟨x0, hx0e⟩ : ∃ x, x = l.getD n 0 := ⟨_, rfl⟩
      obtain ⟨x1, hx1e⟩ : ∃ x, x = l.getD (n + 1) 0 := ⟨_, rfl⟩
      rw [← hx0e] at hx0
      rw [← hx1e] at hx1
      have HX0 := Aside0.mk hx0
      have HX1 := Aside0.mk hx1
      have HE0 := Aside0.mk hx0e
      have HE1 := Aside0.mk hx1e
      have HL := Aside0.mk hr
      clear hr hi hx0 hx1 hx0e hx1e
      go_enter Try.func8, Try.ntmps8
      go_wp2_with (first | (go_at_call 15; refine (known8 _).mono ?_; rintro e_ w_ ⟨rfl, hb_⟩) | (at_builtin; refine Kd.R_append_rows kb (w0 := w) w.heap.size rfl (.tmp 21) (.tmp 22) 22 5 (.int .u8 0) 1 rfl Try.underlying22 info_u8 rfl (by decide) (by omega) (.slice none 0 0) [] l _ _ _ (fun _ => True) (fun _ => False) rfl rfl (Kd.R_nil _ _ _ _ _) ?aR (fun _ _ h => h) (fun _ h => h.elim) (fun _ _ => trivial) ?aB ?aS ?aL ?_; (case aR => exact Kd.C_below HL.out (by (repeat (first | exact Below.refl _ _ | apply below_alloc | apply below_drew | apply pw_below_drewN | apply below_bytesWorld | (refine below_set ?_ (by first | assumption | omega)) | refine below_step ?_ (by assumption))))); (case aB => (repeat (first | exact Below.refl _ _ | apply below_alloc | apply below_drew | apply pw_below_drewN | apply below_bytesWorld | (refine below_set ?_ (by first | assumption | omega)) | refine below_step ?_ (by assumption)))); (case aS => exact below_size (by (repeat (first | exact Below.refl _ _ | apply below_alloc | apply below_drew | apply pw_below_drewN | apply below_bytesWorld | (refine below_set ?_ (by first | assumption | omega)) | refine below_step ?_ (by assumption))))); (case aL => simp; omega); intro v1 w2 HO HB hg hat; rw [List.nil_append] at HO; obtain ⟨g, cap, rfl, hlc, hgb, _, hfr, hC1⟩ := kb_form HO (by omega); have HR := Aside0.mk HO; obtain ⟨ad_, hade_, hcl⟩ := C_at hC1 n (by omega); obtain ⟨ad2_, hade2_, hcl2⟩ := C_at hC1 (n + 1) (by omega); cases hade_; cases hade2_; have hfrn := hfr n; have hfrn2 := hfr (n + 1); rw [add_plain] at hcl hcl2; rw [← HE0.out] at hcl; rw [← HE1.out] at hcl2; clear HO hg hat hfr hC1))
      have HS := Aside0.mk (kb_set (kb_set HR.out n x1) (n + 1) x0)
      have hCb := Aside0.mk (kb_R HS.out).2.2
      simp only [hn0]
      clear hn0 hi0 hcl hcl2 hfrn hfrn2
      generalize hW : (w2.setCell ⟨g, n, none⟩ (.int .u8 (x1.toNat : Int))).setCell ⟨g, n + 1, none⟩ (.int .u8 (x0.toNat : Int)) = W at hCb HS ⊢
      have HBW : Below w.heap.size w W := by rw [← hW]; (repeat (first | exact Below.refl _ _ | apply below_alloc | apply below_drew | apply pw_below_drewN | apply below_bytesWorld | (refine below_set ?_ (by first | assumption | omega)) | refine below_step ?_ (by assumption)))
      clear hW HR
      have key := swap_at l n hnl
      rw [← HE0.out, ← HE1.out] at key
      have hkey : (((sumN [l] : Int) == (sumN [(l.set n x1).set (n + 1) x0] : Int)) == ((x0.toNat : Int) == (x1.toNat : Int))) = true := by
        rw [beq_iff_eq, Bool.eq_iff_iff, beq_iff_eq, beq_iff_eq]
        constructor
        · intro h; rw [key.1 (by omega)]
        · intro h
          have : x0 = x1 := UInt8.toNat_inj.1 (by omega)
          rw [key.2 this]
      have HK := Aside0.mk hkey
      clear key hkey
      have hi1 : (n : Int) < (l.length : Int) := by omega
      have hi2 : (n : Int) + 1 < (l.length : Int) := by omega
      have hi3 : 0 ≤ (n : Int) + 1 := by omega
      have hi4 : ((n : Int) + 1).toNat = n + 1 := by omega
      refine grow_rs [47, 48, 49, 50, 51, 52, 53, 54, 55, 56, 57, 58, 59, 60, 61, 62, 63, 64, 4] [fun v _ => v = (.slice (some ad) l.length c), RLit 1 #[.slice (some ad) l.length c] 22, fun v _ => v = (.int .u32 (sumN [l] : Int)), fun v _ => v = (.slice (some ⟨g, 0, none⟩) l.length cap), RLit 1 #[.slice (some ⟨g, 0, none⟩) l.length cap] 22, fun v _ => v = (.int .u32 (sumN [(l.set n x1).set (n + 1) x0] : Int)), fun v _ => v = (.bool ((sumN [l] : Int) == (sumN [(l.set n x1).set (n + 1) x0] : Int))), fun v _ => v = (.slice (some ad) l.length c), fun v _ => v = (.int .i64 (n : Int)), fun v _ => v = (.pointer (some (ad.add n))), fun v _ => v = (.int .u8 (x0.toNat : Int)), fun v _ => v = (.slice (some ad) l.length c), fun v _ => v = (.int .i64 (n : Int)), fun v _ => v = (.int .i64 ((n : Int) + 1)), fun v _ => v = (.pointer (some (ad.add (n + 1)))), fun v _ => v = (.int .u8 (x1.toNat : Int)), fun v _ => v = (.bool ((x0.toNat : Int) == (x1.toNat : Int))), fun v _ => v = (.bool (((sumN [l] : Int) == (sumN [(l.set n x1).set (n + 1) x0] : Int)) == ((x0.toNat : Int) == (x1.toNat : Int)))), fun v _ => v = (.bool (((sumN [l] : Int) == (sumN [(l.set n x1).set (n + 1) x0] : Int)) == ((x0.toNat : Int) == (x1.toNat : Int))))] [0, 1, 2, 3, 4, 5, 6, 7, 8, 9, 10, 11, 12, 13, 14, 15, 16, 17, 18] (true, [([], []), ([0], [0]), ([1], [1]), ([], []), ([3], [3]), ([4, 2], [4]), ([2, 5], [2, 5]), ([], []), ([], []), ([7, 8], [7, 8]), ([9], [9]), ([], []), ([], []), ([12], [12]), ([11, 13], [11, 13]), ([14], [14]), ([10, 15], [10, 15]), ([6, 16], [6, 16]), ([17, 5, 0, 1, 2, 3, 4, 5, 6, 7, 8, 9, 10, 11, 12, 13, 14, 15, 16, 17], [17])]) [0, 1, 3, 0, 8, 31, 63, 0, 0, 384, 896, 0, 0, 4096, 14336, 30720, 65408, 131071, 262143] (by kernel_rfl) (by kernel_rfl) (by kernel_rfl) (by kernel_rfl) (by kernel_rfl) (by kernel_rfl) (by kernel_rfl) (by rfl) (by kernel_rfl) ?_ ?_ ?_
      · exact (Rms_cons (Rm_eq _) (Rms_cons (Rm_lit _ _ _) (Rms_cons (Rm_eq _) (Rms_cons (Rm_eq _) (Rms_cons (Rm_lit _ _ _) (Rms_cons (Rm_eq _) (Rms_cons (Rm_eq _) (Rms_cons (Rm_eq _) (Rms_cons (Rm_eq _) (Rms_cons (Rm_eq _) (Rms_cons (Rm_eq _) (Rms_cons (Rm_eq _) (Rms_cons (Rm_eq _) (Rms_cons (Rm_eq _) (Rms_cons (Rm_eq _) (Rms_cons (Rm_eq _) (Rms_cons (Rm_eq _) (Rms_cons (Rm_eq _) (Rms_cons (Rm_eq _) Rms_nil)))))))))))))))))))
      · refine gsteps_cons ?_ ?_
        · intro a w' vs hB hel hd
          have e0 : a.tmps[0]? = some (.slice (some ad) l.length c) := (hel 0 (by kernel_rfl)).trans (by rfl)
          refine ⟨_, rfl, rfl, fun K hK => ?_⟩
          refine value_ (w1 := w') (v := .slice (some ad) l.length c) (by rfl) rfl ?_ (hK _ _ (by exact rfl) (Below.refl _ _))
          · go_simp
            (try simp only [i64_w])
            (try rfl)
            (try (unfold Go.RowKit.wrap64; omega))
        refine gsteps_cons ?_ ?_
        · intro a w' vs hB hel hd
          obtain ⟨f47, r47⟩ := hd 0 (by kernel_rfl)
          have e47 : a.tmps[47]? = some (.slice (some ad) l.length c) := f47.trans (congrArg some (r47 : vs 0 = (.slice (some ad) l.length c)))
          refine ⟨_, rfl, rfl, fun K hK => ?_⟩
          refine value_ (w1 := w'.alloc (.cells #[.slice (some ad) l.length c] 22)) (v := .slice (some ⟨w'.heap.size, 0, none⟩) 1 1) (by rfl) rfl ?_ (hK _ _ (by exact ⟨w'.heap.size, rfl, heap_new' rfl⟩) (below_alloc (Below.refl _ _) _))
          · go_simp
            (try rfl)
        refine gsteps_cons ?_ ?_
        · intro a w' vs hB hel hd
          obtain ⟨f48, r48⟩ := hd 1 (by kernel_rfl)
          obtain ⟨b1_, hv1_, hb1_⟩ := (r48 : (RLit 1 #[.slice (some ad) l.length c] 22) (vs 1) w')
          have e48 : a.tmps[48]? = some (.slice (some ⟨b1_, 0, none⟩) 1 1) := f48.trans (congrArg some hv1_)
          refine ⟨_, rfl, rfl, fun K hK => ?_⟩
          refine goes_ Try.func16 (by kernel_rfl) rfl #[.slice (some ⟨b1_, 0, none⟩) 1 1] (by rfl) rfl rfl (by first | (simp only [List.map_toArray, List.map_cons, List.map_nil, Act.eval, Array.getD_eq_getD_getElem?, Option.getD_some, e48]; done) | (simp only [List.map_toArray, List.map_cons, List.map_nil, Act.eval, Array.getD_eq_getD_getElem?, Option.getD_some, e48]; rfl)) ?_
          refine (sum_blk [l] hb1_ rfl (by simp) (Cs.cons (Kd.C_below HL.out (by (repeat (first | exact Below.refl _ _ | apply below_alloc | apply below_drew | apply pw_below_drewN | apply below_bytesWorld | (refine below_set ?_ (by first | assumption | omega)) | refine below_step ?_ (by assumption))))) hc (Cs.nil _))).mono ?_
          rintro e_ w2_ ⟨rfl, hb2_⟩
          exact ⟨_, rfl, hK _ _ (by exact rfl) hb2_⟩
        refine gsteps_cons ?_ ?_
        · intro a w' vs hB hel hd
          have e5 : a.tmps[5]? = some (.slice (some ⟨g, 0, none⟩) l.length cap) := (hel 5 (by kernel_rfl)).trans (by rfl)
          refine ⟨_, rfl, rfl, fun K hK => ?_⟩
          refine value_ (w1 := w') (v := .slice (some ⟨g, 0, none⟩) l.length cap) (by rfl) rfl ?_ (hK _ _ (by exact rfl) (Below.refl _ _))
          · go_simp
            (try simp only [i64_w])
            (try rfl)
            (try (unfold Go.RowKit.wrap64; omega))
        refine gsteps_cons ?_ ?_
        · intro a w' vs hB hel hd
          obtain ⟨f50, r50⟩ := hd 3 (by kernel_rfl)
          have e50 : a.tmps[50]? = some (.slice (some ⟨g, 0, none⟩) l.length cap) := f50.trans (congrArg some (r50 : vs 3 = (.slice (some ⟨g, 0, none⟩) l.length cap)))
          refine ⟨_, rfl, rfl, fun K hK => ?_⟩
          refine value_ (w1 := w'.alloc (.cells #[.slice (some ⟨g, 0, none⟩) l.length cap] 22)) (v := .slice (some ⟨w'.heap.size, 0, none⟩) 1 1) (by rfl) rfl ?_ (hK _ _ (by exact ⟨w'.heap.size, rfl, heap_new' rfl⟩) (below_alloc (Below.refl _ _) _))
          · go_simp
            (try rfl)
        refine gsteps_cons ?_ ?_
        · intro a w' vs hB hel hd
          obtain ⟨f51, r51⟩ := hd 4 (by kernel_rfl)
          obtain ⟨b4_, hv4_, hb4_⟩ := (r51 : (RLit 1 #[.slice (some ⟨g, 0, none⟩) l.length cap] 22) (vs 4) w')
          have e51 : a.tmps[51]? = some (.slice (some ⟨b4_, 0, none⟩) 1 1) := f51.trans (congrArg some hv4_)
          refine ⟨_, rfl, rfl, fun K hK => ?_⟩
          refine goes_ Try.func16 (by kernel_rfl) rfl #[.slice (some ⟨b4_, 0, none⟩) 1 1] (by rfl) rfl rfl (by first | (simp only [List.map_toArray, List.map_cons, List.map_nil, Act.eval, Array.getD_eq_getD_getElem?, Option.getD_some, e51]; done) | (simp only [List.map_toArray, List.map_cons, List.map_nil, Act.eval, Array.getD_eq_getD_getElem?, Option.getD_some, e51]; rfl)) ?_
          refine (sum_blk [(l.set n x1).set (n + 1) x0] hb4_ rfl (by simp) (Cs.cons (n := l.length) (Kd.C_below (by have := hCb.out; simpa using this) hB) hlc (Cs.nil _))).mono ?_
          rintro e_ w2_ ⟨rfl, hb2_⟩
          exact ⟨_, rfl, hK _ _ (by exact rfl) hb2_⟩
        refine gsteps_cons ?_ ?_
        · intro a w' vs hB hel hd
          obtain ⟨f49, r49⟩ := hd 2 (by kernel_rfl)
          have e49 : a.tmps[49]? = some (.int .u32 (sumN [l] : Int)) := f49.trans (congrArg some (r49 : vs 2 = (.int .u32 (sumN [l] : Int))))
          obtain ⟨f52, r52⟩ := hd 5 (by kernel_rfl)
          have e52 : a.tmps[52]? = some (.int .u32 (sumN [(l.set n x1).set (n + 1) x0] : Int)) := f52.trans (congrArg some (r52 : vs 5 = (.int .u32 (sumN [(l.set n x1).set (n + 1) x0] : Int))))
          refine ⟨_, rfl, rfl, fun K hK => ?_⟩
          refine value_ (w1 := w') (v := .bool ((sumN [l] : Int) == (sumN [(l.set n x1).set (n + 1) x0] : Int))) (by rfl) rfl ?_ (hK _ _ (by exact rfl) (Below.refl _ _))
          · go_simp
            (try simp only [i64_w])
            (try rfl)
            (try (unfold Go.RowKit.wrap64; omega))
        refine gsteps_cons ?_ ?_
        · intro a w' vs hB hel hd
          have e0 : a.tmps[0]? = some (.slice (some ad) l.length c) := (hel 0 (by kernel_rfl)).trans (by rfl)
          refine ⟨_, rfl, rfl, fun K hK => ?_⟩
          refine value_ (w1 := w') (v := .slice (some ad) l.length c) (by rfl) rfl ?_ (hK _ _ (by exact rfl) (Below.refl _ _))
          · go_simp
            (try simp only [i64_w])
            (try rfl)
            (try (unfold Go.RowKit.wrap64; omega))
        refine gsteps_cons ?_ ?_
        · intro a w' vs hB hel hd
          have e6 : a.tmps[6]? = some (.int .i64 (n : Int)) := (hel 6 (by kernel_rfl)).trans (by rfl)
          refine ⟨_, rfl, rfl, fun K hK => ?_⟩
          refine value_ (w1 := w') (v := .int .i64 (n : Int)) (by rfl) rfl ?_ (hK _ _ (by exact rfl) (Below.refl _ _))
          · go_simp
            (try simp only [i64_w])
            (try rfl)
            (try (unfold Go.RowKit.wrap64; omega))
        refine gsteps_cons ?_ ?_
        · intro a w' vs hB hel hd
          obtain ⟨f54, r54⟩ := hd 7 (by kernel_rfl)
          have e54 : a.tmps[54]? = some (.slice (some ad) l.length c) := f54.trans (congrArg some (r54 : vs 7 = (.slice (some ad) l.length c)))
          obtain ⟨f55, r55⟩ := hd 8 (by kernel_rfl)
          have e55 : a.tmps[55]? = some (.int .i64 (n : Int)) := f55.trans (congrArg some (r55 : vs 8 = (.int .i64 (n : Int))))
          refine ⟨_, rfl, rfl, fun K hK => ?_⟩
          refine value_ (w1 := w') (v := .pointer (some (ad.add n))) (by rfl) rfl ?_ (hK _ _ (by exact rfl) (Below.refl _ _))
          · go_simp
            (try simp only [i64_w])
            (try rfl)
            (try (unfold Go.RowKit.wrap64; omega))
        refine gsteps_cons ?_ ?_
        · intro a w' vs hB hel hd
          obtain ⟨f56, r56⟩ := hd 9 (by kernel_rfl)
          have e56 : a.tmps[56]? = some (.pointer (some (ad.add n))) := f56.trans (congrArg some (r56 : vs 9 = (.pointer (some (ad.add n)))))
          have hx0 := bcell (W := w) (w1 := w') (by (repeat (first | exact Below.refl _ _ | apply below_alloc | apply below_drew | apply pw_below_drewN | apply below_bytesWorld | (refine below_set ?_ (by first | assumption | omega)) | refine below_step ?_ (by assumption)))) HX0.out
          refine ⟨_, rfl, rfl, fun K hK => ?_⟩
          refine value_ (w1 := w') (v := .int .u8 (x0.toNat : Int)) (by rfl) rfl ?_ (hK _ _ (by exact rfl) (Below.refl _ _))
          · go_simp
            (try simp only [i64_w])
            (try rfl)
            (try (unfold Go.RowKit.wrap64; omega))
        refine gsteps_cons ?_ ?_
        · intro a w' vs hB hel hd
          have e0 : a.tmps[0]? = some (.slice (some ad) l.length c) := (hel 0 (by kernel_rfl)).trans (by rfl)
          refine ⟨_, rfl, rfl, fun K hK => ?_⟩
          refine value_ (w1 := w') (v := .slice (some ad) l.length c) (by rfl) rfl ?_ (hK _ _ (by exact rfl) (Below.refl _ _))
          · go_simp
            (try simp only [i64_w])
            (try rfl)
            (try (unfold Go.RowKit.wrap64; omega))
        refine gsteps_cons ?_ ?_
        · intro a w' vs hB hel hd
          have e6 : a.tmps[6]? = some (.int .i64 (n : Int)) := (hel 6 (by kernel_rfl)).trans (by rfl)
          refine ⟨_, rfl, rfl, fun K hK => ?_⟩
          refine value_ (w1 := w') (v := .int .i64 (n : Int)) (by rfl) rfl ?_ (hK _ _ (by exact rfl) (Below.refl _ _))
          · go_simp
            (try simp only [i64_w])
            (try rfl)
            (try (unfold Go.RowKit.wrap64; omega))
        refine gsteps_cons ?_ ?_
        · intro a w' vs hB hel hd
          obtain ⟨f59, r59⟩ := hd 12 (by kernel_rfl)
          have e59 : a.tmps[59]? = some (.int .i64 (n : Int)) := f59.trans (congrArg some (r59 : vs 12 = (.int .i64 (n : Int))))
          have hw_ : IntKind.i64.wrap ((n : Int) + 1) = (n : Int) + 1 := IntWalk.i64_in _ (by omega)
          refine ⟨_, rfl, rfl, fun K hK => ?_⟩
          refine value_ (w1 := w') (v := .int .i64 ((n : Int) + 1)) (by rfl) rfl ?_ (hK _ _ (by exact rfl) (Below.refl _ _))
          · go_simp
            (try simp only [i64_w])
            (try rfl)
            (try (unfold Go.RowKit.wrap64; omega))
        refine gsteps_cons ?_ ?_
        · intro a w' vs hB hel hd
          obtain ⟨f58, r58⟩ := hd 11 (by kernel_rfl)
          have e58 : a.tmps[58]? = some (.slice (some ad) l.length c) := f58.trans (congrArg some (r58 : vs 11 = (.slice (some ad) l.length c)))
          obtain ⟨f60, r60⟩ := hd 13 (by kernel_rfl)
          have e60 : a.tmps[60]? = some (.int .i64 ((n : Int) + 1)) := f60.trans (congrArg some (r60 : vs 13 = (.int .i64 ((n : Int) + 1))))
          refine ⟨_, rfl, rfl, fun K hK => ?_⟩
          refine value_ (w1 := w') (v := .pointer (some (ad.add (n + 1)))) (by rfl) rfl ?_ (hK _ _ (by exact rfl) (Below.refl _ _))
          · go_simp
            (try simp only [i64_w])
            (try rfl)
            (try (unfold Go.RowKit.wrap64; omega))
        refine gsteps_cons ?_ ?_
        · intro a w' vs hB hel hd
          obtain ⟨f61, r61⟩ := hd 14 (by kernel_rfl)
          have e61 : a.tmps[61]? = some (.pointer (some (ad.add (n + 1)))) := f61.trans (congrArg some (r61 : vs 14 = (.pointer (some (ad.add (n + 1))))))
          have hx1 := bcell (W := w) (w1 := w') (by (repeat (first | exact Below.refl _ _ | apply below_alloc | apply below_drew | apply pw_below_drewN | apply below_bytesWorld | (refine below_set ?_ (by first | assumption | omega)) | refine below_step ?_ (by assumption)))) HX1.out
          have hx1b : w'.cell? { block := ad.block, off := ad.off + (n + 1) } = some (.int .u8 (x1.toNat : Int)) := by have h := hx1; unfold Addr.add at h; simpa using h
          refine ⟨_, rfl, rfl, fun K hK => ?_⟩
          refine value_ (w1 := w') (v := .int .u8 (x1.toNat : Int)) (by rfl) rfl ?_ (hK _ _ (by exact rfl) (Below.refl _ _))
          · go_simp
            (try simp only [i64_w])
            (try rfl)
            (try (unfold Go.RowKit.wrap64; omega))
        refine gsteps_cons ?_ ?_
        · intro a w' vs hB hel hd
          obtain ⟨f57, r57⟩ := hd 10 (by kernel_rfl)
          have e57 : a.tmps[57]? = some (.int .u8 (x0.toNat : Int)) := f57.trans (congrArg some (r57 : vs 10 = (.int .u8 (x0.toNat : Int))))
          obtain ⟨f62, r62⟩ := hd 15 (by kernel_rfl)
          have e62 : a.tmps[62]? = some (.int .u8 (x1.toNat : Int)) := f62.trans (congrArg some (r62 : vs 15 = (.int .u8 (x1.toNat : Int))))
          refine ⟨_, rfl, rfl, fun K hK => ?_⟩
          refine value_ (w1 := w') (v := .bool ((x0.toNat : Int) == (x1.toNat : Int))) (by rfl) rfl ?_ (hK _ _ (by exact rfl) (Below.refl _ _))
          · go_simp
            (try simp only [i64_w])
            (try rfl)
            (try (unfold Go.RowKit.wrap64; omega))
        refine gsteps_cons ?_ ?_
        · intro a w' vs hB hel hd
          obtain ⟨f53, r53⟩ := hd 6 (by kernel_rfl)
          have e53 : a.tmps[53]? = some (.bool ((sumN [l] : Int) == (sumN [(l.set n x1).set (n + 1) x0] : Int))) := f53.trans (congrArg some (r53 : vs 6 = (.bool ((sumN [l] : Int) == (sumN [(l.set n x1).set (n + 1) x0] : Int)))))
          obtain ⟨f63, r63⟩ := hd 16 (by kernel_rfl)
          have e63 : a.tmps[63]? = some (.bool ((x0.toNat : Int) == (x1.toNat : Int))) := f63.trans (congrArg some (r63 : vs 16 = (.bool ((x0.toNat : Int) == (x1.toNat : Int)))))
          refine ⟨_, rfl, rfl, fun K hK => ?_⟩
          refine value_ (w1 := w') (v := .bool (((sumN [l] : Int) == (sumN [(l.set n x1).set (n + 1) x0] : Int)) == ((x0.toNat : Int) == (x1.toNat : Int)))) (by rfl) rfl ?_ (hK _ _ (by exact rfl) (Below.refl _ _))
          · go_simp
            (try simp only [i64_w])
            (try rfl)
            (try (unfold Go.RowKit.wrap64; omega))
        refine gsteps_cons ?_ ?_
        · intro a w' vs hB hel hd
          obtain ⟨f64, r64⟩ := hd 17 (by kernel_rfl)
          have e64 : a.tmps[64]? = some (.bool (((sumN [l] : Int) == (sumN [(l.set n x1).set (n + 1) x0] : Int)) == ((x0.toNat : Int) == (x1.toNat : Int)))) := f64.trans (congrArg some (r64 : vs 17 = (.bool (((sumN [l] : Int) == (sumN [(l.set n x1).set (n + 1) x0] : Int)) == ((x0.toNat : Int) == (x1.toNat : Int))))))
          refine ⟨_, rfl, rfl, fun K hK => ?_⟩
          refine value_ (w1 := w') (v := .bool (((sumN [l] : Int) == (sumN [(l.set n x1).set (n + 1) x0] : Int)) == ((x0.toNat : Int) == (x1.toNat : Int)))) (by rfl) rfl ?_ (hK _ _ (by exact rfl) (Below.refl _ _))
          · go_simp
            (try simp only [i64_w])
            (try rfl)
            (try (unfold Go.RowKit.wrap64; omega))
        exact gsteps_nil
      · intro vs w' hB hR
        have hv0_ : vs 0 = (.slice (some ad) l.length c) := hR 0 (by kernel_rfl)
        obtain ⟨b1_, hv1_, hb1_⟩ := (hR 1 (by kernel_rfl) : (RLit 1 #[.slice (some ad) l.length c] 22) (vs 1) w')
        have hv2_ : vs 2 = (.int .u32 (sumN [l] : Int)) := hR 2 (by kernel_rfl)
        have hv3_ : vs 3 = (.slice (some ⟨g, 0, none⟩) l.length cap) := hR 3 (by kernel_rfl)
        obtain ⟨b4_, hv4_, hb4_⟩ := (hR 4 (by kernel_rfl) : (RLit 1 #[.slice (some ⟨g, 0, none⟩) l.length cap] 22) (vs 4) w')
        have hv5_ : vs 5 = (.int .u32 (sumN [(l.set n x1).set (n + 1) x0] : Int)) := hR 5 (by kernel_rfl)
        have hv6_ : vs 6 = (.bool ((sumN [l] : Int) == (sumN [(l.set n x1).set (n + 1) x0] : Int))) := hR 6 (by kernel_rfl)
        have hv7_ : vs 7 = (.slice (some ad) l.length c) := hR 7 (by kernel_rfl)
        have hv8_ : vs 8 = (.int .i64 (n : Int)) := hR 8 (by kernel_rfl)
        have hv9_ : vs 9 = (.pointer (some (ad.add n))) := hR 9 (by kernel_rfl)
        have hv10_ : vs 10 = (.int .u8 (x0.toNat : Int)) := hR 10 (by kernel_rfl)
        have hv11_ : vs 11 = (.slice (some ad) l.length c) := hR 11 (by kernel_rfl)
        have hv12_ : vs 12 = (.int .i64 (n : Int)) := hR 12 (by kernel_rfl)
        have hv13_ : vs 13 = (.int .i64 ((n : Int) + 1)) := hR 13 (by kernel_rfl)
        have hv14_ : vs 14 = (.pointer (some (ad.add (n + 1)))) := hR 14 (by kernel_rfl)
        have hv15_ : vs 15 = (.int .u8 (x1.toNat : Int)) := hR 15 (by kernel_rfl)
        have hv16_ : vs 16 = (.bool ((x0.toNat : Int) == (x1.toNat : Int))) := hR 16 (by kernel_rfl)
        have hv17_ : vs 17 = (.bool (((sumN [l] : Int) == (sumN [(l.set n x1).set (n + 1) x0] : Int)) == ((x0.toNat : Int) == (x1.toNat : Int)))) := hR 17 (by kernel_rfl)
        have hv18_ : vs 18 = (.bool (((sumN [l] : Int) == (sumN [(l.set n x1).set (n + 1) x0] : Int)) == ((x0.toNat : Int) == (x1.toNat : Int)))) := hR 18 (by kernel_rfl)
        rw [show entries [47, 48, 49, 50, 51, 52, 53, 54, 55, 56, 57, 58, 59, 60, 61, 62, 63, 64, 4] vs = [(0, 47, vs 0), (1, 48, vs 1), (2, 49, vs 2), (3, 50, vs 3), (4, 51, vs 4), (5, 52, vs 5), (6, 53, vs 6), (7, 54, vs 7), (8, 55, vs 8), (9, 56, vs 9), (10, 57, vs 10), (11, 58, vs 11), (12, 59, vs 12), (13, 60, vs 13), (14, 61, vs 14), (15, 62, vs 15), (16, 63, vs 16), (17, 64, vs 17), (18, 4, vs 18)] from rfl]
        simp only [putSel, if_true, Act.put, List.setIfInBounds_toArray, List.set_cons_zero, List.set_cons_succ, hv0_, hv1_, hv2_, hv3_, hv4_, hv5_, hv6_, hv7_, hv8_, hv9_, hv10_, hv11_, hv12_, hv13_, hv14_, hv15_, hv16_, hv17_, hv18_]
        clear hR hv0_ hv2_ hv3_ hv5_ hv6_ hv7_ hv8_ hv9_ hv10_ hv11_ hv12_ hv13_ hv14_ hv15_ hv16_ hv17_ hv18_
        rw [HK.out]
        go_wp2
        go_ret
        exact ⟨rfl, by (repeat (first | exact Below.refl _ _ | apply below_alloc | apply below_drew | apply pw_below_drewN | apply below_bytesWorld | (refine below_set ?_ (by first | assumption | omega)) | refine below_step ?_ (by assumption)))⟩

theorem ref_step (s : Nat × Nat) (c : UInt8) (h : Fine s) : ((s.1 : Int) + c.toNat) % 4294967296 % 65521 = ((adStep s c).1 : Int) ∧ ((s.2 : Int) + ((adStep s c).1 : Int)) % 4294967296 % 65521 = ((adStep s c).2 : Int) := by
  obtain ⟨h1, h2⟩ := h
  have hc := c.toNat_lt
  unfold adStep
  simp only
  omega

set_option maxHeartbeats 1000000 in
theorem refSum_any (A : Option Addr) (c : Nat) (l : List (List UInt8)) (w : World) (hr : (Kd.slice 5 kb).C w A l.length l) :
    Calls Try.prog 17 #[.slice A l.length c] w fun e w' => e = .returned (.int .u32 (sumN l : Int)) ∧ w' = w := by
  have hm := C_max hr
  have HR := Aside0.mk hr
  clear hr
  go_enter Try.func17, Try.ntmps17
  go_wp2
  go_loop [3, 4, 5] (fun a b i => ∃ (k : Nat) (s : Nat × Nat), k ≤ l.length ∧ i = .int .i64 k ∧ a = .int .u32 (s.1 : Int) ∧ b = .int .u32 (s.2 : Int) ∧ Aside0 (s = adls (1, 0) (l.take k)) ∧ Aside0 (Fine s)) (fun _ _ i => l.length - (intOf i).toNat)
  case atStart => exact ⟨0, (1, 0), Nat.zero_le _, rfl, rfl, rfl, ⟨rfl⟩, ⟨fine_start⟩⟩
  case round =>
    obtain ⟨k, s, hk, rfl, rfl, rfl, HS, HF⟩ := hrel
    by_cases hlt : k < l.length
    · obtain ⟨ad, A', c', rfl, hx, hxl, hxc⟩ := CC_at HR.out k hlt
      clear hxl
      have hts := Aside0.mk (take_succ_getD [] l k hlt)
      have hxm := C_max hxc
      have HX := Aside0.mk hxc
      clear hxc
      obtain ⟨x, hxe⟩ : ∃ x, x = l.getD k [] := ⟨_, rfl⟩
      rw [← hxe] at hx HX hts hxm
      clear hxe
      go_wp2
      go_loop [3, 4, 6] (fun a b j => ∃ (m : Nat) (t : Nat × Nat), m ≤ x.length ∧ j = .int .i64 m ∧ a = .int .u32 (t.1 : Int) ∧ b = .int .u32 (t.2 : Int) ∧ Aside0 (t = adl s (x.take m)) ∧ Aside0 (Fine t)) (fun _ _ j => x.length - (intOf j).toNat)
      case atStart => exact ⟨0, s, Nat.zero_le _, rfl, rfl, rfl, ⟨rfl⟩, HF⟩
      case round =>
        obtain ⟨m, t, hmx, rfl, rfl, rfl, HT, HFT⟩ := hrel
        by_cases hml : m < x.length
        · obtain ⟨ad2, rfl, hb0⟩ := C_at HX.out m hml
          have hts2 := Aside0.mk (take_succ_getD 0 x m hml)
          generalize x.getD m 0 = cb at hb0 hts2
          have hst := ref_step t cb HFT.out
          have h1 := hst.1
          have h2 := hst.2
          clear hst
          go_wp2
          go_round
          case rel => exact ⟨m + 1, adStep t cb, by omega, by go_num, (by first | rfl | rw [h1]), (by first | rfl | rw [h2]), ⟨by rw [hts2.out, adl_snoc, HT.out]⟩, ⟨fine_step cb⟩⟩
          case measure => simp [intOf]; omega
        · obtain rfl : m = x.length := by omega
          have HTx := HT.out
          rw [List.take_length] at HTx
          have HTx' := Aside0.mk HTx
          clear HTx
          go_wp2
          go_round
          case rel => exact ⟨k + 1, t, by omega, by go_num, rfl, rfl, ⟨by rw [hts.out, adls_snoc, HTx'.out, HS.out]⟩, HFT⟩
          case measure => simp [intOf]; omega
    · obtain rfl : k = l.length := by omega
      have HSx := HS.out
      rw [List.take_length] at HSx
      have HSx' := Aside0.mk HSx
      clear HSx
      have hend : ((s.2 : Int) * 65536 % 4294967296 + (s.1 : Int)) % 4294967296 = (sumN l : Int) := by
        have := HF.out
        obtain ⟨h1, h2⟩ := this
        unfold sumN
        rw [← HSx'.out]
        unfold sumOf
        omega
      go_wp2
      go_ret
      exact ⟨rfl, rfl⟩

set_option maxHeartbeats 1000000 in
theorem sumSums_walk (A : Option Addr) (c : Nat) (l : List UInt8) (A' : Option Addr) (c' : Nat) (l' : List UInt8) (w : World) (hr : kb.C w A l.length l) (hc : l.length ≤ c) (hr' : kb.C w A' l'.length l') (hc' : l'.length ≤ c') :
    Calls Try.prog 5 #[.slice A l.length c, .slice A' l'.length c'] w fun e w' => e = .returned (.bool true) ∧ Below w.heap.size w w' := by
  by_cases hbig : (1500 : Int) < l.length
  · go_enter Try.func5, Try.ntmps5
    go_wp2_with ((go_at_call 15; refine (known8 _).mono ?_; rintro e_ w_ ⟨rfl, hb_⟩))
    go_ret
    exact ⟨rfl, by (repeat (first | exact Below.refl _ _ | apply below_alloc | apply below_drew | apply pw_below_drewN | apply below_bytesWorld | (refine below_set ?_ (by first | assumption | omega)) | refine below_step ?_ (by assumption)))⟩
  · by_cases hbig' : (1500 : Int) < l'.length
    · go_enter Try.func5, Try.ntmps5
      go_wp2_with ((go_at_call 15; refine (known8 _).mono ?_; rintro e_ w_ ⟨rfl, hb_⟩))
      go_ret
      exact ⟨rfl, by (repeat (first | exact Below.refl _ _ | apply below_alloc | apply below_drew | apply pw_below_drewN | apply below_bytesWorld | (refine below_set ?_ (by first | assumption | omega)) | refine below_step ?_ (by assumption)))⟩
    · have HL := Aside0.mk hr
      have HL' := Aside0.mk hr'
      clear hr hr'
      go_enter Try.func5, Try.ntmps5
      go_wp2_with fail
      refine (known8 _).mono ?_; rintro e w1 ⟨rfl, hb1⟩
      go_wp2_with fail
      refine (sum_blk [l, l'] (by (repeat (first | (refine heap_new' ?_; simp; done) | apply heap_drew' | apply heap_old' | refine heap_below (by assumption) ?_))) rfl (by simp) (Cs.cons (Kd.C_below HL.out (by (repeat (first | exact Below.refl _ _ | apply below_alloc | apply below_drew | apply pw_below_drewN | apply below_bytesWorld | (refine below_set ?_ (by first | assumption | omega)) | refine below_step ?_ (by assumption))))) hc (Cs.cons (Kd.C_below HL'.out (by (repeat (first | exact Below.refl _ _ | apply below_alloc | apply below_drew | apply pw_below_drewN | apply below_bytesWorld | (refine below_set ?_ (by first | assumption | omega)) | refine below_step ?_ (by assumption))))) hc' (Cs.nil _)))).mono ?_; rintro e w2 ⟨rfl, hb2⟩
      go_wp2_with fail
      refine (refSum_any _ _ [l, l'] _ (CC_blk (by (repeat (first | (refine heap_new' ?_; simp; done) | apply heap_drew' | apply heap_old' | refine heap_below (by assumption) ?_))) rfl (by simp) (Cs.cons (Kd.C_below HL.out (by (repeat (first | exact Below.refl _ _ | apply below_alloc | apply below_drew | apply pw_below_drewN | apply below_bytesWorld | (refine below_set ?_ (by first | assumption | omega)) | refine below_step ?_ (by assumption))))) hc (Cs.cons (Kd.C_below HL'.out (by (repeat (first | exact Below.refl _ _ | apply below_alloc | apply below_drew | apply pw_below_drewN | apply below_bytesWorld | (refine below_set ?_ (by first | assumption | omega)) | refine below_step ?_ (by assumption))))) hc' (Cs.nil _))))).mono ?_; rintro e w3 ⟨rfl, rfl⟩
      go_wp2_with fail
      refine (sum_blk [l'] (by (repeat (first | (refine heap_new' ?_; simp; done) | apply heap_drew' | apply heap_old' | refine heap_below (by assumption) ?_))) rfl (by simp) (Cs.cons (Kd.C_below HL'.out (by (repeat (first | exact Below.refl _ _ | apply below_alloc | apply below_drew | apply pw_below_drewN | apply below_bytesWorld | (refine below_set ?_ (by first | assumption | omega)) | refine below_step ?_ (by assumption))))) hc' (Cs.nil _))).mono ?_; rintro e w4 ⟨rfl, hb4⟩
      go_wp2_with fail
      refine (refSum_any _ _ [l'] _ (CC_blk (by (repeat (first | (refine heap_new' ?_; simp; done) | apply heap_drew' | apply heap_old' | refine heap_below (by assumption) ?_))) rfl (by simp) (Cs.cons (Kd.C_below HL'.out (by (repeat (first | exact Below.refl _ _ | apply below_alloc | apply below_drew | apply pw_below_drewN | apply below_bytesWorld | (refine below_set ?_ (by first | assumption | omega)) | refine below_step ?_ (by assumption))))) hc' (Cs.nil _)))).mono ?_; rintro e w5 ⟨rfl, rfl⟩
      go_wp2_with fail
      go_ret
      exact ⟨by simp, by (repeat (first | exact Below.refl _ _ | apply below_alloc | apply below_drew | apply pw_below_drewN | apply below_bytesWorld | (refine below_set ?_ (by first | assumption | omega)) | refine below_step ?_ (by assumption)))⟩

end Go.Proofs.Ytbbhjceelghadaa.My
