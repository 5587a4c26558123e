/- FrameTwo: walk. -/
import Derived.Test.YtbbhjceelghadaaFrameO
namespace Go.Proofs.Ytbbhjceelghadaa.My
open Go Go.RowKit Go.Proofs.YtbbhjceelghadaaW.PrintWords Go.Proofs.YtbbhjceelghadaaW.PrintMore Go.Proofs.YtbbhjceelghadaaW.PrintLast
attribute [local go_sem] max2_int min2_int max_two min_two

set_option maxRecDepth 20000 in
set_option maxHeartbeats 2000000 in
theorem frameTwo_walk (A : Option Addr) (c : Nat) (la : List UInt8) (B : Option Addr) (d : Nat) (lb : List UInt8) (w0 : World) (hra : kb.C w0 A la.length la) (hca : la.length ≤ c) (hrb : kb.C w0 B lb.length lb) (hcb : lb.length ≤ d) :
    Calls Try.prog 14 #[.slice A la.length c, .slice B lb.length d] w0 fun e w' => e = .returned (.bool true) ∧ Below w0.heap.size w0 w' := by
  by_cases hbig : (1500 : Int) < la.length
  · go_enter Try.func14, Try.ntmps14
    go_wp2_with ((go_at_call 18; refine (known9 _).mono ?_; rintro e_ w_ ⟨rfl, hb_⟩))
    go_ret
    exact ⟨rfl, by (repeat (first | exact Below.refl _ _ | apply below_alloc | apply below_drew | apply pw_below_drewN | apply below_bytesWorld | (refine below_set ?_ (by first | assumption | omega)) | refine below_step ?_ (by assumption)))⟩
  · by_cases hbig2 : (1500 : Int) < lb.length
    · go_enter Try.func14, Try.ntmps14
      go_wp2_with ((go_at_call 18; refine (known9 _).mono ?_; rintro e_ w_ ⟨rfl, hb_⟩))
      go_ret
      exact ⟨rfl, by (repeat (first | exact Below.refl _ _ | apply below_alloc | apply below_drew | apply pw_below_drewN | apply below_bytesWorld | (refine below_set ?_ (by first | assumption | omega)) | refine below_step ?_ (by assumption)))⟩
    · have hsa : (la.length : Int) ≤ 1500 := by omega
      have hsb : (lb.length : Int) ≤ 1500 := by omega
      have h60a : la.length ≤ 60000 := by omega
      have h60b : lb.length ≤ 60000 := by omega
      have HA := Aside0.mk hra
      have HBb := Aside0.mk hrb
      clear hra hrb hbig hbig2
      have q1 : ∀ w, Below w0.heap.size w0 w → (convert 22 9 (.slice A la.length c)).run Try.prog w = .ok (.string (bs la)) w := fun w hb => conv_string (c := c) (Kd.C_below HA.out hb)
      have q2 : ∀ w, Below w0.heap.size w0 w → (convert 22 9 (.slice B lb.length d)).run Try.prog w = .ok (.string (bs lb)) w := fun w hb => conv_string (c := d) (Kd.C_below HBb.out hb)
      go_enter Try.func14, Try.ntmps14
      go_wp2_with fail
      refine (known9 _).mono ?_; rintro e w1 ⟨rfl, hb1⟩
      go_wp2_with fail
      refine (wrap_any A c la _ (Kd.C_below HA.out (by (repeat (first | exact Below.refl _ _ | apply below_alloc | apply below_drew | apply pw_below_drewN | apply below_bytesWorld | (refine below_set ?_ (by first | assumption | omega)) | refine below_step ?_ (by assumption))))) hca h60a).mono ?_
      rintro e w2 ⟨v2, rfl, ho2, hb2⟩
      obtain ⟨Ap, cp, rfl, hcp, hC2⟩ := ho2.reads
      have HC2 := Aside0.mk hC2
      clear ho2 hC2
      go_wp2_with fail
      refine (wrap_any B d lb _ (Kd.C_below HBb.out (by (repeat (first | exact Below.refl _ _ | apply below_alloc | apply below_drew | apply pw_below_drewN | apply below_bytesWorld | (refine below_set ?_ (by first | assumption | omega)) | refine below_step ?_ (by assumption))))) hcb h60b).mono ?_
      rintro e w3 ⟨v3, rfl, ho3, hb3⟩
      obtain ⟨Aq, cq, rfl, hcq, hC3⟩ := ho3.reads
      have HC3 := Aside0.mk hC3
      clear ho3 hC3
      have hB3 := below_step (below_step hb1 hb2) hb3
      have HC2' := Aside0.mk (Kd.C_below HC2.out hb3)
      have hpl := wrap_len la
      have hql := wrap_len lb
      have HTWO := Aside0.mk (scan_two la lb h60a h60b)
      have HCUT := Aside0.mk (scan_cut2 la lb h60a h60b)
      obtain ⟨p, hp⟩ : ∃ z, z = wrapB la := ⟨_, rfl⟩
      obtain ⟨q, hq⟩ : ∃ z, z = wrapB lb := ⟨_, rfl⟩
      rw [← hp] at HC2' hcp hpl HTWO HCUT ⊢
      rw [← hq] at HC3 hcq hql HTWO HCUT ⊢
      clear hp hq HC2 hb1 hb2 hb3 h60a h60b
      have hplI : (p.length : Int) = (la.length : Int) + 7 := by omega
      have hqlI : (q.length : Int) = (lb.length : Int) + 7 := by omega
      have HPL := Aside0.mk hplI
      have HQL := Aside0.mk hqlI
      have hp1 : (p.length : Int) ≤ 1507 := by omega
      have hq1 : (q.length : Int) ≤ 1507 := by omega
      have hp7 : (7 : Int) ≤ (p.length : Int) := by omega
      clear hpl hql hplI hqlI
      go_wp2_with (first | (at_builtin; refine Kd.R_append_rows kb (w0 := w3) (World.heap w3).size rfl (.tmp 37) (.tmp 38) 22 5 (.int .u8 0) 1 rfl Try.underlying22 info_u8' rfl (by decide) (by omega) (.slice none 0 0) [] p _ _ _ (fun _ => True) (fun _ => False) rfl rfl (OB.nil _ _) HC2'.out (fun _ _ h => h) (fun _ h => h.elim) (fun _ _ => trivial) ?aB ?aS ?aL ?_; (case aB => first | exact Below.refl _ _ | assumption | (repeat (first | exact Below.refl _ _ | apply below_alloc | apply below_drew | apply pw_below_drewN | apply below_bytesWorld | (refine below_set ?_ (by first | assumption | omega)) | refine below_step ?_ (by assumption)))); (case aS => first | exact Nat.le_refl _ | exact below_size (by assumption) | exact below_size (by (repeat (first | exact Below.refl _ _ | apply below_alloc | apply below_drew | apply pw_below_drewN | apply below_bytesWorld | (refine below_set ?_ (by first | assumption | omega)) | refine below_step ?_ (by assumption))))); (case aL => (try simp only [List.length_cons, List.length_nil]); omega); intro v1_ w_r1 HO_r1 HB_r1 hg_ hat_; obtain ⟨r1, hcat_⟩ : ∃ z, z = [] ++ p := ⟨_, rfl⟩; rw [← hcat_] at HO_r1; have HT_r1 := Aside0.mk hcat_; clear hcat_ hg_ hat_; obtain ⟨A4, c4, rfl, hc_r1, HC_r1⟩ := OB.reads HO_r1) | (have hl1 : r1.length = p.length := by rw [HT_r1.out, List.nil_append]); (at_builtin; refine Kd.R_append_rows kb (w0 := w3) (World.heap w3).size rfl (.tmp 40) (.tmp 41) 22 5 (.int .u8 0) 1 rfl Try.underlying22 info_u8' rfl (by decide) (by omega) (.slice A4 r1.length c4) r1 q _ _ _ (fun _ => True) (fun _ => False) rfl rfl HO_r1 (Kd.C_below HC3.out HB_r1) (fun _ _ h => h) (fun _ h => h.elim) (fun _ _ => trivial) ?aB ?aS ?aL ?_; (case aB => first | exact Below.refl _ _ | assumption | (repeat (first | exact Below.refl _ _ | apply below_alloc | apply below_drew | apply pw_below_drewN | apply below_bytesWorld | (refine below_set ?_ (by first | assumption | omega)) | refine below_step ?_ (by assumption)))); (case aS => first | exact Nat.le_refl _ | exact below_size (by assumption) | exact below_size (by (repeat (first | exact Below.refl _ _ | apply below_alloc | apply below_drew | apply pw_below_drewN | apply below_bytesWorld | (refine below_set ?_ (by first | assumption | omega)) | refine below_step ?_ (by assumption))))); (case aL => (try simp only [List.length_cons, List.length_nil]); omega); intro v1_ w_r2 HO_r2 HB_r2 hg_ hat_; obtain ⟨r2, hcat_⟩ : ∃ z, z = r1 ++ q := ⟨_, rfl⟩; rw [← hcat_] at HO_r2; have HT_r2 := Aside0.mk hcat_; clear hcat_ hg_ hat_; obtain ⟨A5, c5, rfl, hc_r2, HC_r2⟩ := OB.reads HO_r2) | fail)
      have hr2 : r2 = p ++ q := by rw [HT_r2.out, HT_r1.out, List.nil_append]
      rw [← hr2] at HTWO HCUT
      have hl2 : r2.length = p.length + q.length := by rw [hr2, List.length_append]
      have hl2I : (r2.length : Int) ≤ 1000000 := by omega
      have hl2J : (1 : Int) ≤ (r2.length : Int) := by omega
      have HC5 := Aside0.mk HC_r2
      have hB5 : Below w0.heap.size w0 w_r2 := hB3.trans (HB_r2.mono hB3.size)
      have hcut := cut_h A5 r2.length c5 (r2.length - 1) ((r2.length : Int) - 1) (by omega) (by omega) hc_r2
      have hCC := Aside0.mk (C_take_n HC_r2 (r2.length - 1) (by omega))
      have hlc : r2.length - 1 ≤ c5 := by omega
      have hlI : ((r2.length - 1 : Nat) : Int) ≤ 1000000 := by omega
      have HE2 := Aside0.mk (show endB [la, lb] = r2.length from by rw [hl2, endB_cons, endB_cons]; show _ + (_ + 0) = _; have := HPL.out; have := HQL.out; omega)
      have HE1 := Aside0.mk (show endB [la] = p.length from by rw [endB_cons]; show _ + 0 = _; have := HPL.out; omega)
      clear HO_r1 hc_r1 HC_r1 hl1 HB_r1 HC_r2 HO_r2 hr2 hl2 HT_r1 HT_r2 HB_r2 hB3 HC2' HC3
      refine (scan_any A5 c5 r2 _ HC5.out hc_r2 hl2I).mono ?_
      rintro e w6 ⟨v6, rfl, ho6, hb6⟩
      rw [HTWO.out] at ho6 ⊢
      rw [HE2.out]
      obtain ⟨A6, c6, rfl, hc6, hC6⟩ := ho6.reads
      have HC6 := Aside0.mk hC6
      clear ho6 hC6
      go_wp2_with fail
      refine (scan_n A5 c5 (r2.length - 1) _ _ (Kd.C_below hCC.out hb6) hlc hlI).mono ?_
      rintro e w7 ⟨v7, rfl, ho7, hb7⟩
      rw [HCUT.out] at ho7 ⊢
      rw [HE1.out]
      obtain ⟨A7, c7, rfl, hc7, hC7⟩ := ho7.reads
      clear hC7 ho7
      obtain ⟨ad, A8, c8, rfl, hx8, hxc8, hC8⟩ := CC_at (Kd.C_below HC6.out hb7) 0 (by simp)
      obtain ⟨ad', A9, c9, hade, hx9, hxc9, hC9⟩ := CC_at (Kd.C_below HC6.out hb7) 1 (by simp)
      obtain rfl : ad = ad' := by injection hade
      have hy8 : w7.cell? (ad.add 0) = some (.slice A8 la.length c8) := hx8
      have hy9 : w7.cell? (ad.add 1) = some (.slice A9 lb.length c9) := hx9
      have q8 : ∀ w, Below w7.heap.size w7 w → (convert 22 9 (.slice A8 la.length c8)).run Try.prog w = .ok (.string (bs la)) w := fun w hb => conv_string (c := c8) (Kd.C_below (show kb.C w7 A8 la.length la from hC8) hb)
      have q9 : ∀ w, Below w7.heap.size w7 w → (convert 22 9 (.slice A9 lb.length c9)).run Try.prog w = .ok (.string (bs lb)) w := fun w hb => conv_string (c := c9) (Kd.C_below (show kb.C w7 A9 lb.length lb from hC9) hb)
      have hB7 : Below w0.heap.size w0 w7 := below_step (below_step hB5 hb6) hb7
      clear hade hx8 hx9 hC8 hC9 hxc8 hxc9 hb6 hb7 hc6 hc7
      go_wp2_with fail
      refine grow_rs [57, 58, 59, 60, 61, 62, 63, 64, 65, 66, 67, 68, 69, 70, 71, 72, 73, 74, 75, 76, 77, 78, 79, 80, 81, 82, 83, 84, 85, 86, 87, 88, 89, 90, 91, 92, 93, 94, 95, 96, 97, 98, 99, 100, 101, 102, 4] [fun v _ => v = (.int .u16 0), fun v _ => v = (.bool true), fun v _ => v = (.bool true), fun v _ => v = (.int .u16 0), fun v _ => v = (.bool true), fun v _ => v = (.bool true), fun v _ => v = (.bool true), fun v _ => v = (.slice (some ad) 2 c6), fun v _ => v = (.int .i64 2), fun v _ => v = (.bool true), fun v _ => v = (.bool true), fun v _ => v = (.bool true), fun v _ => v = (.slice (some ad) 2 c6), fun v _ => v = (.pointer (some (ad.add 0))), fun v _ => v = (.slice A8 la.length c8), fun v _ => v = (.string (bs la)), fun v _ => v = (.slice A la.length c), fun v _ => v = (.string (bs la)), fun v _ => v = (.bool true), fun v _ => v = (.bool true), fun v _ => v = (.bool true), fun v _ => v = (.slice (some ad) 2 c6), fun v _ => v = (.pointer (some (ad.add 1))), fun v _ => v = (.slice A9 lb.length c9), fun v _ => v = (.string (bs lb)), fun v _ => v = (.slice B lb.length d), fun v _ => v = (.string (bs lb)), fun v _ => v = (.bool true), fun v _ => v = (.bool true), fun v _ => v = (.bool true), fun v _ => v = (.int .i64 (r2.length : Int)), fun v _ => v = (.slice A5 r2.length c5), fun v _ => v = (.int .i64 (r2.length : Int)), fun v _ => v = (.bool true), fun v _ => v = (.bool true), fun v _ => v = (.bool true), fun v _ => v = (.slice A7 1 c7), fun v _ => v = (.int .i64 1), fun v _ => v = (.bool true), fun v _ => v = (.bool true), fun v _ => v = (.bool true), fun v _ => v = (.int .i64 (p.length : Int)), fun v _ => v = (.slice Ap p.length cp), fun v _ => v = (.int .i64 (p.length : Int)), fun v _ => v = (.bool true), fun v _ => v = (.bool true), fun v _ => v = (.bool true)] [0, 1, 2, 3, 4, 5, 6, 7, 8, 9, 10, 11, 12, 13, 14, 15, 16, 17, 18, 19, 20, 21, 22, 23, 24, 25, 26, 27, 28, 29, 30, 31, 32, 33, 34, 35, 36, 37, 38, 39, 40, 41, 42, 43, 44, 45, 46] (true, [([], []), ([0], [0]), ([1], [1]), ([2], [2]), ([3, 2], [2, 3]), ([2, 4], [2, 4]), ([5, 2], [5]), ([6], [6]), ([7, 6], [6, 7]), ([8, 6], [6, 8]), ([6, 9], [6, 9]), ([10, 6], [10]), ([11], [11]), ([12, 11], [11, 12]), ([13, 11], [11, 13]), ([14, 11], [11, 14]), ([11], [11]), ([16, 11], [11, 16]), ([15, 17, 11], [11, 15, 17]), ([11, 18], [11, 18]), ([19, 11], [19]), ([20], [20]), ([21, 20], [20, 21]), ([22, 20], [20, 22]), ([23, 20], [20, 23]), ([20], [20]), ([25, 20], [20, 25]), ([24, 26, 20], [20, 24, 26]), ([20, 27], [20, 27]), ([28, 20], [28]), ([29], [29]), ([29], [29]), ([31, 29], [29, 31]), ([30, 32, 29], [29, 30, 32]), ([29, 33], [29, 33]), ([34, 29], [34]), ([35], [35]), ([36, 35], [35, 36]), ([37, 35], [35, 37]), ([35, 38], [35, 38]), ([39, 35], [39]), ([40], [40]), ([40], [40]), ([42, 40], [40, 42]), ([41, 43, 40], [40, 41, 43]), ([40, 44], [40, 44]), ([45, 40, 0, 1, 2, 3, 4, 5, 6, 7, 8, 9, 10, 11, 12, 13, 14, 15, 16, 17, 18, 19, 20, 21, 22, 23, 24, 25, 26, 27, 28, 29, 30, 31, 32, 33, 34, 35, 36, 37, 38, 39, 40, 41, 42, 43, 44, 45], [45])]) [0, 1, 3, 7, 15, 31, 63, 127, 255, 511, 1023, 2047, 4095, 8191, 16383, 32767, 4095, 69631, 262143, 524287, 1048575, 2097151, 4194303, 8388607, 16777215, 2097151, 35651583, 134217727, 268435455, 536870911, 1073741823, 1073741823, 3221225471, 8589934591, 17179869183, 34359738367, 68719476735, 137438953471, 274877906943, 549755813887, 1099511627775, 2199023255551, 2199023255551, 6597069766655, 17592186044415, 35184372088831, 70368744177663] (by kernel_rfl) (by kernel_rfl) (by kernel_rfl) (by kernel_rfl) (by kernel_rfl) (by kernel_rfl) (by kernel_rfl) (by rfl) (by kernel_rfl) ?_ ?_ ?_
      · exact (Rms_cons (Rm_eq _) (Rms_cons (Rm_eq _) (Rms_cons (Rm_eq _) (Rms_cons (Rm_eq _) (Rms_cons (Rm_eq _) (Rms_cons (Rm_eq _) (Rms_cons (Rm_eq _) (Rms_cons (Rm_eq _) (Rms_cons (Rm_eq _) (Rms_cons (Rm_eq _) (Rms_cons (Rm_eq _) (Rms_cons (Rm_eq _) (Rms_cons (Rm_eq _) (Rms_cons (Rm_eq _) (Rms_cons (Rm_eq _) (Rms_cons (Rm_eq _) (Rms_cons (Rm_eq _) (Rms_cons (Rm_eq _) (Rms_cons (Rm_eq _) (Rms_cons (Rm_eq _) (Rms_cons (Rm_eq _) (Rms_cons (Rm_eq _) (Rms_cons (Rm_eq _) (Rms_cons (Rm_eq _) (Rms_cons (Rm_eq _) (Rms_cons (Rm_eq _) (Rms_cons (Rm_eq _) (Rms_cons (Rm_eq _) (Rms_cons (Rm_eq _) (Rms_cons (Rm_eq _) (Rms_cons (Rm_eq _) (Rms_cons (Rm_eq _) (Rms_cons (Rm_eq _) (Rms_cons (Rm_eq _) (Rms_cons (Rm_eq _) (Rms_cons (Rm_eq _) (Rms_cons (Rm_eq _) (Rms_cons (Rm_eq _) (Rms_cons (Rm_eq _) (Rms_cons (Rm_eq _) (Rms_cons (Rm_eq _) (Rms_cons (Rm_eq _) (Rms_cons (Rm_eq _) (Rms_cons (Rm_eq _) (Rms_cons (Rm_eq _) (Rms_cons (Rm_eq _) (Rms_cons (Rm_eq _) Rms_nil)))))))))))))))))))))))))))))))))))))))))))))))
      · refine gsteps_cons ?_ ?_
        · intro a w' vs hB hel hd
          have e6 : a.tmps[6]? = some (.int .u16 0) := (hel 6 (by kernel_rfl)).trans (by rfl)
          refine ⟨_, rfl, rfl, fun K hK => ?_⟩
          refine value_ (w1 := w') (v := .int .u16 0) (by rfl) rfl ?_ (hK _ _ (by exact rfl) (Below.refl _ _))
          · go_simp
            (try simp only [i64_w, bs_list])
            (try rfl)
            (try (unfold Go.RowKit.wrap64; omega))
        refine gsteps_cons ?_ ?_
        · intro a w' vs hB hel hd
          obtain ⟨f57, r57⟩ := hd 0 (by kernel_rfl)
          have e57 : a.tmps[57]? = some (.int .u16 0) := f57.trans (congrArg some (r57 : vs 0 = (.int .u16 0)))
          refine ⟨_, rfl, rfl, fun K hK => ?_⟩
          refine value_ (w1 := w') (v := .bool true) (by rfl) rfl ?_ (hK _ _ (by exact rfl) (Below.refl _ _))
          · go_simp
            (try simp only [i64_w, bs_list])
            (try rfl)
            (try (unfold Go.RowKit.wrap64; omega))
        refine gsteps_cons ?_ ?_
        · intro a w' vs hB hel hd
          obtain ⟨f58, r58⟩ := hd 1 (by kernel_rfl)
          have e58 : a.tmps[58]? = some (.bool true) := f58.trans (congrArg some (r58 : vs 1 = (.bool true)))
          refine ⟨_, rfl, rfl, fun K hK => ?_⟩
          refine value_ (w1 := w') (v := .bool true) (by rfl) rfl ?_ (hK _ _ (by exact rfl) (Below.refl _ _))
          · go_simp
            (try simp only [i64_w, bs_list])
            (try rfl)
            (try (unfold Go.RowKit.wrap64; omega))
        refine gsteps_cons ?_ ?_
        · intro a w' vs hB hel hd
          have e8 : a.tmps[8]? = some (.int .u16 0) := (hel 8 (by kernel_rfl)).trans (by rfl)
          obtain ⟨f59, r59⟩ := hd 2 (by kernel_rfl)
          have e59 : a.tmps[59]? = some (.bool true) := f59.trans (congrArg some (r59 : vs 2 = (.bool true)))
          refine ⟨_, rfl, rfl, fun K hK => ?_⟩
          refine value_ (w1 := w') (v := .int .u16 0) (wanted_on rfl rfl rfl e59) rfl ?_ (hK _ _ (by exact rfl) (Below.refl _ _))
          · go_simp
            (try simp only [i64_w, bs_list])
            (try rfl)
            (try (unfold Go.RowKit.wrap64; omega))
        refine gsteps_cons ?_ ?_
        · intro a w' vs hB hel hd
          obtain ⟨f60, r60⟩ := hd 3 (by kernel_rfl)
          have e60 : a.tmps[60]? = some (.int .u16 0) := f60.trans (congrArg some (r60 : vs 3 = (.int .u16 0)))
          obtain ⟨f59, r59⟩ := hd 2 (by kernel_rfl)
          have e59 : a.tmps[59]? = some (.bool true) := f59.trans (congrArg some (r59 : vs 2 = (.bool true)))
          refine ⟨_, rfl, rfl, fun K hK => ?_⟩
          refine value_ (w1 := w') (v := .bool true) (wanted_on rfl rfl rfl e59) rfl ?_ (hK _ _ (by exact rfl) (Below.refl _ _))
          · go_simp
            (try simp only [i64_w, bs_list])
            (try rfl)
            (try (unfold Go.RowKit.wrap64; omega))
        refine gsteps_cons ?_ ?_
        · intro a w' vs hB hel hd
          obtain ⟨f59, r59⟩ := hd 2 (by kernel_rfl)
          have e59 : a.tmps[59]? = some (.bool true) := f59.trans (congrArg some (r59 : vs 2 = (.bool true)))
          obtain ⟨f61, r61⟩ := hd 4 (by kernel_rfl)
          have e61 : a.tmps[61]? = some (.bool true) := f61.trans (congrArg some (r61 : vs 4 = (.bool true)))
          refine ⟨_, rfl, rfl, fun K hK => ?_⟩
          refine value_ (w1 := w') (v := .bool true) (by rfl) rfl ?_ (hK _ _ (by exact rfl) (Below.refl _ _))
          · go_simp
            (try simp only [i64_w, bs_list])
            (try rfl)
            (try (unfold Go.RowKit.wrap64; omega))
        refine gsteps_cons ?_ ?_
        · intro a w' vs hB hel hd
          obtain ⟨f62, r62⟩ := hd 5 (by kernel_rfl)
          have e62 : a.tmps[62]? = some (.bool true) := f62.trans (congrArg some (r62 : vs 5 = (.bool true)))
          refine ⟨_, rfl, rfl, fun K hK => ?_⟩
          refine value_ (w1 := w') (v := .bool true) (by rfl) rfl ?_ (hK _ _ (by exact rfl) (Below.refl _ _))
          · go_simp
            (try simp only [i64_w, bs_list])
            (try rfl)
            (try (unfold Go.RowKit.wrap64; omega))
        refine gsteps_cons ?_ ?_
        · intro a w' vs hB hel hd
          have e10 : a.tmps[10]? = some (.slice (some ad) 2 c6) := (hel 10 (by kernel_rfl)).trans (by rfl)
          obtain ⟨f63, r63⟩ := hd 6 (by kernel_rfl)
          have e63 : a.tmps[63]? = some (.bool true) := f63.trans (congrArg some (r63 : vs 6 = (.bool true)))
          refine ⟨_, rfl, rfl, fun K hK => ?_⟩
          refine value_ (w1 := w') (v := .slice (some ad) 2 c6) (wanted_on rfl rfl rfl e63) rfl ?_ (hK _ _ (by exact rfl) (Below.refl _ _))
          · go_simp
            (try simp only [i64_w, bs_list])
            (try rfl)
            (try (unfold Go.RowKit.wrap64; omega))
        refine gsteps_cons ?_ ?_
        · intro a w' vs hB hel hd
          obtain ⟨f64, r64⟩ := hd 7 (by kernel_rfl)
          have e64 : a.tmps[64]? = some (.slice (some ad) 2 c6) := f64.trans (congrArg some (r64 : vs 7 = (.slice (some ad) 2 c6)))
          obtain ⟨f63, r63⟩ := hd 6 (by kernel_rfl)
          have e63 : a.tmps[63]? = some (.bool true) := f63.trans (congrArg some (r63 : vs 6 = (.bool true)))
          refine ⟨_, rfl, rfl, fun K hK => ?_⟩
          refine value_ (w1 := w') (v := .int .i64 2) (wanted_on rfl rfl rfl e63) rfl ?_ (hK _ _ (by exact rfl) (Below.refl _ _))
          · go_simp
            (try simp only [i64_w, bs_list])
            (try rfl)
            (try (unfold Go.RowKit.wrap64; omega))
        refine gsteps_cons ?_ ?_
        · intro a w' vs hB hel hd
          obtain ⟨f65, r65⟩ := hd 8 (by kernel_rfl)
          have e65 : a.tmps[65]? = some (.int .i64 2) := f65.trans (congrArg some (r65 : vs 8 = (.int .i64 2)))
          obtain ⟨f63, r63⟩ := hd 6 (by kernel_rfl)
          have e63 : a.tmps[63]? = some (.bool true) := f63.trans (congrArg some (r63 : vs 6 = (.bool true)))
          refine ⟨_, rfl, rfl, fun K hK => ?_⟩
          refine value_ (w1 := w') (v := .bool true) (wanted_on rfl rfl rfl e63) rfl ?_ (hK _ _ (by exact rfl) (Below.refl _ _))
          · go_simp
            (try simp only [i64_w, bs_list])
            (try rfl)
            (try (unfold Go.RowKit.wrap64; omega))
        refine gsteps_cons ?_ ?_
        · intro a w' vs hB hel hd
          obtain ⟨f63, r63⟩ := hd 6 (by kernel_rfl)
          have e63 : a.tmps[63]? = some (.bool true) := f63.trans (congrArg some (r63 : vs 6 = (.bool true)))
          obtain ⟨f66, r66⟩ := hd 9 (by kernel_rfl)
          have e66 : a.tmps[66]? = some (.bool true) := f66.trans (congrArg some (r66 : vs 9 = (.bool true)))
          refine ⟨_, rfl, rfl, fun K hK => ?_⟩
          refine value_ (w1 := w') (v := .bool true) (by rfl) rfl ?_ (hK _ _ (by exact rfl) (Below.refl _ _))
          · go_simp
            (try simp only [i64_w, bs_list])
            (try rfl)
            (try (unfold Go.RowKit.wrap64; omega))
        refine gsteps_cons ?_ ?_
        · intro a w' vs hB hel hd
          obtain ⟨f67, r67⟩ := hd 10 (by kernel_rfl)
          have e67 : a.tmps[67]? = some (.bool true) := f67.trans (congrArg some (r67 : vs 10 = (.bool true)))
          refine ⟨_, rfl, rfl, fun K hK => ?_⟩
          refine value_ (w1 := w') (v := .bool true) (by rfl) rfl ?_ (hK _ _ (by exact rfl) (Below.refl _ _))
          · go_simp
            (try simp only [i64_w, bs_list])
            (try rfl)
            (try (unfold Go.RowKit.wrap64; omega))
        refine gsteps_cons ?_ ?_
        · intro a w' vs hB hel hd
          have e10 : a.tmps[10]? = some (.slice (some ad) 2 c6) := (hel 10 (by kernel_rfl)).trans (by rfl)
          obtain ⟨f68, r68⟩ := hd 11 (by kernel_rfl)
          have e68 : a.tmps[68]? = some (.bool true) := f68.trans (congrArg some (r68 : vs 11 = (.bool true)))
          refine ⟨_, rfl, rfl, fun K hK => ?_⟩
          refine value_ (w1 := w') (v := .slice (some ad) 2 c6) (wanted_on rfl rfl rfl e68) rfl ?_ (hK _ _ (by exact rfl) (Below.refl _ _))
          · go_simp
            (try simp only [i64_w, bs_list])
            (try rfl)
            (try (unfold Go.RowKit.wrap64; omega))
        refine gsteps_cons ?_ ?_
        · intro a w' vs hB hel hd
          obtain ⟨f69, r69⟩ := hd 12 (by kernel_rfl)
          have e69 : a.tmps[69]? = some (.slice (some ad) 2 c6) := f69.trans (congrArg some (r69 : vs 12 = (.slice (some ad) 2 c6)))
          obtain ⟨f68, r68⟩ := hd 11 (by kernel_rfl)
          have e68 : a.tmps[68]? = some (.bool true) := f68.trans (congrArg some (r68 : vs 11 = (.bool true)))
          refine ⟨_, rfl, rfl, fun K hK => ?_⟩
          refine value_ (w1 := w') (v := .pointer (some (ad.add 0))) (wanted_on rfl rfl rfl e68) rfl ?_ (hK _ _ (by exact rfl) (Below.refl _ _))
          · go_simp
            (try simp only [i64_w, bs_list])
            (try rfl)
            (try (unfold Go.RowKit.wrap64; omega))
        refine gsteps_cons ?_ ?_
        · intro a w' vs hB hel hd
          obtain ⟨f70, r70⟩ := hd 13 (by kernel_rfl)
          have e70 : a.tmps[70]? = some (.pointer (some (ad.add 0))) := f70.trans (congrArg some (r70 : vs 13 = (.pointer (some (ad.add 0)))))
          obtain ⟨f68, r68⟩ := hd 11 (by kernel_rfl)
          have e68 : a.tmps[68]? = some (.bool true) := f68.trans (congrArg some (r68 : vs 11 = (.bool true)))
          have hz := bcell hB hy8
          rw [addr_zero] at hz
          refine ⟨_, rfl, rfl, fun K hK => ?_⟩
          refine value_ (w1 := w') (v := .slice A8 la.length c8) (wanted_on rfl rfl rfl e68) rfl ?_ (hK _ _ (by exact rfl) (Below.refl _ _))
          · go_simp
            (try simp only [i64_w, bs_list])
            (try rfl)
            (try (unfold Go.RowKit.wrap64; omega))
        refine gsteps_cons ?_ ?_
        · intro a w' vs hB hel hd
          obtain ⟨f71, r71⟩ := hd 14 (by kernel_rfl)
          have e71 : a.tmps[71]? = some (.slice A8 la.length c8) := f71.trans (congrArg some (r71 : vs 14 = (.slice A8 la.length c8)))
          obtain ⟨f68, r68⟩ := hd 11 (by kernel_rfl)
          have e68 : a.tmps[68]? = some (.bool true) := f68.trans (congrArg some (r68 : vs 11 = (.bool true)))
          have hz := q8 w' hB
          refine ⟨_, rfl, rfl, fun K hK => ?_⟩
          refine value_ (w1 := w') (v := .string (bs la)) (wanted_on rfl rfl rfl e68) rfl ?_ (hK _ _ (by exact rfl) (Below.refl _ _))
          · go_simp
            (try simp only [i64_w, bs_list])
            (try rfl)
            (try (unfold Go.RowKit.wrap64; omega))
        refine gsteps_cons ?_ ?_
        · intro a w' vs hB hel hd
          have e0 : a.tmps[0]? = some (.slice A la.length c) := (hel 0 (by kernel_rfl)).trans (by rfl)
          obtain ⟨f68, r68⟩ := hd 11 (by kernel_rfl)
          have e68 : a.tmps[68]? = some (.bool true) := f68.trans (congrArg some (r68 : vs 11 = (.bool true)))
          refine ⟨_, rfl, rfl, fun K hK => ?_⟩
          refine value_ (w1 := w') (v := .slice A la.length c) (wanted_on rfl rfl rfl e68) rfl ?_ (hK _ _ (by exact rfl) (Below.refl _ _))
          · go_simp
            (try simp only [i64_w, bs_list])
            (try rfl)
            (try (unfold Go.RowKit.wrap64; omega))
        refine gsteps_cons ?_ ?_
        · intro a w' vs hB hel hd
          obtain ⟨f73, r73⟩ := hd 16 (by kernel_rfl)
          have e73 : a.tmps[73]? = some (.slice A la.length c) := f73.trans (congrArg some (r73 : vs 16 = (.slice A la.length c)))
          obtain ⟨f68, r68⟩ := hd 11 (by kernel_rfl)
          have e68 : a.tmps[68]? = some (.bool true) := f68.trans (congrArg some (r68 : vs 11 = (.bool true)))
          have hz := q1 w' (below_step hB7 hB)
          refine ⟨_, rfl, rfl, fun K hK => ?_⟩
          refine value_ (w1 := w') (v := .string (bs la)) (wanted_on rfl rfl rfl e68) rfl ?_ (hK _ _ (by exact rfl) (Below.refl _ _))
          · go_simp
            (try simp only [i64_w, bs_list])
            (try rfl)
            (try (unfold Go.RowKit.wrap64; omega))
        refine gsteps_cons ?_ ?_
        · intro a w' vs hB hel hd
          obtain ⟨f72, r72⟩ := hd 15 (by kernel_rfl)
          have e72 : a.tmps[72]? = some (.string (bs la)) := f72.trans (congrArg some (r72 : vs 15 = (.string (bs la))))
          obtain ⟨f74, r74⟩ := hd 17 (by kernel_rfl)
          have e74 : a.tmps[74]? = some (.string (bs la)) := f74.trans (congrArg some (r74 : vs 17 = (.string (bs la))))
          obtain ⟨f68, r68⟩ := hd 11 (by kernel_rfl)
          have e68 : a.tmps[68]? = some (.bool true) := f68.trans (congrArg some (r68 : vs 11 = (.bool true)))
          refine ⟨_, rfl, rfl, fun K hK => ?_⟩
          refine value_ (w1 := w') (v := .bool true) (wanted_on rfl rfl rfl e68) rfl ?_ (hK _ _ (by exact rfl) (Below.refl _ _))
          · go_simp
            (try simp only [i64_w, bs_list])
            (try rfl)
            (try (unfold Go.RowKit.wrap64; omega))
        refine gsteps_cons ?_ ?_
        · intro a w' vs hB hel hd
          obtain ⟨f68, r68⟩ := hd 11 (by kernel_rfl)
          have e68 : a.tmps[68]? = some (.bool true) := f68.trans (congrArg some (r68 : vs 11 = (.bool true)))
          obtain ⟨f75, r75⟩ := hd 18 (by kernel_rfl)
          have e75 : a.tmps[75]? = some (.bool true) := f75.trans (congrArg some (r75 : vs 18 = (.bool true)))
          refine ⟨_, rfl, rfl, fun K hK => ?_⟩
          refine value_ (w1 := w') (v := .bool true) (by rfl) rfl ?_ (hK _ _ (by exact rfl) (Below.refl _ _))
          · go_simp
            (try simp only [i64_w, bs_list])
            (try rfl)
            (try (unfold Go.RowKit.wrap64; omega))
        refine gsteps_cons ?_ ?_
        · intro a w' vs hB hel hd
          obtain ⟨f76, r76⟩ := hd 19 (by kernel_rfl)
          have e76 : a.tmps[76]? = some (.bool true) := f76.trans (congrArg some (r76 : vs 19 = (.bool true)))
          refine ⟨_, rfl, rfl, fun K hK => ?_⟩
          refine value_ (w1 := w') (v := .bool true) (by rfl) rfl ?_ (hK _ _ (by exact rfl) (Below.refl _ _))
          · go_simp
            (try simp only [i64_w, bs_list])
            (try rfl)
            (try (unfold Go.RowKit.wrap64; omega))
        refine gsteps_cons ?_ ?_
        · intro a w' vs hB hel hd
          have e10 : a.tmps[10]? = some (.slice (some ad) 2 c6) := (hel 10 (by kernel_rfl)).trans (by rfl)
          obtain ⟨f77, r77⟩ := hd 20 (by kernel_rfl)
          have e77 : a.tmps[77]? = some (.bool true) := f77.trans (congrArg some (r77 : vs 20 = (.bool true)))
          refine ⟨_, rfl, rfl, fun K hK => ?_⟩
          refine value_ (w1 := w') (v := .slice (some ad) 2 c6) (wanted_on rfl rfl rfl e77) rfl ?_ (hK _ _ (by exact rfl) (Below.refl _ _))
          · go_simp
            (try simp only [i64_w, bs_list])
            (try rfl)
            (try (unfold Go.RowKit.wrap64; omega))
        refine gsteps_cons ?_ ?_
        · intro a w' vs hB hel hd
          obtain ⟨f78, r78⟩ := hd 21 (by kernel_rfl)
          have e78 : a.tmps[78]? = some (.slice (some ad) 2 c6) := f78.trans (congrArg some (r78 : vs 21 = (.slice (some ad) 2 c6)))
          obtain ⟨f77, r77⟩ := hd 20 (by kernel_rfl)
          have e77 : a.tmps[77]? = some (.bool true) := f77.trans (congrArg some (r77 : vs 20 = (.bool true)))
          refine ⟨_, rfl, rfl, fun K hK => ?_⟩
          refine value_ (w1 := w') (v := .pointer (some (ad.add 1))) (wanted_on rfl rfl rfl e77) rfl ?_ (hK _ _ (by exact rfl) (Below.refl _ _))
          · go_simp
            (try simp only [i64_w, bs_list])
            (try rfl)
            (try (unfold Go.RowKit.wrap64; omega))
        refine gsteps_cons ?_ ?_
        · intro a w' vs hB hel hd
          obtain ⟨f79, r79⟩ := hd 22 (by kernel_rfl)
          have e79 : a.tmps[79]? = some (.pointer (some (ad.add 1))) := f79.trans (congrArg some (r79 : vs 22 = (.pointer (some (ad.add 1)))))
          obtain ⟨f77, r77⟩ := hd 20 (by kernel_rfl)
          have e77 : a.tmps[77]? = some (.bool true) := f77.trans (congrArg some (r77 : vs 20 = (.bool true)))
          have hz := bcell hB hy9
          rw [addr_pos _ _ (by omega)] at hz
          refine ⟨_, rfl, rfl, fun K hK => ?_⟩
          refine value_ (w1 := w') (v := .slice A9 lb.length c9) (wanted_on rfl rfl rfl e77) rfl ?_ (hK _ _ (by exact rfl) (Below.refl _ _))
          · go_simp
            (try simp only [i64_w, bs_list])
            (try rfl)
            (try (unfold Go.RowKit.wrap64; omega))
        refine gsteps_cons ?_ ?_
        · intro a w' vs hB hel hd
          obtain ⟨f80, r80⟩ := hd 23 (by kernel_rfl)
          have e80 : a.tmps[80]? = some (.slice A9 lb.length c9) := f80.trans (congrArg some (r80 : vs 23 = (.slice A9 lb.length c9)))
          obtain ⟨f77, r77⟩ := hd 20 (by kernel_rfl)
          have e77 : a.tmps[77]? = some (.bool true) := f77.trans (congrArg some (r77 : vs 20 = (.bool true)))
          have hz := q9 w' hB
          refine ⟨_, rfl, rfl, fun K hK => ?_⟩
          refine value_ (w1 := w') (v := .string (bs lb)) (wanted_on rfl rfl rfl e77) rfl ?_ (hK _ _ (by exact rfl) (Below.refl _ _))
          · go_simp
            (try simp only [i64_w, bs_list])
            (try rfl)
            (try (unfold Go.RowKit.wrap64; omega))
        refine gsteps_cons ?_ ?_
        · intro a w' vs hB hel hd
          have e1 : a.tmps[1]? = some (.slice B lb.length d) := (hel 1 (by kernel_rfl)).trans (by rfl)
          obtain ⟨f77, r77⟩ := hd 20 (by kernel_rfl)
          have e77 : a.tmps[77]? = some (.bool true) := f77.trans (congrArg some (r77 : vs 20 = (.bool true)))
          refine ⟨_, rfl, rfl, fun K hK => ?_⟩
          refine value_ (w1 := w') (v := .slice B lb.length d) (wanted_on rfl rfl rfl e77) rfl ?_ (hK _ _ (by exact rfl) (Below.refl _ _))
          · go_simp
            (try simp only [i64_w, bs_list])
            (try rfl)
            (try (unfold Go.RowKit.wrap64; omega))
        refine gsteps_cons ?_ ?_
        · intro a w' vs hB hel hd
          obtain ⟨f82, r82⟩ := hd 25 (by kernel_rfl)
          have e82 : a.tmps[82]? = some (.slice B lb.length d) := f82.trans (congrArg some (r82 : vs 25 = (.slice B lb.length d)))
          obtain ⟨f77, r77⟩ := hd 20 (by kernel_rfl)
          have e77 : a.tmps[77]? = some (.bool true) := f77.trans (congrArg some (r77 : vs 20 = (.bool true)))
          have hz := q2 w' (below_step hB7 hB)
          refine ⟨_, rfl, rfl, fun K hK => ?_⟩
          refine value_ (w1 := w') (v := .string (bs lb)) (wanted_on rfl rfl rfl e77) rfl ?_ (hK _ _ (by exact rfl) (Below.refl _ _))
          · go_simp
            (try simp only [i64_w, bs_list])
            (try rfl)
            (try (unfold Go.RowKit.wrap64; omega))
        refine gsteps_cons ?_ ?_
        · intro a w' vs hB hel hd
          obtain ⟨f81, r81⟩ := hd 24 (by kernel_rfl)
          have e81 : a.tmps[81]? = some (.string (bs lb)) := f81.trans (congrArg some (r81 : vs 24 = (.string (bs lb))))
          obtain ⟨f83, r83⟩ := hd 26 (by kernel_rfl)
          have e83 : a.tmps[83]? = some (.string (bs lb)) := f83.trans (congrArg some (r83 : vs 26 = (.string (bs lb))))
          obtain ⟨f77, r77⟩ := hd 20 (by kernel_rfl)
          have e77 : a.tmps[77]? = some (.bool true) := f77.trans (congrArg some (r77 : vs 20 = (.bool true)))
          refine ⟨_, rfl, rfl, fun K hK => ?_⟩
          refine value_ (w1 := w') (v := .bool true) (wanted_on rfl rfl rfl e77) rfl ?_ (hK _ _ (by exact rfl) (Below.refl _ _))
          · go_simp
            (try simp only [i64_w, bs_list])
            (try rfl)
            (try (unfold Go.RowKit.wrap64; omega))
        refine gsteps_cons ?_ ?_
        · intro a w' vs hB hel hd
          obtain ⟨f77, r77⟩ := hd 20 (by kernel_rfl)
          have e77 : a.tmps[77]? = some (.bool true) := f77.trans (congrArg some (r77 : vs 20 = (.bool true)))
          obtain ⟨f84, r84⟩ := hd 27 (by kernel_rfl)
          have e84 : a.tmps[84]? = some (.bool true) := f84.trans (congrArg some (r84 : vs 27 = (.bool true)))
          refine ⟨_, rfl, rfl, fun K hK => ?_⟩
          refine value_ (w1 := w') (v := .bool true) (by rfl) rfl ?_ (hK _ _ (by exact rfl) (Below.refl _ _))
          · go_simp
            (try simp only [i64_w, bs_list])
            (try rfl)
            (try (unfold Go.RowKit.wrap64; omega))
        refine gsteps_cons ?_ ?_
        · intro a w' vs hB hel hd
          obtain ⟨f85, r85⟩ := hd 28 (by kernel_rfl)
          have e85 : a.tmps[85]? = some (.bool true) := f85.trans (congrArg some (r85 : vs 28 = (.bool true)))
          refine ⟨_, rfl, rfl, fun K hK => ?_⟩
          refine value_ (w1 := w') (v := .bool true) (by rfl) rfl ?_ (hK _ _ (by exact rfl) (Below.refl _ _))
          · go_simp
            (try simp only [i64_w, bs_list])
            (try rfl)
            (try (unfold Go.RowKit.wrap64; omega))
        refine gsteps_cons ?_ ?_
        · intro a w' vs hB hel hd
          have e11 : a.tmps[11]? = some (.int .i64 (r2.length : Int)) := (hel 11 (by kernel_rfl)).trans (by rfl)
          obtain ⟨f86, r86⟩ := hd 29 (by kernel_rfl)
          have e86 : a.tmps[86]? = some (.bool true) := f86.trans (congrArg some (r86 : vs 29 = (.bool true)))
          refine ⟨_, rfl, rfl, fun K hK => ?_⟩
          refine value_ (w1 := w') (v := .int .i64 (r2.length : Int)) (wanted_on rfl rfl rfl e86) rfl ?_ (hK _ _ (by exact rfl) (Below.refl _ _))
          · go_simp
            (try simp only [i64_w, bs_list])
            (try rfl)
            (try (unfold Go.RowKit.wrap64; omega))
        refine gsteps_cons ?_ ?_
        · intro a w' vs hB hel hd
          have e9 : a.tmps[9]? = some (.slice A5 r2.length c5) := (hel 9 (by kernel_rfl)).trans (by rfl)
          obtain ⟨f86, r86⟩ := hd 29 (by kernel_rfl)
          have e86 : a.tmps[86]? = some (.bool true) := f86.trans (congrArg some (r86 : vs 29 = (.bool true)))
          refine ⟨_, rfl, rfl, fun K hK => ?_⟩
          refine value_ (w1 := w') (v := .slice A5 r2.length c5) (wanted_on rfl rfl rfl e86) rfl ?_ (hK _ _ (by exact rfl) (Below.refl _ _))
          · go_simp
            (try simp only [i64_w, bs_list])
            (try rfl)
            (try (unfold Go.RowKit.wrap64; omega))
        refine gsteps_cons ?_ ?_
        · intro a w' vs hB hel hd
          obtain ⟨f88, r88⟩ := hd 31 (by kernel_rfl)
          have e88 : a.tmps[88]? = some (.slice A5 r2.length c5) := f88.trans (congrArg some (r88 : vs 31 = (.slice A5 r2.length c5)))
          obtain ⟨f86, r86⟩ := hd 29 (by kernel_rfl)
          have e86 : a.tmps[86]? = some (.bool true) := f86.trans (congrArg some (r86 : vs 29 = (.bool true)))
          refine ⟨_, rfl, rfl, fun K hK => ?_⟩
          refine value_ (w1 := w') (v := .int .i64 (r2.length : Int)) (wanted_on rfl rfl rfl e86) rfl ?_ (hK _ _ (by exact rfl) (Below.refl _ _))
          · go_simp
            (try simp only [i64_w, bs_list])
            (try rfl)
            (try (unfold Go.RowKit.wrap64; omega))
        refine gsteps_cons ?_ ?_
        · intro a w' vs hB hel hd
          obtain ⟨f87, r87⟩ := hd 30 (by kernel_rfl)
          have e87 : a.tmps[87]? = some (.int .i64 (r2.length : Int)) := f87.trans (congrArg some (r87 : vs 30 = (.int .i64 (r2.length : Int))))
          obtain ⟨f89, r89⟩ := hd 32 (by kernel_rfl)
          have e89 : a.tmps[89]? = some (.int .i64 (r2.length : Int)) := f89.trans (congrArg some (r89 : vs 32 = (.int .i64 (r2.length : Int))))
          obtain ⟨f86, r86⟩ := hd 29 (by kernel_rfl)
          have e86 : a.tmps[86]? = some (.bool true) := f86.trans (congrArg some (r86 : vs 29 = (.bool true)))
          refine ⟨_, rfl, rfl, fun K hK => ?_⟩
          refine value_ (w1 := w') (v := .bool true) (wanted_on rfl rfl rfl e86) rfl ?_ (hK _ _ (by exact rfl) (Below.refl _ _))
          · go_simp
            (try simp only [i64_w, bs_list])
            (try rfl)
            (try (unfold Go.RowKit.wrap64; omega))
        refine gsteps_cons ?_ ?_
        · intro a w' vs hB hel hd
          obtain ⟨f86, r86⟩ := hd 29 (by kernel_rfl)
          have e86 : a.tmps[86]? = some (.bool true) := f86.trans (congrArg some (r86 : vs 29 = (.bool true)))
          obtain ⟨f90, r90⟩ := hd 33 (by kernel_rfl)
          have e90 : a.tmps[90]? = some (.bool true) := f90.trans (congrArg some (r90 : vs 33 = (.bool true)))
          refine ⟨_, rfl, rfl, fun K hK => ?_⟩
          refine value_ (w1 := w') (v := .bool true) (by rfl) rfl ?_ (hK _ _ (by exact rfl) (Below.refl _ _))
          · go_simp
            (try simp only [i64_w, bs_list])
            (try rfl)
            (try (unfold Go.RowKit.wrap64; omega))
        refine gsteps_cons ?_ ?_
        · intro a w' vs hB hel hd
          obtain ⟨f91, r91⟩ := hd 34 (by kernel_rfl)
          have e91 : a.tmps[91]? = some (.bool true) := f91.trans (congrArg some (r91 : vs 34 = (.bool true)))
          refine ⟨_, rfl, rfl, fun K hK => ?_⟩
          refine value_ (w1 := w') (v := .bool true) (by rfl) rfl ?_ (hK _ _ (by exact rfl) (Below.refl _ _))
          · go_simp
            (try simp only [i64_w, bs_list])
            (try rfl)
            (try (unfold Go.RowKit.wrap64; omega))
        refine gsteps_cons ?_ ?_
        · intro a w' vs hB hel hd
          have e12 : a.tmps[12]? = some (.slice A7 1 c7) := (hel 12 (by kernel_rfl)).trans (by rfl)
          obtain ⟨f92, r92⟩ := hd 35 (by kernel_rfl)
          have e92 : a.tmps[92]? = some (.bool true) := f92.trans (congrArg some (r92 : vs 35 = (.bool true)))
          refine ⟨_, rfl, rfl, fun K hK => ?_⟩
          refine value_ (w1 := w') (v := .slice A7 1 c7) (wanted_on rfl rfl rfl e92) rfl ?_ (hK _ _ (by exact rfl) (Below.refl _ _))
          · go_simp
            (try simp only [i64_w, bs_list])
            (try rfl)
            (try (unfold Go.RowKit.wrap64; omega))
        refine gsteps_cons ?_ ?_
        · intro a w' vs hB hel hd
          obtain ⟨f93, r93⟩ := hd 36 (by kernel_rfl)
          have e93 : a.tmps[93]? = some (.slice A7 1 c7) := f93.trans (congrArg some (r93 : vs 36 = (.slice A7 1 c7)))
          obtain ⟨f92, r92⟩ := hd 35 (by kernel_rfl)
          have e92 : a.tmps[92]? = some (.bool true) := f92.trans (congrArg some (r92 : vs 35 = (.bool true)))
          refine ⟨_, rfl, rfl, fun K hK => ?_⟩
          refine value_ (w1 := w') (v := .int .i64 1) (wanted_on rfl rfl rfl e92) rfl ?_ (hK _ _ (by exact rfl) (Below.refl _ _))
          · go_simp
            (try simp only [i64_w, bs_list])
            (try rfl)
            (try (unfold Go.RowKit.wrap64; omega))
        refine gsteps_cons ?_ ?_
        · intro a w' vs hB hel hd
          obtain ⟨f94, r94⟩ := hd 37 (by kernel_rfl)
          have e94 : a.tmps[94]? = some (.int .i64 1) := f94.trans (congrArg some (r94 : vs 37 = (.int .i64 1)))
          obtain ⟨f92, r92⟩ := hd 35 (by kernel_rfl)
          have e92 : a.tmps[92]? = some (.bool true) := f92.trans (congrArg some (r92 : vs 35 = (.bool true)))
          refine ⟨_, rfl, rfl, fun K hK => ?_⟩
          refine value_ (w1 := w') (v := .bool true) (wanted_on rfl rfl rfl e92) rfl ?_ (hK _ _ (by exact rfl) (Below.refl _ _))
          · go_simp
            (try simp only [i64_w, bs_list])
            (try rfl)
            (try (unfold Go.RowKit.wrap64; omega))
        refine gsteps_cons ?_ ?_
        · intro a w' vs hB hel hd
          obtain ⟨f92, r92⟩ := hd 35 (by kernel_rfl)
          have e92 : a.tmps[92]? = some (.bool true) := f92.trans (congrArg some (r92 : vs 35 = (.bool true)))
          obtain ⟨f95, r95⟩ := hd 38 (by kernel_rfl)
          have e95 : a.tmps[95]? = some (.bool true) := f95.trans (congrArg some (r95 : vs 38 = (.bool true)))
          refine ⟨_, rfl, rfl, fun K hK => ?_⟩
          refine value_ (w1 := w') (v := .bool true) (by rfl) rfl ?_ (hK _ _ (by exact rfl) (Below.refl _ _))
          · go_simp
            (try simp only [i64_w, bs_list])
            (try rfl)
            (try (unfold Go.RowKit.wrap64; omega))
        refine gsteps_cons ?_ ?_
        · intro a w' vs hB hel hd
          obtain ⟨f96, r96⟩ := hd 39 (by kernel_rfl)
          have e96 : a.tmps[96]? = some (.bool true) := f96.trans (congrArg some (r96 : vs 39 = (.bool true)))
          refine ⟨_, rfl, rfl, fun K hK => ?_⟩
          refine value_ (w1 := w') (v := .bool true) (by rfl) rfl ?_ (hK _ _ (by exact rfl) (Below.refl _ _))
          · go_simp
            (try simp only [i64_w, bs_list])
            (try rfl)
            (try (unfold Go.RowKit.wrap64; omega))
        refine gsteps_cons ?_ ?_
        · intro a w' vs hB hel hd
          have e13 : a.tmps[13]? = some (.int .i64 (p.length : Int)) := (hel 13 (by kernel_rfl)).trans (by rfl)
          obtain ⟨f97, r97⟩ := hd 40 (by kernel_rfl)
          have e97 : a.tmps[97]? = some (.bool true) := f97.trans (congrArg some (r97 : vs 40 = (.bool true)))
          refine ⟨_, rfl, rfl, fun K hK => ?_⟩
          refine value_ (w1 := w') (v := .int .i64 (p.length : Int)) (wanted_on rfl rfl rfl e97) rfl ?_ (hK _ _ (by exact rfl) (Below.refl _ _))
          · go_simp
            (try simp only [i64_w, bs_list])
            (try rfl)
            (try (unfold Go.RowKit.wrap64; omega))
        refine gsteps_cons ?_ ?_
        · intro a w' vs hB hel hd
          have e5 : a.tmps[5]? = some (.slice Ap p.length cp) := (hel 5 (by kernel_rfl)).trans (by rfl)
          obtain ⟨f97, r97⟩ := hd 40 (by kernel_rfl)
          have e97 : a.tmps[97]? = some (.bool true) := f97.trans (congrArg some (r97 : vs 40 = (.bool true)))
          refine ⟨_, rfl, rfl, fun K hK => ?_⟩
          refine value_ (w1 := w') (v := .slice Ap p.length cp) (wanted_on rfl rfl rfl e97) rfl ?_ (hK _ _ (by exact rfl) (Below.refl _ _))
          · go_simp
            (try simp only [i64_w, bs_list])
            (try rfl)
            (try (unfold Go.RowKit.wrap64; omega))
        refine gsteps_cons ?_ ?_
        · intro a w' vs hB hel hd
          obtain ⟨f99, r99⟩ := hd 42 (by kernel_rfl)
          have e99 : a.tmps[99]? = some (.slice Ap p.length cp) := f99.trans (congrArg some (r99 : vs 42 = (.slice Ap p.length cp)))
          obtain ⟨f97, r97⟩ := hd 40 (by kernel_rfl)
          have e97 : a.tmps[97]? = some (.bool true) := f97.trans (congrArg some (r97 : vs 40 = (.bool true)))
          refine ⟨_, rfl, rfl, fun K hK => ?_⟩
          refine value_ (w1 := w') (v := .int .i64 (p.length : Int)) (wanted_on rfl rfl rfl e97) rfl ?_ (hK _ _ (by exact rfl) (Below.refl _ _))
          · go_simp
            (try simp only [i64_w, bs_list])
            (try rfl)
            (try (unfold Go.RowKit.wrap64; omega))
        refine gsteps_cons ?_ ?_
        · intro a w' vs hB hel hd
          obtain ⟨f98, r98⟩ := hd 41 (by kernel_rfl)
          have e98 : a.tmps[98]? = some (.int .i64 (p.length : Int)) := f98.trans (congrArg some (r98 : vs 41 = (.int .i64 (p.length : Int))))
          obtain ⟨f100, r100⟩ := hd 43 (by kernel_rfl)
          have e100 : a.tmps[100]? = some (.int .i64 (p.length : Int)) := f100.trans (congrArg some (r100 : vs 43 = (.int .i64 (p.length : Int))))
          obtain ⟨f97, r97⟩ := hd 40 (by kernel_rfl)
          have e97 : a.tmps[97]? = some (.bool true) := f97.trans (congrArg some (r97 : vs 40 = (.bool true)))
          refine ⟨_, rfl, rfl, fun K hK => ?_⟩
          refine value_ (w1 := w') (v := .bool true) (wanted_on rfl rfl rfl e97) rfl ?_ (hK _ _ (by exact rfl) (Below.refl _ _))
          · go_simp
            (try simp only [i64_w, bs_list])
            (try rfl)
            (try (unfold Go.RowKit.wrap64; omega))
        refine gsteps_cons ?_ ?_
        · intro a w' vs hB hel hd
          obtain ⟨f97, r97⟩ := hd 40 (by kernel_rfl)
          have e97 : a.tmps[97]? = some (.bool true) := f97.trans (congrArg some (r97 : vs 40 = (.bool true)))
          obtain ⟨f101, r101⟩ := hd 44 (by kernel_rfl)
          have e101 : a.tmps[101]? = some (.bool true) := f101.trans (congrArg some (r101 : vs 44 = (.bool true)))
          refine ⟨_, rfl, rfl, fun K hK => ?_⟩
          refine value_ (w1 := w') (v := .bool true) (by rfl) rfl ?_ (hK _ _ (by exact rfl) (Below.refl _ _))
          · go_simp
            (try simp only [i64_w, bs_list])
            (try rfl)
            (try (unfold Go.RowKit.wrap64; omega))
        refine gsteps_cons ?_ ?_
        · intro a w' vs hB hel hd
          obtain ⟨f102, r102⟩ := hd 45 (by kernel_rfl)
          have e102 : a.tmps[102]? = some (.bool true) := f102.trans (congrArg some (r102 : vs 45 = (.bool true)))
          refine ⟨_, rfl, rfl, fun K hK => ?_⟩
          refine value_ (w1 := w') (v := .bool true) (by rfl) rfl ?_ (hK _ _ (by exact rfl) (Below.refl _ _))
          · go_simp
            (try simp only [i64_w, bs_list])
            (try rfl)
            (try (unfold Go.RowKit.wrap64; omega))
        exact gsteps_nil
      · intro vs w' hB hR
        have hv0_ : vs 0 = (.int .u16 0) := hR 0 (by kernel_rfl)
        have hv1_ : vs 1 = (.bool true) := hR 1 (by kernel_rfl)
        have hv2_ : vs 2 = (.bool true) := hR 2 (by kernel_rfl)
        have hv3_ : vs 3 = (.int .u16 0) := hR 3 (by kernel_rfl)
        have hv4_ : vs 4 = (.bool true) := hR 4 (by kernel_rfl)
        have hv5_ : vs 5 = (.bool true) := hR 5 (by kernel_rfl)
        have hv6_ : vs 6 = (.bool true) := hR 6 (by kernel_rfl)
        have hv7_ : vs 7 = (.slice (some ad) 2 c6) := hR 7 (by kernel_rfl)
        have hv8_ : vs 8 = (.int .i64 2) := hR 8 (by kernel_rfl)
        have hv9_ : vs 9 = (.bool true) := hR 9 (by kernel_rfl)
        have hv10_ : vs 10 = (.bool true) := hR 10 (by kernel_rfl)
        have hv11_ : vs 11 = (.bool true) := hR 11 (by kernel_rfl)
        have hv12_ : vs 12 = (.slice (some ad) 2 c6) := hR 12 (by kernel_rfl)
        have hv13_ : vs 13 = (.pointer (some (ad.add 0))) := hR 13 (by kernel_rfl)
        have hv14_ : vs 14 = (.slice A8 la.length c8) := hR 14 (by kernel_rfl)
        have hv15_ : vs 15 = (.string (bs la)) := hR 15 (by kernel_rfl)
        have hv16_ : vs 16 = (.slice A la.length c) := hR 16 (by kernel_rfl)
        have hv17_ : vs 17 = (.string (bs la)) := hR 17 (by kernel_rfl)
        have hv18_ : vs 18 = (.bool true) := hR 18 (by kernel_rfl)
        have hv19_ : vs 19 = (.bool true) := hR 19 (by kernel_rfl)
        have hv20_ : vs 20 = (.bool true) := hR 20 (by kernel_rfl)
        have hv21_ : vs 21 = (.slice (some ad) 2 c6) := hR 21 (by kernel_rfl)
        have hv22_ : vs 22 = (.pointer (some (ad.add 1))) := hR 22 (by kernel_rfl)
        have hv23_ : vs 23 = (.slice A9 lb.length c9) := hR 23 (by kernel_rfl)
        have hv24_ : vs 24 = (.string (bs lb)) := hR 24 (by kernel_rfl)
        have hv25_ : vs 25 = (.slice B lb.length d) := hR 25 (by kernel_rfl)
        have hv26_ : vs 26 = (.string (bs lb)) := hR 26 (by kernel_rfl)
        have hv27_ : vs 27 = (.bool true) := hR 27 (by kernel_rfl)
        have hv28_ : vs 28 = (.bool true) := hR 28 (by kernel_rfl)
        have hv29_ : vs 29 = (.bool true) := hR 29 (by kernel_rfl)
        have hv30_ : vs 30 = (.int .i64 (r2.length : Int)) := hR 30 (by kernel_rfl)
        have hv31_ : vs 31 = (.slice A5 r2.length c5) := hR 31 (by kernel_rfl)
        have hv32_ : vs 32 = (.int .i64 (r2.length : Int)) := hR 32 (by kernel_rfl)
        have hv33_ : vs 33 = (.bool true) := hR 33 (by kernel_rfl)
        have hv34_ : vs 34 = (.bool true) := hR 34 (by kernel_rfl)
        have hv35_ : vs 35 = (.bool true) := hR 35 (by kernel_rfl)
        have hv36_ : vs 36 = (.slice A7 1 c7) := hR 36 (by kernel_rfl)
        have hv37_ : vs 37 = (.int .i64 1) := hR 37 (by kernel_rfl)
        have hv38_ : vs 38 = (.bool true) := hR 38 (by kernel_rfl)
        have hv39_ : vs 39 = (.bool true) := hR 39 (by kernel_rfl)
        have hv40_ : vs 40 = (.bool true) := hR 40 (by kernel_rfl)
        have hv41_ : vs 41 = (.int .i64 (p.length : Int)) := hR 41 (by kernel_rfl)
        have hv42_ : vs 42 = (.slice Ap p.length cp) := hR 42 (by kernel_rfl)
        have hv43_ : vs 43 = (.int .i64 (p.length : Int)) := hR 43 (by kernel_rfl)
        have hv44_ : vs 44 = (.bool true) := hR 44 (by kernel_rfl)
        have hv45_ : vs 45 = (.bool true) := hR 45 (by kernel_rfl)
        have hv46_ : vs 46 = (.bool true) := hR 46 (by kernel_rfl)
        rw [show entries [57, 58, 59, 60, 61, 62, 63, 64, 65, 66, 67, 68, 69, 70, 71, 72, 73, 74, 75, 76, 77, 78, 79, 80, 81, 82, 83, 84, 85, 86, 87, 88, 89, 90, 91, 92, 93, 94, 95, 96, 97, 98, 99, 100, 101, 102, 4] vs = [(0, 57, vs 0), (1, 58, vs 1), (2, 59, vs 2), (3, 60, vs 3), (4, 61, vs 4), (5, 62, vs 5), (6, 63, vs 6), (7, 64, vs 7), (8, 65, vs 8), (9, 66, vs 9), (10, 67, vs 10), (11, 68, vs 11), (12, 69, vs 12), (13, 70, vs 13), (14, 71, vs 14), (15, 72, vs 15), (16, 73, vs 16), (17, 74, vs 17), (18, 75, vs 18), (19, 76, vs 19), (20, 77, vs 20), (21, 78, vs 21), (22, 79, vs 22), (23, 80, vs 23), (24, 81, vs 24), (25, 82, vs 25), (26, 83, vs 26), (27, 84, vs 27), (28, 85, vs 28), (29, 86, vs 29), (30, 87, vs 30), (31, 88, vs 31), (32, 89, vs 32), (33, 90, vs 33), (34, 91, vs 34), (35, 92, vs 35), (36, 93, vs 36), (37, 94, vs 37), (38, 95, vs 38), (39, 96, vs 39), (40, 97, vs 40), (41, 98, vs 41), (42, 99, vs 42), (43, 100, vs 43), (44, 101, vs 44), (45, 102, vs 45), (46, 4, vs 46)] from rfl]
        simp only [putSel, if_true, Act.put, List.setIfInBounds_toArray, List.set_cons_zero, List.set_cons_succ, hv0_, hv1_, hv2_, hv3_, hv4_, hv5_, hv6_, hv7_, hv8_, hv9_, hv10_, hv11_, hv12_, hv13_, hv14_, hv15_, hv16_, hv17_, hv18_, hv19_, hv20_, hv21_, hv22_, hv23_, hv24_, hv25_, hv26_, hv27_, hv28_, hv29_, hv30_, hv31_, hv32_, hv33_, hv34_, hv35_, hv36_, hv37_, hv38_, hv39_, hv40_, hv41_, hv42_, hv43_, hv44_, hv45_, hv46_]
        clear hR hv0_ hv1_ hv2_ hv3_ hv4_ hv5_ hv6_ hv7_ hv8_ hv9_ hv10_ hv11_ hv12_ hv13_ hv14_ hv15_ hv16_ hv17_ hv18_ hv19_ hv20_ hv21_ hv22_ hv23_ hv24_ hv25_ hv26_ hv27_ hv28_ hv29_ hv30_ hv31_ hv32_ hv33_ hv34_ hv35_ hv36_ hv37_ hv38_ hv39_ hv40_ hv41_ hv42_ hv43_ hv44_ hv45_ hv46_
        have hfin := below_step hB7 hB
        clear hlI hlc hcut hy8 hy9 q1 q2 q8 q9 hl2I hl2J hp1 hq1 hp7 hsa hsb hcp hcq hca hcb hc_r2
        go_wp2
        go_ret
        exact ⟨rfl, hfin⟩

end Go.Proofs.Ytbbhjceelghadaa.My
