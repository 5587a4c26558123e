/- The laws of frames: same, rows, heavy. -/
import Derived.Test.YtbbhjceelghadaaFrameL
namespace Go.Proofs.Ytbbhjceelghadaa.My
open Go Go.RowKit Go.Proofs.YtbbhjceelghadaaW.PrintWords Go.Proofs.YtbbhjceelghadaaW.PrintMore Go.Proofs.YtbbhjceelghadaaW.PrintLast
attribute [local go_sem] max2_int min2_int max_two min_two

theorem take_next {α : Type} [DecidableEq α] (d : α) (a b : List α) (k : Nat) (ha : k < a.length) (hb : k < b.length) (h : a.take k = b.take k) (hx : a.getD k d = b.getD k d) : a.take (k + 1) = b.take (k + 1) := by
  rw [take_succ_getD d a k ha, take_succ_getD d b k hb, h, hx]

set_option maxHeartbeats 2000000 in
theorem same_any (A A' : Option Addr) (c c' : Nat) (ls ls' : List (List UInt8)) (w0 : World) (h : (Kd.slice 5 kb).C w0 A ls.length ls) (h' : (Kd.slice 5 kb).C w0 A' ls'.length ls') (hc : ls.length ≤ c) (hc' : ls'.length ≤ c') :
    Calls Try.prog 23 #[.slice A ls.length c, .slice A' ls'.length c'] w0 fun e w' => e = .returned (.bool (ls == ls')) ∧ Below w0.heap.size w0 w' := by
  have hm := C_max h
  have H := Aside0.mk h
  have H' := Aside0.mk h'
  clear h h'
  by_cases hl : ls.length = ls'.length
  · have HL := Aside0.mk hl
    have k1 : ((ls.length : Int) == (ls'.length : Int)) = true := by rw [beq_iff_eq]; omega
    have hl1 : (ls'.length : Int) = (ls.length : Int) := by omega
    clear hl
    go_enter Try.func23, Try.ntmps23
    go_wp2
    go_loopw [5] (fun i wr => ∃ k : Nat, k ≤ ls.length ∧ i = .int .i64 (k : Int) ∧ Aside0 (ls.take k = ls'.take k) ∧ Aside0 (Below w0.heap.size w0 wr)) (fun i _ => ls.length - (intOf i).toNat)
    case atStart => exact ⟨0, Nat.zero_le _, rfl, ⟨rfl⟩, ⟨Below.refl _ _⟩⟩
    case round =>
      obtain ⟨k, hk, rfl, HT, HB⟩ := hrel
      by_cases hlt : k < ls.length
      · obtain ⟨ad, A3, c3, rfl, hx, hxc, hxC⟩ := CC_at H.out k hlt
        obtain ⟨ad', A4, c4, rfl, hy, hyc, hyC⟩ := CC_at H'.out k (by rw [← HL.out]; exact hlt)
        have hx1 := bcell HB.out hx
        have hy1 := bcell HB.out hy
        have HN := Aside0.mk (take_next [] ls ls' k hlt (by rw [← HL.out]; exact hlt) HT.out)
        have HNE := Aside0.mk (show ls.getD k [] ≠ ls'.getD k [] → (ls == ls') = false from fun hne => by
          rw [beq_eq_false_iff_ne]
          intro e
          rw [e] at hne
          exact hne rfl)
        obtain ⟨x, hx0⟩ : ∃ x, x = ls.getD k [] := ⟨_, rfl⟩
        obtain ⟨y, hy0⟩ : ∃ x, x = ls'.getD k [] := ⟨_, rfl⟩
        rw [← hx0] at hx1 hxc hxC HN HNE
        rw [← hy0] at hy1 hyc hyC HN HNE
        have q1 : ∀ w, Below w0.heap.size w0 w → (convert 22 9 (.slice A3 x.length c3)).run Try.prog w = .ok (.string (bs x)) w := fun w hb => conv_string (c := c3) (Kd.C_below hxC hb)
        have q2 : ∀ w, Below w0.heap.size w0 w → (convert 22 9 (.slice A4 y.length c4)).run Try.prog w = .ok (.string (bs y)) w := fun w hb => conv_string (c := c4) (Kd.C_below hyC hb)
        have hkI : (k : Int) < (ls.length : Int) := by omega
        have hkI' : (k : Int) < (ls'.length : Int) := by omega
        have hB0 := HB.out
        clear hx hy hxC hyC hx0 hy0
        go_wp2_with fail
        refine grow_rs [17, 18, 19, 20, 21, 22, 23, 24, 25, 26, 27] [fun v _ => v = (.slice (some ad) ls.length c), fun v _ => v = (.int .i64 (k : Int)), fun v _ => v = (.pointer (some (ad.add k))), fun v _ => v = (.slice A3 x.length c3), fun v _ => v = (.string (bs x)), fun v _ => v = (.slice (some ad') ls'.length c'), fun v _ => v = (.int .i64 (k : Int)), fun v _ => v = (.pointer (some (ad'.add k))), fun v _ => v = (.slice A4 y.length c4), fun v _ => v = (.string (bs y)), fun v _ => v = (.bool (!(x == y)))] [0, 1, 2, 3, 4, 5, 6, 7, 8, 9, 10] (true, [([], []), ([], []), ([0, 1], [0, 1]), ([2], [2]), ([3], [3]), ([], []), ([], []), ([5, 6], [5, 6]), ([7], [7]), ([8], [8]), ([4, 9], [4, 9])]) [0, 0, 3, 7, 15, 0, 0, 96, 224, 480, 1023] (by kernel_rfl) (by kernel_rfl) (by kernel_rfl) (by kernel_rfl) (by kernel_rfl) (by kernel_rfl) (by kernel_rfl) (by rfl) (by kernel_rfl) ?_ ?_ ?_
        · exact (Rms_cons (Rm_eq _) (Rms_cons (Rm_eq _) (Rms_cons (Rm_eq _) (Rms_cons (Rm_eq _) (Rms_cons (Rm_eq _) (Rms_cons (Rm_eq _) (Rms_cons (Rm_eq _) (Rms_cons (Rm_eq _) (Rms_cons (Rm_eq _) (Rms_cons (Rm_eq _) (Rms_cons (Rm_eq _) Rms_nil)))))))))))
        · refine gsteps_cons ?_ ?_
          · intro a w' vs hB hel hd
            have e0 : a.tmps[0]? = some (.slice (some ad) ls.length c) := (hel 0 (by kernel_rfl)).trans (by rfl)
            refine ⟨_, rfl, rfl, fun K hK => ?_⟩
            refine value_ (w1 := w') (v := .slice (some ad) ls.length c) (by rfl) rfl ?_ (hK _ _ (by exact rfl) (Below.refl _ _))
            · go_simp
              (try simp only [i64_w, bs_list])
              (try rfl)
              (try (unfold Go.RowKit.wrap64; omega))
          refine gsteps_cons ?_ ?_
          · intro a w' vs hB hel hd
            have e5 : a.tmps[5]? = some (.int .i64 (k : Int)) := (hel 5 (by kernel_rfl)).trans (by rfl)
            refine ⟨_, rfl, rfl, fun K hK => ?_⟩
            refine value_ (w1 := w') (v := .int .i64 (k : Int)) (by rfl) rfl ?_ (hK _ _ (by exact rfl) (Below.refl _ _))
            · go_simp
              (try simp only [i64_w, bs_list])
              (try rfl)
              (try (unfold Go.RowKit.wrap64; omega))
          refine gsteps_cons ?_ ?_
          · intro a w' vs hB hel hd
            obtain ⟨f17, r17⟩ := hd 0 (by kernel_rfl)
            have e17 : a.tmps[17]? = some (.slice (some ad) ls.length c) := f17.trans (congrArg some (r17 : vs 0 = (.slice (some ad) ls.length c)))
            obtain ⟨f18, r18⟩ := hd 1 (by kernel_rfl)
            have e18 : a.tmps[18]? = some (.int .i64 (k : Int)) := f18.trans (congrArg some (r18 : vs 1 = (.int .i64 (k : Int))))
            refine ⟨_, rfl, rfl, fun K hK => ?_⟩
            refine value_ (w1 := w') (v := .pointer (some (ad.add k))) (by rfl) rfl ?_ (hK _ _ (by exact rfl) (Below.refl _ _))
            · go_simp
              (try simp only [i64_w, bs_list])
              (try rfl)
              (try (unfold Go.RowKit.wrap64; omega))
          refine gsteps_cons ?_ ?_
          · intro a w' vs hB hel hd
            obtain ⟨f19, r19⟩ := hd 2 (by kernel_rfl)
            have e19 : a.tmps[19]? = some (.pointer (some (ad.add k))) := f19.trans (congrArg some (r19 : vs 2 = (.pointer (some (ad.add k)))))
            have hz0 := bcell hB hx1
            refine ⟨_, rfl, rfl, fun K hK => ?_⟩
            refine value_ (w1 := w') (v := .slice A3 x.length c3) (by rfl) rfl ?_ (hK _ _ (by exact rfl) (Below.refl _ _))
            · go_simp
              (try simp only [i64_w, bs_list])
              (try rfl)
              (try (unfold Go.RowKit.wrap64; omega))
          refine gsteps_cons ?_ ?_
          · intro a w' vs hB hel hd
            obtain ⟨f20, r20⟩ := hd 3 (by kernel_rfl)
            have e20 : a.tmps[20]? = some (.slice A3 x.length c3) := f20.trans (congrArg some (r20 : vs 3 = (.slice A3 x.length c3)))
            have hz0 := q1 w' (by (repeat (first | exact Below.refl _ _ | apply below_alloc | apply below_drew | apply pw_below_drewN | apply below_bytesWorld | (refine below_set ?_ (by first | assumption | omega)) | refine below_step ?_ (by assumption))))
            refine ⟨_, rfl, rfl, fun K hK => ?_⟩
            refine value_ (w1 := w') (v := .string (bs x)) (by rfl) rfl ?_ (hK _ _ (by exact rfl) (Below.refl _ _))
            · go_simp
              (try simp only [i64_w, bs_list])
              (try rfl)
              (try (unfold Go.RowKit.wrap64; omega))
          refine gsteps_cons ?_ ?_
          · intro a w' vs hB hel hd
            have e1 : a.tmps[1]? = some (.slice (some ad') ls'.length c') := (hel 1 (by kernel_rfl)).trans (by rfl)
            refine ⟨_, rfl, rfl, fun K hK => ?_⟩
            refine value_ (w1 := w') (v := .slice (some ad') ls'.length c') (by rfl) rfl ?_ (hK _ _ (by exact rfl) (Below.refl _ _))
            · go_simp
              (try simp only [i64_w, bs_list])
              (try rfl)
              (try (unfold Go.RowKit.wrap64; omega))
          refine gsteps_cons ?_ ?_
          · intro a w' vs hB hel hd
            have e5 : a.tmps[5]? = some (.int .i64 (k : Int)) := (hel 5 (by kernel_rfl)).trans (by rfl)
            refine ⟨_, rfl, rfl, fun K hK => ?_⟩
            refine value_ (w1 := w') (v := .int .i64 (k : Int)) (by rfl) rfl ?_ (hK _ _ (by exact rfl) (Below.refl _ _))
            · go_simp
              (try simp only [i64_w, bs_list])
              (try rfl)
              (try (unfold Go.RowKit.wrap64; omega))
          refine gsteps_cons ?_ ?_
          · intro a w' vs hB hel hd
            obtain ⟨f22, r22⟩ := hd 5 (by kernel_rfl)
            have e22 : a.tmps[22]? = some (.slice (some ad') ls'.length c') := f22.trans (congrArg some (r22 : vs 5 = (.slice (some ad') ls'.length c')))
            obtain ⟨f23, r23⟩ := hd 6 (by kernel_rfl)
            have e23 : a.tmps[23]? = some (.int .i64 (k : Int)) := f23.trans (congrArg some (r23 : vs 6 = (.int .i64 (k : Int))))
            refine ⟨_, rfl, rfl, fun K hK => ?_⟩
            refine value_ (w1 := w') (v := .pointer (some (ad'.add k))) (by rfl) rfl ?_ (hK _ _ (by exact rfl) (Below.refl _ _))
            · go_simp
              (try simp only [i64_w, bs_list])
              (try rfl)
              (try (unfold Go.RowKit.wrap64; omega))
          refine gsteps_cons ?_ ?_
          · intro a w' vs hB hel hd
            obtain ⟨f24, r24⟩ := hd 7 (by kernel_rfl)
            have e24 : a.tmps[24]? = some (.pointer (some (ad'.add k))) := f24.trans (congrArg some (r24 : vs 7 = (.pointer (some (ad'.add k)))))
            have hz0 := bcell hB hy1
            refine ⟨_, rfl, rfl, fun K hK => ?_⟩
            refine value_ (w1 := w') (v := .slice A4 y.length c4) (by rfl) rfl ?_ (hK _ _ (by exact rfl) (Below.refl _ _))
            · go_simp
              (try simp only [i64_w, bs_list])
              (try rfl)
              (try (unfold Go.RowKit.wrap64; omega))
          refine gsteps_cons ?_ ?_
          · intro a w' vs hB hel hd
            obtain ⟨f25, r25⟩ := hd 8 (by kernel_rfl)
            have e25 : a.tmps[25]? = some (.slice A4 y.length c4) := f25.trans (congrArg some (r25 : vs 8 = (.slice A4 y.length c4)))
            have hz0 := q2 w' (by (repeat (first | exact Below.refl _ _ | apply below_alloc | apply below_drew | apply pw_below_drewN | apply below_bytesWorld | (refine below_set ?_ (by first | assumption | omega)) | refine below_step ?_ (by assumption))))
            refine ⟨_, rfl, rfl, fun K hK => ?_⟩
            refine value_ (w1 := w') (v := .string (bs y)) (by rfl) rfl ?_ (hK _ _ (by exact rfl) (Below.refl _ _))
            · go_simp
              (try simp only [i64_w, bs_list])
              (try rfl)
              (try (unfold Go.RowKit.wrap64; omega))
          refine gsteps_cons ?_ ?_
          · intro a w' vs hB hel hd
            obtain ⟨f21, r21⟩ := hd 4 (by kernel_rfl)
            have e21 : a.tmps[21]? = some (.string (bs x)) := f21.trans (congrArg some (r21 : vs 4 = (.string (bs x))))
            obtain ⟨f26, r26⟩ := hd 9 (by kernel_rfl)
            have e26 : a.tmps[26]? = some (.string (bs y)) := f26.trans (congrArg some (r26 : vs 9 = (.string (bs y))))
            refine ⟨_, rfl, rfl, fun K hK => ?_⟩
            refine value_ (w1 := w') (v := .bool (!(x == y))) (by rfl) rfl ?_ (hK _ _ (by exact rfl) (Below.refl _ _))
            · go_simp
              (try simp only [i64_w, bs_list])
              (try rfl)
              (try (unfold Go.RowKit.wrap64; omega))
          exact gsteps_nil
        · intro vs w' hB hR
          have hv0_ : vs 0 = (.slice (some ad) ls.length c) := hR 0 (by kernel_rfl)
          have hv1_ : vs 1 = (.int .i64 (k : Int)) := hR 1 (by kernel_rfl)
          have hv2_ : vs 2 = (.pointer (some (ad.add k))) := hR 2 (by kernel_rfl)
          have hv3_ : vs 3 = (.slice A3 x.length c3) := hR 3 (by kernel_rfl)
          have hv4_ : vs 4 = (.string (bs x)) := hR 4 (by kernel_rfl)
          have hv5_ : vs 5 = (.slice (some ad') ls'.length c') := hR 5 (by kernel_rfl)
          have hv6_ : vs 6 = (.int .i64 (k : Int)) := hR 6 (by kernel_rfl)
          have hv7_ : vs 7 = (.pointer (some (ad'.add k))) := hR 7 (by kernel_rfl)
          have hv8_ : vs 8 = (.slice A4 y.length c4) := hR 8 (by kernel_rfl)
          have hv9_ : vs 9 = (.string (bs y)) := hR 9 (by kernel_rfl)
          have hv10_ : vs 10 = (.bool (!(x == y))) := hR 10 (by kernel_rfl)
          rw [show entries [17, 18, 19, 20, 21, 22, 23, 24, 25, 26, 27] vs = [(0, 17, vs 0), (1, 18, vs 1), (2, 19, vs 2), (3, 20, vs 3), (4, 21, vs 4), (5, 22, vs 5), (6, 23, vs 6), (7, 24, vs 7), (8, 25, vs 8), (9, 26, vs 9), (10, 27, vs 10)] from rfl]
          simp only [putSel, if_true, Act.put, List.setIfInBounds_toArray, List.set_cons_zero, List.set_cons_succ, hv0_, hv1_, hv2_, hv3_, hv4_, hv5_, hv6_, hv7_, hv8_, hv9_, hv10_]
          clear hR hv0_ hv1_ hv2_ hv3_ hv4_ hv5_ hv6_ hv7_ hv8_ hv9_ hv10_
          by_cases hxy : x = y
          · have k5 : (x == y) = true := by rw [beq_iff_eq]; exact hxy
            have HX := Aside0.mk hxy
            rw [k5]
            clear k5 hxy
            go_wp2
            go_roundw
            case rel => exact ⟨k + 1, by omega, by go_num, ⟨HN.out HX.out⟩, ⟨by (repeat (first | exact Below.refl _ _ | apply below_alloc | apply below_drew | apply pw_below_drewN | apply below_bytesWorld | (refine below_set ?_ (by first | assumption | omega)) | refine below_step ?_ (by assumption)))⟩⟩
            case measure => simp [intOf]; omega
          · have k5 : (x == y) = false := by rw [beq_eq_false_iff_ne]; exact hxy
            have HX := Aside0.mk (HNE.out hxy)
            rw [k5]
            clear k5 hxy
            go_wp2
            go_ret
            exact ⟨by rw [HX.out]; rfl, by (repeat (first | exact Below.refl _ _ | apply below_alloc | apply below_drew | apply pw_below_drewN | apply below_bytesWorld | (refine below_set ?_ (by first | assumption | omega)) | refine below_step ?_ (by assumption)))⟩
      · obtain rfl : k = ls.length := by omega
        have k3 : (ls == ls') = true := by
          rw [beq_iff_eq]
          have := HT.out
          rw [List.take_length, HL.out, List.take_length] at this
          exact this
        have HX := Aside0.mk k3
        have hB0 := HB.out
        clear k3
        go_wp2
        go_ret
        exact ⟨by rw [HX.out]; rfl, hB0⟩
  · have k1 : ((ls.length : Int) == (ls'.length : Int)) = false := by rw [beq_eq_false_iff_ne]; omega
    have k2 : (ls == ls') = false := by
      rw [beq_eq_false_iff_ne]
      intro e
      exact hl (by rw [e])
    rw [k2]
    clear hl k2
    go_enter Try.func23, Try.ntmps23
    go_wp2
    go_ret
    exact ⟨rfl, Below.refl _ _⟩

end Go.Proofs.Ytbbhjceelghadaa.My
