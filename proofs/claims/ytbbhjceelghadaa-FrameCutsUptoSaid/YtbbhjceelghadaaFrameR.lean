/- The walks of the reference's frames. -/
import Derived.Test.YtbbhjceelghadaaFrameW
import Derived.Test.YtbbhjceelghadaaSumL
namespace Go.Proofs.Ytbbhjceelghadaa.My
open Go Go.RowKit Go.Proofs.YtbbhjceelghadaaW.PrintWords Go.Proofs.YtbbhjceelghadaaW.PrintMore Go.Proofs.YtbbhjceelghadaaW.PrintLast

set_option maxHeartbeats 2000000 in
theorem refWrap_any (A : Option Addr) (c : Nat) (l : List UInt8) (w0 : World) (hr : kb.C w0 A l.length l) (hc : l.length ≤ c) (hs : l.length ≤ 60000) :
    Calls Try.prog 21 #[.slice A l.length c] w0 fun e w' => ∃ v, e = .returned (.tuple #[v, .int .i64 0]) ∧ OB w' w0.heap.size v (wrapB l) ∧ Below w0.heap.size w0 w' := by
  have HL := Aside0.mk hr
  clear hr
  have hs1 : (l.length : Int) ≤ 60000 := by omega
  have hh3 : (headB l.length).length = 3 := rfl
  go_enter Try.func21, Try.ntmps21
  go_wp2_with fail
  refine (put_any (.slice none 0 0) [] l.length 3 w0 _ (OB.nil _ _) (Below.refl _ _) (by omega) (by simp)).mono ?_
  rintro e w1 ⟨v1, rfl, ho1, hb1⟩
  rw [List.nil_append] at ho1
  have HO1 := Aside0.mk ho1
  clear ho1
  go_wp2_with (first | (at_builtin; refine Kd.R_append_rows kb (w0 := w0) w0.heap.size rfl (.tmp 13) (.tmp 14) 22 5 (.int .u8 0) 1 rfl Try.underlying22 info_u8' rfl (by decide) (by omega) _ (headB l.length) l _ _ _ (fun _ => True) (fun _ => False) rfl rfl HO1.out (Kd.C_below HL.out hb1) (fun _ _ h => h) (fun _ h => h.elim) (fun _ _ => trivial) ?aB ?aS ?aL ?_; (case aB => (repeat (first | exact Below.refl _ _ | apply below_alloc | apply below_drew | apply pw_below_drewN | apply below_bytesWorld | (refine below_set ?_ (by first | assumption | omega)) | refine below_step ?_ (by assumption)))); (case aS => exact below_size (by (repeat (first | exact Below.refl _ _ | apply below_alloc | apply below_drew | apply pw_below_drewN | apply below_bytesWorld | (refine below_set ?_ (by first | assumption | omega)) | refine below_step ?_ (by assumption))))); (case aL => (try simp only [List.length_cons, List.length_nil]); omega); intro v1 w2 HO1 HB1 hg hat; obtain ⟨hl, hcat⟩ : ∃ z, z = (headB l.length) ++ l := ⟨_, rfl⟩; rw [← hcat] at HO1; have HCAT := Aside0.mk hcat; clear hcat; have HO1' := Aside0.mk HO1; have HB1' := Aside0.mk HB1; clear HO1 HB1 hg hat; obtain ⟨A2, c2, rfl, hc2, hC2⟩ := OB.reads HO1'.out; have HC2 := Aside0.mk hC2; clear hC2) | fail)
  have HO2 := HO1'
  have hlen2 : hl.length ≤ 60003 := by rw [HCAT.out, List.length_append, hh3]; omega
  have HB2 := HB1'.out
  clear HB1' HO1'
  clear hh3 HO1
  go_wp2_with fail
  refine (refSum_any _ _ [hl] _ (CC_blk (by (repeat (first | (refine heap_new' ?_; simp; done) | apply heap_drew' | apply heap_old' | refine heap_below (by assumption) ?_))) rfl (by simp) (Cs.cons (Kd.C_below HC2.out (by (repeat (first | exact Below.refl _ _ | apply below_alloc | apply below_drew | apply pw_below_drewN | apply below_bytesWorld | (refine below_set ?_ (by first | assumption | omega)) | refine below_step ?_ (by assumption))))) hc2 (Cs.nil _)))).mono ?_
  rintro e w3 ⟨rfl, rfl⟩
  go_wp2_with fail
  refine (put_any _ hl (sumN [hl]) 4 w0 _ (OB.below HO2.out (by (repeat (first | exact Below.refl _ _ | apply below_alloc | apply below_drew | apply pw_below_drewN | apply below_bytesWorld | (refine below_set ?_ (by first | assumption | omega)) | refine below_step ?_ (by assumption))))) (by (repeat (first | exact Below.refl _ _ | apply below_alloc | apply below_drew | apply pw_below_drewN | apply below_bytesWorld | (refine below_set ?_ (by first | assumption | omega)) | refine below_step ?_ (by assumption)))) (by omega) (by omega)).mono ?_
  rintro e w4 ⟨v4, rfl, ho4, hb4⟩
  have HO4 := Aside0.mk ho4
  clear ho4
  go_wp2
  go_ret2
  refine ⟨_, rfl, ?_, hb4⟩
  have := HO4.out
  rw [HCAT.out] at this
  exact this

/-- The three bytes of a head, by their numbers. -/
theorem num3_int (l : List UInt8) (x0 x1 x2 : UInt8) (h0 : x0 = l.getD 0 0) (h1 : x1 = l.getD 1 0) (h2 : x2 = l.getD 2 0) :
    (x0.toNat : Int) * 65536 + (x1.toNat : Int) * 256 + (x2.toNat : Int) = (num3 l : Int) := by
  subst h0; subst h1; subst h2
  unfold num3
  omega

theorem beq_dec (a b : List UInt8) : (a == b) = decide (a = b) := by rw [Bool.eq_iff_iff]; simp
theorem bs_inj {a b : List UInt8} (h : bs a = bs b) : a = b := by rw [← bs_toList a, h, bs_toList]
/-- What 'first' tells. -/
def FR (o : Option (List UInt8)) (base : Nat) (e : Ending) (w' : World) : Prop :=
  match o with
  | none => ∃ v, e = .returned (.tuple #[v, .bool false])
  | some x => ∃ v, e = .returned (.tuple #[v, .bool true]) ∧ OB w' base v x
theorem FR_none {o : Option (List UInt8)} {base : Nat} {w' : World} (v : Value) (h : o = none) : FR o base (.returned (.tuple #[v, .bool false])) w' := by subst h; exact ⟨_, rfl⟩
theorem FR_if {o : Option (List UInt8)} {p : Prop} [Decidable p] {x : List UInt8} {base : Nat} {w' : World} {v : Value} {b : Bool} (h : o = if p then some x else none) (hv : OB w' base v x) (hb : b = decide p) : FR o base (.returned (.tuple #[v, .bool b])) w' := by
  subst h; subst hb
  by_cases h : p
  · rw [if_pos h, decide_eq_true h]
    exact ⟨_, rfl, hv⟩
  · rw [if_neg h, decide_eq_false h]
    exact ⟨_, rfl⟩

set_option maxHeartbeats 2000000 in
theorem refFirst_any (A : Option Addr) (c : Nat) (l : List UInt8) (w0 : World) (hr : kb.C w0 A l.length l) (hc : l.length ≤ c) :
    Calls Try.prog 31 #[.slice A l.length c] w0 fun e w' => FR (firstB l) w0.heap.size e w' ∧ Below w0.heap.size w0 w' := by
  by_cases h7 : (l.length : Int) < 7
  · have hf : firstB l = none := by unfold firstB; rw [if_pos (by omega)]
    have HF := Aside0.mk hf
    clear hf
    go_enter Try.func31, Try.ntmps31
    go_wp2
    go_ret2
    exact ⟨FR_none _ HF.out, Below.refl _ _⟩
  · obtain ⟨ad, hA, hx0⟩ := C_at hr 0 (by omega)
    obtain ⟨ad', hA', hx1⟩ := C_at hr 1 (by omega)
    obtain ⟨ad'', hA'', hx2⟩ := C_at hr 2 (by omega)
    subst hA
    obtain rfl : ad = ad' := by injection hA'
    obtain rfl : ad = ad'' := by injection hA''
    clear hA' hA''
    obtain ⟨x0, e0⟩ : ∃ x, x = l.getD 0 0 := ⟨_, rfl⟩
    obtain ⟨x1, e1⟩ : ∃ x, x = l.getD 1 0 := ⟨_, rfl⟩
    obtain ⟨x2, e2⟩ : ∃ x, x = l.getD 2 0 := ⟨_, rfl⟩
    rw [← e0] at hx0
    rw [← e1] at hx1
    rw [← e2] at hx2
    have HN := Aside0.mk (num3_int l x0 x1 x2 e0 e1 e2)
    have b0 := x0.toNat_lt
    have b1 := x1.toNat_lt
    have b2 := x2.toNat_lt
    clear e0 e1 e2
    have hmax : (l.length : Int) ≤ 9223372036854775807 := by have := hr.2.1; omega
    have HL := Aside0.mk hr
    clear hr
    have hi0 : (0 : Int) < (l.length : Int) := by omega
    have hi1 : (1 : Int) < (l.length : Int) := by omega
    have hi2 : (2 : Int) < (l.length : Int) := by omega
    have h7' : (7 : Int) ≤ (l.length : Int) := by omega
    clear h7
    go_enter Try.func31, Try.ntmps31
    go_wp2_with fail
    have hne : ¬ (l = []) := fun h => by subst h; simp at hi0
    have hs0 : (x0.toNat : Int) * 65536 ≤ 16711680 := by omega
    have hs1 : (x1.toNat : Int) * 256 ≤ 65280 := by omega
    refine grow_rs [11, 12, 13, 14, 15, 16, 17, 18, 19, 20, 21, 22, 23, 24, 25, 26, 4] [fun v _ => v = (.slice (some ad) l.length c), fun v _ => v = (.pointer (some (ad.add 0))), fun v _ => v = (.int .u8 (x0.toNat : Int)), fun v _ => v = (.int .i64 (x0.toNat : Int)), fun v _ => v = (.int .i64 ((x0.toNat : Int) * 65536)), fun v _ => v = (.slice (some ad) l.length c), fun v _ => v = (.pointer (some (ad.add 1))), fun v _ => v = (.int .u8 (x1.toNat : Int)), fun v _ => v = (.int .i64 (x1.toNat : Int)), fun v _ => v = (.int .i64 ((x1.toNat : Int) * 256)), fun v _ => v = (.int .i64 ((x0.toNat : Int) * 65536 + (x1.toNat : Int) * 256)), fun v _ => v = (.slice (some ad) l.length c), fun v _ => v = (.pointer (some (ad.add 2))), fun v _ => v = (.int .u8 (x2.toNat : Int)), fun v _ => v = (.int .i64 (x2.toNat : Int)), fun v _ => v = (.int .i64 ((x0.toNat : Int) * 65536 + (x1.toNat : Int) * 256 + (x2.toNat : Int))), fun v _ => v = (.int .i64 ((x0.toNat : Int) * 65536 + (x1.toNat : Int) * 256 + (x2.toNat : Int)))] [0, 1, 2, 3, 4, 5, 6, 7, 8, 9, 10, 11, 12, 13, 14, 15, 16] (true, [([], []), ([0], [0]), ([1], [1]), ([2], [2]), ([3], [3]), ([], []), ([5], [5]), ([6], [6]), ([7], [7]), ([8], [8]), ([4, 9], [4, 9]), ([], []), ([11], [11]), ([12], [12]), ([13], [13]), ([10, 14], [10, 14]), ([15, 0, 1, 2, 3, 4, 5, 6, 7, 8, 9, 10, 11, 12, 13, 14, 15], [15])]) [0, 1, 3, 7, 15, 0, 32, 96, 224, 480, 1023, 0, 2048, 6144, 14336, 32767, 65535] (by kernel_rfl) (by kernel_rfl) (by kernel_rfl) (by kernel_rfl) (by kernel_rfl) (by kernel_rfl) (by kernel_rfl) (by rfl) (by kernel_rfl) ?_ ?_ ?_
    · exact (Rms_cons (Rm_eq _) (Rms_cons (Rm_eq _) (Rms_cons (Rm_eq _) (Rms_cons (Rm_eq _) (Rms_cons (Rm_eq _) (Rms_cons (Rm_eq _) (Rms_cons (Rm_eq _) (Rms_cons (Rm_eq _) (Rms_cons (Rm_eq _) (Rms_cons (Rm_eq _) (Rms_cons (Rm_eq _) (Rms_cons (Rm_eq _) (Rms_cons (Rm_eq _) (Rms_cons (Rm_eq _) (Rms_cons (Rm_eq _) (Rms_cons (Rm_eq _) (Rms_cons (Rm_eq _) Rms_nil)))))))))))))))))
    · refine gsteps_cons ?_ ?_
      · intro a w' vs hB hel hd
        have e0 : a.tmps[0]? = some (.slice (some ad) l.length c) := (hel 0 (by kernel_rfl)).trans (by rfl)
        refine ⟨_, rfl, rfl, fun K hK => ?_⟩
        refine value_ (w1 := w') (v := .slice (some ad) l.length c) (by rfl) rfl ?_ (hK _ _ (by exact rfl) (Below.refl _ _))
        · go_simp
          (try simp only [i64_w, bs_list])
          (try rfl)
          (try (unfold Go.RowKit.wrap64; omega))
      refine gsteps_cons ?_ ?_
      · intro a w' vs hB hel hd
        obtain ⟨f11, r11⟩ := hd 0 (by kernel_rfl)
        have e11 : a.tmps[11]? = some (.slice (some ad) l.length c) := f11.trans (congrArg some (r11 : vs 0 = (.slice (some ad) l.length c)))
        refine ⟨_, rfl, rfl, fun K hK => ?_⟩
        refine value_ (w1 := w') (v := .pointer (some (ad.add 0))) (by rfl) rfl ?_ (hK _ _ (by exact rfl) (Below.refl _ _))
        · go_simp
          (try simp only [i64_w, bs_list])
          (try rfl)
          (try (unfold Go.RowKit.wrap64; omega))
      refine gsteps_cons ?_ ?_
      · intro a w' vs hB hel hd
        obtain ⟨f12, r12⟩ := hd 1 (by kernel_rfl)
        have e12 : a.tmps[12]? = some (.pointer (some (ad.add 0))) := f12.trans (congrArg some (r12 : vs 1 = (.pointer (some (ad.add 0)))))
        have hy0 := bcell hB hx0
        rw [addr_zero] at hy0
        refine ⟨_, rfl, rfl, fun K hK => ?_⟩
        refine value_ (w1 := w') (v := .int .u8 (x0.toNat : Int)) (by rfl) rfl ?_ (hK _ _ (by exact rfl) (Below.refl _ _))
        · go_simp
          (try simp only [i64_w, bs_list])
          (try rfl)
          (try (unfold Go.RowKit.wrap64; omega))
      refine gsteps_cons ?_ ?_
      · intro a w' vs hB hel hd
        obtain ⟨f13, r13⟩ := hd 2 (by kernel_rfl)
        have e13 : a.tmps[13]? = some (.int .u8 (x0.toNat : Int)) := f13.trans (congrArg some (r13 : vs 2 = (.int .u8 (x0.toNat : Int))))
        refine ⟨_, rfl, rfl, fun K hK => ?_⟩
        refine value_ (w1 := w') (v := .int .i64 (x0.toNat : Int)) (by rfl) rfl ?_ (hK _ _ (by exact rfl) (Below.refl _ _))
        · go_simp
          (try simp only [i64_w, bs_list])
          (try rfl)
          (try (unfold Go.RowKit.wrap64; omega))
      refine gsteps_cons ?_ ?_
      · intro a w' vs hB hel hd
        obtain ⟨f14, r14⟩ := hd 3 (by kernel_rfl)
        have e14 : a.tmps[14]? = some (.int .i64 (x0.toNat : Int)) := f14.trans (congrArg some (r14 : vs 3 = (.int .i64 (x0.toNat : Int))))
        refine ⟨_, rfl, rfl, fun K hK => ?_⟩
        refine value_ (w1 := w') (v := .int .i64 ((x0.toNat : Int) * 65536)) (by rfl) rfl ?_ (hK _ _ (by exact rfl) (Below.refl _ _))
        · go_simp
          (try simp only [i64_w, bs_list])
          (try rfl)
          (try (unfold Go.RowKit.wrap64; omega))
      refine gsteps_cons ?_ ?_
      · intro a w' vs hB hel hd
        have e0 : a.tmps[0]? = some (.slice (some ad) l.length c) := (hel 0 (by kernel_rfl)).trans (by rfl)
        refine ⟨_, rfl, rfl, fun K hK => ?_⟩
        refine value_ (w1 := w') (v := .slice (some ad) l.length c) (by rfl) rfl ?_ (hK _ _ (by exact rfl) (Below.refl _ _))
        · go_simp
          (try simp only [i64_w, bs_list])
          (try rfl)
          (try (unfold Go.RowKit.wrap64; omega))
      refine gsteps_cons ?_ ?_
      · intro a w' vs hB hel hd
        obtain ⟨f16, r16⟩ := hd 5 (by kernel_rfl)
        have e16 : a.tmps[16]? = some (.slice (some ad) l.length c) := f16.trans (congrArg some (r16 : vs 5 = (.slice (some ad) l.length c)))
        refine ⟨_, rfl, rfl, fun K hK => ?_⟩
        refine value_ (w1 := w') (v := .pointer (some (ad.add 1))) (by rfl) rfl ?_ (hK _ _ (by exact rfl) (Below.refl _ _))
        · go_simp
          (try simp only [i64_w, bs_list])
          (try rfl)
          (try (unfold Go.RowKit.wrap64; omega))
      refine gsteps_cons ?_ ?_
      · intro a w' vs hB hel hd
        obtain ⟨f17, r17⟩ := hd 6 (by kernel_rfl)
        have e17 : a.tmps[17]? = some (.pointer (some (ad.add 1))) := f17.trans (congrArg some (r17 : vs 6 = (.pointer (some (ad.add 1)))))
        have hy0 := bcell hB hx1
        rw [addr_pos _ _ (by omega)] at hy0
        refine ⟨_, rfl, rfl, fun K hK => ?_⟩
        refine value_ (w1 := w') (v := .int .u8 (x1.toNat : Int)) (by rfl) rfl ?_ (hK _ _ (by exact rfl) (Below.refl _ _))
        · go_simp
          (try simp only [i64_w, bs_list])
          (try rfl)
          (try (unfold Go.RowKit.wrap64; omega))
      refine gsteps_cons ?_ ?_
      · intro a w' vs hB hel hd
        obtain ⟨f18, r18⟩ := hd 7 (by kernel_rfl)
        have e18 : a.tmps[18]? = some (.int .u8 (x1.toNat : Int)) := f18.trans (congrArg some (r18 : vs 7 = (.int .u8 (x1.toNat : Int))))
        refine ⟨_, rfl, rfl, fun K hK => ?_⟩
        refine value_ (w1 := w') (v := .int .i64 (x1.toNat : Int)) (by rfl) rfl ?_ (hK _ _ (by exact rfl) (Below.refl _ _))
        · go_simp
          (try simp only [i64_w, bs_list])
          (try rfl)
          (try (unfold Go.RowKit.wrap64; omega))
      refine gsteps_cons ?_ ?_
      · intro a w' vs hB hel hd
        obtain ⟨f19, r19⟩ := hd 8 (by kernel_rfl)
        have e19 : a.tmps[19]? = some (.int .i64 (x1.toNat : Int)) := f19.trans (congrArg some (r19 : vs 8 = (.int .i64 (x1.toNat : Int))))
        refine ⟨_, rfl, rfl, fun K hK => ?_⟩
        refine value_ (w1 := w') (v := .int .i64 ((x1.toNat : Int) * 256)) (by rfl) rfl ?_ (hK _ _ (by exact rfl) (Below.refl _ _))
        · go_simp
          (try simp only [i64_w, bs_list])
          (try rfl)
          (try (unfold Go.RowKit.wrap64; omega))
      refine gsteps_cons ?_ ?_
      · intro a w' vs hB hel hd
        obtain ⟨f15, r15⟩ := hd 4 (by kernel_rfl)
        have e15 : a.tmps[15]? = some (.int .i64 ((x0.toNat : Int) * 65536)) := f15.trans (congrArg some (r15 : vs 4 = (.int .i64 ((x0.toNat : Int) * 65536))))
        obtain ⟨f20, r20⟩ := hd 9 (by kernel_rfl)
        have e20 : a.tmps[20]? = some (.int .i64 ((x1.toNat : Int) * 256)) := f20.trans (congrArg some (r20 : vs 9 = (.int .i64 ((x1.toNat : Int) * 256))))
        refine ⟨_, rfl, rfl, fun K hK => ?_⟩
        refine value_ (w1 := w') (v := .int .i64 ((x0.toNat : Int) * 65536 + (x1.toNat : Int) * 256)) (by rfl) rfl ?_ (hK _ _ (by exact rfl) (Below.refl _ _))
        · go_simp
          (try simp only [i64_w, bs_list])
          (try rfl)
          (try (unfold Go.RowKit.wrap64; omega))
      refine gsteps_cons ?_ ?_
      · intro a w' vs hB hel hd
        have e0 : a.tmps[0]? = some (.slice (some ad) l.length c) := (hel 0 (by kernel_rfl)).trans (by rfl)
        refine ⟨_, rfl, rfl, fun K hK => ?_⟩
        refine value_ (w1 := w') (v := .slice (some ad) l.length c) (by rfl) rfl ?_ (hK _ _ (by exact rfl) (Below.refl _ _))
        · go_simp
          (try simp only [i64_w, bs_list])
          (try rfl)
          (try (unfold Go.RowKit.wrap64; omega))
      refine gsteps_cons ?_ ?_
      · intro a w' vs hB hel hd
        obtain ⟨f22, r22⟩ := hd 11 (by kernel_rfl)
        have e22 : a.tmps[22]? = some (.slice (some ad) l.length c) := f22.trans (congrArg some (r22 : vs 11 = (.slice (some ad) l.length c)))
        refine ⟨_, rfl, rfl, fun K hK => ?_⟩
        refine value_ (w1 := w') (v := .pointer (some (ad.add 2))) (by rfl) rfl ?_ (hK _ _ (by exact rfl) (Below.refl _ _))
        · go_simp
          (try simp only [i64_w, bs_list])
          (try rfl)
          (try (unfold Go.RowKit.wrap64; omega))
      refine gsteps_cons ?_ ?_
      · intro a w' vs hB hel hd
        obtain ⟨f23, r23⟩ := hd 12 (by kernel_rfl)
        have e23 : a.tmps[23]? = some (.pointer (some (ad.add 2))) := f23.trans (congrArg some (r23 : vs 12 = (.pointer (some (ad.add 2)))))
        have hy0 := bcell hB hx2
        rw [addr_pos _ _ (by omega)] at hy0
        refine ⟨_, rfl, rfl, fun K hK => ?_⟩
        refine value_ (w1 := w') (v := .int .u8 (x2.toNat : Int)) (by rfl) rfl ?_ (hK _ _ (by exact rfl) (Below.refl _ _))
        · go_simp
          (try simp only [i64_w, bs_list])
          (try rfl)
          (try (unfold Go.RowKit.wrap64; omega))
      refine gsteps_cons ?_ ?_
      · intro a w' vs hB hel hd
        obtain ⟨f24, r24⟩ := hd 13 (by kernel_rfl)
        have e24 : a.tmps[24]? = some (.int .u8 (x2.toNat : Int)) := f24.trans (congrArg some (r24 : vs 13 = (.int .u8 (x2.toNat : Int))))
        refine ⟨_, rfl, rfl, fun K hK => ?_⟩
        refine value_ (w1 := w') (v := .int .i64 (x2.toNat : Int)) (by rfl) rfl ?_ (hK _ _ (by exact rfl) (Below.refl _ _))
        · go_simp
          (try simp only [i64_w, bs_list])
          (try rfl)
          (try (unfold Go.RowKit.wrap64; omega))
      refine gsteps_cons ?_ ?_
      · intro a w' vs hB hel hd
        obtain ⟨f21, r21⟩ := hd 10 (by kernel_rfl)
        have e21 : a.tmps[21]? = some (.int .i64 ((x0.toNat : Int) * 65536 + (x1.toNat : Int) * 256)) := f21.trans (congrArg some (r21 : vs 10 = (.int .i64 ((x0.toNat : Int) * 65536 + (x1.toNat : Int) * 256))))
        obtain ⟨f25, r25⟩ := hd 14 (by kernel_rfl)
        have e25 : a.tmps[25]? = some (.int .i64 (x2.toNat : Int)) := f25.trans (congrArg some (r25 : vs 14 = (.int .i64 (x2.toNat : Int))))
        refine ⟨_, rfl, rfl, fun K hK => ?_⟩
        refine value_ (w1 := w') (v := .int .i64 ((x0.toNat : Int) * 65536 + (x1.toNat : Int) * 256 + (x2.toNat : Int))) (by rfl) rfl ?_ (hK _ _ (by exact rfl) (Below.refl _ _))
        · go_simp
          (try simp only [i64_w, bs_list])
          (try rfl)
          (try (unfold Go.RowKit.wrap64; omega))
      refine gsteps_cons ?_ ?_
      · intro a w' vs hB hel hd
        obtain ⟨f26, r26⟩ := hd 15 (by kernel_rfl)
        have e26 : a.tmps[26]? = some (.int .i64 ((x0.toNat : Int) * 65536 + (x1.toNat : Int) * 256 + (x2.toNat : Int))) := f26.trans (congrArg some (r26 : vs 15 = (.int .i64 ((x0.toNat : Int) * 65536 + (x1.toNat : Int) * 256 + (x2.toNat : Int)))))
        refine ⟨_, rfl, rfl, fun K hK => ?_⟩
        refine value_ (w1 := w') (v := .int .i64 ((x0.toNat : Int) * 65536 + (x1.toNat : Int) * 256 + (x2.toNat : Int))) (by rfl) rfl ?_ (hK _ _ (by exact rfl) (Below.refl _ _))
        · go_simp
          (try simp only [i64_w, bs_list])
          (try rfl)
          (try (unfold Go.RowKit.wrap64; omega))
      exact gsteps_nil
    · intro vs w' hB hR
      have hv0_ : vs 0 = (.slice (some ad) l.length c) := hR 0 (by kernel_rfl)
      have hv1_ : vs 1 = (.pointer (some (ad.add 0))) := hR 1 (by kernel_rfl)
      have hv2_ : vs 2 = (.int .u8 (x0.toNat : Int)) := hR 2 (by kernel_rfl)
      have hv3_ : vs 3 = (.int .i64 (x0.toNat : Int)) := hR 3 (by kernel_rfl)
      have hv4_ : vs 4 = (.int .i64 ((x0.toNat : Int) * 65536)) := hR 4 (by kernel_rfl)
      have hv5_ : vs 5 = (.slice (some ad) l.length c) := hR 5 (by kernel_rfl)
      have hv6_ : vs 6 = (.pointer (some (ad.add 1))) := hR 6 (by kernel_rfl)
      have hv7_ : vs 7 = (.int .u8 (x1.toNat : Int)) := hR 7 (by kernel_rfl)
      have hv8_ : vs 8 = (.int .i64 (x1.toNat : Int)) := hR 8 (by kernel_rfl)
      have hv9_ : vs 9 = (.int .i64 ((x1.toNat : Int) * 256)) := hR 9 (by kernel_rfl)
      have hv10_ : vs 10 = (.int .i64 ((x0.toNat : Int) * 65536 + (x1.toNat : Int) * 256)) := hR 10 (by kernel_rfl)
      have hv11_ : vs 11 = (.slice (some ad) l.length c) := hR 11 (by kernel_rfl)
      have hv12_ : vs 12 = (.pointer (some (ad.add 2))) := hR 12 (by kernel_rfl)
      have hv13_ : vs 13 = (.int .u8 (x2.toNat : Int)) := hR 13 (by kernel_rfl)
      have hv14_ : vs 14 = (.int .i64 (x2.toNat : Int)) := hR 14 (by kernel_rfl)
      have hv15_ : vs 15 = (.int .i64 ((x0.toNat : Int) * 65536 + (x1.toNat : Int) * 256 + (x2.toNat : Int))) := hR 15 (by kernel_rfl)
      have hv16_ : vs 16 = (.int .i64 ((x0.toNat : Int) * 65536 + (x1.toNat : Int) * 256 + (x2.toNat : Int))) := hR 16 (by kernel_rfl)
      rw [show entries [11, 12, 13, 14, 15, 16, 17, 18, 19, 20, 21, 22, 23, 24, 25, 26, 4] vs = [(0, 11, vs 0), (1, 12, vs 1), (2, 13, vs 2), (3, 14, vs 3), (4, 15, vs 4), (5, 16, vs 5), (6, 17, vs 6), (7, 18, vs 7), (8, 19, vs 8), (9, 20, vs 9), (10, 21, vs 10), (11, 22, vs 11), (12, 23, vs 12), (13, 24, vs 13), (14, 25, vs 14), (15, 26, vs 15), (16, 4, vs 16)] from rfl]
      simp only [putSel, if_true, Act.put, List.setIfInBounds_toArray, List.set_cons_zero, List.set_cons_succ, hv0_, hv1_, hv2_, hv3_, hv4_, hv5_, hv6_, hv7_, hv8_, hv9_, hv10_, hv11_, hv12_, hv13_, hv14_, hv15_, hv16_]
      clear hR hv0_ hv1_ hv2_ hv3_ hv4_ hv5_ hv6_ hv7_ hv8_ hv9_ hv10_ hv11_ hv12_ hv13_ hv14_ hv15_ hv16_
      rw [HN.out]
      obtain ⟨n, hne1⟩ : ∃ n, n = num3 l := ⟨_, rfl⟩
      rw [← hne1]
      have HNE := Aside0.mk hne1
      clear hne1
      by_cases h60 : (60000 : Int) < (n : Int)
      · have hf : firstB l = none := by unfold firstB; rw [if_neg (by omega), if_pos (by rw [← HNE.out]; omega)]
        have HF := Aside0.mk hf
        clear hf
        go_wp2
        go_ret2
        exact ⟨FR_none _ HF.out, by (repeat (first | exact Below.refl _ _ | apply below_alloc | apply below_drew | apply pw_below_drewN | apply below_bytesWorld | (refine below_set ?_ (by first | assumption | omega)) | refine below_step ?_ (by assumption)))⟩
      · by_cases hln : (l.length : Int) - 7 < (n : Int)
        · have hf : firstB l = none := by unfold firstB; rw [if_neg (by omega), if_pos (by rw [← HNE.out]; omega)]
          have HF := Aside0.mk hf
          clear hf
          go_wp2
          go_ret2
          exact ⟨FR_none _ HF.out, by (repeat (first | exact Below.refl _ _ | apply below_alloc | apply below_drew | apply pw_below_drewN | apply below_bytesWorld | (refine below_set ?_ (by first | assumption | omega)) | refine below_step ?_ (by assumption)))⟩
        · have hfa := first_again l (by omega) (by rw [← HNE.out]; omega) (by rw [← HNE.out]; omega)
          rw [← HNE.out] at hfa
          obtain ⟨A1, hr1, hC1⟩ := cut_lh HL.out hc 3 (3 + n) (3 : Int) (3 + (n : Int)) rfl (by omega) (by omega) (by omega)
          have hr2 := cut_h (some ad) l.length c (n + 7) ((n : Int) + 7) (by omega) (by omega) hc
          have hC2 := Aside0.mk (C_take_n HL.out (n + 7) (by omega))
          obtain ⟨x, hx⟩ : ∃ x, x = (l.take (3 + n)).drop 3 := ⟨_, rfl⟩
          rw [← hx] at hC1 hfa
          have hxl : x.length = n := by rw [hx, List.length_drop, List.length_take]; omega
          rw [show 3 + n - 3 = x.length from by omega] at hr1 hC1
          have HC1 := Aside0.mk hC1
          have HX := Aside0.mk hx
          have HXL := Aside0.mk hxl
          have HFA := Aside0.mk hfa
          have hc3 : x.length ≤ c - 3 := by omega
          have hx60 : x.length ≤ 60000 := by omega
          clear hC1 hx hxl hfa HN hx0 hx1 hx2 b0 b1 b2 hs0 hs1
          have hB0 : Below w0.heap.size w0 w' := hB
          go_wp2_with (at_builtin; refine Kd.R_append_rows kb (w0 := w0) w0.heap.size rfl (.tmp 36) (.tmp 40) 22 5 (.int .u8 0) 1 rfl Try.underlying22 info_u8' rfl (by decide) (by omega) (.slice none 0 0) [] x _ _ _ (fun _ => True) (fun _ => False) rfl rfl (OB.nil _ _) (Kd.C_below HC1.out hB0) (fun _ _ h => h) (fun _ h => h.elim) (fun _ _ => trivial) ?aB ?aS ?aL ?_; (case aB => (repeat (first | exact Below.refl _ _ | apply below_alloc | apply below_drew | apply pw_below_drewN | apply below_bytesWorld | (refine below_set ?_ (by first | assumption | omega)) | refine below_step ?_ (by assumption)))); (case aS => exact below_size (by (repeat (first | exact Below.refl _ _ | apply below_alloc | apply below_drew | apply pw_below_drewN | apply below_bytesWorld | (refine below_set ?_ (by first | assumption | omega)) | refine below_step ?_ (by assumption))))); (case aL => (try simp only [List.length_cons, List.length_nil]); omega); intro v1 w2 HO1 HB1 hg hat; obtain ⟨hl, hcat⟩ : ∃ z, z = [] ++ x := ⟨_, rfl⟩; rw [← hcat] at HO1; have HCAT := Aside0.mk hcat; clear hcat; have HO1' := Aside0.mk HO1; have HB1' := Aside0.mk HB1; clear HO1 HB1 hg hat; obtain ⟨A2, c2, rfl, hc2, hC2⟩ := OB.reads HO1'.out; have HC2 := Aside0.mk hC2; clear hC2)
          have hhx : hl = x := by rw [HCAT.out, List.nil_append]
          have HHX := Aside0.mk hhx
          have h60x : hl.length ≤ 60000 := by rw [hhx]; exact hx60
          clear HCAT hhx
          have HB1 := HB1'.out
          have hB2 := hB
          clear hB
          go_at_call 21
          refine (refWrap_any A2 c2 hl _ HC2.out hc2 h60x).mono ?_
          rintro e w3 ⟨v3, rfl, ho3, hb3⟩
          obtain ⟨A3, c3, rfl, hc3', hC3⟩ := ho3.reads
          have HC3 := Aside0.mk hC3
          clear hC3 ho3
          have hB3 : Below w0.heap.size w0 w3 := by (repeat (first | exact Below.refl _ _ | apply below_alloc | apply below_drew | apply pw_below_drewN | apply below_bytesWorld | (refine below_set ?_ (by first | assumption | omega)) | refine below_step ?_ (by assumption)))
          have k1 := fun w (h : Below w3.heap.size w3 w) => conv_string (c := c3) (Kd.C_below HC3.out h)
          have k2 := fun w (h : Below w0.heap.size w0 w) => conv_string (c := c) (Kd.C_below hC2.out h)
          have ho2 := HO1'.out
          go_wp2_with fail
          refine grow_rs [47, 48, 49, 50, 51, 52, 53, 54, 55, 2, 3] [fun v _ => v = (.slice A2 hl.length c2), fun v _ => v = (.slice A3 (wrapB hl).length c3), fun v _ => v = (.string (bs (wrapB hl))), fun v _ => v = (.slice (some ad) l.length c), fun v _ => v = (.int .i64 (n : Int)), fun v _ => v = (.int .i64 ((n : Int) + 7)), fun v _ => v = (.slice (some ad) (n + 7) c), fun v _ => v = (.string (bs (l.take (n + 7)))), fun v _ => v = (.bool (wrapB hl == l.take (n + 7))), fun v _ => v = (.slice A2 hl.length c2), fun v _ => v = (.bool (wrapB hl == l.take (n + 7)))] [0, 1, 2, 3, 4, 5, 6, 7, 8, 9, 10] (true, [([], []), ([], []), ([1], [1]), ([], []), ([], []), ([4], [4]), ([3, 5], [3, 5]), ([6], [6]), ([2, 7], [2, 7]), ([0, 0], [0]), ([8, 9, 0, 1, 2, 3, 4, 5, 6, 7, 8, 9], [8])]) [0, 0, 2, 0, 0, 16, 56, 120, 254, 1, 1023] (by kernel_rfl) (by kernel_rfl) (by kernel_rfl) (by kernel_rfl) (by kernel_rfl) (by kernel_rfl) (by kernel_rfl) (by rfl) (by kernel_rfl) ?_ ?_ ?_
          · exact (Rms_cons (Rm_eq _) (Rms_cons (Rm_eq _) (Rms_cons (Rm_eq _) (Rms_cons (Rm_eq _) (Rms_cons (Rm_eq _) (Rms_cons (Rm_eq _) (Rms_cons (Rm_eq _) (Rms_cons (Rm_eq _) (Rms_cons (Rm_eq _) (Rms_cons (Rm_eq _) (Rms_cons (Rm_eq _) Rms_nil)))))))))))
          · refine gsteps_cons ?_ ?_
            · intro a w' vs hB hel hd
              have e5 : a.tmps[5]? = some (.slice A2 hl.length c2) := (hel 5 (by kernel_rfl)).trans (by rfl)
              refine ⟨_, rfl, rfl, fun K hK => ?_⟩
              refine value_ (w1 := w') (v := .slice A2 hl.length c2) (by rfl) rfl ?_ (hK _ _ (by exact rfl) (Below.refl _ _))
              · go_simp
                (try simp only [i64_w, bs_list])
                (try rfl)
                (try (unfold Go.RowKit.wrap64; omega))
            refine gsteps_cons ?_ ?_
            · intro a w' vs hB hel hd
              have e6 : a.tmps[6]? = some (.slice A3 (wrapB hl).length c3) := (hel 6 (by kernel_rfl)).trans (by rfl)
              refine ⟨_, rfl, rfl, fun K hK => ?_⟩
              refine value_ (w1 := w') (v := .slice A3 (wrapB hl).length c3) (by rfl) rfl ?_ (hK _ _ (by exact rfl) (Below.refl _ _))
              · go_simp
                (try simp only [i64_w, bs_list])
                (try rfl)
                (try (unfold Go.RowKit.wrap64; omega))
            refine gsteps_cons ?_ ?_
            · intro a w' vs hB hel hd
              obtain ⟨f48, r48⟩ := hd 1 (by kernel_rfl)
              have e48 : a.tmps[48]? = some (.slice A3 (wrapB hl).length c3) := f48.trans (congrArg some (r48 : vs 1 = (.slice A3 (wrapB hl).length c3)))
              have q1 := k1 _ hB
              refine ⟨_, rfl, rfl, fun K hK => ?_⟩
              refine value_ (w1 := w') (v := .string (bs (wrapB hl))) (by rfl) rfl ?_ (hK _ _ (by exact rfl) (Below.refl _ _))
              · go_simp
                (try simp only [i64_w, bs_list])
                (try rfl)
                (try (unfold Go.RowKit.wrap64; omega))
            refine gsteps_cons ?_ ?_
            · intro a w' vs hB hel hd
              have e0 : a.tmps[0]? = some (.slice (some ad) l.length c) := (hel 0 (by kernel_rfl)).trans (by rfl)
              refine ⟨_, rfl, rfl, fun K hK => ?_⟩
              refine value_ (w1 := w') (v := .slice (some ad) l.length c) (by rfl) rfl ?_ (hK _ _ (by exact rfl) (Below.refl _ _))
              · go_simp
                (try simp only [i64_w, bs_list])
                (try rfl)
                (try (unfold Go.RowKit.wrap64; omega))
            refine gsteps_cons ?_ ?_
            · intro a w' vs hB hel hd
              have e4 : a.tmps[4]? = some (.int .i64 (n : Int)) := (hel 4 (by kernel_rfl)).trans (by rfl)
              refine ⟨_, rfl, rfl, fun K hK => ?_⟩
              refine value_ (w1 := w') (v := .int .i64 (n : Int)) (by rfl) rfl ?_ (hK _ _ (by exact rfl) (Below.refl _ _))
              · go_simp
                (try simp only [i64_w, bs_list])
                (try rfl)
                (try (unfold Go.RowKit.wrap64; omega))
            refine gsteps_cons ?_ ?_
            · intro a w' vs hB hel hd
              obtain ⟨f51, r51⟩ := hd 4 (by kernel_rfl)
              have e51 : a.tmps[51]? = some (.int .i64 (n : Int)) := f51.trans (congrArg some (r51 : vs 4 = (.int .i64 (n : Int))))
              refine ⟨_, rfl, rfl, fun K hK => ?_⟩
              refine value_ (w1 := w') (v := .int .i64 ((n : Int) + 7)) (by rfl) rfl ?_ (hK _ _ (by exact rfl) (Below.refl _ _))
              · go_simp
                (try simp only [i64_w, bs_list])
                (try rfl)
                (try (unfold Go.RowKit.wrap64; omega))
            refine gsteps_cons ?_ ?_
            · intro a w' vs hB hel hd
              obtain ⟨f50, r50⟩ := hd 3 (by kernel_rfl)
              have e50 : a.tmps[50]? = some (.slice (some ad) l.length c) := f50.trans (congrArg some (r50 : vs 3 = (.slice (some ad) l.length c)))
              obtain ⟨f52, r52⟩ := hd 5 (by kernel_rfl)
              have e52 : a.tmps[52]? = some (.int .i64 ((n : Int) + 7)) := f52.trans (congrArg some (r52 : vs 5 = (.int .i64 ((n : Int) + 7))))
              have q2 := hr2
              refine ⟨_, rfl, rfl, fun K hK => ?_⟩
              refine value_ (w1 := w') (v := .slice (some ad) (n + 7) c) (by rfl) rfl ?_ (hK _ _ (by exact rfl) (Below.refl _ _))
              · go_simp
                (try simp only [i64_w, bs_list])
                (try rfl)
                (try (unfold Go.RowKit.wrap64; omega))
            refine gsteps_cons ?_ ?_
            · intro a w' vs hB hel hd
              obtain ⟨f53, r53⟩ := hd 6 (by kernel_rfl)
              have e53 : a.tmps[53]? = some (.slice (some ad) (n + 7) c) := f53.trans (congrArg some (r53 : vs 6 = (.slice (some ad) (n + 7) c)))
              have q1 := k2 w' (by (repeat (first | exact Below.refl _ _ | apply below_alloc | apply below_drew | apply pw_below_drewN | apply below_bytesWorld | (refine below_set ?_ (by first | assumption | omega)) | refine below_step ?_ (by assumption))))
              refine ⟨_, rfl, rfl, fun K hK => ?_⟩
              refine value_ (w1 := w') (v := .string (bs (l.take (n + 7)))) (by rfl) rfl ?_ (hK _ _ (by exact rfl) (Below.refl _ _))
              · go_simp
                (try simp only [i64_w, bs_list])
                (try rfl)
                (try (unfold Go.RowKit.wrap64; omega))
            refine gsteps_cons ?_ ?_
            · intro a w' vs hB hel hd
              obtain ⟨f49, r49⟩ := hd 2 (by kernel_rfl)
              have e49 : a.tmps[49]? = some (.string (bs (wrapB hl))) := f49.trans (congrArg some (r49 : vs 2 = (.string (bs (wrapB hl)))))
              obtain ⟨f54, r54⟩ := hd 7 (by kernel_rfl)
              have e54 : a.tmps[54]? = some (.string (bs (l.take (n + 7)))) := f54.trans (congrArg some (r54 : vs 7 = (.string (bs (l.take (n + 7))))))
              refine ⟨_, rfl, rfl, fun K hK => ?_⟩
              refine value_ (w1 := w') (v := .bool (wrapB hl == l.take (n + 7))) (by rfl) rfl ?_ (hK _ _ (by exact rfl) (Below.refl _ _))
              · go_simp
                (try simp only [i64_w, bs_list])
                (try rfl)
                (try (unfold Go.RowKit.wrap64; omega))
            refine gsteps_cons ?_ ?_
            · intro a w' vs hB hel hd
              obtain ⟨f47, r47⟩ := hd 0 (by kernel_rfl)
              have e47 : a.tmps[47]? = some (.slice A2 hl.length c2) := f47.trans (congrArg some (r47 : vs 0 = (.slice A2 hl.length c2)))
              refine ⟨_, rfl, rfl, fun K hK => ?_⟩
              refine value_ (w1 := w') (v := .slice A2 hl.length c2) (by rfl) rfl ?_ (hK _ _ (by exact rfl) (Below.refl _ _))
              · go_simp
                (try simp only [i64_w, bs_list])
                (try rfl)
                (try (unfold Go.RowKit.wrap64; omega))
            refine gsteps_cons ?_ ?_
            · intro a w' vs hB hel hd
              obtain ⟨f55, r55⟩ := hd 8 (by kernel_rfl)
              have e55 : a.tmps[55]? = some (.bool (wrapB hl == l.take (n + 7))) := f55.trans (congrArg some (r55 : vs 8 = (.bool (wrapB hl == l.take (n + 7)))))
              refine ⟨_, rfl, rfl, fun K hK => ?_⟩
              refine value_ (w1 := w') (v := .bool (wrapB hl == l.take (n + 7))) (by rfl) rfl ?_ (hK _ _ (by exact rfl) (Below.refl _ _))
              · go_simp
                (try simp only [i64_w, bs_list])
                (try rfl)
                (try (unfold Go.RowKit.wrap64; omega))
            exact gsteps_nil
          · intro vs w' hB hR
            have hv0_ : vs 0 = (.slice A2 hl.length c2) := hR 0 (by kernel_rfl)
            have hv1_ : vs 1 = (.slice A3 (wrapB hl).length c3) := hR 1 (by kernel_rfl)
            have hv2_ : vs 2 = (.string (bs (wrapB hl))) := hR 2 (by kernel_rfl)
            have hv3_ : vs 3 = (.slice (some ad) l.length c) := hR 3 (by kernel_rfl)
            have hv4_ : vs 4 = (.int .i64 (n : Int)) := hR 4 (by kernel_rfl)
            have hv5_ : vs 5 = (.int .i64 ((n : Int) + 7)) := hR 5 (by kernel_rfl)
            have hv6_ : vs 6 = (.slice (some ad) (n + 7) c) := hR 6 (by kernel_rfl)
            have hv7_ : vs 7 = (.string (bs (l.take (n + 7)))) := hR 7 (by kernel_rfl)
            have hv8_ : vs 8 = (.bool (wrapB hl == l.take (n + 7))) := hR 8 (by kernel_rfl)
            have hv9_ : vs 9 = (.slice A2 hl.length c2) := hR 9 (by kernel_rfl)
            have hv10_ : vs 10 = (.bool (wrapB hl == l.take (n + 7))) := hR 10 (by kernel_rfl)
            rw [show entries [47, 48, 49, 50, 51, 52, 53, 54, 55, 2, 3] vs = [(0, 47, vs 0), (1, 48, vs 1), (2, 49, vs 2), (3, 50, vs 3), (4, 51, vs 4), (5, 52, vs 5), (6, 53, vs 6), (7, 54, vs 7), (8, 55, vs 8), (9, 2, vs 9), (10, 3, vs 10)] from rfl]
            simp only [putSel, if_true, Act.put, List.setIfInBounds_toArray, List.set_cons_zero, List.set_cons_succ, hv0_, hv1_, hv2_, hv3_, hv4_, hv5_, hv6_, hv7_, hv8_, hv9_, hv10_]
            clear hR hv0_ hv1_ hv2_ hv3_ hv4_ hv5_ hv6_ hv7_ hv8_ hv9_ hv10_
            go_wp2
            go_ret2
            refine ⟨FR_if HFA.out (by rw [← HHX.out]; exact OB.below ho2 (below_step hb3 hB)) (by rw [HHX.out]; exact beq_dec _ _), by (repeat (first | exact Below.refl _ _ | apply below_alloc | apply below_drew | apply pw_below_drewN | apply below_bytesWorld | (refine below_set ?_ (by first | assumption | omega)) | refine below_step ?_ (by assumption)))⟩

end Go.Proofs.Ytbbhjceelghadaa.My
