/- FrameScans: walk. -/
import Derived.Test.YtbbhjceelghadaaFrameU
namespace Go.Proofs.Ytbbhjceelghadaa.My
open Go Go.RowKit Go.Proofs.YtbbhjceelghadaaW.PrintWords Go.Proofs.YtbbhjceelghadaaW.PrintMore Go.Proofs.YtbbhjceelghadaaW.PrintLast
attribute [local go_sem] max2_int min2_int max_two min_two

theorem end_mem (ls : List (List UInt8)) (x : List UInt8) (h : x ∈ ls) : x.length ≤ endB ls := by
  induction ls with
  | nil => cases h
  | cons y ls ih =>
    rw [endB_cons]
    rcases List.mem_cons.1 h with rfl | h
    · omega
    · have := ih h
      omega

set_option maxRecDepth 20000 in
set_option maxHeartbeats 2000000 in
theorem frameScans_walk (A : Option Addr) (c : Nat) (ls : List (List UInt8)) (B : Option Addr) (d : Nat) (l : List UInt8) (w0 : World) (h : (Kd.slice 5 kb).C w0 A ls.length ls) (hc : ls.length ≤ c) (hr : kb.C w0 B l.length l) (hd : l.length ≤ d) (hs : (endB ls : Int) ≤ 100000000) :
    Calls Try.prog 11 #[.slice A ls.length c, .slice B l.length d] w0 fun e w' => e = .returned (.bool true) ∧ Below w0.heap.size w0 w' := by
  have H := Aside0.mk h
  have HL := Aside0.mk hr
  clear h hr
  by_cases hh : (3000 : Int) < (endB ls : Int)
  · go_enter Try.func11, Try.ntmps11
    go_wp2_with fail
    refine (heavy_any A c ls _ H.out hc hs).mono ?_; rintro e w1 ⟨rfl, hb1⟩
    go_wp2_with ((go_at_call 18; refine (known9 _).mono ?_; rintro e_ w_ ⟨rfl, hb_⟩))
    go_ret
    exact ⟨rfl, by (repeat (first | exact Below.refl _ _ | apply below_alloc | apply below_drew | apply pw_below_drewN | apply below_bytesWorld | (refine below_set ?_ (by first | assumption | omega)) | refine below_step ?_ (by assumption)))⟩
  · by_cases hbig : (1500 : Int) < l.length
    · go_enter Try.func11, Try.ntmps11
      go_wp2_with fail
      refine (heavy_any A c ls _ H.out hc hs).mono ?_; rintro e w1 ⟨rfl, hb1⟩
      go_wp2_with ((go_at_call 18; refine (known9 _).mono ?_; rintro e_ w_ ⟨rfl, hb_⟩))
      go_ret
      exact ⟨rfl, by (repeat (first | exact Below.refl _ _ | apply below_alloc | apply below_drew | apply pw_below_drewN | apply below_bytesWorld | (refine below_set ?_ (by first | assumption | omega)) | refine below_step ?_ (by assumption)))⟩
    · have hsm : (l.length : Int) ≤ 1500 := by omega
      have hee : (endB ls : Int) ≤ 3000 := by omega
      have hall : ∀ x ∈ ls, x.length ≤ 60000 := fun x hx => by have := end_mem ls x hx; omega
      have hrl := rowsB_len ls
      have hk0 : decide ((3000 : Int) < (endB ls : Int)) = false := by simp; omega
      have HS1 := Aside0.mk (show scanB (rowsB ls) = ls from by have := scan_rows ls [] hall; rwa [List.append_nil, scanB_nil, List.append_nil] at this)
      have HS2 := Aside0.mk (scan_rows ls l hall)
      have HRL := Aside0.mk hrl
      clear hbig hh hrl hall
      go_enter Try.func11, Try.ntmps11
      go_wp2_with fail
      refine (heavy_any A c ls _ H.out hc hs).mono ?_; rintro e w1 ⟨rfl, hb1⟩
      rw [hk0]
      clear hk0
      go_wp2_with fail
      refine (known9 _).mono ?_; rintro e w2 ⟨rfl, hb2⟩
      go_wp2_with fail
      refine (rows_any A c ls _ (Kd.C_below H.out (below_step hb1 hb2)) hc hee).mono ?_
      rintro e w3 ⟨v3, rfl, ho3, hb3⟩
      obtain ⟨q, hq⟩ : ∃ z, z = rowsB ls := ⟨_, rfl⟩
      rw [← hq] at ho3 HS1 HS2 HRL
      obtain ⟨Aq, cq, rfl, hcq, hC3⟩ := ho3.reads
      have HC3 := Aside0.mk hC3
      have hB3 := below_step (below_step hb1 hb2) hb3
      have hqm : (q.length : Int) ≤ 3000 := by have := HRL.out; omega
      have hqm2 : (q.length : Int) ≤ 1000000 := by omega
      clear ho3 hC3 hq hb1 hb2 hb3
      go_wp2_with fail
      refine (scan_any Aq cq q _ HC3.out hcq hqm2).mono ?_
      rintro e w4 ⟨v4, rfl, ho4, hb4⟩
      rw [HS1.out] at ho4 ⊢
      rw [← HRL.out]
      obtain ⟨A4, c4, rfl, hc4, hC4⟩ := ho4.reads
      have HC4 := Aside0.mk hC4
      have HC5 := Aside0.mk (Kd.C_below HC3.out hb4)
      have HLw := Aside0.mk (Kd.C_below HL.out (below_step hB3 hb4))
      clear ho4 hC4
      go_wp2_with (first | (at_builtin; refine Kd.R_append_rows kb (w0 := w4) (World.heap w4).size rfl (.tmp 32) (.tmp 33) 22 5 (.int .u8 0) 1 rfl Try.underlying22 info_u8' rfl (by decide) (by omega) (.slice none 0 0) [] q _ _ _ (fun _ => True) (fun _ => False) rfl rfl (OB.nil _ _) HC5.out (fun _ _ h => h) (fun _ h => h.elim) (fun _ _ => trivial) ?aB ?aS ?aL ?_; (case aB => first | exact Below.refl _ _ | assumption | (repeat (first | exact Below.refl _ _ | apply below_alloc | apply below_drew | apply pw_below_drewN | apply below_bytesWorld | (refine below_set ?_ (by first | assumption | omega)) | refine below_step ?_ (by assumption)))); (case aS => first | exact Nat.le_refl _ | exact below_size (by assumption) | exact below_size (by (repeat (first | exact Below.refl _ _ | apply below_alloc | apply below_drew | apply pw_below_drewN | apply below_bytesWorld | (refine below_set ?_ (by first | assumption | omega)) | refine below_step ?_ (by assumption))))); (case aL => (try simp only [List.length_cons, List.length_nil]); omega); intro v1_ w_r1 HO_r1 HB_r1 hg_ hat_; obtain ⟨r1, hcat_⟩ : ∃ z, z = [] ++ q := ⟨_, rfl⟩; rw [← hcat_] at HO_r1; have HT_r1 := Aside0.mk hcat_; clear hcat_ hg_ hat_; obtain ⟨A6, c6, rfl, hc_r1, HC_r1⟩ := OB.reads HO_r1) | (have hl1 : r1.length = q.length := by rw [HT_r1.out, List.nil_append]); (at_builtin; refine Kd.R_append_rows kb (w0 := w4) (World.heap w4).size rfl (.tmp 35) (.tmp 36) 22 5 (.int .u8 0) 1 rfl Try.underlying22 info_u8' rfl (by decide) (by omega) (.slice A6 r1.length c6) r1 l _ _ _ (fun _ => True) (fun _ => False) rfl rfl HO_r1 (Kd.C_below HLw.out HB_r1) (fun _ _ h => h) (fun _ h => h.elim) (fun _ _ => trivial) ?aB ?aS ?aL ?_; (case aB => first | exact Below.refl _ _ | assumption | (repeat (first | exact Below.refl _ _ | apply below_alloc | apply below_drew | apply pw_below_drewN | apply below_bytesWorld | (refine below_set ?_ (by first | assumption | omega)) | refine below_step ?_ (by assumption)))); (case aS => first | exact Nat.le_refl _ | exact below_size (by assumption) | exact below_size (by (repeat (first | exact Below.refl _ _ | apply below_alloc | apply below_drew | apply pw_below_drewN | apply below_bytesWorld | (refine below_set ?_ (by first | assumption | omega)) | refine below_step ?_ (by assumption))))); (case aL => (try simp only [List.length_cons, List.length_nil]); omega); intro v1_ w_r2 HO_r2 HB_r2 hg_ hat_; obtain ⟨r2, hcat_⟩ : ∃ z, z = r1 ++ l := ⟨_, rfl⟩; rw [← hcat_] at HO_r2; have HT_r2 := Aside0.mk hcat_; clear hcat_ hg_ hat_; obtain ⟨A7, c7, rfl, hc_r2, HC_r2⟩ := OB.reads HO_r2) | fail)
      have hr2 : r2 = q ++ l := by rw [HT_r2.out, HT_r1.out, List.nil_append]
      rw [← hr2] at HS2
      have hl2 : r2.length = q.length + l.length := by rw [hr2, List.length_append]
      have hl2I : (r2.length : Int) ≤ 1000000 := by omega
      have HC7 := Aside0.mk HC_r2
      have hB5 : Below w0.heap.size w0 w_r2 := (below_step hB3 hb4).trans (HB_r2.mono (below_step hB3 hb4).size)
      have HC4' := Aside0.mk (Kd.C_below HC4.out HB_r2)
      clear HO_r1 hc_r1 HC_r1 hl1 HB_r1 HC_r2 HO_r2 hr2 hl2 HT_r1 HT_r2 HB_r2 hb4 HC4 HC5 HLw
      refine (scan_any A7 c7 r2 _ HC7.out hc_r2 hl2I).mono ?_
      rintro e w8 ⟨v8, rfl, ho8, hb8⟩
      obtain ⟨A8, c8, rfl, hc8, hC8⟩ := ho8.reads
      have HC8 := Aside0.mk hC8
      clear ho8 hC8
      go_wp2_with fail
      refine (refScan_any A7 c7 r2 _ (Kd.C_below HC7.out hb8) hc_r2 hl2I).mono ?_
      rintro e w9 ⟨v9, rfl, ho9, hb9⟩
      obtain ⟨A9, c9, rfl, hc9, hC9⟩ := ho9.reads
      have HC9 := Aside0.mk hC9
      clear ho9 hC9
      have hlen : ls.length ≤ (scanB r2).length := by rw [HS2.out, List.length_append]; omega
      obtain ⟨s2, hs2⟩ : ∃ z, z = scanB r2 := ⟨_, rfl⟩
      rw [← hs2] at HC8 HC9 hc8 hc9 hlen ⊢
      clear hs2
      have hB9 := below_step (below_step hB5 hb8) hb9
      have e1 : (ls == ls) = true := by rw [beq_iff_eq]
      have e2 : (s2 == s2) = true := by rw [beq_iff_eq]
      have hlenI : (ls.length : Int) ≤ (s2.length : Int) := by omega
      go_wp2_with fail
      refine (same_any A4 A c4 c ls ls _ (Kd.C_below HC4'.out (below_step hb8 hb9)) (Kd.C_below H.out hB9) hc4 hc).mono ?_
      rintro e w10 ⟨rfl, hb10⟩
      rw [e1]
      go_wp2_with fail
      refine (same_any A8 A9 c8 c9 s2 s2 _ (Kd.C_below HC8.out (below_step hb9 hb10)) (Kd.C_below HC9.out hb10) hc8 hc9).mono ?_
      rintro e w11 ⟨rfl, hb11⟩
      rw [e2]
      have hfin := below_step (below_step hB9 hb10) hb11
      go_wp2
      go_ret
      exact ⟨rfl, hfin⟩

end Go.Proofs.Ytbbhjceelghadaa.My
