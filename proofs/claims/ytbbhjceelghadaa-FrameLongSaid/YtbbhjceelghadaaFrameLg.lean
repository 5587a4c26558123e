/- FrameLong: walk. -/
import Derived.Test.YtbbhjceelghadaaFrameO
namespace Go.Proofs.Ytbbhjceelghadaa.My
open Go Go.RowKit Go.Proofs.YtbbhjceelghadaaW.PrintWords Go.Proofs.YtbbhjceelghadaaW.PrintMore Go.Proofs.YtbbhjceelghadaaW.PrintLast
attribute [local go_sem] max2_int min2_int max_two min_two

theorem wrap_mid (l : List UInt8) : ((wrapB l).take (3 + l.length)).drop 3 = l := by
  rw [wrap_front, List.drop_append_of_le_length (by rw [head_len]; omega), List.drop_of_length_le (by rw [head_len]; omega), List.nil_append]

set_option maxHeartbeats 2000000 in
theorem frameLong_walk (A : Option Addr) (c : Nat) (l : List UInt8) (w0 : World) (hr : kb.C w0 A l.length l) (hc : l.length ≤ c) :
    Calls Try.prog 9 #[.slice A l.length c] w0 fun e w' => e = .returned (.bool true) ∧ Below w0.heap.size w0 w' := by
  by_cases hbig : (1500 : Int) < l.length
  · go_enter Try.func9, Try.ntmps9
    go_wp2_with ((go_at_call 18; refine (known9 _).mono ?_; rintro e_ w_ ⟨rfl, hb_⟩))
    go_ret
    exact ⟨rfl, by (repeat (first | exact Below.refl _ _ | apply below_alloc | apply below_drew | apply pw_below_drewN | apply below_bytesWorld | (refine below_set ?_ (by first | assumption | omega)) | refine below_step ?_ (by assumption)))⟩
  · have hsm : (l.length : Int) ≤ 1500 := by omega
    have h60 : l.length ≤ 60000 := by omega
    have HL := Aside0.mk hr
    clear hr hbig
    have q1 : ∀ w, Below w0.heap.size w0 w → (convert 22 9 (.slice A l.length c)).run Try.prog w = .ok (.string (bs l)) w := fun w hb => conv_string (c := c) (Kd.C_below HL.out hb)
    go_enter Try.func9, Try.ntmps9
    go_wp2_with fail
    refine (known9 _).mono ?_; rintro e w1 ⟨rfl, hb1⟩
    have q2 := q1 w1 hb1
    go_wp2_with fail
    refine (wrap_any A c l _ (Kd.C_below HL.out (by (repeat (first | exact Below.refl _ _ | apply below_alloc | apply below_drew | apply pw_below_drewN | apply below_bytesWorld | (refine below_set ?_ (by first | assumption | omega)) | refine below_step ?_ (by assumption))))) hc h60).mono ?_
    rintro e w2 ⟨v2, rfl, ho2, hb2⟩
    have hql0 := wrap_len l
    have HMID := Aside0.mk (wrap_mid l)
    have HONE := Aside0.mk (scan_one l h60)
    obtain ⟨q, hq⟩ : ∃ q, q = wrapB l := ⟨_, rfl⟩
    rw [← hq] at ho2 hql0 HMID HONE
    have hql : (q.length : Int) = (l.length : Int) + 7 := by omega
    obtain ⟨g, cap, rfl, hlc, hgb, _, hfr, hC1⟩ := kb_form ho2 (by omega)
    have HO2 := Aside0.mk ho2
    have HC1 := Aside0.mk hC1
    have hgb0 : w0.heap.size ≤ g := Nat.le_trans hb1.size hgb
    obtain ⟨A1, hr1, hCm⟩ := cut_lh hC1 hlc 3 (3 + l.length) (3 : Int) (3 + (l.length : Int)) rfl (by omega) (by omega) (by omega)
    rw [HMID.out, show 3 + l.length - 3 = l.length from by omega] at hCm
    rw [show 3 + l.length - 3 = l.length from by omega] at hr1
    have q3 := conv_string (c := cap - 3) hCm
    have kq : ((q.length : Int) != ((l.length : Int) + 7)) = false := by simp; omega
    have ks : ((bs l).toList != (bs l).toList) = false := by simp
    have hq1m : (q.length : Int) ≤ 1000000 := by omega
    have hq3 : (3 : Int) + (l.length : Int) ≤ (cap : Int) := by omega
    obtain ⟨inner2, hown2⟩ := Kd.R_own ho2
    have hglt : g < w2.heap.size := own_lt hown2 g (by simp [Value.ownBlock])
    clear hCm hC1 ho2 hql0 hq hown2
    go_wp2_with fail
    refine (scan_any (some ⟨g, 0, none⟩) cap q _ HC1.out hlc hq1m).mono ?_
    rintro e w3 ⟨v3, rfl, ho3, hb3⟩
    rw [HONE.out] at ho3 ⊢
    obtain ⟨A3, c3, rfl, hc3, hC3⟩ := ho3.reads
    have HO3 := Aside0.mk ho3
    have HO4 := Aside0.mk (HO2.out.below hb3)
    have HB3 := Aside0.mk (below_step (below_step hb1 hb2) hb3)
    obtain ⟨e1, he1⟩ : ∃ z, z = (endB [l] : Nat) := ⟨_, rfl⟩
    rw [← he1]
    clear hC3 ho3 hb3 q2 q3 ks he1
    go_wp2
    go_loopw [8] (fun i wr => ∃ (k : Nat) (q' : List UInt8), k ≤ q.length ∧ i = .int .i64 (k : Int) ∧ q'.length = q.length ∧ Aside0 (OB wr w1.heap.size (.slice (some ⟨g, 0, none⟩) q.length cap) q') ∧ Aside0 (Only g w3 wr)) (fun i _ => q.length - (intOf i).toNat)
    case atStart => exact ⟨0, q, Nat.zero_le _, rfl, rfl, HO4, ⟨Only.refl _ _⟩⟩
    case round =>
      obtain ⟨k, q', hk, rfl, hq', HQ, HY⟩ := hrel
      by_cases hlt : k < q.length
      · obtain ⟨inner, hown⟩ := Kd.R_own HQ.out
        obtain ⟨cells, hcells⟩ := own_typed hown g (by simp [Value.ownBlock])
        have hfk := blk_frozen hcells (i := k)
        obtain ⟨ad_, hade_, hcl⟩ := C_at (kb_R HQ.out).2.2 k (by rw [hq']; exact hlt)
        cases hade_
        rw [add_plain] at hcl
        have hkI : (k : Int) < (q.length : Int) := by omega
        have HS := Aside0.mk (kb_set HQ.out k 255)
        have HO5 := Aside0.mk (HY.out.set k (.int .u8 255))
        clear hown hcells
        go_wp2
        go_roundw
        case rel => exact ⟨k + 1, q'.set k 255, by omega, by go_num, by rw [List.length_set]; exact hq', HS, HO5⟩
        case measure => simp [intOf]; omega
      · obtain rfl : k = q.length := by omega
        have hB := HY.out.below hgb0 HB3.out
        have ho6 : OBB wr w2.heap.size (.slice A3 1 c3) [l] := Kd.R_mono (Kd.R_move (Kd.R_bound HO3.out) (fun k hk => HY.out.block k (by have := hk.2.1; omega))) (fun _ h => h.1)
        obtain ⟨A5, c5, hv5, hc5, hC5⟩ := ho6.reads
        injection hv5 with h1 h2 h3
        subst h1; subst h3
        clear h2
        obtain ⟨ad, A6, c6, rfl, hx6, hxc6, hC6⟩ := CC_at hC5 0 (by simp)
        have hx6' : wr.cell? ad = some (.slice A6 l.length c6) := by rw [addr_zero] at hx6; exact hx6
        have q5 := q1 wr hB
        have q6 : (convert 22 9 (.slice A6 l.length c6)).run Try.prog wr = .ok (.string (bs l)) wr := conv_string (c := c6) hC6
        clear hx6 hxc6 hC6 hC5 ho6 q1 h60 hc3 hc5 hlt hk
        go_wp2
        go_ret
        exact ⟨rfl, hB⟩

end Go.Proofs.Ytbbhjceelghadaa.My
