/- FrameBends, FrameLong, FrameTwo: walks. -/
import Derived.Test.YtbbhjceelghadaaFrameN
import Derived.Test.YtbbhjceelghadaaFrameQ
namespace Go.Proofs.Ytbbhjceelghadaa.My
open Go Go.RowKit Go.Proofs.YtbbhjceelghadaaW.PrintWords Go.Proofs.YtbbhjceelghadaaW.PrintMore Go.Proofs.YtbbhjceelghadaaW.PrintLast
attribute [local go_sem] max2_int min2_int max_two min_two

theorem scan_n (A : Option Addr) (c n : Nat) (l : List UInt8) (w0 : World) (hr : kb.C w0 A n l) (hc : n ≤ c) (hs : (n : Int) ≤ 1000000) :
    Calls Try.prog 20 #[.slice A n c] w0 fun e w' => ∃ v, e = .returned (.tuple #[v, .int .i64 (endB (scanB l) : Nat)]) ∧ OBB w' w0.heap.size v (scanB l) ∧ Below w0.heap.size w0 w' := by
  have h := hr.1
  subst h
  exact scan_any A c l w0 hr hc hs

set_option maxHeartbeats 2000000 in
theorem frameBends_walk (A : Option Addr) (c : Nat) (l : List UInt8) (i : Int) (xn : Nat) (w0 : World) (hr : kb.C w0 A l.length l) (hc : l.length ≤ c) (hi : -9223372036854775808 ≤ i ∧ i ≤ 9223372036854775807) (hxn : xn < 256) :
    Calls Try.prog 13 #[.slice A l.length c, .int .i64 i, .int .u8 (xn : Int)] w0 fun e w' => e = .returned (.bool true) ∧ Below w0.heap.size w0 w' := by
  by_cases hbig : (1500 : Int) < l.length
  · go_enter Try.func13, Try.ntmps13
    go_wp2_with ((go_at_call 18; refine (known9 _).mono ?_; rintro e_ w_ ⟨rfl, hb_⟩))
    go_ret
    exact ⟨rfl, by (repeat (first | exact Below.refl _ _ | apply below_alloc | apply below_drew | apply pw_below_drewN | apply below_bytesWorld | (refine below_set ?_ (by first | assumption | omega)) | refine below_step ?_ (by assumption)))⟩
  · by_cases hx0 : xn = 0
    · subst hx0
      go_enter Try.func13, Try.ntmps13
      go_wp2_with ((go_at_call 18; refine (known9 _).mono ?_; rintro e_ w_ ⟨rfl, hb_⟩))
      go_ret
      exact ⟨rfl, by (repeat (first | exact Below.refl _ _ | apply below_alloc | apply below_drew | apply pw_below_drewN | apply below_bytesWorld | (refine below_set ?_ (by first | assumption | omega)) | refine below_step ?_ (by assumption)))⟩
    · have hx0' : ((xn : Int) == 0) = false := by rw [beq_eq_false_iff_ne]; omega
      obtain ⟨xb, hxb0⟩ : ∃ xb : UInt8, xb = UInt8.ofNat xn := ⟨_, rfl⟩
      have hxt : (xn : Int) = (xb.toNat : Int) := by rw [hxb0, UInt8.toNat_ofNat']; omega
      have hxb : xb ≠ 0 := fun h => by rw [h] at hxt; simp at hxt; omega
      rw [hxt] at hx0' ⊢
      clear hx0 hxt hxn hxb0
      have HXB := Aside0.mk hxb
      have hsm : (l.length : Int) ≤ 1500 := by omega
      have h60 : l.length ≤ 60000 := by omega
      have HL := Aside0.mk hr
      clear hr hbig hxb
      obtain ⟨i0, hi0⟩ : ∃ i0 : Nat, (if i < 0 then (0 : Int) else i) = (i0 : Int) := by
        by_cases h : i < 0
        · exact ⟨0, by rw [if_pos h]; rfl⟩
        · exact ⟨i.toNat, by rw [if_neg h]; omega⟩
      clear hi
      go_enter Try.func13, Try.ntmps13
      go_wp2_with fail
      refine (known9 _).mono ?_; rintro e w1 ⟨rfl, hb1⟩
      go_wp2_with fail
      refine (wrap_any A c l _ (Kd.C_below HL.out (by (repeat (first | exact Below.refl _ _ | apply below_alloc | apply below_drew | apply pw_below_drewN | apply below_bytesWorld | (refine below_set ?_ (by first | assumption | omega)) | refine below_step ?_ (by assumption))))) hc h60).mono ?_
      rintro e w2 ⟨v2, rfl, ho2, hb2⟩
      have hql0 := wrap_len l
      have HBD := Aside0.mk (fun k (h3 : 3 ≤ k) (hk : k < l.length + 7) => scan_bend l k xb h60 h3 hk HXB.out)
      obtain ⟨q, hq⟩ : ∃ q, q = wrapB l := ⟨_, rfl⟩
      rw [← hq] at ho2 hql0 HBD
      have hql : (q.length : Int) = (l.length : Int) + 7 := by omega
      obtain ⟨g, cap, rfl, hlc, hgb, _, hfr, hC1⟩ := kb_form ho2 (by omega)
      obtain ⟨n, hn0, hnl⟩ : ∃ n : Nat, (i0 : Int) % ((q.length : Int) - 3) = (n : Int) ∧ n < q.length - 3 := ⟨i0 % (q.length - 3), by rw [show ((q.length : Int) - 3) = ((q.length - 3 : Nat) : Int) from by omega]; exact (Int.natCast_emod i0 (q.length - 3)).symm, Nat.mod_lt i0 (by omega)⟩
      obtain ⟨k, hk⟩ : ∃ k, k = 3 + n := ⟨_, rfl⟩
      have hk3 : 3 + (n : Int) = (k : Int) := by omega
      have hkl : (k : Int) < (q.length : Int) := by omega
      have hn1 : (n : Int) < 1504 := by omega
      obtain ⟨ad_, hade_, hcl⟩ := C_at hC1 k (by omega)
      cases hade_
      have hfrk := hfr k
      rw [add_plain] at hcl
      have hkq : k < l.length + 7 := by omega
      have hk30 : 3 ≤ k := by omega
      have HBK := Aside0.mk (HBD.out k hk30 hkq)
      obtain ⟨cb, hcb⟩ : ∃ cb, cb = q.getD k 0 := ⟨_, rfl⟩
      rw [← hcb] at hcl HBK
      have hxor := xor_byte cb xb
      have hgb0 : w0.heap.size ≤ g := Nat.le_trans hb1.size hgb
      have HS := Aside0.mk (kb_set ho2 k (cb ^^^ xb))
      have kq : ((q.length : Int) != (7 + (l.length : Int))) = false := by simp; omega
      have hq1 : (q.length : Int) ≤ 1507 := by omega
      have hq2 : (0 : Int) < (q.length : Int) - 3 := by omega
      have hq1m : (q.length : Int) ≤ 1000000 := by omega
      clear ho2 hfr hC1 hcb hk HBD hq hql hql0 hnl
      go_wp2_with fail
      rw [show ((cb.toNat ^^^ xb.toNat : Nat) : Int) = ((cb ^^^ xb).toNat : Int) from by rw [UInt8.toNat_xor]]
      have hC3 := (kb_R HS.out).2.2
      rw [List.length_set] at hC3
      have HB3 := Aside0.mk (below_set (v := Value.int .u8 ((cb ^^^ xb).toNat : Int)) (j := k) (below_step hb1 hb2) hgb0)
      refine (scan_n (some ⟨g, 0, none⟩) cap q.length _ _ hC3 hlc hq1m).mono ?_
      rintro e w3 ⟨v3, rfl, ho3, hb3⟩
      rw [HBK.out] at ho3 ⊢
      obtain ⟨A3, c3, rfl, hc3, hC3'⟩ := ho3.reads
      have HB4 := Aside0.mk (below_step HB3.out hb3)
      rw [show endB [] = 0 from rfl]
      clear hC3 ho3 hC3' hb3
      go_wp2
      go_ret
      exact ⟨rfl, HB4.out⟩

end Go.Proofs.Ytbbhjceelghadaa.My
