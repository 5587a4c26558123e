/- The laws of frames that need no [][]byte: walks. -/
import Derived.Test.YtbbhjceelghadaaFrameM
namespace Go.Proofs.Ytbbhjceelghadaa.My
open Go Go.RowKit Go.Proofs.YtbbhjceelghadaaW.PrintWords Go.Proofs.YtbbhjceelghadaaW.PrintMore Go.Proofs.YtbbhjceelghadaaW.PrintLast
attribute [local go_sem] max2_int min2_int max_two min_two

set_option maxHeartbeats 2000000 in
theorem frameWraps_walk (A : Option Addr) (c : Nat) (l : List UInt8) (w0 : World) (hr : kb.C w0 A l.length l) (hc : l.length ≤ c) :
    Calls Try.prog 10 #[.slice A l.length c] w0 fun e w' => e = .returned (.bool true) ∧ Below w0.heap.size w0 w' := by
  by_cases hbig : (1500 : Int) < l.length
  · go_enter Try.func10, Try.ntmps10
    go_wp2_with ((go_at_call 18; refine (known9 _).mono ?_; rintro e_ w_ ⟨rfl, hb_⟩))
    go_ret
    exact ⟨rfl, by (repeat (first | exact Below.refl _ _ | apply below_alloc | apply below_drew | apply pw_below_drewN | apply below_bytesWorld | (refine below_set ?_ (by first | assumption | omega)) | refine below_step ?_ (by assumption)))⟩
  · have hsm : (l.length : Int) ≤ 1500 := by omega
    have h60 : l.length ≤ 60000 := by omega
    have h1m : (l.length : Int) ≤ 1000000 := by omega
    have HL := Aside0.mk hr
    clear hr hbig
    go_enter Try.func10, Try.ntmps10
    go_wp2_with fail
    refine (known9 _).mono ?_; rintro e w1 ⟨rfl, hb1⟩
    go_wp2_with fail
    refine (wrap_any A c l _ (Kd.C_below HL.out (by (repeat (first | exact Below.refl _ _ | apply below_alloc | apply below_drew | apply pw_below_drewN | apply below_bytesWorld | (refine below_set ?_ (by first | assumption | omega)) | refine below_step ?_ (by assumption))))) hc h60).mono ?_
    rintro e w2 ⟨v2, rfl, ho2, hb2⟩
    obtain ⟨A2, c2, rfl, hc2, hC2⟩ := ho2.reads
    have HC2 := Aside0.mk hC2
    clear ho2 hC2
    go_wp2_with fail
    refine (refWrap_any A c l _ (Kd.C_below HL.out (by (repeat (first | exact Below.refl _ _ | apply below_alloc | apply below_drew | apply pw_below_drewN | apply below_bytesWorld | (refine below_set ?_ (by first | assumption | omega)) | refine below_step ?_ (by assumption))))) hc h60).mono ?_
    rintro e w3 ⟨v3, rfl, ho3, hb3⟩
    obtain ⟨A3, c3, rfl, hc3, hC3⟩ := ho3.reads
    have HC3 := Aside0.mk hC3
    clear ho3 hC3
    go_wp2_with fail
    refine (scan_any A c l _ (Kd.C_below HL.out (by (repeat (first | exact Below.refl _ _ | apply below_alloc | apply below_drew | apply pw_below_drewN | apply below_bytesWorld | (refine below_set ?_ (by first | assumption | omega)) | refine below_step ?_ (by assumption))))) hc h1m).mono ?_
    rintro e w4 ⟨v4, rfl, ho4, hb4⟩
    obtain ⟨A4, c4, rfl, hc4, hC4⟩ := ho4.reads
    have HC4 := Aside0.mk hC4
    clear ho4 hC4
    go_wp2_with fail
    refine (refScan_any A c l _ (Kd.C_below HL.out (by (repeat (first | exact Below.refl _ _ | apply below_alloc | apply below_drew | apply pw_below_drewN | apply below_bytesWorld | (refine below_set ?_ (by first | assumption | omega)) | refine below_step ?_ (by assumption))))) hc h1m).mono ?_
    rintro e w5 ⟨v5, rfl, ho5, hb5⟩
    obtain ⟨A5, c5, rfl, hc5, hC5⟩ := ho5.reads
    have HC5 := Aside0.mk hC5
    clear ho5 hC5
    have k1 := conv_string (c := c2) (Kd.C_below HC2.out (w1 := w5) (by (repeat (first | exact Below.refl _ _ | apply below_alloc | apply below_drew | apply pw_below_drewN | apply below_bytesWorld | (refine below_set ?_ (by first | assumption | omega)) | refine below_step ?_ (by assumption)))))
    have k2 := conv_string (c := c3) (Kd.C_below HC3.out (w1 := w5) (by (repeat (first | exact Below.refl _ _ | apply below_alloc | apply below_drew | apply pw_below_drewN | apply below_bytesWorld | (refine below_set ?_ (by first | assumption | omega)) | refine below_step ?_ (by assumption)))))
    generalize wrapB l = q at *
    generalize scanB l = s at *
    have hss : (s == s) = true := by rw [beq_iff_eq]
    go_wp2_with fail
    refine (same_any A4 A5 c4 c5 s s _ (Kd.C_below HC4.out (by (repeat (first | exact Below.refl _ _ | apply below_alloc | apply below_drew | apply pw_below_drewN | apply below_bytesWorld | (refine below_set ?_ (by first | assumption | omega)) | refine below_step ?_ (by assumption))))) HC5.out hc4 hc5).mono ?_
    rintro e w6 ⟨rfl, hb6⟩
    rw [hss]
    go_wp2
    go_ret
    exact ⟨rfl, by (repeat (first | exact Below.refl _ _ | apply below_alloc | apply below_drew | apply pw_below_drewN | apply below_bytesWorld | (refine below_set ?_ (by first | assumption | omega)) | refine below_step ?_ (by assumption)))⟩

end Go.Proofs.Ytbbhjceelghadaa.My
