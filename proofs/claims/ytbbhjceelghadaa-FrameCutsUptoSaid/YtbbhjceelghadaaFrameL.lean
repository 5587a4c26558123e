/- The laws of frames: walks. -/
import Derived.Test.YtbbhjceelghadaaScan
namespace Go.Proofs.Ytbbhjceelghadaa.My
open Go Go.RowKit Go.Proofs.YtbbhjceelghadaaW.PrintWords Go.Proofs.YtbbhjceelghadaaW.PrintMore Go.Proofs.YtbbhjceelghadaaW.PrintLast
attribute [local go_sem] max2_int min2_int max_two min_two

theorem scanB_nil : scanB [] = [] := rfl
theorem scan_one (x : List UInt8) (h : x.length ≤ 60000) : scanB (wrapB x) = [x] := by
  have := scan_rows [x] [] (by simpa using h)
  rw [rowsB_cons, show rowsB [] = [] from rfl, List.append_nil, List.append_nil, scanB_nil, List.append_nil] at this
  exact this
theorem wrap_nil : wrapB [] = [0, 0, 0, 0, 3, 0, 1] := by decide
theorem scan_nil : scanB [0, 0, 0, 0, 3, 0, 1] = [[]] := by rw [← wrap_nil]; exact scan_one [] (by simp)

set_option maxHeartbeats 2000000 in
theorem known9 (w0 : World) : Calls Try.prog 18 #[] w0 fun e w' => e = .returned (.bool true) ∧ Below w0.heap.size w0 w' := by
  go_enter Try.func18, Try.ntmps18
  go_wp2_with fail
  refine (wrap_any none 0 [] w0 (C_nil0 _) (Nat.le_refl _) (by simp)).mono ?_
  rintro e w1 ⟨v1, rfl, ho1, hb1⟩
  rw [wrap_nil] at ho1
  obtain ⟨A1, c1, rfl, hc1, hC1⟩ := ho1.reads
  have HC1 := Aside0.mk hC1
  clear ho1 hC1
  go_wp2_with fail
  refine (scan_any A1 c1 [0, 0, 0, 0, 3, 0, 1] w1 HC1.out hc1 (by simp)).mono ?_
  rintro e w2 ⟨v2, rfl, ho2, hb2⟩
  rw [scan_nil] at ho2 ⊢
  obtain ⟨A2, c2, rfl, hc2, hC2⟩ := ho2.reads
  obtain ⟨ad, A3, c3, rfl, hx, hxc, hxC⟩ := CC_at hC2 0 (by simp)
  clear ho2 hC2 hxC
  have k1 : (convert 22 9 (.slice A1 7 c1)).run Try.prog w2 = .ok (.string { data := #[0, 0, 0, 0, 3, 0, 1] }) w2 := conv_string (c := c1) (Kd.C_below HC1.out hb2)
  have hx' : w2.cell? ad = some (.slice A3 0 c3) := by rw [addr_zero] at hx; exact hx
  rw [show endB [[]] = 7 from rfl]
  clear hx hxc
  go_wp2
  go_ret
  exact ⟨rfl, by (repeat (first | exact Below.refl _ _ | apply below_alloc | apply below_drew | apply pw_below_drewN | apply below_bytesWorld | (refine below_set ?_ (by first | assumption | omega)) | refine below_step ?_ (by assumption)))⟩

end Go.Proofs.Ytbbhjceelghadaa.My
