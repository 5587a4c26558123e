/- rows, heavy: walks. -/
import Derived.Test.YtbbhjceelghadaaFrameM
import Derived.Test.YtbbhjceelghadaaFrameQ
namespace Go.Proofs.Ytbbhjceelghadaa.My
open Go Go.RowKit Go.Proofs.YtbbhjceelghadaaW.PrintWords Go.Proofs.YtbbhjceelghadaaW.PrintMore Go.Proofs.YtbbhjceelghadaaW.PrintLast
attribute [local go_sem] max2_int min2_int max_two min_two

def endP (ls : List (List UInt8)) (k : Nat) : Nat := endB (ls.take k)
theorem endP_succ (ls : List (List UInt8)) (k : Nat) (h : k < ls.length) : endP ls (k + 1) = endP ls k + ((ls.getD k []).length + 7) := by
  unfold endP
  rw [take_succ_getD [] ls k h, endB_append, endB_cons]
  rfl
theorem endB_take_le (ls : List (List UInt8)) (k : Nat) : endP ls k ≤ endB ls := by
  unfold endP
  conv => rhs; rw [← List.take_append_drop k ls, endB_append]
  omega

set_option maxHeartbeats 2000000 in
theorem heavy_any (A : Option Addr) (c : Nat) (ls : List (List UInt8)) (w0 : World) (h : (Kd.slice 5 kb).C w0 A ls.length ls) (hc : ls.length ≤ c) (hs : (endB ls : Int) ≤ 100000000) :
    Calls Try.prog 24 #[.slice A ls.length c] w0 fun e w' => e = .returned (.bool (decide ((3000 : Int) < (endB ls : Int)))) ∧ Below w0.heap.size w0 w' := by
  have hm := C_max h
  have H := Aside0.mk h
  clear h
  go_enter Try.func24, Try.ntmps24
  go_wp2
  go_loop [3, 4] (fun s i => ∃ k : Nat, k ≤ ls.length ∧ i = .int .i64 (k : Int) ∧ s = .int .i64 (endP ls k : Int)) (fun _ i => ls.length - (intOf i).toNat)
  case atStart => exact ⟨0, Nat.zero_le _, rfl, rfl⟩
  case round =>
    obtain ⟨k, hk, rfl, rfl⟩ := hrel
    by_cases hlt : k < ls.length
    · obtain ⟨ad, A3, c3, rfl, hx, hxc, hxC⟩ := CC_at H.out k hlt
      have hsu := endP_succ ls k hlt
      have hle := endB_take_le ls (k + 1)
      have HSU := Aside0.mk (show (endP ls k : Int) + (((ls.getD k []).length : Int) + 7) = (endP ls (k + 1) : Int) from by omega)
      have hb2 : (endP ls k : Int) + (((ls.getD k []).length : Int) + 7) ≤ 100000000 := by omega
      have hk1 : (k : Int) < (ls.length : Int) := by omega
      generalize (ls.getD k []).length = m at hx hxc HSU hb2
      clear hsu hle hxC
      go_wp2
      go_round
      case rel => exact ⟨k + 1, by omega, by go_num, by rw [HSU.out]⟩
      case measure => simp [intOf]; omega
    · obtain rfl : k = ls.length := by omega
      have he : endP ls ls.length = endB ls := by unfold endP; rw [List.take_length]
      rw [he]
      clear he
      go_wp2
      go_ret
      exact ⟨rfl, Below.refl _ _⟩

def rowP (ls : List (List UInt8)) (k : Nat) : List UInt8 := rowsB (ls.take k)
theorem rowP_succ (ls : List (List UInt8)) (k : Nat) (h : k < ls.length) : rowP ls (k + 1) = rowP ls k ++ wrapB (ls.getD k []) := by
  unfold rowP
  rw [take_succ_getD [] ls k h]
  simp [rowsB]
theorem rowP_len (ls : List (List UInt8)) (k : Nat) : (rowP ls k).length ≤ endB ls := by
  unfold rowP
  rw [rowsB_len]
  exact endB_take_le ls k

set_option maxHeartbeats 2000000 in
theorem rows_any (A : Option Addr) (c : Nat) (ls : List (List UInt8)) (w0 : World) (h : (Kd.slice 5 kb).C w0 A ls.length ls) (hc : ls.length ≤ c) (hs : (endB ls : Int) ≤ 3000) :
    Calls Try.prog 25 #[.slice A ls.length c] w0 fun e w' => ∃ v, e = .returned v ∧ OB w' w0.heap.size v (rowsB ls) ∧ Below w0.heap.size w0 w' := by
  have hm := C_max h
  have H := Aside0.mk h
  clear h
  go_enter Try.func25, Try.ntmps25
  go_wp2
  go_loopw [3, 4] (fun v i wr => ∃ k : Nat, k ≤ ls.length ∧ i = .int .i64 (k : Int) ∧ Aside0 (OB wr w0.heap.size v (rowP ls k)) ∧ Aside0 (Below w0.heap.size w0 wr)) (fun _ i _ => ls.length - (intOf i).toNat)
  case atStart => exact ⟨0, Nat.zero_le _, rfl, ⟨OB.nil _ _⟩, ⟨Below.refl _ _⟩⟩
  case round =>
    obtain ⟨k, hk, rfl, HO, HB⟩ := hrel
    by_cases hlt : k < ls.length
    · obtain ⟨ad, A3, c3, rfl, hx, hxc, hxC⟩ := CC_at H.out k hlt
      have hx1 := bcell HB.out hx
      have hlx : (ls.getD k []).length ≤ 60000 := by
        have h1 := endP_succ ls k hlt
        have h2 := endB_take_le ls (k + 1)
        omega
      have HR := Aside0.mk (rowP_succ ls k hlt)
      have hle := rowP_len ls (k + 1)
      rw [HR.out, List.length_append] at hle
      obtain ⟨x, hx0⟩ : ∃ x, x = ls.getD k [] := ⟨_, rfl⟩
      rw [← hx0] at hx1 hxc hxC hlx HR hle
      have hHC := Aside0.mk (Kd.C_below hxC HB.out)
      have hk1 : (k : Int) < (ls.length : Int) := by omega
      have hB0 := HB.out
      have hleI : ((rowP ls k).length : Int) + ((wrapB x).length : Int) ≤ 3000 := by omega
      have HLE := Aside0.mk hleI
      clear hx hx0 hxC hle hleI
      go_wp2_with fail
      refine (refWrap_any A3 c3 x _ hHC.out hxc hlx).mono ?_
      rintro e w2 ⟨v2, rfl, ho2, hb2⟩
      obtain ⟨A2, c2, rfl, hc2, hC2⟩ := ho2.reads
      have HC2 := Aside0.mk hC2
      have HO2 := Aside0.mk (HO.out.below hb2)
      obtain ⟨y, hy⟩ : ∃ y, y = wrapB x := ⟨_, rfl⟩
      rw [← hy] at HC2 HR HLE hc2 ⊢
      obtain ⟨z, hz⟩ : ∃ z, z = rowP ls k := ⟨_, rfl⟩
      rw [← hz] at HO2 HR HLE
      have hzy : z.length + y.length ≤ 3000 := by have := HLE.out; omega
      clear ho2 hC2 hy hz HO hlx
      go_wp2_with (first | (at_builtin; refine Kd.R_append_rows kb (w0 := w0) w0.heap.size rfl (.tmp 21) (.tmp 22) 22 5 (.int .u8 0) 1 rfl Try.underlying22 info_u8' rfl (by decide) (by omega) _ z y _ _ _ (fun _ => True) (fun _ => False) rfl rfl HO2.out HC2.out (fun _ _ h => h) (fun _ h => h.elim) (fun _ _ => trivial) ?aB ?aS ?aL ?_; (case aB => (repeat (first | exact Below.refl _ _ | apply below_alloc | apply below_drew | apply pw_below_drewN | apply below_bytesWorld | (refine below_set ?_ (by first | assumption | omega)) | refine below_step ?_ (by assumption)))); (case aS => exact below_size (by (repeat (first | exact Below.refl _ _ | apply below_alloc | apply below_drew | apply pw_below_drewN | apply below_bytesWorld | (refine below_set ?_ (by first | assumption | omega)) | refine below_step ?_ (by assumption))))); (case aL => (try simp only [List.length_cons, List.length_nil]); omega); intro v1 w2 HO1 HB1 hg hat; have HO1' := Aside0.mk HO1; have HB1' := Aside0.mk HB1; clear HO1 HB1 hg hat) | fail)
      go_roundw
      case rel => exact ⟨k + 1, by omega, by go_num, ⟨by rw [HR.out]; exact HO1'.out⟩, HB1'⟩
      case measure => simp [intOf]; omega
    · obtain rfl : k = ls.length := by omega
      have he : rowP ls ls.length = rowsB ls := by unfold rowP; rw [List.take_length]
      rw [he] at HO
      go_wp2
      go_ret
      exact ⟨_, rfl, HO.out, HB.out⟩

end Go.Proofs.Ytbbhjceelghadaa.My
