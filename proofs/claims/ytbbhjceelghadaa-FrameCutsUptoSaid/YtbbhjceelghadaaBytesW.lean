/- Contracts of the library over bytes: Clone, Grow, Concat, Equal. -/
import Derived.Test.YtbbhjceelghadaaBase
import Derived.Test.YtbbhjceelghadaaWZeros
import Derived.Lib.SliceRun
namespace Go.Proofs.Ytbbhjceelghadaa.My
open Go Go.RowKit Go.Proofs.YtbbhjceelghadaaW.PrintWords

/-- A row of bytes that is new. -/
def OB (w : World) (base : Nat) (v : Value) (l : List UInt8) : Prop := kb.R 5 w base (fun _ => True) v l
theorem OB.below {w w' : World} {base : Nat} {v : Value} {l : List UInt8} (h : OB w base v l) (hb : Below w.heap.size w w') : OB w' base v l := Kd.R_below h hb
theorem OB.reads {w : World} {base : Nat} {v : Value} {l : List UInt8} (h : OB w base v l) : ∃ A c, v = .slice A l.length c ∧ l.length ≤ c ∧ kb.C w A l.length l := Kd.R_reads h
theorem OB.lower {w : World} {base base' : Nat} {v : Value} {l : List UInt8} (h : OB w base v l) (hb : base' ≤ base) : OB w base' v l := Kd.R_lower h hb
theorem OB.nil (w : World) (base : Nat) : OB w base (.slice none 0 0) [] := Kd.R_nil _ _ _ _ _
theorem info_u8' : (Try.prog.info? 5).map (fun i => (i.zero, i.size, i.bytes)) = some (some (.int .u8 0), kb.sz, 1) := by kernel_rfl
theorem OB.empty (w : World) : OB (w.alloc (.cells #[] 5)) w.heap.size (.slice (some ⟨w.heap.size, 0, none⟩) 0 0) [] := by
  refine Kd.R_of_own ?_ (fun _ _ => trivial)
  have h := World.ownsRow_lit (base := w.heap.size) (e := 5) (size := 1) w #[] 0 (Nat.le_refl _) (by simp) (by simp)
  simpa [encs] using h
theorem C_none {w : World} {n : Nat} {l : List UInt8} (h : kb.C w none n l) : l = [] ∧ n = 0 := by
  have h1 := h.1
  rcases Nat.eq_zero_or_pos n with h0 | h0
  · subst h0; exact ⟨List.length_eq_zero_iff.1 h1, rfl⟩
  · obtain ⟨ad, e, _⟩ := h.2.2 h0; cases e

set_option maxHeartbeats 1000000 in
theorem bclone_any (A : Option Addr) (c : Nat) (l : List UInt8) (w : World) (hr : kb.C w A l.length l) (hc : l.length ≤ c) (hs : l.length ≤ 140737488355327) :
    Calls Try.prog 36 #[.slice A l.length c] w fun e w' => ∃ v, e = .returned v ∧ OB w' w.heap.size v l ∧ Below w.heap.size w w' := by
  cases A with
  | none =>
    obtain ⟨rfl, _⟩ := C_none hr
    have hnil := fun (w : World) (a : Option Addr) (n c : Nat) => Lib.run_eql_slice_nil (P := Try.prog) w 22 5 a n c 0 0 Try.underlying22
    go_enter Try.func36, Try.ntmps36
    go_wp2
    go_ret
    exact ⟨_, rfl, OB.nil _ _, Below.refl _ _⟩
  | some ad =>
    have HL := Aside0.mk hr
    clear hr
    have hnil := fun (w : World) (a : Option Addr) (n c : Nat) => Lib.run_eql_slice_nil (P := Try.prog) w 22 5 a n c 0 0 Try.underlying22
    go_enter Try.func36, Try.ntmps36
    go_wp2_with (at_builtin; refine Kd.R_append_rows kb (w0 := w) w.heap.size rfl (.tmp 5) (.tmp 6) 22 5 (.int .u8 0) 1 rfl Try.underlying22 info_u8' rfl (by decide) (by omega) (.slice (some ⟨w.heap.size, 0, none⟩) 0 0) [] l _ _ _ (fun _ => True) (fun _ => False) rfl rfl (OB.empty w) ?aR (fun _ _ h => h) (fun _ h => h.elim) (fun _ _ => trivial) ?aB ?aS ?aL ?_; (case aR => exact Kd.C_below HL.out (by (repeat (first | exact Below.refl _ _ | apply below_alloc | apply below_drew | apply pw_below_drewN | apply below_bytesWorld | (refine below_set ?_ (by first | assumption | omega)) | refine below_step ?_ (by assumption))))); (case aB => (repeat (first | exact Below.refl _ _ | apply below_alloc | apply below_drew | apply pw_below_drewN | apply below_bytesWorld | (refine below_set ?_ (by first | assumption | omega)) | refine below_step ?_ (by assumption)))); (case aS => exact below_size (by (repeat (first | exact Below.refl _ _ | apply below_alloc | apply below_drew | apply pw_below_drewN | apply below_bytesWorld | (refine below_set ?_ (by first | assumption | omega)) | refine below_step ?_ (by assumption))))); (case aL => simp; omega); intro v1 w2 HO HB hg hat)
    go_ret
    exact ⟨_, rfl, HO, HB⟩

set_option maxHeartbeats 1000000 in
theorem sclone_any (A : Option Addr) (c : Nat) (l : List UInt8) (w : World) (hr : kb.C w A l.length l) (hc : l.length ≤ c) (hs : l.length ≤ 140737488355327) :
    Calls Try.prog 32 #[.slice A l.length c] w fun e w' => ∃ v, e = .returned v ∧ OB w' w.heap.size v l ∧ Below w.heap.size w w' := by
  cases A with
  | none =>
    obtain ⟨rfl, _⟩ := C_none hr
    have hnil := fun (w : World) (a : Option Addr) (n c : Nat) => Lib.run_eql_slice_nil (P := Try.prog) w 22 5 a n c 0 0 Try.underlying22
    go_enter Try.func32, Try.ntmps32
    go_wp2
    go_ret
    exact ⟨_, rfl, OB.nil _ _, Below.refl _ _⟩
  | some ad =>
    have HL := Aside0.mk hr
    clear hr
    have hnil := fun (w : World) (a : Option Addr) (n c : Nat) => Lib.run_eql_slice_nil (P := Try.prog) w 22 5 a n c 0 0 Try.underlying22
    go_enter Try.func32, Try.ntmps32
    go_wp2_with (at_builtin; refine Kd.R_append_rows kb (w0 := w) w.heap.size rfl (.tmp 5) (.tmp 6) 22 5 (.int .u8 0) 1 rfl Try.underlying22 info_u8' rfl (by decide) (by omega) (.slice (some ⟨w.heap.size, 0, none⟩) 0 0) [] l _ _ _ (fun _ => True) (fun _ => False) rfl rfl (OB.empty w) ?aR (fun _ _ h => h) (fun _ h => h.elim) (fun _ _ => trivial) ?aB ?aS ?aL ?_; (case aR => exact Kd.C_below HL.out (by (repeat (first | exact Below.refl _ _ | apply below_alloc | apply below_drew | apply pw_below_drewN | apply below_bytesWorld | (refine below_set ?_ (by first | assumption | omega)) | refine below_step ?_ (by assumption))))); (case aB => (repeat (first | exact Below.refl _ _ | apply below_alloc | apply below_drew | apply pw_below_drewN | apply below_bytesWorld | (refine below_set ?_ (by first | assumption | omega)) | refine below_step ?_ (by assumption)))); (case aS => exact below_size (by (repeat (first | exact Below.refl _ _ | apply below_alloc | apply below_drew | apply pw_below_drewN | apply below_bytesWorld | (refine below_set ?_ (by first | assumption | omega)) | refine below_step ?_ (by assumption))))); (case aL => simp; omega); intro v1 w2 HO HB hg hat)
    go_ret
    exact ⟨_, rfl, HO, HB⟩

set_option maxHeartbeats 1000000 in
theorem bequal_any (A A' : Option Addr) (c c' n n' : Nat) (l l' : List UInt8) (w : World) (hr : kb.C w A n l) (hr' : kb.C w A' n' l') :
    Calls Try.prog 35 #[.slice A n c, .slice A' n' c'] w fun e w' => e = .returned (.bool (l == l')) ∧ w' = w := by
  have h1 := conv_string (c := c) hr
  have h2 := conv_string (c := c') hr'
  have h3 := bs_toList l
  have h4 := bs_toList l'
  clear hr hr'
  go_enter Try.func35, Try.ntmps35
  go_wp2
  go_ret
  refine ⟨?_, rfl⟩
  rw [bs_list, bs_list]
  rfl

set_option maxHeartbeats 1000000 in
theorem bgrow_nil (n : Nat) (w : World) (hn : n ≤ 140737488355327) :
    Calls Try.prog 33 #[.slice none 0 0, .int .i64 (n : Int)] w fun e w' => ∃ v, e = .returned v ∧ OB w' w.heap.size v [] ∧ Below w.heap.size w w' := by
  have hn0 : ¬ (n : Int) < 0 := by omega
  by_cases h0 : (0 : Int) < n
  · go_enter Try.func33, Try.ntmps33
    go_wp2_with (at_builtin; refine Kd.R_append_zeros kb (w0 := w) w.heap.size rfl (.tmp 20) (.tmp 21) 22 3 5 (.int .u8 0) 1 rfl Try.underlying22 Try.underlying3 info_u8' rfl (by decide) (by omega) (.slice none 0 0) [] 0 (n : Int) (fun _ => True) rfl rfl rfl (fun _ _ => trivial) (Kd.R_nil _ _ _ _ _) (by omega) ?aB ?aS ?aL ?_; (case aB => (repeat (first | exact Below.refl _ _ | apply below_alloc | apply below_drew | apply pw_below_drewN | apply below_bytesWorld | (refine below_set ?_ (by first | assumption | omega)) | refine below_step ?_ (by assumption)))); (case aS => exact below_size (by (repeat (first | exact Below.refl _ _ | apply below_alloc | apply below_drew | apply pw_below_drewN | apply below_bytesWorld | (refine below_set ?_ (by first | assumption | omega)) | refine below_step ?_ (by assumption))))); (case aL => simp; omega); intro v1 w2 HO HB hg hat; rw [List.nil_append, Int.toNat_natCast] at HO; obtain ⟨g, cap, rfl, hlc, hgb, _, hfr, hC1⟩ := kb_form HO (by simp; omega); have HR := Aside0.mk HO; clear HO hg hat hfr hC1; rw [List.length_replicate] at HR hlc; rw [List.length_replicate])
    go_ret
    exact ⟨_, rfl, Kd.R_take (m := 0) HR.out (Nat.zero_le _), HB⟩
  · go_enter Try.func33, Try.ntmps33
    go_wp2_with fail
    go_ret
    exact ⟨_, rfl, OB.nil _ _, by (repeat (first | exact Below.refl _ _ | apply below_alloc | apply below_drew | apply pw_below_drewN | apply below_bytesWorld | (refine below_set ?_ (by first | assumption | omega)) | refine below_step ?_ (by assumption)))⟩

theorem flat_succ (l : List (List UInt8)) (k : Nat) (h : k < l.length) : (l.take (k + 1)).flatten = (l.take k).flatten ++ l.getD k [] := by
  rw [take_succ_getD [] l k h, List.flatten_append]
  simp
theorem flat_le (l : List (List UInt8)) (k : Nat) : (l.take k).flatten.length ≤ l.flatten.length := by
  conv => rhs; rw [← List.take_append_drop k l, List.flatten_append, List.length_append]
  omega

def flatLen (l : List (List UInt8)) : Nat := l.flatten.length

set_option maxHeartbeats 1000000 in
theorem bconcat_any (A : Option Addr) (c : Nat) (l : List (List UInt8)) (w : World) (hr : (Kd.slice 5 kb).C w A l.length l) (hs : l.flatten.length ≤ 140737488355327) :
    Calls Try.prog 28 #[.slice A l.length c] w fun e w' => ∃ v, e = .returned v ∧ OB w' w.heap.size v l.flatten ∧ Below w.heap.size w w' := by
  have hm := C_max hr
  have HR := Aside0.mk hr
  clear hr
  go_enter Try.func28, Try.ntmps28
  go_wp2
  go_loop [3, 11] (fun s i => ∃ k : Nat, k ≤ l.length ∧ i = .int .i64 k ∧ s = .int .i64 (flatLen (l.take k) : Int)) (fun _ i => l.length - (intOf i).toNat)
  case atStart => exact ⟨0, Nat.zero_le _, rfl, rfl⟩
  case round =>
    obtain ⟨k, hk, rfl, rfl⟩ := hrel
    by_cases hlt : k < l.length
    · obtain ⟨ad, A', c', rfl, hx, hxl, hxc⟩ := CC_at HR.out k hlt
      have hf := flat_succ l k hlt
      have hle := flat_le l (k + 1)
      have hadd : (flatLen (l.take k) : Int) + ((l.getD k []).length : Int) = (flatLen (l.take (k + 1)) : Int) := by unfold flatLen; rw [hf, List.length_append]; omega
      have hb1 : ((flatLen (l.take k) : Int) + ((l.getD k []).length : Int)) ≤ 140737488355327 := by rw [hadd]; unfold flatLen; omega
      have HADD := Aside0.mk hadd
      clear hf hle hadd hxl hxc
      generalize (l.getD k []).length = m at hx hb1 HADD
      have hb0 : ¬ (flatLen (l.take k) : Int) + (m : Int) < 0 := by omega
      generalize flatLen (l.take k) = q at hb1 HADD hb0
      go_wp2
      go_round
      case rel => exact ⟨k + 1, by omega, by go_num, by rw [HADD.out]⟩
      case measure => simp [intOf]; omega
    · obtain rfl : k = l.length := by omega
      simp only [List.take_length]
      go_wp2_with fail
      refine (bgrow_nil (flatLen l) _ hs).mono ?_
      rintro e w1 ⟨v0, rfl, HO0, hb1⟩
      have HO0' := Aside0.mk HO0
      clear HO0
      go_wp2
      go_loopw [6, 27] (fun v i wr => ∃ k : Nat, k ≤ l.length ∧ i = .int .i64 k ∧ Aside0 (OB wr w.heap.size v (l.take k).flatten) ∧ Aside0 (Below w.heap.size w wr)) (fun _ i _ => l.length - (intOf i).toNat)
      case atStart => exact ⟨0, Nat.zero_le _, rfl, HO0', ⟨hb1⟩⟩
      case round =>
        obtain ⟨k, hk, rfl, HO, HB⟩ := hrel
        by_cases hlt : k < l.length
        · obtain ⟨ad, A', c', rfl, hx, hxl, hxc⟩ := CC_at HR.out k hlt
          have hx' := bcell HB.out hx
          have HX := Aside0.mk (Kd.C_below hxc HB.out)
          have HF := Aside0.mk (flat_succ l k hlt)
          have hle : (l.take k).flatten.length + (l.getD k []).length ≤ 140737488355327 := by have := flat_le l (k + 1); rw [HF.out, List.length_append] at this; omega
          clear hx hxl hxc
          obtain ⟨x, hxe⟩ : ∃ x, x = l.getD k [] := ⟨_, rfl⟩
          rw [← hxe] at hx' HX HF hle
          clear hxe
          go_wp2_with (at_builtin; refine Kd.R_append_rows kb (w0 := w) w.heap.size rfl (.tmp 31) (.tmp 32) 22 5 (.int .u8 0) 1 rfl Try.underlying22 info_u8' rfl (by decide) (by omega) _ _ x _ _ _ (fun _ => True) (fun _ => False) rfl rfl HO.out HX.out (fun _ _ h => h) (fun _ h => h.elim) (fun _ _ => trivial) HB.out HB.out.size (by omega) ?_; intro v1 w2 HO1 HB1 hg hat; have HO1' := Aside0.mk HO1; have HB1' := Aside0.mk HB1; clear HO1 HB1 hg hat)
          go_roundw
          case rel => exact ⟨k + 1, by omega, by go_num, ⟨by rw [HF.out]; exact HO1'.out⟩, HB1'⟩
          case measure => simp [intOf]; omega
        · obtain rfl : k = l.length := by omega
          have HO2 := HO.out
          rw [List.take_length] at HO2
          have HO2' := Aside0.mk HO2
          clear HO2
          go_wp2
          go_ret
          exact ⟨_, rfl, HO2'.out, HB.out⟩

end Go.Proofs.Ytbbhjceelghadaa.My
