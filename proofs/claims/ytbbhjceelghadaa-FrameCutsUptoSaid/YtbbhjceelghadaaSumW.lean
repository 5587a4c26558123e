/- The walk of sum.Sum: it comes to the plain sum of the bytes. -/
import Derived.Test.YtbbhjceelghadaaBase
import Derived.Test.YtbbhjceelghadaaAdler
namespace Go.Proofs.Ytbbhjceelghadaa.My
open Go Go.RowKit Go.Proofs.YtbbhjceelghadaaW.PrintWords

/-- The pair's block. -/
def PairAt (w : World) (b : Nat) (s : Nat × Nat) : Prop := w.heap[b]? = some (.cells #[.int .u32 (s.1 : Int), .int .u32 (s.2 : Int)] 47 (0, 0))

set_option maxHeartbeats 1000000 in
theorem add_int (b : Nat) (l h c : Int) (w : World) (hl0 : 0 ≤ l) (hl : l < 65521) (hh0 : 0 ≤ h) (hh : h < 65521) (hc0 : 0 ≤ c) (hc : c < 256)
    (hb : w.heap[b]? = some (.cells #[.int .u32 l, .int .u32 h] 47 (0, 0))) :
    Calls Try.prog 26 #[.pointer (some ⟨b, 0, none⟩), .int .u8 c] w fun e w' => e = .returned (.tuple #[]) ∧
      w'.heap[b]? = some (.cells #[.int .u32 ((l + c) % 65521), .int .u32 ((h + (l + c) % 65521) % 65521)] 47 (0, 0)) ∧ Only b w w' := by
  have c0 : w.cell? ⟨b, 0, none⟩ = some (.int .u32 l) := by simp [World.cell?, hb]
  have c1 : w.cell? ⟨b, 1, none⟩ = some (.int .u32 h) := by simp [World.cell?, hb]
  have f0 : w.frozen? ⟨b, 0, none⟩ = false := by simp [World.frozen?, hb]
  have f1 : w.frozen? ⟨b, 1, none⟩ = false := by simp [World.frozen?, hb]
  have HB := Lib.hid hb
  clear hb
  go_enter Try.func26, Try.ntmps26
  go_wp2
  all_goals (go_region; go_wp2)
  all_goals go_end0
  all_goals
    refine ⟨rfl, ?_, ?_⟩
    · have hb := HB.out
      simp only [World.drew, World.setCell, Array.getElem?_modify, hb]
      simp
      refine ⟨?_, ?_⟩ <;> omega
    · repeat (first | exact Only.refl _ _ | apply Only.drew | apply Only.set)

theorem add_any (b : Nat) (s : Nat × Nat) (c : UInt8) (w : World) (hf : Fine s) (hb : PairAt w b s) :
    Calls Try.prog 26 #[.pointer (some ⟨b, 0, none⟩), .int .u8 (c.toNat : Int)] w fun e w' => e = .returned (.tuple #[]) ∧ PairAt w' b (adStep s c) ∧ Only b w w' := by
  have hc := c.toNat_lt
  refine (add_int b s.1 s.2 c.toNat w (by omega) (by have := hf.1; omega) (by omega) (by have := hf.2; omega) (by omega) (by omega) hb).mono ?_
  rintro e w' ⟨he, h, ho⟩
  refine ⟨he, ?_, ho⟩
  unfold PairAt adStep
  simp only
  rw [h]
  have e1 : ((s.1 : Int) + c.toNat) % 65521 = (((s.1 + c.toNat) % 65521 : Nat) : Int) := by omega
  rw [e1]
  have e2 : ((s.2 : Int) + (((s.1 + c.toNat) % 65521 : Nat) : Int)) % 65521 = (((s.2 + (s.1 + c.toNat) % 65521) % 65521 : Nat) : Int) := by omega
  rw [e2]

theorem or_sum (s : Nat × Nat) (h : Fine s) : bits .or .u32 ((s.2 : Int) * 65536 % 4294967296) (s.1 : Int) = (sumOf s : Int) := by
  obtain ⟨h1, h2⟩ := h
  have e : (s.2 : Int) * 65536 % 4294967296 = ((s.2 * 65536 : Nat) : Int) := by omega
  rw [e, u32_or_nat _ _ (by omega) (by omega)]
  have := Nat.shiftLeft_add_eq_or_of_lt (b := s.1) (i := 16) (by omega) s.2
  rw [Nat.shiftLeft_eq] at this
  unfold sumOf
  rw [← this]
theorem pair_new (w : World) : PairAt (w.alloc (.cells #[.int .u32 1, .int .u32 0] 47)) w.heap.size (adls (1, 0) (List.take 0 [])) := by
  show (w.heap.push _)[w.heap.size]? = _
  simp [adls]
theorem pair_cells {w : World} {b : Nat} {s : Nat × Nat} (h : PairAt w b s) : w.cell? ⟨b, 0, none⟩ = some (.int .u32 (s.1 : Int)) ∧ w.cell? ⟨b, 1, none⟩ = some (.int .u32 (s.2 : Int)) := by
  unfold PairAt at h
  exact ⟨by simp [World.cell?, h], by simp [World.cell?, h]⟩

set_option maxHeartbeats 1000000 in
theorem sum_any (A : Option Addr) (c : Nat) (l : List (List UInt8)) (w : World) (hr : (Kd.slice 5 kb).C w A l.length l) :
    Calls Try.prog 16 #[.slice A l.length c] w fun e w' => e = .returned (.int .u32 (sumN l : Int)) ∧ Below w.heap.size w w' := by
  have hm := C_max hr
  have HR := Aside0.mk hr
  clear hr
  go_enter Try.func16, Try.ntmps16
  go_wp2
  go_loopw [13] (fun i wr => ∃ k : Nat, k ≤ l.length ∧ i = .int .i64 k ∧ Aside0 (PairAt wr w.heap.size (adls (1, 0) (l.take k))) ∧ Aside0 (Below w.heap.size w wr)) (fun i _ => l.length - (intOf i).toNat)
  case atStart => exact ⟨0, Nat.zero_le _, rfl, ⟨pair_new w⟩, ⟨below_alloc (Below.refl _ _) _⟩⟩
  case round =>
    obtain ⟨k, hk, rfl, HP, HB⟩ := hrel
    by_cases hlt : k < l.length
    · obtain ⟨ad, A', c', rfl, hx, hxl, hxc⟩ := CC_at HR.out k hlt
      have hx' := bcell HB.out hx
      clear hx hxl
      have hts := Aside0.mk (take_succ_getD [] l k hlt)
      have hxm := C_max hxc
      have HX := Aside0.mk hxc
      clear hxc
      obtain ⟨x, hxe⟩ : ∃ x, x = l.getD k [] := ⟨_, rfl⟩
      rw [← hxe] at hx' HX hts hxm
      clear hxe
      obtain ⟨wo, rfl⟩ : ∃ wo : World, wo = wr := ⟨_, rfl⟩
      go_wp2
      go_loopw [19] (fun j wi => ∃ m : Nat, m ≤ x.length ∧ j = .int .i64 m ∧ Aside0 (PairAt wi w.heap.size (adl (adls (1, 0) (l.take k)) (x.take m))) ∧ Aside0 (Below w.heap.size w wi)) (fun j _ => x.length - (intOf j).toNat)
      case atStart => exact ⟨0, Nat.zero_le _, rfl, HP, HB⟩
      case round =>
        obtain ⟨m, hmx, rfl, HPm, HBm⟩ := hrel
        by_cases hml : m < x.length
        · obtain ⟨ad2, rfl, hb0⟩ := C_at HX.out m hml
          have hb1 := bcell HBm.out hb0
          clear hb0
          have hts2 := Aside0.mk (take_succ_getD 0 x m hml)
          have hfine := Aside0.mk (fine_adl (fine_adls fine_start (l.take k)) (x.take m))
          generalize x.getD m 0 = cb at hb1 hts2
          go_wp2_with (go_at_call 26; refine (add_any _ _ cb _ hfine.out HPm.out).mono ?_; rintro e w1 ⟨rfl, hp1, ho1⟩; have HP1 := Aside0.mk hp1; have HO1 := Aside0.mk ho1; clear hp1 ho1)
          go_roundw
          case rel => exact ⟨m + 1, by omega, by go_num, ⟨by rw [hts2.out, adl_snoc]; exact HP1.out⟩, ⟨HO1.out.below (Nat.le_refl _) HBm.out⟩⟩
          case measure => simp [intOf]; omega
        · obtain rfl : m = x.length := by omega
          have HPx := HPm.out
          rw [List.take_length] at HPx
          have HPx' := Aside0.mk HPx
          clear HPx
          go_wp2
          go_roundw
          case rel => exact ⟨k + 1, by omega, by go_num, ⟨by rw [hts.out, adls_snoc]; exact HPx'.out⟩, HBm⟩
          case measure => simp [intOf]; omega
    · obtain rfl : k = l.length := by omega
      obtain ⟨hp0, hp1⟩ := pair_cells HP.out
      go_wp2
      go_ret
      refine ⟨?_, HB.out⟩
      rw [or_sum _ (fine_adls fine_start l)]
      rfl

/-- Called with a row of slices that is a block known whole. -/
theorem sum_blk {b e : Nat} {fz : Nat × Nat} {cells : Array Value} {W : World} {n c : Nat} (ls : List (List UInt8)) (hb : W.heap[b]? = some (.cells cells e fz)) (hn : n = ls.length) (hm : ls.length ≤ 9223372036854775807) (hc : Cs W cells.toList ls) :
    Calls Try.prog 16 #[.slice (some ⟨b, 0, none⟩) n c] W fun e w' => e = .returned (.int .u32 (sumN ls : Int)) ∧ Below W.heap.size W w' := by
  subst hn
  exact sum_any _ _ ls W (CC_blk hb rfl hm hc)

end Go.Proofs.Ytbbhjceelghadaa.My
