/- FrameCuts: walk. -/
import Derived.Test.YtbbhjceelghadaaFrameV
import Derived.Test.YtbbhjceelghadaaFrameO
namespace Go.Proofs.Ytbbhjceelghadaa.My
open Go Go.RowKit Go.Proofs.YtbbhjceelghadaaW.PrintWords Go.Proofs.YtbbhjceelghadaaW.PrintMore Go.Proofs.YtbbhjceelghadaaW.PrintLast
attribute [local go_sem] max2_int min2_int max_two min_two

theorem info_rows : (Try.prog.info? 22).map (·.size) = some 1 := by kernel_rfl
theorem cut_rows_h (A : Option Addr) (n c hi : Nat) (hiI : Int) (e1 : hiI = hi) (h1 : hi ≤ n) (hc : n ≤ c) :
    ∀ W : World, (Instr.slice 36 (.slice A n c) none (some (.int .i64 hiI)) none).run Try.prog W = .ok (.slice A hi c) W := by
  subst e1
  intro W
  obtain ⟨i, hi0, hsz⟩ := Option.map_eq_some_iff.1 info_rows
  have hel : Try.prog.elem 36 = 22 := by simp [Program.elem, Try.underlying36]
  have hu : Try.prog.underlying 36 = some (.slice (Try.prog.elem 36)) := by rw [hel]; exact Try.underlying36
  rw [run_slice_h W 36 A n c hu .i64 (hi : Int) (Int.natCast_nonneg _) (by omega), hel]
  simp [sizeOf, typeInfo, hi0, hsz, sliced, Result.andThen]
  intro _
  cases A with
  | none => rfl
  | some a => simp [Addr.add]
theorem rows_n (A : Option Addr) (c n : Nat) (ls : List (List UInt8)) (w0 : World) (h : (Kd.slice 5 kb).C w0 A n ls) (hc : n ≤ c) (hs : (endB ls : Int) ≤ 3000) :
    Calls Try.prog 25 #[.slice A n c] w0 fun e w' => ∃ v, e = .returned v ∧ OB w' w0.heap.size v (rowsB ls) ∧ Below w0.heap.size w0 w' := by
  have h' := h.1
  subst h'
  exact rows_any A c ls w0 h hc hs

set_option maxRecDepth 20000 in
set_option maxHeartbeats 2000000 in
theorem frameCuts_walk (A : Option Addr) (c : Nat) (ls : List (List UInt8)) (i : Int) (w0 : World) (h : (Kd.slice 5 kb).C w0 A ls.length ls) (hc : ls.length ≤ c) (hi : -9223372036854775808 ≤ i ∧ i ≤ 9223372036854775807) (hs : (endB ls : Int) ≤ 100000000) :
    Calls Try.prog 12 #[.slice A ls.length c, .int .i64 i] w0 fun e w' => e = .returned (.bool true) ∧ Below w0.heap.size w0 w' := by
  have H := Aside0.mk h
  clear h
  by_cases hh : (3000 : Int) < (endB ls : Int)
  · go_enter Try.func12, Try.ntmps12
    go_wp2_with fail
    refine (heavy_any A c ls _ H.out hc hs).mono ?_; rintro e w1 ⟨rfl, hb1⟩
    go_wp2_with ((go_at_call 18; refine (known9 _).mono ?_; rintro e_ w_ ⟨rfl, hb_⟩))
    go_ret
    exact ⟨rfl, by (repeat (first | exact Below.refl _ _ | apply below_alloc | apply below_drew | apply pw_below_drewN | apply below_bytesWorld | (refine below_set ?_ (by first | assumption | omega)) | refine below_step ?_ (by assumption)))⟩
  · have hee : (endB ls : Int) ≤ 3000 := by omega
    have hall : ∀ x ∈ ls, x.length ≤ 60000 := fun x hx => by have := end_mem ls x hx; omega
    have hrl := rowsB_len ls
    have hk0 : decide ((3000 : Int) < (endB ls : Int)) = false := by simp; omega
    obtain ⟨i0, hi0⟩ : ∃ i0 : Nat, (if i < 0 then (0 : Int) else i) = (i0 : Int) := by
      by_cases h : i < 0
      · exact ⟨0, by rw [if_pos h]; rfl⟩
      · exact ⟨i.toNat, by rw [if_neg h]; omega⟩
    obtain ⟨n, hn0, hnl⟩ : ∃ n : Nat, (i0 : Int) % (((rowsB ls).length : Int) + 1) = (n : Int) ∧ n ≤ (rowsB ls).length := ⟨i0 % ((rowsB ls).length + 1), by rw [show (((rowsB ls).length : Int) + 1) = (((rowsB ls).length + 1 : Nat) : Int) from by omega]; exact (Int.natCast_emod i0 _).symm, by have := Nat.mod_lt i0 (show 0 < (rowsB ls).length + 1 from Nat.succ_pos _); omega⟩
    obtain ⟨j, hj, hsj, hfull⟩ := cut_rows ls hall n
    have hend := end_le ((rowsB ls).take n)
    rw [hsj, List.length_take, Nat.min_eq_left hnl] at hend
    obtain ⟨s, hs0⟩ : ∃ z, z = ls.take j := ⟨_, rfl⟩
    have hsl : s.length = j := by rw [hs0, List.length_take]; omega
    rw [← hs0] at hsj hend
    have hends : (endB s : Int) ≤ 3000 := by rw [hs0]; have := endB_take_le ls j; unfold endP at this; omega
    have HSL := Aside0.mk hs0
    have HSJ := Aside0.mk hsj
    have hrls := rowsB_len s
    have hCs : ∀ w, Below w0.heap.size w0 w → (Kd.slice 5 kb).C w A s.length s := fun w hb => by
      have h1 := Kd.C_take (Kd.C_below H.out hb) hj
      rw [← HSL.out] at h1
      exact h1
    have hfin : ((n : Int) < ((rowsB ls).length : Int)) ∨ ((s.length : Int) = (ls.length : Int)) := by
      by_cases h : n < (rowsB ls).length
      · exact .inl (by omega)
      · exact .inr (by rw [hsl, hfull (by omega)])
    have hsle : (s.length : Int) ≤ (ls.length : Int) := by omega
    have hcuts := cut_rows_h A ls.length c s.length (s.length : Int) rfl (by omega) hc
    have hsc : s.length ≤ c := by omega
    obtain ⟨q, hq⟩ : ∃ z, z = rowsB ls := ⟨_, rfl⟩
    rw [← hq] at hrl hn0 hnl HSJ hfin
    obtain ⟨t, ht⟩ : ∃ z, z = rowsB s := ⟨_, rfl⟩
    rw [← ht] at hrls
    have HQ := Aside0.mk hq
    have HT := Aside0.mk ht
    have HRLS := Aside0.mk hrls
    have hqm : (q.length : Int) ≤ 3000 := by omega
    have hnq : (n : Int) ≤ (q.length : Int) := by omega
    have hnm : (n : Int) ≤ 1000000 := by omega
    have htn : (t.length : Int) ≤ (n : Int) := by omega
    have hne0 : ¬ ((q.length : Int) + 1 = 0) := by omega
    clear hh hrl hall hfull hend hs0 hsl hsj hq ht hrls hi hj
    go_enter Try.func12, Try.ntmps12
    go_wp2_with fail
    refine (heavy_any A c ls _ H.out hc hs).mono ?_; rintro e w1 ⟨rfl, hb1⟩
    rw [hk0]
    clear hk0
    go_wp2_with fail
    refine (known9 _).mono ?_; rintro e w2 ⟨rfl, hb2⟩
    go_wp2_with fail
    refine (rows_any A c ls _ (Kd.C_below H.out (below_step hb1 hb2)) hc hee).mono ?_
    rintro e w3 ⟨v3, rfl, ho3, hb3⟩
    rw [← HQ.out] at ho3
    obtain ⟨Aq, cq, rfl, hcq, hC3⟩ := ho3.reads
    have HC3 := Aside0.mk hC3
    have hB3 := below_step (below_step hb1 hb2) hb3
    have hcut := cut_h Aq q.length cq n (n : Int) rfl hnl hcq
    have HCn := Aside0.mk (C_take_n HC3.out n hnl)
    have hncq : n ≤ cq := Nat.le_trans hnl hcq
    clear ho3 hC3 hb1 hb2 hb3
    go_wp2_with fail
    rw [hn0]
    clear hn0 hi0 hcut
    refine (scan_n Aq cq n _ _ HCn.out hncq hnm).mono ?_
    rintro e w4 ⟨v4, rfl, ho4, hb4⟩
    rw [HSJ.out] at ho4 ⊢
    rw [← HRLS.out]
    obtain ⟨A4, c4, rfl, hc4, hC4⟩ := ho4.reads
    have HC4 := Aside0.mk hC4
    have hB4 := below_step hB3 hb4
    have e1 : (s == s) = true := by rw [beq_iff_eq]
    clear ho4 hC4 hb4 hB3
    go_wp2_with fail
    refine (same_any A4 A c4 c s s _ HC4.out (hCs _ hB4) hc4 hsc).mono ?_
    rintro e w5 ⟨rfl, hb5⟩
    rw [e1]
    have hB5 := below_step hB4 hb5
    go_wp2_with fail
    refine (rows_any A c s _ (hCs _ hB5) hsc hends).mono ?_
    rintro e w6 ⟨v6, rfl, ho6, hb6⟩
    rw [← HT.out] at ho6
    obtain ⟨A6, c6, rfl, hc6, hC6⟩ := ho6.reads
    have hB6 := below_step hB5 hb6
    clear ho6 hC6
    rcases hfin with hf | hf
    · go_wp2
      go_ret
      exact ⟨rfl, hB6⟩
    · have hf2 : ((s.length : Int) == (ls.length : Int)) = true := by rw [beq_iff_eq]; exact hf
      clear hf
      go_wp2
      all_goals go_ret
      all_goals exact ⟨rfl, hB6⟩

end Go.Proofs.Ytbbhjceelghadaa.My
