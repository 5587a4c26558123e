/- Parts of the proof, one behind the other: DiskT. -/
import Derived.Test.YtbbhjceelghadaaDoorQDiskHalts2
set_option linter.unusedVariables false
set_option linter.unusedSimpArgs false
section
-- from DiskT
namespace Go.Proofs.YtbbhjceelghadaaDoor.K
open Go Go.RowKit Go.Proofs.YtbbhjceelghadaaDoorW.PrintWords Go.Proofs.YtbbhjceelghadaaDoorW.PrintLast Go.Proofs.YtbbhjceelghadaaDoorW.PrintMore Go.Proofs.YtbbhjceelghadaaDoor.My
attribute [local go_sem] max2_mx min2_mn max_two min_two
theorem Two.one {w0 w : World} {b : Nat} {row : Option Nat} {r : Nat} {rr : Option Nat} {d : DM} (h : Two w0 w b row r rr d) : One w0 w b row d := ⟨h.dd, h.blk, fun k e => (h.row k e).1, h.bel⟩
theorem halted_app {d : DM} (h : d.left = 0) (l : List UInt8) : d.app l = d ∧ d.appE l = 100 := ⟨if_pos h, if_pos h⟩
theorem halted_sync {d : DM} (h : d.left = 0) : d.sync = d ∧ d.syncE = 100 := ⟨if_pos h, if_pos h⟩
theorem halted_cut {d : DM} (h : d.left = 0) (n : Int) : d.cut n = d ∧ d.cutE n = 100 := ⟨if_pos h, if_pos h⟩
theorem crash_nil {d : DM} (h : d.ok) : (d.crash 0).appE [] = 0 ∧ (d.crash 0).left = -1 := by
  have hc := (DM.crash_ok h 0).fit
  refine ⟨?_, rfl⟩
  unfold DM.appE
  rw [if_neg (show ¬ (d.crash 0).left = 0 by show ¬ (-1 : Int) = 0; omega), if_neg]
  unfold DM.full
  simp only [List.length_nil]
  omega
set_option maxRecDepth 20000 in
set_option maxHeartbeats 6400000 in
theorem diskHalts_walk (F : Option Addr) (cf : Nat) (lf : List SOp) (A : Option Addr) (c : Nat) (l : List SOp) (w0 : World) (hf : kOp.C w0 F lf.length lf) (hcf : lf.length ≤ cf) (hokf : lf.length ≤ 140737488351232 ∧ ∀ x ∈ lf, OpS x) (h : kOp.C w0 A l.length l) (hc : l.length ≤ c) (hok : l.length ≤ 140737488351232 ∧ ∀ x ∈ l, OpS x) :
    Calls Tryd.prog 8 #[.slice F lf.length cf, .slice A l.length c] w0 fun e w' => e = .returned (.bool true) ∧ Below w0.heap.size w0 w' := by
  have hhf := heavy_any F cf lf w0 hf hokf.1 hokf.2
  have hhe := heavy_any A c l w0 h hok.1 hok.2
  have H := Aside0.mk h
  have HF := Aside0.mk hf
  have HOK := Aside0.mk hok.2
  have HOF := Aside0.mk hokf.2
  clear h hok hf hokf
  obtain ⟨hv, hhvB⟩ : ∃ hv, hv = hvB l := ⟨_, rfl⟩
  rw [← hhvB] at hhe
  obtain ⟨hg, hhgB⟩ : ∃ hg, hg = hvB lf := ⟨_, rfl⟩
  rw [← hhgB] at hhf
  cases hg
  · cases hv
    · obtain ⟨hl100, hn5⟩ := hvB_not hhvB.symm
      have HBL := Aside0.mk (fun x hx => Nat.le_trans (mem_hv l x hx) hn5)
      have hl32 : (l.length : Int) ≤ 100 := by omega
      obtain ⟨hf100, hf5⟩ := hvB_not hhgB.symm
      have HBF := Aside0.mk (fun x hx => Nat.le_trans (mem_hv lf x hx) hf5)
      have hf32 : (lf.length : Int) ≤ 100 := by omega
      clear hhvB hl100 hn5 hhgB hf100 hf5
      go_enter Tryd.func8, Tryd.ntmps8
      go_wp2_with fail
      refine hhf.mono ?_
      rintro e w' ⟨rfl, rfl⟩
      clear hhf
      go_wp2_with fail
      refine hhe.mono ?_
      rintro e w'' ⟨rfl, rfl⟩
      clear hhe
      go_wp2_with fail
      refine (known10 _).mono ?_
      rintro e w1 ⟨rfl, hb1⟩
      have HB1 := Aside0.mk hb1
      clear hb1
      go_wp2_with fail
      refine (m_new 6000 w1 (by omega)).mono ?_
      rintro e w2 ⟨rfl, hd2, hb2⟩
      have HD2 := Aside0.mk hd2
      have HB2 := Aside0.mk hb2
      clear hd2 hb2
      go_wp2_with fail
      refine (r_new 6000 w2 (by omega)).mono ?_
      rintro e w3 ⟨rfl, hr3, hb3⟩
      have hT := two_new HB1.out HD2.out HB2.out hr3 hb3
      obtain ⟨b, hb⟩ : ∃ b, b = w1.heap.size := ⟨_, rfl⟩
      obtain ⟨r, hr⟩ : ∃ r, r = w2.heap.size := ⟨_, rfl⟩
      rw [← hb, ← hr] at hT
      rw [← hb, ← hr]
      have HA := Aside0.mk (show At w'' w3 b r from ⟨_, _, _, hT⟩)
      clear hr3 hb3 hT hb hr HD2 HB2
      go_wp2
      go_loopw [7] (fun i wr => ∃ k : Nat, k ≤ lf.length ∧ i = .int .i64 k ∧ At w'' wr b r) (fun i _ => lf.length - (intOf i).toNat)
      case atStart => exact ⟨0, Nat.zero_le _, rfl, HA.out⟩
      case round =>
        obtain ⟨k, hk, rfl, row, rr, d, hT⟩ := hrel
        have HT := Aside0.mk hT
        clear hT HA
        by_cases hlt : k < lf.length
        · obtain ⟨ad, A1, c1, rfl, h1, h2, h3, _, hC1⟩ := op_at HF.out k hlt
          obtain ⟨x, hx⟩ : ∃ x, x = lf.getD k default := ⟨_, rfl⟩
          have hmem : x ∈ lf := by rw [hx, List.getD_eq_getElem?_getD, List.getElem?_eq_getElem hlt]; exact List.getElem_mem hlt
          rw [← hx] at h1 h2 h3 hC1
          have g1 := bcell HT.out.bel h1
          have g2 := bcell HT.out.bel h2
          have g3 := bcell HT.out.bel h3
          have hdo := does_any (c := c1) x.k x.n HT.out hC1 (by have := HBF.out x hmem; omega) (HOF.out x hmem).1.1.1 (HOF.out x hmem).1.1.2 (HOF.out x hmem).1.2.2
          clear h1 h2 h3 hC1 hmem hx
          go_wp2_with fail
          refine hdo.mono ?_
          rintro e w4 ⟨rfl, row4, rr4, h4⟩
          have H4 := Aside0.mk h4
          clear hdo g1 g2 g3 h4
          go_wp2
          go_roundw
          case rel => exact ⟨k + 1, by omega, by go_num, row4, rr4, _, H4.out⟩
          case measure => simp [intOf]; omega
        · go_wp2_with fail
          refine (m_halt 0 (by omega) HT.out.dd).mono ?_
          rintro e w4 hp
          obtain ⟨rfl, row4, h4⟩ := HT.out.one.dp hp
          obtain ⟨d4, hd4⟩ : ∃ d4, d4 = d.halt 0 := ⟨_, rfl⟩
          rw [← hd4] at h4
          have hz : d4.left = 0 := by rw [hd4]; rfl
          have HZ := Aside0.mk hz
          have H4 := Aside0.mk h4
          clear hp h4 hd4 hz
          go_wp2_with fail
          refine (m_read H4.out.dd).mono ?_
          rintro e w5 ⟨v, rfl, hv5, hb5⟩
          obtain ⟨A5, c5, rfl, _, hC5⟩ := hv5.reads
          obtain ⟨bl, hbl⟩ : ∃ bl, bl = d4.bs := ⟨_, rfl⟩
          rw [← hbl] at hC5 ⊢
          have HBB := Aside0.mk hbl
          have k5 : (convert 23 9 (.slice A5 bl.length c5)).run Tryd.prog w5 = .ok (.string (bs bl)) w5 := conv_string (c := c5) hC5
          obtain ⟨s, hs⟩ : ∃ s, s = bs bl := ⟨_, rfl⟩
          rw [← hs] at k5
          have HS := Aside0.mk hs
          have H5 := Aside0.mk (H4.out.below hb5)
          clear hv5 hb5 hC5 hbl hs
          go_wp2
          go_loopw [9] (fun i wr => ∃ j : Nat, j ≤ l.length ∧ i = .int .i64 j ∧ ∃ row, One w'' wr b row d4) (fun i _ => l.length - (intOf i).toNat)
          case atStart => exact ⟨0, Nat.zero_le _, rfl, row4, H5.out⟩
          case round =>
            obtain ⟨j, hj, rfl, row6, h6⟩ := hrel
            have H6 := Aside0.mk h6
            clear h6 hlt k5
            by_cases hlt : j < l.length
            · obtain ⟨ad, A1, c1, rfl, h1, h2, h3, _, hC1⟩ := op_at H.out j hlt
              obtain ⟨x, hx⟩ : ∃ x, x = l.getD j default := ⟨_, rfl⟩
              have hmem : x ∈ l := by rw [hx, List.getD_eq_getElem?_getD, List.getElem?_eq_getElem hlt]; exact List.getElem_mem hlt
              rw [← hx] at h1 h2 h3 hC1
              have hl5 := HBL.out x hmem
              have H3 := Aside0.mk h3
              have HC1 := Aside0.mk hC1
              have g2 := bcell H6.out.bel h2
              clear h1 h2 h3 hC1 hmem hx
              go_wp2_with fail
              refine (m_append_in (c := c1) H6.out HC1.out (by omega)).mono ?_
              rintro e w7 ⟨rfl, row7, h7⟩
              rw [(halted_app HZ.out _).1] at h7
              rw [(halted_app HZ.out _).2]
              have H7 := Aside0.mk h7
              clear h7 g2
              go_wp2_with fail
              refine (m_sync H7.out.dd).mono ?_
              rintro e w8 hp
              obtain ⟨rfl, row8, h8⟩ := H7.out.dp hp
              rw [(halted_sync HZ.out).1] at h8
              rw [(halted_sync HZ.out).2]
              have H8 := Aside0.mk h8
              have g3 := bcell H8.out.bel H3.out
              clear h8 hp
              go_wp2_with fail
              refine (m_cut x.n H8.out.dd).mono ?_
              rintro e w9 hp
              obtain ⟨rfl, row9, h9⟩ := H8.out.dp hp
              rw [(halted_cut HZ.out _).1] at h9
              rw [(halted_cut HZ.out _).2]
              have H9 := Aside0.mk h9
              clear h9 hp g3
              go_wp2_with fail
              refine (m_halted H9.out.dd).mono ?_
              rintro e w10 ⟨rfl, rfl⟩
              rw [show decide (d4.left = 0) = true from by simp [HZ.out]]
              go_wp2
              go_roundw
              case rel => exact ⟨j + 1, by omega, by go_num, row9, H9.out⟩
              case measure => simp [intOf]; omega
            · go_wp2_with fail
              refine (m_read H6.out.dd).mono ?_
              rintro e w7 ⟨v, rfl, hv7, hb7⟩
              obtain ⟨A7, c7, rfl, _, hC7⟩ := hv7.reads
              rw [← HBB.out] at hC7 ⊢
              have k7 : (convert 23 9 (.slice A7 bl.length c7)).run Tryd.prog w7 = .ok (.string s) w7 := by rw [HS.out]; exact conv_string (c := c7) hC7
              have H7 := Aside0.mk (H6.out.below hb7)
              clear hv7 hb7 hC7
              go_wp2_with fail
              refine (m_crash 0 H7.out.dd).mono ?_
              rintro e w8 hp
              obtain ⟨rfl, row8, h8⟩ := H7.out.dp hp
              have hcn := Aside0.mk (crash_nil H7.out.dd.2)
              obtain ⟨d8, hd8⟩ : ∃ d8, d8 = d4.crash 0 := ⟨_, rfl⟩
              rw [← hd8] at h8 hcn
              have H8 := Aside0.mk h8
              clear hp h8 k7 hd8
              go_wp2_with fail
              refine (m_halted H8.out.dd).mono ?_
              rintro e w9 ⟨rfl, rfl⟩
              rw [show decide (d8.left = 0) = false from by simp [hcn.out.2]]
              go_wp2_with fail
              refine (m_append_in (A := none) (l := []) (c := 0) H8.out (C_nil0 _) (by simp)).mono ?_
              rintro e w10 ⟨rfl, row10, h10⟩
              rw [hcn.out.1]
              have H10 := Aside0.mk h10.bel
              clear h10
              go_wp2
              go_ret
              exact ⟨rfl, H10.out⟩
    · clear hhvB hhgB
      go_enter Tryd.func8, Tryd.ntmps8
      go_wp2_with fail
      refine hhf.mono ?_
      rintro e w' ⟨rfl, rfl⟩
      clear hhf
      go_wp2_with fail
      refine hhe.mono ?_
      rintro e w'' ⟨rfl, rfl⟩
      clear hhe
      go_wp2_with fail
      refine (known10 _).mono ?_
      rintro e w1 ⟨rfl, hb1⟩
      have HB1 := Aside0.mk hb1
      clear hb1
      go_wp2
      go_ret
      exact ⟨rfl, HB1.out⟩
  · clear hhvB hhgB
    go_enter Tryd.func8, Tryd.ntmps8
    go_wp2_with fail
    refine hhf.mono ?_
    rintro e w' ⟨rfl, rfl⟩
    clear hhf
    go_wp2_with fail
    refine (known10 _).mono ?_
    rintro e w1 ⟨rfl, hb1⟩
    have HB1 := Aside0.mk hb1
    clear hb1
    go_wp2
    go_ret
    exact ⟨rfl, HB1.out⟩
end Go.Proofs.YtbbhjceelghadaaDoor.K
end
