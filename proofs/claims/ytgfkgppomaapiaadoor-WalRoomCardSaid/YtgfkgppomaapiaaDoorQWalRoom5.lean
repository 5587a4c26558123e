/- Parts of the proof, one behind the other: CameR, K2, K3, LawE, LawF. -/
import Derived.Test.YtgfkgppomaapiaaDoorQWalRoom4
set_option linter.unusedVariables false
set_option linter.unusedSimpArgs false
section
namespace Go.Proofs.YtgfkgppomaapiaaDoor.K
open Go Go.RowKit Go.Deep Go.ChangeShapes Go.WideShapes Go.ChangeAt Go.Proofs.YtgfkgppomaapiaaDoorW.PrintWords Go.Proofs.YtgfkgppomaapiaaDoor.My
instance : Inhabited jP := ⟨⟨[], 0⟩⟩
instance : Inhabited jF := ⟨⟨0, []⟩⟩
instance : Inhabited kF := ⟨⟨0, 0⟩⟩
def I64 (n : Int) : Prop := -9223372036854775808 ≤ n ∧ n < 9223372036854775808
def QI (f : jP) : Prop := (∀ v ∈ f.f0, I64 v) ∧ I64 f.f1
def LM (e : jF) : Prop := (0 ≤ e.f0 ∧ e.f0 < 4294967296) ∧ ∀ f ∈ e.f1, QI f
def XF (s : kF) : Prop := I64 s.f0 ∧ I64 s.f1
def wtI (_ : Int) : Nat := 1
def wtF (f : jP) : Nat := pV wtI f.f0 + 1 + 1 + 1
def wtE (e : jF) : Nat := 1 + (pV wtF e.f1 + 1) + 1
def wtS (_ : kF) : Nat := 3
theorem zF {n : Int} (h : (Lit.int .i64 n).wf = true) : I64 n := by have := wf_i64 h; unfold I64; omega
theorem came_ints : Came (Kd.slice 3 (Kd.int .i64)) 23 (fun l => ∀ v ∈ l, I64 v) (fun l => pV wtI l + 1) :=
  qN (oQ (wt := wtI) Tryd.underlying23 (by kernel_rfl) (lK Tryd.underlying3)) (fun _ h x hx => zF (h x hx))
theorem VF : Came k139 139 QI wtF :=
  qN (II (fun x : jP => (x.f0, x.f1)) (fun p => ⟨p.1, p.2⟩) (fun _ => rfl) (uO Tryd.underlying139 (by kernel_rfl) rfl rfl (by kernel_rfl) (by kernel_rfl) came_ints (lK Tryd.underlying2))) (fun _ h => ⟨h.1, zF h.2⟩)
theorem I5 : Came (Kd.slice 139 k139) 24 (fun l => ∀ v ∈ l, QI v) (fun l => pV wtF l + 1) :=
  oQ Tryd.underlying24 (by kernel_rfl) VF
theorem RD : Came k86 86 LM wtE :=
  qN (II (fun x : jF => (x.f0, x.f1)) (fun p => ⟨p.1, p.2⟩) (fun _ => rfl) (uO Tryd.underlying86 (by kernel_rfl) rfl rfl (by kernel_rfl) (by kernel_rfl) (lK Tryd.underlying22) I5)) (fun _ h => ⟨wf_u32 h.1, h.2⟩)
theorem JJ : Came (Kd.slice 86 k86) 28 (fun l => ∀ v ∈ l, LM v) (fun l => pV wtE l + 1) :=
  oQ Tryd.underlying28 (by kernel_rfl) RD
theorem TE : Came k98 98 XF wtS :=
  qN (II (fun x : kF => (x.f0, x.f1)) (fun p => ⟨p.1, p.2⟩) (fun _ => rfl) (uO Tryd.underlying98 (by kernel_rfl) rfl rfl (by kernel_rfl) (by kernel_rfl) (lK Tryd.underlying3) (lK Tryd.underlying3))) (fun _ h => ⟨zF h.1, zF h.2⟩)
theorem PX : Came (Kd.slice 98 k98) 25 (fun l => ∀ v ∈ l, XF v) (fun l => pV wtS l + 1) :=
  oQ Tryd.underlying25 (by kernel_rfl) TE
theorem WI : Came (Kd.pair (Kd.int .u32) (Kd.slice 98 k98)) 27 (fun m => (0 ≤ m.1 ∧ m.1 < 4294967296) ∧ ∀ v ∈ m.2, XF v) (fun m => 1 + (pV wtS m.2 + 1) + 1) :=
  qN (uO Tryd.underlying27 (by kernel_rfl) rfl rfl (by kernel_rfl) (by kernel_rfl) (lK Tryd.underlying22) PX) (fun _ h => ⟨wf_u32 h.1, h.2⟩)
theorem mY {α : Type} {n : Nat} : ∀ {l : List α}, l.length = n + 1 → ∃ x t, l = x :: t ∧ t.length = n
  | x :: t, h => ⟨x, t, rfl, by simpa using h⟩
theorem O7 {α : Type} {l : List α} (h : l.length = 10) : ∃ z0 z1 z2 z3 z4 z5 z6 z7 z8 z9, l = [z0, z1, z2, z3, z4, z5, z6, z7, z8, z9] := by
  obtain ⟨z0, l0, rfl, h0⟩ := mY h
  obtain ⟨z1, l1, rfl, h1⟩ := mY h0
  obtain ⟨z2, l2, rfl, h2⟩ := mY h1
  obtain ⟨z3, l3, rfl, h3⟩ := mY h2
  obtain ⟨z4, l4, rfl, h4⟩ := mY h3
  obtain ⟨z5, l5, rfl, h5⟩ := mY h4
  obtain ⟨z6, l6, rfl, h6⟩ := mY h5
  obtain ⟨z7, l7, rfl, h7⟩ := mY h6
  obtain ⟨z8, l8, rfl, h8⟩ := mY h7
  obtain ⟨z9, l9, rfl, h9⟩ := mY h8
  have := List.eq_nil_of_length_eq_zero h9
  subst this
  exact ⟨z0, z1, z2, z3, z4, z5, z6, z7, z8, z9, rfl⟩
def jc8 (w : World) (r : SRec) (cs : List Value) : Prop :=
  ∃ A3 c3 A4 c4 A6 c6 A9 c9, cs = [.int .u8 r.f0, .int .u32 r.f1, .int .u32 r.f2, .slice A3 r.f3.length c3, .slice A4 r.f4.length c4, .int .u32 r.f5.f0, .slice A6 r.f5.f1.length c6, .int .i64 r.f6, .int .i64 r.f7, .slice A9 r.f8.length c9] ∧
    (Kd.int .i64).C w A3 r.f3.length r.f3 ∧ r.f3.length ≤ c3 ∧ k139.C w A4 r.f4.length r.f4 ∧ r.f4.length ≤ c4 ∧ k98.C w A6 r.f5.f1.length r.f5.f1 ∧ r.f5.f1.length ≤ c6 ∧ k86.C w A9 r.f8.length r.f8 ∧ r.f8.length ≤ c9
structure RecW (r : SRec) : Prop where
  ok : IU r
  n3 : ∀ v ∈ r.f3, I64 v
  n4 : ∀ f ∈ r.f4, QI f
  n6 : ∀ s ∈ r.f5.f1, XF s
  n7 : I64 r.f6
  n8 : I64 r.f7
  n9 : ∀ e ∈ r.f8, LM e
def wtR (r : SRec) : Nat := pV wtI r.f3 + pV wtF r.f4 + pV wtS r.f5.f1 + pV wtE r.f8
theorem NP {H : Type} (enc : TypeId × Value → H) {w : World} {fuel : Nat} {cs : List Value} {x : DataW H × List MemPlace} (h : DataW.trod enc Tryd.prog w 0 (fun _ => true) true fuel 30 cs = some x) :
    ∃ r : SRec, jc8 w r cs ∧ RecW r ∧ wtR r ≤ Rows.uptoBulk x.1 := by
  obtain ⟨xs, n, rfl, rfl, hl, hlen, hf⟩ := DataW.trod_struct Tryd.underlying30 h
  match xs, hlen with
  | [y0, y1, y2, y3, y4, y5, y6, y7, y8], _ =>
    rw [show Tryd.prog.cellsOf 30 = 10 from by kernel_rfl] at hl
    obtain ⟨a0, p0, o0, b0⟩ := lK Tryd.underlying5 enc w n _ y0 (hf 0 _ rfl)
    obtain ⟨a1, p1, o1, b1⟩ := lK Tryd.underlying22 enc w n _ y1 (hf 1 _ rfl)
    obtain ⟨a2, p2, o2, b2⟩ := lK Tryd.underlying22 enc w n _ y2 (hf 2 _ rfl)
    obtain ⟨a3, ⟨A3, c3, p3, q3, r3⟩, o3, b3⟩ := came_ints enc w n _ y3 (hf 3 _ rfl)
    obtain ⟨a4, ⟨A4, c4, p4, q4, r4⟩, o4, b4⟩ := I5 enc w n _ y4 (hf 4 _ rfl)
    obtain ⟨a5, ⟨c50, c51, p5, q5, ⟨A6, c6, p6, q6, r6⟩⟩, o5, b5⟩ := WI enc w n _ y5 (hf 5 _ rfl)
    obtain ⟨a7, p7, o7, b7⟩ := lK Tryd.underlying3 enc w n _ y6 (hf 6 _ rfl)
    obtain ⟨a8, p8, o8, b8⟩ := lK Tryd.underlying3 enc w n _ y7 (hf 7 _ rfl)
    obtain ⟨a9, ⟨A9, c9, p9, q9, r9⟩, o9, b9⟩ := JJ enc w n _ y8 (hf 8 _ rfl)
    have p0 : List.take (Tryd.prog.cellsOf 5) (List.drop 0 cs) = [.int .u8 a0] := p0
    rw [show Tryd.prog.cellsOf 5 = 1 from by kernel_rfl] at p0
    have p1 : List.take (Tryd.prog.cellsOf 22) (List.drop 1 cs) = [.int .u32 a1] := p1
    rw [show Tryd.prog.cellsOf 22 = 1 from by kernel_rfl] at p1
    have p2 : List.take (Tryd.prog.cellsOf 22) (List.drop 2 cs) = [.int .u32 a2] := p2
    rw [show Tryd.prog.cellsOf 22 = 1 from by kernel_rfl] at p2
    have p3 : List.take (Tryd.prog.cellsOf 23) (List.drop 3 cs) = [.slice A3 a3.length c3] := p3
    rw [show Tryd.prog.cellsOf 23 = 1 from by kernel_rfl] at p3
    have p4 : List.take (Tryd.prog.cellsOf 24) (List.drop 4 cs) = [.slice A4 a4.length c4] := p4
    rw [show Tryd.prog.cellsOf 24 = 1 from by kernel_rfl] at p4
    have p5 : List.take (Tryd.prog.cellsOf 27) (List.drop 5 cs) = c50 ++ c51 := p5
    rw [show Tryd.prog.cellsOf 27 = 2 from by kernel_rfl] at p5
    have p7 : List.take (Tryd.prog.cellsOf 3) (List.drop 7 cs) = [.int .i64 a7] := p7
    rw [show Tryd.prog.cellsOf 3 = 1 from by kernel_rfl] at p7
    have p8 : List.take (Tryd.prog.cellsOf 3) (List.drop 8 cs) = [.int .i64 a8] := p8
    rw [show Tryd.prog.cellsOf 3 = 1 from by kernel_rfl] at p8
    have p9 : List.take (Tryd.prog.cellsOf 28) (List.drop 9 cs) = [.slice A9 a9.length c9] := p9
    rw [show Tryd.prog.cellsOf 28 = 1 from by kernel_rfl] at p9
    obtain ⟨z0, z1, z2, z3, z4, z5, z6, z7, z8, z9, rfl⟩ := O7 hl
    have s0 : [z0] = [.int .u8 a0] := p0
    have s1 : [z1] = [.int .u32 a1] := p1
    have s2 : [z2] = [.int .u32 a2] := p2
    have s3 : [z3] = [.slice A3 a3.length c3] := p3
    have s4 : [z4] = [.slice A4 a4.length c4] := p4
    have s5 : [z5, z6] = c50 ++ c51 := p5
    have q5 : c50 = [.int .u32 a5.1] := q5
    have s7 : [z7] = [.int .i64 a7] := p7
    have s8 : [z8] = [.int .i64 a8] := p8
    have s9 : [z9] = [.slice A9 a9.length c9] := p9
    rw [q5, p6] at s5
    simp only [List.cons.injEq, and_true, List.cons_append, List.nil_append] at s0 s1 s2 s3 s4 s5 s7 s8 s9
    obtain ⟨rfl, rfl⟩ := s5
    subst s0; subst s1; subst s2; subst s3; subst s4; subst s7; subst s8; subst s9
    refine ⟨⟨a0, a1, a2, a3, a4, ⟨a5.1, a5.2⟩, a7, a8, a9⟩, ⟨A3, c3, A4, c4, A6, c6, A9, c9, rfl, r3, q3, r4, q4, r6, q6, r9, q9⟩, ⟨⟨wf_u8 o0, wf_u32 o1, wf_u32 o2, fun f hf => (o4 f hf).2, o5.1, fun e he => ⟨(o9 e he).1.1, (o9 e he).1.2, fun f hf => ((o9 e he).2 f hf).2⟩⟩, o3, o4, o5.2, zF o7, zF o8, o9⟩, ?_⟩
    simp only at b3 b4 b5 b9
    simp only [wtR, Rows.uptoBulk, Rows.uptoBulkAll, List.map_cons, List.map_nil]
    omega
end Go.Proofs.YtgfkgppomaapiaaDoor.K
end

section
namespace Go.Proofs.YtgfkgppomaapiaaDoor.K
open Go.RowKit Go.Proofs.YtgfkgppomaapiaaDoorW.PrintWords Go.Proofs.YtgfkgppomaapiaaDoorW.PrintLast Go.Proofs.YtgfkgppomaapiaaDoorW.PrintMore
attribute [local go_sem] kE kC kN kL
def stratumlaw07_heavy.l0 : Nat → List (S139) → Int → Int → Option (Int)
  | 0, _, _, _ => none
  | k + 1, x0, x3, x4 => if x4 < (x0.length : Int) then (if 0 ≤ x4 then (stratumlaw07_heavy.l0 k x0 (wrap64 (x3 + (wrap64 (1 + (((iY x0 x4).f0).length : Int))))) (wrap64 (x4 + 1))) else (none)) else (some x3)
def stratumlaw07_heavy.f (k : Nat) (l0 : List (S139)) : Option (Int) := stratumlaw07_heavy.l0 k l0 0 0
set_option maxHeartbeats 8000000 in
set_option maxRecDepth 100000 in
theorem stratumlaw07_heavy.calls (k : Nat) (A0 : Option Addr) (c0 : Nat) (l0 : List (S139)) (r : Int) (w : World) (hr0 : Kd.C k139 w A0 l0.length l0) (hc0 : l0.length ≤ c0) (h : stratumlaw07_heavy.f k l0 = some r) :
    Calls Tryd.prog 48 #[.slice A0 l0.length c0] w fun e w' => e = .returned (.int .i64 r) ∧ kD w w' := by
  have HR0 := iC.mk hr0
  have HC0 := iC.mk hc0
  clear hr0 hc0
  have H : (stratumlaw07_heavy.l0 k l0 0 0) = some r := h
  clear h
  have H' := iC.mk H
  clear H
  go_enter Tryd.func48, Tryd.ntmps48
  go_wp2
  go_loopg [3, 4] k (fun kq v3 v4 w' => ∃ (x3_1 : Int) (x4_1 : Int), v3 = .int .i64 x3_1 ∧ v4 = .int .i64 x4_1 ∧ iC (stratumlaw07_heavy.l0 kq l0 x3_1 x4_1 = some r) ∧ iC (kq ≤ k) ∧ kD w w')
  case atStart => exact ⟨(0), (0), (by first | rfl | (simp; done) | (simp [*]; done)), (by first | rfl | (simp; done) | (simp [*]; done)), H', ⟨Nat.le_refl _⟩, by repeat (first | exact kD.refl _ | apply kD.step)⟩
  case round =>
    clear H'
    obtain ⟨x3_1, x4_1, rfl, rfl, HA, HK1, ⟨m1, rfl⟩⟩ := hrel
    cases gk with
    | zero => exact absurd HA.out (by simp [stratumlaw07_heavy.l0])
    | succ k1 =>
      have H := HA.out
      clear HA
      simp only [stratumlaw07_heavy.l0] at H
      by_cases c2 : x4_1 < (l0.length : Int)
      · rw [if_pos c2] at H
        have c2b0 : decide (x4_1 < (l0.length : Int)) = true := decide_eq_true c2
        clear c2
        by_cases c3 : 0 ≤ x4_1
        · rw [if_pos c3] at H
          have c3b0 : decide (0 ≤ x4_1) = true := decide_eq_true c3
          clear c3
          have H' := iC.mk H
          clear H
          have p101 : 0 ≤ (x4_1 : Int) := of_decide_eq_true asm_
          have q101 : x4_1 < (l0.length : Int) := of_decide_eq_true asm_
          obtain ⟨ad101, A101_0, c101_0, e101, hx101_0, hx101_1, hl101_0, hi101_0⟩ := mG HR0.out x4_1 p101 q101
          cases e101
          have HR101_0 := iC.mk hi101_0
          have HC101_0 := iC.mk hl101_0
          clear hi101_0 hl101_0
          replace p101 := eq_true p101
          replace q101 := eq_true q101
          go_wp2
          go_roundg k1
          case measure => have := HK1.out; omega
          case rel => exact ⟨(wrap64 (x3_1 + (wrap64 (1 + (((iY l0 x4_1).f0).length : Int))))), (wrap64 (x4_1 + 1)), (by first | rfl | (simp; done) | (simp [*]; done)), (by first | rfl | (simp; done) | (simp [*]; done)), H', ⟨by have := HK1.out; omega⟩, by repeat (first | exact kD.refl _ | apply kD.step)⟩
        · rw [if_neg c3] at H
          exact absurd H (by simp)
      · rw [if_neg c2] at H
        have c2b0 : decide (x4_1 < (l0.length : Int)) = false := decide_eq_false c2
        clear c2
        obtain rfl := Option.some.inj H
        go_wp2
        go_ret
        exact ⟨by first | rfl | (simp; done) | (simp [*]; done), by repeat (first | exact kD.refl _ | apply kD.step)⟩
end Go.Proofs.YtgfkgppomaapiaaDoor.K
end

section
namespace Go.Proofs.YtgfkgppomaapiaaDoor.K
open Go.RowKit Go.Proofs.YtgfkgppomaapiaaDoorW.PrintWords Go.Proofs.YtgfkgppomaapiaaDoorW.PrintLast Go.Proofs.YtgfkgppomaapiaaDoorW.PrintMore
attribute [local go_sem] kE kC kN kL
def stratumlaw07_Heavy.l0 : Nat → Int → Int → Int → Int → Int → List Int → List (S139) → Int → List (S98) → Int → Int → List (S86) → Option (Int)
  | 0, _, _, _, _, _, _, _, _, _, _, _, _ => none
  | k + 1, x3, x4, x103000, x103001, x103002, x103003, x103004, x103005, x103006, x103007, x103008, x103009 => if x4 < (x103009.length : Int) then (if 0 ≤ x4 then ((stratumlaw07_heavy.f k ((iT x103009 x4).f1)).bind fun t105 => (stratumlaw07_Heavy.l0 k (wrap64 (x3 + (wrap64 (1 + t105)))) (wrap64 (x4 + 1)) x103000 x103001 x103002 x103003 x103004 x103005 x103006 x103007 x103008 x103009)) else (none)) else (some x3)
def stratumlaw07_Heavy.f (k : Nat) (a0_0 : Int) (a0_1 : Int) (a0_2 : Int) (l0_3 : List Int) (l0_4 : List (S139)) (a0_5 : Int) (l0_6 : List (S98)) (a0_7 : Int) (a0_8 : Int) (l0_9 : List (S86)) : Option (Int) := (stratumlaw07_heavy.f k l0_4).bind fun t103 => (stratumlaw07_Heavy.l0 k (wrap64 ((wrap64 ((l0_3.length : Int) + (l0_6.length : Int))) + t103)) 0 a0_0 a0_1 a0_2 l0_3 l0_4 a0_5 l0_6 a0_7 a0_8 l0_9)
set_option maxHeartbeats 8000000 in
set_option maxRecDepth 100000 in
theorem stratumlaw07_Heavy.calls (k : Nat) (a0_0 : Int) (a0_1 : Int) (a0_2 : Int) (A0_3 : Option Addr) (c0_3 : Nat) (l0_3 : List Int) (A0_4 : Option Addr) (c0_4 : Nat) (l0_4 : List (S139)) (a0_5 : Int) (A0_6 : Option Addr) (c0_6 : Nat) (l0_6 : List (S98)) (a0_7 : Int) (a0_8 : Int) (A0_9 : Option Addr) (c0_9 : Nat) (l0_9 : List (S86)) (r : Int) (w : World) (hr0_3 : Kd.C (Kd.int .i64) w A0_3 l0_3.length l0_3) (hc0_3 : l0_3.length ≤ c0_3) (hr0_4 : Kd.C k139 w A0_4 l0_4.length l0_4) (hc0_4 : l0_4.length ≤ c0_4) (hr0_6 : Kd.C k98 w A0_6 l0_6.length l0_6) (hc0_6 : l0_6.length ≤ c0_6) (hr0_9 : Kd.C k86 w A0_9 l0_9.length l0_9) (hc0_9 : l0_9.length ≤ c0_9) (h : stratumlaw07_Heavy.f k a0_0 a0_1 a0_2 l0_3 l0_4 a0_5 l0_6 a0_7 a0_8 l0_9 = some r) :
    Calls Tryd.prog 15 #[.agg #[.int .u8 a0_0, .int .u32 a0_1, .int .u32 a0_2, .slice A0_3 l0_3.length c0_3, .slice A0_4 l0_4.length c0_4, .int .u32 a0_5, .slice A0_6 l0_6.length c0_6, .int .i64 a0_7, .int .i64 a0_8, .slice A0_9 l0_9.length c0_9]] w fun e w' => e = .returned (.int .i64 r) ∧ Below w.heap.size w w' := by
  have hu30 := Tryd.underlying30
  have HR0_3 := iC.mk hr0_3
  have HC0_3 := iC.mk hc0_3
  clear hr0_3 hc0_3
  have HR0_4 := iC.mk hr0_4
  have HC0_4 := iC.mk hc0_4
  clear hr0_4 hc0_4
  have HR0_6 := iC.mk hr0_6
  have HC0_6 := iC.mk hc0_6
  clear hr0_6 hc0_6
  have HR0_9 := iC.mk hr0_9
  have HC0_9 := iC.mk hc0_9
  clear hr0_9 hc0_9
  have HB := iC.mk (Below.refl w.heap.size w)
  have H : ((stratumlaw07_heavy.f k l0_4).bind fun t103 => (stratumlaw07_Heavy.l0 k (wrap64 ((wrap64 ((l0_3.length : Int) + (l0_6.length : Int))) + t103)) 0 a0_0 a0_1 a0_2 l0_3 l0_4 a0_5 l0_6 a0_7 a0_8 l0_9)) = some r := h
  clear h
  replace H := Option.bind_eq_some_iff.mp H
  obtain ⟨t103, A20, H⟩ := H
  replace H : (stratumlaw07_Heavy.l0 k (wrap64 ((wrap64 ((l0_3.length : Int) + (l0_6.length : Int))) + t103)) 0 a0_0 a0_1 a0_2 l0_3 l0_4 a0_5 l0_6 a0_7 a0_8 l0_9) = some r := H
  have A2 := iC.mk A20
  clear A20
  have H' := iC.mk H
  clear H
  go_enter Tryd.func15, Tryd.ntmps15
  go_wp2_with (first | ((with_reducible refine jV (N := 1) rfl ?_); refine jQ ?hg (N := 1) ?hd (cs := #[.int .u8 a0_0, .int .u32 a0_1, .int .u32 a0_2, .slice A0_3 l0_3.length c0_3, .slice A0_4 l0_4.length c0_4, .int .u32 a0_5, .slice A0_6 l0_6.length c0_6, .int .i64 a0_7, .int .i64 a0_8, .slice A0_9 l0_9.length c0_9]) (t := 30) ?hr ?_; (case hd => rfl); (case hg => rfl); (case hr => first | (go_simp; done) | (go_simp; rfl)); intro gb102 hg w3 hbox hb; have n0_ := iC.mk (iK hb_ hb); have n1_ := iC.mk (hbox); have n2_ := iC.mk ((by rw [hg]; exact (iP hb_) : w.heap.size ≤ gb102)); have n3_ := iC.mk ((by rw [hg]; exact (iP hb_) : w.heap.size ≤ gb102)); clear HB; have HB := n0_; have BK102 := n1_; have GW102 := n2_; have GE102 := n3_; clear n0_ n1_ n2_ n3_; clear hb hbox hg; have hcz4_0 : w3.cell? ⟨gb102, 0, none⟩ = some (.int .u8 a0_0) := (iE BK102.out 0).trans rfl; have hcz4_1 : w3.cell? ⟨gb102, 1, none⟩ = some (.int .u32 a0_1) := (iE BK102.out 1).trans rfl; have hcz4_2 : w3.cell? ⟨gb102, 2, none⟩ = some (.int .u32 a0_2) := (iE BK102.out 2).trans rfl; have hcz4_3 : w3.cell? ⟨gb102, 3, none⟩ = some (.slice A0_3 l0_3.length c0_3) := (iE BK102.out 3).trans rfl; have hcz4_4 : w3.cell? ⟨gb102, 4, none⟩ = some (.slice A0_4 l0_4.length c0_4) := (iE BK102.out 4).trans rfl; have hcz4_5 : w3.cell? ⟨gb102, 5, none⟩ = some (.int .u32 a0_5) := (iE BK102.out 5).trans rfl; have hcz4_6 : w3.cell? ⟨gb102, 6, none⟩ = some (.slice A0_6 l0_6.length c0_6) := (iE BK102.out 6).trans rfl; have hcz4_7 : w3.cell? ⟨gb102, 7, none⟩ = some (.int .i64 a0_7) := (iE BK102.out 7).trans rfl; have hcz4_8 : w3.cell? ⟨gb102, 8, none⟩ = some (.int .i64 a0_8) := (iE BK102.out 8).trans rfl; have hcz4_9 : w3.cell? ⟨gb102, 9, none⟩ = some (.slice A0_9 l0_9.length c0_9) := (iE BK102.out 9).trans rfl; have hfz4_0 := iD BK102.out 0; have hfz4_1 := iD BK102.out 1; have hfz4_2 := iD BK102.out 2; have hfz4_3 := iD BK102.out 3; have hfz4_4 := iD BK102.out 4; have hfz4_5 := iD BK102.out 5; have hfz4_6 := iD BK102.out 6; have hfz4_7 := iD BK102.out 7; have hfz4_8 := iD BK102.out 8; have hfz4_9 := iD BK102.out 9) | (go_at_call 48; (with_reducible refine (stratumlaw07_heavy.calls k _ _ l0_4 t103 _ ?side1 ?side2 A2.out).mono ?_); (case side1 => repeat (first | exact (Kd.C_below HR0_4.out HB.out) | (with_reducible refine Kd.C_alloc ?_ _) | (with_reducible refine Kd.C_drewN ?_ _) | (with_reducible refine Kd.C_drew ?_))); (case side2 => exact HC0_4.out); rintro e w' ⟨rfl, ⟨nd, rfl⟩⟩; (try first | exact ⟨rfl, _, World.drewN_drewN _ _ _⟩ | exact ⟨rfl, _, Eq.trans (World.drewN_drewN _ _ _) (congrArg (World.drewN _) (Nat.add_assoc _ _ _))⟩)))
  repeat (go_quiet (first | ((with_reducible refine jV (N := 1) rfl ?_); refine jQ ?hg (N := 1) ?hd (cs := #[.int .u8 a0_0, .int .u32 a0_1, .int .u32 a0_2, .slice A0_3 l0_3.length c0_3, .slice A0_4 l0_4.length c0_4, .int .u32 a0_5, .slice A0_6 l0_6.length c0_6, .int .i64 a0_7, .int .i64 a0_8, .slice A0_9 l0_9.length c0_9]) (t := 30) ?hr ?_; (case hd => rfl); (case hg => rfl); (case hr => first | (go_simp; done) | (go_simp; rfl)); intro gb102 hg w3 hbox hb; have n0_ := iC.mk (iK hb_ hb); have n1_ := iC.mk (hbox); have n2_ := iC.mk ((by rw [hg]; exact (iP hb_) : w.heap.size ≤ gb102)); have n3_ := iC.mk ((by rw [hg]; exact (iP hb_) : w.heap.size ≤ gb102)); clear HB; have HB := n0_; have BK102 := n1_; have GW102 := n2_; have GE102 := n3_; clear n0_ n1_ n2_ n3_; clear hb hbox hg; have hcz4_0 : w3.cell? ⟨gb102, 0, none⟩ = some (.int .u8 a0_0) := (iE BK102.out 0).trans rfl; have hcz4_1 : w3.cell? ⟨gb102, 1, none⟩ = some (.int .u32 a0_1) := (iE BK102.out 1).trans rfl; have hcz4_2 : w3.cell? ⟨gb102, 2, none⟩ = some (.int .u32 a0_2) := (iE BK102.out 2).trans rfl; have hcz4_3 : w3.cell? ⟨gb102, 3, none⟩ = some (.slice A0_3 l0_3.length c0_3) := (iE BK102.out 3).trans rfl; have hcz4_4 : w3.cell? ⟨gb102, 4, none⟩ = some (.slice A0_4 l0_4.length c0_4) := (iE BK102.out 4).trans rfl; have hcz4_5 : w3.cell? ⟨gb102, 5, none⟩ = some (.int .u32 a0_5) := (iE BK102.out 5).trans rfl; have hcz4_6 : w3.cell? ⟨gb102, 6, none⟩ = some (.slice A0_6 l0_6.length c0_6) := (iE BK102.out 6).trans rfl; have hcz4_7 : w3.cell? ⟨gb102, 7, none⟩ = some (.int .i64 a0_7) := (iE BK102.out 7).trans rfl; have hcz4_8 : w3.cell? ⟨gb102, 8, none⟩ = some (.int .i64 a0_8) := (iE BK102.out 8).trans rfl; have hcz4_9 : w3.cell? ⟨gb102, 9, none⟩ = some (.slice A0_9 l0_9.length c0_9) := (iE BK102.out 9).trans rfl; have hfz4_0 := iD BK102.out 0; have hfz4_1 := iD BK102.out 1; have hfz4_2 := iD BK102.out 2; have hfz4_3 := iD BK102.out 3; have hfz4_4 := iD BK102.out 4; have hfz4_5 := iD BK102.out 5; have hfz4_6 := iD BK102.out 6; have hfz4_7 := iD BK102.out 7; have hfz4_8 := iD BK102.out 8; have hfz4_9 := iD BK102.out 9) | (go_at_call 48; (with_reducible refine (stratumlaw07_heavy.calls k _ _ l0_4 t103 _ ?side1 ?side2 A2.out).mono ?_); (case side1 => repeat (first | exact (Kd.C_below HR0_4.out HB.out) | (with_reducible refine Kd.C_alloc ?_ _) | (with_reducible refine Kd.C_drewN ?_ _) | (with_reducible refine Kd.C_drew ?_))); (case side2 => exact HC0_4.out); rintro e w' ⟨rfl, ⟨nd, rfl⟩⟩; (try first | exact ⟨rfl, _, World.drewN_drewN _ _ _⟩ | exact ⟨rfl, _, Eq.trans (World.drewN_drewN _ _ _) (congrArg (World.drewN _) (Nat.add_assoc _ _ _))⟩))); try go_wp2_with (first | ((with_reducible refine jV (N := 1) rfl ?_); refine jQ ?hg (N := 1) ?hd (cs := #[.int .u8 a0_0, .int .u32 a0_1, .int .u32 a0_2, .slice A0_3 l0_3.length c0_3, .slice A0_4 l0_4.length c0_4, .int .u32 a0_5, .slice A0_6 l0_6.length c0_6, .int .i64 a0_7, .int .i64 a0_8, .slice A0_9 l0_9.length c0_9]) (t := 30) ?hr ?_; (case hd => rfl); (case hg => rfl); (case hr => first | (go_simp; done) | (go_simp; rfl)); intro gb102 hg w3 hbox hb; have n0_ := iC.mk (iK hb_ hb); have n1_ := iC.mk (hbox); have n2_ := iC.mk ((by rw [hg]; exact (iP hb_) : w.heap.size ≤ gb102)); have n3_ := iC.mk ((by rw [hg]; exact (iP hb_) : w.heap.size ≤ gb102)); clear HB; have HB := n0_; have BK102 := n1_; have GW102 := n2_; have GE102 := n3_; clear n0_ n1_ n2_ n3_; clear hb hbox hg; have hcz4_0 : w3.cell? ⟨gb102, 0, none⟩ = some (.int .u8 a0_0) := (iE BK102.out 0).trans rfl; have hcz4_1 : w3.cell? ⟨gb102, 1, none⟩ = some (.int .u32 a0_1) := (iE BK102.out 1).trans rfl; have hcz4_2 : w3.cell? ⟨gb102, 2, none⟩ = some (.int .u32 a0_2) := (iE BK102.out 2).trans rfl; have hcz4_3 : w3.cell? ⟨gb102, 3, none⟩ = some (.slice A0_3 l0_3.length c0_3) := (iE BK102.out 3).trans rfl; have hcz4_4 : w3.cell? ⟨gb102, 4, none⟩ = some (.slice A0_4 l0_4.length c0_4) := (iE BK102.out 4).trans rfl; have hcz4_5 : w3.cell? ⟨gb102, 5, none⟩ = some (.int .u32 a0_5) := (iE BK102.out 5).trans rfl; have hcz4_6 : w3.cell? ⟨gb102, 6, none⟩ = some (.slice A0_6 l0_6.length c0_6) := (iE BK102.out 6).trans rfl; have hcz4_7 : w3.cell? ⟨gb102, 7, none⟩ = some (.int .i64 a0_7) := (iE BK102.out 7).trans rfl; have hcz4_8 : w3.cell? ⟨gb102, 8, none⟩ = some (.int .i64 a0_8) := (iE BK102.out 8).trans rfl; have hcz4_9 : w3.cell? ⟨gb102, 9, none⟩ = some (.slice A0_9 l0_9.length c0_9) := (iE BK102.out 9).trans rfl; have hfz4_0 := iD BK102.out 0; have hfz4_1 := iD BK102.out 1; have hfz4_2 := iD BK102.out 2; have hfz4_3 := iD BK102.out 3; have hfz4_4 := iD BK102.out 4; have hfz4_5 := iD BK102.out 5; have hfz4_6 := iD BK102.out 6; have hfz4_7 := iD BK102.out 7; have hfz4_8 := iD BK102.out 8; have hfz4_9 := iD BK102.out 9) | (go_at_call 48; (with_reducible refine (stratumlaw07_heavy.calls k _ _ l0_4 t103 _ ?side1 ?side2 A2.out).mono ?_); (case side1 => repeat (first | exact (Kd.C_below HR0_4.out HB.out) | (with_reducible refine Kd.C_alloc ?_ _) | (with_reducible refine Kd.C_drewN ?_ _) | (with_reducible refine Kd.C_drew ?_))); (case side2 => exact HC0_4.out); rintro e w' ⟨rfl, ⟨nd, rfl⟩⟩; (try first | exact ⟨rfl, _, World.drewN_drewN _ _ _⟩ | exact ⟨rfl, _, Eq.trans (World.drewN_drewN _ _ _) (congrArg (World.drewN _) (Nat.add_assoc _ _ _))⟩))))
  go_loopg [3, 4] k (fun kq v3 v4 w' => ∃ (x3_1 : Int) (x4_1 : Int), v3 = .int .i64 x3_1 ∧ v4 = .int .i64 x4_1 ∧ iC (stratumlaw07_Heavy.l0 kq x3_1 x4_1 a0_0 a0_1 a0_2 l0_3 l0_4 a0_5 l0_6 a0_7 a0_8 l0_9 = some r) ∧ iC (kq ≤ k) ∧ iC (w'.heap[gb102]? = some (.cells #[.int .u8 a0_0, .int .u32 a0_1, .int .u32 a0_2, (.slice A0_3 l0_3.length c0_3), (.slice A0_4 l0_4.length c0_4), .int .u32 a0_5, (.slice A0_6 l0_6.length c0_6), .int .i64 a0_7, .int .i64 a0_8, (.slice A0_9 l0_9.length c0_9)] 30 (0, 0))) ∧ iC (Below w.heap.size w w'))
  case atStart => exact ⟨(wrap64 ((wrap64 ((l0_3.length : Int) + (l0_6.length : Int))) + t103)), (0), (by first | rfl | (simp; done) | (simp [*]; done)), (by first | rfl | (simp; done) | (simp [*]; done)), H', ⟨Nat.le_refl _⟩, ⟨bk_ BK102.out⟩, ⟨by repeat (first | (with_reducible first | exact HB.out | apply iG | apply iF | apply iJ | refine iH ?_ GE102.out) | exact HB.out)⟩⟩
  case round =>
    clear H'
    try clear c1
    try clear p2
    try clear hcz4_0
    try clear hcz4_1
    try clear hcz4_2
    try clear hcz4_3
    try clear hcz4_4
    try clear hcz4_5
    try clear hcz4_6
    try clear hcz4_7
    try clear hcz4_8
    try clear hcz4_9
    try clear hfz4_0
    try clear hfz4_1
    try clear hfz4_2
    try clear hfz4_3
    try clear hfz4_4
    try clear hfz4_5
    try clear hfz4_6
    try clear hfz4_7
    try clear hfz4_8
    try clear hfz4_9
    obtain ⟨x3_1, x4_1, rfl, rfl, HA, HK1, BK102, HB⟩ := hrel
    cases gk with
    | zero => exact absurd HA.out (by simp [stratumlaw07_Heavy.l0])
    | succ k1 =>
      have H := HA.out
      clear HA
      simp only [stratumlaw07_Heavy.l0] at H
      by_cases c5 : x4_1 < (l0_9.length : Int)
      · rw [if_pos c5] at H
        have c5b0 : decide (x4_1 < (l0_9.length : Int)) = true := decide_eq_true c5
        clear c5
        by_cases c6 : 0 ≤ x4_1
        · rw [if_pos c6] at H
          have c6b0 : decide (0 ≤ x4_1) = true := decide_eq_true c6
          clear c6
          replace H := Option.bind_eq_some_iff.mp H
          obtain ⟨t105, A70, H⟩ := H
          replace H : (stratumlaw07_Heavy.l0 k1 (wrap64 (x3_1 + (wrap64 (1 + t105)))) (wrap64 (x4_1 + 1)) a0_0 a0_1 a0_2 l0_3 l0_4 a0_5 l0_6 a0_7 a0_8 l0_9) = some r := H
          have A7 := iC.mk A70
          clear A70
          have H' := iC.mk H
          clear H
          have hcz8_0 : wr.cell? ⟨gb102, 0, none⟩ = some (.int .u8 a0_0) := (iE BK102.out 0).trans rfl
          have hcz8_1 : wr.cell? ⟨gb102, 1, none⟩ = some (.int .u32 a0_1) := (iE BK102.out 1).trans rfl
          have hcz8_2 : wr.cell? ⟨gb102, 2, none⟩ = some (.int .u32 a0_2) := (iE BK102.out 2).trans rfl
          have hcz8_3 : wr.cell? ⟨gb102, 3, none⟩ = some (.slice A0_3 l0_3.length c0_3) := (iE BK102.out 3).trans rfl
          have hcz8_4 : wr.cell? ⟨gb102, 4, none⟩ = some (.slice A0_4 l0_4.length c0_4) := (iE BK102.out 4).trans rfl
          have hcz8_5 : wr.cell? ⟨gb102, 5, none⟩ = some (.int .u32 a0_5) := (iE BK102.out 5).trans rfl
          have hcz8_6 : wr.cell? ⟨gb102, 6, none⟩ = some (.slice A0_6 l0_6.length c0_6) := (iE BK102.out 6).trans rfl
          have hcz8_7 : wr.cell? ⟨gb102, 7, none⟩ = some (.int .i64 a0_7) := (iE BK102.out 7).trans rfl
          have hcz8_8 : wr.cell? ⟨gb102, 8, none⟩ = some (.int .i64 a0_8) := (iE BK102.out 8).trans rfl
          have hcz8_9 : wr.cell? ⟨gb102, 9, none⟩ = some (.slice A0_9 l0_9.length c0_9) := (iE BK102.out 9).trans rfl
          have hfz8_0 := iD BK102.out 0
          have hfz8_1 := iD BK102.out 1
          have hfz8_2 := iD BK102.out 2
          have hfz8_3 := iD BK102.out 3
          have hfz8_4 := iD BK102.out 4
          have hfz8_5 := iD BK102.out 5
          have hfz8_6 := iD BK102.out 6
          have hfz8_7 := iD BK102.out 7
          have hfz8_8 := iD BK102.out 8
          have hfz8_9 := iD BK102.out 9
          have p104 : 0 ≤ (x4_1 : Int) := of_decide_eq_true asm_
          have q104 : x4_1 < (l0_9.length : Int) := of_decide_eq_true asm_
          obtain ⟨ad104, A104_1, c104_1, e104, hx104_0, hx104_1, hl104_1, hi104_1⟩ := oM HR0_9.out x4_1 p104 q104
          cases e104
          replace hx104_0 := (HB.out.cell (World.block_lt_of_cell? w _ hx104_0)).trans hx104_0
          replace hx104_1 := (HB.out.cell (World.block_lt_of_cell? w _ hx104_1)).trans hx104_1
          have HR104_1 := iC.mk hi104_1
          have HC104_1 := iC.mk hl104_1
          clear hi104_1 hl104_1
          replace p104 := eq_true p104
          replace q104 := eq_true q104
          go_wp2_with (first | (go_at_call 48; (with_reducible refine (stratumlaw07_heavy.calls k1 _ _ ((iT l0_9 x4_1).f1) t105 _ ?side1 ?side2 A7.out).mono ?_); (case side1 => repeat (first | exact (Kd.C_below HR104_1.out HB.out) | (with_reducible refine Kd.C_alloc ?_ _) | (with_reducible refine Kd.C_drewN ?_ _) | (with_reducible refine Kd.C_drew ?_))); (case side2 => exact HC104_1.out); rintro e w' ⟨rfl, ⟨nd, rfl⟩⟩; (try first | exact ⟨rfl, _, World.drewN_drewN _ _ _⟩ | exact ⟨rfl, _, Eq.trans (World.drewN_drewN _ _ _) (congrArg (World.drewN _) (Nat.add_assoc _ _ _))⟩)))
          repeat (go_quiet (first | (go_at_call 48; (with_reducible refine (stratumlaw07_heavy.calls k1 _ _ ((iT l0_9 x4_1).f1) t105 _ ?side1 ?side2 A7.out).mono ?_); (case side1 => repeat (first | exact (Kd.C_below HR104_1.out HB.out) | (with_reducible refine Kd.C_alloc ?_ _) | (with_reducible refine Kd.C_drewN ?_ _) | (with_reducible refine Kd.C_drew ?_))); (case side2 => exact HC104_1.out); rintro e w' ⟨rfl, ⟨nd, rfl⟩⟩; (try first | exact ⟨rfl, _, World.drewN_drewN _ _ _⟩ | exact ⟨rfl, _, Eq.trans (World.drewN_drewN _ _ _) (congrArg (World.drewN _) (Nat.add_assoc _ _ _))⟩))); try go_wp2_with (first | (go_at_call 48; (with_reducible refine (stratumlaw07_heavy.calls k1 _ _ ((iT l0_9 x4_1).f1) t105 _ ?side1 ?side2 A7.out).mono ?_); (case side1 => repeat (first | exact (Kd.C_below HR104_1.out HB.out) | (with_reducible refine Kd.C_alloc ?_ _) | (with_reducible refine Kd.C_drewN ?_ _) | (with_reducible refine Kd.C_drew ?_))); (case side2 => exact HC104_1.out); rintro e w' ⟨rfl, ⟨nd, rfl⟩⟩; (try first | exact ⟨rfl, _, World.drewN_drewN _ _ _⟩ | exact ⟨rfl, _, Eq.trans (World.drewN_drewN _ _ _) (congrArg (World.drewN _) (Nat.add_assoc _ _ _))⟩))))
          go_roundg k1
          case measure => have := HK1.out; omega
          case rel => exact ⟨(wrap64 (x3_1 + (wrap64 (1 + t105)))), (wrap64 (x4_1 + 1)), (by first | rfl | (simp; done) | (simp [*]; done)), (by first | rfl | (simp; done) | (simp [*]; done)), H', ⟨by have := HK1.out; omega⟩, ⟨bk_ BK102.out⟩, ⟨by repeat (first | (with_reducible first | exact HB.out | apply iG | apply iF | apply iJ | refine iH ?_ GE102.out) | exact HB.out)⟩⟩
        · rw [if_neg c6] at H
          exact absurd H (by simp)
      · rw [if_neg c5] at H
        have c5b0 : decide (x4_1 < (l0_9.length : Int)) = false := decide_eq_false c5
        clear c5
        obtain rfl := Option.some.inj H
        have hcz9_0 : wr.cell? ⟨gb102, 0, none⟩ = some (.int .u8 a0_0) := (iE BK102.out 0).trans rfl
        have hcz9_1 : wr.cell? ⟨gb102, 1, none⟩ = some (.int .u32 a0_1) := (iE BK102.out 1).trans rfl
        have hcz9_2 : wr.cell? ⟨gb102, 2, none⟩ = some (.int .u32 a0_2) := (iE BK102.out 2).trans rfl
        have hcz9_3 : wr.cell? ⟨gb102, 3, none⟩ = some (.slice A0_3 l0_3.length c0_3) := (iE BK102.out 3).trans rfl
        have hcz9_4 : wr.cell? ⟨gb102, 4, none⟩ = some (.slice A0_4 l0_4.length c0_4) := (iE BK102.out 4).trans rfl
        have hcz9_5 : wr.cell? ⟨gb102, 5, none⟩ = some (.int .u32 a0_5) := (iE BK102.out 5).trans rfl
        have hcz9_6 : wr.cell? ⟨gb102, 6, none⟩ = some (.slice A0_6 l0_6.length c0_6) := (iE BK102.out 6).trans rfl
        have hcz9_7 : wr.cell? ⟨gb102, 7, none⟩ = some (.int .i64 a0_7) := (iE BK102.out 7).trans rfl
        have hcz9_8 : wr.cell? ⟨gb102, 8, none⟩ = some (.int .i64 a0_8) := (iE BK102.out 8).trans rfl
        have hcz9_9 : wr.cell? ⟨gb102, 9, none⟩ = some (.slice A0_9 l0_9.length c0_9) := (iE BK102.out 9).trans rfl
        have hfz9_0 := iD BK102.out 0
        have hfz9_1 := iD BK102.out 1
        have hfz9_2 := iD BK102.out 2
        have hfz9_3 := iD BK102.out 3
        have hfz9_4 := iD BK102.out 4
        have hfz9_5 := iD BK102.out 5
        have hfz9_6 := iD BK102.out 6
        have hfz9_7 := iD BK102.out 7
        have hfz9_8 := iD BK102.out 8
        have hfz9_9 := iD BK102.out 9
        go_wp2
        repeat (go_quiet (fail); try go_wp2)
        go_ret
        exact ⟨by first | rfl | (simp [iV, iU] <;> rfl) | (simp [*, iV, iU] <;> rfl), by repeat (first | (with_reducible first | exact HB.out | apply iG | apply iF | apply iJ | refine iH ?_ GE102.out) | exact HB.out)⟩
end Go.Proofs.YtgfkgppomaapiaaDoor.K
end

section
namespace Go.Proofs.YtgfkgppomaapiaaDoor.K
open RowKit YtgfkgppomaapiaaDoorW.PrintWords YtgfkgppomaapiaaDoorW.PrintLast YtgfkgppomaapiaaDoorW.PrintMore My
theorem TW (l : List jP) (hn : l.length ≤ 9223372036854775807) (d : Nat) : ∀ i x : Int, 0 ≤ i → i ≤ l.length → (l.length : Int) - i = d → ∃ v, Ev (fun k => stratumlaw07_heavy.l0 k l x i) v := by
  induction d with
  | zero =>
    intro i x h0 h1 hd
    exact ⟨x, Ev.step (f := fun _ => some x) (fun k => by simp only [stratumlaw07_heavy.l0]; rw [if_neg (by omega)]) (Ev.now _)⟩
  | succ d ih =>
    intro i x h0 h1 hd
    have hlt : i < (l.length : Int) := by omega
    obtain ⟨v, hv⟩ := ih (i + 1) (wrap64 (x + wrap64 (1 + ((iY l i).f0.length : Int)))) (by omega) (by omega) (by omega)
    exact ⟨v, Ev.step (fun k => by simp only [stratumlaw07_heavy.l0]; rw [if_pos hlt, if_pos h0, qH h0 hlt hn]) hv⟩
theorem OL (l : List jP) (hn : l.length ≤ 9223372036854775807) : ∃ v, Ev (fun k => stratumlaw07_heavy.f k l) v := TW l hn l.length 0 0 (by omega) (by omega) (by omega)
theorem UL (a0 a1 a2 : Int) (l3 : List Int) (l4 : List jP) (a5 : Int) (l6 : List kF) (a7 a8 : Int) (l9 : List jF) (hn : l9.length ≤ 9223372036854775807) (hf : ∀ e ∈ l9, e.f1.length ≤ 9223372036854775807) (d : Nat) : ∀ i x : Int, 0 ≤ i → i ≤ l9.length → (l9.length : Int) - i = d →
    ∃ v, Ev (fun k => stratumlaw07_Heavy.l0 k x i a0 a1 a2 l3 l4 a5 l6 a7 a8 l9) v := by
  induction d with
  | zero =>
    intro i x h0 h1 hd
    exact ⟨x, Ev.step (f := fun _ => some x) (fun k => by simp only [stratumlaw07_Heavy.l0]; rw [if_neg (by omega)]) (Ev.now _)⟩
  | succ d ih =>
    intro i x h0 h1 hd
    have hlt : i < (l9.length : Int) := by omega
    have hm : iT l9 i ∈ l9 := by
      unfold iT
      rw [List.getD_eq_getElem?_getD, List.getElem?_eq_getElem (show i.toNat < l9.length by omega)]
      exact List.getElem_mem _
    obtain ⟨u, hu⟩ := OL _ (hf _ hm)
    obtain ⟨v, hv⟩ := ih (i + 1) (wrap64 (x + wrap64 (1 + u))) (by omega) (by omega) (by omega)
    exact ⟨v, Ev.step (fun k => by simp only [stratumlaw07_Heavy.l0]; rw [if_pos hlt, if_pos h0, qH h0 hlt hn]) (Ev.bind hu hv)⟩
theorem VK (a0 a1 a2 : Int) (l3 : List Int) (l4 : List jP) (a5 : Int) (l6 : List kF) (a7 a8 : Int) (l9 : List jF) (h : YQ l3 l4 l6 l9) : ∃ v, Ev (fun k => stratumlaw07_Heavy.f k a0 a1 a2 l3 l4 a5 l6 a7 a8 l9) v := by
  obtain ⟨u, hu⟩ := OL l4 h.n4
  obtain ⟨v, hv⟩ := UL a0 a1 a2 l3 l4 a5 l6 a7 a8 l9 h.n9 (fun e he => (h.f9 e he).1) l9.length 0 (wrap64 ((wrap64 ((l3.length : Int) + (l6.length : Int))) + u)) (by omega) (by omega) (by omega)
  exact ⟨v, Ev.bind hu hv⟩
section
variable (a0 a1 a2 : Int) (A3 : Option Addr) (c3 : Nat) (l3 : List Int) (A4 : Option Addr) (c4 : Nat) (l4 : List jP) (a5 : Int) (A6 : Option Addr) (c6 : Nat) (l6 : List kF) (a7 a8 : Int) (A9 : Option Addr) (c9 : Nat) (l9 : List jF) (w : World)
    (h3 : Kd.C (Kd.int .i64) w A3 l3.length l3) (d3 : l3.length ≤ c3) (h4 : Kd.C k139 w A4 l4.length l4) (d4 : l4.length ≤ c4) (h6 : Kd.C k98 w A6 l6.length l6) (d6 : l6.length ≤ c6) (h9 : Kd.C k86 w A9 l9.length l9) (d9 : l9.length ≤ c9)
include h3 d3 h4 d4 h6 d6 h9 d9
theorem RY : ∃ v : Int, Calls Tryd.prog 15 #[.agg #[.int .u8 a0, .int .u32 a1, .int .u32 a2, .slice A3 l3.length c3, .slice A4 l4.length c4, .int .u32 a5, .slice A6 l6.length c6, .int .i64 a7, .int .i64 a8, .slice A9 l9.length c9]] w fun e w' => e = .returned (.int .i64 v) ∧ Below w.heap.size w w' := by
  obtain ⟨v, hv⟩ := VK a0 a1 a2 l3 l4 a5 l6 a7 a8 l9 (VG h3 h4 h6 h9)
  obtain ⟨k, hk⟩ := hv.rounds
  exact ⟨v, stratumlaw07_Heavy.calls k a0 a1 a2 A3 c3 l3 A4 c4 l4 a5 A6 c6 l6 a7 a8 A9 c9 l9 v w h3 d3 h4 d4 h6 d6 h9 d9 hk⟩
end
end Go.Proofs.YtgfkgppomaapiaaDoor.K
end

section
namespace Go.Proofs.YtgfkgppomaapiaaDoor.K
open Go.RowKit Go.Proofs.YtgfkgppomaapiaaDoorW.PrintWords Go.Proofs.YtgfkgppomaapiaaDoorW.PrintLast Go.Proofs.YtgfkgppomaapiaaDoorW.PrintMore
attribute [local go_sem] kE kC kN kL
theorem UK : (Tryd.prog.info? 139).map (fun i => (i.zero, i.size, i.bytes)) = some (some (.agg #[(.slice none 0 0), (.int .i64 0)]), 2, 32) := by kernel_rfl
mutual
def stratumlaw07_Facts.l0 : Nat → List (S139) → List (S139) → Int → Option ((List (S139)))
  | 0, _, _, _ => none
  | k + 1, x0, x3, x4 => if x4 < (x0.length : Int) then (stratumlaw07_Facts.j1 k x0 x3 x4 (decide (x4 < 60))) else (stratumlaw07_Facts.j1 k x0 x3 x4 false)
def stratumlaw07_Facts.j1 : Nat → List (S139) → List (S139) → Int → Bool → Option ((List (S139)))
  | 0, _, _, _, _ => none
  | k + 1, x0, x3, x4, x14 => if x14 = true then (if 0 ≤ x4 then (if x4 < (x0.length : Int) then (stratumlaw07_Facts.l1 k x0 x3 x4 0 ([] : List Int) ((iY x0 x4).f1)) else (none)) else (none)) else (some x3)
def stratumlaw07_Facts.l1 : Nat → List (S139) → List (S139) → Int → Int → List Int → Int → Option ((List (S139)))
  | 0, _, _, _, _, _, _ => none
  | k + 1, x0, x3, x4, x6, x178000, x178001 => if 0 ≤ x4 then (if x4 < (x0.length : Int) then (if x6 < (((iY x0 x4).f0).length : Int) then (if x6 < 4 then (if 0 ≤ x6 then (if x178000.length < 17592186044416 then (stratumlaw07_Facts.l1 k x0 x3 x4 (wrap64 (x6 + 1)) (x178000 ++ [(mx (rd ((iY x0 x4).f0) x6) 0) % 10000]) x178001) else (none)) else (none)) else (if x3.length < 4398046511104 then (stratumlaw07_Facts.l0 k x0 (x3 ++ [(⟨x178000, x178001⟩ : S139)]) (wrap64 (x4 + 1))) else (none))) else (if x3.length < 4398046511104 then (stratumlaw07_Facts.l0 k x0 (x3 ++ [(⟨x178000, x178001⟩ : S139)]) (wrap64 (x4 + 1))) else (none))) else (none)) else (none)
end
def stratumlaw07_Facts.f (k : Nat) (l0 : List (S139)) : Option ((List (S139))) := stratumlaw07_Facts.l0 k l0 ([] : List (S139)) 0
def stratumlaw07_Facts.T9 : Bool × List (List Nat × List Nat) := (true, [([], []), ([0], [0]), ([], []), ([], []), ([2, 3], [2, 3]), ([4], [4]), ([5], [5]), ([], []), ([6, 7], [6, 7]), ([8], [8]), ([9], [9]), ([10], [10]), ([11], [11]), ([1, 12], [1, 12]), ([0, 1, 2, 3, 4, 5, 6, 7, 8, 9, 10, 11, 12, 13], []), ([14, 13, 13, 0, 1, 2, 3, 4, 5, 6, 7, 8, 9, 10, 11, 12, 13], [13, 14])])
def stratumlaw07_Facts.B9 : List Nat := [0, 1, 0, 0, 12, 28, 60, 0, 252, 508, 1020, 2044, 4092, 8191, 16383, 32767]
theorem stratumlaw07_Facts.tab9 : rtab .any (opsOf Tryd.f73 9) = stratumlaw07_Facts.T9 := by kernel_rfl
theorem stratumlaw07_Facts.bits9 : lV stratumlaw07_Facts.T9.2 stratumlaw07_Facts.B9 = true := by kernel_rfl
set_option maxHeartbeats 8000000 in
set_option maxRecDepth 100000 in
theorem stratumlaw07_Facts.callsS (k : Nat) (A0 : Option Addr) (c0 : Nat) (l0 : List (S139)) (r : List (S139)) (w : World) (hr0 : Kd.C k139 w A0 l0.length l0) (hc0 : l0.length ≤ c0) (h : stratumlaw07_Facts.f k l0 = some r) :
    Calls Tryd.prog 73 #[.slice A0 l0.length c0] w fun e w' => ∃ v0_ : Value, e = .returned (v0_) ∧ Kd.S k139 139 w' w.heap.size (fun _ => True) v0_ r ∧ Below w.heap.size w w' := by
  have hu139 := Tryd.underlying139
  have HR0 := iC.mk hr0
  have HC0 := iC.mk hc0
  clear hr0 hc0
  have HB := iC.mk (Below.refl w.heap.size w)
  have H : (stratumlaw07_Facts.l0 k l0 ([] : List (S139)) 0) = some r := h
  clear h
  have H' := iC.mk H
  clear H
  go_enter Tryd.func73, Tryd.ntmps73
  go_wp2
  go_loopg [3, 4] k (fun kq v3 v4 w' => ∃ (x3_1 : List (S139)) (x4_1 : Int), v4 = .int .i64 x4_1 ∧ iC (stratumlaw07_Facts.l0 kq l0 x3_1 x4_1 = some r) ∧ iC (kq ≤ k) ∧ iC (Kd.S k139 139 w' w.heap.size (fun _ => True) v3 x3_1) ∧ iC (Below w.heap.size w w'))
  case atStart => exact ⟨(([] : List (S139))), (0), (by first | rfl | (simp; done) | (simp [*]; done)), H', ⟨Nat.le_refl _⟩, ⟨by first | exact Kd.S_nil _ _ _ _ _ | exact Kd.N_nil _ _ _ _ _ | exact Kd.V_nil _ _ _ _ _ | exact Kd.Q_nil _ _ _ _ _ | exact Kd.R_nil _ _ _ _ _⟩, ⟨hb_⟩⟩
  case round =>
    clear H'
    obtain ⟨x3_1, x4_1, rfl, HA, HK1, HO_3, HB⟩ := hrel
    cases gk with
    | zero => exact absurd HA.out (by simp [stratumlaw07_Facts.l0])
    | succ k1 =>
      have H := HA.out
      clear HA
      simp only [stratumlaw07_Facts.l0] at H
      have HC2 := iC.mk H
      clear H
      go_upto_region 3 with (fail)
      go_cut [14] (fun v14 wc => ∃ (kq : Nat) (x14_1 : Bool), v14 = .bool x14_1 ∧ iC (stratumlaw07_Facts.j1 kq l0 x3_1 x4_1 x14_1 = some r) ∧ iC (kq ≤ k1) ∧ iC (Kd.S k139 139 wc w.heap.size (fun _ => True) u3 x3_1) ∧ iC (Below w.heap.size w wc))
      case first =>
        have H := HC2.out
        clear HC2
        by_cases c3 : x4_1 < (l0.length : Int)
        · rw [if_pos c3] at H
          have c3b0 : decide (x4_1 < (l0.length : Int)) = true := decide_eq_true c3
          clear c3
          (first | rw [c3b0] | (simp only [iR, jE]; rw [c3b0]) | skip)
          have H' := iC.mk H
          clear H
          go_wp2
          go_meet
          case rel => exact ⟨_, (decide (x4_1 < 60)), (by first | rfl | (simp; done) | (simp [*]; done)), H', ⟨by have := HK1.out; first | omega | exact Nat.le_refl _⟩, ⟨by (with_reducible repeat (first | apply Kd.S_alloc | apply Kd.S_drewN | apply Kd.S_drew)); exact HO_3.out⟩, ⟨hb_⟩⟩
        · rw [if_neg c3] at H
          have c3b0 : decide (x4_1 < (l0.length : Int)) = false := decide_eq_false c3
          clear c3
          (first | rw [c3b0] | (simp only [iR, jE]; rw [c3b0]) | skip)
          have H' := iC.mk H
          clear H
          go_wp2
          go_meet
          case rel => exact ⟨_, (false), (by first | rfl | (simp; done) | (simp [*]; done)), H', ⟨by have := HK1.out; first | omega | exact Nat.le_refl _⟩, ⟨by (with_reducible repeat (first | apply Kd.S_alloc | apply Kd.S_drewN | apply Kd.S_drew)); exact HO_3.out⟩, ⟨hb_⟩⟩
      case rest =>
        clear HC2
        try clear p2
        try clear c3
        try clear c3b0
        obtain ⟨kq, x14_1, rfl, HA, HJ1, HO_3, HB⟩ := hcut
        cases kq with
        | zero => exact absurd HA.out (by simp [stratumlaw07_Facts.j1])
        | succ kj1 =>
          have H := HA.out
          clear HA
          simp only [stratumlaw07_Facts.j1] at H
          by_cases c4 : x14_1 = true
          · subst c4
            have H1 : (if 0 ≤ x4_1 then (if x4_1 < (l0.length : Int) then (stratumlaw07_Facts.l1 kj1 l0 x3_1 x4_1 0 ([] : List Int) ((iY l0 x4_1).f1)) else (none)) else (none)) = some r := by rw [if_pos rfl] at H; exact H
            clear H
            have H := H1
            clear H1
            by_cases c5 : 0 ≤ x4_1
            · rw [if_pos c5] at H
              have c5b0 : decide (0 ≤ x4_1) = true := decide_eq_true c5
              clear c5
              by_cases c6 : x4_1 < (l0.length : Int)
              · rw [if_pos c6] at H
                have c6b0 : decide (x4_1 < (l0.length : Int)) = true := decide_eq_true c6
                clear c6
                have H' := iC.mk H
                clear H
                have p176 : 0 ≤ (x4_1 : Int) := of_decide_eq_true asm_
                have q176 : x4_1 < (l0.length : Int) := of_decide_eq_true asm_
                obtain ⟨ad176, A176_0, c176_0, e176, hx176_0, hx176_1, hl176_0, hi176_0⟩ := mG HR0.out x4_1 p176 q176
                cases e176
                replace hx176_0 := (HB.out.cell (World.block_lt_of_cell? w _ hx176_0)).trans hx176_0
                replace hx176_1 := (HB.out.cell (World.block_lt_of_cell? w _ hx176_1)).trans hx176_1
                have HR176_0 := iC.mk hi176_0
                have HC176_0 := iC.mk hl176_0
                clear hi176_0 hl176_0
                replace p176 := eq_true p176
                replace q176 := eq_true q176
                go_wp2_with (first | ((with_reducible refine jV (N := 5) rfl ?_); refine jQ ?hg (N := 5) ?hd (cs := #[.slice none 0 0, .int .i64 0]) (t := 139) ?hr ?_; (case hd => rfl); (case hg => rfl); (case hr => first | (go_simp; done) | (go_simp; rfl)); intro gb177 hg w7 hbox hb; have n0_ := iC.mk (Kd.S_below (Kd.S_elderB (by (with_reducible repeat (first | apply Kd.S_alloc | apply Kd.S_drewN | apply Kd.S_drew)); exact HO_3.out) gb177 (Nat.le_of_eq hg.symm)) hb); have n1_ := iC.mk (iK hb_ hb); have n2_ := iC.mk (hbox); have n3_ := iC.mk ((by rw [hg]; exact (iP hb_) : w.heap.size ≤ gb177)); have n4_ := iC.mk ((by rw [hg]; exact (iP hb_) : w.heap.size ≤ gb177)); clear HO_3; clear HB; have HO_3 := n0_; have HB := n1_; have BK177 := n2_; have GW177 := n3_; have GE177 := n4_; clear n0_ n1_ n2_ n3_ n4_; clear hb hbox hg; have hcz8_0 : w7.cell? ⟨gb177, 0, none⟩ = some (.slice none 0 0) := (iE BK177.out 0).trans rfl; have hcz8_1 : w7.cell? ⟨gb177, 1, none⟩ = some (.int .i64 0) := (iE BK177.out 1).trans rfl; have hfz8_0 := iD BK177.out 0; have hfz8_1 := iD BK177.out 1))
                go_loopg [6] kj1 (fun kq v6 w' => ∃ (x6_3 : Int) (x178000_3 : List Int) (u178000 : Value), v6 = .int .i64 x6_3 ∧ iC (stratumlaw07_Facts.l1 kq l0 x3_1 x4_1 x6_3 x178000_3 ((iY l0 x4_1).f1) = some r) ∧ iC (kq ≤ kj1) ∧ iC (Kd.S k139 139 w' w.heap.size (fun k_ => some k_ ≠ (u178000 : Value).ownBlock ∧ k_ ≠ gb177) u3 x3_1) ∧ iC (Kd.R (Kd.int .i64) 3 w' w.heap.size (fun _ => True) u178000 x178000_3) ∧ iC (w'.heap[gb177]? = some (.cells #[u178000, .int .i64 ((iY l0 x4_1).f1)] 139 (0, 0))) ∧ iC (Below w.heap.size w w'))
                case atStart => exact ⟨(0), (([] : List Int)), (.slice none 0 0), (by first | rfl | (simp; done) | (simp [*]; done)), H', ⟨Nat.le_refl _⟩, ⟨by (with_reducible repeat (first | apply Kd.S_alloc | apply Kd.S_drewN | apply Kd.S_drew)); exact Kd.S_mono (Kd.S_far (p := ⟨gb177, 1, none⟩) (Kd.S_far (p := ⟨gb177, 0, none⟩) (Kd.S_mono HO_3.out (fun k_ hk => (⟨hk, hk.2⟩ : _ ∧ k_ ≠ gb177))) (fun _ hk => hk.2) (.slice none 0 0)) (fun _ hk => hk.2) (.int .i64 ((iY l0 x4_1).f1))) (fun _ hk => ⟨(by simp [Value.ownBlock]), hk.1.2⟩)⟩, ⟨by first | exact Kd.R_nil _ _ _ _ _ | exact Kd.N_nil _ _ _ _ _ | exact Kd.V_nil _ _ _ _ _ | exact Kd.Q_nil _ _ _ _ _ | exact Kd.S_nil _ _ _ _ _⟩, ⟨by (with_reducible repeat (first | refine iL ?_ _ | refine iM ?_ | refine iI ?_ _)); refine iW (cs := #[.slice none 0 0, .int .i64 0]) ?_ 1 _ rfl; (with_reducible repeat (first | refine iL ?_ _ | refine iM ?_ | refine iI ?_ _)); refine iW (cs := #[.slice none 0 0, .int .i64 0]) ?_ 0 _ rfl; (with_reducible repeat (first | refine iL ?_ _ | refine iM ?_ | refine iI ?_ _)); exact BK177.out⟩, ⟨by repeat (first | (with_reducible first | exact HB.out | apply iG | apply iF | apply iJ | refine iH ?_ GE177.out) | exact HB.out)⟩⟩
                case round =>
                  clear H'
                  try clear c1
                  try clear p1
                  try clear q1
                  try clear hx1
                  try clear p2
                  try clear c3
                  try clear c3b0
                  try clear c4
                  try clear c5
                  try clear c5b0
                  try clear c6
                  try clear c6b0
                  try clear c7
                  try clear hcz8_0
                  try clear hcz8_1
                  try clear hfz8_0
                  try clear hfz8_1
                  try clear hx176_0
                  try clear hx176_1
                  try clear p176
                  try clear p2
                  try clear q176
                  obtain ⟨x6_3, x178000_3, u178000, rfl, HA, HK3, HO_3, HO_178000, BK177, HB⟩ := hrel
                  cases gk with
                  | zero => exact absurd HA.out (by simp [stratumlaw07_Facts.l1])
                  | succ k3 =>
                    have H := HA.out
                    clear HA
                    simp only [stratumlaw07_Facts.l1] at H
                    by_cases c9 : 0 ≤ x4_1
                    · rw [if_pos c9] at H
                      have c9b0 : decide (0 ≤ x4_1) = true := decide_eq_true c9
                      clear c9
                      by_cases c10 : x4_1 < (l0.length : Int)
                      · rw [if_pos c10] at H
                        have c10b0 : decide (x4_1 < (l0.length : Int)) = true := decide_eq_true c10
                        clear c10
                        by_cases c11 : x6_3 < (((iY l0 x4_1).f0).length : Int)
                        · rw [if_pos c11] at H
                          have c11b0 : decide (x6_3 < (((iY l0 x4_1).f0).length : Int)) = true := decide_eq_true c11
                          clear c11
                          by_cases c12 : x6_3 < 4
                          · rw [if_pos c12] at H
                            have c12b0 : decide (x6_3 < 4) = true := decide_eq_true c12
                            clear c12
                            by_cases c13 : 0 ≤ x6_3
                            · rw [if_pos c13] at H
                              have c13b0 : decide (0 ≤ x6_3) = true := decide_eq_true c13
                              clear c13
                              obtain ⟨ji14, hji14⟩ : ∃ j_ : Int, (mx (rd ((iY l0 x4_1).f0) x6_3) 0) = j_ := ⟨_, rfl⟩
                              replace H : (if x178000_3.length < 17592186044416 then (stratumlaw07_Facts.l1 k3 l0 x3_1 x4_1 (wrap64 (x6_3 + 1)) (x178000_3 ++ [(ji14) % 10000]) ((iY l0 x4_1).f1)) else (none)) = some r := by first | (rw [hji14] at H; exact H) | (simp only [hji14] at H ⊢; exact H)
                              have hji14_ : (if (rd ((iY l0 x4_1).f0) x6_3) < 0 then 0 else (rd ((iY l0 x4_1).f0) x6_3)) = ji14 := hji14
                              have hpos_ : 0 ≤ ji14 := by rw [← hji14_]; split <;> omega
                              have hmod_ : ji14.tmod 10000 = ji14 % 10000 := Int.tmod_eq_emod_of_nonneg hpos_
                              by_cases c15 : x178000_3.length < 17592186044416
                              · rw [if_pos c15] at H
                                have LMc15 := iC.mk c15
                                clear c15
                                obtain ⟨y181, hy181⟩ : ∃ y_ : List Int, y_ = (x178000_3 ++ [(ji14) % 10000]) := ⟨_, rfl⟩
                                replace H : (stratumlaw07_Facts.l1 k3 l0 x3_1 x4_1 (wrap64 (x6_3 + 1)) y181 ((iY l0 x4_1).f1)) = some r := by first | (rw [hy181]; with_reducible exact H) | (have H2_ := (Option.bind_some _ _).symm.trans H; rw [hy181]; with_reducible exact H2_) | (have H2_ := (Option.bind_some _ _).symm.trans H; with_reducible exact H2_) | with_reducible exact H | (rw [hy181]; exact H) | exact H
                                have Ny181 := iC.mk hy181
                                clear hy181
                                have H' := iC.mk H
                                clear H
                                have p178 : 0 ≤ (x4_1 : Int) := of_decide_eq_true asm_
                                have q178 : x4_1 < (l0.length : Int) := of_decide_eq_true asm_
                                obtain ⟨ad178, A178_0, c178_0, e178, hx178_0, hx178_1, hl178_0, hi178_0⟩ := mG HR0.out x4_1 p178 q178
                                obtain rfl : ad176 = ad178 := (by injection e178)
                                replace hx178_0 := (HB.out.cell (World.block_lt_of_cell? w _ hx178_0)).trans hx178_0
                                replace hx178_1 := (HB.out.cell (World.block_lt_of_cell? w _ hx178_1)).trans hx178_1
                                have HR178_0 := iC.mk hi178_0
                                have HC178_0 := iC.mk hl178_0
                                clear hi178_0 hl178_0
                                replace p178 := eq_true p178
                                replace q178 := eq_true q178
                                try go_wp2
                                have n0_ := iC.mk (Kd.S_drew HO_3.out)
                                have n1_ := iC.mk (Kd.R_drew HO_178000.out)
                                have n2_ := iC.mk (iM BK177.out)
                                have n3_ := iC.mk (iJ HB.out)
                                clear HO_3
                                clear HO_178000
                                clear BK177
                                clear HB
                                have HO_3 := n0_
                                have HO_178000 := n1_
                                have BK177 := n2_
                                have HB := n3_
                                clear n0_ n1_ n2_ n3_
                                have p179 : 0 ≤ (x4_1 : Int) := of_decide_eq_true asm_
                                have q179 : x4_1 < (l0.length : Int) := of_decide_eq_true asm_
                                obtain ⟨ad179, A179_0, c179_0, e179, hx179_0, hx179_1, hl179_0, hi179_0⟩ := mG HR0.out x4_1 p179 q179
                                have hw179_1 := hx179_1
                                have hw179_0 := hx179_0
                                obtain rfl : ad176 = ad179 := (by injection e179)
                                replace hx179_0 := (HB.out.cell (World.block_lt_of_cell? w _ hx179_0)).trans hx179_0
                                replace hx179_1 := (HB.out.cell (World.block_lt_of_cell? w _ hx179_1)).trans hx179_1
                                have HR179_0 := iC.mk hi179_0
                                have HC179_0 := iC.mk hl179_0
                                clear hi179_0 hl179_0
                                replace p179 := eq_true p179
                                replace q179 := eq_true q179
                                have p180 : 0 ≤ (x6_3 : Int) := of_decide_eq_true asm_
                                have q180 : x6_3 < (((iY l0 x4_1).f0).length : Int) := of_decide_eq_true asm_
                                obtain ⟨ad180, e180, hx180_0⟩ := Kd.at_int HR179_0.out x6_3 p180 q180
                                have hw180_0 := hx180_0
                                cases e180
                                replace hx180_0 := (HB.out.cell (World.block_lt_of_cell? w _ hx180_0)).trans hx180_0
                                replace p180 := eq_true p180
                                replace q180 := eq_true q180
                                refine qF (n := 16) (S := fun w' => w'.cell? ⟨gb177, 0, none⟩ = some (u178000) ∧ w'.cell? ⟨gb177, 1, none⟩ = some (.int .i64 ((iY l0 x4_1).f1)) ∧ w'.cell? (ad176.add ((x4_1).toNat * 2)) = some (.slice (some ad180) ((iY l0 x4_1).f0).length c179_0) ∧ w'.cell? ⟨(ad176.add ((x4_1).toNat * 2)).block, (ad176.add ((x4_1).toNat * 2)).off + 1, none⟩ = some (.int .i64 ((iY l0 x4_1).f1)) ∧ w'.cell? (ad180.add (x6_3).toNat) = some (.int .i64 (rd ((iY l0 x4_1).f0) x6_3))) (ds := [15]) #[false, false, false, false, false, false, false, false, false, false, false, false, false, false, false, false] (by kernel_rfl) rfl rfl ⟨(iE BK177.out 0).trans rfl, (iE BK177.out 1).trans rfl, ((HB.out.cell (World.block_lt_of_cell? w _ hw179_0)).trans hw179_0), ((HB.out.cell (World.block_lt_of_cell? w _ hw179_1)).trans hw179_1), ((HB.out.cell (World.block_lt_of_cell? w _ hw180_0)).trans hw180_0)⟩ (fun hHeld => ?_); refine mO stratumlaw07_Facts.tab9 stratumlaw07_Facts.bits9 (fun HT_ HW_ => ?_)
                                generalize wr.drew = w16 at HO_3 HO_178000 BK177 HB HR179_0 hx179_0 hx179_1 hx180_0 hHeld ⊢
                                refine jK (i := 0) (N := some 37) (v := ?_) (a' := ?_) #[true, false, false, false, false, false, false, false, false, false, false, false, false, false, false, false] rfl rfl (jD HT_.out (by kernel_rfl)) (fun _ _ _ h => h) (Or.inl ⟨by rfl, ?_⟩) ?_ ?_
                                rotate_left
                                · intro w'
                                  go_simp
                                  with_reducible rfl
                                rotate_left
                                · simp only [Act.put, List.setIfInBounds_toArray, List.set_cons_zero, List.set_cons_succ, iR, jE]
                                  rfl
                                refine jK (i := 2) (N := some 39) (v := ?_) (a' := ?_) #[true, false, true, false, false, false, false, false, false, false, false, false, false, false, false, false] rfl rfl (jD HT_.out (by kernel_rfl)) (fun _ _ _ h => h) (Or.inl ⟨by rfl, ?_⟩) ?_ ?_
                                rotate_left
                                · intro w'
                                  go_simp
                                  with_reducible rfl
                                rotate_left
                                · simp only [Act.put, List.setIfInBounds_toArray, List.set_cons_zero, List.set_cons_succ, iR, jE]
                                  rfl
                                refine jK (i := 3) (N := some 40) (v := ?_) (a' := ?_) #[true, false, true, true, false, false, false, false, false, false, false, false, false, false, false, false] rfl rfl (jD HT_.out (by kernel_rfl)) (fun _ _ _ h => h) (Or.inl ⟨by rfl, ?_⟩) ?_ ?_
                                rotate_left
                                · intro w'
                                  go_simp
                                  with_reducible rfl
                                rotate_left
                                · simp only [Act.put, List.setIfInBounds_toArray, List.set_cons_zero, List.set_cons_succ, iR, jE]
                                  rfl
                                refine jK (i := 4) (N := some 41) (v := ?_) (a' := ?_) #[true, false, true, true, true, false, false, false, false, false, false, false, false, false, false, false] rfl rfl (jD HT_.out (by kernel_rfl)) (fun _ _ _ h => h) (Or.inl ⟨by rfl, ?_⟩) ?_ ?_
                                rotate_left
                                · intro w'
                                  go_simp
                                  with_reducible rfl
                                rotate_left
                                · simp only [Act.put, List.setIfInBounds_toArray, List.set_cons_zero, List.set_cons_succ, iR, jE]
                                  rfl
                                refine jK (i := 5) (N := some 42) (v := ?_) (a' := ?_) #[true, false, true, true, true, true, false, false, false, false, false, false, false, false, false, false] rfl rfl (jD HT_.out (by kernel_rfl)) (fun _ _ _ h => h) (Or.inl ⟨by rfl, ?_⟩) ?_ ?_
                                rotate_left
                                · intro w'
                                  go_simp
                                  with_reducible rfl
                                rotate_left
                                · simp only [Act.put, List.setIfInBounds_toArray, List.set_cons_zero, List.set_cons_succ, iR, jE]
                                  rfl
                                refine jK (i := 7) (N := some 44) (v := ?_) (a' := ?_) #[true, false, true, true, true, true, false, true, false, false, false, false, false, false, false, false] rfl rfl (jD HT_.out (by kernel_rfl)) (fun _ _ _ h => h) (Or.inl ⟨by rfl, ?_⟩) ?_ ?_
                                rotate_left
                                · intro w'
                                  go_simp
                                  with_reducible rfl
                                rotate_left
                                · simp only [Act.put, List.setIfInBounds_toArray, List.set_cons_zero, List.set_cons_succ, iR, jE]
                                  rfl
                                refine rJ (i := 1) (N := some 38) (v := ?_) (a' := ?_) #[true, true, true, true, true, true, false, true, false, false, false, false, false, false, false, false] rfl rfl (lD HT_.out HW_.out (by kernel_rfl)) (fun _ _ _ h => h) (Or.inl ⟨by rfl, ?_⟩) hHeld ?_ ?_
                                rotate_left
                                · rintro w' ⟨s0, s1, s2, s3, s4⟩
                                  go_simp
                                  with_reducible rfl
                                rotate_left
                                · simp only [Act.put, List.setIfInBounds_toArray, List.set_cons_zero, List.set_cons_succ, iR, jE]
                                  rfl
                                refine rJ (i := 6) (N := some 43) (v := ?_) (a' := ?_) #[true, true, true, true, true, true, true, true, false, false, false, false, false, false, false, false] rfl rfl (lD HT_.out HW_.out (by kernel_rfl)) (fun _ _ _ h => h) (Or.inl ⟨by rfl, ?_⟩) hHeld ?_ ?_
                                rotate_left
                                · rintro w' ⟨s0, s1, s2, s3, s4⟩
                                  go_simp
                                  with_reducible rfl
                                rotate_left
                                · simp only [Act.put, List.setIfInBounds_toArray, List.set_cons_zero, List.set_cons_succ, iR, jE]
                                  rfl
                                refine jK (i := 8) (N := some 45) (v := ?_) (a' := ?_) #[true, true, true, true, true, true, true, true, true, false, false, false, false, false, false, false] rfl rfl (jD HT_.out (by kernel_rfl)) (fun _ _ _ h => h) (Or.inl ⟨by rfl, ?_⟩) ?_ ?_
                                rotate_left
                                · intro w'
                                  go_simp
                                  with_reducible rfl
                                rotate_left
                                · simp only [Act.put, List.setIfInBounds_toArray, List.set_cons_zero, List.set_cons_succ, iR, jE]
                                  rfl
                                refine rJ (i := 9) (N := some 46) (v := ?_) (a' := ?_) #[true, true, true, true, true, true, true, true, true, true, false, false, false, false, false, false] rfl rfl (lD HT_.out HW_.out (by kernel_rfl)) (fun _ _ _ h => h) (Or.inl ⟨by rfl, ?_⟩) hHeld ?_ ?_
                                rotate_left
                                · rintro w' ⟨s0, s1, s2, s3, s4⟩
                                  go_simp
                                  with_reducible rfl
                                rotate_left
                                · simp only [Act.put, List.setIfInBounds_toArray, List.set_cons_zero, List.set_cons_succ, iR, jE]
                                  rfl
                                refine jK (i := 10) (N := some 47) (v := ?_) (a' := ?_) #[true, true, true, true, true, true, true, true, true, true, true, false, false, false, false, false] rfl rfl (jD HT_.out (by kernel_rfl)) (fun _ _ _ h => h) (Or.inl ⟨by rfl, ?_⟩) ?_ ?_
                                rotate_left
                                · intro w'
                                  go_simp
                                  with_reducible rfl
                                rotate_left
                                · simp only [Act.put, List.setIfInBounds_toArray, List.set_cons_zero, List.set_cons_succ, iR, jE]
                                  rfl
                                refine jK (i := 11) (N := some 48) (v := ?_) (a' := ?_) #[true, true, true, true, true, true, true, true, true, true, true, true, false, false, false, false] rfl rfl (jD HT_.out (by kernel_rfl)) (fun _ _ _ h => h) (Or.inl ⟨by rfl, ?_⟩) ?_ ?_
                                rotate_left
                                · intro w'
                                  go_simp
                                  with_reducible rfl
                                rotate_left
                                · simp only [Act.put, List.setIfInBounds_toArray, List.set_cons_zero, List.set_cons_succ, iR, jE]
                                  rfl
                                refine one_ (i := 12) (N := some 49) #[true, true, true, true, true, true, true, true, true, true, true, true, true, false, false, false] rfl rfl (lL HT_.out (by kernel_rfl)) (by decide) (fun K hK => ?_)
                                refine jJ (w1 := ?_) (v := ?_) (by rfl) rfl ?_ ?_
                                rotate_left 2
                                · go_simp
                                  constructor
                                  · rfl
                                  · rfl
                                refine hK.out _ _ ⟨(iE (iI BK177.out _) 0).trans rfl, (iE (iI BK177.out _) 1).trans rfl, (World.cell?_alloc_lt _ _ _ (World.block_lt_of_cell? _ _ (((HB.out.cell (World.block_lt_of_cell? w _ hw179_0)).trans hw179_0)))).trans (((HB.out.cell (World.block_lt_of_cell? w _ hw179_0)).trans hw179_0)), (World.cell?_alloc_lt _ _ _ (World.block_lt_of_cell? _ _ (((HB.out.cell (World.block_lt_of_cell? w _ hw179_1)).trans hw179_1)))).trans (((HB.out.cell (World.block_lt_of_cell? w _ hw179_1)).trans hw179_1)), (World.cell?_alloc_lt _ _ _ (World.block_lt_of_cell? _ _ (((HB.out.cell (World.block_lt_of_cell? w _ hw180_0)).trans hw180_0)))).trans (((HB.out.cell (World.block_lt_of_cell? w _ hw180_0)).trans hw180_0))⟩ (fun hHeld => ?_)
                                clear hK K
                                refine lI (a' := ?_) ?_ ?_
                                rotate_left
                                · show Act.put _ (some 49) _ = _
                                  simp only [Act.put, List.setIfInBounds_toArray, List.set_cons_zero, List.set_cons_succ, iR, jE]
                                  rfl
                                refine one_ (i := 13) (N := some 50) #[true, true, true, true, true, true, true, true, true, true, true, true, true, true, false, false] rfl rfl (lL HT_.out (by kernel_rfl)) (by decide) (fun K hK => ?_)
                                refine Kd.R_append_step (Kd.int .i64) (w0 := w) w.heap.size (by rfl) (.tmp 38) (.tmp 49) 23 3 (.int .i64 0) 8 rfl Tryd.underlying23 info3 rfl (by decide) (by omega) u178000 x178000_3 ((ji14) % 10000) [.int .i64 ((ji14) % 10000)] (fun _ => True) (fun _ => False) rfl rfl ?aP (fun _ hk => hk.elim) ?aF ?aO ?aB ?aS ?aL ?_
                                (case aP => exact rfl)
                                (case aB => exact (by repeat (first | (with_reducible first | exact HB.out | apply iG | apply iF | apply iJ | refine iH ?_ GE177.out) | exact HB.out)))
                                (case aF => exact (fun _ _ => trivial))
                                (case aO => exact (by (with_reducible repeat (first | apply Kd.R_alloc | apply Kd.R_drewN | apply Kd.R_drew)); exact HO_178000.out))
                                (case aS => exact (iP (by repeat (first | (with_reducible first | exact HB.out | apply iG | apply iF | apply iJ | refine iH ?_ GE177.out) | exact HB.out))))
                                (case aL => have := LMc15.out; omega)
                                intro v182 w17 ho hb hg hat
                                rw [← Ny181.out] at ho
                                have n0_ := iC.mk (Kd.S_after (ok := (fun k_ => k_ ≠ gb177)) (by (with_reducible repeat (first | apply Kd.S_alloc | apply Kd.S_drewN | apply Kd.S_drew)); exact Kd.S_mono HO_3.out (fun _ hk => ⟨hk.2, hk.1⟩)) hg hat)
                                have n1_ := iC.mk (mV (g := gb177) (o := .cells #[u178000, .int .i64 ((iY l0 x4_1).f1)] 139 (0, 0)) (bk_ BK177.out) hg (Kd.R_ne HO_178000.out BK177.out (by decide)))
                                have n2_ := iC.mk (hb)
                                have n3_ := iC.mk (ho)
                                clear HO_3
                                clear BK177
                                clear HB
                                clear HO_178000
                                have HO_3 := n0_
                                have BK177 := n1_
                                have HB := n2_
                                have HO183 := n3_
                                clear n0_ n1_ n2_ n3_
                                clear ho hb hg hat
                                obtain ⟨Ao18, co18, eo18⟩ := Kd.R_slice HO183.out
                                (first | subst eo18 | (injection eo18 with f1_ f2_ f3_; have f4_ := f1_.symm; have f5_ := f3_.symm; clear f1_ f2_ f3_; subst f4_; subst f5_))
                                refine hK.out _ _ ⟨(iE BK177.out 0).trans rfl, (iE BK177.out 1).trans rfl, ((HB.out.cell (World.block_lt_of_cell? w _ hw179_0)).trans hw179_0), ((HB.out.cell (World.block_lt_of_cell? w _ hw179_1)).trans hw179_1), ((HB.out.cell (World.block_lt_of_cell? w _ hw180_0)).trans hw180_0)⟩ (fun hHeld => ?_)
                                clear hK K
                                refine lI (a' := ?_) ?_ ?_
                                rotate_left
                                · show Act.put _ (some 50) _ = _
                                  simp only [Act.put, List.setIfInBounds_toArray, List.set_cons_zero, List.set_cons_succ, iR, jE]
                                  rfl
                                refine jK (i := 14) (N := some 51) (v := ?_) (a' := ?_) #[true, true, true, true, true, true, true, true, true, true, true, true, true, true, true, false] rfl rfl (jD HT_.out (by kernel_rfl)) (fun _ _ _ h => h) (Or.inl ⟨by rfl, ?_⟩) ?_ ?_
                                rotate_left
                                · intro w'
                                  go_simp
                                  with_reducible rfl
                                rotate_left
                                · simp only [Act.put, List.setIfInBounds_toArray, List.set_cons_zero, List.set_cons_succ, iR, jE]
                                  rfl
                                refine ZZ (i := 15) (N := none) #[true, true, true, true, true, true, true, true, true, true, true, true, true, true, true, true] rfl rfl (lL HT_.out (by kernel_rfl)) (by decide) (fun K hK => ?_)
                                have hs19 : w17.cell? ⟨gb177, 0, none⟩ = some (u178000) := (iE BK177.out 0).trans rfl
                                have hfs19 := iD BK177.out 0
                                refine VS (w1 := ?_) (by rfl) rfl ?_ ?_
                                rotate_left
                                · go_simp
                                  rfl
                                refine hK.out _ _ ?_
                                clear hK K
                                refine IW (pR HT_.out (by kernel_rfl)) ?_
                                try go_wp2
                                go_roundg k3
                                case measure => have := HK1.out; have := HJ1.out; have := HK3.out; omega
                                case rel => exact ⟨(wrap64 (x6_3 + 1)), (y181), (.slice Ao18 y181.length co18), (by first | rfl | (simp; done) | (simp [*]; done)), H', ⟨by have := HK1.out; have := HJ1.out; have := HK3.out; omega⟩, ⟨by (with_reducible repeat (first | apply Kd.S_alloc | apply Kd.S_drewN | apply Kd.S_drew)); exact Kd.S_mono (Kd.S_far (p := ⟨gb177, 0, none⟩) (Kd.S_mono HO_3.out (fun k_ hk => (⟨hk, hk.1⟩ : _ ∧ k_ ≠ gb177))) (fun _ hk => hk.2) (.slice Ao18 y181.length co18)) (fun _ hk => ⟨hk.1.2, hk.1.1⟩)⟩, ⟨by (with_reducible repeat (first | apply Kd.R_alloc | apply Kd.R_drewN | apply Kd.R_drew)); exact Kd.R_mono (Kd.R_far (p := ⟨gb177, 0, none⟩) (Kd.R_types HO183.out BK177.out (by decide)) (fun _ hk => hk.2) (.slice Ao18 y181.length co18)) (fun _ hk => trivial)⟩, ⟨by (with_reducible repeat (first | refine iL ?_ _ | refine iM ?_ | refine iI ?_ _)); refine iW (cs := #[u178000, .int .i64 ((iY l0 x4_1).f1)]) ?_ 0 _ rfl; (with_reducible repeat (first | refine iL ?_ _ | refine iM ?_ | refine iI ?_ _)); exact BK177.out⟩, ⟨by repeat (first | (with_reducible first | exact HB.out | apply iG | apply iF | apply iJ | refine iH ?_ GE177.out) | exact HB.out)⟩⟩
                              · rw [if_neg c15] at H
                                exact absurd H (by simp)
                            · rw [if_neg c13] at H
                              exact absurd H (by simp)
                          · rw [if_neg c12] at H
                            have c12b0 : decide (x6_3 < 4) = false := decide_eq_false c12
                            clear c12
                            by_cases c20 : x3_1.length < 4398046511104
                            · rw [if_pos c20] at H
                              have LMc20 := iC.mk c20
                              clear c20
                              obtain ⟨y184, hy184⟩ : ∃ y_ : List (S139), y_ = (x3_1 ++ [(⟨x178000_3, ((iY l0 x4_1).f1)⟩ : S139)]) := ⟨_, rfl⟩
                              replace H : (stratumlaw07_Facts.l0 k3 l0 y184 (wrap64 (x4_1 + 1))) = some r := by first | (rw [hy184]; with_reducible exact H) | (have H2_ := (Option.bind_some _ _).symm.trans H; rw [hy184]; with_reducible exact H2_) | (have H2_ := (Option.bind_some _ _).symm.trans H; with_reducible exact H2_) | with_reducible exact H | (rw [hy184]; exact H) | exact H
                              have Ny184 := iC.mk hy184
                              clear hy184
                              have H' := iC.mk H
                              clear H
                              have p178 : 0 ≤ (x4_1 : Int) := of_decide_eq_true asm_
                              have q178 : x4_1 < (l0.length : Int) := of_decide_eq_true asm_
                              obtain ⟨ad178, A178_0, c178_0, e178, hx178_0, hx178_1, hl178_0, hi178_0⟩ := mG HR0.out x4_1 p178 q178
                              obtain rfl : ad176 = ad178 := (by injection e178)
                              replace hx178_0 := (HB.out.cell (World.block_lt_of_cell? w _ hx178_0)).trans hx178_0
                              replace hx178_1 := (HB.out.cell (World.block_lt_of_cell? w _ hx178_1)).trans hx178_1
                              have HR178_0 := iC.mk hi178_0
                              have HC178_0 := iC.mk hl178_0
                              clear hi178_0 hl178_0
                              replace p178 := eq_true p178
                              replace q178 := eq_true q178
                              have hcz21_0 : wr.cell? ⟨gb177, 0, none⟩ = some (u178000) := (iE BK177.out 0).trans rfl
                              have hcz21_1 : wr.cell? ⟨gb177, 1, none⟩ = some (.int .i64 ((iY l0 x4_1).f1)) := (iE BK177.out 1).trans rfl
                              have hfz21_0 := iD BK177.out 0
                              have hfz21_1 := iD BK177.out 1
                              obtain ⟨Ao23, co23, eo23⟩ := Kd.R_slice HO_178000.out
                              subst eo23
                              go_wp2_with (first | ((with_reducible refine oH (b := .append) (xs := #[.tmp 52, .tmp 54]) rfl ?_); at_builtin; refine Kd.S_append k139 (w0 := w) w.heap.size rfl (.tmp 52) (.tmp 54) 24 139 (.agg #[(.slice none 0 0), (.int .i64 0)]) 32 rfl Tryd.underlying24 UK rfl (by decide) (by omega) u3 x3_1 (⟨x178000_3, ((iY l0 x4_1).f1)⟩ : S139) [.slice Ao23 x178000_3.length co23, .int .i64 ((iY l0 x4_1).f1)] (fun k_ => k_ ≠ gb177) (fun k_ => some k_ = (.slice Ao23 x178000_3.length co23 : Value).ownBlock) rfl rfl ?aP (fun k_ hk_ => ((Kd.R_mono (ok' := fun k_ => ((fun k_ => k_ ≠ gb177)) k_ ∧ some k_ ≠ (u3 : Value).ownBlock) (Kd.R_types (Kd.R_apart' (HO_178000.out) (Kd.S_typed HO_3.out) (by decide)) BK177.out (by decide)) (fun k_ hk => ⟨hk.2, hk.1.2⟩))).1 k_ hk_.symm) ?aF ?aO ?aB ?aS ?aL ?_; (case aP => exact J5 _ _ _ (⟨x178000_3, ((iY l0 x4_1).f1)⟩ : S139) (Kd.R_mono (Kd.R_tight rfl (Kd.R_mono (ok' := fun k_ => ((fun k_ => k_ ≠ gb177)) k_ ∧ some k_ ≠ (u3 : Value).ownBlock) (Kd.R_types (Kd.R_apart' (HO_178000.out) (Kd.S_typed HO_3.out) (by decide)) BK177.out (by decide)) (fun k_ hk => ⟨hk.2, hk.1.2⟩))) (fun _ h_ => h_))); (case aB => exact (by repeat (first | (with_reducible first | exact HB.out | apply iG | apply iF | apply iJ | refine iH ?_ GE177.out) | exact HB.out))); (case aF => exact (fun k_ hk => Kd.freshB (g := gb177) (o := .cells #[.slice Ao23 x178000_3.length co23, .int .i64 ((iY l0 x4_1).f1)] 139 (0, 0)) (bk_ BK177.out) k_ hk)); (case aO => exact (by (with_reducible repeat (first | apply Kd.S_alloc | apply Kd.S_drewN | apply Kd.S_drew)); exact Kd.S_mono HO_3.out (fun k_ hk => ⟨hk.2, fun e_ => hk.1 e_⟩))); (case aS => exact (iP (by repeat (first | (with_reducible first | exact HB.out | apply iG | apply iF | apply iJ | refine iH ?_ GE177.out) | exact HB.out)))); (case aL => have := LMc20.out; omega); intro v185 w22 ho hb hg hat; rw [← Ny184.out] at ho; have n0_ := iC.mk (mV (g := gb177) (o := .cells #[.slice Ao23 x178000_3.length co23, .int .i64 ((iY l0 x4_1).f1)] 139 (0, 0)) (bk_ BK177.out) hg (Kd.S_away HO_3.out (fun _ hk => hk.2))); have n1_ := iC.mk (hb); have n2_ := iC.mk (ho); clear BK177; clear HB; clear HO_3; clear HO_178000; have BK177 := n0_; have HB := n1_; have HO186 := n2_; clear n0_ n1_ n2_; clear ho hb hg hat))
                              go_roundg k3
                              case measure => have := HK1.out; have := HJ1.out; have := HK3.out; omega
                              case rel => exact ⟨(y184), (wrap64 (x4_1 + 1)), (by first | rfl | (simp; done) | (simp [*]; done)), H', ⟨by have := HK1.out; have := HJ1.out; have := HK3.out; omega⟩, ⟨by (with_reducible repeat (first | apply Kd.S_alloc | apply Kd.S_drewN | apply Kd.S_drew)); exact Kd.S_mono HO186.out (fun _ hk => trivial)⟩, ⟨by repeat (first | (with_reducible first | exact HB.out | apply iG | apply iF | apply iJ | refine iH ?_ GE177.out) | exact HB.out)⟩⟩
                            · rw [if_neg c20] at H
                              exact absurd H (by simp)
                        · rw [if_neg c11] at H
                          have c11b0 : decide (x6_3 < (((iY l0 x4_1).f0).length : Int)) = false := decide_eq_false c11
                          clear c11
                          by_cases c24 : x3_1.length < 4398046511104
                          · rw [if_pos c24] at H
                            have LMc24 := iC.mk c24
                            clear c24
                            obtain ⟨y187, hy187⟩ : ∃ y_ : List (S139), y_ = (x3_1 ++ [(⟨x178000_3, ((iY l0 x4_1).f1)⟩ : S139)]) := ⟨_, rfl⟩
                            replace H : (stratumlaw07_Facts.l0 k3 l0 y187 (wrap64 (x4_1 + 1))) = some r := by first | (rw [hy187]; with_reducible exact H) | (have H2_ := (Option.bind_some _ _).symm.trans H; rw [hy187]; with_reducible exact H2_) | (have H2_ := (Option.bind_some _ _).symm.trans H; with_reducible exact H2_) | with_reducible exact H | (rw [hy187]; exact H) | exact H
                            have Ny187 := iC.mk hy187
                            clear hy187
                            have H' := iC.mk H
                            clear H
                            have p178 : 0 ≤ (x4_1 : Int) := of_decide_eq_true asm_
                            have q178 : x4_1 < (l0.length : Int) := of_decide_eq_true asm_
                            obtain ⟨ad178, A178_0, c178_0, e178, hx178_0, hx178_1, hl178_0, hi178_0⟩ := mG HR0.out x4_1 p178 q178
                            obtain rfl : ad176 = ad178 := (by injection e178)
                            replace hx178_0 := (HB.out.cell (World.block_lt_of_cell? w _ hx178_0)).trans hx178_0
                            replace hx178_1 := (HB.out.cell (World.block_lt_of_cell? w _ hx178_1)).trans hx178_1
                            have HR178_0 := iC.mk hi178_0
                            have HC178_0 := iC.mk hl178_0
                            clear hi178_0 hl178_0
                            replace p178 := eq_true p178
                            replace q178 := eq_true q178
                            have hcz25_0 : wr.cell? ⟨gb177, 0, none⟩ = some (u178000) := (iE BK177.out 0).trans rfl
                            have hcz25_1 : wr.cell? ⟨gb177, 1, none⟩ = some (.int .i64 ((iY l0 x4_1).f1)) := (iE BK177.out 1).trans rfl
                            have hfz25_0 := iD BK177.out 0
                            have hfz25_1 := iD BK177.out 1
                            obtain ⟨Ao27, co27, eo27⟩ := Kd.R_slice HO_178000.out
                            subst eo27
                            go_wp2_with (first | ((with_reducible refine oH (b := .append) (xs := #[.tmp 52, .tmp 54]) rfl ?_); at_builtin; refine Kd.S_append k139 (w0 := w) w.heap.size rfl (.tmp 52) (.tmp 54) 24 139 (.agg #[(.slice none 0 0), (.int .i64 0)]) 32 rfl Tryd.underlying24 UK rfl (by decide) (by omega) u3 x3_1 (⟨x178000_3, ((iY l0 x4_1).f1)⟩ : S139) [.slice Ao27 x178000_3.length co27, .int .i64 ((iY l0 x4_1).f1)] (fun k_ => k_ ≠ gb177) (fun k_ => some k_ = (.slice Ao27 x178000_3.length co27 : Value).ownBlock) rfl rfl ?aP (fun k_ hk_ => ((Kd.R_mono (ok' := fun k_ => ((fun k_ => k_ ≠ gb177)) k_ ∧ some k_ ≠ (u3 : Value).ownBlock) (Kd.R_types (Kd.R_apart' (HO_178000.out) (Kd.S_typed HO_3.out) (by decide)) BK177.out (by decide)) (fun k_ hk => ⟨hk.2, hk.1.2⟩))).1 k_ hk_.symm) ?aF ?aO ?aB ?aS ?aL ?_; (case aP => exact J5 _ _ _ (⟨x178000_3, ((iY l0 x4_1).f1)⟩ : S139) (Kd.R_mono (Kd.R_tight rfl (Kd.R_mono (ok' := fun k_ => ((fun k_ => k_ ≠ gb177)) k_ ∧ some k_ ≠ (u3 : Value).ownBlock) (Kd.R_types (Kd.R_apart' (HO_178000.out) (Kd.S_typed HO_3.out) (by decide)) BK177.out (by decide)) (fun k_ hk => ⟨hk.2, hk.1.2⟩))) (fun _ h_ => h_))); (case aB => exact (by repeat (first | (with_reducible first | exact HB.out | apply iG | apply iF | apply iJ | refine iH ?_ GE177.out) | exact HB.out))); (case aF => exact (fun k_ hk => Kd.freshB (g := gb177) (o := .cells #[.slice Ao27 x178000_3.length co27, .int .i64 ((iY l0 x4_1).f1)] 139 (0, 0)) (bk_ BK177.out) k_ hk)); (case aO => exact (by (with_reducible repeat (first | apply Kd.S_alloc | apply Kd.S_drewN | apply Kd.S_drew)); exact Kd.S_mono HO_3.out (fun k_ hk => ⟨hk.2, fun e_ => hk.1 e_⟩))); (case aS => exact (iP (by repeat (first | (with_reducible first | exact HB.out | apply iG | apply iF | apply iJ | refine iH ?_ GE177.out) | exact HB.out)))); (case aL => have := LMc24.out; omega); intro v188 w26 ho hb hg hat; rw [← Ny187.out] at ho; have n0_ := iC.mk (mV (g := gb177) (o := .cells #[.slice Ao27 x178000_3.length co27, .int .i64 ((iY l0 x4_1).f1)] 139 (0, 0)) (bk_ BK177.out) hg (Kd.S_away HO_3.out (fun _ hk => hk.2))); have n1_ := iC.mk (hb); have n2_ := iC.mk (ho); clear BK177; clear HB; clear HO_3; clear HO_178000; have BK177 := n0_; have HB := n1_; have HO189 := n2_; clear n0_ n1_ n2_; clear ho hb hg hat))
                            go_roundg k3
                            case measure => have := HK1.out; have := HJ1.out; have := HK3.out; omega
                            case rel => exact ⟨(y187), (wrap64 (x4_1 + 1)), (by first | rfl | (simp; done) | (simp [*]; done)), H', ⟨by have := HK1.out; have := HJ1.out; have := HK3.out; omega⟩, ⟨by (with_reducible repeat (first | apply Kd.S_alloc | apply Kd.S_drewN | apply Kd.S_drew)); exact Kd.S_mono HO189.out (fun _ hk => trivial)⟩, ⟨by repeat (first | (with_reducible first | exact HB.out | apply iG | apply iF | apply iJ | refine iH ?_ GE177.out) | exact HB.out)⟩⟩
                          · rw [if_neg c24] at H
                            exact absurd H (by simp)
                      · rw [if_neg c10] at H
                        exact absurd H (by simp)
                    · rw [if_neg c9] at H
                      exact absurd H (by simp)
              · rw [if_neg c6] at H
                exact absurd H (by simp)
            · rw [if_neg c5] at H
              exact absurd H (by simp)
          · replace c4 := Bool.eq_false_iff.mpr c4
            subst c4
            have H1 : (some x3_1) = some r := by rw [if_neg (show ¬ (false = true) by decide)] at H; exact H
            clear H
            have H := H1
            clear H1
            obtain rfl := Option.some.inj H
            go_wp2
            go_ret
            exact ⟨_, by first | rfl | (simp [iV, iU] <;> rfl) | (simp [*, iV, iU] <;> rfl), by (with_reducible repeat (first | apply Kd.S_alloc | apply Kd.S_drewN | apply Kd.S_drew)); exact HO_3.out, hb_⟩
theorem stratumlaw07_Facts.calls (k : Nat) (A0 : Option Addr) (c0 : Nat) (l0 : List (S139)) (r : List (S139)) (w : World) (hr0 : Kd.C k139 w A0 l0.length l0) (hc0 : l0.length ≤ c0) (h : stratumlaw07_Facts.f k l0 = some r) :
    Calls Tryd.prog 73 #[.slice A0 l0.length c0] w fun e w' => ∃ v0_ : Value, e = .returned (v0_) ∧ Kd.R k139 139 w' w.heap.size (fun _ => True) v0_ r ∧ Below w.heap.size w w' :=
  (stratumlaw07_Facts.callsS k A0 c0 l0 r w hr0 hc0 h).mono fun _ _ ⟨v, he, hs, hb⟩ => ⟨v, he, Kd.S_R hs, hb⟩
end Go.Proofs.YtgfkgppomaapiaaDoor.K
end
