/- Parts of the proof, one behind the other: RefO0, RefO, RefQ, MsgP, MsgR, MsgS, BytesW, MsgE, MsgD, MsgN, MsgQ, MsgT, MsgW2, MsgV, MsgX. -/
import Derived.Test.YtgfkgppomaapiaaDoorQMsgDecodes7
import Derived.Lib.SliceRun
set_option linter.unusedVariables false
set_option linter.unusedSimpArgs false
section
namespace Go.Proofs.YtgfkgppomaapiaaDoor.K
open RowKit YtgfkgppomaapiaaDoorW.PrintWords YtgfkgppomaapiaaDoorW.PrintLast YtgfkgppomaapiaaDoorW.PrintMore My
theorem QP (s least : Nat) (S T : Int) (hS : S = s) (hT : T = least) (hs8 : s ≤ 8) (h1 : 1 ≤ least) (g : Nat) (l : List UInt8) (b : Bool) (w0 w : World) (h : RB w0 w g l b) (hb : Below w0.heap.size w0 w) :
    Calls Tryd.prog 101 #[.pointer (some ⟨g, 0, none⟩), .int .i64 S, .int .i64 T] w fun e w' => ∃ (n : Nat) (l' : List UInt8) (b' : Bool), e = .returned (.int .i64 (n : Int)) ∧ RB w0 w' g l' b' ∧ w.grownBy w' (some g) ∧ (l'.length ≤ l.length ∧ n * least ≤ l'.length) ∧ ((b' = false → b = false ∧ many s least l = some (n, l')) ∧ (b' = true → n = 0 ∧ (b = true ∨ many s least l = none))) := by
  cases b with
  | true =>
    refine (qL s least S T hS hT hs8 h1 g l true w0 w h hb (.inl rfl)).mono ?_
    rintro e w1 ⟨rfl, ⟨r, hr, hR⟩, hG⟩
    exact ⟨0, r, true, rfl, hR, hG, ⟨hr, by omega⟩, fun h => (by cases h), fun _ => ⟨rfl, .inl rfl⟩⟩
  | false =>
    refine (J9 s least S T hS hT hs8 h1 g l w0 w h hb).mono ?_
    rintro e w1 ⟨n, l', b', rfl, hR, hG, hl, h2, h3⟩
    exact ⟨n, l', b', rfl, hR, hG, hl, fun h => ⟨rfl, h2 h⟩, fun h => ⟨(h3 h).1, .inr (h3 h).2⟩⟩
theorem TB {r r' r'' : List UInt8} {m n : Nat} (h : number 4 r = some (m, r')) (h1 : number 1 r' = some (n, r'')) : rX r = some (⟨(m : Int), (n : Int)⟩, r'') := by
  unfold rX intP
  rw [h]
  simp only [Option.bind_some]
  rw [h1]
  rfl
theorem JL (s : Nat) (l : List UInt8) (h : s ≤ l.length) : number s l = some (numB (l.take s), l.drop s) := by unfold number; rw [if_neg (by omega)]
theorem VL : (Tryd.prog.info? 98).map (fun i => (i.zero, i.size, i.bytes)) = some (some (.agg #[.int .i64 0, .int .i64 0]), k98.sz, 16) := by kernel_rfl
theorem WU (w : World) : (Instr.storeAt 98 (.pointer (some ⟨w.heap.size, 0, none⟩)) (.agg #[.int .i64 0, .int .i64 0])).run Tryd.prog (w.alloc (.cells #[.int .i64 0, .int .i64 0] 98)) = .ok () (w.alloc (.cells #[.int .i64 0, .int .i64 0] 98)) :=
  run_storeAt_new (P := Tryd.prog) w _ #[.int .i64 0, .int .i64 0] #[.int .i64 0, .int .i64 0] (by kernel_rfl) rfl (by simp [Value.oneCell'])
theorem LC : (Tryd.prog).built 98 (#[] : Array (Nat × Value)).toList = some #[.int .i64 0, .int .i64 0] := by kernel_rfl
theorem TZ (w : World) : (Instr.build 98 #[]).run Tryd.prog w = .ok (.agg #[.int .i64 0, .int .i64 0]) w := run_build w _ _ _ LC
theorem X6 {w : World} {b : Nat} {c0 c1 : Value} (i : Nat) (hi : i < 2) (x : Int) (h : w.heap[b]? = some (.cells #[c0, c1] 98 (0, 0))) : (Instr.storeAt 3 (.pointer (some ⟨b, i, none⟩)) (.int .i64 x)).run Tryd.prog w = .ok () (w.setCell ⟨b, i, none⟩ (.int .i64 x)) := by
  have y : w.frozen? ⟨b, i, none⟩ = false := iD h i
  obtain ⟨c, z⟩ : ∃ c, w.cell? ⟨b, i, none⟩ = some c := by
    match i, hi with
    | 0, _ => exact ⟨c0, (iE h 0).trans rfl⟩
    | 1, _ => exact ⟨c1, (iE h 1).trans rfl⟩
  simp [go_sem, z, y]
section
variable {w0 w W W' : World} {g q : Nat} {k i m : Int} {ss ss' : List kC} {A6 B6 : Option Addr} {a6 b6 : Nat} {r : List UInt8} {b : Bool}
theorem lV.box (h : lV w0 w W g ⟨k, i, 0, [], [], ⟨m, ss⟩, 0, 0, []⟩ none 0 none 0 A6 a6 none 0 r b) (h0 : w0.heap.size ≤ w.heap.size) (hlt : g < w.heap.size) (hG : W.grownBy W' (some q)) (hq : w.heap.size + 2 ≤ q) (hne : some q ≠ (Value.slice A6 ss.length a6).ownBlock) :
    lV w0 w W' g ⟨k, i, 0, [], [], ⟨m, ss⟩, 0, 0, []⟩ none 0 none 0 A6 a6 none 0 r b :=
  ⟨(hG.block _ (jE h.xb) (by intro e; injection e with e; omega)).trans h.xb, (hG.block _ (jE h.zb) (by intro e; injection e with e; omega)).trans h.zb,
   Kd.R_nil _ _ _ _ _, Kd.R_nil _ _ _ _ _, Kd.R_grown2 h.r6 rfl hG (fun k e => by injection e with e; rw [← e]; exact hne), Kd.R_nil _ _ _ _ _, RB.grown h.rb hG (by intro e; injection e with e; omega), jZ h.gr hG (by omega), below_grown h.bl hG (by omega) (Nat.le_refl _)⟩
theorem lV.app6 (h : lV w0 w W g ⟨k, i, 0, [], [], ⟨m, ss⟩, 0, 0, []⟩ none 0 none 0 A6 a6 none 0 r b) (h0 : w0.heap.size ≤ w.heap.size) (hlt : g < w.heap.size) (hG : W.grownBy W' (Value.slice A6 ss.length a6).ownBlock)
    (r6 : Kd.R k98 98 W' (w.heap.size + 2) (fun _ => True) (.slice B6 ss'.length b6) ss') :
    W'.heap[w.heap.size + 1]? = some (.cells #[.int .u8 (⟨k, i, 0, [], [], ⟨m, ss⟩, 0, 0, []⟩ : SRec).f0, .int .u32 (⟨k, i, 0, [], [], ⟨m, ss⟩, 0, 0, []⟩ : SRec).f1, .int .u32 (⟨k, i, 0, [], [], ⟨m, ss⟩, 0, 0, []⟩ : SRec).f2, .slice none (⟨k, i, 0, [], [], ⟨m, ss⟩, 0, 0, []⟩ : SRec).f3.length 0, .slice none (⟨k, i, 0, [], [], ⟨m, ss⟩, 0, 0, []⟩ : SRec).f4.length 0, .int .u32 (⟨k, i, 0, [], [], ⟨m, ss⟩, 0, 0, []⟩ : SRec).f5.f0, .slice A6 (⟨k, i, 0, [], [], ⟨m, ss⟩, 0, 0, []⟩ : SRec).f5.f1.length a6, .int .i64 (⟨k, i, 0, [], [], ⟨m, ss⟩, 0, 0, []⟩ : SRec).f6, .int .i64 (⟨k, i, 0, [], [], ⟨m, ss⟩, 0, 0, []⟩ : SRec).f7, .slice none (⟨k, i, 0, [], [], ⟨m, ss⟩, 0, 0, []⟩ : SRec).f8.length 0] 30 (0, 0)) ∧
    lV w0 w (W'.setRow (w.heap.size + 1) #[.int .u8 (⟨k, i, 0, [], [], ⟨m, ss'⟩, 0, 0, []⟩ : SRec).f0, .int .u32 (⟨k, i, 0, [], [], ⟨m, ss'⟩, 0, 0, []⟩ : SRec).f1, .int .u32 (⟨k, i, 0, [], [], ⟨m, ss'⟩, 0, 0, []⟩ : SRec).f2, .slice none (⟨k, i, 0, [], [], ⟨m, ss'⟩, 0, 0, []⟩ : SRec).f3.length 0, .slice none (⟨k, i, 0, [], [], ⟨m, ss'⟩, 0, 0, []⟩ : SRec).f4.length 0, .int .u32 (⟨k, i, 0, [], [], ⟨m, ss'⟩, 0, 0, []⟩ : SRec).f5.f0, .slice B6 (⟨k, i, 0, [], [], ⟨m, ss'⟩, 0, 0, []⟩ : SRec).f5.f1.length b6, .int .i64 (⟨k, i, 0, [], [], ⟨m, ss'⟩, 0, 0, []⟩ : SRec).f6, .int .i64 (⟨k, i, 0, [], [], ⟨m, ss'⟩, 0, 0, []⟩ : SRec).f7, .slice none (⟨k, i, 0, [], [], ⟨m, ss'⟩, 0, 0, []⟩ : SRec).f8.length 0]) g ⟨k, i, 0, [], [], ⟨m, ss'⟩, 0, 0, []⟩ none 0 none 0 B6 b6 none 0 r b := by
  have hrow := fun b e => Kd.R_base h.r6 b e
  have hx : W'.heap[w.heap.size + 1]? = _ := (hG.block _ (jE h.xb) (by intro e; have := hrow _ e.symm; omega)).trans h.xb
  have hz : W'.heap[w.heap.size]? = _ := (hG.block _ (jE h.zb) (by intro e; have := hrow _ e.symm; omega)).trans h.zb
  have hg2 := jA W' (w.heap.size + 1) #[.int .u8 (⟨k, i, 0, [], [], ⟨m, ss'⟩, 0, 0, []⟩ : SRec).f0, .int .u32 (⟨k, i, 0, [], [], ⟨m, ss'⟩, 0, 0, []⟩ : SRec).f1, .int .u32 (⟨k, i, 0, [], [], ⟨m, ss'⟩, 0, 0, []⟩ : SRec).f2, .slice none (⟨k, i, 0, [], [], ⟨m, ss'⟩, 0, 0, []⟩ : SRec).f3.length 0, .slice none (⟨k, i, 0, [], [], ⟨m, ss'⟩, 0, 0, []⟩ : SRec).f4.length 0, .int .u32 (⟨k, i, 0, [], [], ⟨m, ss'⟩, 0, 0, []⟩ : SRec).f5.f0, .slice B6 (⟨k, i, 0, [], [], ⟨m, ss'⟩, 0, 0, []⟩ : SRec).f5.f1.length b6, .int .i64 (⟨k, i, 0, [], [], ⟨m, ss'⟩, 0, 0, []⟩ : SRec).f6, .int .i64 (⟨k, i, 0, [], [], ⟨m, ss'⟩, 0, 0, []⟩ : SRec).f7, .slice none (⟨k, i, 0, [], [], ⟨m, ss'⟩, 0, 0, []⟩ : SRec).f8.length 0]
  have hr : RB w0 W' g r b := RB.grown h.rb hG (by intro e; have := hrow _ e.symm; omega)
  have hgr : w.grownBy W' (some g) := qX h.gr hG (fun b e => by have := hrow b e; omega)
  have hbl : Below w0.heap.size w0 W' := by
    refine ⟨hG.os.trans h.bl.os, hG.tape.trans h.bl.tape, hG.output.trans h.bl.output, Nat.le_trans h.bl.size hG.size, fun k hk => (hG.block k (Nat.lt_of_lt_of_le hk h.bl.size) (fun e => by have := hrow k e.symm; omega)).trans (h.bl.block k hk)⟩
  exact ⟨hx, setRow_heap _ _ _ _ _ _ hx, (setRow_other W' (w.heap.size + 1) (w.heap.size) _ (by omega)).trans hz, Kd.R_nil _ _ _ _ _, Kd.R_nil _ _ _ _ _, jP r6 hg2 (by omega), Kd.R_nil _ _ _ _ _,
    RB.grown hr hg2 (by intro e; injection e with e; omega), jZ hgr hg2 (Nat.le_succ _), below_grown hbl hg2 (by omega) (Nat.le_refl _)⟩
theorem lV.apart (h : lV w0 w W g ⟨k, i, 0, [], [], ⟨m, ss⟩, 0, 0, []⟩ none 0 none 0 A6 a6 none 0 r b) : some W.heap.size ≠ (Value.slice A6 ss.length a6).ownBlock :=
  fun e => ((Kd.R_elderB h.r6 W.heap.size (Nat.le_refl _)).1 _ e.symm).2 rfl
end
end Go.Proofs.YtgfkgppomaapiaaDoor.K
end

section
namespace Go.Proofs.YtgfkgppomaapiaaDoor.K
open RowKit YtgfkgppomaapiaaDoorW.PrintWords YtgfkgppomaapiaaDoorW.PrintLast YtgfkgppomaapiaaDoorW.PrintMore My
theorem kW {s : Nat} {l r : List UInt8} {m : Nat} (h : number s l = some (m, r)) : intP s l = some ((m : Int), r) := by unfold intP; rw [h]; rfl
theorem mM {s : Nat} {l : List UInt8} (h : number s l = none) : intP s l = none := by unfold intP; rw [h]; rfl
attribute [-go_sem] Instr.build Instr.storeAt
attribute [local go_sem] NI TZ WU
set_option maxRecDepth 20000 in
set_option maxHeartbeats 16000000 in
theorem UL (g : Nat) (l : List UInt8) (w0 w : World) (h : RB w0 w g l false) (hb : Below w0.heap.size w0 w) (hg : w0.heap.size ≤ g) (hm : (l.length : Int) ≤ 100000) :
    Calls Tryd.prog 79 #[.pointer (some ⟨g, 0, none⟩)] w (VS l w0 w g) := by
  have hlt := h.lt
  have h00 : w0.heap.size ≤ w.heap.size := hb.size
  have h0s := lV.start h hb hg
  have hst0 := fun (_ : True) => lF (a := 0) (k := 0) (i := 0) (x3 := .slice none 0 0) (x4 := .slice none 0 0) (j := 0) (x6 := .slice none 0 0) (p := 0) (q := 0) (x9 := .slice none 0 0) h0s.xb rfl rfl rfl rfl
  have H1 := iC.mk (h0s.set (x' := ⟨0, 0, 0, [], [], ⟨0, []⟩, 0, 0, []⟩) h00 hlt h0s.r3 h0s.r4 h0s.r6 h0s.r9)
  clear h hb h0s
  go_enter Tryd.func79, Tryd.ntmps79
  go_upto_region 2 with fail
  obtain ⟨W1, hW1⟩ : ∃ W1, W1 = ((w.alloc (.cells #[.int .u8 0, .int .u32 0, .int .u32 0, .slice none 0 0, .slice none 0 0, .int .u32 0, .slice none 0 0, .int .i64 0, .int .i64 0, .slice none 0 0] 30)).alloc (.cells #[.int .u8 0, .int .u32 0, .int .u32 0, .slice none 0 0, .slice none 0 0, .int .u32 0, .slice none 0 0, .int .i64 0, .int .i64 0, .slice none 0 0] 30)).setRow (w.heap.size + 1) #[.int .u8 0, .int .u32 0, .int .u32 0, .slice none 0 0, .slice none 0 0, .int .u32 0, .slice none 0 0, .int .i64 0, .int .i64 0, .slice none 0 0] := ⟨_, rfl⟩
  have H1 := iC.mk (show lV w0 w W1 g ⟨0, 0, 0, [], [], ⟨0, []⟩, 0, 0, []⟩ none 0 none 0 none 0 none 0 l false from by rw [hW1]; exact H1.out)
  rw [← hW1]
  clear hW1 hst0
  have hcall := get_any 1 1 rfl (by omega) g l false w0 W1 H1.out.rb H1.out.bl
  go_wp2_with fail
  go_at_call 98
  refine hcall.mono ?_
  rintro e w2 ⟨m1, r1, b1, rfl, hR, hG, hlen, hst⟩
  have H2 := iC.mk (H1.out.step hg hlt hG hR)
  have hm1 : (m1 : Int) < 256 := by have h8 := hlen.2; omega
  have hw1 : IntKind.u8.wrap (m1 : Int) = (m1 : Int) := by rw [show IntKind.u8.wrap (m1 : Int) = (m1 : Int) % 256 by simp [IntKind.wrap, IntKind.bits, IntKind.signed]]; omega
  have HL1 := iC.mk hlen.1
  have HS1 := iC.mk hst
  have hst1 := fun (_ : True) => XG (m1 : Int) H2.out.xb
  have H3 := iC.mk (H2.out.set (x' := ⟨(m1 : Int), 0, 0, [], [], ⟨0, []⟩, 0, 0, []⟩) h00 hlt H2.out.r3 H2.out.r4 H2.out.r6 H2.out.r9)
  clear hcall hR hG hlen hst H1
  go_upto_region 3 with fail
  obtain ⟨W3, hW3⟩ : ∃ W3, W3 = w2.setRow (w.heap.size + 1) #[.int .u8 (m1 : Int), .int .u32 0, .int .u32 0, .slice none 0 0, .slice none 0 0, .int .u32 0, .slice none 0 0, .int .i64 0, .int .i64 0, .slice none 0 0] := ⟨_, rfl⟩
  have H3 := iC.mk (show lV w0 w W3 g ⟨(m1 : Int), 0, 0, [], [], ⟨0, []⟩, 0, 0, []⟩ none 0 none 0 none 0 none 0 r1 b1 from by rw [hW3]; exact H3.out)
  rw [← hW3]
  clear hW3 hst1 hw1 H2
  have hcall := get_any 4 4 rfl (by omega) g r1 b1 w0 W3 H3.out.rb H3.out.bl
  go_wp2_with fail
  go_at_call 98
  refine hcall.mono ?_
  rintro e w4 ⟨m2, r2, b2, rfl, hR, hG, hlen, hst⟩
  have H4 := iC.mk (H3.out.step hg hlt hG hR)
  have hm2 : (m2 : Int) < 4294967296 := by have h8 := hlen.2; rw [show (256 : Nat) ^ 4 = 4294967296 from by decide] at h8; omega
  have hw2 : IntKind.u32.wrap (m2 : Int) = (m2 : Int) := by rw [show IntKind.u32.wrap (m2 : Int) = (m2 : Int) % 4294967296 by simp [IntKind.wrap, IntKind.bits, IntKind.signed]]; omega
  have HL2 := iC.mk hlen.1
  have HS2 := iC.mk hst
  have hst2 := fun (_ : True) => XF (m2 : Int) H4.out.xb
  have H5 := iC.mk (H4.out.set (x' := ⟨(m1 : Int), (m2 : Int), 0, [], [], ⟨0, []⟩, 0, 0, []⟩) h00 hlt H4.out.r3 H4.out.r4 H4.out.r6 H4.out.r9)
  clear hcall hR hG hlen hst H3
  go_upto_region 4 with fail
  obtain ⟨W5, hW5⟩ : ∃ W5, W5 = w4.setRow (w.heap.size + 1) #[.int .u8 (m1 : Int), .int .u32 (m2 : Int), .int .u32 0, .slice none 0 0, .slice none 0 0, .int .u32 0, .slice none 0 0, .int .i64 0, .int .i64 0, .slice none 0 0] := ⟨_, rfl⟩
  have H5 := iC.mk (show lV w0 w W5 g ⟨(m1 : Int), (m2 : Int), 0, [], [], ⟨0, []⟩, 0, 0, []⟩ none 0 none 0 none 0 none 0 r2 b2 from by rw [hW5]; exact H5.out)
  rw [← hW5]
  clear hW5 hst2 hw2 H4
  have HST := iC.mk (show (b2 = false → recP l = oL (m1 : Int) (m2 : Int) r2) ∧ (b2 = true → recP l = none) from by
    refine ⟨fun e => ?_, fun e => ?_⟩
    · obtain ⟨e1, e2⟩ := HS2.out.1 e
      exact IW (kW (HS1.out.1 e1).2) (kW e2)
    · rcases HS2.out.2 e with e1 | e1
      · rcases HS1.out.2 e1 with e2 | e2
        · cases e2
        · exact vH (mM e2)
      · cases b1 with
        | true =>
          rcases HS1.out.2 rfl with e2 | e2
          · cases e2
          · exact vH (mM e2)
        | false => exact zF (kW (HS1.out.1 rfl).2) (mM e1))
  have HR2 := iC.mk (show r2.length ≤ l.length from Nat.le_trans HL2.out HL1.out)
  clear HS1 HS2 HL1 HL2
  obtain ⟨xz0, xz1, xz2, xz3, xz4, xz5, xz6, xz7, xz8, xz9, xy0, xy1, xy2, xy3, xy4, xy5, xy6, xy7, xy8, xy9⟩ := ten H5.out.xb
  by_cases h1 : (m1 : Int) = 1
  · obtain rfl : m1 = 1 := by omega
    clear xy0 xy1 xy2 xy3 xy4 xy5 xy6 xy7 xy8 xy9 hm1 hm2 h1
    go_upto_region 5 with fail
    go_upto_region 6 with fail
    have hcall := zW g r2 b2 w0 W5 H5.out.rb H5.out.bl hg (by have := HR2.out; omega)
    go_wp2_with fail
    go_at_call 99
    refine hcall.mono ?_
    rintro e w6 hq
    obtain ⟨hG, ns, v, r3, b3, rfl, hv, hR, hlen, hst⟩ := RP.split hq
    have hv : Kd.R (Kd.int .i64) 3 w6 W5.heap.size (fun _ => True) v ns := hv
    obtain ⟨A3, a3, rfl⟩ := Kd.R_slice hv
    have H6 := iC.mk (H5.out.step hg hlt hG hR)
    have hst6 := fun (_ : True) => st_3 A3 ns.length a3 H6.out.xb
    have H7 := iC.mk (H6.out.set (x' := ⟨1, (m2 : Int), 0, ns, [], ⟨0, []⟩, 0, 0, []⟩) h00 hlt (Kd.R_lower hv H5.out.size) H6.out.r4 H6.out.r6 H6.out.r9)
    have HR3 := iC.mk (show r3.length ≤ l.length from Nat.le_trans hlen HR2.out)
    have HS3 := iC.mk hst
    clear hcall hq hG hv hR hlen hst xz0 xz1 xz2 xz3 xz4 xz5 xz6 xz7 xz8 xz9
    go_upto_region 7 with fail
    obtain ⟨W7, hW7⟩ : ∃ W7, W7 = w6.setRow (w.heap.size + 1) #[.int .u8 1, .int .u32 (m2 : Int), .int .u32 0, .slice A3 ns.length a3, .slice none 0 0, .int .u32 0, .slice none 0 0, .int .i64 0, .int .i64 0, .slice none 0 0] := ⟨_, rfl⟩
    have H7 := iC.mk (show lV w0 w W7 g ⟨1, (m2 : Int), 0, ns, [], ⟨0, []⟩, 0, 0, []⟩ A3 a3 none 0 none 0 none 0 r3 b3 from by rw [hW7]; exact H7.out)
    rw [← hW7]
    clear hW7 hst6 H6
    have hcall := zQ g r3 b3 w0 W7 H7.out.rb H7.out.bl hg (by have := HR3.out; omega)
    go_wp2_with fail
    go_at_call 100
    refine hcall.mono ?_
    rintro e w8 hq
    obtain ⟨hG, fs, v, r4, b4, rfl, hv, hR, hlen, hst⟩ := RP.split hq
    have hv : Kd.R k139 139 w8 W7.heap.size (fun _ => True) v fs := hv
    obtain ⟨A4, a4, rfl⟩ := Kd.R_slice hv
    have H8 := iC.mk (H7.out.step hg hlt hG hR)
    have hst8 := fun (_ : True) => st_4 A4 fs.length a4 H8.out.xb
    have H9 := iC.mk (H8.out.set (x' := ⟨1, (m2 : Int), 0, ns, fs, ⟨0, []⟩, 0, 0, []⟩) h00 hlt H8.out.r3 (Kd.R_lower hv H7.out.size) H8.out.r6 H8.out.r9)
    have HS4 := iC.mk hst
    clear hcall hq hG hv hR hlen hst
    go_upto_region 25 with fail
    obtain ⟨W9, hW9⟩ : ∃ W9, W9 = w8.setRow (w.heap.size + 1) #[.int .u8 1, .int .u32 (m2 : Int), .int .u32 0, .slice A3 ns.length a3, .slice A4 fs.length a4, .int .u32 0, .slice none 0 0, .int .i64 0, .int .i64 0, .slice none 0 0] := ⟨_, rfl⟩
    have H9 := iC.mk (show lV w0 w W9 g ⟨1, (m2 : Int), 0, ns, fs, ⟨0, []⟩, 0, 0, []⟩ A3 a3 A4 a4 none 0 none 0 r4 b4 from by rw [hW9]; exact H9.out)
    rw [← hW9]
    clear hW9 hst8 H8
    obtain ⟨wz0, wz1, wz2, wz3, wz4, wz5, wz6, wz7, wz8, wz9, wy0, wy1, wy2, wy3, wy4, wy5, wy6, wy7, wy8, wy9⟩ := ten (H9.out.xb)
    clear wy0 wy1 wy2 wy3 wy4 wy5 wy6 wy7 wy8 wy9
    have hstz := fun (_ : True) => lF (a := 1) (k := (m2 : Int)) (i := 0) (x3 := .slice A3 ns.length a3) (x4 := .slice A4 fs.length a4) (j := 0) (x6 := .slice none 0 0) (p := 0) (q := 0) (x9 := .slice none 0 0) H9.out.zb rfl rfl rfl rfl
    go_wp2
    ((try simp only [Exit.inBlock, Exit.then]); refine bodyPost_ret (uO rfl rfl (setRow_heap _ _ _ _ _ _ H9.out.zb) rfl) rfl ?_)
    obtain ⟨hl, hr, hgr⟩ := H9.out.fin hlt #[.int .u8 (⟨1, (m2 : Int), 0, ns, fs, ⟨0, []⟩, 0, 0, []⟩ : SRec).f0, .int .u32 (⟨1, (m2 : Int), 0, ns, fs, ⟨0, []⟩, 0, 0, []⟩ : SRec).f1, .int .u32 (⟨1, (m2 : Int), 0, ns, fs, ⟨0, []⟩, 0, 0, []⟩ : SRec).f2, .slice A3 (⟨1, (m2 : Int), 0, ns, fs, ⟨0, []⟩, 0, 0, []⟩ : SRec).f3.length a3, .slice A4 (⟨1, (m2 : Int), 0, ns, fs, ⟨0, []⟩, 0, 0, []⟩ : SRec).f4.length a4, .int .u32 (⟨1, (m2 : Int), 0, ns, fs, ⟨0, []⟩, 0, 0, []⟩ : SRec).f5.f0, .slice none (⟨1, (m2 : Int), 0, ns, fs, ⟨0, []⟩, 0, 0, []⟩ : SRec).f5.f1.length 0, .int .i64 (⟨1, (m2 : Int), 0, ns, fs, ⟨0, []⟩, 0, 0, []⟩ : SRec).f6, .int .i64 (⟨1, (m2 : Int), 0, ns, fs, ⟨0, []⟩, 0, 0, []⟩ : SRec).f7, .slice none (⟨1, (m2 : Int), 0, ns, fs, ⟨0, []⟩, 0, 0, []⟩ : SRec).f8.length 0]
    refine ⟨⟨1, (m2 : Int), 0, ns, fs, ⟨0, []⟩, 0, 0, []⟩, A3, a3, A4, a4, none, 0, none, 0, r4, b4, rfl, hl, hr, hgr, fun e => ?_, fun e => ?_⟩
    · obtain ⟨e1, e2⟩ := HS4.out.1 e
      obtain ⟨e3, e4⟩ := HS3.out.1 e1
      rw [HST.out.1 e3]
      unfold oL
      rw [if_pos (by rfl), e4]
      simp only [Option.bind_some]
      rw [e2]
      rfl
    · cases b2 with
      | true => exact HST.out.2 rfl
      | false =>
        rw [HST.out.1 rfl]
        unfold oL
        rw [if_pos (by rfl)]
        cases b3 with
        | true =>
          rcases HS3.out.2 rfl with e1 | e1
          · cases e1
          · rw [e1]; rfl
        | false =>
          rw [(HS3.out.1 rfl).2]
          simp only [Option.bind_some]
          rcases HS4.out.2 e with e1 | e1
          · cases e1
          · rw [e1]; rfl
  by_cases h2 : (m1 : Int) = 2
  · obtain rfl : m1 = 2 := by omega
    clear xy0 xy1 xy2 xy3 xy4 xy5 xy6 xy7 xy8 xy9 hm1 hm2 h1 h2
    go_upto_region 5 with fail
    go_upto_region 8 with fail
    go_upto_region 9 with fail
    have hcall := get_any 4 4 rfl (by omega) g r2 b2 w0 W5 H5.out.rb H5.out.bl
    go_wp2_with fail
    go_at_call 98
    refine hcall.mono ?_
    rintro e w6 ⟨m3, r3, b3, rfl, hR, hG, hlen, hst⟩
    have H6 := iC.mk (H5.out.step hg hlt hG hR)
    have hm3 : (m3 : Int) < 4294967296 := by have h8 := hlen.2; rw [show (256 : Nat) ^ 4 = 4294967296 from by decide] at h8; omega
    have hw3 : IntKind.u32.wrap (m3 : Int) = (m3 : Int) := by rw [show IntKind.u32.wrap (m3 : Int) = (m3 : Int) % 4294967296 by simp [IntKind.wrap, IntKind.bits, IntKind.signed]]; omega
    have hst6 := fun (_ : True) => st_2 (m3 : Int) H6.out.xb
    have H7 := iC.mk (H6.out.set (x' := ⟨2, (m2 : Int), (m3 : Int), [], [], ⟨0, []⟩, 0, 0, []⟩) h00 hlt H6.out.r3 H6.out.r4 H6.out.r6 H6.out.r9)
    have HR3 := iC.mk (show r3.length ≤ l.length from Nat.le_trans hlen.1 HR2.out)
    have HS3 := iC.mk hst
    clear hcall hG hR hlen hst xz0 xz1 xz2 xz3 xz4 xz5 xz6 xz7 xz8 xz9
    go_upto_region 10 with fail
    obtain ⟨W7, hW7⟩ : ∃ W7, W7 = w6.setRow (w.heap.size + 1) #[.int .u8 2, .int .u32 (m2 : Int), .int .u32 (m3 : Int), .slice none 0 0, .slice none 0 0, .int .u32 0, .slice none 0 0, .int .i64 0, .int .i64 0, .slice none 0 0] := ⟨_, rfl⟩
    have H7 := iC.mk (show lV w0 w W7 g ⟨2, (m2 : Int), (m3 : Int), [], [], ⟨0, []⟩, 0, 0, []⟩ none 0 none 0 none 0 none 0 r3 b3 from by rw [hW7]; exact H7.out)
    rw [← hW7]
    clear hW7 hst6 H6 hw3 hm3
    have hcall := zW g r3 b3 w0 W7 H7.out.rb H7.out.bl hg (by have := HR3.out; omega)
    go_wp2_with fail
    go_at_call 99
    refine hcall.mono ?_
    rintro e w8 hq
    obtain ⟨hG, ns, v, r4, b4, rfl, hv, hR, hlen, hst⟩ := RP.split hq
    have hv : Kd.R (Kd.int .i64) 3 w8 W7.heap.size (fun _ => True) v ns := hv
    obtain ⟨A3, a3, rfl⟩ := Kd.R_slice hv
    have H8 := iC.mk (H7.out.step hg hlt hG hR)
    have hst8 := fun (_ : True) => st_3 A3 ns.length a3 H8.out.xb
    have H9 := iC.mk (H8.out.set (x' := ⟨2, (m2 : Int), (m3 : Int), ns, [], ⟨0, []⟩, 0, 0, []⟩) h00 hlt (Kd.R_lower hv H7.out.size) H8.out.r4 H8.out.r6 H8.out.r9)
    have HS4 := iC.mk hst
    clear hcall hq hG hv hR hlen hst
    go_upto_region 25 with fail
    obtain ⟨W9, hW9⟩ : ∃ W9, W9 = w8.setRow (w.heap.size + 1) #[.int .u8 2, .int .u32 (m2 : Int), .int .u32 (m3 : Int), .slice A3 ns.length a3, .slice none 0 0, .int .u32 0, .slice none 0 0, .int .i64 0, .int .i64 0, .slice none 0 0] := ⟨_, rfl⟩
    have H9 := iC.mk (show lV w0 w W9 g ⟨2, (m2 : Int), (m3 : Int), ns, [], ⟨0, []⟩, 0, 0, []⟩ A3 a3 none 0 none 0 none 0 r4 b4 from by rw [hW9]; exact H9.out)
    rw [← hW9]
    clear hW9 hst8 H8
    obtain ⟨wz0, wz1, wz2, wz3, wz4, wz5, wz6, wz7, wz8, wz9, wy0, wy1, wy2, wy3, wy4, wy5, wy6, wy7, wy8, wy9⟩ := ten (H9.out.xb)
    clear wy0 wy1 wy2 wy3 wy4 wy5 wy6 wy7 wy8 wy9
    have hstz := fun (_ : True) => lF (a := 2) (k := (m2 : Int)) (i := (m3 : Int)) (x3 := .slice A3 ns.length a3) (x4 := .slice none 0 0) (j := 0) (x6 := .slice none 0 0) (p := 0) (q := 0) (x9 := .slice none 0 0) H9.out.zb rfl rfl rfl rfl
    go_wp2
    ((try simp only [Exit.inBlock, Exit.then]); refine bodyPost_ret (uO rfl rfl (setRow_heap _ _ _ _ _ _ H9.out.zb) rfl) rfl ?_)
    obtain ⟨hl, hr, hgr⟩ := H9.out.fin hlt #[.int .u8 (⟨2, (m2 : Int), (m3 : Int), ns, [], ⟨0, []⟩, 0, 0, []⟩ : SRec).f0, .int .u32 (⟨2, (m2 : Int), (m3 : Int), ns, [], ⟨0, []⟩, 0, 0, []⟩ : SRec).f1, .int .u32 (⟨2, (m2 : Int), (m3 : Int), ns, [], ⟨0, []⟩, 0, 0, []⟩ : SRec).f2, .slice A3 (⟨2, (m2 : Int), (m3 : Int), ns, [], ⟨0, []⟩, 0, 0, []⟩ : SRec).f3.length a3, .slice none (⟨2, (m2 : Int), (m3 : Int), ns, [], ⟨0, []⟩, 0, 0, []⟩ : SRec).f4.length 0, .int .u32 (⟨2, (m2 : Int), (m3 : Int), ns, [], ⟨0, []⟩, 0, 0, []⟩ : SRec).f5.f0, .slice none (⟨2, (m2 : Int), (m3 : Int), ns, [], ⟨0, []⟩, 0, 0, []⟩ : SRec).f5.f1.length 0, .int .i64 (⟨2, (m2 : Int), (m3 : Int), ns, [], ⟨0, []⟩, 0, 0, []⟩ : SRec).f6, .int .i64 (⟨2, (m2 : Int), (m3 : Int), ns, [], ⟨0, []⟩, 0, 0, []⟩ : SRec).f7, .slice none (⟨2, (m2 : Int), (m3 : Int), ns, [], ⟨0, []⟩, 0, 0, []⟩ : SRec).f8.length 0]
    refine ⟨⟨2, (m2 : Int), (m3 : Int), ns, [], ⟨0, []⟩, 0, 0, []⟩, A3, a3, none, 0, none, 0, none, 0, r4, b4, rfl, hl, hr, hgr, fun e => ?_, fun e => ?_⟩
    · obtain ⟨e1, e2⟩ := HS4.out.1 e
      obtain ⟨e3, e4⟩ := HS3.out.1 e1
      rw [HST.out.1 e3]
      unfold oL
      rw [if_neg (by decide), if_pos (by rfl), kW e4]
      simp only [Option.bind_some]
      rw [e2]
      rfl
    · cases b2 with
      | true => exact HST.out.2 rfl
      | false =>
        rw [HST.out.1 rfl]
        unfold oL
        rw [if_neg (by decide), if_pos (by rfl)]
        cases b3 with
        | true =>
          rcases HS3.out.2 rfl with e1 | e1
          · cases e1
          · rw [mM e1]; rfl
        | false =>
          rw [kW (HS3.out.1 rfl).2]
          simp only [Option.bind_some]
          rcases HS4.out.2 e with e1 | e1
          · cases e1
          · rw [e1]; rfl
  by_cases h6 : (m1 : Int) = 6
  · obtain rfl : m1 = 6 := by omega
    clear xy0 xy1 xy2 xy3 xy4 xy5 xy6 xy7 xy8 xy9 hm1 hm2 h1 h2 h6
    go_upto_region 5 with fail
    go_upto_region 8 with fail
    go_upto_region 11 with fail
    go_upto_region 12 with fail
    have hcall := get_any 4 4 rfl (by omega) g r2 b2 w0 W5 H5.out.rb H5.out.bl
    go_wp2_with fail
    go_at_call 98
    refine hcall.mono ?_
    rintro e w6 ⟨m3, r3, b3, rfl, hR, hG, hlen, hst⟩
    have H6 := iC.mk (H5.out.step hg hlt hG hR)
    have hm3 : (m3 : Int) < 4294967296 := by have h8 := hlen.2; rw [show (256 : Nat) ^ 4 = 4294967296 from by decide] at h8; omega
    have hw3 : IntKind.u32.wrap (m3 : Int) = (m3 : Int) := by rw [show IntKind.u32.wrap (m3 : Int) = (m3 : Int) % 4294967296 by simp [IntKind.wrap, IntKind.bits, IntKind.signed]]; omega
    have hst6 := fun (_ : True) => st_5 (m3 : Int) H6.out.xb
    have H7 := iC.mk (H6.out.set (x' := ⟨6, (m2 : Int), 0, [], [], ⟨(m3 : Int), []⟩, 0, 0, []⟩) h00 hlt H6.out.r3 H6.out.r4 H6.out.r6 H6.out.r9)
    have HR3 := iC.mk (show r3.length ≤ l.length from Nat.le_trans hlen.1 HR2.out)
    have HS3 := iC.mk hst
    clear hcall hG hR hlen hst xz0 xz1 xz2 xz3 xz4 xz5 xz6 xz7 xz8 xz9
    go_upto_region 13 with fail
    obtain ⟨W7, hW7⟩ : ∃ W7, W7 = w6.setRow (w.heap.size + 1) #[.int .u8 6, .int .u32 (m2 : Int), .int .u32 0, .slice none 0 0, .slice none 0 0, .int .u32 (m3 : Int), .slice none 0 0, .int .i64 0, .int .i64 0, .slice none 0 0] := ⟨_, rfl⟩
    have H7 := iC.mk (show lV w0 w W7 g ⟨6, (m2 : Int), 0, [], [], ⟨(m3 : Int), []⟩, 0, 0, []⟩ none 0 none 0 none 0 none 0 r3 b3 from by rw [hW7]; exact H7.out)
    rw [← hW7]
    clear hW7 hst6 H6 hw3 hm3
    have hcall := QP 1 5 1 5 rfl rfl (by omega) (by omega) g r3 b3 w0 W7 H7.out.rb H7.out.bl
    go_wp2_with fail
    go_at_call 101
    refine hcall.mono ?_
    rintro e w8 ⟨n, r4, b4, rfl, hR, hG, hlen, hst⟩
    have H8 := iC.mk (H7.out.step hg hlt hG hR)
    have HR4 := iC.mk (show r4.length ≤ l.length from Nat.le_trans hlen.1 HR3.out)
    have HL4 := iC.mk hlen.2
    have HS4 := iC.mk hst
    have hnI : (n : Int) ≤ 100000 := by have := HR4.out; have := hlen.2; omega
    clear hcall hR hG hlen hst
    go_wp2
    go_loopw [5] (fun iv wi => ∃ (k : Nat) (ss : List kC) (r : List UInt8) (A6 : Option Addr) (a6 : Nat), k ≤ n ∧ iv = .int .i64 k ∧ iC (r.length ≤ r4.length ∧ ss.length = k) ∧ iC (b4 = false → Left rX n k r4 r ss ∧ (n - k) * 5 ≤ r.length) ∧ iC (lV w0 w wi g ⟨6, (m2 : Int), 0, [], [], ⟨(m3 : Int), ss⟩, 0, 0, []⟩ none 0 none 0 A6 a6 none 0 r b4)) (fun i _ => n - (intOf i).toNat)
    case atStart => exact ⟨0, [], r4, none, 0, Nat.zero_le _, rfl, ⟨Nat.le_refl _, rfl⟩, ⟨fun _ => ⟨Left.start _ _ _, by have := HL4.out; omega⟩⟩, H8⟩
    case round =>
      obtain ⟨k, ss, r, A6, a6, hk, rfl, HLK, HSK, HH⟩ := hrel
      clear H8 H7
      obtain ⟨wr0, rfl⟩ : ∃ x : World, x = wr := ⟨_, rfl⟩
      by_cases hkn : k < n
      · have hb4 : b4 = false := by
          cases b4 with
          | false => rfl
          | true => have := (HS4.out.2 rfl).1; omega
        subst hb4
        have hl5 : 5 ≤ r.length := by have := (HSK.out rfl).2; omega
        have hn4 := JL 4 r (by omega)
        have hn1 := JL 1 (r.drop 4) (by rw [List.length_drop]; omega)
        have hs4 := mX r 4 (by omega)
        have hs1 := mX (r.drop 4) 1 (by omega)
        have hd1 : 1 ≤ (r.drop 4).length := by rw [List.length_drop]; omega
        have hdl : ((r.drop 4).drop 1).length + 5 = r.length := by rw [List.length_drop, List.length_drop]; omega
        have hsp := TB hn4 hn1
        have hcall := fun W hRB hbl => yN 4 4 rfl (by omega) g r w0 W hRB hbl (by omega)
        have hcall2 := fun W hRB hbl => yN 1 1 rfl (by omega) g (r.drop 4) w0 W hRB hbl hd1
        have HSN := iC.mk (fun (h : (false : Bool) = false) => (⟨Left.next (HSK.out h).1 hkn hsp, by have := (HSK.out h).2; omega⟩ : Left rX n (k + 1) r4 ((r.drop 4).drop 1) (ss ++ [⟨((numB (r.take 4) : Nat) : Int), ((numB ((r.drop 4).take 1) : Nat) : Int)⟩]) ∧ (n - (k + 1)) * 5 ≤ ((r.drop 4).drop 1).length))
        have HRN := iC.mk (show ((r.drop 4).drop 1).length ≤ r4.length from by have := HLK.out.1; omega)
        clear hn4 hn1 hsp hdl hd1
        obtain ⟨x4, hx4⟩ : ∃ x, x = numB (r.take 4) := ⟨_, rfl⟩
        obtain ⟨x5, hx5⟩ : ∃ x, x = numB ((r.drop 4).take 1) := ⟨_, rfl⟩
        obtain ⟨rb, hrb⟩ : ∃ x, x = (r.drop 4).drop 1 := ⟨_, rfl⟩
        rw [← hx4] at hs4 hcall HSN
        rw [← hx5] at hs1 hcall2 HSN
        rw [← hrb] at hcall2 HSN HRN
        obtain ⟨ra, hra⟩ : ∃ x, x = r.drop 4 := ⟨_, rfl⟩
        rw [← hra] at hcall hcall2
        clear hx4 hx5 hra hrb hl5
        have hw4 := rU x4 (by omega)
        have hw5 := rU x5 (by omega)
        obtain ⟨W1, hW1⟩ : ∃ W1, W1 = wr0.alloc (.cells #[.int .i64 0, .int .i64 0] 98) := ⟨_, rfl⟩
        have hba : Below wr0.heap.size wr0 W1 := by rw [hW1]; exact iF (Below.refl _ _) _
        have B1 := iC.mk (show W1.heap[wr0.heap.size]? = some (.cells #[.int .i64 0, .int .i64 0] 98 (0, 0)) from by rw [hW1]; exact iM rfl)
        have G1 := iC.mk (HH.out.step hg hlt (grown_below hba) (RB.grown HH.out.rb (grown_below (row := none) hba) (by simp)))
        have HNE := iC.mk HH.out.apart
        have HSZ := iC.mk HH.out.size
        have HW1 := iC.mk hW1
        have hcall := hcall W1 G1.out.rb G1.out.bl
        clear hba hW1 HH
        go_wp2_with fail
        rw [← HW1.out]
        clear HW1
        go_at_call 98
        refine hcall.mono ?_
        rintro e w2 ⟨rfl, hR, hG⟩
        have B2 := iC.mk ((hG.block wr0.heap.size (jE B1.out) (by intro e; injection e with e; have := HSZ.out; omega)).trans B1.out)
        have G2 := iC.mk (G1.out.step hg hlt hG hR)
        have hsp := fun (_ : True) => X6 0 (by omega) (x4 : Int) B2.out
        have B3 := iC.mk (show (w2.setCell ⟨wr0.heap.size, 0, none⟩ (.int .i64 (x4 : Int))).heap[wr0.heap.size]? = some (.cells #[.int .i64 (x4 : Int), .int .i64 0] 98 (0, 0)) from mZ B2.out 0 _ rfl)
        have G3 := iC.mk (G2.out.box h00 hlt (kL w2 wr0.heap.size 0 (.int .i64 (x4 : Int))) HSZ.out HNE.out)
        clear hcall hR hG G1 B1
        go_upto_region 19 with fail
        obtain ⟨w3, hw3⟩ : ∃ w3, w3 = w2.setCell ⟨wr0.heap.size, 0, none⟩ (.int .i64 (x4 : Int)) := ⟨_, rfl⟩
        rw [← hw3] at B3 G3 ⊢
        clear hw3 hsp B2 G2 hw4
        have hcall := hcall2 w3 G3.out.rb G3.out.bl
        clear hcall2
        go_wp2_with fail
        go_at_call 98
        refine hcall.mono ?_
        rintro e w4 ⟨rfl, hR, hG⟩
        have B4 := iC.mk ((hG.block wr0.heap.size (jE B3.out) (by intro e; injection e with e; have := HSZ.out; omega)).trans B3.out)
        have G4 := iC.mk (G3.out.step hg hlt hG hR)
        have hsp := fun (_ : True) => X6 1 (by omega) (x5 : Int) B4.out
        have B5 := iC.mk (show (w4.setCell ⟨wr0.heap.size, 1, none⟩ (.int .i64 (x5 : Int))).heap[wr0.heap.size]? = some (.cells #[.int .i64 (x4 : Int), .int .i64 (x5 : Int)] 98 (0, 0)) from mZ B4.out 1 _ rfl)
        have G5 := iC.mk (G4.out.box h00 hlt (kL w4 wr0.heap.size 1 (.int .i64 (x5 : Int))) HSZ.out HNE.out)
        clear hcall hR hG G3 B3
        go_upto_region 20 with fail
        obtain ⟨w5, hw5'⟩ : ∃ w5, w5 = w4.setCell ⟨wr0.heap.size, 1, none⟩ (.int .i64 (x5 : Int)) := ⟨_, rfl⟩
        rw [← hw5'] at B5 G5 ⊢
        clear hw5' hsp B4 G4 hw5
        have z6 : w5.cell? ⟨w.heap.size + 1, 6, none⟩ = some (.slice A6 ss.length a6) := (iE G5.out.xb 6).trans rfl
        have z0 : w5.cell? ⟨wr0.heap.size, 0, none⟩ = some (.int .i64 (x4 : Int)) := (iE B5.out 0).trans rfl
        have z1 : w5.cell? ⟨wr0.heap.size, 1, none⟩ = some (.int .i64 (x5 : Int)) := (iE B5.out 1).trans rfl
        have hst0 : True → True := fun h => h
        go_wp2_with (at_builtin; go_loud (refine Kd.R_append k98 (w0 := w5) (w.heap.size + 2) rfl (.tmp 60) (.tmp 62) 25 98 (.agg #[.int .i64 0, .int .i64 0]) 16 rfl Tryd.underlying25 VL rfl (by decide) (by omega) (.slice A6 ss.length a6) ss ⟨(x4 : Int), (x5 : Int)⟩ [.int .i64 (x4 : Int), .int .i64 (x5 : Int)] (fun _ => True) (fun _ => False) rfl rfl ?aP ?aK ?aF ?aO (Below.refl _ _) ?aB ?aL ?_; (case aP => exact QG _ _ _ (⟨(x4 : Int), (x5 : Int)⟩ : kC)); (case aK => exact fun k h => h.elim); (case aF => exact fun _ _ => trivial); (case aO => exact G5.out.r6); (case aB => exact G5.out.size); (case aL => (have := HLK.out; omega)); intro v5 w6 ho hb5 hg5 hat; obtain ⟨A7, a7, rfl⟩ := Kd.R_slice ho; obtain ⟨ss', hss⟩ : ∃ x, x = ss ++ [(⟨(x4 : Int), (x5 : Int)⟩ : kC)] := ⟨_, rfl⟩; rw [← hss] at ho; rw [← hss]; have HSS := iC.mk hss; obtain ⟨hxb, h7⟩ := G5.out.app6 h00 hlt hg5 ho; have G7 := iC.mk h7; have hst7 := fun (_ : True) => st_6 A7 ss'.length a7 hxb; clear hss ho hb5 hg5 hat hxb h7))
        go_roundw
        case rel => exact ⟨k + 1, ss', rb, A7, a7, by omega, by go_num, ⟨HRN.out, by rw [HSS.out, List.length_append, HLK.out.2]; rfl⟩, ⟨by rw [HSS.out]; exact HSN.out⟩, G7⟩
        case measure => simp [intOf]; omega
      · obtain rfl : k = n := by omega
        obtain ⟨wz0, wz1, wz2, wz3, wz4, wz5, wz6, wz7, wz8, wz9, wy0, wy1, wy2, wy3, wy4, wy5, wy6, wy7, wy8, wy9⟩ := ten (HH.out.xb)
        clear wy0 wy1 wy2 wy3 wy4 wy5 wy6 wy7 wy8 wy9
        have hstz := fun (_ : True) => lF (a := 6) (k := (m2 : Int)) (i := 0) (x3 := .slice none 0 0) (x4 := .slice none 0 0) (j := (m3 : Int)) (x6 := .slice A6 ss.length a6) (p := 0) (q := 0) (x9 := .slice none 0 0) HH.out.zb rfl rfl rfl rfl
        go_wp2
        ((try simp only [Exit.inBlock, Exit.then]); refine bodyPost_ret (uO rfl rfl (setRow_heap _ _ _ _ _ _ HH.out.zb) rfl) rfl ?_)
        obtain ⟨hl, hr, hgr⟩ := HH.out.fin hlt #[.int .u8 (⟨6, (m2 : Int), 0, [], [], ⟨(m3 : Int), ss⟩, 0, 0, []⟩ : SRec).f0, .int .u32 (⟨6, (m2 : Int), 0, [], [], ⟨(m3 : Int), ss⟩, 0, 0, []⟩ : SRec).f1, .int .u32 (⟨6, (m2 : Int), 0, [], [], ⟨(m3 : Int), ss⟩, 0, 0, []⟩ : SRec).f2, .slice none (⟨6, (m2 : Int), 0, [], [], ⟨(m3 : Int), ss⟩, 0, 0, []⟩ : SRec).f3.length 0, .slice none (⟨6, (m2 : Int), 0, [], [], ⟨(m3 : Int), ss⟩, 0, 0, []⟩ : SRec).f4.length 0, .int .u32 (⟨6, (m2 : Int), 0, [], [], ⟨(m3 : Int), ss⟩, 0, 0, []⟩ : SRec).f5.f0, .slice A6 (⟨6, (m2 : Int), 0, [], [], ⟨(m3 : Int), ss⟩, 0, 0, []⟩ : SRec).f5.f1.length a6, .int .i64 (⟨6, (m2 : Int), 0, [], [], ⟨(m3 : Int), ss⟩, 0, 0, []⟩ : SRec).f6, .int .i64 (⟨6, (m2 : Int), 0, [], [], ⟨(m3 : Int), ss⟩, 0, 0, []⟩ : SRec).f7, .slice none (⟨6, (m2 : Int), 0, [], [], ⟨(m3 : Int), ss⟩, 0, 0, []⟩ : SRec).f8.length 0]
        refine ⟨⟨6, (m2 : Int), 0, [], [], ⟨(m3 : Int), ss⟩, 0, 0, []⟩, none, 0, none, 0, A6, a6, none, 0, r, b4, rfl, hl, hr, hgr, fun e => ?_, fun e => ?_⟩
        · obtain ⟨e1, e2⟩ := HS4.out.1 e
          obtain ⟨e3, e4⟩ := HS3.out.1 e1
          rw [HST.out.1 e3]
          unfold oL
          rw [if_neg (by decide), if_neg (by decide), if_pos (by rfl), kW e4]
          simp only [Option.bind_some]
          unfold qG
          rw [e2]
          simp only [Option.bind_some]
          rw [Left.done (HSK.out e).1]
          rfl
        · cases b2 with
          | true => exact HST.out.2 rfl
          | false =>
            rw [HST.out.1 rfl]
            unfold oL
            rw [if_neg (by decide), if_neg (by decide), if_pos (by rfl)]
            cases b3 with
            | true =>
              rcases HS3.out.2 rfl with e1 | e1
              · cases e1
              · rw [mM e1]; rfl
            | false =>
              rw [kW (HS3.out.1 rfl).2]
              simp only [Option.bind_some]
              unfold qG
              rcases (HS4.out.2 e).2 with e1 | e1
              · cases e1
              · rw [e1]; rfl
  by_cases h7 : (m1 : Int) = 7
  · obtain rfl : m1 = 7 := by omega
    clear xy0 xy1 xy2 xy3 xy4 xy5 xy6 xy7 xy8 xy9 hm1 hm2 h1 h2 h6 h7
    go_upto_region 5 with fail
    go_upto_region 8 with fail
    go_upto_region 11 with fail
    go_upto_region 21 with fail
    go_upto_region 22 with fail
    have hcall := get_any 4 4 rfl (by omega) g r2 b2 w0 W5 H5.out.rb H5.out.bl
    go_wp2_with fail
    go_at_call 98
    refine hcall.mono ?_
    rintro e w6 ⟨m3, r3, b3, rfl, hR, hG, hlen, hst⟩
    have H6 := iC.mk (H5.out.step hg hlt hG hR)
    have hm3 : m3 < 4294967296 := by have h8 := hlen.2; rw [show (256 : Nat) ^ 4 = 4294967296 from by decide] at h8; exact h8
    have hw3 : wrap64 (m3 : Int) = (m3 : Int) := rU m3 (by omega)
    have hst6 := fun (_ : True) => st_7 (m3 : Int) H6.out.xb
    have H7 := iC.mk (H6.out.set (x' := ⟨7, (m2 : Int), 0, [], [], ⟨0, []⟩, (m3 : Int), 0, []⟩) h00 hlt H6.out.r3 H6.out.r4 H6.out.r6 H6.out.r9)
    have HR3 := iC.mk (show r3.length ≤ l.length from Nat.le_trans hlen.1 HR2.out)
    have HS3 := iC.mk hst
    clear hcall hG hR hlen hst xz0 xz1 xz2 xz3 xz4 xz5 xz6 xz7 xz8 xz9
    go_upto_region 23 with fail
    obtain ⟨W7, hW7⟩ : ∃ W7, W7 = w6.setRow (w.heap.size + 1) #[.int .u8 7, .int .u32 (m2 : Int), .int .u32 0, .slice none 0 0, .slice none 0 0, .int .u32 0, .slice none 0 0, .int .i64 (m3 : Int), .int .i64 0, .slice none 0 0] := ⟨_, rfl⟩
    have H7 := iC.mk (show lV w0 w W7 g ⟨7, (m2 : Int), 0, [], [], ⟨0, []⟩, (m3 : Int), 0, []⟩ none 0 none 0 none 0 none 0 r3 b3 from by rw [hW7]; exact H7.out)
    rw [← hW7]
    clear hW7 hst6 H6 hw3 hm3
    have hcall := get_any 4 4 rfl (by omega) g r3 b3 w0 W7 H7.out.rb H7.out.bl
    go_wp2_with fail
    go_at_call 98
    refine hcall.mono ?_
    rintro e w8 ⟨m4, r4, b4, rfl, hR, hG, hlen, hst⟩
    have H8 := iC.mk (H7.out.step hg hlt hG hR)
    have hm4 : m4 < 4294967296 := by have h8 := hlen.2; rw [show (256 : Nat) ^ 4 = 4294967296 from by decide] at h8; exact h8
    have hw4 : wrap64 (m4 : Int) = (m4 : Int) := rU m4 (by omega)
    have hst8 := fun (_ : True) => st_8 (m4 : Int) H8.out.xb
    have H9 := iC.mk (H8.out.set (x' := ⟨7, (m2 : Int), 0, [], [], ⟨0, []⟩, (m3 : Int), (m4 : Int), []⟩) h00 hlt H8.out.r3 H8.out.r4 H8.out.r6 H8.out.r9)
    have HR4 := iC.mk (show r4.length ≤ l.length from Nat.le_trans hlen.1 HR3.out)
    have HS4 := iC.mk hst
    clear hcall hG hR hlen hst
    go_upto_region 24 with fail
    obtain ⟨W9, hW9⟩ : ∃ W9, W9 = w8.setRow (w.heap.size + 1) #[.int .u8 7, .int .u32 (m2 : Int), .int .u32 0, .slice none 0 0, .slice none 0 0, .int .u32 0, .slice none 0 0, .int .i64 (m3 : Int), .int .i64 (m4 : Int), .slice none 0 0] := ⟨_, rfl⟩
    have H9 := iC.mk (show lV w0 w W9 g ⟨7, (m2 : Int), 0, [], [], ⟨0, []⟩, (m3 : Int), (m4 : Int), []⟩ none 0 none 0 none 0 none 0 r4 b4 from by rw [hW9]; exact H9.out)
    rw [← hW9]
    clear hW9 hst8 H8 hw4 hm4
    have hcall := JB g r4 b4 w0 W9 H9.out.rb H9.out.bl hg (by have := HR4.out; omega)
    go_wp2_with fail
    go_at_call 102
    refine hcall.mono ?_
    rintro e wa hq
    obtain ⟨hG, es, v, r5, b5, rfl, hv, hR, hlen, hst⟩ := RP.split hq
    have hv : Kd.R k86 86 wa W9.heap.size (fun _ => True) v es := hv
    obtain ⟨A9, a9, rfl⟩ := Kd.R_slice hv
    have Ha := iC.mk (H9.out.step hg hlt hG hR)
    have hsta := fun (_ : True) => st_9 A9 es.length a9 Ha.out.xb
    have Hb := iC.mk (Ha.out.set (x' := ⟨7, (m2 : Int), 0, [], [], ⟨0, []⟩, (m3 : Int), (m4 : Int), es⟩) h00 hlt Ha.out.r3 Ha.out.r4 Ha.out.r6 (Kd.R_lower hv H9.out.size))
    have HS5 := iC.mk hst
    clear hcall hq hG hv hR hlen hst
    go_upto_region 25 with fail
    obtain ⟨Wb, hWb⟩ : ∃ Wb, Wb = wa.setRow (w.heap.size + 1) #[.int .u8 7, .int .u32 (m2 : Int), .int .u32 0, .slice none 0 0, .slice none 0 0, .int .u32 0, .slice none 0 0, .int .i64 (m3 : Int), .int .i64 (m4 : Int), .slice A9 es.length a9] := ⟨_, rfl⟩
    have Hb := iC.mk (show lV w0 w Wb g ⟨7, (m2 : Int), 0, [], [], ⟨0, []⟩, (m3 : Int), (m4 : Int), es⟩ none 0 none 0 none 0 A9 a9 r5 b5 from by rw [hWb]; exact Hb.out)
    rw [← hWb]
    clear hWb hsta Ha
    obtain ⟨wz0, wz1, wz2, wz3, wz4, wz5, wz6, wz7, wz8, wz9, wy0, wy1, wy2, wy3, wy4, wy5, wy6, wy7, wy8, wy9⟩ := ten (Hb.out.xb)
    clear wy0 wy1 wy2 wy3 wy4 wy5 wy6 wy7 wy8 wy9
    have hstz := fun (_ : True) => lF (a := 7) (k := (m2 : Int)) (i := 0) (x3 := .slice none 0 0) (x4 := .slice none 0 0) (j := 0) (x6 := .slice none 0 0) (p := (m3 : Int)) (q := (m4 : Int)) (x9 := .slice A9 es.length a9) Hb.out.zb rfl rfl rfl rfl
    go_wp2
    ((try simp only [Exit.inBlock, Exit.then]); refine bodyPost_ret (uO rfl rfl (setRow_heap _ _ _ _ _ _ Hb.out.zb) rfl) rfl ?_)
    obtain ⟨hl, hr, hgr⟩ := Hb.out.fin hlt #[.int .u8 (⟨7, (m2 : Int), 0, [], [], ⟨0, []⟩, (m3 : Int), (m4 : Int), es⟩ : SRec).f0, .int .u32 (⟨7, (m2 : Int), 0, [], [], ⟨0, []⟩, (m3 : Int), (m4 : Int), es⟩ : SRec).f1, .int .u32 (⟨7, (m2 : Int), 0, [], [], ⟨0, []⟩, (m3 : Int), (m4 : Int), es⟩ : SRec).f2, .slice none (⟨7, (m2 : Int), 0, [], [], ⟨0, []⟩, (m3 : Int), (m4 : Int), es⟩ : SRec).f3.length 0, .slice none (⟨7, (m2 : Int), 0, [], [], ⟨0, []⟩, (m3 : Int), (m4 : Int), es⟩ : SRec).f4.length 0, .int .u32 (⟨7, (m2 : Int), 0, [], [], ⟨0, []⟩, (m3 : Int), (m4 : Int), es⟩ : SRec).f5.f0, .slice none (⟨7, (m2 : Int), 0, [], [], ⟨0, []⟩, (m3 : Int), (m4 : Int), es⟩ : SRec).f5.f1.length 0, .int .i64 (⟨7, (m2 : Int), 0, [], [], ⟨0, []⟩, (m3 : Int), (m4 : Int), es⟩ : SRec).f6, .int .i64 (⟨7, (m2 : Int), 0, [], [], ⟨0, []⟩, (m3 : Int), (m4 : Int), es⟩ : SRec).f7, .slice A9 (⟨7, (m2 : Int), 0, [], [], ⟨0, []⟩, (m3 : Int), (m4 : Int), es⟩ : SRec).f8.length a9]
    refine ⟨⟨7, (m2 : Int), 0, [], [], ⟨0, []⟩, (m3 : Int), (m4 : Int), es⟩, none, 0, none, 0, none, 0, A9, a9, r5, b5, rfl, hl, hr, hgr, fun e => ?_, fun e => ?_⟩
    · obtain ⟨e1, e2⟩ := HS5.out.1 e
      obtain ⟨e3, e4⟩ := HS4.out.1 e1
      obtain ⟨e5, e6⟩ := HS3.out.1 e3
      rw [HST.out.1 e5]
      unfold oL
      rw [if_neg (by decide), if_neg (by decide), if_neg (by decide), if_pos (by rfl), kW e6]
      simp only [Option.bind_some]
      rw [kW e4]
      simp only [Option.bind_some]
      rw [e2]
      rfl
    · cases b2 with
      | true => exact HST.out.2 rfl
      | false =>
        rw [HST.out.1 rfl]
        unfold oL
        rw [if_neg (by decide), if_neg (by decide), if_neg (by decide), if_pos (by rfl)]
        cases b3 with
        | true =>
          rcases HS3.out.2 rfl with e1 | e1
          · cases e1
          · rw [mM e1]; rfl
        | false =>
          rw [kW (HS3.out.1 rfl).2]
          simp only [Option.bind_some]
          cases b4 with
          | true =>
            rcases HS4.out.2 rfl with e1 | e1
            · cases e1
            · rw [mM e1]; rfl
          | false =>
            rw [kW (HS4.out.1 rfl).2]
            simp only [Option.bind_some]
            rcases HS5.out.2 e with e1 | e1
            · cases e1
            · rw [e1]; rfl
  have hrb : RB w0 (W5.setRow w.heap.size #[.int .u8 (⟨(m1 : Int), (m2 : Int), 0, [], [], ⟨0, []⟩, 0, 0, []⟩ : SRec).f0, .int .u32 (⟨(m1 : Int), (m2 : Int), 0, [], [], ⟨0, []⟩, 0, 0, []⟩ : SRec).f1, .int .u32 (⟨(m1 : Int), (m2 : Int), 0, [], [], ⟨0, []⟩, 0, 0, []⟩ : SRec).f2, .slice none (⟨(m1 : Int), (m2 : Int), 0, [], [], ⟨0, []⟩, 0, 0, []⟩ : SRec).f3.length 0, .slice none (⟨(m1 : Int), (m2 : Int), 0, [], [], ⟨0, []⟩, 0, 0, []⟩ : SRec).f4.length 0, .int .u32 (⟨(m1 : Int), (m2 : Int), 0, [], [], ⟨0, []⟩, 0, 0, []⟩ : SRec).f5.f0, .slice none (⟨(m1 : Int), (m2 : Int), 0, [], [], ⟨0, []⟩, 0, 0, []⟩ : SRec).f5.f1.length 0, .int .i64 (⟨(m1 : Int), (m2 : Int), 0, [], [], ⟨0, []⟩, 0, 0, []⟩ : SRec).f6, .int .i64 (⟨(m1 : Int), (m2 : Int), 0, [], [], ⟨0, []⟩, 0, 0, []⟩ : SRec).f7, .slice none (⟨(m1 : Int), (m2 : Int), 0, [], [], ⟨0, []⟩, 0, 0, []⟩ : SRec).f8.length 0]) g r2 b2 := RB.grown H5.out.rb (jA _ _ _) (by intro e; injection e with e; omega)
  have HRB := iC.mk hrb
  have hstz := fun (_ : True) => lF (a := (m1 : Int)) (k := (m2 : Int)) (i := 0) (x3 := .slice none 0 0) (x4 := .slice none 0 0) (j := 0) (x6 := .slice none 0 0) (p := 0) (q := 0) (x9 := .slice none 0 0) H5.out.zb rfl rfl rfl rfl
  clear hrb
  obtain ⟨k1, hk1⟩ : ∃ k1 : Int, k1 = (m1 : Int) := ⟨_, rfl⟩
  rw [← hk1] at h1 h2 h6 h7 hm1 xz0 hstz ⊢
  have HK1 := iC.mk hk1
  clear hk1 hm2 hm1
  go_upto_region 5 with fail
  go_upto_region 8 with fail
  go_upto_region 11 with fail
  go_upto_region 21 with fail
  clear xy0 xy1 xy2 xy3 xy4 xy5 xy6 xy7 xy8 xy9
  go_wp2
  have hG := jA W5 w.heap.size #[.int .u8 (⟨k1, (m2 : Int), 0, [], [], ⟨0, []⟩, 0, 0, []⟩ : SRec).f0, .int .u32 (⟨k1, (m2 : Int), 0, [], [], ⟨0, []⟩, 0, 0, []⟩ : SRec).f1, .int .u32 (⟨k1, (m2 : Int), 0, [], [], ⟨0, []⟩, 0, 0, []⟩ : SRec).f2, .slice none (⟨k1, (m2 : Int), 0, [], [], ⟨0, []⟩, 0, 0, []⟩ : SRec).f3.length 0, .slice none (⟨k1, (m2 : Int), 0, [], [], ⟨0, []⟩, 0, 0, []⟩ : SRec).f4.length 0, .int .u32 (⟨k1, (m2 : Int), 0, [], [], ⟨0, []⟩, 0, 0, []⟩ : SRec).f5.f0, .slice none (⟨k1, (m2 : Int), 0, [], [], ⟨0, []⟩, 0, 0, []⟩ : SRec).f5.f1.length 0, .int .i64 (⟨k1, (m2 : Int), 0, [], [], ⟨0, []⟩, 0, 0, []⟩ : SRec).f6, .int .i64 (⟨k1, (m2 : Int), 0, [], [], ⟨0, []⟩, 0, 0, []⟩ : SRec).f7, .slice none (⟨k1, (m2 : Int), 0, [], [], ⟨0, []⟩, 0, 0, []⟩ : SRec).f8.length 0]
  ((try simp only [Exit.inBlock, Exit.then]); refine bodyPost_ret (uO rfl rfl (setRow_heap _ _ _ _ _ _ H5.out.zb) rfl) rfl ?_)
  refine ⟨⟨k1, (m2 : Int), 0, [], [], ⟨0, []⟩, 0, 0, []⟩, none, 0, none, 0, none, 0, none, 0, r2, b2, rfl, ⟨Kd.R_nil _ _ _ _ _, Kd.R_nil _ _ _ _ _, Kd.R_nil _ _ _ _ _, Kd.R_nil _ _ _ _ _⟩, RB.grown H5.out.rb hG (by intro e; injection e with e; omega), jZ H5.out.gr hG (Nat.le_refl _), fun e => ?_, HST.out.2⟩
  rw [HST.out.1 e, ← HK1.out]
  unfold oL
  rw [if_neg h1, if_neg h2, if_neg h6, if_neg h7]
end Go.Proofs.YtgfkgppomaapiaaDoor.K
end

section
namespace Go.Proofs.YtgfkgppomaapiaaDoor.K
open RowKit YtgfkgppomaapiaaDoorW.PrintWords YtgfkgppomaapiaaDoorW.PrintLast YtgfkgppomaapiaaDoorW.PrintMore My
def N7 (w : World) (d : SRec × Int) (e : Ending) (w' : World) : Prop := ∃ (A3 : Option Addr) (a3 : Nat) (A4 : Option Addr) (a4 : Nat) (A6 : Option Addr) (a6 : Nat) (A9 : Option Addr) (a9 : Nat), e = .returned (.tuple #[.agg #[.int .u8 d.1.f0, .int .u32 d.1.f1, .int .u32 d.1.f2, .slice A3 d.1.f3.length a3, .slice A4 d.1.f4.length a4, .int .u32 d.1.f5.f0, .slice A6 d.1.f5.f1.length a6, .int .i64 d.1.f6, .int .i64 d.1.f7, .slice A9 d.1.f8.length a9], .int .i64 d.2]) ∧ Owns w.heap.size w' d.1 A3 a3 A4 a4 A6 a6 A9 a9 ∧ Below w.heap.size w w'
theorem RU (base : Nat) (w : World) : Owns base w mF none 0 none 0 none 0 none 0 := ⟨Kd.R_nil _ _ _ _ _, Kd.R_nil _ _ _ _ _, Kd.R_nil _ _ _ _ _, Kd.R_nil _ _ _ _ _⟩
theorem qM (w W : World) (h : Below w.heap.size w W) (c : Int) : N7 w (mF, c) (.returned (.tuple #[.agg #[.int .u8 0, .int .u32 0, .int .u32 0, .slice none 0 0, .slice none 0 0, .int .u32 0, .slice none 0 0, .int .i64 0, .int .i64 0, .slice none 0 0], .int .i64 c])) (W.setRow w.heap.size #[.int .u8 0, .int .u32 0, .int .u32 0, .slice none 0 0, .slice none 0 0, .int .u32 0, .slice none 0 0, .int .i64 0, .int .i64 0, .slice none 0 0]) :=
  ⟨none, 0, none, 0, none, 0, none, 0, rfl, RU _ _, below_grown h (jA W w.heap.size _) (Nat.le_refl _) (Nat.le_refl _)⟩
theorem rM {tmps : Array Value} {W : World} {p u : Tmp} {b : Nat} {cs : Array Value} {x : Value} (h : Tryd.f24.results = #[.cell p 30, .tmp u]) (hp : tmps.getD p undef = .pointer (some ⟨b, 0, none⟩)) (hu : tmps.getD u undef = x) (hx : W.heap[b]? = some (.cells cs 30 (0, 0))) (hs : cs.size = 10) :
    (results Tryd.f24 tmps).run Tryd.prog W = .ok (.tuple #[.agg cs, x]) W := by
  have h1 := run_loadVar_row (P := Tryd.prog) W b 30 30 cs (0, 0) _ hx Tryd.underlying30 rfl (by rw [hs]; kernel_rfl)
  rw [results_cell_tmp h, hp, hu]
  simp [asAddr, h1, Result.andThen]
theorem LX {w : World} {r : SRec} {A3 A4 A6 A9 : Option Addr} {a3 a4 a6 a9 : Nat} (h : Lies w r A3 a3 A4 a4 A6 a6 A9 a9) {E1 : List Int} {E2 : Int} (hE : encR r = (E1, E2)) : Calls Tryd.prog 18 #[.agg #[.int .u8 r.f0, .int .u32 r.f1, .int .u32 r.f2, .slice A3 r.f3.length a3, .slice A4 r.f4.length a4, .int .u32 r.f5.f0, .slice A6 r.f5.f1.length a6, .int .i64 r.f6, .int .i64 r.f7, .slice A9 r.f8.length a9]] w (nU w (E1, E2)) := by
  rw [← hE]
  exact uV r.f0 r.f1 r.f2 A3 a3 r.f3 A4 a4 r.f4 r.f5.f0 A6 a6 r.f5.f1 r.f6 r.f7 A9 a9 r.f8 w h.h3 h.d3 h.h4 h.d4 h.h6 h.d6 h.h9 h.d9
theorem IK (A : Option Addr) (n c : Nat) : (Tryd.prog).built 123 (#[(0, .slice A n c)] : Array (Nat × Value)).toList = some #[.slice A n c, .bool false] := by kernel_rfl
theorem NT (w : World) (A : Option Addr) (n c : Nat) : (Instr.build 123 #[(0, .slice A n c)]).run Tryd.prog w = .ok (.agg #[.slice A n c, .bool false]) w := run_build w _ _ _ (IK A n c)
theorem QD {l : List UInt8} (hl : ¬ 60000 < l.length) (h : recP l = none) : decR l = (mF, 70) := by unfold decR; rw [if_neg hl, h]
theorem U3 {l r : List UInt8} {x : SRec} (hl : ¬ 60000 < l.length) (h : recP l = some (x, r)) : decR l = if encR x = (nums l, 0) then (x, 0) else (mF, 70) := by unfold decR; rw [if_neg hl, h]
attribute [-go_sem] Instr.build Instr.storeAt
attribute [local go_sem] NI NT
set_option maxRecDepth 20000 in
set_option maxHeartbeats 16000000 in
theorem MG (A : Option Addr) (c : Nat) (l : List UInt8) (w : World) (hCi : (Kd.int .u8).C w A l.length (nums l)) (hc : l.length ≤ c) :
    Calls Tryd.prog 24 #[.slice A l.length c] w (N7 w (decR l)) := by
  by_cases hl : 60000 < l.length
  · have hD : decR l = (mF, 3) := by unfold decR; rw [if_pos hl]
    rw [hD]
    have hst := fun (_ : True) => lF (a := 0) (k := 0) (i := 0) (x3 := .slice none 0 0) (x4 := .slice none 0 0) (j := 0) (x6 := .slice none 0 0) (p := 0) (q := 0) (x9 := .slice none 0 0) (show (w.alloc (.cells #[.int .u8 0, .int .u32 0, .int .u32 0, .slice none 0 0, .slice none 0 0, .int .u32 0, .slice none 0 0, .int .i64 0, .int .i64 0, .slice none 0 0] 30)).heap[w.heap.size]? = _ from iM rfl) rfl rfl rfl rfl
    clear hD hCi
    go_enter Tryd.func24, Tryd.ntmps24
    go_wp2
    ((try simp only [Exit.inBlock, Exit.then]); exact bodyPost_ret (rM rfl rfl rfl (setRow_heap _ _ _ _ _ _ (iM rfl)) rfl) rfl (qM w _ (iF (Below.refl _ _) _) 3))
  · obtain ⟨W2, hW2⟩ : ∃ W2, W2 = (w.alloc (.cells #[.int .u8 0, .int .u32 0, .int .u32 0, .slice none 0 0, .slice none 0 0, .int .u32 0, .slice none 0 0, .int .i64 0, .int .i64 0, .slice none 0 0] 30)).alloc (.cells #[.slice A l.length c, .bool false] 123) := ⟨_, rfl⟩
    have hb2 : Below w.heap.size w W2 := by rw [hW2]; exact iF (iF (Below.refl _ _) _) _
    have HX2 := iC.mk (show W2.heap[w.heap.size]? = some (.cells #[.int .u8 0, .int .u32 0, .int .u32 0, .slice none 0 0, .slice none 0 0, .int .u32 0, .slice none 0 0, .int .i64 0, .int .i64 0, .slice none 0 0] 30 (0, 0)) from by rw [hW2]; exact jD (iM rfl))
    have hrb : RB w W2 (w.heap.size + 1) l false := ⟨A, c, by rw [hW2]; exact iM (by simp), hc, o8 hCi⟩
    have hcall := UL (w.heap.size + 1) l w W2 hrb hb2 (Nat.le_succ _) (by omega)
    have HB2 := iC.mk hb2
    have HW2 := iC.mk hW2
    have HLT := iC.mk (show w.heap.size < W2.heap.size from jE HX2.out)
    have HCI := iC.mk hCi
    have hm := kQ hCi
    clear hrb hb2 hW2 hCi
    have HNL := iC.mk hl
    go_enter Tryd.func24, Tryd.ntmps24
    go_wp2_with fail
    rw [← HW2.out]
    go_at_call 79
    refine hcall.mono ?_
    rintro e w3 ⟨x, A3, a3, A4, a4, A6, a6, A9, a9, r, b, rfl, hL, hRB, hG, h1, h2⟩
    have hX3 : w3.heap[w.heap.size]? = some (.cells #[.int .u8 0, .int .u32 0, .int .u32 0, .slice none 0 0, .slice none 0 0, .int .u32 0, .slice none 0 0, .int .i64 0, .int .i64 0, .slice none 0 0] 30 (0, 0)) := (hG.block _ (jE HX2.out) (by intro e; injection e with e; omega)).trans HX2.out
    have hB3 : Below w.heap.size w w3 := below_grown HB2.out hG (Nat.le_succ _) (Nat.le_refl _)
    obtain ⟨Ar, cr, hblk, _, _⟩ := hRB
    have hsx := fun (_ : True) => run_storeAt_new (P := Tryd.prog) w3 30 #[.int .u8 0, .int .u32 0, .int .u32 0, .slice none 0 0, .slice none 0 0, .int .u32 0, .slice none 0 0, .int .i64 0, .int .i64 0, .slice none 0 0] #[.int .u8 x.f0, .int .u32 x.f1, .int .u32 x.f2, .slice A3 x.f3.length a3, .slice A4 x.f4.length a4, .int .u32 x.f5.f0, .slice A6 x.f5.f1.length a6, .int .i64 x.f6, .int .i64 x.f7, .slice A9 x.f8.length a9] (by kernel_rfl) rfl (by simp [Value.oneCell'])
    obtain ⟨W4, hW4⟩ : ∃ W4, W4 = w3.alloc (.cells #[.int .u8 x.f0, .int .u32 x.f1, .int .u32 x.f2, .slice A3 x.f3.length a3, .slice A4 x.f4.length a4, .int .u32 x.f5.f0, .slice A6 x.f5.f1.length a6, .int .i64 x.f6, .int .i64 x.f7, .slice A9 x.f8.length a9] 30) := ⟨_, rfl⟩
    have hbw : Below w3.heap.size w3 W4 := by rw [hW4]; exact iF (Below.refl _ _) _
    have HX4 := iC.mk (iJ hbw hX3)
    have HB4 := iC.mk (iH hB3 hbw)
    have HF4 := iC.mk (iJ hbw hblk)
    have HL4 := iC.mk (hL.below hbw)
    have HC4 := iC.mk (Kd.C_below HCI.out HB4.out)
    have HR4 := iC.mk (show W4.heap[w3.heap.size]? = some (.cells #[.int .u8 x.f0, .int .u32 x.f1, .int .u32 x.f2, .slice A3 x.f3.length a3, .slice A4 x.f4.length a4, .int .u32 x.f5.f0, .slice A6 x.f5.f1.length a6, .int .i64 x.f6, .int .i64 x.f7, .slice A9 x.f8.length a9] 30 (0, 0)) from by rw [hW4]; exact iM rfl)
    have hlx := fun (_ : True) => mY HR4.out rfl
    have HW4 := iC.mk hW4
    have HD1 := iC.mk h1
    have HD2 := iC.mk h2
    clear hcall hW4 hbw hX3 hB3 hblk hL hG h1 h2 HX2 HB2 HW2
    obtain ⟨⟨E1, E2⟩, hE⟩ : ∃ E : List Int × Int, encR x = E := ⟨_, rfl⟩
    have hcall := LX HL4.out.lies hE
    have HE := iC.mk hE
    have HCS := iC.mk (oU x)
    clear hE
    go_upto_region 5 with fail
    rw [← HW4.out]
    clear hsx hlx
    obtain ⟨wz0, wz1, wz2, wz3, wz4, wz5, wz6, wz7, wz8, wz9, wy0, wy1, wy2, wy3, wy4, wy5, wy6, wy7, wy8, wy9⟩ := ten (HR4.out)
    clear wy0 wy1 wy2 wy3 wy4 wy5 wy6 wy7 wy8 wy9
    go_wp2_with fail
    go_at_call 18
    refine hcall.mono ?_
    rintro e w5 ⟨v0, rfl, h0, hb5⟩
    dsimp only at h0
    dsimp only
    obtain ⟨A0, c0, rfl⟩ := Kd.R_slice h0
    obtain ⟨_, q0, C0⟩ := Kd.R_reads' h0
    have hX5 := iJ hb5 HX4.out
    have HB5 := iC.mk (iH HB4.out hb5)
    have hF5 := iJ hb5 HF4.out
    have HL5 := iC.mk (HL4.out.below hb5)
    have hR5 := iJ hb5 HR4.out
    have hcv1 := fun (_ : True) => Kd.C_string (P := Tryd.prog) (c := c0) Tryd.underlying33 Tryd.underlying5 Tryd.underlying9 C0
    have hcv2 := fun (_ : True) => Kd.C_string (P := Tryd.prog) (c := c) Tryd.underlying33 Tryd.underlying5 Tryd.underlying9 (Kd.C_below HC4.out hb5)
    have zf : w5.cell? ⟨w.heap.size + 1, 1, none⟩ = some (.bool b) := (iE hF5 1).trans rfl
    clear wz0 wz1 wz2 wz3 wz4 wz5 wz6 wz7 wz8 wz9
    have hst := fun (_ : True) => lF (a := 0) (k := 0) (i := 0) (x3 := .slice none 0 0) (x4 := .slice none 0 0) (j := 0) (x6 := .slice none 0 0) (p := 0) (q := 0) (x9 := .slice none 0 0) hX5 rfl rfl rfl rfl
    have HX5 := iC.mk hX5
    have HR5 := iC.mk hR5
    clear hcall h0 q0 C0 hb5 hF5 HX4 HB4 HF4 HL4 HC4 HR4 hX5 hR5 HCI HW4
    cases b with
    | true =>
      have HDD := iC.mk (QD HNL.out (HD2.out rfl))
      clear HD1 HD2 HE HCS
      go_wp2
      ((try simp only [Exit.inBlock, Exit.then]); exact bodyPost_ret (rM rfl rfl rfl (setRow_heap _ _ _ _ _ _ HX5.out) rfl) rfl (by rw [HDD.out]; exact qM w _ HB5.out 70))
    | false =>
      have HDD := iC.mk (U3 HNL.out (HD1.out rfl))
      have hcs := HCS.out
      have he := HE.out
      rw [he] at hcs
      clear HD1 HD2 HE HCS hl
      rcases hcs with hc | hc | hc
      · obtain ⟨rfl, rfl⟩ := Prod.mk.inj hc
        have HD3 := iC.mk (show decR l = (mF, 70) from HDD.out.trans (if_neg (by rw [he]; intro h; injection h with _ h2; cases h2)))
        clear he hc HDD
        go_wp2
        ((try simp only [Exit.inBlock, Exit.then]); exact bodyPost_ret (rM rfl rfl rfl (setRow_heap _ _ _ _ _ _ HX5.out) rfl) rfl (by rw [HD3.out]; exact qM w _ HB5.out 70))
      · obtain ⟨rfl, rfl⟩ := Prod.mk.inj hc
        have HD3 := iC.mk (show decR l = (mF, 70) from HDD.out.trans (if_neg (by rw [he]; intro h; injection h with _ h2; cases h2)))
        clear he hc HDD
        go_wp2
        ((try simp only [Exit.inBlock, Exit.then]); exact bodyPost_ret (rM rfl rfl rfl (setRow_heap _ _ _ _ _ _ HX5.out) rfl) rfl (by rw [HD3.out]; exact qM w _ HB5.out 70))
      · obtain ⟨rfl, rfl⟩ := Prod.mk.inj hc
        have heq := oD (recE x) l
        obtain ⟨s1, hs1⟩ : ∃ s, s = strOfNums (nums (recE x)) := ⟨_, rfl⟩
        obtain ⟨s2, hs2⟩ : ∃ s, s = strOfNums (nums l) := ⟨_, rfl⟩
        rw [← hs1] at hcv1 heq
        rw [← hs2] at hcv2 heq
        clear hs1 hs2 hc
        by_cases hq : recE x = l
        · have HD3 := iC.mk (show decR l = (x, 0) from HDD.out.trans (if_pos (by rw [he, hq])))
          have hqq : (s1.toList == s2.toList) = true := by rw [heq]; exact decide_eq_true hq
          have hst := fun (_ : True) => lF (a := x.f0) (k := x.f1) (i := x.f2) (x3 := .slice A3 x.f3.length a3) (x4 := .slice A4 x.f4.length a4) (j := x.f5.f0) (x6 := .slice A6 x.f5.f1.length a6) (p := x.f6) (q := x.f7) (x9 := .slice A9 x.f8.length a9) HX5.out rfl rfl rfl rfl
          obtain ⟨wz0, wz1, wz2, wz3, wz4, wz5, wz6, wz7, wz8, wz9, wy0, wy1, wy2, wy3, wy4, wy5, wy6, wy7, wy8, wy9⟩ := ten (HR5.out)
          clear wy0 wy1 wy2 wy3 wy4 wy5 wy6 wy7 wy8 wy9
          clear heq hq he HDD
          go_wp2
          ((try simp only [Exit.inBlock, Exit.then]); refine bodyPost_ret (rM rfl rfl rfl (setRow_heap _ _ _ _ _ _ HX5.out) rfl) rfl ?_)
          rw [HD3.out]
          exact ⟨A3, a3, A4, a4, A6, a6, A9, a9, rfl, ((HL5.out.keep (jA _ w.heap.size _) HLT.out).lower (Nat.le_of_lt HLT.out)), below_grown HB5.out (jA _ w.heap.size _) (Nat.le_refl _) (Nat.le_refl _)⟩
        · have HD3 := iC.mk (show decR l = (mF, 70) from HDD.out.trans (if_neg (by rw [he]; intro h; injection h with h1 _; exact hq (xI h1))))
          have hqq : (s1.toList == s2.toList) = false := by rw [heq]; exact decide_eq_false hq
          clear heq hq he HDD
          go_wp2
          ((try simp only [Exit.inBlock, Exit.then]); exact bodyPost_ret (rM rfl rfl rfl (setRow_heap _ _ _ _ _ _ HX5.out) rfl) rfl (by rw [HD3.out]; exact qM w _ HB5.out 70))
end Go.Proofs.YtgfkgppomaapiaaDoor.K
end

section
namespace Go.Proofs.YtgfkgppomaapiaaDoor.K
open Go.RowKit Go.Proofs.YtgfkgppomaapiaaDoorW.PrintWords Go.Proofs.YtgfkgppomaapiaaDoor.My
structure SMsg where
  f0 : Int
  f1 : Int
  f2 : Int
  f3 : List Int
  f4 : List jQ
  f5 : Int
  f6 : Int
  f7 : List jG
def pY (k : Int) : Int :=
  if k = 1 then 1 else if k = 4 then 2 else if k = 8 then 7 else if k = 9 then 7 else if k = 10 then 7
  else if k = 2 then 4 else if k = 3 then 4 else if k = 5 then 4 else if k = 6 then 4 else if k = 7 then 4 else if k = 11 then 4 else 0
def recM (m : SMsg) : SRec := ⟨pY m.f0, m.f1, m.f2, m.f3, m.f4, ⟨0, []⟩, m.f5, m.f6, m.f7⟩
def msgR (k : Int) (r : SRec) : SMsg := ⟨k, r.f1, r.f2, r.f3, r.f4, r.f6, r.f7, r.f8⟩
def preM (m : SMsg) : Bool := !(decide (m.f0 = 4) && decide (0 < m.f3.length)) && !(decide (m.f0 = 8) && decide (0 < m.f7.length)) && !(decide (m.f0 = 9) && (!decide (m.f5 = 0) || !decide (m.f6 = 0)))
def lU (m : SMsg) : Bool := preM m && jJ (recM m)
def encM (m : SMsg) : List Int × Int := if lU m = true then (if (encR (recM m)).2 = 0 then (m.f0 :: (encR (recM m)).1, 0) else ([], (encR (recM m)).2)) else ([], 1)
def kT : SMsg := ⟨0, 0, 0, [], [], 0, 0, []⟩
def decM (l : List UInt8) : SMsg × Int := match l with
  | [] => (kT, 160)
  | k :: t => if (decR t).2 = 0 then (if encM (msgR k.toNat (decR t).1) = (nums (k :: t), 0) then (msgR k.toNat (decR t).1, 0) else (kT, 160)) else (kT, 160)
theorem vG (m : SMsg) : encM m = ([], 1) ∨ encM m = ([], 3) ∨ (lU m = true ∧ encM m = (m.f0 :: nums (recE (recM m)), 0)) := by
  unfold encM
  by_cases hs : lU m = true
  · rw [if_pos hs]
    rcases oU (recM m) with h | h | h <;> rw [h]
    · exact .inl (if_neg (by decide))
    · exact .inr (.inl (if_neg (by decide)))
    · exact .inr (.inr ⟨hs, if_pos rfl⟩)
  · rw [if_neg hs]; exact .inl rfl
def qF : SMsg := ⟨2, 5, 0, [], [], 0, 0, []⟩
theorem O1 : encM qF = (nums [2, 4, 0, 0, 0, 5], 0) := by decide
theorem NM : decM [2, 4, 0, 0, 0, 5] = (qF, 0) := by rfl
theorem OA : decM [99] = (kT, 160) := by rfl
theorem JP : lU qF = true := by rfl
theorem QE (k : Int) : pY k = 0 ∨ (pY k = 1 ∧ k = 1) ∨ (pY k = 2 ∧ k = 4) ∨ (pY k = 7 ∧ 8 ≤ k ∧ k ≤ 10) ∨ (pY k = 4 ∧ 2 ≤ k ∧ k ≤ 11 ∧ k ≠ 4 ∧ ¬ (8 ≤ k ∧ k ≤ 10)) := by
  unfold pY; repeat' split
  all_goals omega
end Go.Proofs.YtgfkgppomaapiaaDoor.K
end

section
namespace Go.Proofs.YtgfkgppomaapiaaDoor.K
open RowKit YtgfkgppomaapiaaDoorW.PrintWords YtgfkgppomaapiaaDoorW.PrintLast YtgfkgppomaapiaaDoorW.PrintMore My
set_option maxHeartbeats 4000000 in
theorem UB (k : Int) (w : World) : Calls Tryd.prog 103 #[.int .u8 k] w fun e w' => e = .returned (.int .u8 (pY k)) ∧ w' = w := by
  by_cases h1 : k = 1
  · subst h1; go_enter Tryd.func103, Tryd.ntmps103; go_wp2; go_ret; exact ⟨rfl, rfl⟩
  by_cases h2 : k = 4
  · subst h2; go_enter Tryd.func103, Tryd.ntmps103; go_wp2; go_ret; exact ⟨rfl, rfl⟩
  by_cases h3 : k = 8
  · subst h3; go_enter Tryd.func103, Tryd.ntmps103; go_wp2; go_ret; exact ⟨rfl, rfl⟩
  by_cases h4 : k = 9
  · subst h4; go_enter Tryd.func103, Tryd.ntmps103; go_wp2; go_ret; exact ⟨rfl, rfl⟩
  by_cases h5 : k = 10
  · subst h5; go_enter Tryd.func103, Tryd.ntmps103; go_wp2; go_ret; exact ⟨rfl, rfl⟩
  by_cases h6 : k = 2
  · subst h6; go_enter Tryd.func103, Tryd.ntmps103; go_wp2; go_ret; exact ⟨rfl, rfl⟩
  by_cases h7 : k = 3
  · subst h7; go_enter Tryd.func103, Tryd.ntmps103; go_wp2; go_ret; exact ⟨rfl, rfl⟩
  by_cases h8 : k = 5
  · subst h8; go_enter Tryd.func103, Tryd.ntmps103; go_wp2; go_ret; exact ⟨rfl, rfl⟩
  by_cases h9 : k = 6
  · subst h9; go_enter Tryd.func103, Tryd.ntmps103; go_wp2; go_ret; exact ⟨rfl, rfl⟩
  by_cases h10 : k = 7
  · subst h10; go_enter Tryd.func103, Tryd.ntmps103; go_wp2; go_ret; exact ⟨rfl, rfl⟩
  by_cases h11 : k = 11
  · subst h11; go_enter Tryd.func103, Tryd.ntmps103; go_wp2; go_ret; exact ⟨rfl, rfl⟩
  · have hz : 0 = pY k := by unfold pY; simp [h1, h2, h3, h4, h5, h6, h7, h8, h9, h10, h11]
    go_enter Tryd.func103, Tryd.ntmps103; go_wp2; go_ret; exact ⟨by rw [← hz]; rfl, rfl⟩
theorem eight {w : World} {b t : Nat} {v0 v1 v2 v3 v4 v5 v6 v7 : Value} (h : w.heap[b]? = some (.cells #[v0, v1, v2, v3, v4, v5, v6, v7] t (0, 0))) :
    w.cell? ⟨b, 0, none⟩ = some v0 ∧ w.cell? ⟨b, 1, none⟩ = some v1 ∧ w.cell? ⟨b, 2, none⟩ = some v2 ∧ w.cell? ⟨b, 3, none⟩ = some v3 ∧ w.cell? ⟨b, 4, none⟩ = some v4 ∧ w.cell? ⟨b, 5, none⟩ = some v5 ∧ w.cell? ⟨b, 6, none⟩ = some v6 ∧ w.cell? ⟨b, 7, none⟩ = some v7 ∧
    w.frozen? ⟨b, 0, none⟩ = false ∧ w.frozen? ⟨b, 1, none⟩ = false ∧ w.frozen? ⟨b, 2, none⟩ = false ∧ w.frozen? ⟨b, 3, none⟩ = false ∧ w.frozen? ⟨b, 4, none⟩ = false ∧ w.frozen? ⟨b, 5, none⟩ = false ∧ w.frozen? ⟨b, 6, none⟩ = false ∧ w.frozen? ⟨b, 7, none⟩ = false :=
  ⟨(iE h 0).trans rfl, (iE h 1).trans rfl, (iE h 2).trans rfl, (iE h 3).trans rfl, (iE h 4).trans rfl, (iE h 5).trans rfl, (iE h 6).trans rfl, (iE h 7).trans rfl,
   iD h 0, iD h 1, iD h 2, iD h 3, iD h 4, iD h 5, iD h 6, iD h 7⟩
theorem NR (k i a p q : Int) (A3 : Option Addr) (n3 c3 : Nat) (A4 : Option Addr) (n4 c4 : Nat) (A9 : Option Addr) (n9 c9 : Nat) : (Tryd.prog).built 30 (#[(0, .int .u8 k), (1, .int .u32 i), (2, .int .u32 a), (3, .slice A3 n3 c3), (4, .slice A4 n4 c4), (6, .int .i64 p), (7, .int .i64 q), (8, .slice A9 n9 c9)] : Array (Nat × Value)).toList = some #[.int .u8 k, .int .u32 i, .int .u32 a, .slice A3 n3 c3, .slice A4 n4 c4, .int .u32 0, .slice none 0 0, .int .i64 p, .int .i64 q, .slice A9 n9 c9] := by kernel_rfl
theorem PE (w : World) (k i a p q : Int) (A3 : Option Addr) (n3 c3 : Nat) (A4 : Option Addr) (n4 c4 : Nat) (A9 : Option Addr) (n9 c9 : Nat) : (Instr.build 30 #[(0, .int .u8 k), (1, .int .u32 i), (2, .int .u32 a), (3, .slice A3 n3 c3), (4, .slice A4 n4 c4), (6, .int .i64 p), (7, .int .i64 q), (8, .slice A9 n9 c9)]).run Tryd.prog w = .ok (.agg #[.int .u8 k, .int .u32 i, .int .u32 a, .slice A3 n3 c3, .slice A4 n4 c4, .int .u32 0, .slice none 0 0, .int .i64 p, .int .i64 q, .slice A9 n9 c9]) w := run_build w _ _ _ (NR k i a p q A3 n3 c3 A4 n4 c4 A9 n9 c9)
theorem VW {tmps : Array Value} {W : World} {p : Tmp} {b : Nat} {cs : Array Value} (h : Tryd.f80.results = #[.cell p 30]) (hp : tmps.getD p undef = .pointer (some ⟨b, 0, none⟩)) (hx : W.heap[b]? = some (.cells cs 30 (0, 0))) (hs : cs.size = 10) :
    (results Tryd.f80 tmps).run Tryd.prog W = .ok (.agg cs) W := by
  exact results_cell_row h _ _ _ _ _ _ _ hp hx Tryd.underlying30 rfl (by rw [hs]; kernel_rfl)
attribute [-go_sem] Instr.build Instr.storeAt
attribute [local go_sem] PE
set_option maxRecDepth 20000 in
set_option maxHeartbeats 8000000 in
theorem pJ (k i a p q : Int) (A3 : Option Addr) (n3 c3 : Nat) (A4 : Option Addr) (n4 c4 : Nat) (A9 : Option Addr) (n9 c9 : Nat) (w : World) :
    Calls Tryd.prog 80 #[.agg #[.int .u8 k, .int .u32 i, .int .u32 a, .slice A3 n3 c3, .slice A4 n4 c4, .int .i64 p, .int .i64 q, .slice A9 n9 c9]] w fun e w' => e = .returned (.agg #[.int .u8 (pY k), .int .u32 i, .int .u32 a, .slice A3 n3 c3, .slice A4 n4 c4, .int .u32 0, .slice none 0 0, .int .i64 p, .int .i64 q, .slice A9 n9 c9]) ∧ Below w.heap.size w w' := by
  have hx : ((w.alloc (.cells #[.int .u8 k, .int .u32 i, .int .u32 a, .slice A3 n3 c3, .slice A4 n4 c4, .int .i64 p, .int .i64 q, .slice A9 n9 c9] 51)).alloc (.cells #[.int .u8 0, .int .u32 0, .int .u32 0, .slice none 0 0, .slice none 0 0, .int .u32 0, .slice none 0 0, .int .i64 0, .int .i64 0, .slice none 0 0] 30)).heap[w.heap.size]? = some (.cells #[.int .u8 k, .int .u32 i, .int .u32 a, .slice A3 n3 c3, .slice A4 n4 c4, .int .i64 p, .int .i64 q, .slice A9 n9 c9] 51 (0, 0)) := jD (iM rfl)
  have hz : ((w.alloc (.cells #[.int .u8 k, .int .u32 i, .int .u32 a, .slice A3 n3 c3, .slice A4 n4 c4, .int .i64 p, .int .i64 q, .slice A9 n9 c9] 51)).alloc (.cells #[.int .u8 0, .int .u32 0, .int .u32 0, .slice none 0 0, .slice none 0 0, .int .u32 0, .slice none 0 0, .int .i64 0, .int .i64 0, .slice none 0 0] 30)).heap[w.heap.size + 1]? = some (.cells #[.int .u8 0, .int .u32 0, .int .u32 0, .slice none 0 0, .slice none 0 0, .int .u32 0, .slice none 0 0, .int .i64 0, .int .i64 0, .slice none 0 0] 30 (0, 0)) := iM (by simp)
  have hb : Below w.heap.size w ((w.alloc (.cells #[.int .u8 k, .int .u32 i, .int .u32 a, .slice A3 n3 c3, .slice A4 n4 c4, .int .i64 p, .int .i64 q, .slice A9 n9 c9] 51)).alloc (.cells #[.int .u8 0, .int .u32 0, .int .u32 0, .slice none 0 0, .slice none 0 0, .int .u32 0, .slice none 0 0, .int .i64 0, .int .i64 0, .slice none 0 0] 30)) := iF (iF (Below.refl _ _) _) _
  have HB := iC.mk hb
  clear hb
  go_enter Tryd.func80, Tryd.ntmps80
  go_wp2
  generalize ((w.alloc (.cells #[.int .u8 k, .int .u32 i, .int .u32 a, .slice A3 n3 c3, .slice A4 n4 c4, .int .i64 p, .int .i64 q, .slice A9 n9 c9] 51)).alloc (.cells #[.int .u8 0, .int .u32 0, .int .u32 0, .slice none 0 0, .slice none 0 0, .int .u32 0, .slice none 0 0, .int .i64 0, .int .i64 0, .slice none 0 0] 30)) = W at hx hz HB
  have HX := iC.mk hx
  have HZ := iC.mk hz
  have hst := fun (_ : True) => lF (a := pY k) (k := i) (i := a) (x3 := .slice A3 n3 c3) (x4 := .slice A4 n4 c4) (j := 0) (x6 := .slice none 0 0) (p := p) (q := q) (x9 := .slice A9 n9 c9) (show W.drew.heap[w.heap.size + 1]? = _ from hz) rfl rfl rfl rfl
  clear hx hz
  refine qH (n := 19) (S := fun w' => w'.cell? ⟨w.heap.size, 0, none⟩ = some (.int .u8 k) ∧ w'.cell? ⟨w.heap.size, 1, none⟩ = some (.int .u32 i) ∧ w'.cell? ⟨w.heap.size, 2, none⟩ = some (.int .u32 a) ∧ w'.cell? ⟨w.heap.size, 3, none⟩ = some (.slice A3 n3 c3) ∧ w'.cell? ⟨w.heap.size, 4, none⟩ = some (.slice A4 n4 c4) ∧ w'.cell? ⟨w.heap.size, 5, none⟩ = some (.int .i64 p) ∧ w'.cell? ⟨w.heap.size, 6, none⟩ = some (.int .i64 q) ∧ w'.cell? ⟨w.heap.size, 7, none⟩ = some (.slice A9 n9 c9)) (ds := [18]) #[false, false, false, false, false, false, false, false, false, false, false, false, false, false, false, false, false, false, false] (by kernel_rfl) rfl rfl ⟨(iE HX.out 0).trans rfl, (iE HX.out 1).trans rfl, (iE HX.out 2).trans rfl, (iE HX.out 3).trans rfl, (iE HX.out 4).trans rfl, (iE HX.out 5).trans rfl, (iE HX.out 6).trans rfl, (iE HX.out 7).trans rfl⟩ (fun hHeld => ?_)
  refine lZ (T := (true, [([], []), ([0], [0]), ([1], [1]), ([], []), ([3], [3]), ([], []), ([5], [5]), ([], []), ([7], [7]), ([], []), ([9], [9]), ([], []), ([11], [11]), ([], []), ([13], [13]), ([], []), ([15], [15]), ([2, 4, 6, 8, 10, 12, 14, 16], [2, 4, 6, 8, 10, 12, 14, 16]), ([17, 2, 0, 1, 2, 3, 4, 5, 6, 7, 8, 9, 10, 11, 12, 13, 14, 15, 16, 17], [17])])) (B := [0, 1, 3, 0, 8, 0, 32, 0, 128, 0, 512, 0, 2048, 0, 8192, 0, 32768, 131071, 262143]) (by kernel_rfl) (by kernel_rfl) (fun HT_ HW_ => ?_)
  refine jH (i := 0) (N := some 3) (v := ?_) (a' := ?_) #[true, false, false, false, false, false, false, false, false, false, false, false, false, false, false, false, false, false, false] rfl rfl (iZ HT_.out (by kernel_rfl)) (fun _ _ _ h => h) (Or.inl ⟨by rfl, ?_⟩) ?_ ?_
  rotate_left
  · intro w'
    go_simp
    with_reducible rfl
  rotate_left
  · simp only [Act.put, List.setIfInBounds_toArray, List.set_cons_zero, List.set_cons_succ, iU, iY]
    rfl
  refine jH (i := 3) (N := some 6) (v := ?_) (a' := ?_) #[true, false, false, true, false, false, false, false, false, false, false, false, false, false, false, false, false, false, false] rfl rfl (iZ HT_.out (by kernel_rfl)) (fun _ _ _ h => h) (Or.inl ⟨by rfl, ?_⟩) ?_ ?_
  rotate_left
  · intro w'
    go_simp
    with_reducible rfl
  rotate_left
  · simp only [Act.put, List.setIfInBounds_toArray, List.set_cons_zero, List.set_cons_succ, iU, iY]
    rfl
  refine jH (i := 5) (N := some 8) (v := ?_) (a' := ?_) #[true, false, false, true, false, true, false, false, false, false, false, false, false, false, false, false, false, false, false] rfl rfl (iZ HT_.out (by kernel_rfl)) (fun _ _ _ h => h) (Or.inl ⟨by rfl, ?_⟩) ?_ ?_
  rotate_left
  · intro w'
    go_simp
    with_reducible rfl
  rotate_left
  · simp only [Act.put, List.setIfInBounds_toArray, List.set_cons_zero, List.set_cons_succ, iU, iY]
    rfl
  refine jH (i := 7) (N := some 10) (v := ?_) (a' := ?_) #[true, false, false, true, false, true, false, true, false, false, false, false, false, false, false, false, false, false, false] rfl rfl (iZ HT_.out (by kernel_rfl)) (fun _ _ _ h => h) (Or.inl ⟨by rfl, ?_⟩) ?_ ?_
  rotate_left
  · intro w'
    go_simp
    with_reducible rfl
  rotate_left
  · simp only [Act.put, List.setIfInBounds_toArray, List.set_cons_zero, List.set_cons_succ, iU, iY]
    rfl
  refine jH (i := 9) (N := some 12) (v := ?_) (a' := ?_) #[true, false, false, true, false, true, false, true, false, true, false, false, false, false, false, false, false, false, false] rfl rfl (iZ HT_.out (by kernel_rfl)) (fun _ _ _ h => h) (Or.inl ⟨by rfl, ?_⟩) ?_ ?_
  rotate_left
  · intro w'
    go_simp
    with_reducible rfl
  rotate_left
  · simp only [Act.put, List.setIfInBounds_toArray, List.set_cons_zero, List.set_cons_succ, iU, iY]
    rfl
  refine jH (i := 11) (N := some 14) (v := ?_) (a' := ?_) #[true, false, false, true, false, true, false, true, false, true, false, true, false, false, false, false, false, false, false] rfl rfl (iZ HT_.out (by kernel_rfl)) (fun _ _ _ h => h) (Or.inl ⟨by rfl, ?_⟩) ?_ ?_
  rotate_left
  · intro w'
    go_simp
    with_reducible rfl
  rotate_left
  · simp only [Act.put, List.setIfInBounds_toArray, List.set_cons_zero, List.set_cons_succ, iU, iY]
    rfl
  refine jH (i := 13) (N := some 16) (v := ?_) (a' := ?_) #[true, false, false, true, false, true, false, true, false, true, false, true, false, true, false, false, false, false, false] rfl rfl (iZ HT_.out (by kernel_rfl)) (fun _ _ _ h => h) (Or.inl ⟨by rfl, ?_⟩) ?_ ?_
  rotate_left
  · intro w'
    go_simp
    with_reducible rfl
  rotate_left
  · simp only [Act.put, List.setIfInBounds_toArray, List.set_cons_zero, List.set_cons_succ, iU, iY]
    rfl
  refine jH (i := 15) (N := some 18) (v := ?_) (a' := ?_) #[true, false, false, true, false, true, false, true, false, true, false, true, false, true, false, true, false, false, false] rfl rfl (iZ HT_.out (by kernel_rfl)) (fun _ _ _ h => h) (Or.inl ⟨by rfl, ?_⟩) ?_ ?_
  rotate_left
  · intro w'
    go_simp
    with_reducible rfl
  rotate_left
  · simp only [Act.put, List.setIfInBounds_toArray, List.set_cons_zero, List.set_cons_succ, iU, iY]
    rfl
  refine lX (i := 1) (N := some 4) (v := ?_) (a' := ?_) #[true, true, false, true, false, true, false, true, false, true, false, true, false, true, false, true, false, false, false] rfl rfl (jL HT_.out HW_.out (by kernel_rfl)) (fun _ _ _ h => h) (Or.inl ⟨by rfl, ?_⟩) hHeld ?_ ?_
  rotate_left
  · rintro w' ⟨s0, s1, s2, s3, s4, s5, s6, s7⟩
    go_simp
    with_reducible rfl
  rotate_left
  · simp only [Act.put, List.setIfInBounds_toArray, List.set_cons_zero, List.set_cons_succ, iU, iY]
    rfl
  refine lX (i := 4) (N := some 7) (v := ?_) (a' := ?_) #[true, true, false, true, true, true, false, true, false, true, false, true, false, true, false, true, false, false, false] rfl rfl (jL HT_.out HW_.out (by kernel_rfl)) (fun _ _ _ h => h) (Or.inl ⟨by rfl, ?_⟩) hHeld ?_ ?_
  rotate_left
  · rintro w' ⟨s0, s1, s2, s3, s4, s5, s6, s7⟩
    go_simp
    with_reducible rfl
  rotate_left
  · simp only [Act.put, List.setIfInBounds_toArray, List.set_cons_zero, List.set_cons_succ, iU, iY]
    rfl
  refine lX (i := 6) (N := some 9) (v := ?_) (a' := ?_) #[true, true, false, true, true, true, true, true, false, true, false, true, false, true, false, true, false, false, false] rfl rfl (jL HT_.out HW_.out (by kernel_rfl)) (fun _ _ _ h => h) (Or.inl ⟨by rfl, ?_⟩) hHeld ?_ ?_
  rotate_left
  · rintro w' ⟨s0, s1, s2, s3, s4, s5, s6, s7⟩
    go_simp
    with_reducible rfl
  rotate_left
  · simp only [Act.put, List.setIfInBounds_toArray, List.set_cons_zero, List.set_cons_succ, iU, iY]
    rfl
  refine lX (i := 8) (N := some 11) (v := ?_) (a' := ?_) #[true, true, false, true, true, true, true, true, true, true, false, true, false, true, false, true, false, false, false] rfl rfl (jL HT_.out HW_.out (by kernel_rfl)) (fun _ _ _ h => h) (Or.inl ⟨by rfl, ?_⟩) hHeld ?_ ?_
  rotate_left
  · rintro w' ⟨s0, s1, s2, s3, s4, s5, s6, s7⟩
    go_simp
    with_reducible rfl
  rotate_left
  · simp only [Act.put, List.setIfInBounds_toArray, List.set_cons_zero, List.set_cons_succ, iU, iY]
    rfl
  refine lX (i := 10) (N := some 13) (v := ?_) (a' := ?_) #[true, true, false, true, true, true, true, true, true, true, true, true, false, true, false, true, false, false, false] rfl rfl (jL HT_.out HW_.out (by kernel_rfl)) (fun _ _ _ h => h) (Or.inl ⟨by rfl, ?_⟩) hHeld ?_ ?_
  rotate_left
  · rintro w' ⟨s0, s1, s2, s3, s4, s5, s6, s7⟩
    go_simp
    with_reducible rfl
  rotate_left
  · simp only [Act.put, List.setIfInBounds_toArray, List.set_cons_zero, List.set_cons_succ, iU, iY]
    rfl
  refine lX (i := 12) (N := some 15) (v := ?_) (a' := ?_) #[true, true, false, true, true, true, true, true, true, true, true, true, true, true, false, true, false, false, false] rfl rfl (jL HT_.out HW_.out (by kernel_rfl)) (fun _ _ _ h => h) (Or.inl ⟨by rfl, ?_⟩) hHeld ?_ ?_
  rotate_left
  · rintro w' ⟨s0, s1, s2, s3, s4, s5, s6, s7⟩
    go_simp
    with_reducible rfl
  rotate_left
  · simp only [Act.put, List.setIfInBounds_toArray, List.set_cons_zero, List.set_cons_succ, iU, iY]
    rfl
  refine lX (i := 14) (N := some 17) (v := ?_) (a' := ?_) #[true, true, false, true, true, true, true, true, true, true, true, true, true, true, true, true, false, false, false] rfl rfl (jL HT_.out HW_.out (by kernel_rfl)) (fun _ _ _ h => h) (Or.inl ⟨by rfl, ?_⟩) hHeld ?_ ?_
  rotate_left
  · rintro w' ⟨s0, s1, s2, s3, s4, s5, s6, s7⟩
    go_simp
    with_reducible rfl
  rotate_left
  · simp only [Act.put, List.setIfInBounds_toArray, List.set_cons_zero, List.set_cons_succ, iU, iY]
    rfl
  refine lX (i := 16) (N := some 19) (v := ?_) (a' := ?_) #[true, true, false, true, true, true, true, true, true, true, true, true, true, true, true, true, true, false, false] rfl rfl (jL HT_.out HW_.out (by kernel_rfl)) (fun _ _ _ h => h) (Or.inl ⟨by rfl, ?_⟩) hHeld ?_ ?_
  rotate_left
  · rintro w' ⟨s0, s1, s2, s3, s4, s5, s6, s7⟩
    go_simp
    with_reducible rfl
  rotate_left
  · simp only [Act.put, List.setIfInBounds_toArray, List.set_cons_zero, List.set_cons_succ, iU, iY]
    rfl
  refine one_ (i := 2) (N := some 5) #[true, true, true, true, true, true, true, true, true, true, true, true, true, true, true, true, true, false, false] rfl rfl (lG HT_.out (by kernel_rfl)) (by decide) (fun K hK => ?_)
  refine qW Tryd.func103 (by kernel_rfl) rfl #[.int .u8 k] (by rfl) rfl rfl (by simp only [List.map_toArray, List.map_cons, List.map_nil]; rfl) ?_
  with_reducible refine (UB k _).mono ?_
  rintro e w2 ⟨rfl, rfl⟩
  refine ⟨_, rfl, ?_⟩
  refine hK.out _ _ ⟨(iE HX.out 0).trans rfl, (iE HX.out 1).trans rfl, (iE HX.out 2).trans rfl, (iE HX.out 3).trans rfl, (iE HX.out 4).trans rfl, (iE HX.out 5).trans rfl, (iE HX.out 6).trans rfl, (iE HX.out 7).trans rfl⟩ (fun hHeld => ?_)
  clear hK K
  refine lK (a' := ?_) ?_ ?_
  rotate_left
  · show Act.put _ (some 5) _ = _
    simp only [Act.put, List.setIfInBounds_toArray, List.set_cons_zero, List.set_cons_succ, iU, iY]
    rfl
  refine jH (i := 17) (N := some 20) (v := ?_) (a' := ?_) #[true, true, true, true, true, true, true, true, true, true, true, true, true, true, true, true, true, true, false] rfl rfl (iZ HT_.out (by kernel_rfl)) (fun _ _ _ h => h) (Or.inl ⟨by rfl, ?_⟩) ?_ ?_
  rotate_left
  · intro w'
    go_simp
    with_reducible rfl
  rotate_left
  · simp only [Act.put, List.setIfInBounds_toArray, List.set_cons_zero, List.set_cons_succ, iU, iY]
    rfl
  refine TY (i := 18) (N := none) #[true, true, true, true, true, true, true, true, true, true, true, true, true, true, true, true, true, true, true] rfl rfl (lG HT_.out (by kernel_rfl)) (by decide) (fun K hK => ?_)
  refine TC (w1 := ?_) (by rfl) rfl ?_ ?_
  rotate_left
  · go_simp
    rfl
  refine hK.out _ _ ?_
  clear hK K
  refine yS (oP HT_.out (by kernel_rfl)) ?_
  (try go_wp2)
  ((try simp only [Exit.inBlock, Exit.then]); exact bodyPost_ret (VW rfl rfl (setRow_heap _ _ _ _ _ _ (show W.drew.heap[w.heap.size + 1]? = _ from HZ.out)) rfl) rfl ⟨rfl, below_grown (g := w.heap.size + 1) (show Below w.heap.size w W.drew from iI HB.out) (jA _ _ _) (Nat.le_succ _) (Nat.le_refl _)⟩)
end Go.Proofs.YtgfkgppomaapiaaDoor.K
end

section
namespace Go.Proofs.YtgfkgppomaapiaaDoor.K
open RowKit YtgfkgppomaapiaaDoorW.PrintWords YtgfkgppomaapiaaDoorW.PrintLast YtgfkgppomaapiaaDoorW.PrintMore My
structure oM (w : World) (m : SMsg) (A3 : Option Addr) (a3 : Nat) (A4 : Option Addr) (a4 : Nat) (A9 : Option Addr) (a9 : Nat) : Prop where
  h3 : Kd.C (Kd.int .i64) w A3 m.f3.length m.f3
  d3 : m.f3.length ≤ a3
  h4 : Kd.C k139 w A4 m.f4.length m.f4
  d4 : m.f4.length ≤ a4
  h9 : Kd.C k86 w A9 m.f7.length m.f7
  d9 : m.f7.length ≤ a9
section
variable {w w' : World} {m : SMsg} {A3 A4 A9 : Option Addr} {a3 a4 a9 : Nat}
theorem oM.below (h : oM w m A3 a3 A4 a4 A9 a9) (hb : Below w.heap.size w w') : oM w' m A3 a3 A4 a4 A9 a9 :=
  ⟨Kd.C_below h.h3 hb, h.d3, Kd.C_below h.h4 hb, h.d4, Kd.C_below h.h9 hb, h.d9⟩
theorem pW (h : oM w m A3 a3 A4 a4 A9 a9) {S : Bool} (hS : jJ (recM m) = S) : Calls Tryd.prog 19 #[.agg #[.int .u8 (pY m.f0), .int .u32 m.f1, .int .u32 m.f2, .slice A3 m.f3.length a3, .slice A4 m.f4.length a4, .int .u32 0, .slice none 0 0, .int .i64 m.f5, .int .i64 m.f6, .slice A9 m.f7.length a9]] w fun e w' => e = .returned (.bool S) ∧ Below w.heap.size w w' :=
  code_Sound.calls (pY m.f0) m.f1 m.f2 A3 a3 m.f3 A4 a4 m.f4 0 none 0 [] m.f5 m.f6 A9 a9 m.f7 S w h.h3 h.d3 h.h4 h.d4 (Kd.C_nil _ _) (Nat.le_refl _) h.h9 h.d9 (congrArg some hS)
theorem JI (h : oM w m A3 a3 A4 a4 A9 a9) {E1 : List Int} {E2 : Int} (hE : encR (recM m) = (E1, E2)) : Calls Tryd.prog 17 #[.agg #[.int .u8 (pY m.f0), .int .u32 m.f1, .int .u32 m.f2, .slice A3 m.f3.length a3, .slice A4 m.f4.length a4, .int .u32 0, .slice none 0 0, .int .i64 m.f5, .int .i64 m.f6, .slice A9 m.f7.length a9]] w fun e w' => ∃ v0_ : Value, e = .returned (.tuple #[v0_, .int .u16 E2]) ∧ Kd.R (Kd.int .u8) 5 w' w.heap.size (fun _ => True) v0_ E1 ∧ Below w.heap.size w w' :=
  code_Encode.calls (pY m.f0) m.f1 m.f2 A3 a3 m.f3 A4 a4 m.f4 0 none 0 [] m.f5 m.f6 A9 a9 m.f7 E1 E2 w h.h3 h.d3 h.h4 h.d4 (Kd.C_nil _ _) (Nat.le_refl _) h.h9 h.d9 (congrArg some hE)
end
theorem JJ {m : SMsg} (h : preM m = false) : lU m = false := by unfold lU; rw [h]; rfl
theorem zV {m : SMsg} (h : preM m = true) : lU m = jJ (recM m) := by unfold lU; rw [h]; rfl
set_option maxRecDepth 20000 in
set_option maxHeartbeats 8000000 in
theorem zX (m : SMsg) (A3 : Option Addr) (a3 : Nat) (A4 : Option Addr) (a4 : Nat) (A9 : Option Addr) (a9 : Nat) (w : World) (h : oM w m A3 a3 A4 a4 A9 a9) :
    Calls Tryd.prog 30 #[.agg #[.int .u8 m.f0, .int .u32 m.f1, .int .u32 m.f2, .slice A3 m.f3.length a3, .slice A4 m.f4.length a4, .int .i64 m.f5, .int .i64 m.f6, .slice A9 m.f7.length a9]] w fun e w' => e = .returned (.bool (lU m)) ∧ Below w.heap.size w w' := by
  have hb : Below w.heap.size w (w.alloc (.cells #[.int .u8 m.f0, .int .u32 m.f1, .int .u32 m.f2, .slice A3 m.f3.length a3, .slice A4 m.f4.length a4, .int .i64 m.f5, .int .i64 m.f6, .slice A9 m.f7.length a9] 51)) := iF (Below.refl _ _) _
  have HX := iC.mk (show (w.alloc (.cells #[.int .u8 m.f0, .int .u32 m.f1, .int .u32 m.f2, .slice A3 m.f3.length a3, .slice A4 m.f4.length a4, .int .i64 m.f5, .int .i64 m.f6, .slice A9 m.f7.length a9] 51)).heap[w.heap.size]? = some (.cells #[.int .u8 m.f0, .int .u32 m.f1, .int .u32 m.f2, .slice A3 m.f3.length a3, .slice A4 m.f4.length a4, .int .i64 m.f5, .int .i64 m.f6, .slice A9 m.f7.length a9] 51 (0, 0)) from iM rfl)
  have HL := iC.mk (h.below hb)
  have HB := iC.mk hb
  clear h hb
  obtain ⟨S, hS⟩ : ∃ S, lU m = S := ⟨_, rfl⟩
  rw [hS]
  have HS := iC.mk hS
  clear hS
  have hpre : preM m = (!(decide (m.f0 = 4) && decide (0 < m.f3.length)) && !(decide (m.f0 = 8) && decide (0 < m.f7.length)) && !(decide (m.f0 = 9) && (!decide (m.f5 = 0) || !decide (m.f6 = 0)))) := rfl
  obtain ⟨k, i, a, l3, l4, p, q, l7⟩ := m
  simp only at HX HL hpre ⊢
  have bad : preM ⟨k, i, a, l3, l4, p, q, l7⟩ = false → S = false := fun h => by rw [← HS.out]; exact JJ h
  have good : preM ⟨k, i, a, l3, l4, p, q, l7⟩ = true → jJ (recM ⟨k, i, a, l3, l4, p, q, l7⟩) = S := fun h => by rw [← HS.out]; exact (zV h).symm
  by_cases h4 : k = 4
  · subst h4
    by_cases hl : 0 < l3.length
    · have hf := bad (by rw [hpre]; simp [hl])
      subst hf
      clear bad good hpre
      obtain ⟨z0, z1, z2, z3, z4, z5, z6, z7, y0, y1, y2, y3, y4, y5, y6, y7⟩ := eight HX.out
      go_enter Tryd.func30, Tryd.ntmps30
      go_wp2
      go_ret
      exact ⟨rfl, HB.out⟩
    · have hf := good (by rw [hpre]; simp [hl])
      clear bad good hpre
      have HF := iC.mk hf
      clear hf
      obtain ⟨z0, z1, z2, z3, z4, z5, z6, z7, y0, y1, y2, y3, y4, y5, y6, y7⟩ := eight HX.out
      go_enter Tryd.func30, Tryd.ntmps30
      (go_wp2_with fail; go_at_call 80; (with_reducible refine (pJ _ _ _ _ _ _ _ _ _ _ _ _ _ _ _).mono ?_); rintro e w1 ⟨rfl, hb1⟩; have HB1 := iC.mk (iH HB.out hb1); have HL1 := iC.mk (HL.out.below hb1); clear hb1 z0 z1 z2 z3 z4 z5 z6 z7 y0 y1 y2 y3 y4 y5 y6 y7; go_wp2_with fail; go_at_call 19; (refine (pW HL1.out HF.out).mono ?_); rintro e w2 ⟨rfl, hb2⟩; go_wp2; go_ret; exact ⟨rfl, iH HB1.out hb2⟩)
  by_cases h8 : k = 8
  · subst h8
    by_cases hl : 0 < l7.length
    · have hf := bad (by rw [hpre]; simp [hl])
      subst hf
      clear bad good hpre
      obtain ⟨z0, z1, z2, z3, z4, z5, z6, z7, y0, y1, y2, y3, y4, y5, y6, y7⟩ := eight HX.out
      go_enter Tryd.func30, Tryd.ntmps30
      go_wp2
      go_ret
      exact ⟨rfl, HB.out⟩
    · have hf := good (by rw [hpre]; simp [hl])
      clear bad good hpre
      have HF := iC.mk hf
      clear hf
      obtain ⟨z0, z1, z2, z3, z4, z5, z6, z7, y0, y1, y2, y3, y4, y5, y6, y7⟩ := eight HX.out
      go_enter Tryd.func30, Tryd.ntmps30
      (go_wp2_with fail; go_at_call 80; (with_reducible refine (pJ _ _ _ _ _ _ _ _ _ _ _ _ _ _ _).mono ?_); rintro e w1 ⟨rfl, hb1⟩; have HB1 := iC.mk (iH HB.out hb1); have HL1 := iC.mk (HL.out.below hb1); clear hb1 z0 z1 z2 z3 z4 z5 z6 z7 y0 y1 y2 y3 y4 y5 y6 y7; go_wp2_with fail; go_at_call 19; (refine (pW HL1.out HF.out).mono ?_); rintro e w2 ⟨rfl, hb2⟩; go_wp2; go_ret; exact ⟨rfl, iH HB1.out hb2⟩)
  by_cases h9 : k = 9
  · subst h9
    by_cases hp : p = 0
    · subst hp
      by_cases hq : q = 0
      · subst hq
        have hf := good (by rw [hpre]; simp)
        clear bad good hpre
        have HF := iC.mk hf
        clear hf
        obtain ⟨z0, z1, z2, z3, z4, z5, z6, z7, y0, y1, y2, y3, y4, y5, y6, y7⟩ := eight HX.out
        go_enter Tryd.func30, Tryd.ntmps30
        (go_wp2_with fail; go_at_call 80; (with_reducible refine (pJ _ _ _ _ _ _ _ _ _ _ _ _ _ _ _).mono ?_); rintro e w1 ⟨rfl, hb1⟩; have HB1 := iC.mk (iH HB.out hb1); have HL1 := iC.mk (HL.out.below hb1); clear hb1 z0 z1 z2 z3 z4 z5 z6 z7 y0 y1 y2 y3 y4 y5 y6 y7; go_wp2_with fail; go_at_call 19; (refine (pW HL1.out HF.out).mono ?_); rintro e w2 ⟨rfl, hb2⟩; go_wp2; go_ret; exact ⟨rfl, iH HB1.out hb2⟩)
      · have hf := bad (by rw [hpre]; simp [hq])
        subst hf
        clear bad good hpre
        obtain ⟨z0, z1, z2, z3, z4, z5, z6, z7, y0, y1, y2, y3, y4, y5, y6, y7⟩ := eight HX.out
        go_enter Tryd.func30, Tryd.ntmps30
        go_wp2
        go_ret
        exact ⟨rfl, HB.out⟩
    · have hf := bad (by rw [hpre]; simp [hp])
      subst hf
      clear bad good hpre
      obtain ⟨z0, z1, z2, z3, z4, z5, z6, z7, y0, y1, y2, y3, y4, y5, y6, y7⟩ := eight HX.out
      go_enter Tryd.func30, Tryd.ntmps30
      go_wp2
      go_ret
      exact ⟨rfl, HB.out⟩
  · have hf := good (by rw [hpre]; simp [h4, h8, h9])
    clear bad good hpre
    have HF := iC.mk hf
    clear hf
    obtain ⟨z0, z1, z2, z3, z4, z5, z6, z7, y0, y1, y2, y3, y4, y5, y6, y7⟩ := eight HX.out
    go_enter Tryd.func30, Tryd.ntmps30
    (go_wp2_with fail; go_at_call 80; (with_reducible refine (pJ _ _ _ _ _ _ _ _ _ _ _ _ _ _ _).mono ?_); rintro e w1 ⟨rfl, hb1⟩; have HB1 := iC.mk (iH HB.out hb1); have HL1 := iC.mk (HL.out.below hb1); clear hb1 z0 z1 z2 z3 z4 z5 z6 z7 y0 y1 y2 y3 y4 y5 y6 y7; go_wp2_with fail; go_at_call 19; (refine (pW HL1.out HF.out).mono ?_); rintro e w2 ⟨rfl, hb2⟩; go_wp2; go_ret; exact ⟨rfl, iH HB1.out hb2⟩)
end Go.Proofs.YtgfkgppomaapiaaDoor.K
end

section
namespace Go.Proofs.YtgfkgppomaapiaaDoor.My
open Go Go.RowKit Go.Proofs.YtgfkgppomaapiaaDoorW.PrintWords
def OB (w : World) (base : Nat) (v : Value) (l : List UInt8) : Prop := kb.R 5 w base (fun _ => True) v l
theorem OB.nil (w : World) (base : Nat) : OB w base (.slice none 0 0) [] := Kd.R_nil _ _ _ _ _
theorem I8 : (Tryd.prog.info? 5).map (fun i => (i.zero, i.size, i.bytes)) = some (some (.int .u8 0), kb.sz, 1) := by kernel_rfl
theorem OB.empty (w : World) : OB (w.alloc (.cells #[] 5)) w.heap.size (.slice (some ⟨w.heap.size, 0, none⟩) 0 0) [] := by
  refine Kd.R_of_own ?_ (fun _ _ => trivial)
  have h := World.ownsRow_lit (base := w.heap.size) (e := 5) (size := 1) w #[] 0 (Nat.le_refl _) (by simp) (by simp)
  simpa [encs] using h
set_option maxHeartbeats 1000000 in
theorem RV (n : Nat) (w : World) (hn : n ≤ 140737488355327) :
    Calls Tryd.prog 104 #[.slice none 0 0, .int .i64 (n : Int)] w fun e w' => ∃ v, e = .returned v ∧ OB w' w.heap.size v [] ∧ Below w.heap.size w w' := by
  have hn0 : ¬ (n : Int) < 0 := by omega
  by_cases h0 : (0 : Int) < n
  · go_enter Tryd.func104, Tryd.ntmps104
    go_wp2_with (at_builtin; refine Kd.R_append_zeros kb (w0 := w) w.heap.size rfl (.tmp 20) (.tmp 21) 33 3 5 (.int .u8 0) 1 rfl Tryd.underlying33 Tryd.underlying3 I8 rfl (by decide) (by omega) (.slice none 0 0) [] 0 (n : Int) (fun _ => True) rfl rfl rfl (fun _ _ => trivial) (Kd.R_nil _ _ _ _ _) (by omega) ?aB ?aS ?aL ?_; (case aB => (repeat (first | exact Below.refl _ _ | apply iF | apply lQ | apply iG | apply below_bytesWorld | (refine iK ?_ (by first | assumption | omega)) | refine iH ?_ (by assumption)))); (case aS => exact iR (by (repeat (first | exact Below.refl _ _ | apply iF | apply lQ | apply iG | apply below_bytesWorld | (refine iK ?_ (by first | assumption | omega)) | refine iH ?_ (by assumption))))); (case aL => simp; omega); intro v1 w2 HO HB hg hat; rw [List.nil_append, Int.toNat_natCast] at HO; obtain ⟨g, cap, rfl, hlc, hgb, _, hfr, hC1⟩ := V4 HO (by simp; omega); have HR := iC.mk HO; clear HO hg hat hfr hC1; rw [List.length_replicate] at HR hlc; rw [List.length_replicate])
    go_ret
    exact ⟨_, rfl, Kd.R_take (m := 0) HR.out (Nat.zero_le _), HB⟩
  · go_enter Tryd.func104, Tryd.ntmps104
    go_wp2_with fail
    go_ret
    exact ⟨_, rfl, OB.nil _ _, by (repeat (first | exact Below.refl _ _ | apply iF | apply lQ | apply iG | apply below_bytesWorld | (refine iK ?_ (by first | assumption | omega)) | refine iH ?_ (by assumption)))⟩
theorem JD (l : List (List UInt8)) (k : Nat) (h : k < l.length) : (l.take (k + 1)).flatten = (l.take k).flatten ++ l.getD k [] := by
  rw [mD [] l k h, List.flatten_append]
  simp
theorem PN (l : List (List UInt8)) (k : Nat) : (l.take k).flatten.length ≤ l.flatten.length := by
  conv => rhs; rw [← List.take_append_drop k l, List.flatten_append, List.length_append]
  omega
def qB (l : List (List UInt8)) : Nat := l.flatten.length
set_option maxHeartbeats 1000000 in
theorem LG (A : Option Addr) (c : Nat) (l : List (List UInt8)) (w : World) (hr : (Kd.slice 5 kb).C w A l.length l) (hs : l.flatten.length ≤ 140737488355327) :
    Calls Tryd.prog 81 #[.slice A l.length c] w fun e w' => ∃ v, e = .returned v ∧ OB w' w.heap.size v l.flatten ∧ Below w.heap.size w w' := by
  have hm := kQ hr
  have HR := iC.mk hr
  clear hr
  go_enter Tryd.func81, Tryd.ntmps81
  go_wp2
  go_loop [3, 11] (fun s i => ∃ k : Nat, k ≤ l.length ∧ i = .int .i64 k ∧ s = .int .i64 (qB (l.take k) : Int)) (fun _ i => l.length - (intOf i).toNat)
  case atStart => exact ⟨0, Nat.zero_le _, rfl, rfl⟩
  case round =>
    obtain ⟨k, hk, rfl, rfl⟩ := hrel
    by_cases hlt : k < l.length
    · obtain ⟨ad, A', c', rfl, hx, hxl, hxc⟩ := WP HR.out k hlt
      have hf := JD l k hlt
      have hle := PN l (k + 1)
      have hadd : (qB (l.take k) : Int) + ((l.getD k []).length : Int) = (qB (l.take (k + 1)) : Int) := by unfold qB; rw [hf, List.length_append]; omega
      have hb1 : ((qB (l.take k) : Int) + ((l.getD k []).length : Int)) ≤ 140737488355327 := by rw [hadd]; unfold qB; omega
      have HADD := iC.mk hadd
      clear hf hle hadd hxl hxc
      generalize (l.getD k []).length = m at hx hb1 HADD
      have hb0 : ¬ (qB (l.take k) : Int) + (m : Int) < 0 := by omega
      generalize qB (l.take k) = q at hb1 HADD hb0
      go_wp2
      go_round
      case rel => exact ⟨k + 1, by omega, by go_num, by rw [HADD.out]⟩
      case measure => simp [intOf]; omega
    · obtain rfl : k = l.length := by omega
      simp only [List.take_length]
      go_wp2_with fail
      refine (RV (qB l) _ hs).mono ?_
      rintro e w1 ⟨v0, rfl, HO0, hb1⟩
      have HO0' := iC.mk HO0
      clear HO0
      go_wp2
      go_loopw [6, 27] (fun v i wr => ∃ k : Nat, k ≤ l.length ∧ i = .int .i64 k ∧ iC (OB wr w.heap.size v (l.take k).flatten) ∧ iC (Below w.heap.size w wr)) (fun _ i _ => l.length - (intOf i).toNat)
      case atStart => exact ⟨0, Nat.zero_le _, rfl, HO0', ⟨hb1⟩⟩
      case round =>
        obtain ⟨k, hk, rfl, HO, HB⟩ := hrel
        by_cases hlt : k < l.length
        · obtain ⟨ad, A', c', rfl, hx, hxl, hxc⟩ := WP HR.out k hlt
          have hx' := XC HB.out hx
          have HX := iC.mk (Kd.C_below hxc HB.out)
          have HF := iC.mk (JD l k hlt)
          have hle : (l.take k).flatten.length + (l.getD k []).length ≤ 140737488355327 := by have := PN l (k + 1); rw [HF.out, List.length_append] at this; omega
          clear hx hxl hxc
          obtain ⟨x, hxe⟩ : ∃ x, x = l.getD k [] := ⟨_, rfl⟩
          rw [← hxe] at hx' HX HF hle
          clear hxe
          go_wp2_with (at_builtin; refine Kd.R_append_rows kb (w0 := w) w.heap.size rfl (.tmp 31) (.tmp 32) 33 5 (.int .u8 0) 1 rfl Tryd.underlying33 I8 rfl (by decide) (by omega) _ _ x _ _ _ (fun _ => True) (fun _ => False) rfl rfl HO.out HX.out (fun _ _ h => h) (fun _ h => h.elim) (fun _ _ => trivial) HB.out HB.out.size (by omega) ?_; intro v1 w2 HO1 HB1 hg hat; have HO1' := iC.mk HO1; have HB1' := iC.mk HB1; clear HO1 HB1 hg hat)
          go_roundw
          case rel => exact ⟨k + 1, by omega, by go_num, ⟨by rw [HF.out]; exact HO1'.out⟩, HB1'⟩
          case measure => simp [intOf]; omega
        · obtain rfl : k = l.length := by omega
          have HO2 := HO.out
          rw [List.take_length] at HO2
          have HO2' := iC.mk HO2
          clear HO2
          go_wp2
          go_ret
          exact ⟨_, rfl, HO2'.out, HB.out⟩
end Go.Proofs.YtgfkgppomaapiaaDoor.My
end

section
namespace Go.Proofs.YtgfkgppomaapiaaDoor.K
open RowKit YtgfkgppomaapiaaDoorW.PrintWords YtgfkgppomaapiaaDoorW.PrintLast YtgfkgppomaapiaaDoorW.PrintMore My
theorem VT {w : World} {base : Nat} {v : Value} {l : List UInt8} (h : OB w base v l) : Kd.R (Kd.int .u8) 5 w base (fun _ => True) v (nums l) := by
  have h1 := Kd.own_of_R h
  refine Kd.R_of_own ?_ (fun _ _ => trivial)
  rw [jC]
  have : encs (fun n : Int => Value.int .u8 n) (nums l) = encs (fun b : UInt8 => Value.int .u8 (b.toNat : Int)) l := by
    unfold nums encs
    simp [List.map_map, Function.comp_def]
  rw [this]
  exact h1
theorem U1 {k : Int} (h0 : 0 ≤ k) (h1 : k < 256) : ∃ b : UInt8, k = (b.toNat : Int) := ⟨UInt8.ofNat k.toNat, by rw [UInt8.toNat_ofNat']; omega⟩
def U2 (w : World) (E1 : List Int) (E2 : Int) (e : Ending) (w' : World) : Prop := ∃ v0_ : Value, e = .returned (.tuple #[v0_, .int .u16 E2]) ∧ Kd.R (Kd.int .u8) 5 w' w.heap.size (fun _ => True) v0_ E1 ∧ Below w.heap.size w w'
set_option maxRecDepth 20000 in
set_option maxHeartbeats 8000000 in
theorem yA (m : SMsg) (A3 : Option Addr) (a3 : Nat) (A4 : Option Addr) (a4 : Nat) (A9 : Option Addr) (a9 : Nat) (w : World) (h : oM w m A3 a3 A4 a4 A9 a9) (h0 : 0 ≤ m.f0 ∧ m.f0 < 256) {E1 : List Int} {E2 : Int} (hE : encM m = (E1, E2)) :
    Calls Tryd.prog 28 #[.agg #[.int .u8 m.f0, .int .u32 m.f1, .int .u32 m.f2, .slice A3 m.f3.length a3, .slice A4 m.f4.length a4, .int .i64 m.f5, .int .i64 m.f6, .slice A9 m.f7.length a9]] w (U2 w E1 E2) := by
  have hb : Below w.heap.size w (w.alloc (.cells #[.int .u8 m.f0, .int .u32 m.f1, .int .u32 m.f2, .slice A3 m.f3.length a3, .slice A4 m.f4.length a4, .int .i64 m.f5, .int .i64 m.f6, .slice A9 m.f7.length a9] 51)) := iF (Below.refl _ _) _
  have HX := iC.mk (show (w.alloc (.cells #[.int .u8 m.f0, .int .u32 m.f1, .int .u32 m.f2, .slice A3 m.f3.length a3, .slice A4 m.f4.length a4, .int .i64 m.f5, .int .i64 m.f6, .slice A9 m.f7.length a9] 51)).heap[w.heap.size]? = some (.cells #[.int .u8 m.f0, .int .u32 m.f1, .int .u32 m.f2, .slice A3 m.f3.length a3, .slice A4 m.f4.length a4, .int .i64 m.f5, .int .i64 m.f6, .slice A9 m.f7.length a9] 51 (0, 0)) from iM rfl)
  have HL := iC.mk (h.below hb)
  have HB := iC.mk hb
  have hsound := zX m A3 a3 A4 a4 A9 a9 _ HL.out
  obtain ⟨k8, hk8⟩ := U1 h0.1 h0.2
  have HK := iC.mk hk8
  have HE := iC.mk hE
  clear h hb h0 hk8 hE
  obtain ⟨z0, z1, z2, z3, z4, z5, z6, z7, y0, y1, y2, y3, y4, y5, y6, y7⟩ := eight HX.out
  by_cases hs : lU m = true
  · rw [hs] at hsound
    have HS := iC.mk hs
    clear hs
    go_enter Tryd.func28, Tryd.ntmps28
    go_wp2_with fail
    go_at_call 30
    refine hsound.mono ?_
    rintro e w1 ⟨rfl, hb1⟩
    have HX1 := iC.mk (iJ hb1 HX.out)
    have HL1 := iC.mk (HL.out.below hb1)
    have HB1 := iC.mk (iH HB.out hb1)
    clear hsound hb1 z0 z1 z2 z3 z4 z5 z6 z7 y0 y1 y2 y3 y4 y5 y6 y7
    obtain ⟨z0, z1, z2, z3, z4, z5, z6, z7, y0, y1, y2, y3, y4, y5, y6, y7⟩ := eight HX1.out
    go_wp2_with fail
    go_at_call 80
    (refine (pJ _ _ _ _ _ _ _ _ _ _ _ _ _ _ _).mono ?_)
    rintro e w2 ⟨rfl, hb2⟩
    have HX2 := iC.mk (iJ hb2 HX1.out)
    have HL2 := iC.mk (HL1.out.below hb2)
    have HB2 := iC.mk (iH HB1.out hb2)
    clear hb2 z0 z1 z2 z3 z4 z5 z6 z7 y0 y1 y2 y3 y4 y5 y6 y7
    obtain ⟨⟨F1, F2⟩, hF⟩ : ∃ F : List Int × Int, encR (recM m) = F := ⟨_, rfl⟩
    have hEF : encM m = if F2 = 0 then (m.f0 :: F1, 0) else ([], F2) := by unfold encM; rw [if_pos HS.out, hF]
    rw [HE.out] at hEF
    have hcases := oU (recM m)
    have hsb : jJ (recM m) = true := by have := HS.out; unfold lU at this; simp only [Bool.and_eq_true] at this; exact this.2
    rw [hF] at hcases
    have hlen : F2 = 0 → F1.length ≤ 60000 := fun hz => by
      have hF' := hF
      unfold encR at hF'
      rw [if_pos hsb] at hF'
      split at hF'
      · injection hF' with _ h2; rw [← h2] at hz; cases hz
      · injection hF' with h1 _; rw [← h1, jC]; omega
    have hcall := JI HL2.out hF
    clear hF hsb
    go_wp2_with fail
    go_at_call 17
    refine hcall.mono ?_
    rintro e w3 ⟨v0, rfl, h0, hb3⟩
    have HX3 := iC.mk (iJ hb3 HX2.out)
    have HB3 := iC.mk (iH HB2.out hb3)
    obtain ⟨A0, c0, rfl⟩ := Kd.R_slice h0
    obtain ⟨_, q0, C0⟩ := Kd.R_reads' h0
    clear hcall hb3 h0
    rcases hcases with hc | hc | hc
    · obtain ⟨rfl, rfl⟩ := Prod.mk.inj hc
      rw [if_neg (by decide)] at hEF
      obtain ⟨rfl, rfl⟩ := Prod.mk.inj hEF
      clear hEF hc hlen C0 q0
      go_wp2
      go_ret2
      exact ⟨_, rfl, Kd.R_nil _ _ _ _ _, HB3.out⟩
    · obtain ⟨rfl, rfl⟩ := Prod.mk.inj hc
      rw [if_neg (by decide)] at hEF
      obtain ⟨rfl, rfl⟩ := Prod.mk.inj hEF
      clear hEF hc hlen C0 q0
      go_wp2
      go_ret2
      exact ⟨_, rfl, Kd.R_nil _ _ _ _ _, HB3.out⟩
    · obtain ⟨hf1, rfl⟩ := Prod.mk.inj hc
      have hlen := hlen rfl
      subst hf1
      rw [if_pos rfl] at hEF
      obtain ⟨rfl, rfl⟩ := Prod.mk.inj hEF
      obtain ⟨l, hl⟩ : ∃ l, l = recE (recM m) := ⟨_, rfl⟩
      rw [← hl] at C0 q0 hlen ⊢
      rw [jC] at hlen q0
      have C0 : (Kd.int .u8).C w3 A0 l.length (nums l) := by rw [jC] at C0; exact C0
      have HC0 := iC.mk (o8 C0)
      simp only [jC]
      have HLL := iC.mk hl
      clear hEF hc C0 hl
      obtain ⟨z0, z1, z2, z3, z4, z5, z6, z7, y0, y1, y2, y3, y4, y5, y6, y7⟩ := eight HX3.out
      rw [HK.out] at z0 ⊢
      go_wp2_with fail
      go_at_call 81
      refine (LG _ _ [[k8], l] _ (X3 (by (repeat (first | (refine iM ?_; simp; done) | apply heap_drew' | apply jD | refine iJ (by assumption) ?_))) rfl (by simp) (Cs.cons (n := 1) (Kd.C_below (WL (W := w3) rfl rfl (show (1 : Nat) ≤ 9223372036854775807 by decide) (by rfl)) (by (repeat (first | exact Below.refl _ _ | apply iF | apply lQ | apply iG | apply below_bytesWorld | (refine iK ?_ (by first | assumption | omega)) | refine iH ?_ (by assumption))))) (Nat.le_refl _) (Cs.cons (n := l.length) (Kd.C_below HC0.out (by (repeat (first | exact Below.refl _ _ | apply iF | apply lQ | apply iG | apply below_bytesWorld | (refine iK ?_ (by first | assumption | omega)) | refine iH ?_ (by assumption))))) q0 (Cs.nil _)))) (by simp; omega)).mono ?_
      rintro e w4 ⟨v4, rfl, ho4, hb4⟩
      have ho5 := VT ho4
      rw [show ([[k8], l] : List (List UInt8)).flatten = k8 :: l by simp] at ho5
      have HO := iC.mk (Kd.R_lower ho5 (iF (iF HB3.out _) _).size)
      have HB4 := iC.mk (show Below w.heap.size w w4 from iH (iF (iF HB3.out _) _) hb4)
      clear ho4 ho5 hb4 z0 z1 z2 z3 z4 z5 z6 z7 y0 y1 y2 y3 y4 y5 y6 y7
      go_wp2
      go_ret2
      exact ⟨_, rfl, (by have ho := HO.out; rw [HLL.out] at ho; rw [HK.out]; exact ho), HB4.out⟩
  · have hs : lU m = false := by simpa using hs
    rw [hs] at hsound
    have hEF : encM m = ([], 1) := by unfold encM; rw [hs, if_neg (by decide)]
    rw [HE.out] at hEF
    obtain ⟨rfl, rfl⟩ := Prod.mk.inj hEF
    clear hs hEF
    go_enter Tryd.func28, Tryd.ntmps28
    go_wp2_with fail
    go_at_call 30
    refine hsound.mono ?_
    rintro e w1 ⟨rfl, hb1⟩
    clear hsound
    go_wp2
    go_ret2
    exact ⟨_, rfl, Kd.R_nil _ _ _ _ _, iH HB.out hb1⟩
end Go.Proofs.YtgfkgppomaapiaaDoor.K
end

section
namespace Go.Proofs.YtgfkgppomaapiaaDoor.K
open RowKit YtgfkgppomaapiaaDoorW.PrintWords YtgfkgppomaapiaaDoorW.PrintLast YtgfkgppomaapiaaDoorW.PrintMore My
theorem nO {w : World} {A : Option Addr} {n : Nat} {l : List UInt8} (h : kb.C w A n l) : (Kd.int .u8).C w A n (nums l) := by
  refine ⟨by rw [jC]; exact h.1, h.2.1, fun hn => ?_⟩
  obtain ⟨ad, e, hc⟩ := h.2.2 hn
  refine ⟨ad, e, fun j p hj => ?_⟩
  unfold nums at hj
  rw [List.getElem?_map] at hj
  obtain ⟨b, hb, rfl⟩ := Option.map_eq_some_iff.1 hj
  exact hc j b hb
def uK (w : World) (d : SMsg × Int) (e : Ending) (w' : World) : Prop := ∃ A3 a3 A4 a4 A9 a9, e = .returned (.tuple #[.agg #[.int .u8 d.1.f0, .int .u32 d.1.f1, .int .u32 d.1.f2, .slice A3 d.1.f3.length a3, .slice A4 d.1.f4.length a4, .int .i64 d.1.f5, .int .i64 d.1.f6, .slice A9 d.1.f7.length a9], .int .u16 d.2]) ∧ oM w' d.1 A3 a3 A4 a4 A9 a9 ∧ Below w.heap.size w w'
theorem zU (w : World) : oM w kT none 0 none 0 none 0 := ⟨Kd.C_nil _ _, Nat.le_refl _, Kd.C_nil _ _, Nat.le_refl _, Kd.C_nil _ _, Nat.le_refl _⟩
theorem TL (w w' : World) (c : Int) (h : Below w.heap.size w w') : uK w (kT, c) (.returned (.tuple #[.agg #[.int .u8 0, .int .u32 0, .int .u32 0, .slice none 0 0, .slice none 0 0, .int .i64 0, .int .i64 0, .slice none 0 0], .int .u16 c])) w' := ⟨none, 0, none, 0, none, 0, rfl, zU _, h⟩
theorem uG (w W : World) (h : Below w.heap.size w W) (c : Int) : uK w (kT, c) (.returned (.tuple #[.agg #[.int .u8 0, .int .u32 0, .int .u32 0, .slice none 0 0, .slice none 0 0, .int .i64 0, .int .i64 0, .slice none 0 0], .int .u16 c])) (W.setRow w.heap.size #[.int .u8 0, .int .u32 0, .int .u32 0, .slice none 0 0, .slice none 0 0, .int .i64 0, .int .i64 0, .slice none 0 0]) :=
  TL w _ c (below_grown h (jA W w.heap.size _) (Nat.le_refl _) (Nat.le_refl _))
theorem rE {tmps : Array Value} {W : World} {p u : Tmp} {b : Nat} {cs : Array Value} {x : Value} (h : Tryd.f32.results = #[.cell p 51, .tmp u]) (hp : tmps.getD p undef = .pointer (some ⟨b, 0, none⟩)) (hu : tmps.getD u undef = x) (hx : W.heap[b]? = some (.cells cs 51 (0, 0))) (hs : cs.size = 8) :
    (results Tryd.f32 tmps).run Tryd.prog W = .ok (.tuple #[.agg cs, x]) W := by
  have h1 := run_loadVar_row (P := Tryd.prog) W b 51 51 cs (0, 0) _ hx Tryd.underlying51 rfl (by rw [hs]; kernel_rfl)
  rw [results_cell_tmp h, hp, hu]
  simp [asAddr, h1, Result.andThen]
theorem LH : (Tryd.prog).built 51 (#[] : Array (Nat × Value)).toList = some #[.int .u8 0, .int .u32 0, .int .u32 0, .slice none 0 0, .slice none 0 0, .int .i64 0, .int .i64 0, .slice none 0 0] := by kernel_rfl
theorem IL (w : World) : (Instr.build 51 #[]).run Tryd.prog w = .ok (.agg #[.int .u8 0, .int .u32 0, .int .u32 0, .slice none 0 0, .slice none 0 0, .int .i64 0, .int .i64 0, .slice none 0 0]) w := run_build w _ _ _ LH
theorem QC (k i a p q : Int) (A3 : Option Addr) (n3 c3 : Nat) (A4 : Option Addr) (n4 c4 : Nat) (A9 : Option Addr) (n9 c9 : Nat) : (Tryd.prog).built 51 (#[(0, .int .u8 k), (1, .int .u32 i), (2, .int .u32 a), (3, .slice A3 n3 c3), (4, .slice A4 n4 c4), (5, .int .i64 p), (6, .int .i64 q), (7, .slice A9 n9 c9)] : Array (Nat × Value)).toList = some #[.int .u8 k, .int .u32 i, .int .u32 a, .slice A3 n3 c3, .slice A4 n4 c4, .int .i64 p, .int .i64 q, .slice A9 n9 c9] := by kernel_rfl
theorem RX (w : World) (k i a p q : Int) (A3 : Option Addr) (n3 c3 : Nat) (A4 : Option Addr) (n4 c4 : Nat) (A9 : Option Addr) (n9 c9 : Nat) : (Instr.build 51 #[(0, .int .u8 k), (1, .int .u32 i), (2, .int .u32 a), (3, .slice A3 n3 c3), (4, .slice A4 n4 c4), (5, .int .i64 p), (6, .int .i64 q), (7, .slice A9 n9 c9)]).run Tryd.prog w = .ok (.agg #[.int .u8 k, .int .u32 i, .int .u32 a, .slice A3 n3 c3, .slice A4 n4 c4, .int .i64 p, .int .i64 q, .slice A9 n9 c9]) w := run_build w _ _ _ (QC k i a p q A3 n3 c3 A4 n4 c4 A9 n9 c9)
theorem WW {w : World} {b : Nat} {cs : Array Value} (h : w.heap[b]? = some (.cells cs 51 (0, 0))) (hs : cs.size = 8) : (Instr.loadAt 51 (.pointer (some ⟨b, 0, none⟩))).run Tryd.prog w = .ok (.agg cs) w := by
  simp only [Instr.loadAt, Instr.sureAddr, Sem.run_bind, Sem.run_pure, Result.andThen]
  exact run_loadVar_row w b 51 51 cs (0, 0) _ h Tryd.underlying51 rfl (by rw [hs]; kernel_rfl)
theorem J3 {w : World} {b : Nat} {cs : Array Value} {a k i : Int} {x3 x4 x7 : Value} {p q : Int} (hs : cs.size = 8) (h : w.heap[b]? = some (.cells cs 51 (0, 0))) (o3 : x3.oneCell' = true) (o4 : x4.oneCell' = true) (o7 : x7.oneCell' = true) :
    (Instr.storeAt 51 (.pointer (some ⟨b, 0, none⟩)) (.agg #[.int .u8 a, .int .u32 k, .int .u32 i, x3, x4, .int .i64 p, .int .i64 q, x7])).run Tryd.prog w = .ok () (w.setRow b #[.int .u8 a, .int .u32 k, .int .u32 i, x3, x4, .int .i64 p, .int .i64 q, x7]) := by
  simp only [Instr.storeAt, Instr.sureAddr, Sem.run_bind, Sem.run_pure, Result.andThen]
  exact run_storeVar_row w b 51 51 _ _ h (by kernel_rfl) hs (by simp [o3, o4, o7, show ∀ k n, (Value.int k n).oneCell' = true from fun _ _ => rfl])
theorem pX {w : World} {b : Nat} {cs : Array Value} (hs : cs.size = 8) (h : w.heap[b]? = some (.cells cs 51 (0, 0))) : (Instr.storeAt 51 (.pointer (some ⟨b, 0, none⟩)) (.agg #[.int .u8 0, .int .u32 0, .int .u32 0, .slice none 0 0, .slice none 0 0, .int .i64 0, .int .i64 0, .slice none 0 0])).run Tryd.prog w = .ok () (w.setRow b #[.int .u8 0, .int .u32 0, .int .u32 0, .slice none 0 0, .slice none 0 0, .int .i64 0, .int .i64 0, .slice none 0 0]) := J3 (a := 0) (k := 0) (i := 0) (x3 := .slice none 0 0) (x4 := .slice none 0 0) (p := 0) (q := 0) (x7 := .slice none 0 0) hs h rfl rfl rfl
theorem JM (k8 : UInt8) (t : List UInt8) (x : SRec) (h : decR t = (x, 0)) : decM (k8 :: t) = if encM (msgR k8.toNat x) = (nums (k8 :: t), 0) then (msgR k8.toNat x, 0) else (kT, 160) := by
  show (if (decR t).2 = 0 then _ else _) = _
  rw [h, if_pos rfl]
theorem NG (k8 : UInt8) (t : List UInt8) (h : (decR t).2 ≠ 0) : decM (k8 :: t) = (kT, 160) := by
  show (if (decR t).2 = 0 then _ else _) = _
  rw [if_neg h]
theorem PW {base : Nat} {x : SRec} {A3 A4 A6 A9 : Option Addr} {d3 d4 d6 d9 : Nat} {w : World} (h : RecV base x (.agg #[.int .u8 x.f0, .int .u32 x.f1, .int .u32 x.f2, .slice A3 x.f3.length d3, .slice A4 x.f4.length d4, .int .u32 x.f5.f0, .slice A6 x.f5.f1.length d6, .int .i64 x.f6, .int .i64 x.f7, .slice A9 x.f8.length d9]) w) (k : Int) : oM w (msgR k x) A3 d3 A4 d4 A9 d9 := by
  obtain ⟨v3, v4, v6, v9, he, h3, h4, h6, h9⟩ := h
  simp only [Value.agg.injEq, Array.mk.injEq, List.cons.injEq, true_and, and_true] at he
  obtain ⟨rfl, rfl, rfl, rfl⟩ := he
  obtain ⟨_, q3, C3⟩ := Kd.R_reads' h3
  obtain ⟨_, q4, C4⟩ := Kd.R_reads' h4
  obtain ⟨_, q9, C9⟩ := Kd.R_reads' h9
  exact ⟨C3, q3, C4, q4, C9, q9⟩
theorem lW {w : World} {o : Obj} {p : Addr} {v : Value} (h : w.cell? p = some v) : (w.alloc o).cell? p = some v := ((iF (Below.refl w.heap.size w) o).cell (World.block_lt_of_cell? w p h)).trans h
attribute [-go_sem] Instr.build Instr.storeAt
attribute [local go_sem] IL RX
set_option maxRecDepth 20000 in
set_option maxHeartbeats 16000000 in
theorem uA (A : Option Addr) (c : Nat) (l : List UInt8) (w : World) (hCi : (Kd.int .u8).C w A l.length (nums l)) (hc : l.length ≤ c) :
    Calls Tryd.prog 32 #[.slice A l.length c] w (uK w (decM l)) := by
  cases l with
  | nil =>
    have hst := fun (_ : True) => pX rfl (show (w.alloc (.cells #[.int .u8 0, .int .u32 0, .int .u32 0, .slice none 0 0, .slice none 0 0, .int .i64 0, .int .i64 0, .slice none 0 0] 51)).heap[w.heap.size]? = _ from iM rfl)
    show Calls _ _ _ _ (uK w (kT, 160))
    simp only [List.length_nil]
    go_enter Tryd.func32, Tryd.ntmps32
    go_wp2
    ((try simp only [Exit.inBlock, Exit.then]); exact bodyPost_ret (rE rfl rfl rfl (setRow_heap _ _ _ _ _ _ (iM rfl)) rfl) rfl (uG w _ (iF (Below.refl _ _) _) 160))
  | cons k8 t =>
    obtain ⟨Wa, hWa⟩ : ∃ Wa, Wa = w.alloc (.cells #[.int .u8 0, .int .u32 0, .int .u32 0, .slice none 0 0, .slice none 0 0, .int .i64 0, .int .i64 0, .slice none 0 0] 51) := ⟨_, rfl⟩
    have hBa : Below w.heap.size w Wa := by rw [hWa]; exact iF (Below.refl _ _) _
    have HXA := iC.mk (show Wa.heap[w.heap.size]? = some (.cells #[.int .u8 0, .int .u32 0, .int .u32 0, .slice none 0 0, .slice none 0 0, .int .i64 0, .int .i64 0, .slice none 0 0] 51 (0, 0)) from by rw [hWa]; exact iM rfl)
    have HBA := iC.mk hBa
    have hC := o8 (Kd.C_below hCi hBa)
    have hm := kQ hC
    obtain ⟨A2, hcut, hC2⟩ := TJ hC hc 1 1 rfl (by simp)
    obtain ⟨ad, rfl, hk0⟩ := C_at hC 0 (by simp)
    have hk0 : Wa.cell? (ad.add 0) = some (.int .u8 (k8.toNat : Int)) := hk0
    rw [Addr.add_zero'] at hk0
    have HC := iC.mk hC
    have HC2 := iC.mk (show kb.C Wa A2 t.length t from hC2)
    have HWA := iC.mk hWa
    have HK0 := iC.mk hk0
    have hcall := decode_any A2 (c - 1) t Wa (nO HC2.out) (by simp at hc; omega)
    simp only [List.length_cons, Nat.add_sub_cancel] at hcut hc hm ⊢
    have hnz : ¬ ((t.length : Int) + 1 = 0) := by omega
    have hk255 := k8.toNat_lt
    clear hCi hBa hC hC2 hWa hk0
    obtain ⟨⟨x, E⟩, hD⟩ : ∃ D, decR t = D := ⟨_, rfl⟩
    rw [hD] at hcall
    have HD := iC.mk hD
    clear hD
    go_enter Tryd.func32, Tryd.ntmps32
    go_wp2_with fail
    rw [← HWA.out]
    go_at_call 22
    refine hcall.mono ?_
    rintro e w1 ⟨v, rfl, ⟨v3, v4, v6, v9, rfl, h3, h4, h6, h9⟩, hB⟩
    obtain ⟨A3, d3, rfl⟩ := Kd.R_slice h3
    obtain ⟨A4, d4, rfl⟩ := Kd.R_slice h4
    obtain ⟨A6, d6, rfl⟩ := Kd.R_slice h6
    obtain ⟨A9, d9, rfl⟩ := Kd.R_slice h9
    obtain ⟨_, q3, C3⟩ := Kd.R_reads' h3
    obtain ⟨_, q4, C4⟩ := Kd.R_reads' h4
    obtain ⟨_, q9, C9⟩ := Kd.R_reads' h9
    have hbw : Below w1.heap.size w1 (w1.alloc (.cells #[.int .u8 x.f0, .int .u32 x.f1, .int .u32 x.f2, .slice A3 x.f3.length d3, .slice A4 x.f4.length d4, .int .u32 x.f5.f0, .slice A6 x.f5.f1.length d6, .int .i64 x.f6, .int .i64 x.f7, .slice A9 x.f8.length d9] 30)) := iF (Below.refl _ _) _
    have hsx := fun (_ : True) => run_storeAt_new (P := Tryd.prog) w1 30 #[.int .u8 0, .int .u32 0, .int .u32 0, .slice none 0 0, .slice none 0 0, .int .u32 0, .slice none 0 0, .int .i64 0, .int .i64 0, .slice none 0 0] #[.int .u8 x.f0, .int .u32 x.f1, .int .u32 x.f2, .slice A3 x.f3.length d3, .slice A4 x.f4.length d4, .int .u32 x.f5.f0, .slice A6 x.f5.f1.length d6, .int .i64 x.f6, .int .i64 x.f7, .slice A9 x.f8.length d9] (by kernel_rfl) rfl (by simp [Value.oneCell'])
    have HXR := iC.mk (show (w1.alloc (.cells #[.int .u8 x.f0, .int .u32 x.f1, .int .u32 x.f2, .slice A3 x.f3.length d3, .slice A4 x.f4.length d4, .int .u32 x.f5.f0, .slice A6 x.f5.f1.length d6, .int .i64 x.f6, .int .i64 x.f7, .slice A9 x.f8.length d9] 30)).heap[w1.heap.size]? = some (.cells #[.int .u8 x.f0, .int .u32 x.f1, .int .u32 x.f2, .slice A3 x.f3.length d3, .slice A4 x.f4.length d4, .int .u32 x.f5.f0, .slice A6 x.f5.f1.length d6, .int .i64 x.f6, .int .i64 x.f7, .slice A9 x.f8.length d9] 30 (0, 0)) from iM rfl)
    have hb1 := hB.trans (hbw.mono hB.size)
    have HX1 := iC.mk (iJ hb1 HXA.out)
    have HB1 := iC.mk (HBA.out.trans (hb1.mono HBA.out.size))
    have HC1 := iC.mk (Kd.C_below HC.out hb1)
    have HK1 := iC.mk ((hb1.cell (World.block_lt_of_cell? _ _ HK0.out)).trans HK0.out)
    have HLM := iC.mk (show oM _ (msgR k8.toNat x) A3 d3 A4 d4 A9 d9 from ⟨Kd.C_below C3 hbw, q3, Kd.C_below C4 hbw, q4, Kd.C_below C9 hbw, q9⟩)
    have HV := iC.mk (nM (show RecV Wa.heap.size x _ w1 from ⟨_, _, _, _, rfl, h3, h4, h6, h9⟩) hbw)
    have HLT := iC.mk (jE HXA.out)
    clear h3 h4 h6 h9 C3 C4 C9 q3 q4 q9 hB hbw hcall hb1 HK0 HXA HBA
    by_cases hE : E = 0
    · subst hE
      obtain ⟨W, hW⟩ : ∃ W, W = w1.alloc (.cells #[.int .u8 x.f0, .int .u32 x.f1, .int .u32 x.f2, .slice A3 x.f3.length d3, .slice A4 x.f4.length d4, .int .u32 x.f5.f0, .slice A6 x.f5.f1.length d6, .int .i64 x.f6, .int .i64 x.f7, .slice A9 x.f8.length d9] 30) := ⟨_, rfl⟩
      have HW := iC.mk hW
      rw [← hW] at HXR HX1 HB1 HC1 HK1 HLM HV
      have hgs : w1.heap.size + 1 = W.heap.size := by rw [hW]; simp
      clear hW
      have hR := JM k8 t x HD.out
      go_wp2
      rw [← HW.out]
      clear hsx
      have hsn := fun (_ : True) => J3 (a := (k8.toNat : Int)) (k := x.f1) (i := x.f2) (x3 := .slice A3 x.f3.length d3) (x4 := .slice A4 x.f4.length d4) (p := x.f6) (q := x.f7) (x7 := .slice A9 x.f8.length d9) rfl (show ((W.alloc (.cells #[.int .u8 0, .int .u32 0, .int .u32 0, .slice none 0 0, .slice none 0 0, .int .i64 0, .int .i64 0, .slice none 0 0] 51)).drew).heap[W.heap.size]? = some (.cells #[.int .u8 0, .int .u32 0, .int .u32 0, .slice none 0 0, .slice none 0 0, .int .i64 0, .int .i64 0, .slice none 0 0] 51 (0, 0)) from iM rfl) rfl rfl rfl
      have h0t : (0 : Int) < (((t.length + 1 : Nat)) : Int) := by omega
      have h0u : (0 : Nat) < t.length + 1 := by omega
      refine qH (n := 20) (S := fun w' => w'.cell? ad = some (.int .u8 (k8.toNat : Int)) ∧ w'.cell? ⟨w1.heap.size, 1, none⟩ = some (.int .u32 x.f1) ∧ w'.cell? ⟨w1.heap.size, 2, none⟩ = some (.int .u32 x.f2) ∧ w'.cell? ⟨w1.heap.size, 3, none⟩ = some (.slice A3 x.f3.length d3) ∧ w'.cell? ⟨w1.heap.size, 4, none⟩ = some (.slice A4 x.f4.length d4) ∧ w'.cell? ⟨w1.heap.size, 7, none⟩ = some (.int .i64 x.f6) ∧ w'.cell? ⟨w1.heap.size, 8, none⟩ = some (.int .i64 x.f7) ∧ w'.cell? ⟨w1.heap.size, 9, none⟩ = some (.slice A9 x.f8.length d9)) (ds := [19]) #[false, false, false, false, false, false, false, false, false, false, false, false, false, false, false, false, false, false, false, false] (by kernel_rfl) rfl rfl ⟨HK1.out, (iE HXR.out 1).trans rfl, (iE HXR.out 2).trans rfl, (iE HXR.out 3).trans rfl, (iE HXR.out 4).trans rfl, (iE HXR.out 7).trans rfl, (iE HXR.out 8).trans rfl, (iE HXR.out 9).trans rfl⟩ (fun hHeld => ?_)
      refine lZ (T := (true, [([], []), ([0], [0]), ([1], [1]), ([], []), ([3], [3]), ([], []), ([5], [5]), ([], []), ([7], [7]), ([], []), ([9], [9]), ([], []), ([11], [11]), ([], []), ([13], [13]), ([], []), ([15], [15]), ([2, 4, 6, 8, 10, 12, 14, 16], [2, 4, 6, 8, 10, 12, 14, 16]), ([], []), ([18, 17, 0, 1, 2, 3, 4, 5, 6, 7, 8, 9, 10, 11, 12, 13, 14, 15, 16, 17, 18], [17, 18])])) (B := [0, 1, 3, 0, 8, 0, 32, 0, 128, 0, 512, 0, 2048, 0, 8192, 0, 32768, 131071, 0, 524287]) (by kernel_rfl) (by kernel_rfl) (fun HT_ HW_ => ?_)
      refine jH (i := 0) (N := some 21) (v := ?_) (a' := ?_) #[true, false, false, false, false, false, false, false, false, false, false, false, false, false, false, false, false, false, false, false] rfl rfl (iZ HT_.out (by kernel_rfl)) (fun _ _ _ h => h) (Or.inl ⟨by rfl, ?_⟩) ?_ ?_
      rotate_left
      · intro w'
        go_simp
        with_reducible rfl
      rotate_left
      · simp only [Act.put, List.setIfInBounds_toArray, List.set_cons_zero, List.set_cons_succ, iU, iY]
        rfl
      refine jH (i := 1) (N := some 22) (v := ?_) (a' := ?_) #[true, true, false, false, false, false, false, false, false, false, false, false, false, false, false, false, false, false, false, false] rfl rfl (iZ HT_.out (by kernel_rfl)) (fun _ _ _ h => h) (Or.inl ⟨by rfl, ?_⟩) ?_ ?_
      rotate_left
      · intro w'
        go_simp
        with_reducible rfl
      rotate_left
      · simp only [Act.put, List.setIfInBounds_toArray, List.set_cons_zero, List.set_cons_succ, iU, iY]
        rfl
      refine jH (i := 3) (N := some 24) (v := ?_) (a' := ?_) #[true, true, false, true, false, false, false, false, false, false, false, false, false, false, false, false, false, false, false, false] rfl rfl (iZ HT_.out (by kernel_rfl)) (fun _ _ _ h => h) (Or.inl ⟨by rfl, ?_⟩) ?_ ?_
      rotate_left
      · intro w'
        go_simp
        with_reducible rfl
      rotate_left
      · simp only [Act.put, List.setIfInBounds_toArray, List.set_cons_zero, List.set_cons_succ, iU, iY]
        rfl
      refine jH (i := 5) (N := some 26) (v := ?_) (a' := ?_) #[true, true, false, true, false, true, false, false, false, false, false, false, false, false, false, false, false, false, false, false] rfl rfl (iZ HT_.out (by kernel_rfl)) (fun _ _ _ h => h) (Or.inl ⟨by rfl, ?_⟩) ?_ ?_
      rotate_left
      · intro w'
        go_simp
        with_reducible rfl
      rotate_left
      · simp only [Act.put, List.setIfInBounds_toArray, List.set_cons_zero, List.set_cons_succ, iU, iY]
        rfl
      refine jH (i := 7) (N := some 28) (v := ?_) (a' := ?_) #[true, true, false, true, false, true, false, true, false, false, false, false, false, false, false, false, false, false, false, false] rfl rfl (iZ HT_.out (by kernel_rfl)) (fun _ _ _ h => h) (Or.inl ⟨by rfl, ?_⟩) ?_ ?_
      rotate_left
      · intro w'
        go_simp
        with_reducible rfl
      rotate_left
      · simp only [Act.put, List.setIfInBounds_toArray, List.set_cons_zero, List.set_cons_succ, iU, iY]
        rfl
      refine jH (i := 9) (N := some 30) (v := ?_) (a' := ?_) #[true, true, false, true, false, true, false, true, false, true, false, false, false, false, false, false, false, false, false, false] rfl rfl (iZ HT_.out (by kernel_rfl)) (fun _ _ _ h => h) (Or.inl ⟨by rfl, ?_⟩) ?_ ?_
      rotate_left
      · intro w'
        go_simp
        with_reducible rfl
      rotate_left
      · simp only [Act.put, List.setIfInBounds_toArray, List.set_cons_zero, List.set_cons_succ, iU, iY]
        rfl
      refine jH (i := 11) (N := some 32) (v := ?_) (a' := ?_) #[true, true, false, true, false, true, false, true, false, true, false, true, false, false, false, false, false, false, false, false] rfl rfl (iZ HT_.out (by kernel_rfl)) (fun _ _ _ h => h) (Or.inl ⟨by rfl, ?_⟩) ?_ ?_
      rotate_left
      · intro w'
        go_simp
        with_reducible rfl
      rotate_left
      · simp only [Act.put, List.setIfInBounds_toArray, List.set_cons_zero, List.set_cons_succ, iU, iY]
        rfl
      refine jH (i := 13) (N := some 34) (v := ?_) (a' := ?_) #[true, true, false, true, false, true, false, true, false, true, false, true, false, true, false, false, false, false, false, false] rfl rfl (iZ HT_.out (by kernel_rfl)) (fun _ _ _ h => h) (Or.inl ⟨by rfl, ?_⟩) ?_ ?_
      rotate_left
      · intro w'
        go_simp
        with_reducible rfl
      rotate_left
      · simp only [Act.put, List.setIfInBounds_toArray, List.set_cons_zero, List.set_cons_succ, iU, iY]
        rfl
      refine jH (i := 15) (N := some 36) (v := ?_) (a' := ?_) #[true, true, false, true, false, true, false, true, false, true, false, true, false, true, false, true, false, false, false, false] rfl rfl (iZ HT_.out (by kernel_rfl)) (fun _ _ _ h => h) (Or.inl ⟨by rfl, ?_⟩) ?_ ?_
      rotate_left
      · intro w'
        go_simp
        with_reducible rfl
      rotate_left
      · simp only [Act.put, List.setIfInBounds_toArray, List.set_cons_zero, List.set_cons_succ, iU, iY]
        rfl
      refine lX (i := 2) (N := some 23) (v := ?_) (a' := ?_) #[true, true, true, true, false, true, false, true, false, true, false, true, false, true, false, true, false, false, false, false] rfl rfl (jL HT_.out HW_.out (by kernel_rfl)) (fun _ _ _ h => h) (Or.inl ⟨by rfl, ?_⟩) hHeld ?_ ?_
      rotate_left
      · rintro w' ⟨s0, s1, s2, s3, s4, s5, s6, s7⟩
        go_simp
        with_reducible rfl
      rotate_left
      · simp only [Act.put, List.setIfInBounds_toArray, List.set_cons_zero, List.set_cons_succ, iU, iY]
        rfl
      refine lX (i := 4) (N := some 25) (v := ?_) (a' := ?_) #[true, true, true, true, true, true, false, true, false, true, false, true, false, true, false, true, false, false, false, false] rfl rfl (jL HT_.out HW_.out (by kernel_rfl)) (fun _ _ _ h => h) (Or.inl ⟨by rfl, ?_⟩) hHeld ?_ ?_
      rotate_left
      · rintro w' ⟨s0, s1, s2, s3, s4, s5, s6, s7⟩
        go_simp
        with_reducible rfl
      rotate_left
      · simp only [Act.put, List.setIfInBounds_toArray, List.set_cons_zero, List.set_cons_succ, iU, iY]
        rfl
      refine lX (i := 6) (N := some 27) (v := ?_) (a' := ?_) #[true, true, true, true, true, true, true, true, false, true, false, true, false, true, false, true, false, false, false, false] rfl rfl (jL HT_.out HW_.out (by kernel_rfl)) (fun _ _ _ h => h) (Or.inl ⟨by rfl, ?_⟩) hHeld ?_ ?_
      rotate_left
      · rintro w' ⟨s0, s1, s2, s3, s4, s5, s6, s7⟩
        go_simp
        with_reducible rfl
      rotate_left
      · simp only [Act.put, List.setIfInBounds_toArray, List.set_cons_zero, List.set_cons_succ, iU, iY]
        rfl
      refine lX (i := 8) (N := some 29) (v := ?_) (a' := ?_) #[true, true, true, true, true, true, true, true, true, true, false, true, false, true, false, true, false, false, false, false] rfl rfl (jL HT_.out HW_.out (by kernel_rfl)) (fun _ _ _ h => h) (Or.inl ⟨by rfl, ?_⟩) hHeld ?_ ?_
      rotate_left
      · rintro w' ⟨s0, s1, s2, s3, s4, s5, s6, s7⟩
        go_simp
        with_reducible rfl
      rotate_left
      · simp only [Act.put, List.setIfInBounds_toArray, List.set_cons_zero, List.set_cons_succ, iU, iY]
        rfl
      refine lX (i := 10) (N := some 31) (v := ?_) (a' := ?_) #[true, true, true, true, true, true, true, true, true, true, true, true, false, true, false, true, false, false, false, false] rfl rfl (jL HT_.out HW_.out (by kernel_rfl)) (fun _ _ _ h => h) (Or.inl ⟨by rfl, ?_⟩) hHeld ?_ ?_
      rotate_left
      · rintro w' ⟨s0, s1, s2, s3, s4, s5, s6, s7⟩
        go_simp
        with_reducible rfl
      rotate_left
      · simp only [Act.put, List.setIfInBounds_toArray, List.set_cons_zero, List.set_cons_succ, iU, iY]
        rfl
      refine lX (i := 12) (N := some 33) (v := ?_) (a' := ?_) #[true, true, true, true, true, true, true, true, true, true, true, true, true, true, false, true, false, false, false, false] rfl rfl (jL HT_.out HW_.out (by kernel_rfl)) (fun _ _ _ h => h) (Or.inl ⟨by rfl, ?_⟩) hHeld ?_ ?_
      rotate_left
      · rintro w' ⟨s0, s1, s2, s3, s4, s5, s6, s7⟩
        go_simp
        with_reducible rfl
      rotate_left
      · simp only [Act.put, List.setIfInBounds_toArray, List.set_cons_zero, List.set_cons_succ, iU, iY]
        rfl
      refine lX (i := 14) (N := some 35) (v := ?_) (a' := ?_) #[true, true, true, true, true, true, true, true, true, true, true, true, true, true, true, true, false, false, false, false] rfl rfl (jL HT_.out HW_.out (by kernel_rfl)) (fun _ _ _ h => h) (Or.inl ⟨by rfl, ?_⟩) hHeld ?_ ?_
      rotate_left
      · rintro w' ⟨s0, s1, s2, s3, s4, s5, s6, s7⟩
        go_simp
        with_reducible rfl
      rotate_left
      · simp only [Act.put, List.setIfInBounds_toArray, List.set_cons_zero, List.set_cons_succ, iU, iY]
        rfl
      refine lX (i := 16) (N := some 37) (v := ?_) (a' := ?_) #[true, true, true, true, true, true, true, true, true, true, true, true, true, true, true, true, true, false, false, false] rfl rfl (jL HT_.out HW_.out (by kernel_rfl)) (fun _ _ _ h => h) (Or.inl ⟨by rfl, ?_⟩) hHeld ?_ ?_
      rotate_left
      · rintro w' ⟨s0, s1, s2, s3, s4, s5, s6, s7⟩
        go_simp
        with_reducible rfl
      rotate_left
      · simp only [Act.put, List.setIfInBounds_toArray, List.set_cons_zero, List.set_cons_succ, iU, iY]
        rfl
      refine jH (i := 17) (N := some 38) (v := ?_) (a' := ?_) #[true, true, true, true, true, true, true, true, true, true, true, true, true, true, true, true, true, true, false, false] rfl rfl (iZ HT_.out (by kernel_rfl)) (fun _ _ _ h => h) (Or.inl ⟨by rfl, ?_⟩) ?_ ?_
      rotate_left
      · intro w'
        go_simp
        with_reducible rfl
      rotate_left
      · simp only [Act.put, List.setIfInBounds_toArray, List.set_cons_zero, List.set_cons_succ, iU, iY]
        rfl
      refine one_ (i := 18) (N := some 6) #[true, true, true, true, true, true, true, true, true, true, true, true, true, true, true, true, true, true, true, false] rfl rfl (lG HT_.out (by kernel_rfl)) (by decide) (fun K hK => ?_)
      refine jU (w1 := ?_) (v := ?_) (by rfl) rfl ?_ ?_
      rotate_left 2
      · go_simp
        constructor
        · rfl
        · rfl
      refine hK.out _ _ ⟨(lW (w := W.drew) HK1.out), (lW (w := W.drew) ((iE HXR.out 1).trans rfl)), (lW (w := W.drew) ((iE HXR.out 2).trans rfl)), (lW (w := W.drew) ((iE HXR.out 3).trans rfl)), (lW (w := W.drew) ((iE HXR.out 4).trans rfl)), (lW (w := W.drew) ((iE HXR.out 7).trans rfl)), (lW (w := W.drew) ((iE HXR.out 8).trans rfl)), (lW (w := W.drew) ((iE HXR.out 9).trans rfl))⟩ (fun hHeld => ?_)
      clear hK K
      refine lK (a' := ?_) ?_ ?_
      rotate_left
      · show Act.put _ (some 6) _ = _
        simp only [Act.put, List.setIfInBounds_toArray, List.set_cons_zero, List.set_cons_succ, iU, iY]
        rfl
      refine TY (i := 19) (N := none) #[true, true, true, true, true, true, true, true, true, true, true, true, true, true, true, true, true, true, true, true] rfl rfl (lG HT_.out (by kernel_rfl)) (by decide) (fun K hK => ?_)
      refine TC (w1 := ?_) (by rfl) rfl ?_ ?_
      rotate_left
      · go_simp
        rfl
      refine hK.out _ _ ?_
      clear hK K
      refine yS (oP HT_.out (by kernel_rfl)) ?_
      have hbW : Below W.heap.size W (((W.alloc (.cells #[.int .u8 0, .int .u32 0, .int .u32 0, .slice none 0 0, .slice none 0 0, .int .i64 0, .int .i64 0, .slice none 0 0] 51)).drew).setRow W.heap.size #[.int .u8 (k8.toNat : Int), .int .u32 x.f1, .int .u32 x.f2, .slice A3 x.f3.length d3, .slice A4 x.f4.length d4, .int .i64 x.f6, .int .i64 x.f7, .slice A9 x.f8.length d9]) := below_grown (g := W.heap.size) (iI (iF (Below.refl W.heap.size W) _)) (jA _ _ _) (Nat.le_refl _) (Nat.le_refl _)
      have hm2 : (((W.alloc (.cells #[.int .u8 0, .int .u32 0, .int .u32 0, .slice none 0 0, .slice none 0 0, .int .i64 0, .int .i64 0, .slice none 0 0] 51)).drew).setRow W.heap.size #[.int .u8 (k8.toNat : Int), .int .u32 x.f1, .int .u32 x.f2, .slice A3 x.f3.length d3, .slice A4 x.f4.length d4, .int .i64 x.f6, .int .i64 x.f7, .slice A9 x.f8.length d9]).heap[W.heap.size]? = some (.cells #[.int .u8 (k8.toNat : Int), .int .u32 x.f1, .int .u32 x.f2, .slice A3 x.f3.length d3, .slice A4 x.f4.length d4, .int .i64 x.f6, .int .i64 x.f7, .slice A9 x.f8.length d9] 51 (0, 0)) := setRow_heap _ _ _ _ _ _ (iM rfl)
      obtain ⟨W2, hW2⟩ : ∃ W2, W2 = ((W.alloc (.cells #[.int .u8 0, .int .u32 0, .int .u32 0, .slice none 0 0, .slice none 0 0, .int .i64 0, .int .i64 0, .slice none 0 0] 51)).drew).setRow W.heap.size #[.int .u8 (k8.toNat : Int), .int .u32 x.f1, .int .u32 x.f2, .slice A3 x.f3.length d3, .slice A4 x.f4.length d4, .int .i64 x.f6, .int .i64 x.f7, .slice A9 x.f8.length d9] := ⟨_, rfl⟩
      rw [← hW2] at hbW hm2 ⊢
      have HM2 := iC.mk hm2
      have HX2 := iC.mk (iJ hbW HX1.out)
      have HB2 := iC.mk (iH HB1.out hbW)
      have HLM2 := iC.mk (HLM.out.below hbW)
      have HC3 := iC.mk (Kd.C_below HC1.out hbW)
      have HV2 := iC.mk (nM HV.out hbW)
      clear hbW hm2 hW2 hsn hHeld HT_ HW_ HX1 HB1 HLM HC1 HK1 HXR hgs HW
      obtain ⟨⟨E1, E2⟩, hEE⟩ : ∃ E : List Int × Int, encM (msgR k8.toNat x) = E := ⟨_, rfl⟩
      have hcs := vG (msgR k8.toNat x)
      rw [hEE] at hR hcs
      have hcall := yA (msgR k8.toNat x) A3 d3 A4 d4 A9 d9 W2 HLM2.out ⟨by show (0 : Int) ≤ (k8.toNat : Int); omega, by show (k8.toNat : Int) < 256; omega⟩ hEE
      have HR := iC.mk hR
      clear hEE hR
      obtain ⟨z0, z1, z2, z3, z4, z5, z6, z7, y0, y1, y2, y3, y4, y5, y6, y7⟩ := eight HM2.out
      go_wp2_with fail
      go_at_call 28
      refine hcall.mono ?_
      rintro e w4 ⟨v0, rfl, h0, hb4⟩
      obtain ⟨A0, c0, rfl⟩ := Kd.R_slice h0
      obtain ⟨_, q0, C0⟩ := Kd.R_reads' h0
      have HM4 := iC.mk (iJ hb4 HM2.out)
      have HX4 := iC.mk (iJ hb4 HX2.out)
      have HB4 := iC.mk (iH HB2.out hb4)
      have HV4 := iC.mk (nM HV2.out hb4)
      have HC4 := iC.mk (nO (Kd.C_below HC3.out hb4))
      clear hcall hb4 h0 HM2 HX2 HB2 HLM2 HC3 z0 z1 z2 z3 z4 z5 z6 z7 y0 y1 y2 y3 y4 y5 y6 y7
      rcases hcs with hc2 | hc2 | ⟨hsd, hc2⟩
      · obtain ⟨rfl, rfl⟩ := Prod.mk.inj hc2
        have HDM := iC.mk (show decM (k8 :: t) = (kT, 160) from HR.out.trans (if_neg (by intro h; injection h with _ h2; cases h2)))
        have hst := fun (_ : True) => pX rfl HX4.out
        clear C0 q0 hc2
        go_wp2
        ((try simp only [Exit.inBlock, Exit.then]); exact bodyPost_ret (rE rfl rfl rfl (setRow_heap _ _ _ _ _ _ HX4.out) rfl) rfl (by rw [HDM.out]; exact uG w _ HB4.out 160))
      · obtain ⟨rfl, rfl⟩ := Prod.mk.inj hc2
        have HDM := iC.mk (show decM (k8 :: t) = (kT, 160) from HR.out.trans (if_neg (by intro h; injection h with _ h2; cases h2)))
        have hst := fun (_ : True) => pX rfl HX4.out
        clear C0 q0 hc2
        go_wp2
        ((try simp only [Exit.inBlock, Exit.then]); exact bodyPost_ret (rE rfl rfl rfl (setRow_heap _ _ _ _ _ _ HX4.out) rfl) rfl (by rw [HDM.out]; exact uG w _ HB4.out 160))
      · obtain ⟨rfl, rfl⟩ := Prod.mk.inj hc2
        have q0 : (nums (recE (recM (msgR k8.toNat x)))).length + 1 ≤ c0 := q0
        have hlen : (nums (k8 :: recE (recM (msgR k8.toNat x)))).length = (nums (recE (recM (msgR k8.toNat x)))).length + 1 := rfl
        have C0 : (Kd.int .u8).C w4 A0 (nums (k8 :: recE (recM (msgR k8.toNat x)))).length (nums (k8 :: recE (recM (msgR k8.toNat x)))) := C0
        have hcall := bytes_Equal.calls A0 c0 (nums (k8 :: recE (recM (msgR k8.toNat x)))) (some ad) c (nums (k8 :: t)) _ w4 C0 q0 (by rw [jC]; exact HC4.out) (by rw [jC]; simpa using hc) rfl
        rw [oD] at hcall
        obtain ⟨L, hL⟩ : ∃ L, L = recE (recM (msgR k8.toNat x)) := ⟨_, rfl⟩
        rw [← hL] at hcall
        have HLE := iC.mk hL
        rw [show (nums (k8 :: L)).length = (nums L).length + 1 from rfl, show (nums (k8 :: t)).length = t.length + 1 from by rw [jC]; rfl] at hcall
        simp only [List.length_cons, ← hL]
        clear hlen C0 q0 hc2 hsd hL
        by_cases hq : k8 :: L = k8 :: t
        · rw [decide_eq_true hq] at hcall
          have HDM := iC.mk (show decM (k8 :: t) = (msgR k8.toNat x, 0) from HR.out.trans (if_pos (by rw [← hq, HLE.out]; rfl)))
          clear hq
          go_wp2_with fail
          go_at_call 75
          refine hcall.mono ?_
          rintro e w5 ⟨rfl, hD⟩
          have hb5 := hD.below
          have HX5 := iC.mk (iJ hb5 HX4.out)
          have hl5 := fun (_ : True) => WW (iJ hb5 HM4.out) rfl
          have HB5 := iC.mk (iH HB4.out hb5)
          have HV5 := iC.mk (nM HV4.out hb5)
          obtain ⟨z0, z1, z2, z3, z4, z5, z6, z7, y0, y1, y2, y3, y4, y5, y6, y7⟩ := eight (iJ hb5 HM4.out)
          have hst := fun (_ : True) => J3 (a := (k8.toNat : Int)) (k := x.f1) (i := x.f2) (x3 := .slice A3 x.f3.length d3) (x4 := .slice A4 x.f4.length d4) (p := x.f6) (q := x.f7) (x7 := .slice A9 x.f8.length d9) rfl HX5.out rfl rfl rfl
          clear hcall hD hb5
          go_wp2
          ((try simp only [Exit.inBlock, Exit.then]); refine bodyPost_ret (rE rfl rfl rfl (setRow_heap _ _ _ _ _ _ HX5.out) rfl) rfl ?_)
          rw [HDM.out]
          exact ⟨A3, d3, A4, d4, A9, d9, rfl, PW (rJ HV5.out (jA _ w.heap.size _) HLT.out) _, below_grown HB5.out (jA _ w.heap.size _) (Nat.le_refl _) (Nat.le_refl _)⟩
        · rw [decide_eq_false hq] at hcall
          have HDM := iC.mk (show decM (k8 :: t) = (kT, 160) from HR.out.trans (if_neg (by
            intro h
            injection h with h1 _
            apply hq
            rw [HLE.out]
            exact xI h1)))
          clear hq
          go_wp2_with fail
          go_at_call 75
          refine hcall.mono ?_
          rintro e w5 ⟨rfl, hD⟩
          have HX5 := iC.mk (iJ hD.below HX4.out)
          have HB5 := iC.mk (iH HB4.out hD.below)
          have hst := fun (_ : True) => pX rfl HX5.out
          clear hcall hD
          go_wp2
          ((try simp only [Exit.inBlock, Exit.then]); exact bodyPost_ret (rE rfl rfl rfl (setRow_heap _ _ _ _ _ _ HX5.out) rfl) rfl (by rw [HDM.out]; exact uG w _ HB5.out 160))
    · have HDM := iC.mk (NG k8 t (by rw [HD.out]; exact hE))
      have hst := fun (_ : True) => pX rfl HX1.out
      go_wp2
      ((try simp only [Exit.inBlock, Exit.then]); exact bodyPost_ret (rE rfl rfl rfl (setRow_heap _ _ _ _ _ _ HX1.out) rfl) rfl (by rw [HDM.out]; exact uG w _ HB1.out 160))
end Go.Proofs.YtgfkgppomaapiaaDoor.K
end

section
namespace Go.Proofs.YtgfkgppomaapiaaDoor.K
open RowKit YtgfkgppomaapiaaDoorW.PrintWords YtgfkgppomaapiaaDoorW.PrintLast YtgfkgppomaapiaaDoorW.PrintMore My
theorem TF (a b : Int) : (Tryd.prog).built 51 (#[(0, .int .u8 a), (1, .int .u32 b)] : Array (Nat × Value)).toList = some #[.int .u8 a, .int .u32 b, .int .u32 0, .slice none 0 0, .slice none 0 0, .int .i64 0, .int .i64 0, .slice none 0 0] := by kernel_rfl
theorem XD (w : World) (a b : Int) : (Instr.build 51 #[(0, .int .u8 a), (1, .int .u32 b)]).run Tryd.prog w = .ok (.agg #[.int .u8 a, .int .u32 b, .int .u32 0, .slice none 0 0, .slice none 0 0, .int .i64 0, .int .i64 0, .slice none 0 0]) w := run_build w _ _ _ (TF a b)
theorem NZ (w : World) (k i a : Int) : oM w ⟨k, i, a, [], [], 0, 0, []⟩ none 0 none 0 none 0 := ⟨Kd.C_nil _ _, Nat.le_refl _, Kd.C_nil _ _, Nat.le_refl _, Kd.C_nil _ _, Nat.le_refl _⟩
attribute [-go_sem] Instr.build Instr.storeAt
attribute [local go_sem] XD
set_option maxRecDepth 20000 in
set_option maxHeartbeats 8000000 in
theorem zI (w : World) : Calls Tryd.prog 25 #[] w fun e w' => e = .returned (.bool true) ∧ Below w.heap.size w w' := by
  have henc : Calls Tryd.prog 28 #[.agg #[.int .u8 2, .int .u32 5, .int .u32 0, .slice none 0 0, .slice none 0 0, .int .i64 0, .int .i64 0, .slice none 0 0]] w _ := yA qF none 0 none 0 none 0 w (NZ w 2 5 0) (by decide) O1
  go_enter Tryd.func25, Tryd.ntmps25
  go_wp2_with fail
  go_at_call 28
  refine henc.mono ?_
  rintro e w1 ⟨v0, rfl, h0, hB⟩
  clear henc
  obtain ⟨A0, d0, rfl⟩ := Kd.R_slice h0
  obtain ⟨_, q0, C0⟩ := Kd.R_reads' h0
  have q0 : 6 ≤ d0 := q0
  have C0 : (Kd.int .u8).C w1 A0 6 (nums [2, 4, 0, 0, 0, 5]) := C0
  simp only [show (nums [2, 4, 0, 0, 0, 5]).length = 6 from rfl]
  have HB := iC.mk hB
  have HC := iC.mk C0
  have hdec : Calls Tryd.prog 32 #[.slice A0 6 d0] w1 (uK w1 (decM [2, 4, 0, 0, 0, 5])) := uA A0 d0 [2, 4, 0, 0, 0, 5] w1 C0 q0
  rw [NM] at hdec
  clear h0 hB C0
  go_wp2_with fail
  go_at_call 32
  refine hdec.mono ?_
  rintro e w2 ⟨A3, d3, A4, d4, A9, d9, rfl, hL, hB⟩
  clear hdec
  have hbw : Below w2.heap.size w2 (w2.alloc (.cells #[.int .u8 2, .int .u32 5, .int .u32 0, .slice A3 0 d3, .slice A4 0 d4, .int .i64 0, .int .i64 0, .slice A9 0 d9] 51)) := iF (Below.refl _ _) _
  have hbv : Below w2.heap.size w2 ((w2.alloc (.cells #[.int .u8 2, .int .u32 5, .int .u32 0, .slice A3 0 d3, .slice A4 0 d4, .int .i64 0, .int .i64 0, .slice A9 0 d9] 51)).alloc (.cells #[.int .u8 99] 5)) := iF hbw _
  have HB2 := iC.mk (HB.out.trans ((hB.trans (hbv.mono hB.size)).mono HB.out.size))
  have HC2 := iC.mk (Kd.C_below HC.out (hB.trans (hbv.mono hB.size)))
  have HL2 := iC.mk (hL.below hbv)
  have HX2 := iC.mk (show ((w2.alloc (.cells #[.int .u8 2, .int .u32 5, .int .u32 0, .slice A3 0 d3, .slice A4 0 d4, .int .i64 0, .int .i64 0, .slice A9 0 d9] 51)).alloc (.cells #[.int .u8 99] 5)).heap[w2.heap.size]? = some (.cells #[.int .u8 2, .int .u32 5, .int .u32 0, .slice A3 0 d3, .slice A4 0 d4, .int .i64 0, .int .i64 0, .slice A9 0 d9] 51 (0, 0)) from jD (iM rfl))
  have hsx := fun (_ : True) => run_storeAt_new (P := Tryd.prog) w2 51 #[.int .u8 0, .int .u32 0, .int .u32 0, .slice none 0 0, .slice none 0 0, .int .i64 0, .int .i64 0, .slice none 0 0] #[.int .u8 2, .int .u32 5, .int .u32 0, .slice A3 0 d3, .slice A4 0 d4, .int .i64 0, .int .i64 0, .slice A9 0 d9] (by kernel_rfl) rfl (by simp [Value.oneCell'])
  have hdec := uA (some ⟨w2.heap.size + 1, 0, none⟩) 1 [99] ((w2.alloc (.cells #[.int .u8 2, .int .u32 5, .int .u32 0, .slice A3 0 d3, .slice A4 0 d4, .int .i64 0, .int .i64 0, .slice A9 0 d9] 51)).alloc (.cells #[.int .u8 99] 5)) (nO (WL (by simp) rfl (by decide) (by rfl))) (Nat.le_refl _)
  rw [OA] at hdec
  simp only [List.length_cons, List.length_nil, Nat.zero_add] at hdec
  clear hL hB hbw hbv
  simp only [qF, List.length_nil]
  go_wp2_with fail
  go_at_call 32
  refine hdec.mono ?_
  rintro e w3 ⟨B3, e3, B4, e4, B9, e9, rfl, hL3, hB⟩
  clear hdec hsx
  have hbw : Below w3.heap.size w3 (w3.alloc (.cells #[.int .u8 0, .int .u32 0, .int .u32 0, .slice B3 0 e3, .slice B4 0 e4, .int .i64 0, .int .i64 0, .slice B9 0 e9] 51)) := iF (Below.refl _ _) _
  have hb' := hB.trans (hbw.mono hB.size)
  have HB3 := iC.mk (HB2.out.trans (hb'.mono HB2.out.size))
  have hcv := fun (_ : True) => L9 (c := d0) (o8 (n := 6) (l := [2, 4, 0, 0, 0, 5]) (Kd.C_below HC2.out hb'))
  have hsx := fun (_ : True) => run_storeAt_new (P := Tryd.prog) w3 51 #[.int .u8 0, .int .u32 0, .int .u32 0, .slice none 0 0, .slice none 0 0, .int .i64 0, .int .i64 0, .slice none 0 0] #[.int .u8 0, .int .u32 0, .int .u32 0, .slice B3 0 e3, .slice B4 0 e4, .int .i64 0, .int .i64 0, .slice B9 0 e9] (by kernel_rfl) rfl (by simp [Value.oneCell'])
  obtain ⟨z0, z1, z2, z3, z4, z5, z6, z7, y0, y1, y2, y3, y4, y5, y6, y7⟩ := eight (iJ hb' HX2.out)
  have hsd := zX qF A3 d3 A4 d4 A9 d9 _ (HL2.out.below hb')
  rw [JP] at hsd
  simp only [qF, List.length_nil] at hsd
  clear hB hb' hbw hL3
  simp only [kT, List.length_nil]
  have hbl : True → (bs [2, 4, 0, 0, 0, 5]).toList = [2, 4, 0, 0, 0, 5] := fun _ => jX _
  go_wp2_with fail
  go_at_call 30
  refine hsd.mono ?_
  rintro e w4 ⟨rfl, hB⟩
  have HB4 := iC.mk (HB3.out.trans (hB.mono HB3.out.size))
  clear hsd hB
  go_wp2
  go_ret
  exact ⟨rfl, HB4.out⟩
end Go.Proofs.YtgfkgppomaapiaaDoor.K
end

section
namespace Go.Proofs.YtgfkgppomaapiaaDoor.K
open RowKit YtgfkgppomaapiaaDoorW.PrintWords YtgfkgppomaapiaaDoorW.PrintLast YtgfkgppomaapiaaDoorW.PrintMore My
def nR (k : Int) : Int := if k = 1 then 1 else if k = 4 then 2 else if k = 8 then 7 else if k = 9 then 7 else if k = 10 then 7 else 4
def recR (m : SMsg) : SRec := ⟨nR m.f0, m.f1, m.f2, m.f3, m.f4, ⟨0, []⟩, m.f5, m.f6, m.f7⟩
theorem VN (k : Int) (h : 1 ≤ k ∧ k ≤ 11) : nR k = pY k := by
  unfold nR pY
  (repeat' split) <;> omega
theorem st_0 {w : World} {b : Nat} {c0 c1 c2 c3 c4 c5 c6 c7 c8 c9 : Value} (x : Int) (h : w.heap[b]? = some (.cells #[c0, c1, c2, c3, c4, c5, c6, c7, c8, c9] 30 (0, 0))) : (Instr.storeAt 5 (.pointer (some ⟨b, 0, none⟩)) (.int .u8 x)).run Tryd.prog w = .ok () (w.setRow b #[.int .u8 x, c1, c2, c3, c4, c5, c6, c7, c8, c9]) := by
  have z : w.cell? ⟨b, 0, none⟩ = some c0 := (iE h 0).trans rfl
  have y : w.frozen? ⟨b, 0, none⟩ = false := iD h 0
  rw [show w.setRow b #[.int .u8 x, c1, c2, c3, c4, c5, c6, c7, c8, c9] = w.setCell ⟨b, 0, none⟩ (.int .u8 x) from (setCell_eq_setRow w b 0 _ _ _ (.int .u8 x) h).symm]
  simp [go_sem, z, y]
theorem rO {tmps : Array Value} {W : World} {p : Tmp} {b : Nat} {cs : Array Value} (h : Tryd.f82.results = #[.cell p 30]) (hp : tmps.getD p undef = .pointer (some ⟨b, 0, none⟩)) (hx : W.heap[b]? = some (.cells cs 30 (0, 0))) (hs : cs.size = 10) :
    (results Tryd.f82 tmps).run Tryd.prog W = .ok (.agg cs) W := by
  exact results_cell_row h _ _ _ _ _ _ _ hp hx Tryd.underlying30 rfl (by rw [hs]; kernel_rfl)
attribute [-go_sem] Instr.build Instr.storeAt
attribute [local go_sem] PE
set_option maxRecDepth 20000 in
set_option maxHeartbeats 16000000 in
theorem mO (k i a p q : Int) (A3 : Option Addr) (n3 c3 : Nat) (A4 : Option Addr) (n4 c4 : Nat) (A9 : Option Addr) (n9 c9 : Nat) (w : World) :
    Calls Tryd.prog 82 #[.agg #[.int .u8 k, .int .u32 i, .int .u32 a, .slice A3 n3 c3, .slice A4 n4 c4, .int .i64 p, .int .i64 q, .slice A9 n9 c9]] w fun e w' => e = .returned (.agg #[.int .u8 (nR k), .int .u32 i, .int .u32 a, .slice A3 n3 c3, .slice A4 n4 c4, .int .u32 0, .slice none 0 0, .int .i64 p, .int .i64 q, .slice A9 n9 c9]) ∧ Below w.heap.size w w' := by
  obtain ⟨W0, hW0⟩ : ∃ W0, W0 = ((w.alloc (.cells #[.int .u8 k, .int .u32 i, .int .u32 a, .slice A3 n3 c3, .slice A4 n4 c4, .int .i64 p, .int .i64 q, .slice A9 n9 c9] 51)).alloc (.cells #[.int .u8 0, .int .u32 0, .int .u32 0, .slice none 0 0, .slice none 0 0, .int .u32 0, .slice none 0 0, .int .i64 0, .int .i64 0, .slice none 0 0] 30)) := ⟨_, rfl⟩
  have hs0 : W0.heap.size = w.heap.size + 1 + 1 := by rw [hW0]; simp
  have hsx := fun (_ : True) => run_storeAt_new (P := Tryd.prog) W0 30 #[.int .u8 0, .int .u32 0, .int .u32 0, .slice none 0 0, .slice none 0 0, .int .u32 0, .slice none 0 0, .int .i64 0, .int .i64 0, .slice none 0 0] #[.int .u8 4, .int .u32 i, .int .u32 a, .slice A3 n3 c3, .slice A4 n4 c4, .int .u32 0, .slice none 0 0, .int .i64 p, .int .i64 q, .slice A9 n9 c9] (by kernel_rfl) rfl (by simp [Value.oneCell'])
  rw [hs0] at hsx
  obtain ⟨W1, hW1⟩ : ∃ W1, W1 = W0.alloc (.cells #[.int .u8 4, .int .u32 i, .int .u32 a, .slice A3 n3 c3, .slice A4 n4 c4, .int .u32 0, .slice none 0 0, .int .i64 p, .int .i64 q, .slice A9 n9 c9] 30) := ⟨_, rfl⟩
  have HR := iC.mk (show W1.heap[w.heap.size + 1 + 1]? = some (.cells #[.int .u8 4, .int .u32 i, .int .u32 a, .slice A3 n3 c3, .slice A4 n4 c4, .int .u32 0, .slice none 0 0, .int .i64 p, .int .i64 q, .slice A9 n9 c9] 30 (0, 0)) from by rw [hW1]; exact iM hs0.symm)
  have HZ := iC.mk (show W1.heap[w.heap.size + 1]? = some (.cells #[.int .u8 0, .int .u32 0, .int .u32 0, .slice none 0 0, .slice none 0 0, .int .u32 0, .slice none 0 0, .int .i64 0, .int .i64 0, .slice none 0 0] 30 (0, 0)) from by rw [hW1, hW0]; exact jD (iM (by simp)))
  have HB := iC.mk (show Below w.heap.size w W1 from by rw [hW1, hW0]; exact iF (iF (iF (Below.refl _ _) _) _) _)
  obtain ⟨z0, z1, z2, z3, z4, z5, z6, z7, y0, y1, y2, y3, y4, y5, y6, y7⟩ := eight (show W0.heap[w.heap.size]? = some (.cells #[.int .u8 k, .int .u32 i, .int .u32 a, .slice A3 n3 c3, .slice A4 n4 c4, .int .i64 p, .int .i64 q, .slice A9 n9 c9] 51 (0, 0)) from by rw [hW0]; exact jD (iM rfl))
  obtain ⟨x0, x1, x2, x3, x4, x5, x6, x7, _⟩ := eight (show W1.heap[w.heap.size]? = some (.cells #[.int .u8 k, .int .u32 i, .int .u32 a, .slice A3 n3 c3, .slice A4 n4 c4, .int .i64 p, .int .i64 q, .slice A9 n9 c9] 51 (0, 0)) from by rw [hW1, hW0]; exact jD (jD (iM rfl)))
  clear hs0 x1 x2 x3 x4 x5 x6 x7
  by_cases h1 : k = 1
  · subst h1
    have hk : nR 1 = 1 := rfl
    (have hset := fun (_ : True) => st_0 (1) HR.out; have HR2 := iC.mk (setRow_heap _ _ _ #[.int .u8 1, .int .u32 i, .int .u32 a, .slice A3 n3 c3, .slice A4 n4 c4, .int .u32 0, .slice none 0 0, .int .i64 p, .int .i64 q, .slice A9 n9 c9] _ _ HR.out); have HZ2 := iC.mk ((setRow_other W1 (w.heap.size + 1 + 1) (w.heap.size + 1) #[.int .u8 1, .int .u32 i, .int .u32 a, .slice A3 n3 c3, .slice A4 n4 c4, .int .u32 0, .slice none 0 0, .int .i64 p, .int .i64 q, .slice A9 n9 c9] (by omega)).trans HZ.out); have HB2 := iC.mk (show Below w.heap.size w (W1.setRow (w.heap.size + 1 + 1) #[.int .u8 1, .int .u32 i, .int .u32 a, .slice A3 n3 c3, .slice A4 n4 c4, .int .u32 0, .slice none 0 0, .int .i64 p, .int .i64 q, .slice A9 n9 c9]) from below_grown (g := w.heap.size + 1 + 1) HB.out (jA _ _ _) (by omega) (Nat.le_refl _)); have hld := fun (_ : True) => mY HR2.out rfl; have hst := fun (_ : True) => lF (a := 1) (k := i) (i := a) (x3 := .slice A3 n3 c3) (x4 := .slice A4 n4 c4) (j := 0) (x6 := .slice none 0 0) (p := p) (q := q) (x9 := .slice A9 n9 c9) HZ2.out rfl rfl rfl rfl; obtain ⟨xz0, xz1, xz2, xz3, xz4, xz5, xz6, xz7, xz8, xz9, xy0, xy1, xy2, xy3, xy4, xy5, xy6, xy7, xy8, xy9⟩ := ten HR2.out; clear HR HZ HB hld; subst hW1; subst hW0; go_enter Tryd.func82, Tryd.ntmps82; go_wp2; ((try simp only [Exit.inBlock, Exit.then]); exact bodyPost_ret (rO rfl rfl (setRow_heap _ _ _ _ _ _ HZ2.out) rfl) rfl ⟨by rw [hk], below_grown (g := w.heap.size + 1) HB2.out (jA _ _ _) (Nat.le_succ _) (Nat.le_refl _)⟩))
  by_cases h4 : k = 4
  · subst h4
    have hk : nR 4 = 2 := rfl
    (have hset := fun (_ : True) => st_0 (2) HR.out; have HR2 := iC.mk (setRow_heap _ _ _ #[.int .u8 2, .int .u32 i, .int .u32 a, .slice A3 n3 c3, .slice A4 n4 c4, .int .u32 0, .slice none 0 0, .int .i64 p, .int .i64 q, .slice A9 n9 c9] _ _ HR.out); have HZ2 := iC.mk ((setRow_other W1 (w.heap.size + 1 + 1) (w.heap.size + 1) #[.int .u8 2, .int .u32 i, .int .u32 a, .slice A3 n3 c3, .slice A4 n4 c4, .int .u32 0, .slice none 0 0, .int .i64 p, .int .i64 q, .slice A9 n9 c9] (by omega)).trans HZ.out); have HB2 := iC.mk (show Below w.heap.size w (W1.setRow (w.heap.size + 1 + 1) #[.int .u8 2, .int .u32 i, .int .u32 a, .slice A3 n3 c3, .slice A4 n4 c4, .int .u32 0, .slice none 0 0, .int .i64 p, .int .i64 q, .slice A9 n9 c9]) from below_grown (g := w.heap.size + 1 + 1) HB.out (jA _ _ _) (by omega) (Nat.le_refl _)); have hld := fun (_ : True) => mY HR2.out rfl; have hst := fun (_ : True) => lF (a := 2) (k := i) (i := a) (x3 := .slice A3 n3 c3) (x4 := .slice A4 n4 c4) (j := 0) (x6 := .slice none 0 0) (p := p) (q := q) (x9 := .slice A9 n9 c9) HZ2.out rfl rfl rfl rfl; obtain ⟨xz0, xz1, xz2, xz3, xz4, xz5, xz6, xz7, xz8, xz9, xy0, xy1, xy2, xy3, xy4, xy5, xy6, xy7, xy8, xy9⟩ := ten HR2.out; clear HR HZ HB hld; subst hW1; subst hW0; go_enter Tryd.func82, Tryd.ntmps82; go_wp2; ((try simp only [Exit.inBlock, Exit.then]); exact bodyPost_ret (rO rfl rfl (setRow_heap _ _ _ _ _ _ HZ2.out) rfl) rfl ⟨by rw [hk], below_grown (g := w.heap.size + 1) HB2.out (jA _ _ _) (Nat.le_succ _) (Nat.le_refl _)⟩))
  by_cases h8 : k = 8
  · subst h8
    have hk : nR 8 = 7 := rfl
    (have hset := fun (_ : True) => st_0 (7) HR.out; have HR2 := iC.mk (setRow_heap _ _ _ #[.int .u8 7, .int .u32 i, .int .u32 a, .slice A3 n3 c3, .slice A4 n4 c4, .int .u32 0, .slice none 0 0, .int .i64 p, .int .i64 q, .slice A9 n9 c9] _ _ HR.out); have HZ2 := iC.mk ((setRow_other W1 (w.heap.size + 1 + 1) (w.heap.size + 1) #[.int .u8 7, .int .u32 i, .int .u32 a, .slice A3 n3 c3, .slice A4 n4 c4, .int .u32 0, .slice none 0 0, .int .i64 p, .int .i64 q, .slice A9 n9 c9] (by omega)).trans HZ.out); have HB2 := iC.mk (show Below w.heap.size w (W1.setRow (w.heap.size + 1 + 1) #[.int .u8 7, .int .u32 i, .int .u32 a, .slice A3 n3 c3, .slice A4 n4 c4, .int .u32 0, .slice none 0 0, .int .i64 p, .int .i64 q, .slice A9 n9 c9]) from below_grown (g := w.heap.size + 1 + 1) HB.out (jA _ _ _) (by omega) (Nat.le_refl _)); have hld := fun (_ : True) => mY HR2.out rfl; have hst := fun (_ : True) => lF (a := 7) (k := i) (i := a) (x3 := .slice A3 n3 c3) (x4 := .slice A4 n4 c4) (j := 0) (x6 := .slice none 0 0) (p := p) (q := q) (x9 := .slice A9 n9 c9) HZ2.out rfl rfl rfl rfl; obtain ⟨xz0, xz1, xz2, xz3, xz4, xz5, xz6, xz7, xz8, xz9, xy0, xy1, xy2, xy3, xy4, xy5, xy6, xy7, xy8, xy9⟩ := ten HR2.out; clear HR HZ HB hld; subst hW1; subst hW0; go_enter Tryd.func82, Tryd.ntmps82; go_wp2; ((try simp only [Exit.inBlock, Exit.then]); exact bodyPost_ret (rO rfl rfl (setRow_heap _ _ _ _ _ _ HZ2.out) rfl) rfl ⟨by rw [hk], below_grown (g := w.heap.size + 1) HB2.out (jA _ _ _) (Nat.le_succ _) (Nat.le_refl _)⟩))
  by_cases h9 : k = 9
  · subst h9
    have hk : nR 9 = 7 := rfl
    (have hset := fun (_ : True) => st_0 (7) HR.out; have HR2 := iC.mk (setRow_heap _ _ _ #[.int .u8 7, .int .u32 i, .int .u32 a, .slice A3 n3 c3, .slice A4 n4 c4, .int .u32 0, .slice none 0 0, .int .i64 p, .int .i64 q, .slice A9 n9 c9] _ _ HR.out); have HZ2 := iC.mk ((setRow_other W1 (w.heap.size + 1 + 1) (w.heap.size + 1) #[.int .u8 7, .int .u32 i, .int .u32 a, .slice A3 n3 c3, .slice A4 n4 c4, .int .u32 0, .slice none 0 0, .int .i64 p, .int .i64 q, .slice A9 n9 c9] (by omega)).trans HZ.out); have HB2 := iC.mk (show Below w.heap.size w (W1.setRow (w.heap.size + 1 + 1) #[.int .u8 7, .int .u32 i, .int .u32 a, .slice A3 n3 c3, .slice A4 n4 c4, .int .u32 0, .slice none 0 0, .int .i64 p, .int .i64 q, .slice A9 n9 c9]) from below_grown (g := w.heap.size + 1 + 1) HB.out (jA _ _ _) (by omega) (Nat.le_refl _)); have hld := fun (_ : True) => mY HR2.out rfl; have hst := fun (_ : True) => lF (a := 7) (k := i) (i := a) (x3 := .slice A3 n3 c3) (x4 := .slice A4 n4 c4) (j := 0) (x6 := .slice none 0 0) (p := p) (q := q) (x9 := .slice A9 n9 c9) HZ2.out rfl rfl rfl rfl; obtain ⟨xz0, xz1, xz2, xz3, xz4, xz5, xz6, xz7, xz8, xz9, xy0, xy1, xy2, xy3, xy4, xy5, xy6, xy7, xy8, xy9⟩ := ten HR2.out; clear HR HZ HB hld; subst hW1; subst hW0; go_enter Tryd.func82, Tryd.ntmps82; go_wp2; ((try simp only [Exit.inBlock, Exit.then]); exact bodyPost_ret (rO rfl rfl (setRow_heap _ _ _ _ _ _ HZ2.out) rfl) rfl ⟨by rw [hk], below_grown (g := w.heap.size + 1) HB2.out (jA _ _ _) (Nat.le_succ _) (Nat.le_refl _)⟩))
  by_cases h10 : k = 10
  · subst h10
    have hk : nR 10 = 7 := rfl
    (have hset := fun (_ : True) => st_0 (7) HR.out; have HR2 := iC.mk (setRow_heap _ _ _ #[.int .u8 7, .int .u32 i, .int .u32 a, .slice A3 n3 c3, .slice A4 n4 c4, .int .u32 0, .slice none 0 0, .int .i64 p, .int .i64 q, .slice A9 n9 c9] _ _ HR.out); have HZ2 := iC.mk ((setRow_other W1 (w.heap.size + 1 + 1) (w.heap.size + 1) #[.int .u8 7, .int .u32 i, .int .u32 a, .slice A3 n3 c3, .slice A4 n4 c4, .int .u32 0, .slice none 0 0, .int .i64 p, .int .i64 q, .slice A9 n9 c9] (by omega)).trans HZ.out); have HB2 := iC.mk (show Below w.heap.size w (W1.setRow (w.heap.size + 1 + 1) #[.int .u8 7, .int .u32 i, .int .u32 a, .slice A3 n3 c3, .slice A4 n4 c4, .int .u32 0, .slice none 0 0, .int .i64 p, .int .i64 q, .slice A9 n9 c9]) from below_grown (g := w.heap.size + 1 + 1) HB.out (jA _ _ _) (by omega) (Nat.le_refl _)); have hld := fun (_ : True) => mY HR2.out rfl; have hst := fun (_ : True) => lF (a := 7) (k := i) (i := a) (x3 := .slice A3 n3 c3) (x4 := .slice A4 n4 c4) (j := 0) (x6 := .slice none 0 0) (p := p) (q := q) (x9 := .slice A9 n9 c9) HZ2.out rfl rfl rfl rfl; obtain ⟨xz0, xz1, xz2, xz3, xz4, xz5, xz6, xz7, xz8, xz9, xy0, xy1, xy2, xy3, xy4, xy5, xy6, xy7, xy8, xy9⟩ := ten HR2.out; clear HR HZ HB hld; subst hW1; subst hW0; go_enter Tryd.func82, Tryd.ntmps82; go_wp2; ((try simp only [Exit.inBlock, Exit.then]); exact bodyPost_ret (rO rfl rfl (setRow_heap _ _ _ _ _ _ HZ2.out) rfl) rfl ⟨by rw [hk], below_grown (g := w.heap.size + 1) HB2.out (jA _ _ _) (Nat.le_succ _) (Nat.le_refl _)⟩))
  · have hk : nR k = 4 := by unfold nR; simp [h1, h4, h8, h9, h10]
    have hld := fun (_ : True) => mY HR.out rfl
    have hst := fun (_ : True) => lF (a := 4) (k := i) (i := a) (x3 := .slice A3 n3 c3) (x4 := .slice A4 n4 c4) (j := 0) (x6 := .slice none 0 0) (p := p) (q := q) (x9 := .slice A9 n9 c9) HZ.out rfl rfl rfl rfl
    clear HR
    subst hW1
    subst hW0
    go_enter Tryd.func82, Tryd.ntmps82
    go_wp2
    ((try simp only [Exit.inBlock, Exit.then]); exact bodyPost_ret (rO rfl rfl (setRow_heap _ _ _ _ _ _ HZ.out) rfl) rfl ⟨by rw [hk], below_grown (g := w.heap.size + 1) HB.out (jA _ _ _) (Nat.le_succ _) (Nat.le_refl _)⟩)
end Go.Proofs.YtgfkgppomaapiaaDoor.K
end

section
namespace Go.Proofs.YtgfkgppomaapiaaDoor.K
open RowKit YtgfkgppomaapiaaDoorW.PrintWords YtgfkgppomaapiaaDoorW.PrintLast YtgfkgppomaapiaaDoorW.PrintMore My
theorem oM.rlies {w : World} {m : SMsg} {A3 A4 A9 : Option Addr} {a3 a4 a9 : Nat} (h : oM w m A3 a3 A4 a4 A9 a9) : Lies w (recR m) A3 a3 A4 a4 none 0 A9 a9 := ⟨h.h3, h.d3, h.h4, h.d4, Kd.C_nil _ _, Nat.le_refl _, h.h9, h.d9⟩
set_option maxRecDepth 20000 in
set_option maxHeartbeats 8000000 in
theorem UM (m q : SMsg) (hk : m.f0 = q.f0) (A3 : Option Addr) (a3 : Nat) (A4 : Option Addr) (a4 : Nat) (A9 : Option Addr) (a9 : Nat) (B3 : Option Addr) (b3 : Nat) (B4 : Option Addr) (b4 : Nat) (B9 : Option Addr) (b9 : Nat) (w : World) (ha : oM w m A3 a3 A4 a4 A9 a9) (hb : oM w q B3 b3 B4 b4 B9 b9)
    {t : Bool} (ht : ∃ k, stratumref07_Same.f k (recR m).f0 (recR m).f1 (recR m).f2 (recR m).f3 (recR m).f4 (recR m).f5.f0 (recR m).f5.f1 (recR m).f6 (recR m).f7 (recR m).f8 (recR q).f0 (recR q).f1 (recR q).f2 (recR q).f3 (recR q).f4 (recR q).f5.f0 (recR q).f5.f1 (recR q).f6 (recR q).f7 (recR q).f8 = some t) :
    Calls Tryd.prog 34 #[.agg #[.int .u8 m.f0, .int .u32 m.f1, .int .u32 m.f2, .slice A3 m.f3.length a3, .slice A4 m.f4.length a4, .int .i64 m.f5, .int .i64 m.f6, .slice A9 m.f7.length a9], .agg #[.int .u8 q.f0, .int .u32 q.f1, .int .u32 q.f2, .slice B3 q.f3.length b3, .slice B4 q.f4.length b4, .int .i64 q.f5, .int .i64 q.f6, .slice B9 q.f7.length b9]] w fun e w' => e = .returned (.bool t) ∧ Below w.heap.size w w' := by
  have hbw : Below w.heap.size w ((w.alloc (.cells #[.int .u8 m.f0, .int .u32 m.f1, .int .u32 m.f2, .slice A3 m.f3.length a3, .slice A4 m.f4.length a4, .int .i64 m.f5, .int .i64 m.f6, .slice A9 m.f7.length a9] 51)).alloc (.cells #[.int .u8 q.f0, .int .u32 q.f1, .int .u32 q.f2, .slice B3 q.f3.length b3, .slice B4 q.f4.length b4, .int .i64 q.f5, .int .i64 q.f6, .slice B9 q.f7.length b9] 51)) := iF (iF (Below.refl _ _) _) _
  have HA := iC.mk (ha.below hbw)
  have HBB := iC.mk (hb.below hbw)
  have HX := iC.mk (show ((w.alloc (.cells #[.int .u8 m.f0, .int .u32 m.f1, .int .u32 m.f2, .slice A3 m.f3.length a3, .slice A4 m.f4.length a4, .int .i64 m.f5, .int .i64 m.f6, .slice A9 m.f7.length a9] 51)).alloc (.cells #[.int .u8 q.f0, .int .u32 q.f1, .int .u32 q.f2, .slice B3 q.f3.length b3, .slice B4 q.f4.length b4, .int .i64 q.f5, .int .i64 q.f6, .slice B9 q.f7.length b9] 51)).heap[w.heap.size]? = some (.cells #[.int .u8 m.f0, .int .u32 m.f1, .int .u32 m.f2, .slice A3 m.f3.length a3, .slice A4 m.f4.length a4, .int .i64 m.f5, .int .i64 m.f6, .slice A9 m.f7.length a9] 51 (0, 0)) from jD (iM rfl))
  have HY := iC.mk (show ((w.alloc (.cells #[.int .u8 m.f0, .int .u32 m.f1, .int .u32 m.f2, .slice A3 m.f3.length a3, .slice A4 m.f4.length a4, .int .i64 m.f5, .int .i64 m.f6, .slice A9 m.f7.length a9] 51)).alloc (.cells #[.int .u8 q.f0, .int .u32 q.f1, .int .u32 q.f2, .slice B3 q.f3.length b3, .slice B4 q.f4.length b4, .int .i64 q.f5, .int .i64 q.f6, .slice B9 q.f7.length b9] 51)).heap[w.heap.size + 1]? = some (.cells #[.int .u8 q.f0, .int .u32 q.f1, .int .u32 q.f2, .slice B3 q.f3.length b3, .slice B4 q.f4.length b4, .int .i64 q.f5, .int .i64 q.f6, .slice B9 q.f7.length b9] 51 (0, 0)) from iM (by simp))
  have HB := iC.mk hbw
  have HT := iC.mk ht
  have HK := iC.mk hk
  clear ha hb hbw ht hk
  go_enter Tryd.func34, Tryd.ntmps34
  go_wp2
  generalize ((w.alloc (.cells #[.int .u8 m.f0, .int .u32 m.f1, .int .u32 m.f2, .slice A3 m.f3.length a3, .slice A4 m.f4.length a4, .int .i64 m.f5, .int .i64 m.f6, .slice A9 m.f7.length a9] 51)).alloc (.cells #[.int .u8 q.f0, .int .u32 q.f1, .int .u32 q.f2, .slice B3 q.f3.length b3, .slice B4 q.f4.length b4, .int .i64 q.f5, .int .i64 q.f6, .slice B9 q.f7.length b9] 51)) = W at HA HBB HX HY HB ⊢
  have hkk : (m.f0 == q.f0) = true := by rw [HK.out]; simp
  refine VI [5, 6, 7, 8, 9, 10, 11, 12, 13, 14, 15, 16, 4] [fun v _ => v = (.pointer (some ⟨w.heap.size, 0, none⟩)), fun v _ => v = (.int .u8 m.f0), fun v _ => v = (.pointer (some ⟨w.heap.size + 1, 0, none⟩)), fun v _ => v = (.int .u8 q.f0), fun v _ => v = (.bool true), fun v _ => v = (.bool true), fun v _ => v = (.agg #[.int .u8 m.f0, .int .u32 m.f1, .int .u32 m.f2, .slice A3 m.f3.length a3, .slice A4 m.f4.length a4, .int .i64 m.f5, .int .i64 m.f6, .slice A9 m.f7.length a9]), fun v _ => v = (.agg #[.int .u8 (nR m.f0), .int .u32 m.f1, .int .u32 m.f2, .slice A3 m.f3.length a3, .slice A4 m.f4.length a4, .int .u32 0, .slice none 0 0, .int .i64 m.f5, .int .i64 m.f6, .slice A9 m.f7.length a9]), fun v _ => v = (.agg #[.int .u8 q.f0, .int .u32 q.f1, .int .u32 q.f2, .slice B3 q.f3.length b3, .slice B4 q.f4.length b4, .int .i64 q.f5, .int .i64 q.f6, .slice B9 q.f7.length b9]), fun v _ => v = (.agg #[.int .u8 (nR q.f0), .int .u32 q.f1, .int .u32 q.f2, .slice B3 q.f3.length b3, .slice B4 q.f4.length b4, .int .u32 0, .slice none 0 0, .int .i64 q.f5, .int .i64 q.f6, .slice B9 q.f7.length b9]), fun v _ => v = (.bool t), fun v _ => v = (.bool t), fun v _ => v = (.bool t)] [0, 1, 2, 3, 4, 5, 6, 7, 8, 9, 10, 11, 12] (true, [([], []), ([0], [0]), ([], []), ([2], [2]), ([1, 3], [1, 3]), ([4], [4]), ([5], [5]), ([6, 5, 5], [5, 6]), ([5], [5]), ([8, 7, 5], [5, 8]), ([7, 9, 9, 5], [5, 7, 9]), ([5, 10], [5, 10]), ([11, 10, 0, 1, 2, 3, 4, 5, 6, 7, 8, 9, 10, 11], [11])]) [0, 1, 0, 4, 15, 31, 63, 127, 63, 511, 1023, 2047, 4095] (by kernel_rfl) (by kernel_rfl) (by kernel_rfl) (by kernel_rfl) (by kernel_rfl) (by kernel_rfl) (by kernel_rfl) (by rfl) (by kernel_rfl) ?_ ?_ ?_
  · exact (lS (vF _) (lS (vF _) (lS (vF _) (lS (vF _) (lS (vF _) (lS (vF _) (lS (vF _) (lS (vF _) (lS (vF _) (lS (vF _) (lS (vF _) (lS (vF _) (lS (vF _) V6)))))))))))))
  · refine kF ?_ ?_
    · intro a w' vs hB hel hd
      have e2 : a.tmps[2]? = some (.pointer (some ⟨w.heap.size, 0, none⟩)) := (hel 2 (by kernel_rfl)).trans (by rfl)
      refine ⟨_, rfl, rfl, fun K hK => ?_⟩
      refine jU (w1 := w') (v := .pointer (some ⟨w.heap.size, 0, none⟩)) (by rfl) rfl ?_ (hK _ _ (by exact rfl) (Below.refl _ _))
      · go_simp
        (try simp only [iU, jX])
        (try rfl)
        (try (unfold Go.RowKit.wrap64; omega))
    refine kF ?_ ?_
    · intro a w' vs hB hel hd
      obtain ⟨f5, r5⟩ := hd 0 (by kernel_rfl)
      have e5 : a.tmps[5]? = some (.pointer (some ⟨w.heap.size, 0, none⟩)) := f5.trans (congrArg some (r5 : vs 0 = (.pointer (some ⟨w.heap.size, 0, none⟩))))
      obtain ⟨z0, z1, z2, z3, z4, z5, z6, z7, y0, y1, y2, y3, y4, y5, y6, y7⟩ := eight (iJ hB HX.out)
      refine ⟨_, rfl, rfl, fun K hK => ?_⟩
      refine jU (w1 := w') (v := .int .u8 m.f0) (by rfl) rfl ?_ (hK _ _ (by exact rfl) (Below.refl _ _))
      · go_simp
        (try simp only [iU, jX])
        (try rfl)
        (try (unfold Go.RowKit.wrap64; omega))
    refine kF ?_ ?_
    · intro a w' vs hB hel hd
      have e3 : a.tmps[3]? = some (.pointer (some ⟨w.heap.size + 1, 0, none⟩)) := (hel 3 (by kernel_rfl)).trans (by rfl)
      refine ⟨_, rfl, rfl, fun K hK => ?_⟩
      refine jU (w1 := w') (v := .pointer (some ⟨w.heap.size + 1, 0, none⟩)) (by rfl) rfl ?_ (hK _ _ (by exact rfl) (Below.refl _ _))
      · go_simp
        (try simp only [iU, jX])
        (try rfl)
        (try (unfold Go.RowKit.wrap64; omega))
    refine kF ?_ ?_
    · intro a w' vs hB hel hd
      obtain ⟨f7, r7⟩ := hd 2 (by kernel_rfl)
      have e7 : a.tmps[7]? = some (.pointer (some ⟨w.heap.size + 1, 0, none⟩)) := f7.trans (congrArg some (r7 : vs 2 = (.pointer (some ⟨w.heap.size + 1, 0, none⟩))))
      obtain ⟨z0, z1, z2, z3, z4, z5, z6, z7, y0, y1, y2, y3, y4, y5, y6, y7⟩ := eight (iJ hB HY.out)
      refine ⟨_, rfl, rfl, fun K hK => ?_⟩
      refine jU (w1 := w') (v := .int .u8 q.f0) (by rfl) rfl ?_ (hK _ _ (by exact rfl) (Below.refl _ _))
      · go_simp
        (try simp only [iU, jX])
        (try rfl)
        (try (unfold Go.RowKit.wrap64; omega))
    refine kF ?_ ?_
    · intro a w' vs hB hel hd
      obtain ⟨f6, r6⟩ := hd 1 (by kernel_rfl)
      have e6 : a.tmps[6]? = some (.int .u8 m.f0) := f6.trans (congrArg some (r6 : vs 1 = (.int .u8 m.f0)))
      obtain ⟨f8, r8⟩ := hd 3 (by kernel_rfl)
      have e8 : a.tmps[8]? = some (.int .u8 q.f0) := f8.trans (congrArg some (r8 : vs 3 = (.int .u8 q.f0)))
      refine ⟨_, rfl, rfl, fun K hK => ?_⟩
      refine jU (w1 := w') (v := .bool true) (by rfl) rfl ?_ (hK _ _ (by exact rfl) (Below.refl _ _))
      · go_simp
        (try simp only [iU, jX])
        (try rfl)
        (try (unfold Go.RowKit.wrap64; omega))
    refine kF ?_ ?_
    · intro a w' vs hB hel hd
      obtain ⟨f9, r9⟩ := hd 4 (by kernel_rfl)
      have e9 : a.tmps[9]? = some (.bool true) := f9.trans (congrArg some (r9 : vs 4 = (.bool true)))
      refine ⟨_, rfl, rfl, fun K hK => ?_⟩
      refine jU (w1 := w') (v := .bool true) (by rfl) rfl ?_ (hK _ _ (by exact rfl) (Below.refl _ _))
      · go_simp
        (try simp only [iU, jX])
        (try rfl)
        (try (unfold Go.RowKit.wrap64; omega))
    refine kF ?_ ?_
    · intro a w' vs hB hel hd
      have e2 : a.tmps[2]? = some (.pointer (some ⟨w.heap.size, 0, none⟩)) := (hel 2 (by kernel_rfl)).trans (by rfl)
      obtain ⟨f10, r10⟩ := hd 5 (by kernel_rfl)
      have e10 : a.tmps[10]? = some (.bool true) := f10.trans (congrArg some (r10 : vs 5 = (.bool true)))
      obtain ⟨z0, z1, z2, z3, z4, z5, z6, z7, y0, y1, y2, y3, y4, y5, y6, y7⟩ := eight (iJ hB HX.out)
      refine ⟨_, rfl, rfl, fun K hK => ?_⟩
      refine jU (w1 := w') (v := .agg #[.int .u8 m.f0, .int .u32 m.f1, .int .u32 m.f2, .slice A3 m.f3.length a3, .slice A4 m.f4.length a4, .int .i64 m.f5, .int .i64 m.f6, .slice A9 m.f7.length a9]) (rC rfl rfl rfl e10) rfl ?_ (hK _ _ (by exact rfl) (Below.refl _ _))
      · go_simp
        (try simp only [iU, jX])
        (try rfl)
        (try (unfold Go.RowKit.wrap64; omega))
    refine kF ?_ ?_
    · intro a w' vs hB hel hd
      obtain ⟨f11, r11⟩ := hd 6 (by kernel_rfl)
      have e11 : a.tmps[11]? = some (.agg #[.int .u8 m.f0, .int .u32 m.f1, .int .u32 m.f2, .slice A3 m.f3.length a3, .slice A4 m.f4.length a4, .int .i64 m.f5, .int .i64 m.f6, .slice A9 m.f7.length a9]) := f11.trans (congrArg some (r11 : vs 6 = (.agg #[.int .u8 m.f0, .int .u32 m.f1, .int .u32 m.f2, .slice A3 m.f3.length a3, .slice A4 m.f4.length a4, .int .i64 m.f5, .int .i64 m.f6, .slice A9 m.f7.length a9])))
      obtain ⟨f10, r10⟩ := hd 5 (by kernel_rfl)
      have e10 : a.tmps[10]? = some (.bool true) := f10.trans (congrArg some (r10 : vs 5 = (.bool true)))
      refine ⟨_, rfl, rfl, fun K hK => ?_⟩
      refine qW Tryd.func82 (by kernel_rfl) rfl #[.agg #[.int .u8 m.f0, .int .u32 m.f1, .int .u32 m.f2, .slice A3 m.f3.length a3, .slice A4 m.f4.length a4, .int .i64 m.f5, .int .i64 m.f6, .slice A9 m.f7.length a9]] (rC rfl rfl rfl e10) rfl rfl (by first | (simp only [List.map_toArray, List.map_cons, List.map_nil, Act.eval, Array.getD_eq_getD_getElem?, Option.getD_some, e11, e10]; done) | (simp only [List.map_toArray, List.map_cons, List.map_nil, Act.eval, Array.getD_eq_getD_getElem?, Option.getD_some, e11, e10]; rfl)) ?_
      refine (mO m.f0 m.f1 m.f2 m.f5 m.f6 A3 m.f3.length a3 A4 m.f4.length a4 A9 m.f7.length a9 w').mono ?_
      rintro e_ w2_ ⟨rfl, hb2_⟩
      exact ⟨_, rfl, hK _ _ (by exact rfl) hb2_⟩
    refine kF ?_ ?_
    · intro a w' vs hB hel hd
      have e3 : a.tmps[3]? = some (.pointer (some ⟨w.heap.size + 1, 0, none⟩)) := (hel 3 (by kernel_rfl)).trans (by rfl)
      obtain ⟨f10, r10⟩ := hd 5 (by kernel_rfl)
      have e10 : a.tmps[10]? = some (.bool true) := f10.trans (congrArg some (r10 : vs 5 = (.bool true)))
      obtain ⟨z0, z1, z2, z3, z4, z5, z6, z7, y0, y1, y2, y3, y4, y5, y6, y7⟩ := eight (iJ hB HY.out)
      refine ⟨_, rfl, rfl, fun K hK => ?_⟩
      refine jU (w1 := w') (v := .agg #[.int .u8 q.f0, .int .u32 q.f1, .int .u32 q.f2, .slice B3 q.f3.length b3, .slice B4 q.f4.length b4, .int .i64 q.f5, .int .i64 q.f6, .slice B9 q.f7.length b9]) (rC rfl rfl rfl e10) rfl ?_ (hK _ _ (by exact rfl) (Below.refl _ _))
      · go_simp
        (try simp only [iU, jX])
        (try rfl)
        (try (unfold Go.RowKit.wrap64; omega))
    refine kF ?_ ?_
    · intro a w' vs hB hel hd
      obtain ⟨f13, r13⟩ := hd 8 (by kernel_rfl)
      have e13 : a.tmps[13]? = some (.agg #[.int .u8 q.f0, .int .u32 q.f1, .int .u32 q.f2, .slice B3 q.f3.length b3, .slice B4 q.f4.length b4, .int .i64 q.f5, .int .i64 q.f6, .slice B9 q.f7.length b9]) := f13.trans (congrArg some (r13 : vs 8 = (.agg #[.int .u8 q.f0, .int .u32 q.f1, .int .u32 q.f2, .slice B3 q.f3.length b3, .slice B4 q.f4.length b4, .int .i64 q.f5, .int .i64 q.f6, .slice B9 q.f7.length b9])))
      obtain ⟨f10, r10⟩ := hd 5 (by kernel_rfl)
      have e10 : a.tmps[10]? = some (.bool true) := f10.trans (congrArg some (r10 : vs 5 = (.bool true)))
      refine ⟨_, rfl, rfl, fun K hK => ?_⟩
      refine qW Tryd.func82 (by kernel_rfl) rfl #[.agg #[.int .u8 q.f0, .int .u32 q.f1, .int .u32 q.f2, .slice B3 q.f3.length b3, .slice B4 q.f4.length b4, .int .i64 q.f5, .int .i64 q.f6, .slice B9 q.f7.length b9]] (rC rfl rfl rfl e10) rfl rfl (by first | (simp only [List.map_toArray, List.map_cons, List.map_nil, Act.eval, Array.getD_eq_getD_getElem?, Option.getD_some, e13, e10]; done) | (simp only [List.map_toArray, List.map_cons, List.map_nil, Act.eval, Array.getD_eq_getD_getElem?, Option.getD_some, e13, e10]; rfl)) ?_
      refine (mO q.f0 q.f1 q.f2 q.f5 q.f6 B3 q.f3.length b3 B4 q.f4.length b4 B9 q.f7.length b9 w').mono ?_
      rintro e_ w2_ ⟨rfl, hb2_⟩
      exact ⟨_, rfl, hK _ _ (by exact rfl) hb2_⟩
    refine kF ?_ ?_
    · intro a w' vs hB hel hd
      obtain ⟨f12, r12⟩ := hd 7 (by kernel_rfl)
      have e12 : a.tmps[12]? = some (.agg #[.int .u8 (nR m.f0), .int .u32 m.f1, .int .u32 m.f2, .slice A3 m.f3.length a3, .slice A4 m.f4.length a4, .int .u32 0, .slice none 0 0, .int .i64 m.f5, .int .i64 m.f6, .slice A9 m.f7.length a9]) := f12.trans (congrArg some (r12 : vs 7 = (.agg #[.int .u8 (nR m.f0), .int .u32 m.f1, .int .u32 m.f2, .slice A3 m.f3.length a3, .slice A4 m.f4.length a4, .int .u32 0, .slice none 0 0, .int .i64 m.f5, .int .i64 m.f6, .slice A9 m.f7.length a9])))
      obtain ⟨f14, r14⟩ := hd 9 (by kernel_rfl)
      have e14 : a.tmps[14]? = some (.agg #[.int .u8 (nR q.f0), .int .u32 q.f1, .int .u32 q.f2, .slice B3 q.f3.length b3, .slice B4 q.f4.length b4, .int .u32 0, .slice none 0 0, .int .i64 q.f5, .int .i64 q.f6, .slice B9 q.f7.length b9]) := f14.trans (congrArg some (r14 : vs 9 = (.agg #[.int .u8 (nR q.f0), .int .u32 q.f1, .int .u32 q.f2, .slice B3 q.f3.length b3, .slice B4 q.f4.length b4, .int .u32 0, .slice none 0 0, .int .i64 q.f5, .int .i64 q.f6, .slice B9 q.f7.length b9])))
      obtain ⟨f10, r10⟩ := hd 5 (by kernel_rfl)
      have e10 : a.tmps[10]? = some (.bool true) := f10.trans (congrArg some (r10 : vs 5 = (.bool true)))
      refine ⟨_, rfl, rfl, fun K hK => ?_⟩
      refine qW Tryd.func23 (by kernel_rfl) rfl #[.agg #[.int .u8 (nR m.f0), .int .u32 m.f1, .int .u32 m.f2, .slice A3 m.f3.length a3, .slice A4 m.f4.length a4, .int .u32 0, .slice none 0 0, .int .i64 m.f5, .int .i64 m.f6, .slice A9 m.f7.length a9], .agg #[.int .u8 (nR q.f0), .int .u32 q.f1, .int .u32 q.f2, .slice B3 q.f3.length b3, .slice B4 q.f4.length b4, .int .u32 0, .slice none 0 0, .int .i64 q.f5, .int .i64 q.f6, .slice B9 q.f7.length b9]] (rC rfl rfl rfl e10) rfl rfl (by first | (simp only [List.map_toArray, List.map_cons, List.map_nil, Act.eval, Array.getD_eq_getD_getElem?, Option.getD_some, e12, e14, e10]; done) | (simp only [List.map_toArray, List.map_cons, List.map_nil, Act.eval, Array.getD_eq_getD_getElem?, Option.getD_some, e12, e14, e10]; rfl)) ?_
      refine (QJ (HA.out.below hB).rlies (HBB.out.below hB).rlies HT.out).mono ?_
      rintro e_ w2_ ⟨rfl, hb2_⟩
      exact ⟨_, rfl, hK _ _ (by exact rfl) hb2_⟩
    refine kF ?_ ?_
    · intro a w' vs hB hel hd
      obtain ⟨f10, r10⟩ := hd 5 (by kernel_rfl)
      have e10 : a.tmps[10]? = some (.bool true) := f10.trans (congrArg some (r10 : vs 5 = (.bool true)))
      obtain ⟨f15, r15⟩ := hd 10 (by kernel_rfl)
      have e15 : a.tmps[15]? = some (.bool t) := f15.trans (congrArg some (r15 : vs 10 = (.bool t)))
      refine ⟨_, rfl, rfl, fun K hK => ?_⟩
      refine jU (w1 := w') (v := .bool t) (by rfl) rfl ?_ (hK _ _ (by exact rfl) (Below.refl _ _))
      · go_simp
        (try simp only [iU, jX])
        (try rfl)
        (try (unfold Go.RowKit.wrap64; omega))
    refine kF ?_ ?_
    · intro a w' vs hB hel hd
      obtain ⟨f16, r16⟩ := hd 11 (by kernel_rfl)
      have e16 : a.tmps[16]? = some (.bool t) := f16.trans (congrArg some (r16 : vs 11 = (.bool t)))
      refine ⟨_, rfl, rfl, fun K hK => ?_⟩
      refine jU (w1 := w') (v := .bool t) (by rfl) rfl ?_ (hK _ _ (by exact rfl) (Below.refl _ _))
      · go_simp
        (try simp only [iU, jX])
        (try rfl)
        (try (unfold Go.RowKit.wrap64; omega))
    exact OG
  · intro vs w' hB hR
    have hv0_ : vs 0 = (.pointer (some ⟨w.heap.size, 0, none⟩)) := hR 0 (by kernel_rfl)
    have hv1_ : vs 1 = (.int .u8 m.f0) := hR 1 (by kernel_rfl)
    have hv2_ : vs 2 = (.pointer (some ⟨w.heap.size + 1, 0, none⟩)) := hR 2 (by kernel_rfl)
    have hv3_ : vs 3 = (.int .u8 q.f0) := hR 3 (by kernel_rfl)
    have hv4_ : vs 4 = (.bool true) := hR 4 (by kernel_rfl)
    have hv5_ : vs 5 = (.bool true) := hR 5 (by kernel_rfl)
    have hv6_ : vs 6 = (.agg #[.int .u8 m.f0, .int .u32 m.f1, .int .u32 m.f2, .slice A3 m.f3.length a3, .slice A4 m.f4.length a4, .int .i64 m.f5, .int .i64 m.f6, .slice A9 m.f7.length a9]) := hR 6 (by kernel_rfl)
    have hv7_ : vs 7 = (.agg #[.int .u8 (nR m.f0), .int .u32 m.f1, .int .u32 m.f2, .slice A3 m.f3.length a3, .slice A4 m.f4.length a4, .int .u32 0, .slice none 0 0, .int .i64 m.f5, .int .i64 m.f6, .slice A9 m.f7.length a9]) := hR 7 (by kernel_rfl)
    have hv8_ : vs 8 = (.agg #[.int .u8 q.f0, .int .u32 q.f1, .int .u32 q.f2, .slice B3 q.f3.length b3, .slice B4 q.f4.length b4, .int .i64 q.f5, .int .i64 q.f6, .slice B9 q.f7.length b9]) := hR 8 (by kernel_rfl)
    have hv9_ : vs 9 = (.agg #[.int .u8 (nR q.f0), .int .u32 q.f1, .int .u32 q.f2, .slice B3 q.f3.length b3, .slice B4 q.f4.length b4, .int .u32 0, .slice none 0 0, .int .i64 q.f5, .int .i64 q.f6, .slice B9 q.f7.length b9]) := hR 9 (by kernel_rfl)
    have hv10_ : vs 10 = (.bool t) := hR 10 (by kernel_rfl)
    have hv11_ : vs 11 = (.bool t) := hR 11 (by kernel_rfl)
    have hv12_ : vs 12 = (.bool t) := hR 12 (by kernel_rfl)
    rw [show entries [5, 6, 7, 8, 9, 10, 11, 12, 13, 14, 15, 16, 4] vs = [(0, 5, vs 0), (1, 6, vs 1), (2, 7, vs 2), (3, 8, vs 3), (4, 9, vs 4), (5, 10, vs 5), (6, 11, vs 6), (7, 12, vs 7), (8, 13, vs 8), (9, 14, vs 9), (10, 15, vs 10), (11, 16, vs 11), (12, 4, vs 12)] from rfl]
    simp only [jV, if_true, Act.put, List.setIfInBounds_toArray, List.set_cons_zero, List.set_cons_succ, hv0_, hv1_, hv2_, hv3_, hv4_, hv5_, hv6_, hv7_, hv8_, hv9_, hv10_, hv11_, hv12_]
    clear hR hv0_ hv1_ hv2_ hv3_ hv4_ hv5_ hv6_ hv7_ hv8_ hv9_ hv10_ hv11_ hv12_
    go_wp2
    go_ret
    exact ⟨rfl, iH HB.out hB⟩
end Go.Proofs.YtgfkgppomaapiaaDoor.K
end

section
namespace Go.Proofs.YtgfkgppomaapiaaDoor.K
open RowKit YtgfkgppomaapiaaDoorW.PrintWords YtgfkgppomaapiaaDoorW.PrintLast YtgfkgppomaapiaaDoorW.PrintMore My
theorem VG (l0 : List Int) (h : ∀ x ∈ l0, 0 ≤ x ∧ x < 256) : nums (bytesOf l0) = l0 := by
  unfold nums bytesOf
  rw [List.map_map]
  conv => rhs; rw [← List.map_id l0]
  apply List.map_congr_left
  intro x hx
  have hb := h x hx
  simp only [Function.comp, id]
  rw [UInt8.toNat_ofNat']
  omega
theorem PV (l : List UInt8) : decM l = (kT, 160) ∨ ∃ m, decM l = (m, 0) ∧ encM m = (nums l, 0) ∧ 0 ≤ m.f0 ∧ m.f0 < 256 := by
  cases l with
  | nil => exact .inl rfl
  | cons k t =>
    show (if (decR t).2 = 0 then _ else _) = _ ∨ ∃ m, (if (decR t).2 = 0 then _ else _) = _ ∧ _
    by_cases h : (decR t).2 = 0
    · rw [if_pos h]
      by_cases h2 : encM (msgR k.toNat (decR t).1) = (nums (k :: t), 0)
      · rw [if_pos h2]
        have := k.toNat_lt
        exact .inr ⟨_, rfl, h2, by show (0 : Int) ≤ (k.toNat : Int); omega, by show (k.toNat : Int) < 256; omega⟩
      · rw [if_neg h2]; exact .inl rfl
    · rw [if_neg h]; exact .inl rfl
theorem RS : SLen (recR kT) := ⟨by decide, by decide, by decide, by decide⟩
theorem TN (m : SMsg) (h : SLen (recR m)) : ∃ k, stratumref07_Same.f k (recR m).f0 (recR m).f1 (recR m).f2 (recR m).f3 (recR m).f4 (recR m).f5.f0 (recR m).f5.f1 (recR m).f6 (recR m).f7 (recR m).f8 (recR m).f0 (recR m).f1 (recR m).f2 (recR m).f3 (recR m).f4 (recR m).f5.f0 (recR m).f5.f1 (recR m).f6 (recR m).f7 (recR m).f8 = some true := by
  obtain ⟨t, h1, h2⟩ := WC (recR m) (recR m) h h
  obtain ⟨k, hk⟩ := h1.rounds
  rw [h2.2 ⟨rfl, rfl, rfl, rfl, rfl, rfl, rfl, ⟨rfl, rfl⟩, rfl⟩] at hk
  exact ⟨k, hk⟩
attribute [-go_sem] Instr.build Instr.storeAt
attribute [local go_sem] IL
end Go.Proofs.YtgfkgppomaapiaaDoor.K
end

section
namespace Go.Proofs.YtgfkgppomaapiaaDoor.K
open RowKit YtgfkgppomaapiaaDoorW.PrintWords YtgfkgppomaapiaaDoorW.PrintLast YtgfkgppomaapiaaDoorW.PrintMore My
section
variable {w w' : World} {m : SMsg} {A3 A4 A9 : Option Addr} {a3 a4 a9 : Nat}
theorem pU (h : oM w m A3 a3 A4 a4 A9 a9) {S : Bool} (hS : jJ (recR m) = S) : Calls Tryd.prog 20 #[.agg #[.int .u8 (nR m.f0), .int .u32 m.f1, .int .u32 m.f2, .slice A3 m.f3.length a3, .slice A4 m.f4.length a4, .int .u32 0, .slice none 0 0, .int .i64 m.f5, .int .i64 m.f6, .slice A9 m.f7.length a9]] w fun e w' => e = .returned (.bool S) ∧ Below w.heap.size w w' :=
  MI (nR m.f0) m.f1 m.f2 A3 a3 m.f3 A4 a4 m.f4 0 none 0 [] m.f5 m.f6 A9 a9 m.f7 w h.h3 h.d3 h.h4 h.d4 (Kd.C_nil _ _) (Nat.le_refl _) h.h9 h.d9 hS
theorem J4 (h : oM w m A3 a3 A4 a4 A9 a9) {E1 : List Int} {E2 : Int} (hE : encR (recR m) = (E1, E2)) : Calls Tryd.prog 18 #[.agg #[.int .u8 (nR m.f0), .int .u32 m.f1, .int .u32 m.f2, .slice A3 m.f3.length a3, .slice A4 m.f4.length a4, .int .u32 0, .slice none 0 0, .int .i64 m.f5, .int .i64 m.f6, .slice A9 m.f7.length a9]] w (nU w (E1, E2)) := by
  rw [← hE]
  exact uV (nR m.f0) m.f1 m.f2 A3 a3 m.f3 A4 a4 m.f4 0 none 0 [] m.f5 m.f6 A9 a9 m.f7 w h.h3 h.d3 h.h4 h.d4 (Kd.C_nil _ _) (Nat.le_refl _) h.h9 h.d9
end
theorem UC (r : SRec) (h : r.f0 = 0) : jJ r = false := by unfold jJ; simp [h]
theorem yE {m : SMsg} (h : m.f0 < 1 ∨ 11 < m.f0) : lU m = false := by
  have hk : pY m.f0 = 0 := by
    rcases QE m.f0 with e | ⟨_, e2⟩ | ⟨_, e2⟩ | ⟨_, e2, e3⟩ | ⟨_, e2, e3, _⟩
    · exact e
    all_goals omega
  unfold lU
  rw [UC (recM m) hk, Bool.and_false]
theorem MB {m : SMsg} (h : 1 ≤ m.f0 ∧ m.f0 ≤ 11) : recR m = recM m := by
  unfold recR recM
  rw [VN m.f0 h]
set_option maxRecDepth 20000 in
set_option maxHeartbeats 16000000 in
theorem MC (m : SMsg) (A3 : Option Addr) (a3 : Nat) (A4 : Option Addr) (a4 : Nat) (A9 : Option Addr) (a9 : Nat) (w : World) (h : oM w m A3 a3 A4 a4 A9 a9) :
    Calls Tryd.prog 31 #[.agg #[.int .u8 m.f0, .int .u32 m.f1, .int .u32 m.f2, .slice A3 m.f3.length a3, .slice A4 m.f4.length a4, .int .i64 m.f5, .int .i64 m.f6, .slice A9 m.f7.length a9]] w fun e w' => e = .returned (.bool (lU m)) ∧ Below w.heap.size w w' := by
  have hb : Below w.heap.size w (w.alloc (.cells #[.int .u8 m.f0, .int .u32 m.f1, .int .u32 m.f2, .slice A3 m.f3.length a3, .slice A4 m.f4.length a4, .int .i64 m.f5, .int .i64 m.f6, .slice A9 m.f7.length a9] 51)) := iF (Below.refl _ _) _
  have HX := iC.mk (show (w.alloc (.cells #[.int .u8 m.f0, .int .u32 m.f1, .int .u32 m.f2, .slice A3 m.f3.length a3, .slice A4 m.f4.length a4, .int .i64 m.f5, .int .i64 m.f6, .slice A9 m.f7.length a9] 51)).heap[w.heap.size]? = some (.cells #[.int .u8 m.f0, .int .u32 m.f1, .int .u32 m.f2, .slice A3 m.f3.length a3, .slice A4 m.f4.length a4, .int .i64 m.f5, .int .i64 m.f6, .slice A9 m.f7.length a9] 51 (0, 0)) from iM rfl)
  have HL := iC.mk (h.below hb)
  have HB := iC.mk hb
  clear h hb
  obtain ⟨S, hS⟩ : ∃ S, lU m = S := ⟨_, rfl⟩
  rw [hS]
  have HS := iC.mk hS
  clear hS
  have hout := fun h => (yE (m := m) h).symm.trans HS.out
  have hpre : preM m = (!(decide (m.f0 = 4) && decide (0 < m.f3.length)) && !(decide (m.f0 = 8) && decide (0 < m.f7.length)) && !(decide (m.f0 = 9) && (!decide (m.f5 = 0) || !decide (m.f6 = 0)))) := rfl
  have bad : preM m = false → S = false := fun h => by rw [← HS.out]; exact JJ h
  have good : 1 ≤ m.f0 ∧ m.f0 ≤ 11 → preM m = true → jJ (recR m) = S := fun hr h => by rw [MB hr, ← HS.out]; exact (zV h).symm
  obtain ⟨k, i, a, l3, l4, p, q, l7⟩ := m
  simp only at HX HL hpre hout good HB ⊢
  by_cases hlo : k < 1
  · obtain rfl := hout (.inl hlo)
    clear bad good hpre hout
    (obtain ⟨z0, z1, z2, z3, z4, z5, z6, z7, y0, y1, y2, y3, y4, y5, y6, y7⟩ := eight HX.out; go_enter Tryd.func31, Tryd.ntmps31; go_wp2; go_ret; exact ⟨rfl, HB.out⟩)
  by_cases hhi : k > 11
  · obtain rfl := hout (.inr hhi)
    clear bad good hpre hout
    (obtain ⟨z0, z1, z2, z3, z4, z5, z6, z7, y0, y1, y2, y3, y4, y5, y6, y7⟩ := eight HX.out; go_enter Tryd.func31, Tryd.ntmps31; go_wp2; go_ret; exact ⟨rfl, HB.out⟩)
  have good := good ⟨by omega, by omega⟩
  clear hout
  by_cases h4 : k = 4
  · subst h4
    by_cases hl : 0 < l3.length
    · have hf := bad (by rw [hpre]; simp [hl])
      subst hf
      clear bad good hpre
      (obtain ⟨z0, z1, z2, z3, z4, z5, z6, z7, y0, y1, y2, y3, y4, y5, y6, y7⟩ := eight HX.out; go_enter Tryd.func31, Tryd.ntmps31; go_wp2; go_ret; exact ⟨rfl, HB.out⟩)
    · have hf := good (by rw [hpre]; simp [hl])
      clear bad good hpre
      have HF := iC.mk hf
      clear hf
      obtain ⟨z0, z1, z2, z3, z4, z5, z6, z7, y0, y1, y2, y3, y4, y5, y6, y7⟩ := eight HX.out
      go_enter Tryd.func31, Tryd.ntmps31
      (go_wp2_with fail; go_at_call 82; (with_reducible refine (mO _ _ _ _ _ _ _ _ _ _ _ _ _ _ _).mono ?_); rintro e w1 ⟨rfl, hb1⟩; have HB1 := iC.mk (iH HB.out hb1); have HL1 := iC.mk (HL.out.below hb1); clear hb1 z0 z1 z2 z3 z4 z5 z6 z7 y0 y1 y2 y3 y4 y5 y6 y7; go_wp2_with fail; go_at_call 20; (refine (pU HL1.out HF.out).mono ?_); rintro e w2 ⟨rfl, hb2⟩; go_wp2; go_ret; exact ⟨rfl, iH HB1.out hb2⟩)
  by_cases h8 : k = 8
  · subst h8
    by_cases hl : 0 < l7.length
    · have hf := bad (by rw [hpre]; simp [hl])
      subst hf
      clear bad good hpre
      (obtain ⟨z0, z1, z2, z3, z4, z5, z6, z7, y0, y1, y2, y3, y4, y5, y6, y7⟩ := eight HX.out; go_enter Tryd.func31, Tryd.ntmps31; go_wp2; go_ret; exact ⟨rfl, HB.out⟩)
    · have hf := good (by rw [hpre]; simp [hl])
      clear bad good hpre
      have HF := iC.mk hf
      clear hf
      obtain ⟨z0, z1, z2, z3, z4, z5, z6, z7, y0, y1, y2, y3, y4, y5, y6, y7⟩ := eight HX.out
      go_enter Tryd.func31, Tryd.ntmps31
      (go_wp2_with fail; go_at_call 82; (with_reducible refine (mO _ _ _ _ _ _ _ _ _ _ _ _ _ _ _).mono ?_); rintro e w1 ⟨rfl, hb1⟩; have HB1 := iC.mk (iH HB.out hb1); have HL1 := iC.mk (HL.out.below hb1); clear hb1 z0 z1 z2 z3 z4 z5 z6 z7 y0 y1 y2 y3 y4 y5 y6 y7; go_wp2_with fail; go_at_call 20; (refine (pU HL1.out HF.out).mono ?_); rintro e w2 ⟨rfl, hb2⟩; go_wp2; go_ret; exact ⟨rfl, iH HB1.out hb2⟩)
  by_cases h9 : k = 9
  · subst h9
    by_cases hp : p = 0
    · subst hp
      by_cases hq : q = 0
      · subst hq
        have hf := good (by rw [hpre]; simp)
        clear bad good hpre
        have HF := iC.mk hf
        clear hf
        obtain ⟨z0, z1, z2, z3, z4, z5, z6, z7, y0, y1, y2, y3, y4, y5, y6, y7⟩ := eight HX.out
        go_enter Tryd.func31, Tryd.ntmps31
        (go_wp2_with fail; go_at_call 82; (with_reducible refine (mO _ _ _ _ _ _ _ _ _ _ _ _ _ _ _).mono ?_); rintro e w1 ⟨rfl, hb1⟩; have HB1 := iC.mk (iH HB.out hb1); have HL1 := iC.mk (HL.out.below hb1); clear hb1 z0 z1 z2 z3 z4 z5 z6 z7 y0 y1 y2 y3 y4 y5 y6 y7; go_wp2_with fail; go_at_call 20; (refine (pU HL1.out HF.out).mono ?_); rintro e w2 ⟨rfl, hb2⟩; go_wp2; go_ret; exact ⟨rfl, iH HB1.out hb2⟩)
      · have hf := bad (by rw [hpre]; simp [hq])
        subst hf
        clear bad good hpre
        (obtain ⟨z0, z1, z2, z3, z4, z5, z6, z7, y0, y1, y2, y3, y4, y5, y6, y7⟩ := eight HX.out; go_enter Tryd.func31, Tryd.ntmps31; go_wp2; go_ret; exact ⟨rfl, HB.out⟩)
    · have hf := bad (by rw [hpre]; simp [hp])
      subst hf
      clear bad good hpre
      (obtain ⟨z0, z1, z2, z3, z4, z5, z6, z7, y0, y1, y2, y3, y4, y5, y6, y7⟩ := eight HX.out; go_enter Tryd.func31, Tryd.ntmps31; go_wp2; go_ret; exact ⟨rfl, HB.out⟩)
  · have hf := good (by rw [hpre]; simp [h4, h8, h9])
    clear bad good hpre
    have HF := iC.mk hf
    clear hf
    obtain ⟨z0, z1, z2, z3, z4, z5, z6, z7, y0, y1, y2, y3, y4, y5, y6, y7⟩ := eight HX.out
    go_enter Tryd.func31, Tryd.ntmps31
    (go_wp2_with fail; go_at_call 82; (with_reducible refine (mO _ _ _ _ _ _ _ _ _ _ _ _ _ _ _).mono ?_); rintro e w1 ⟨rfl, hb1⟩; have HB1 := iC.mk (iH HB.out hb1); have HL1 := iC.mk (HL.out.below hb1); clear hb1 z0 z1 z2 z3 z4 z5 z6 z7 y0 y1 y2 y3 y4 y5 y6 y7; go_wp2_with fail; go_at_call 20; (refine (pU HL1.out HF.out).mono ?_); rintro e w2 ⟨rfl, hb2⟩; go_wp2; go_ret; exact ⟨rfl, iH HB1.out hb2⟩)
end Go.Proofs.YtgfkgppomaapiaaDoor.K
end

section
namespace Go.Proofs.YtgfkgppomaapiaaDoor.K
open RowKit YtgfkgppomaapiaaDoorW.PrintWords YtgfkgppomaapiaaDoorW.PrintLast YtgfkgppomaapiaaDoorW.PrintMore My
section
attribute [-go_sem] Instr.build Instr.storeAt
attribute [local go_sem] RX
end
set_option maxRecDepth 20000 in
set_option maxHeartbeats 8000000 in
theorem IY (m : SMsg) (A3 : Option Addr) (a3 : Nat) (A4 : Option Addr) (a4 : Nat) (A9 : Option Addr) (a9 : Nat) (w : World) (h : oM w m A3 a3 A4 a4 A9 a9) {E1 : List Int} {E2 : Int} (hE : encM m = (E1, E2)) :
    Calls Tryd.prog 29 #[.agg #[.int .u8 m.f0, .int .u32 m.f1, .int .u32 m.f2, .slice A3 m.f3.length a3, .slice A4 m.f4.length a4, .int .i64 m.f5, .int .i64 m.f6, .slice A9 m.f7.length a9]] w (nU w (E1, E2)) := by
  have hb : Below w.heap.size w (w.alloc (.cells #[.int .u8 m.f0, .int .u32 m.f1, .int .u32 m.f2, .slice A3 m.f3.length a3, .slice A4 m.f4.length a4, .int .i64 m.f5, .int .i64 m.f6, .slice A9 m.f7.length a9] 51)) := iF (Below.refl _ _) _
  have HX := iC.mk (show (w.alloc (.cells #[.int .u8 m.f0, .int .u32 m.f1, .int .u32 m.f2, .slice A3 m.f3.length a3, .slice A4 m.f4.length a4, .int .i64 m.f5, .int .i64 m.f6, .slice A9 m.f7.length a9] 51)).heap[w.heap.size]? = some (.cells #[.int .u8 m.f0, .int .u32 m.f1, .int .u32 m.f2, .slice A3 m.f3.length a3, .slice A4 m.f4.length a4, .int .i64 m.f5, .int .i64 m.f6, .slice A9 m.f7.length a9] 51 (0, 0)) from iM rfl)
  have HL := iC.mk (h.below hb)
  have HB := iC.mk hb
  have hsound := MC m A3 a3 A4 a4 A9 a9 _ HL.out
  have HE := iC.mk hE
  clear h hb hE
  obtain ⟨z0, z1, z2, z3, z4, z5, z6, z7, y0, y1, y2, y3, y4, y5, y6, y7⟩ := eight HX.out
  by_cases hs : lU m = true
  · rw [hs] at hsound
    have hrange : 1 ≤ m.f0 ∧ m.f0 ≤ 11 := by
      by_cases hq : m.f0 < 1 ∨ 11 < m.f0
      · rw [yE hq] at hs; cases hs
      · omega
    have HS := iC.mk hs
    have HRG := iC.mk hrange
    clear hs hrange
    go_enter Tryd.func29, Tryd.ntmps29
    go_wp2_with fail
    go_at_call 31
    refine hsound.mono ?_
    rintro e w1 ⟨rfl, hb1⟩
    have HX1 := iC.mk (iJ hb1 HX.out)
    have HL1 := iC.mk (HL.out.below hb1)
    have HB1 := iC.mk (iH HB.out hb1)
    clear hsound hb1 z0 z1 z2 z3 z4 z5 z6 z7 y0 y1 y2 y3 y4 y5 y6 y7
    obtain ⟨z0, z1, z2, z3, z4, z5, z6, z7, y0, y1, y2, y3, y4, y5, y6, y7⟩ := eight HX1.out
    go_wp2_with fail
    go_at_call 82
    (with_reducible refine (mO _ _ _ _ _ _ _ _ _ _ _ _ _ _ _).mono ?_)
    rintro e w2 ⟨rfl, hb2⟩
    have HX2 := iC.mk (iJ hb2 HX1.out)
    have HL2 := iC.mk (HL1.out.below hb2)
    have HB2 := iC.mk (iH HB1.out hb2)
    clear hb2 z0 z1 z2 z3 z4 z5 z6 z7 y0 y1 y2 y3 y4 y5 y6 y7
    obtain ⟨⟨F1, F2⟩, hF⟩ : ∃ F : List Int × Int, encR (recM m) = F := ⟨_, rfl⟩
    have hEF : encM m = if F2 = 0 then (m.f0 :: F1, 0) else ([], F2) := by unfold encM; rw [if_pos HS.out, hF]
    rw [HE.out] at hEF
    have hcases := oU (recM m)
    have hsb : jJ (recM m) = true := by have := HS.out; unfold lU at this; simp only [Bool.and_eq_true] at this; exact this.2
    rw [hF] at hcases
    have hlen : F2 = 0 → F1.length ≤ 60000 := fun hz => by
      have hF' := hF
      unfold encR at hF'
      rw [if_pos hsb] at hF'
      split at hF'
      · injection hF' with _ h2; rw [← h2] at hz; cases hz
      · injection hF' with h1 _; rw [← h1, jC]; omega
    have hcall := J4 HL2.out (show encR (recR m) = (F1, F2) from by rw [MB HRG.out]; exact hF)
    have HEF := iC.mk hEF
    have HCS := iC.mk hcases
    have HLN := iC.mk hlen
    clear hF hsb hEF hcases hlen
    go_wp2_with fail
    go_at_call 18
    refine hcall.mono ?_
    rintro e w3 ⟨v0, rfl, h0, hb3⟩
    have h0 : Kd.R (Kd.int .u8) 5 w3 w2.heap.size (fun _ => True) v0 F1 := h0
    dsimp only
    have HX3 := iC.mk (iJ hb3 HX2.out)
    have HB3 := iC.mk (iH HB2.out hb3)
    obtain ⟨A0, c0, rfl⟩ := Kd.R_slice h0
    obtain ⟨_, q0, C0⟩ := Kd.R_reads' h0
    have hEF := HEF.out
    have hcases := HCS.out
    have hlen := HLN.out
    clear hcall hb3 h0 HEF HCS HLN
    rcases hcases with hc | hc | hc
    · obtain ⟨rfl, rfl⟩ := Prod.mk.inj hc
      rw [if_neg (by decide)] at hEF
      obtain ⟨rfl, rfl⟩ := Prod.mk.inj hEF
      clear hEF hc hlen C0 q0
      go_wp2
      go_ret2
      exact ⟨_, rfl, Kd.R_nil _ _ _ _ _, HB3.out⟩
    · obtain ⟨rfl, rfl⟩ := Prod.mk.inj hc
      rw [if_neg (by decide)] at hEF
      obtain ⟨rfl, rfl⟩ := Prod.mk.inj hEF
      clear hEF hc hlen C0 q0
      go_wp2
      go_ret2
      exact ⟨_, rfl, Kd.R_nil _ _ _ _ _, HB3.out⟩
    · obtain ⟨hf1, rfl⟩ := Prod.mk.inj hc
      have hlen := hlen rfl
      clear hf1 hc
      rw [if_pos rfl] at hEF
      obtain ⟨rfl, rfl⟩ := Prod.mk.inj hEF
      clear hEF
      obtain ⟨z0, z1, z2, z3, z4, z5, z6, z7, y0, y1, y2, y3, y4, y5, y6, y7⟩ := eight HX3.out
      have HO := iC.mk (Kd.R_mono (ok' := fun _ => True) (JU w3 w.heap.size m.f0 w.heap.size HB3.out.size (jE HX3.out)) (fun _ _ => trivial))
      have hb4 := iF HB3.out (.cells #[.int .u8 m.f0] 5)
      have HC := iC.mk (Kd.C_below C0 (iF (Below.refl w3.heap.size w3) (.cells #[.int .u8 m.f0] 5)))
      have HB4 := iC.mk hb4
      clear C0 q0 hb4
      go_wp2_with (at_builtin; refine Kd.R_append_rows (Kd.int .u8) (w0 := w) w.heap.size rfl (.tmp 22) (.tmp 23) 33 5 (.int .u8 0) 1 rfl Tryd.underlying33 I8 rfl (by decide) (by omega) (.slice (some ⟨w3.heap.size, 0, none⟩) 1 1) [m.f0] F1 _ _ _ (fun _ => True) (fun _ => False) rfl rfl HO.out HC.out (fun _ _ h => h) (fun _ h => h.elim) (fun _ _ => trivial) HB4.out HB4.out.size ?aL ?_; (case aL => (simp only [List.length_cons, List.length_nil]; omega)); intro v1 w5 HO5 HB5 hg hat)
      go_ret2
      exact ⟨_, rfl, HO5, HB5⟩
  · have hs : lU m = false := by simpa using hs
    rw [hs] at hsound
    have hEF : encM m = ([], 1) := by unfold encM; rw [hs, if_neg (by decide)]
    rw [HE.out] at hEF
    obtain ⟨rfl, rfl⟩ := Prod.mk.inj hEF
    clear hs hEF
    go_enter Tryd.func29, Tryd.ntmps29
    go_wp2_with fail
    go_at_call 31
    refine hsound.mono ?_
    rintro e w1 ⟨rfl, hb1⟩
    clear hsound
    go_wp2
    go_ret2
    exact ⟨_, rfl, Kd.R_nil _ _ _ _ _, iH HB.out hb1⟩
end Go.Proofs.YtgfkgppomaapiaaDoor.K
end
