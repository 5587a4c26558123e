/- Parts of the proof, one behind the other: RefO, RefQ, WalV, WalC, RecOk, WalP, WalD, WalE, WalH, WalW, Self, SameS, WalG, WalX. -/
import Derived.Test.YtgfkgppomaapiaaGreatDoorQWalOpens7
import Derived.Deep.MidRow
set_option linter.unusedVariables false
set_option linter.unusedSimpArgs false
section
namespace Go.Proofs.YtgfkgppomaapiaaGreatDoor.K
open RowKit YtgfkgppomaapiaaGreatDoorW.PrintWords YtgfkgppomaapiaaGreatDoorW.PrintLast YtgfkgppomaapiaaGreatDoorW.PrintMore My
theorem lU {s : Nat} {l r : List UInt8} {m : Nat} (h : number s l = some (m, r)) : intP s l = some ((m : Int), r) := by unfold intP; rw [h]; rfl
theorem nJ {s : Nat} {l : List UInt8} (h : number s l = none) : intP s l = none := by unfold intP; rw [h]; rfl
attribute [-go_sem] Instr.build Instr.storeAt
attribute [local go_sem] QW ZY jg_
set_option maxRecDepth 20000 in
set_option maxHeartbeats 16000000 in
theorem YK (g : Nat) (l : List UInt8) (w0 w : World) (h : RB w0 w g l false) (hb : Below w0.heap.size w0 w) (hg : w0.heap.size ≤ g) (hm : (l.length : Int) ≤ 100000) :
  Calls Tryz.prog 54 #[.pointer (some ⟨g, 0, none⟩)] w (jb4 l w0 w g) := by
 have hlt := h.lt
 have h00 : w0.heap.size ≤ w.heap.size := hb.size
 have h0s := nC.start h hb hg
 have hst0 := fun (_ : True) => nZ (a := 0) (k := 0) (i := 0) (x3 := .slice none 0 0) (x4 := .slice none 0 0) (j := 0) (x6 := .slice none 0 0) (p := 0) (q := 0) (x9 := .slice none 0 0) h0s.xb rfl rfl rfl rfl
 have H1 := iC.mk (h0s.set (x' := ⟨0, 0, 0, [], [], ⟨0, []⟩, 0, 0, []⟩) h00 hlt h0s.r3 h0s.r4 h0s.r6 h0s.r9)
 clear h hb h0s
 go_enter Tryz.func54, Tryz.ntmps54
 go_upto_region 2 with fail
 obtain ⟨W1, hW1⟩ : ∃ W1, W1 = ((w.alloc (.cells #[.int .u8 0, .int .u32 0, .int .u32 0, .slice none 0 0, .slice none 0 0, .int .u32 0, .slice none 0 0, .int .i64 0, .int .i64 0, .slice none 0 0] 54)).alloc (.cells #[.int .u8 0, .int .u32 0, .int .u32 0, .slice none 0 0, .slice none 0 0, .int .u32 0, .slice none 0 0, .int .i64 0, .int .i64 0, .slice none 0 0] 54)).setRow (w.heap.size + 1) #[.int .u8 0, .int .u32 0, .int .u32 0, .slice none 0 0, .slice none 0 0, .int .u32 0, .slice none 0 0, .int .i64 0, .int .i64 0, .slice none 0 0] := ⟨_, rfl⟩
 have H1 := iC.mk (show nC w0 w W1 g ⟨0, 0, 0, [], [], ⟨0, []⟩, 0, 0, []⟩ none 0 none 0 none 0 none 0 l false from by rw [hW1]; exact H1.out)
 rw [← hW1]
 clear hW1 hst0
 have hcall := get_any 1 1 rfl (by omega) g l false w0 W1 H1.out.rb H1.out.bl
 go_wp2_with fail
 go_at_call 84
 refine hcall.mono ?_
 rintro e w2 ⟨m1, r1, b1, rfl, hR, hG, hlen, hst⟩
 have H2 := iC.mk (H1.out.step hg hlt hG hR)
 have hm1 : (m1 : Int) < 256 := by have h8 := hlen.2; omega
 have hw1 : IntKind.u8.wrap (m1 : Int) = (m1 : Int) := by rw [show IntKind.u8.wrap (m1 : Int) = (m1 : Int) % 256 by simp [IntKind.wrap, IntKind.bits, IntKind.signed]]; omega
 have HL1 := iC.mk hlen.1
 have HS1 := iC.mk hst
 have hst1 := fun (_ : True) => ji1 (m1 : Int) H2.out.xb
 have H3 := iC.mk (H2.out.set (x' := ⟨(m1 : Int), 0, 0, [], [], ⟨0, []⟩, 0, 0, []⟩) h00 hlt H2.out.r3 H2.out.r4 H2.out.r6 H2.out.r9)
 clear hcall hR hG hlen hst H1
 go_upto_region 3 with fail
 obtain ⟨W3, hW3⟩ : ∃ W3, W3 = w2.setRow (w.heap.size + 1) #[.int .u8 (m1 : Int), .int .u32 0, .int .u32 0, .slice none 0 0, .slice none 0 0, .int .u32 0, .slice none 0 0, .int .i64 0, .int .i64 0, .slice none 0 0] := ⟨_, rfl⟩
 have H3 := iC.mk (show nC w0 w W3 g ⟨(m1 : Int), 0, 0, [], [], ⟨0, []⟩, 0, 0, []⟩ none 0 none 0 none 0 none 0 r1 b1 from by rw [hW3]; exact H3.out)
 rw [← hW3]
 clear hW3 hst1 hw1 H2
 have hcall := get_any 4 4 rfl (by omega) g r1 b1 w0 W3 H3.out.rb H3.out.bl
 go_wp2_with fail
 go_at_call 84
 refine hcall.mono ?_
 rintro e w4 ⟨m2, r2, b2, rfl, hR, hG, hlen, hst⟩
 have H4 := iC.mk (H3.out.step hg hlt hG hR)
 have hm2 : (m2 : Int) < 4294967296 := by have h8 := hlen.2; rw [show (256 : Nat) ^ 4 = 4294967296 from by decide] at h8; omega
 have hw2 : IntKind.u32.wrap (m2 : Int) = (m2 : Int) := by rw [show IntKind.u32.wrap (m2 : Int) = (m2 : Int) % 4294967296 by simp [IntKind.wrap, IntKind.bits, IntKind.signed]]; omega
 have HL2 := iC.mk hlen.1
 have HS2 := iC.mk hst
 have hst2 := fun (_ : True) => ji6 (m2 : Int) H4.out.xb
 have H5 := iC.mk (H4.out.set (x' := ⟨(m1 : Int), (m2 : Int), 0, [], [], ⟨0, []⟩, 0, 0, []⟩) h00 hlt H4.out.r3 H4.out.r4 H4.out.r6 H4.out.r9)
 clear hcall hR hG hlen hst H3
 go_upto_region 4 with fail
 obtain ⟨W5, hW5⟩ : ∃ W5, W5 = w4.setRow (w.heap.size + 1) #[.int .u8 (m1 : Int), .int .u32 (m2 : Int), .int .u32 0, .slice none 0 0, .slice none 0 0, .int .u32 0, .slice none 0 0, .int .i64 0, .int .i64 0, .slice none 0 0] := ⟨_, rfl⟩
 have H5 := iC.mk (show nC w0 w W5 g ⟨(m1 : Int), (m2 : Int), 0, [], [], ⟨0, []⟩, 0, 0, []⟩ none 0 none 0 none 0 none 0 r2 b2 from by rw [hW5]; exact H5.out)
 rw [← hW5]
 clear hW5 hst2 hw2 H4
 have HST := iC.mk (show (b2 = false → recP l = oK (m1 : Int) (m2 : Int) r2) ∧ (b2 = true → recP l = none) from by
  refine ⟨fun e => ?_, fun e => ?_⟩
  ·obtain ⟨e1, e2⟩ := HS2.out.1 e
   exact NJ (lU (HS1.out.1 e1).2) (lU e2)
  ·rcases HS2.out.2 e with e1 | e1
   ·rcases HS1.out.2 e1 with e2 | e2
    ·cases e2
    ·exact xK (nJ e2)
   ·cases b1 with
    | true =>
     rcases HS1.out.2 rfl with e2 | e2
     ·cases e2
     ·exact xK (nJ e2)
    | false => exact IP (lU (HS1.out.1 rfl).2) (nJ e1))
 have HR2 := iC.mk (show r2.length ≤ l.length from Nat.le_trans HL2.out HL1.out)
 clear HS1 HS2 HL1 HL2
 obtain ⟨xz0, xz1, xz2, xz3, xz4, xz5, xz6, xz7, xz8, xz9, xy0, xy1, xy2, xy3, xy4, xy5, xy6, xy7, xy8, xy9⟩ := ten H5.out.xb
 by_cases h1 : (m1 : Int) = 1
 ·obtain rfl : m1 = 1 := by omega
  clear xy0 xy1 xy2 xy3 xy4 xy5 xy6 xy7 xy8 xy9 hm1 hm2 h1
  go_upto_region 5 with fail
  go_upto_region 6 with fail
  have hcall := JB g r2 b2 w0 W5 H5.out.rb H5.out.bl hg (by have := HR2.out; omega)
  go_wp2_with fail
  go_at_call 85
  refine hcall.mono ?_
  rintro e w6 hq
  obtain ⟨hG, ns, v, r3, b3, rfl, hv, hR, hlen, hst⟩ := RP.split hq
  have hv : Kd.R (Kd.int .i64) 3 w6 W5.heap.size (fun _ => True) v ns := hv
  obtain ⟨A3, a3, rfl⟩ := Kd.R_slice hv
  have H6 := iC.mk (H5.out.step hg hlt hG hR)
  have hst6 := fun (_ : True) => st_3 A3 ns.length a3 H6.out.xb
  have H7 := iC.mk (H6.out.set (x' := ⟨1, (m2 : Int), 0, ns, [], ⟨0, []⟩, 0, 0, []⟩) h00 hlt (Kd.R_lower hv H5.out.size) H6.out.r4 H6.out.r6 H6.out.r9)
  have HR3 := iC.mk (show r3.length ≤ l.length from Nat.le_trans hlen HR2.out)
  have HS3 := iC.mk hst
  clear hcall hq hG hv hR hlen hst xz0 xz1 xz2 xz3 xz4 xz5 xz6 xz7 xz8 xz9
  go_upto_region 7 with fail
  obtain ⟨W7, hW7⟩ : ∃ W7, W7 = w6.setRow (w.heap.size + 1) #[.int .u8 1, .int .u32 (m2 : Int), .int .u32 0, .slice A3 ns.length a3, .slice none 0 0, .int .u32 0, .slice none 0 0, .int .i64 0, .int .i64 0, .slice none 0 0] := ⟨_, rfl⟩
  have H7 := iC.mk (show nC w0 w W7 g ⟨1, (m2 : Int), 0, ns, [], ⟨0, []⟩, 0, 0, []⟩ A3 a3 none 0 none 0 none 0 r3 b3 from by rw [hW7]; exact H7.out)
  rw [← hW7]
  clear hW7 hst6 H6
  have hcall := IM g r3 b3 w0 W7 H7.out.rb H7.out.bl hg (by have := HR3.out; omega)
  go_wp2_with fail
  go_at_call 86
  refine hcall.mono ?_
  rintro e w8 hq
  obtain ⟨hG, fs, v, r4, b4, rfl, hv, hR, hlen, hst⟩ := RP.split hq
  have hv : Kd.R k149 149 w8 W7.heap.size (fun _ => True) v fs := hv
  obtain ⟨A4, a4, rfl⟩ := Kd.R_slice hv
  have H8 := iC.mk (H7.out.step hg hlt hG hR)
  have hst8 := fun (_ : True) => st_4 A4 fs.length a4 H8.out.xb
  have H9 := iC.mk (H8.out.set (x' := ⟨1, (m2 : Int), 0, ns, fs, ⟨0, []⟩, 0, 0, []⟩) h00 hlt H8.out.r3 (Kd.R_lower hv H7.out.size) H8.out.r6 H8.out.r9)
  have HS4 := iC.mk hst
  clear hcall hq hG hv hR hlen hst
  go_upto_region 25 with fail
  obtain ⟨W9, hW9⟩ : ∃ W9, W9 = w8.setRow (w.heap.size + 1) #[.int .u8 1, .int .u32 (m2 : Int), .int .u32 0, .slice A3 ns.length a3, .slice A4 fs.length a4, .int .u32 0, .slice none 0 0, .int .i64 0, .int .i64 0, .slice none 0 0] := ⟨_, rfl⟩
  have H9 := iC.mk (show nC w0 w W9 g ⟨1, (m2 : Int), 0, ns, fs, ⟨0, []⟩, 0, 0, []⟩ A3 a3 A4 a4 none 0 none 0 r4 b4 from by rw [hW9]; exact H9.out)
  rw [← hW9]
  clear hW9 hst8 H8
  obtain ⟨wz0, wz1, wz2, wz3, wz4, wz5, wz6, wz7, wz8, wz9, wy0, wy1, wy2, wy3, wy4, wy5, wy6, wy7, wy8, wy9⟩ := ten (H9.out.xb)
  clear wy0 wy1 wy2 wy3 wy4 wy5 wy6 wy7 wy8 wy9
  have hstz := fun (_ : True) => nZ (a := 1) (k := (m2 : Int)) (i := 0) (x3 := .slice A3 ns.length a3) (x4 := .slice A4 fs.length a4) (j := 0) (x6 := .slice none 0 0) (p := 0) (q := 0) (x9 := .slice none 0 0) H9.out.zb rfl rfl rfl rfl
  go_wp2
  ((try simp only [Exit.inBlock, Exit.then]); refine bodyPost_ret (vO rfl rfl (setRow_heap _ _ _ _ _ _ H9.out.zb) rfl) rfl ?_)
  obtain ⟨hl, hr, hgr⟩ := H9.out.fin hlt #[.int .u8 (⟨1, (m2 : Int), 0, ns, fs, ⟨0, []⟩, 0, 0, []⟩ : SRec).f0, .int .u32 (⟨1, (m2 : Int), 0, ns, fs, ⟨0, []⟩, 0, 0, []⟩ : SRec).f1, .int .u32 (⟨1, (m2 : Int), 0, ns, fs, ⟨0, []⟩, 0, 0, []⟩ : SRec).f2, .slice A3 (⟨1, (m2 : Int), 0, ns, fs, ⟨0, []⟩, 0, 0, []⟩ : SRec).f3.length a3, .slice A4 (⟨1, (m2 : Int), 0, ns, fs, ⟨0, []⟩, 0, 0, []⟩ : SRec).f4.length a4, .int .u32 (⟨1, (m2 : Int), 0, ns, fs, ⟨0, []⟩, 0, 0, []⟩ : SRec).f5.f0, .slice none (⟨1, (m2 : Int), 0, ns, fs, ⟨0, []⟩, 0, 0, []⟩ : SRec).f5.f1.length 0, .int .i64 (⟨1, (m2 : Int), 0, ns, fs, ⟨0, []⟩, 0, 0, []⟩ : SRec).f6, .int .i64 (⟨1, (m2 : Int), 0, ns, fs, ⟨0, []⟩, 0, 0, []⟩ : SRec).f7, .slice none (⟨1, (m2 : Int), 0, ns, fs, ⟨0, []⟩, 0, 0, []⟩ : SRec).f8.length 0]
  refine ⟨⟨1, (m2 : Int), 0, ns, fs, ⟨0, []⟩, 0, 0, []⟩, A3, a3, A4, a4, none, 0, none, 0, r4, b4, rfl, hl, hr, hgr, fun e => ?_, fun e => ?_⟩
  ·obtain ⟨e1, e2⟩ := HS4.out.1 e
   obtain ⟨e3, e4⟩ := HS3.out.1 e1
   rw [HST.out.1 e3]
   unfold oK
   rw [if_pos (by rfl), e4]
   simp only [Option.bind_some]
   rw [e2]
   rfl
  ·cases b2 with
   | true => exact HST.out.2 rfl
   | false =>
    rw [HST.out.1 rfl]
    unfold oK
    rw [if_pos (by rfl)]
    cases b3 with
    | true =>
     rcases HS3.out.2 rfl with e1 | e1
     ·cases e1
     ·rw [e1]; rfl
    | false =>
     rw [(HS3.out.1 rfl).2]
     simp only [Option.bind_some]
     rcases HS4.out.2 e with e1 | e1
     ·cases e1
     ·rw [e1]; rfl
 by_cases h2 : (m1 : Int) = 2
 ·obtain rfl : m1 = 2 := by omega
  clear xy0 xy1 xy2 xy3 xy4 xy5 xy6 xy7 xy8 xy9 hm1 hm2 h1 h2
  go_upto_region 5 with fail
  go_upto_region 8 with fail
  go_upto_region 9 with fail
  have hcall := get_any 4 4 rfl (by omega) g r2 b2 w0 W5 H5.out.rb H5.out.bl
  go_wp2_with fail
  go_at_call 84
  refine hcall.mono ?_
  rintro e w6 ⟨m3, r3, b3, rfl, hR, hG, hlen, hst⟩
  have H6 := iC.mk (H5.out.step hg hlt hG hR)
  have hm3 : (m3 : Int) < 4294967296 := by have h8 := hlen.2; rw [show (256 : Nat) ^ 4 = 4294967296 from by decide] at h8; omega
  have hw3 : IntKind.u32.wrap (m3 : Int) = (m3 : Int) := by rw [show IntKind.u32.wrap (m3 : Int) = (m3 : Int) % 4294967296 by simp [IntKind.wrap, IntKind.bits, IntKind.signed]]; omega
  have hst6 := fun (_ : True) => st_2 (m3 : Int) H6.out.xb
  have H7 := iC.mk (H6.out.set (x' := ⟨2, (m2 : Int), (m3 : Int), [], [], ⟨0, []⟩, 0, 0, []⟩) h00 hlt H6.out.r3 H6.out.r4 H6.out.r6 H6.out.r9)
  have HR3 := iC.mk (show r3.length ≤ l.length from Nat.le_trans hlen.1 HR2.out)
  have HS3 := iC.mk hst
  clear hcall hG hR hlen hst xz0 xz1 xz2 xz3 xz4 xz5 xz6 xz7 xz8 xz9
  go_upto_region 10 with fail
  obtain ⟨W7, hW7⟩ : ∃ W7, W7 = w6.setRow (w.heap.size + 1) #[.int .u8 2, .int .u32 (m2 : Int), .int .u32 (m3 : Int), .slice none 0 0, .slice none 0 0, .int .u32 0, .slice none 0 0, .int .i64 0, .int .i64 0, .slice none 0 0] := ⟨_, rfl⟩
  have H7 := iC.mk (show nC w0 w W7 g ⟨2, (m2 : Int), (m3 : Int), [], [], ⟨0, []⟩, 0, 0, []⟩ none 0 none 0 none 0 none 0 r3 b3 from by rw [hW7]; exact H7.out)
  rw [← hW7]
  clear hW7 hst6 H6 hw3 hm3
  have hcall := JB g r3 b3 w0 W7 H7.out.rb H7.out.bl hg (by have := HR3.out; omega)
  go_wp2_with fail
  go_at_call 85
  refine hcall.mono ?_
  rintro e w8 hq
  obtain ⟨hG, ns, v, r4, b4, rfl, hv, hR, hlen, hst⟩ := RP.split hq
  have hv : Kd.R (Kd.int .i64) 3 w8 W7.heap.size (fun _ => True) v ns := hv
  obtain ⟨A3, a3, rfl⟩ := Kd.R_slice hv
  have H8 := iC.mk (H7.out.step hg hlt hG hR)
  have hst8 := fun (_ : True) => st_3 A3 ns.length a3 H8.out.xb
  have H9 := iC.mk (H8.out.set (x' := ⟨2, (m2 : Int), (m3 : Int), ns, [], ⟨0, []⟩, 0, 0, []⟩) h00 hlt (Kd.R_lower hv H7.out.size) H8.out.r4 H8.out.r6 H8.out.r9)
  have HS4 := iC.mk hst
  clear hcall hq hG hv hR hlen hst
  go_upto_region 25 with fail
  obtain ⟨W9, hW9⟩ : ∃ W9, W9 = w8.setRow (w.heap.size + 1) #[.int .u8 2, .int .u32 (m2 : Int), .int .u32 (m3 : Int), .slice A3 ns.length a3, .slice none 0 0, .int .u32 0, .slice none 0 0, .int .i64 0, .int .i64 0, .slice none 0 0] := ⟨_, rfl⟩
  have H9 := iC.mk (show nC w0 w W9 g ⟨2, (m2 : Int), (m3 : Int), ns, [], ⟨0, []⟩, 0, 0, []⟩ A3 a3 none 0 none 0 none 0 r4 b4 from by rw [hW9]; exact H9.out)
  rw [← hW9]
  clear hW9 hst8 H8
  obtain ⟨wz0, wz1, wz2, wz3, wz4, wz5, wz6, wz7, wz8, wz9, wy0, wy1, wy2, wy3, wy4, wy5, wy6, wy7, wy8, wy9⟩ := ten (H9.out.xb)
  clear wy0 wy1 wy2 wy3 wy4 wy5 wy6 wy7 wy8 wy9
  have hstz := fun (_ : True) => nZ (a := 2) (k := (m2 : Int)) (i := (m3 : Int)) (x3 := .slice A3 ns.length a3) (x4 := .slice none 0 0) (j := 0) (x6 := .slice none 0 0) (p := 0) (q := 0) (x9 := .slice none 0 0) H9.out.zb rfl rfl rfl rfl
  go_wp2
  ((try simp only [Exit.inBlock, Exit.then]); refine bodyPost_ret (vO rfl rfl (setRow_heap _ _ _ _ _ _ H9.out.zb) rfl) rfl ?_)
  obtain ⟨hl, hr, hgr⟩ := H9.out.fin hlt #[.int .u8 (⟨2, (m2 : Int), (m3 : Int), ns, [], ⟨0, []⟩, 0, 0, []⟩ : SRec).f0, .int .u32 (⟨2, (m2 : Int), (m3 : Int), ns, [], ⟨0, []⟩, 0, 0, []⟩ : SRec).f1, .int .u32 (⟨2, (m2 : Int), (m3 : Int), ns, [], ⟨0, []⟩, 0, 0, []⟩ : SRec).f2, .slice A3 (⟨2, (m2 : Int), (m3 : Int), ns, [], ⟨0, []⟩, 0, 0, []⟩ : SRec).f3.length a3, .slice none (⟨2, (m2 : Int), (m3 : Int), ns, [], ⟨0, []⟩, 0, 0, []⟩ : SRec).f4.length 0, .int .u32 (⟨2, (m2 : Int), (m3 : Int), ns, [], ⟨0, []⟩, 0, 0, []⟩ : SRec).f5.f0, .slice none (⟨2, (m2 : Int), (m3 : Int), ns, [], ⟨0, []⟩, 0, 0, []⟩ : SRec).f5.f1.length 0, .int .i64 (⟨2, (m2 : Int), (m3 : Int), ns, [], ⟨0, []⟩, 0, 0, []⟩ : SRec).f6, .int .i64 (⟨2, (m2 : Int), (m3 : Int), ns, [], ⟨0, []⟩, 0, 0, []⟩ : SRec).f7, .slice none (⟨2, (m2 : Int), (m3 : Int), ns, [], ⟨0, []⟩, 0, 0, []⟩ : SRec).f8.length 0]
  refine ⟨⟨2, (m2 : Int), (m3 : Int), ns, [], ⟨0, []⟩, 0, 0, []⟩, A3, a3, none, 0, none, 0, none, 0, r4, b4, rfl, hl, hr, hgr, fun e => ?_, fun e => ?_⟩
  ·obtain ⟨e1, e2⟩ := HS4.out.1 e
   obtain ⟨e3, e4⟩ := HS3.out.1 e1
   rw [HST.out.1 e3]
   unfold oK
   rw [if_neg (by decide), if_pos (by rfl), lU e4]
   simp only [Option.bind_some]
   rw [e2]
   rfl
  ·cases b2 with
   | true => exact HST.out.2 rfl
   | false =>
    rw [HST.out.1 rfl]
    unfold oK
    rw [if_neg (by decide), if_pos (by rfl)]
    cases b3 with
    | true =>
     rcases HS3.out.2 rfl with e1 | e1
     ·cases e1
     ·rw [nJ e1]; rfl
    | false =>
     rw [lU (HS3.out.1 rfl).2]
     simp only [Option.bind_some]
     rcases HS4.out.2 e with e1 | e1
     ·cases e1
     ·rw [e1]; rfl
 by_cases h6 : (m1 : Int) = 6
 ·obtain rfl : m1 = 6 := by omega
  clear xy0 xy1 xy2 xy3 xy4 xy5 xy6 xy7 xy8 xy9 hm1 hm2 h1 h2 h6
  go_upto_region 5 with fail
  go_upto_region 8 with fail
  go_upto_region 11 with fail
  go_upto_region 12 with fail
  have hcall := get_any 4 4 rfl (by omega) g r2 b2 w0 W5 H5.out.rb H5.out.bl
  go_wp2_with fail
  go_at_call 84
  refine hcall.mono ?_
  rintro e w6 ⟨m3, r3, b3, rfl, hR, hG, hlen, hst⟩
  have H6 := iC.mk (H5.out.step hg hlt hG hR)
  have hm3 : (m3 : Int) < 4294967296 := by have h8 := hlen.2; rw [show (256 : Nat) ^ 4 = 4294967296 from by decide] at h8; omega
  have hw3 : IntKind.u32.wrap (m3 : Int) = (m3 : Int) := by rw [show IntKind.u32.wrap (m3 : Int) = (m3 : Int) % 4294967296 by simp [IntKind.wrap, IntKind.bits, IntKind.signed]]; omega
  have hst6 := fun (_ : True) => st_5 (m3 : Int) H6.out.xb
  have H7 := iC.mk (H6.out.set (x' := ⟨6, (m2 : Int), 0, [], [], ⟨(m3 : Int), []⟩, 0, 0, []⟩) h00 hlt H6.out.r3 H6.out.r4 H6.out.r6 H6.out.r9)
  have HR3 := iC.mk (show r3.length ≤ l.length from Nat.le_trans hlen.1 HR2.out)
  have HS3 := iC.mk hst
  clear hcall hG hR hlen hst xz0 xz1 xz2 xz3 xz4 xz5 xz6 xz7 xz8 xz9
  go_upto_region 13 with fail
  obtain ⟨W7, hW7⟩ : ∃ W7, W7 = w6.setRow (w.heap.size + 1) #[.int .u8 6, .int .u32 (m2 : Int), .int .u32 0, .slice none 0 0, .slice none 0 0, .int .u32 (m3 : Int), .slice none 0 0, .int .i64 0, .int .i64 0, .slice none 0 0] := ⟨_, rfl⟩
  have H7 := iC.mk (show nC w0 w W7 g ⟨6, (m2 : Int), 0, [], [], ⟨(m3 : Int), []⟩, 0, 0, []⟩ none 0 none 0 none 0 none 0 r3 b3 from by rw [hW7]; exact H7.out)
  rw [← hW7]
  clear hW7 hst6 H6 hw3 hm3
  have hcall := VO 1 5 1 5 rfl rfl (by omega) (by omega) g r3 b3 w0 W7 H7.out.rb H7.out.bl
  go_wp2_with fail
  go_at_call 87
  refine hcall.mono ?_
  rintro e w8 ⟨n, r4, b4, rfl, hR, hG, hlen, hst⟩
  have H8 := iC.mk (H7.out.step hg hlt hG hR)
  have HR4 := iC.mk (show r4.length ≤ l.length from Nat.le_trans hlen.1 HR3.out)
  have HL4 := iC.mk hlen.2
  have HS4 := iC.mk hst
  have hnI : (n : Int) ≤ 100000 := by have := HR4.out; have := hlen.2; omega
  clear hcall hR hG hlen hst
  go_wp2
  go_loopw [5] (fun iv wi => ∃ (k : Nat) (ss : List kD) (r : List UInt8) (A6 : Option Addr) (a6 : Nat), k ≤ n ∧ iv = .int .i64 k ∧ iC (r.length ≤ r4.length ∧ ss.length = k) ∧ iC (b4 = false → Left rE n k r4 r ss ∧ (n - k) * 5 ≤ r.length) ∧ iC (nC w0 w wi g ⟨6, (m2 : Int), 0, [], [], ⟨(m3 : Int), ss⟩, 0, 0, []⟩ none 0 none 0 A6 a6 none 0 r b4)) (fun i _ => n - (intOf i).toNat)
  case atStart => exact ⟨0, [], r4, none, 0, Nat.zero_le _, rfl, ⟨Nat.le_refl _, rfl⟩, ⟨fun _ => ⟨Left.start _ _ _, by have := HL4.out; omega⟩⟩, H8⟩
  case round =>
   obtain ⟨k, ss, r, A6, a6, hk, rfl, HLK, HSK, HH⟩ := hrel
   clear H8 H7
   obtain ⟨wr0, rfl⟩ : ∃ x : World, x = wr := ⟨_, rfl⟩
   by_cases hkn : k < n
   ·have hb4 : b4 = false := by
     cases b4 with
     | false => rfl
     | true => have := (HS4.out.2 rfl).1; omega
    subst hb4
    have hl5 : 5 ≤ r.length := by have := (HSK.out rfl).2; omega
    have hn4 := MS 4 r (by omega)
    have hn1 := MS 1 (r.drop 4) (by rw [List.length_drop]; omega)
    have hs4 := nS r 4 (by omega)
    have hs1 := nS (r.drop 4) 1 (by omega)
    have hd1 : 1 ≤ (r.drop 4).length := by rw [List.length_drop]; omega
    have hdl : ((r.drop 4).drop 1).length + 5 = r.length := by rw [List.length_drop, List.length_drop]; omega
    have hsp := XP hn4 hn1
    have hcall := fun W hRB hbl => zY 4 4 rfl (by omega) g r w0 W hRB hbl (by omega)
    have hcall2 := fun W hRB hbl => zY 1 1 rfl (by omega) g (r.drop 4) w0 W hRB hbl hd1
    have HSN := iC.mk (fun (h : (false : Bool) = false) => (⟨Left.next (HSK.out h).1 hkn hsp, by have := (HSK.out h).2; omega⟩ : Left rE n (k + 1) r4 ((r.drop 4).drop 1) (ss ++ [⟨((numB (r.take 4) : Nat) : Int), ((numB ((r.drop 4).take 1) : Nat) : Int)⟩]) ∧ (n - (k + 1)) * 5 ≤ ((r.drop 4).drop 1).length))
    have HRN := iC.mk (show ((r.drop 4).drop 1).length ≤ r4.length from by have := HLK.out.1; omega)
    clear hn4 hn1 hsp hdl hd1
    obtain ⟨x4, hx4⟩ : ∃ x, x = numB (r.take 4) := ⟨_, rfl⟩
    obtain ⟨x5, hx5⟩ : ∃ x, x = numB ((r.drop 4).take 1) := ⟨_, rfl⟩
    obtain ⟨rb, hrb⟩ : ∃ x, x = (r.drop 4).drop 1 := ⟨_, rfl⟩
    rw [← hx4] at hs4 hcall HSN
    rw [← hx5] at hs1 hcall2 HSN
    rw [← hrb] at hcall2 HSN HRN
    obtain ⟨ra, hra⟩ : ∃ x, x = r.drop 4 := ⟨_, rfl⟩
    rw [← hra] at hcall hcall2
    clear hx4 hx5 hra hrb hl5
    have hw4 := uY x4 (by omega)
    have hw5 := uY x5 (by omega)
    obtain ⟨W1, hW1⟩ : ∃ W1, W1 = wr0.alloc (.cells #[.int .i64 0, .int .i64 0] 122) := ⟨_, rfl⟩
    have hba : Below wr0.heap.size wr0 W1 := by rw [hW1]; exact iD (Below.refl _ _) _
    have B1 := iC.mk (show W1.heap[wr0.heap.size]? = some (.cells #[.int .i64 0, .int .i64 0] 122 (0, 0)) from by rw [hW1]; exact iO rfl)
    have G1 := iC.mk (HH.out.step hg hlt (grown_below hba) (RB.grown HH.out.rb (grown_below (row := none) hba) (by simp)))
    have HNE := iC.mk HH.out.apart
    have HSZ := iC.mk HH.out.size
    have HW1 := iC.mk hW1
    have hcall := hcall W1 G1.out.rb G1.out.bl
    clear hba hW1 HH
    go_wp2_with fail
    rw [← HW1.out]
    clear HW1
    go_at_call 84
    refine hcall.mono ?_
    rintro e w2 ⟨rfl, hR, hG⟩
    have B2 := iC.mk ((hG.block wr0.heap.size (jC B1.out) (by intro e; injection e with e; have := HSZ.out; omega)).trans B1.out)
    have G2 := iC.mk (G1.out.step hg hlt hG hR)
    have hsp := fun (_ : True) => jf0 0 (by omega) (x4 : Int) B2.out
    have B3 := iC.mk (show (w2.setCell ⟨wr0.heap.size, 0, none⟩ (.int .i64 (x4 : Int))).heap[wr0.heap.size]? = some (.cells #[.int .i64 (x4 : Int), .int .i64 0] 122 (0, 0)) from lJ B2.out 0 _ rfl)
    have G3 := iC.mk (G2.out.box h00 hlt (kX w2 wr0.heap.size 0 (.int .i64 (x4 : Int))) HSZ.out HNE.out)
    clear hcall hR hG G1 B1
    go_upto_region 19 with fail
    obtain ⟨w3, hw3⟩ : ∃ w3, w3 = w2.setCell ⟨wr0.heap.size, 0, none⟩ (.int .i64 (x4 : Int)) := ⟨_, rfl⟩
    rw [← hw3] at B3 G3 ⊢
    clear hw3 hsp B2 G2 hw4
    have hcall := hcall2 w3 G3.out.rb G3.out.bl
    clear hcall2
    go_wp2_with fail
    go_at_call 84
    refine hcall.mono ?_
    rintro e w4 ⟨rfl, hR, hG⟩
    have B4 := iC.mk ((hG.block wr0.heap.size (jC B3.out) (by intro e; injection e with e; have := HSZ.out; omega)).trans B3.out)
    have G4 := iC.mk (G3.out.step hg hlt hG hR)
    have hsp := fun (_ : True) => jf0 1 (by omega) (x5 : Int) B4.out
    have B5 := iC.mk (show (w4.setCell ⟨wr0.heap.size, 1, none⟩ (.int .i64 (x5 : Int))).heap[wr0.heap.size]? = some (.cells #[.int .i64 (x4 : Int), .int .i64 (x5 : Int)] 122 (0, 0)) from lJ B4.out 1 _ rfl)
    have G5 := iC.mk (G4.out.box h00 hlt (kX w4 wr0.heap.size 1 (.int .i64 (x5 : Int))) HSZ.out HNE.out)
    clear hcall hR hG G3 B3
    go_upto_region 20 with fail
    obtain ⟨w5, hw5'⟩ : ∃ w5, w5 = w4.setCell ⟨wr0.heap.size, 1, none⟩ (.int .i64 (x5 : Int)) := ⟨_, rfl⟩
    rw [← hw5'] at B5 G5 ⊢
    clear hw5' hsp B4 G4 hw5
    have z6 : w5.cell? ⟨w.heap.size + 1, 6, none⟩ = some (.slice A6 ss.length a6) := (iH G5.out.xb 6).trans rfl
    have z0 : w5.cell? ⟨wr0.heap.size, 0, none⟩ = some (.int .i64 (x4 : Int)) := (iH B5.out 0).trans rfl
    have z1 : w5.cell? ⟨wr0.heap.size, 1, none⟩ = some (.int .i64 (x5 : Int)) := (iH B5.out 1).trans rfl
    have hst0 : True → True := fun h => h
    go_wp2_with (at_builtin; go_loud (refine Kd.R_append k122 (w0 := w5) (w.heap.size + 2) rfl (.tmp 60) (.tmp 62) 49 122 (.agg #[.int .i64 0, .int .i64 0]) 16 rfl Tryz.underlying49 jb1 rfl (by decide) (by omega) (.slice A6 ss.length a6) ss ⟨(x4 : Int), (x5 : Int)⟩ [.int .i64 (x4 : Int), .int .i64 (x5 : Int)] (fun _ => True) (fun _ => False) rfl rfl ?aP ?aK ?aF ?aO (Below.refl _ _) ?aB ?aL ?_; (case aP => exact QI _ _ _ (⟨(x4 : Int), (x5 : Int)⟩ : kD)); (case aK => exact fun k h => h.elim); (case aF => exact fun _ _ => trivial); (case aO => exact G5.out.r6); (case aB => exact G5.out.size); (case aL => (have := HLK.out; omega)); intro v5 w6 ho hb5 hg5 hat; obtain ⟨A7, a7, rfl⟩ := Kd.R_slice ho; obtain ⟨ss', hss⟩ : ∃ x, x = ss ++ [(⟨(x4 : Int), (x5 : Int)⟩ : kD)] := ⟨_, rfl⟩; rw [← hss] at ho; rw [← hss]; have HSS := iC.mk hss; obtain ⟨hxb, h7⟩ := G5.out.app6 h00 hlt hg5 ho; have G7 := iC.mk h7; have hst7 := fun (_ : True) => st_6 A7 ss'.length a7 hxb; clear hss ho hb5 hg5 hat hxb h7))
    go_roundw
    case rel => exact ⟨k + 1, ss', rb, A7, a7, by omega, by go_num, ⟨HRN.out, by rw [HSS.out, List.length_append, HLK.out.2]; rfl⟩, ⟨by rw [HSS.out]; exact HSN.out⟩, G7⟩
    case measure => simp [intOf]; omega
   ·obtain rfl : k = n := by omega
    obtain ⟨wz0, wz1, wz2, wz3, wz4, wz5, wz6, wz7, wz8, wz9, wy0, wy1, wy2, wy3, wy4, wy5, wy6, wy7, wy8, wy9⟩ := ten (HH.out.xb)
    clear wy0 wy1 wy2 wy3 wy4 wy5 wy6 wy7 wy8 wy9
    have hstz := fun (_ : True) => nZ (a := 6) (k := (m2 : Int)) (i := 0) (x3 := .slice none 0 0) (x4 := .slice none 0 0) (j := (m3 : Int)) (x6 := .slice A6 ss.length a6) (p := 0) (q := 0) (x9 := .slice none 0 0) HH.out.zb rfl rfl rfl rfl
    go_wp2
    ((try simp only [Exit.inBlock, Exit.then]); refine bodyPost_ret (vO rfl rfl (setRow_heap _ _ _ _ _ _ HH.out.zb) rfl) rfl ?_)
    obtain ⟨hl, hr, hgr⟩ := HH.out.fin hlt #[.int .u8 (⟨6, (m2 : Int), 0, [], [], ⟨(m3 : Int), ss⟩, 0, 0, []⟩ : SRec).f0, .int .u32 (⟨6, (m2 : Int), 0, [], [], ⟨(m3 : Int), ss⟩, 0, 0, []⟩ : SRec).f1, .int .u32 (⟨6, (m2 : Int), 0, [], [], ⟨(m3 : Int), ss⟩, 0, 0, []⟩ : SRec).f2, .slice none (⟨6, (m2 : Int), 0, [], [], ⟨(m3 : Int), ss⟩, 0, 0, []⟩ : SRec).f3.length 0, .slice none (⟨6, (m2 : Int), 0, [], [], ⟨(m3 : Int), ss⟩, 0, 0, []⟩ : SRec).f4.length 0, .int .u32 (⟨6, (m2 : Int), 0, [], [], ⟨(m3 : Int), ss⟩, 0, 0, []⟩ : SRec).f5.f0, .slice A6 (⟨6, (m2 : Int), 0, [], [], ⟨(m3 : Int), ss⟩, 0, 0, []⟩ : SRec).f5.f1.length a6, .int .i64 (⟨6, (m2 : Int), 0, [], [], ⟨(m3 : Int), ss⟩, 0, 0, []⟩ : SRec).f6, .int .i64 (⟨6, (m2 : Int), 0, [], [], ⟨(m3 : Int), ss⟩, 0, 0, []⟩ : SRec).f7, .slice none (⟨6, (m2 : Int), 0, [], [], ⟨(m3 : Int), ss⟩, 0, 0, []⟩ : SRec).f8.length 0]
    refine ⟨⟨6, (m2 : Int), 0, [], [], ⟨(m3 : Int), ss⟩, 0, 0, []⟩, none, 0, none, 0, A6, a6, none, 0, r, b4, rfl, hl, hr, hgr, fun e => ?_, fun e => ?_⟩
    ·obtain ⟨e1, e2⟩ := HS4.out.1 e
     obtain ⟨e3, e4⟩ := HS3.out.1 e1
     rw [HST.out.1 e3]
     unfold oK
     rw [if_neg (by decide), if_neg (by decide), if_pos (by rfl), lU e4]
     simp only [Option.bind_some]
     unfold pU
     rw [e2]
     simp only [Option.bind_some]
     rw [Left.done (HSK.out e).1]
     rfl
    ·cases b2 with
     | true => exact HST.out.2 rfl
     | false =>
      rw [HST.out.1 rfl]
      unfold oK
      rw [if_neg (by decide), if_neg (by decide), if_pos (by rfl)]
      cases b3 with
      | true =>
       rcases HS3.out.2 rfl with e1 | e1
       ·cases e1
       ·rw [nJ e1]; rfl
      | false =>
       rw [lU (HS3.out.1 rfl).2]
       simp only [Option.bind_some]
       unfold pU
       rcases (HS4.out.2 e).2 with e1 | e1
       ·cases e1
       ·rw [e1]; rfl
 by_cases h7 : (m1 : Int) = 7
 ·obtain rfl : m1 = 7 := by omega
  clear xy0 xy1 xy2 xy3 xy4 xy5 xy6 xy7 xy8 xy9 hm1 hm2 h1 h2 h6 h7
  go_upto_region 5 with fail
  go_upto_region 8 with fail
  go_upto_region 11 with fail
  go_upto_region 21 with fail
  go_upto_region 22 with fail
  have hcall := get_any 4 4 rfl (by omega) g r2 b2 w0 W5 H5.out.rb H5.out.bl
  go_wp2_with fail
  go_at_call 84
  refine hcall.mono ?_
  rintro e w6 ⟨m3, r3, b3, rfl, hR, hG, hlen, hst⟩
  have H6 := iC.mk (H5.out.step hg hlt hG hR)
  have hm3 : m3 < 4294967296 := by have h8 := hlen.2; rw [show (256 : Nat) ^ 4 = 4294967296 from by decide] at h8; exact h8
  have hw3 : wrap64 (m3 : Int) = (m3 : Int) := uY m3 (by omega)
  have hst6 := fun (_ : True) => st_7 (m3 : Int) H6.out.xb
  have H7 := iC.mk (H6.out.set (x' := ⟨7, (m2 : Int), 0, [], [], ⟨0, []⟩, (m3 : Int), 0, []⟩) h00 hlt H6.out.r3 H6.out.r4 H6.out.r6 H6.out.r9)
  have HR3 := iC.mk (show r3.length ≤ l.length from Nat.le_trans hlen.1 HR2.out)
  have HS3 := iC.mk hst
  clear hcall hG hR hlen hst xz0 xz1 xz2 xz3 xz4 xz5 xz6 xz7 xz8 xz9
  go_upto_region 23 with fail
  obtain ⟨W7, hW7⟩ : ∃ W7, W7 = w6.setRow (w.heap.size + 1) #[.int .u8 7, .int .u32 (m2 : Int), .int .u32 0, .slice none 0 0, .slice none 0 0, .int .u32 0, .slice none 0 0, .int .i64 (m3 : Int), .int .i64 0, .slice none 0 0] := ⟨_, rfl⟩
  have H7 := iC.mk (show nC w0 w W7 g ⟨7, (m2 : Int), 0, [], [], ⟨0, []⟩, (m3 : Int), 0, []⟩ none 0 none 0 none 0 none 0 r3 b3 from by rw [hW7]; exact H7.out)
  rw [← hW7]
  clear hW7 hst6 H6 hw3 hm3
  have hcall := get_any 4 4 rfl (by omega) g r3 b3 w0 W7 H7.out.rb H7.out.bl
  go_wp2_with fail
  go_at_call 84
  refine hcall.mono ?_
  rintro e w8 ⟨m4, r4, b4, rfl, hR, hG, hlen, hst⟩
  have H8 := iC.mk (H7.out.step hg hlt hG hR)
  have hm4 : m4 < 4294967296 := by have h8 := hlen.2; rw [show (256 : Nat) ^ 4 = 4294967296 from by decide] at h8; exact h8
  have hw4 : wrap64 (m4 : Int) = (m4 : Int) := uY m4 (by omega)
  have hst8 := fun (_ : True) => st_8 (m4 : Int) H8.out.xb
  have H9 := iC.mk (H8.out.set (x' := ⟨7, (m2 : Int), 0, [], [], ⟨0, []⟩, (m3 : Int), (m4 : Int), []⟩) h00 hlt H8.out.r3 H8.out.r4 H8.out.r6 H8.out.r9)
  have HR4 := iC.mk (show r4.length ≤ l.length from Nat.le_trans hlen.1 HR3.out)
  have HS4 := iC.mk hst
  clear hcall hG hR hlen hst
  go_upto_region 24 with fail
  obtain ⟨W9, hW9⟩ : ∃ W9, W9 = w8.setRow (w.heap.size + 1) #[.int .u8 7, .int .u32 (m2 : Int), .int .u32 0, .slice none 0 0, .slice none 0 0, .int .u32 0, .slice none 0 0, .int .i64 (m3 : Int), .int .i64 (m4 : Int), .slice none 0 0] := ⟨_, rfl⟩
  have H9 := iC.mk (show nC w0 w W9 g ⟨7, (m2 : Int), 0, [], [], ⟨0, []⟩, (m3 : Int), (m4 : Int), []⟩ none 0 none 0 none 0 none 0 r4 b4 from by rw [hW9]; exact H9.out)
  rw [← hW9]
  clear hW9 hst8 H8 hw4 hm4
  have hcall := NE g r4 b4 w0 W9 H9.out.rb H9.out.bl hg (by have := HR4.out; omega)
  go_wp2_with fail
  go_at_call 88
  refine hcall.mono ?_
  rintro e wa hq
  obtain ⟨hG, es, v, r5, b5, rfl, hv, hR, hlen, hst⟩ := RP.split hq
  have hv : Kd.R k114 114 wa W9.heap.size (fun _ => True) v es := hv
  obtain ⟨A9, a9, rfl⟩ := Kd.R_slice hv
  have Ha := iC.mk (H9.out.step hg hlt hG hR)
  have hsta := fun (_ : True) => st_9 A9 es.length a9 Ha.out.xb
  have Hb := iC.mk (Ha.out.set (x' := ⟨7, (m2 : Int), 0, [], [], ⟨0, []⟩, (m3 : Int), (m4 : Int), es⟩) h00 hlt Ha.out.r3 Ha.out.r4 Ha.out.r6 (Kd.R_lower hv H9.out.size))
  have HS5 := iC.mk hst
  clear hcall hq hG hv hR hlen hst
  go_upto_region 25 with fail
  obtain ⟨Wb, hWb⟩ : ∃ Wb, Wb = wa.setRow (w.heap.size + 1) #[.int .u8 7, .int .u32 (m2 : Int), .int .u32 0, .slice none 0 0, .slice none 0 0, .int .u32 0, .slice none 0 0, .int .i64 (m3 : Int), .int .i64 (m4 : Int), .slice A9 es.length a9] := ⟨_, rfl⟩
  have Hb := iC.mk (show nC w0 w Wb g ⟨7, (m2 : Int), 0, [], [], ⟨0, []⟩, (m3 : Int), (m4 : Int), es⟩ none 0 none 0 none 0 A9 a9 r5 b5 from by rw [hWb]; exact Hb.out)
  rw [← hWb]
  clear hWb hsta Ha
  obtain ⟨wz0, wz1, wz2, wz3, wz4, wz5, wz6, wz7, wz8, wz9, wy0, wy1, wy2, wy3, wy4, wy5, wy6, wy7, wy8, wy9⟩ := ten (Hb.out.xb)
  clear wy0 wy1 wy2 wy3 wy4 wy5 wy6 wy7 wy8 wy9
  have hstz := fun (_ : True) => nZ (a := 7) (k := (m2 : Int)) (i := 0) (x3 := .slice none 0 0) (x4 := .slice none 0 0) (j := 0) (x6 := .slice none 0 0) (p := (m3 : Int)) (q := (m4 : Int)) (x9 := .slice A9 es.length a9) Hb.out.zb rfl rfl rfl rfl
  go_wp2
  ((try simp only [Exit.inBlock, Exit.then]); refine bodyPost_ret (vO rfl rfl (setRow_heap _ _ _ _ _ _ Hb.out.zb) rfl) rfl ?_)
  obtain ⟨hl, hr, hgr⟩ := Hb.out.fin hlt #[.int .u8 (⟨7, (m2 : Int), 0, [], [], ⟨0, []⟩, (m3 : Int), (m4 : Int), es⟩ : SRec).f0, .int .u32 (⟨7, (m2 : Int), 0, [], [], ⟨0, []⟩, (m3 : Int), (m4 : Int), es⟩ : SRec).f1, .int .u32 (⟨7, (m2 : Int), 0, [], [], ⟨0, []⟩, (m3 : Int), (m4 : Int), es⟩ : SRec).f2, .slice none (⟨7, (m2 : Int), 0, [], [], ⟨0, []⟩, (m3 : Int), (m4 : Int), es⟩ : SRec).f3.length 0, .slice none (⟨7, (m2 : Int), 0, [], [], ⟨0, []⟩, (m3 : Int), (m4 : Int), es⟩ : SRec).f4.length 0, .int .u32 (⟨7, (m2 : Int), 0, [], [], ⟨0, []⟩, (m3 : Int), (m4 : Int), es⟩ : SRec).f5.f0, .slice none (⟨7, (m2 : Int), 0, [], [], ⟨0, []⟩, (m3 : Int), (m4 : Int), es⟩ : SRec).f5.f1.length 0, .int .i64 (⟨7, (m2 : Int), 0, [], [], ⟨0, []⟩, (m3 : Int), (m4 : Int), es⟩ : SRec).f6, .int .i64 (⟨7, (m2 : Int), 0, [], [], ⟨0, []⟩, (m3 : Int), (m4 : Int), es⟩ : SRec).f7, .slice A9 (⟨7, (m2 : Int), 0, [], [], ⟨0, []⟩, (m3 : Int), (m4 : Int), es⟩ : SRec).f8.length a9]
  refine ⟨⟨7, (m2 : Int), 0, [], [], ⟨0, []⟩, (m3 : Int), (m4 : Int), es⟩, none, 0, none, 0, none, 0, A9, a9, r5, b5, rfl, hl, hr, hgr, fun e => ?_, fun e => ?_⟩
  ·obtain ⟨e1, e2⟩ := HS5.out.1 e
   obtain ⟨e3, e4⟩ := HS4.out.1 e1
   obtain ⟨e5, e6⟩ := HS3.out.1 e3
   rw [HST.out.1 e5]
   unfold oK
   rw [if_neg (by decide), if_neg (by decide), if_neg (by decide), if_pos (by rfl), lU e6]
   simp only [Option.bind_some]
   rw [lU e4]
   simp only [Option.bind_some]
   rw [e2]
   rfl
  ·cases b2 with
   | true => exact HST.out.2 rfl
   | false =>
    rw [HST.out.1 rfl]
    unfold oK
    rw [if_neg (by decide), if_neg (by decide), if_neg (by decide), if_pos (by rfl)]
    cases b3 with
    | true =>
     rcases HS3.out.2 rfl with e1 | e1
     ·cases e1
     ·rw [nJ e1]; rfl
    | false =>
     rw [lU (HS3.out.1 rfl).2]
     simp only [Option.bind_some]
     cases b4 with
     | true =>
      rcases HS4.out.2 rfl with e1 | e1
      ·cases e1
      ·rw [nJ e1]; rfl
     | false =>
      rw [lU (HS4.out.1 rfl).2]
      simp only [Option.bind_some]
      rcases HS5.out.2 e with e1 | e1
      ·cases e1
      ·rw [e1]; rfl
 have hrb : RB w0 (W5.setRow w.heap.size #[.int .u8 (⟨(m1 : Int), (m2 : Int), 0, [], [], ⟨0, []⟩, 0, 0, []⟩ : SRec).f0, .int .u32 (⟨(m1 : Int), (m2 : Int), 0, [], [], ⟨0, []⟩, 0, 0, []⟩ : SRec).f1, .int .u32 (⟨(m1 : Int), (m2 : Int), 0, [], [], ⟨0, []⟩, 0, 0, []⟩ : SRec).f2, .slice none (⟨(m1 : Int), (m2 : Int), 0, [], [], ⟨0, []⟩, 0, 0, []⟩ : SRec).f3.length 0, .slice none (⟨(m1 : Int), (m2 : Int), 0, [], [], ⟨0, []⟩, 0, 0, []⟩ : SRec).f4.length 0, .int .u32 (⟨(m1 : Int), (m2 : Int), 0, [], [], ⟨0, []⟩, 0, 0, []⟩ : SRec).f5.f0, .slice none (⟨(m1 : Int), (m2 : Int), 0, [], [], ⟨0, []⟩, 0, 0, []⟩ : SRec).f5.f1.length 0, .int .i64 (⟨(m1 : Int), (m2 : Int), 0, [], [], ⟨0, []⟩, 0, 0, []⟩ : SRec).f6, .int .i64 (⟨(m1 : Int), (m2 : Int), 0, [], [], ⟨0, []⟩, 0, 0, []⟩ : SRec).f7, .slice none (⟨(m1 : Int), (m2 : Int), 0, [], [], ⟨0, []⟩, 0, 0, []⟩ : SRec).f8.length 0]) g r2 b2 := RB.grown H5.out.rb (jP _ _ _) (by intro e; injection e with e; omega)
 have HRB := iC.mk hrb
 have hstz := fun (_ : True) => nZ (a := (m1 : Int)) (k := (m2 : Int)) (i := 0) (x3 := .slice none 0 0) (x4 := .slice none 0 0) (j := 0) (x6 := .slice none 0 0) (p := 0) (q := 0) (x9 := .slice none 0 0) H5.out.zb rfl rfl rfl rfl
 clear hrb
 obtain ⟨k1, hk1⟩ : ∃ k1 : Int, k1 = (m1 : Int) := ⟨_, rfl⟩
 rw [← hk1] at h1 h2 h6 h7 hm1 xz0 hstz ⊢
 have HK1 := iC.mk hk1
 clear hk1 hm2 hm1
 go_upto_region 5 with fail
 go_upto_region 8 with fail
 go_upto_region 11 with fail
 go_upto_region 21 with fail
 clear xy0 xy1 xy2 xy3 xy4 xy5 xy6 xy7 xy8 xy9
 go_wp2
 have hG := jP W5 w.heap.size #[.int .u8 (⟨k1, (m2 : Int), 0, [], [], ⟨0, []⟩, 0, 0, []⟩ : SRec).f0, .int .u32 (⟨k1, (m2 : Int), 0, [], [], ⟨0, []⟩, 0, 0, []⟩ : SRec).f1, .int .u32 (⟨k1, (m2 : Int), 0, [], [], ⟨0, []⟩, 0, 0, []⟩ : SRec).f2, .slice none (⟨k1, (m2 : Int), 0, [], [], ⟨0, []⟩, 0, 0, []⟩ : SRec).f3.length 0, .slice none (⟨k1, (m2 : Int), 0, [], [], ⟨0, []⟩, 0, 0, []⟩ : SRec).f4.length 0, .int .u32 (⟨k1, (m2 : Int), 0, [], [], ⟨0, []⟩, 0, 0, []⟩ : SRec).f5.f0, .slice none (⟨k1, (m2 : Int), 0, [], [], ⟨0, []⟩, 0, 0, []⟩ : SRec).f5.f1.length 0, .int .i64 (⟨k1, (m2 : Int), 0, [], [], ⟨0, []⟩, 0, 0, []⟩ : SRec).f6, .int .i64 (⟨k1, (m2 : Int), 0, [], [], ⟨0, []⟩, 0, 0, []⟩ : SRec).f7, .slice none (⟨k1, (m2 : Int), 0, [], [], ⟨0, []⟩, 0, 0, []⟩ : SRec).f8.length 0]
 ((try simp only [Exit.inBlock, Exit.then]); refine bodyPost_ret (vO rfl rfl (setRow_heap _ _ _ _ _ _ H5.out.zb) rfl) rfl ?_)
 refine ⟨⟨k1, (m2 : Int), 0, [], [], ⟨0, []⟩, 0, 0, []⟩, none, 0, none, 0, none, 0, none, 0, r2, b2, rfl, ⟨Kd.R_nil _ _ _ _ _, Kd.R_nil _ _ _ _ _, Kd.R_nil _ _ _ _ _, Kd.R_nil _ _ _ _ _⟩, RB.grown H5.out.rb hG (by intro e; injection e with e; omega), kE H5.out.gr hG (Nat.le_refl _), fun e => ?_, HST.out.2⟩
 rw [HST.out.1 e, ← HK1.out]
 unfold oK
 rw [if_neg h1, if_neg h2, if_neg h6, if_neg h7]
end Go.Proofs.YtgfkgppomaapiaaGreatDoor.K
end

section
namespace Go.Proofs.YtgfkgppomaapiaaGreatDoor.K
open RowKit YtgfkgppomaapiaaGreatDoorW.PrintWords YtgfkgppomaapiaaGreatDoorW.PrintLast YtgfkgppomaapiaaGreatDoorW.PrintMore My
def QG (w : World) (d : SRec × Int) (e : Ending) (w' : World) : Prop := ∃ (A3 : Option Addr) (a3 : Nat) (A4 : Option Addr) (a4 : Nat) (A6 : Option Addr) (a6 : Nat) (A9 : Option Addr) (a9 : Nat), e = .returned (.tuple #[.agg #[.int .u8 d.1.f0, .int .u32 d.1.f1, .int .u32 d.1.f2, .slice A3 d.1.f3.length a3, .slice A4 d.1.f4.length a4, .int .u32 d.1.f5.f0, .slice A6 d.1.f5.f1.length a6, .int .i64 d.1.f6, .int .i64 d.1.f7, .slice A9 d.1.f8.length a9], .int .i64 d.2]) ∧ Owns w.heap.size w' d.1 A3 a3 A4 a4 A6 a6 A9 a9 ∧ Below w.heap.size w w'
theorem VM (base : Nat) (w : World) : Owns base w lX none 0 none 0 none 0 none 0 := ⟨Kd.R_nil _ _ _ _ _, Kd.R_nil _ _ _ _ _, Kd.R_nil _ _ _ _ _, Kd.R_nil _ _ _ _ _⟩
theorem rY (w W : World) (h : Below w.heap.size w W) (c : Int) : QG w (lX, c) (.returned (.tuple #[.agg #[.int .u8 0, .int .u32 0, .int .u32 0, .slice none 0 0, .slice none 0 0, .int .u32 0, .slice none 0 0, .int .i64 0, .int .i64 0, .slice none 0 0], .int .i64 c])) (W.setRow w.heap.size #[.int .u8 0, .int .u32 0, .int .u32 0, .slice none 0 0, .slice none 0 0, .int .u32 0, .slice none 0 0, .int .i64 0, .int .i64 0, .slice none 0 0]) :=
 ⟨none, 0, none, 0, none, 0, none, 0, rfl, VM _ _, below_grown h (jP W w.heap.size _) (Nat.le_refl _) (Nat.le_refl _)⟩
theorem uG {tmps : Array Value} {W : World} {p u : Tmp} {b : Nat} {cs : Array Value} {x : Value} (h : Tryz.f34.results = #[.cell p 54, .tmp u]) (hp : tmps.getD p undef = .pointer (some ⟨b, 0, none⟩)) (hu : tmps.getD u undef = x) (hx : W.heap[b]? = some (.cells cs 54 (0, 0))) (hs : cs.size = 10) :
  (results Tryz.f34 tmps).run Tryz.prog W = .ok (.tuple #[.agg cs, x]) W := by
 have h1 := run_loadVar_row (P := Tryz.prog) W b 54 54 cs (0, 0) _ hx Tryz.underlying54 rfl (by rw [hs]; kernel_rfl)
 rw [results_cell_tmp h, hp, hu]
 simp [asAddr, h1, Result.andThen]
theorem OD {w : World} {r : SRec} {A3 A4 A6 A9 : Option Addr} {a3 a4 a6 a9 : Nat} (h : Lies w r A3 a3 A4 a4 A6 a6 A9 a9) {E1 : List Int} {E2 : Int} (hE : encR r = (E1, E2)) : Calls Tryz.prog 44 #[.agg #[.int .u8 r.f0, .int .u32 r.f1, .int .u32 r.f2, .slice A3 r.f3.length a3, .slice A4 r.f4.length a4, .int .u32 r.f5.f0, .slice A6 r.f5.f1.length a6, .int .i64 r.f6, .int .i64 r.f7, .slice A9 r.f8.length a9]] w (pW w (E1, E2)) := by
 rw [← hE]
 exact LU r.f0 r.f1 r.f2 A3 a3 r.f3 A4 a4 r.f4 r.f5.f0 A6 a6 r.f5.f1 r.f6 r.f7 A9 a9 r.f8 w h.h3 h.d3 h.h4 h.d4 h.h6 h.d6 h.h9 h.d9
theorem LC (A : Option Addr) (n c : Nat) : (Tryz.prog).built 106 (#[(0, .slice A n c)] : Array (Nat × Value)).toList = some #[.slice A n c, .bool false] := by kernel_rfl
theorem U0 (w : World) (A : Option Addr) (n c : Nat) : (Instr.build 106 #[(0, .slice A n c)]).run Tryz.prog w = .ok (.agg #[.slice A n c, .bool false]) w := run_build w _ _ _ (LC A n c)
theorem XQ {l : List UInt8} (hl : ¬ 60000 < l.length) (h : recP l = none) : decR l = (lX, 70) := by unfold decR; rw [if_neg hl, h]
theorem ZE {l r : List UInt8} {x : SRec} (hl : ¬ 60000 < l.length) (h : recP l = some (x, r)) : decR l = if encR x = (nums l, 0) then (x, 0) else (lX, 70) := by unfold decR; rw [if_neg hl, h]
attribute [-go_sem] Instr.build Instr.storeAt
attribute [local go_sem] QW U0
set_option maxRecDepth 20000 in
set_option maxHeartbeats 16000000 in
theorem PQ (A : Option Addr) (c : Nat) (l : List UInt8) (w : World) (hCi : (Kd.int .u8).C w A l.length (nums l)) (hc : l.length ≤ c) :
  Calls Tryz.prog 34 #[.slice A l.length c] w (QG w (decR l)) := by
 by_cases hl : 60000 < l.length
 ·have hD : decR l = (lX, 3) := by unfold decR; rw [if_pos hl]
  rw [hD]
  have hst := fun (_ : True) => nZ (a := 0) (k := 0) (i := 0) (x3 := .slice none 0 0) (x4 := .slice none 0 0) (j := 0) (x6 := .slice none 0 0) (p := 0) (q := 0) (x9 := .slice none 0 0) (show (w.alloc (.cells #[.int .u8 0, .int .u32 0, .int .u32 0, .slice none 0 0, .slice none 0 0, .int .u32 0, .slice none 0 0, .int .i64 0, .int .i64 0, .slice none 0 0] 54)).heap[w.heap.size]? = _ from iO rfl) rfl rfl rfl rfl
  clear hD hCi
  go_enter Tryz.func34, Tryz.ntmps34
  go_wp2
  ((try simp only [Exit.inBlock, Exit.then]); exact bodyPost_ret (uG rfl rfl rfl (setRow_heap _ _ _ _ _ _ (iO rfl)) rfl) rfl (rY w _ (iD (Below.refl _ _) _) 3))
 ·obtain ⟨W2, hW2⟩ : ∃ W2, W2 = (w.alloc (.cells #[.int .u8 0, .int .u32 0, .int .u32 0, .slice none 0 0, .slice none 0 0, .int .u32 0, .slice none 0 0, .int .i64 0, .int .i64 0, .slice none 0 0] 54)).alloc (.cells #[.slice A l.length c, .bool false] 106) := ⟨_, rfl⟩
  have hb2 : Below w.heap.size w W2 := by rw [hW2]; exact iD (iD (Below.refl _ _) _) _
  have HX2 := iC.mk (show W2.heap[w.heap.size]? = some (.cells #[.int .u8 0, .int .u32 0, .int .u32 0, .slice none 0 0, .slice none 0 0, .int .u32 0, .slice none 0 0, .int .i64 0, .int .i64 0, .slice none 0 0] 54 (0, 0)) from by rw [hW2]; exact jG (iO rfl))
  have hrb : RB w W2 (w.heap.size + 1) l false := ⟨A, c, by rw [hW2]; exact iO (by simp), hc, uD hCi⟩
  have hcall := YK (w.heap.size + 1) l w W2 hrb hb2 (Nat.le_succ _) (by omega)
  have HB2 := iC.mk hb2
  have HW2 := iC.mk hW2
  have HLT := iC.mk (show w.heap.size < W2.heap.size from jC HX2.out)
  have HCI := iC.mk hCi
  have hm := kZ hCi
  clear hrb hb2 hW2 hCi
  have HNL := iC.mk hl
  go_enter Tryz.func34, Tryz.ntmps34
  go_wp2_with fail
  rw [← HW2.out]
  go_at_call 54
  refine hcall.mono ?_
  rintro e w3 ⟨x, A3, a3, A4, a4, A6, a6, A9, a9, r, b, rfl, hL, hRB, hG, h1, h2⟩
  have hX3 : w3.heap[w.heap.size]? = some (.cells #[.int .u8 0, .int .u32 0, .int .u32 0, .slice none 0 0, .slice none 0 0, .int .u32 0, .slice none 0 0, .int .i64 0, .int .i64 0, .slice none 0 0] 54 (0, 0)) := (hG.block _ (jC HX2.out) (by intro e; injection e with e; omega)).trans HX2.out
  have hB3 : Below w.heap.size w w3 := below_grown HB2.out hG (Nat.le_succ _) (Nat.le_refl _)
  obtain ⟨Ar, cr, hblk, _, _⟩ := hRB
  have hsx := fun (_ : True) => run_storeAt_new (P := Tryz.prog) w3 54 #[.int .u8 0, .int .u32 0, .int .u32 0, .slice none 0 0, .slice none 0 0, .int .u32 0, .slice none 0 0, .int .i64 0, .int .i64 0, .slice none 0 0] #[.int .u8 x.f0, .int .u32 x.f1, .int .u32 x.f2, .slice A3 x.f3.length a3, .slice A4 x.f4.length a4, .int .u32 x.f5.f0, .slice A6 x.f5.f1.length a6, .int .i64 x.f6, .int .i64 x.f7, .slice A9 x.f8.length a9] (by kernel_rfl) rfl (by simp [Value.oneCell'])
  obtain ⟨W4, hW4⟩ : ∃ W4, W4 = w3.alloc (.cells #[.int .u8 x.f0, .int .u32 x.f1, .int .u32 x.f2, .slice A3 x.f3.length a3, .slice A4 x.f4.length a4, .int .u32 x.f5.f0, .slice A6 x.f5.f1.length a6, .int .i64 x.f6, .int .i64 x.f7, .slice A9 x.f8.length a9] 54) := ⟨_, rfl⟩
  have hbw : Below w3.heap.size w3 W4 := by rw [hW4]; exact iD (Below.refl _ _) _
  have HX4 := iC.mk (iJ hbw hX3)
  have HB4 := iC.mk (iF hB3 hbw)
  have HF4 := iC.mk (iJ hbw hblk)
  have HL4 := iC.mk (hL.below hbw)
  have HC4 := iC.mk (Kd.C_below HCI.out HB4.out)
  have HR4 := iC.mk (show W4.heap[w3.heap.size]? = some (.cells #[.int .u8 x.f0, .int .u32 x.f1, .int .u32 x.f2, .slice A3 x.f3.length a3, .slice A4 x.f4.length a4, .int .u32 x.f5.f0, .slice A6 x.f5.f1.length a6, .int .i64 x.f6, .int .i64 x.f7, .slice A9 x.f8.length a9] 54 (0, 0)) from by rw [hW4]; exact iO rfl)
  have hlx := fun (_ : True) => qB HR4.out rfl
  have HW4 := iC.mk hW4
  have HD1 := iC.mk h1
  have HD2 := iC.mk h2
  clear hcall hW4 hbw hX3 hB3 hblk hL hG h1 h2 HX2 HB2 HW2
  obtain ⟨⟨E1, E2⟩, hE⟩ : ∃ E : List Int × Int, encR x = E := ⟨_, rfl⟩
  have hcall := OD HL4.out.lies hE
  have HE := iC.mk hE
  have HCS := iC.mk (oQ x)
  clear hE
  go_upto_region 5 with fail
  rw [← HW4.out]
  clear hsx hlx
  obtain ⟨wz0, wz1, wz2, wz3, wz4, wz5, wz6, wz7, wz8, wz9, wy0, wy1, wy2, wy3, wy4, wy5, wy6, wy7, wy8, wy9⟩ := ten (HR4.out)
  clear wy0 wy1 wy2 wy3 wy4 wy5 wy6 wy7 wy8 wy9
  go_wp2_with fail
  go_at_call 44
  refine hcall.mono ?_
  rintro e w5 ⟨v0, rfl, h0, hb5⟩
  dsimp only at h0
  dsimp only
  obtain ⟨A0, c0, rfl⟩ := Kd.R_slice h0
  obtain ⟨_, q0, C0⟩ := Kd.R_reads' h0
  have hX5 := iJ hb5 HX4.out
  have HB5 := iC.mk (iF HB4.out hb5)
  have hF5 := iJ hb5 HF4.out
  have HL5 := iC.mk (HL4.out.below hb5)
  have hR5 := iJ hb5 HR4.out
  have hcv1 := fun (_ : True) => Kd.C_string (P := Tryz.prog) (c := c0) Tryz.underlying22 Tryz.underlying5 Tryz.underlying9 C0
  have hcv2 := fun (_ : True) => Kd.C_string (P := Tryz.prog) (c := c) Tryz.underlying22 Tryz.underlying5 Tryz.underlying9 (Kd.C_below HC4.out hb5)
  have zf : w5.cell? ⟨w.heap.size + 1, 1, none⟩ = some (.bool b) := (iH hF5 1).trans rfl
  clear wz0 wz1 wz2 wz3 wz4 wz5 wz6 wz7 wz8 wz9
  have hst := fun (_ : True) => nZ (a := 0) (k := 0) (i := 0) (x3 := .slice none 0 0) (x4 := .slice none 0 0) (j := 0) (x6 := .slice none 0 0) (p := 0) (q := 0) (x9 := .slice none 0 0) hX5 rfl rfl rfl rfl
  have HX5 := iC.mk hX5
  have HR5 := iC.mk hR5
  clear hcall h0 q0 C0 hb5 hF5 HX4 HB4 HF4 HL4 HC4 HR4 hX5 hR5 HCI HW4
  cases b with
  | true =>
   have HDD := iC.mk (XQ HNL.out (HD2.out rfl))
   clear HD1 HD2 HE HCS
   go_wp2
   ((try simp only [Exit.inBlock, Exit.then]); exact bodyPost_ret (uG rfl rfl rfl (setRow_heap _ _ _ _ _ _ HX5.out) rfl) rfl (by rw [HDD.out]; exact rY w _ HB5.out 70))
  | false =>
   have HDD := iC.mk (ZE HNL.out (HD1.out rfl))
   have hcs := HCS.out
   have he := HE.out
   rw [he] at hcs
   clear HD1 HD2 HE HCS hl
   rcases hcs with hc | hc | hc
   ·obtain ⟨rfl, rfl⟩ := Prod.mk.inj hc
    have HD3 := iC.mk (show decR l = (lX, 70) from HDD.out.trans (if_neg (by rw [he]; intro h; injection h with _ h2; cases h2)))
    clear he hc HDD
    go_wp2
    ((try simp only [Exit.inBlock, Exit.then]); exact bodyPost_ret (uG rfl rfl rfl (setRow_heap _ _ _ _ _ _ HX5.out) rfl) rfl (by rw [HD3.out]; exact rY w _ HB5.out 70))
   ·obtain ⟨rfl, rfl⟩ := Prod.mk.inj hc
    have HD3 := iC.mk (show decR l = (lX, 70) from HDD.out.trans (if_neg (by rw [he]; intro h; injection h with _ h2; cases h2)))
    clear he hc HDD
    go_wp2
    ((try simp only [Exit.inBlock, Exit.then]); exact bodyPost_ret (uG rfl rfl rfl (setRow_heap _ _ _ _ _ _ HX5.out) rfl) rfl (by rw [HD3.out]; exact rY w _ HB5.out 70))
   ·obtain ⟨rfl, rfl⟩ := Prod.mk.inj hc
    have heq := uA (recE x) l
    obtain ⟨s1, hs1⟩ : ∃ s, s = strOfNums (nums (recE x)) := ⟨_, rfl⟩
    obtain ⟨s2, hs2⟩ : ∃ s, s = strOfNums (nums l) := ⟨_, rfl⟩
    rw [← hs1] at hcv1 heq
    rw [← hs2] at hcv2 heq
    clear hs1 hs2 hc
    by_cases hq : recE x = l
    ·have HD3 := iC.mk (show decR l = (x, 0) from HDD.out.trans (if_pos (by rw [he, hq])))
     have hqq : (s1.toList == s2.toList) = true := by rw [heq]; exact decide_eq_true hq
     have hst := fun (_ : True) => nZ (a := x.f0) (k := x.f1) (i := x.f2) (x3 := .slice A3 x.f3.length a3) (x4 := .slice A4 x.f4.length a4) (j := x.f5.f0) (x6 := .slice A6 x.f5.f1.length a6) (p := x.f6) (q := x.f7) (x9 := .slice A9 x.f8.length a9) HX5.out rfl rfl rfl rfl
     obtain ⟨wz0, wz1, wz2, wz3, wz4, wz5, wz6, wz7, wz8, wz9, wy0, wy1, wy2, wy3, wy4, wy5, wy6, wy7, wy8, wy9⟩ := ten (HR5.out)
     clear wy0 wy1 wy2 wy3 wy4 wy5 wy6 wy7 wy8 wy9
     clear heq hq he HDD
     go_wp2
     ((try simp only [Exit.inBlock, Exit.then]); refine bodyPost_ret (uG rfl rfl rfl (setRow_heap _ _ _ _ _ _ HX5.out) rfl) rfl ?_)
     rw [HD3.out]
     exact ⟨A3, a3, A4, a4, A6, a6, A9, a9, rfl, ((HL5.out.keep (jP _ w.heap.size _) HLT.out).lower (Nat.le_of_lt HLT.out)), below_grown HB5.out (jP _ w.heap.size _) (Nat.le_refl _) (Nat.le_refl _)⟩
    ·have HD3 := iC.mk (show decR l = (lX, 70) from HDD.out.trans (if_neg (by rw [he]; intro h; injection h with h1 _; exact hq (LD h1))))
     have hqq : (s1.toList == s2.toList) = false := by rw [heq]; exact decide_eq_false hq
     clear heq hq he HDD
     go_wp2
     ((try simp only [Exit.inBlock, Exit.then]); exact bodyPost_ret (uG rfl rfl rfl (setRow_heap _ _ _ _ _ _ HX5.out) rfl) rfl (by rw [HD3.out]; exact rY w _ HB5.out 70))
end Go.Proofs.YtgfkgppomaapiaaGreatDoor.K
end

section
namespace Go.Proofs.YtgfkgppomaapiaaGreatDoor.K
open RowKit YtgfkgppomaapiaaGreatDoorW.PrintWords YtgfkgppomaapiaaGreatDoorW.PrintLast YtgfkgppomaapiaaGreatDoorW.PrintMore My
section
variable {w w' : World} {b : Nat} {row : Option Nat} {d : DM}
theorem RR.blk (h : RR w b row d) : ∃ cs, w.heap[b]? = some (.cells cs 42 (0, 0)) := by
 obtain ⟨⟨_, _, hD, _⟩, _⟩ := h
 exact ⟨_, hD⟩
theorem RR.rowt (h : RR w b row d) (k : Nat) (e : row = some k) : ∃ cs, w.heap[k]? = some (.cells cs 5 (0, 0)) := by
 obtain ⟨⟨_, _, _, hR⟩, _⟩ := h
 rcases hR with ⟨_, h2, _⟩ | ⟨g, cur, _, h2, _, h3, _⟩
 ·rw [h2] at e; cases e
 ·rw [h2] at e; injection e with e; subst e; exact ⟨cur, h3⟩
theorem RR.stays (h : RR w b row d) (hk : Kb b row w w') {g t : Nat} {cells : Array Value} (hg : w.heap[g]? = some (.cells cells t (0, 0))) (h1 : t ≠ 42) (h2 : t ≠ 5) : w'.heap[g]? = some (.cells cells t (0, 0)) := by
 refine (hk.block g (jC hg) (fun e => ?_) (fun e => ?_)).trans hg
 ·subst e
  obtain ⟨cs, hc⟩ := h.blk
  rw [hg] at hc
  injection hc with hc
  injection hc with _ hc
  exact h1 hc
 ·obtain ⟨cs, hc⟩ := h.rowt g e.symm
  rw [hg] at hc
  injection hc with hc
  injection hc with _ hc
  exact h2 hc
theorem RRs.rkb {base : Nat} {v : Value} {l : List SRec} (hr : RRs w base v l) (h : RR w b row d) (hk : Kb b row w w') : RRs w' base v l :=
 Kd.R_mono (Kd.R_move (Kd.R_bound hr) (fun k hq => by
  obtain ⟨_, _, _, q, hq, cells, hc⟩ := hq
  rw [hc]
  exact h.stays hk hc ((show ∀ q ∈ 54 :: kR.E, q ≠ 42 ∧ q ≠ 5 from by decide) q hq).1 ((show ∀ q ∈ 54 :: kR.E, q ≠ 42 ∧ q ≠ 5 from by decide) q hq).2)) (fun _ _ => trivial)
theorem RR.len (h : RR w b row d) : d.bs.length ≤ 1048576 := Nat.le_trans h.2.fit h.2.room
set_option maxHeartbeats 2000000 in
theorem je7 (h : RR w b row d) : Calls Tryz.prog 33 #[.pointer (some ⟨b, 0, none⟩)] w fun e w' => ∃ v, e = .returned v ∧ OB w' w.heap.size v d.bs ∧ Below w.heap.size w w' := by
 have hlen : (d.bs.length : Int) ≤ 1048576 := by have := h.len; omega
 obtain ⟨⟨ao, cap, hD, hR⟩, _⟩ := h
 have hz := hD.c0
 obtain ⟨hC, hcap, _⟩ := hR.reads
 have HC := iC.mk hC
 clear hD hR hC
 go_enter Tryz.func33, Tryz.ntmps33
 go_wp2_with (((at_builtin; refine Kd.R_append_rows kb (w0 := w) (World.heap w).size rfl (.tmp 4) (.tmp 8) 22 5 (.int .u8 0) 1 rfl Tryz.underlying22 nH rfl (by decide) (by omega) (.slice none 0 0) [] d.bs _ _ _ (fun _ => True) (fun _ => False) rfl rfl (OB.nil _ _) HC.out (fun _ _ h => h) (fun _ h => h.elim) (fun _ _ => trivial) ?aB ?aS ?aL ?_; (case aB => first | exact Below.refl _ _ | assumption | (repeat (first | exact Below.refl _ _ | apply iD | apply iW | apply iE | apply below_bytesWorld | (refine iM ?_ (by first | assumption | omega)) | refine iF ?_ (by assumption)))); (case aS => first | exact Nat.le_refl _ | exact iV (by assumption) | exact iV (by (repeat (first | exact Below.refl _ _ | apply iD | apply iW | apply iE | apply below_bytesWorld | (refine iM ?_ (by first | assumption | omega)) | refine iF ?_ (by assumption))))); (case aL => (try simp only [List.length_cons, List.length_nil]); omega); intro v1_ w_r1 HO_r1 HB_r1 hg_ hat_; obtain ⟨r1, hcat_⟩ : ∃ z, z = [] ++ d.bs := ⟨_, rfl⟩; rw [← hcat_] at HO_r1; have HT_r1 := iC.mk hcat_; clear hcat_ hg_ hat_; obtain ⟨A4, c4, rfl, hc_r1, HC_r1⟩ := OB.reads HO_r1); have HT2 := iC.mk HO_r1; have HB2 := iC.mk HB_r1; clear HO_r1 HB_r1 HC_r1 hc_r1))
 go_ret
 exact ⟨_, rfl, by have h1 := HT_r1.out; rw [List.nil_append] at h1; rw [← h1]; exact HT2.out, HB2.out⟩
end
def RLg (w : World) (g b : Nat) : Prop := w.heap[g]? = some (.cells #[.pointer (some ⟨b, 0, none⟩)] 87 (0, 0))
def j05 (w : World) (b : Nat) (row : Option Nat) (d : DM) (e : Ending) (w' : World) : Prop :=
 ∃ row', RR w' b row' (lN d) ∧ Nw w row row' ∧ Kb b row w w' ∧
  ((nK d = 0 ∧ ∃ g v, e = .returned (.tuple #[.pointer (some ⟨g, 0, none⟩), v, .int .i64 0]) ∧ w.heap.size ≤ g ∧ RLg w' g b ∧ RRs w' w.heap.size v (nD (jY d.bs))) ∨
   (nK d ≠ 0 ∧ e = .returned (.tuple #[.pointer none, .slice none 0 0, .int .i64 (nK d)])))
attribute [-go_sem] Instr.build Instr.storeAt
theorem UK (b : Nat) : (Tryz.prog).built 87 (#[(0, .pointer (some ⟨b, 0, none⟩))] : Array (Nat × Value)).toList = some #[.pointer (some ⟨b, 0, none⟩)] := by kernel_rfl
theorem je4 (w : World) (b : Nat) : (Instr.build 87 #[(0, .pointer (some ⟨b, 0, none⟩))]).run Tryz.prog w = .ok (.agg #[.pointer (some ⟨b, 0, none⟩)]) w := run_build w _ _ _ (UK b)
attribute [local go_sem] je4
set_option maxRecDepth 20000 in
set_option maxHeartbeats 16000000 in
theorem XJ {w : World} {b : Nat} {row : Option Nat} {d : DM} (h : RR w b row d) (hbig : (d.bs.length : Int) ≤ 1000000) : Calls Tryz.prog 11 #[.pointer (some ⟨b, 0, none⟩)] w (j05 w b row d) := by
 have HD := iC.mk h
 have hcall := je7 h
 have hwI : (walN d : Int) ≤ (d.bs.length : Int) := by have := OM d; omega
 clear h
 go_enter Tryz.func11, Tryz.ntmps11
 go_wp2_with fail
 go_at_call 33
 refine hcall.mono ?_
 rintro e w1 ⟨v1, rfl, ho1, hb1⟩
 obtain ⟨A1, c1, rfl, hc1, hC1⟩ := ho1.reads
 have HD1 := iC.mk (HD.out.below hb1)
 have HB1 := iC.mk hb1
 clear hcall ho1 hb1 HD
 have hcall := OH A1 c1 d.bs w1 hC1 hc1 hbig
 have hend : endB (jY d.bs) ≤ 1000000 := by have := VJ d.bs; omega
 have hlen : (jY d.bs).length ≤ endB (jY d.bs) := by
  unfold endB
  generalize jY d.bs = q
  induction q with
  | nil => simp
  | cons x q ih => simp only [List.map_cons, List.sum_cons, List.length_cons]; omega
 have HSM := iC.mk (fun x hx => (JI d.bs).elim fun r h => h.2.2 x hx : ∀ x ∈ jY d.bs, x.length ≤ 60000)
 have HWN := iC.mk (show walN d = endB (okL (jY d.bs)) from rfl)
 obtain ⟨ls, hls⟩ : ∃ ls, jY d.bs = ls := ⟨_, rfl⟩
 rw [hls] at hcall hend hlen HSM HWN
 have HLS := iC.mk hls
 have hlI : (ls.length : Int) ≤ 1000000 := by omega
 have hEI : (endB ls : Int) ≤ 1000000 := by omega
 clear hls hC1 hc1 hend hlen
 go_wp2_with fail
 go_at_call 32
 refine hcall.mono ?_
 rintro e w2 ⟨v, rfl, hO, hb2⟩
 obtain ⟨Aa, ca, rfl, hca, hC⟩ := hO.reads
 have HC := iC.mk hC
 have HB2 := iC.mk (iF HB1.out hb2)
 have HD2 := iC.mk (HD1.out.below hb2)
 clear hcall hO hC hb2 HB1 HD1
 go_wp2
 go_loopw [7, 8, 9] (fun o s i wr => ∃ k : Nat, k ≤ ls.length ∧ i = .int .i64 k ∧ s = .int .i64 (endK ls k : Int) ∧ iC (okK ls k) ∧ iC (RRs wr w2.heap.size o (decK ls k)) ∧ iC (Below w2.heap.size w2 wr)) (fun _ _ i _ => ls.length - (intOf i).toNat)
 case atStart => exact ⟨0, Nat.zero_le _, rfl, rfl, ⟨QA _⟩, ⟨Kd.R_nil _ _ _ _ _⟩, ⟨Below.refl _ _⟩⟩
 case round =>
  obtain ⟨k, hk, rfl, rfl, HOK, HR, HB⟩ := hrel
  obtain ⟨Ao, co, rfl⟩ := Kd.R_slice HR.out
  by_cases hlt : k < ls.length
  ·obtain ⟨ad, A3, c3, rfl, hx0, hxc, hxC0⟩ := RX HC.out k hlt
   have HX0 := iC.mk hx0
   have hx := (HB.out.cell (World.block_lt_of_cell? _ _ hx0)).trans hx0
   have hxC := Kd.C_below hxC0 HB.out
   have hsu := MI ls k hlt
   have hle := XR ls (k + 1)
   have hmem : ls.getD k [] ∈ ls := by
    rw [List.getD_eq_getElem?_getD, List.getElem?_eq_getElem hlt]
    exact List.getElem_mem hlt
   have h6 := HSM.out _ hmem
   have hdec := PQ A3 c3 (ls.getD k []) wr (uF hxC) hxc
   have HDK := iC.mk (NC ls k hlt)
   have hn1 := fun h => QM HOK.out hlt h
   have hn2 := fun h => Q8 HOK.out hlt h
   have HLT := iC.mk hlt
   clear hx0 hxC0
   generalize ls.getD k [] = x at hx hxc hxC hsu h6 hdec HDK hn1 hn2 HX0
   have HSU := iC.mk (show (endK ls k : Int) + ((x.length : Int) + 7) = (endK ls (k + 1) : Int) from by omega)
   have hb2 : (endK ls k : Int) + ((x.length : Int) + 7) ≤ 1000000 := by omega
   have hk1 : (k : Int) < (ls.length : Int) := by omega
   have hx6 : (x.length : Int) ≤ 60000 := by omega
   obtain ⟨⟨X, E⟩, hD⟩ : ∃ D, decR x = D := ⟨_, rfl⟩
   rw [hD] at hdec HDK hn1 hn2
   have HN1 := iC.mk hn1
   have HN2 := iC.mk hn2
   clear hsu hle hmem hxC hn1 hn2 hD hlt h6
   obtain ⟨wo, rfl⟩ : ∃ x : World, x = wr := ⟨_, rfl⟩
   go_wp2_with fail
   go_at_call 34
   refine hdec.mono ?_
   rintro e w3 ⟨B3, b3, B4, b4, B6, b6, B9, b9, rfl, hO, hb2'⟩
   dsimp only at hO
   dsimp only
   have hsx := fun (_ : True) => run_storeAt_new (P := Tryz.prog) w3 54 #[.int .u8 0, .int .u32 0, .int .u32 0, .slice none 0 0, .slice none 0 0, .int .u32 0, .slice none 0 0, .int .i64 0, .int .i64 0, .slice none 0 0] #[.int .u8 X.f0, .int .u32 X.f1, .int .u32 X.f2, .slice B3 X.f3.length b3, .slice B4 X.f4.length b4, .int .u32 X.f5.f0, .slice B6 X.f5.f1.length b6, .int .i64 X.f6, .int .i64 X.f7, .slice B9 X.f8.length b9] (by kernel_rfl) rfl (by simp [Value.oneCell'])
   obtain ⟨W2, hW2⟩ : ∃ W, W = w3.alloc (.cells #[.int .u8 X.f0, .int .u32 X.f1, .int .u32 X.f2, .slice B3 X.f3.length b3, .slice B4 X.f4.length b4, .int .u32 X.f5.f0, .slice B6 X.f5.f1.length b6, .int .i64 X.f6, .int .i64 X.f7, .slice B9 X.f8.length b9] 54) := ⟨_, rfl⟩
   have hbw : Below w3.heap.size w3 W2 := by rw [hW2]; exact iD (Below.refl _ _) _
   have hbb : Below wo.heap.size wo W2 := iF hb2' hbw
   have HX2 := iC.mk (show W2.heap[w3.heap.size]? = some (.cells #[.int .u8 X.f0, .int .u32 X.f1, .int .u32 X.f2, .slice B3 X.f3.length b3, .slice B4 X.f4.length b4, .int .u32 X.f5.f0, .slice B6 X.f5.f1.length b6, .int .i64 X.f6, .int .i64 X.f7, .slice B9 X.f8.length b9] 54 (0, 0)) from by rw [hW2]; exact iO rfl)
   have HO2 := iC.mk ((hO.below hbw).lower HB.out.size)
   have HR2 := iC.mk (HR.out.below hbb)
   have HB3 := iC.mk (iF HB.out hbb)
   have HW2 := iC.mk hW2
   clear hdec hO hb2' hbw hbb hW2 HR HB hx
   go_upto_region 8 with fail
   rw [← HW2.out]
   clear hsx HW2
   by_cases hE : E = 0
   ·subst hE
    have HOK2 := iC.mk (HN1.out rfl)
    clear HOK HN1 HN2
    obtain ⟨wz0, wz1, wz2, wz3, wz4, wz5, wz6, wz7, wz8, wz9, wy0, wy1, wy2, wy3, wy4, wy5, wy6, wy7, wy8, wy9⟩ := ten (HX2.out)
    clear wy0 wy1 wy2 wy3 wy4 wy5 wy6 wy7 wy8 wy9
    have HLK := iC.mk (show (decK ls k).length = k from by unfold decK; rw [List.length_map, List.length_take]; have := HLT.out; omega)
    go_wp2_with (at_builtin; go_loud (refine Kd.R_append kR (w0 := W2) w2.heap.size rfl (.tmp 36) (.tmp 38) 33 54 (.agg #[.int .u8 0, .int .u32 0, .int .u32 0, .slice none 0 0, .slice none 0 0, .int .u32 0, .slice none 0 0, .int .i64 0, .int .i64 0, .slice none 0 0]) 136 rfl Tryz.underlying33 Q9 rfl (by decide) (by omega) (.slice Ao (decK ls k).length co) (decK ls k) X [.int .u8 X.f0, .int .u32 X.f1, .int .u32 X.f2, .slice B3 X.f3.length b3, .slice B4 X.f4.length b4, .int .u32 X.f5.f0, .slice B6 X.f5.f1.length b6, .int .i64 X.f6, .int .i64 X.f7, .slice B9 X.f8.length b9] (fun _ => True) (fun j => some j ≠ (Value.slice Ao (decK ls k).length co).ownBlock) rfl rfl ?aP ?aK ?aF ?aO (Below.refl _ _) ?aB ?aL ?_; (case aP => exact ND (kR_M HO2.out) HR2.out); (case aK => exact fun _ h => ⟨trivial, h⟩); (case aF => exact fun _ _ => trivial); (case aO => exact HR2.out); (case aB => exact HB3.out.size); (case aL => (rw [HLK.out]; omega)); intro v5 w5 ho hb5 hg5 hat; have HR5 := iC.mk (show RRs w5 w2.heap.size v5 (decK ls (k + 1)) from by rw [HDK.out]; exact ho); have HB5 := iC.mk (HB3.out.trans hb5); have hx5 := ((HB3.out.trans hb5).cell (World.block_lt_of_cell? _ _ HX0.out)).trans HX0.out; clear ho hb5 hg5 hat))
    go_roundw
    case rel => exact ⟨k + 1, by omega, by go_num, by rw [← HSU.out], HOK2, HR5, HB5⟩
    case measure => simp [intOf]; omega
   ·have HOK2 := iC.mk (HN2.out hE)
    have hsz : endK ls k = walN d := by rw [HWN.out, HOK2.out]; rfl
    have hrl : decK ls k = nD ls := by unfold nD; rw [HOK2.out]; rfl
    have HBr := iC.mk (iF HB2.out HB3.out)
    have HDr := iC.mk (HD2.out.below HB3.out)
    have HRr := iC.mk (show RRs W2 w.heap.size (.slice Ao (nD ls).length co) (nD ls) from by rw [← hrl]; exact HR2.out.lower HB2.out.size)
    have HKr := iC.mk (Kb.of_below (b := b) (row := row) HBr.out)
    rw [hsz, hrl]
    clear HOK HN1 HN2 hb2 hEI hlI hx6 HOK2 HSU HX2 HO2 HR2 HB3 HLT HDK hsz hrl HBr HD2
    obtain ⟨rs, hrs⟩ : ∃ rs, rs = nD ls := ⟨_, rfl⟩
    rw [← hrs] at HRr ⊢
    have HRS := iC.mk (show rs = nD (jY d.bs) from by rw [hrs, HLS.out])
    clear hrs
    go_upto_region 11 with fail
    have HD2 := iC.mk (HDr.out)
    have HR2 := iC.mk HRr.out
    have HK2 := iC.mk HKr.out
    have HS2 := iC.mk HKr.out.size
    obtain ⟨⟨ao, cap, hDc, _⟩, _⟩ := HDr.out
    have hz := hDc.c0
    clear hDc HDr HRr HKr
    by_cases hlt : (walN d : Int) < (d.bs.length : Int)
    ·have HCD := iC.mk (show cutD d = d.cut (walN d) from by unfold cutD; rw [if_pos (by omega)])
     have HCO := iC.mk (show cutO d = d.cutE (walN d) from by unfold cutO; rw [if_pos (by omega)])
     have hcut := jg5 (walN d : Int) HD2.out
     have hE := (lZ d (walN d)).1
     have hS := (lZ (d.cut (walN d)) 0).2
     obtain ⟨E, hEE⟩ : ∃ E, E = d.cutE (walN d) := ⟨_, rfl⟩
     rw [← hEE] at hcut hE HCO
     clear hEE
     go_wp2_with fail
     go_at_call 35
     refine hcut.mono ?_
     rintro e w3 ⟨rfl, row3, hD3, hn3, hk3⟩
     have HN3 := iC.mk (hn3.older HS2.out)
     have HK3 := iC.mk (HK2.out.then hk3 (Nw.refl _ _))
     have HR3 := iC.mk (HR2.out.rkb HD2.out hk3)
     have HS3 := iC.mk (Nat.le_trans HS2.out hk3.size)
     have HD3 := iC.mk hD3
     clear hcut hn3 hk3 hD3 HD2 HR2 HK2 HS2 hz
     by_cases hE0 : E = 0
     ·subst hE0
      have hsync := QJ HD3.out
      have HOD := iC.mk (show lN d = (d.cut (walN d)).sync from by unfold lN; rw [HCO.out, if_pos rfl, HCD.out])
      have HOE := iC.mk (show nK d = (d.cut (walN d)).syncE from by unfold nK; rw [HCO.out, if_pos rfl, HCD.out])
      obtain ⟨S, hSE⟩ : ∃ S, S = (d.cut (walN d)).syncE := ⟨_, rfl⟩
      rw [← hSE] at hsync hS HOE
      clear hSE hE
      go_wp2_with fail
      go_at_call 36
      refine hsync.mono ?_
      rintro e w4 ⟨rfl, row4, hD4, hn4, hk4⟩
      have HN4 := iC.mk (HN3.out.trans HS3.out hn4)
      have HK4 := iC.mk (HK3.out.then hk4 HN3.out)
      have HR4 := iC.mk (HR3.out.rkb HD3.out hk4)
      have HS4 := iC.mk (Nat.le_trans HS3.out hk4.size)
      have HD4 := iC.mk hD4
      clear hsync hn4 hk4 hD4 HD3 HR3 HK3 HS3 HN3
      by_cases hS0 : S = 0
      ·subst hS0
       clear hS
       go_wp2
       go_ret3
       have hb5 : Below w4.heap.size w4 (w4.alloc (.cells #[.pointer (some ⟨b, 0, none⟩)] 87)) := iD (Below.refl _ _) _
       exact ⟨row4, by rw [HOD.out]; exact HD4.out.below hb5, HN4.out, HK4.out.then (Kb.of_below hb5) HN4.out, .inl ⟨HOE.out, w4.heap.size, .slice Ao rs.length co, rfl, HS4.out, iO rfl, by rw [← HRS.out]; exact HR4.out.below hb5⟩⟩
      ·obtain rfl := hS.resolve_left hS0
       clear hS hS0
       go_wp2
       go_ret3
       exact ⟨row4, by rw [HOD.out]; exact HD4.out, HN4.out, HK4.out, .inr ⟨by rw [HOE.out]; decide, by rw [HOE.out]; rfl⟩⟩
     ·have HOD := iC.mk (show lN d = d.cut (walN d) from by unfold lN; rw [HCO.out, if_neg hE0, HCD.out])
      have HOE := iC.mk (show nK d = E from by unfold nK; rw [HCO.out, if_neg hE0])
      have hE1 : E = 1 ∨ E = 100 := hE.resolve_left hE0
      clear hE hS
      rcases hE1 with rfl | rfl
      all_goals
       go_wp2
       go_ret3
       exact ⟨row3, by rw [HOD.out]; exact HD3.out, HN3.out, HK3.out, .inr ⟨by rw [HOE.out]; decide, by rw [HOE.out]; rfl⟩⟩
    ·have HCO := iC.mk (show cutO d = 0 from by unfold cutO; rw [if_neg (by omega)])
     have HCD := iC.mk (show cutD d = d from by unfold cutD; rw [if_neg (by omega)])
     have hsync := QJ HD2.out
     have hS := (lZ d 0).2
     have HOD := iC.mk (show lN d = d.sync from by unfold lN; rw [HCO.out, if_pos rfl, HCD.out])
     have HOE := iC.mk (show nK d = d.syncE from by unfold nK; rw [HCO.out, if_pos rfl, HCD.out])
     obtain ⟨S, hSE⟩ : ∃ S, S = d.syncE := ⟨_, rfl⟩
     rw [← hSE] at hsync hS HOE
     clear hSE
     go_wp2_with fail
     go_at_call 36
     refine hsync.mono ?_
     rintro e w4 ⟨rfl, row4, hD4, hn4, hk4⟩
     have HN4 := iC.mk (hn4.older HS2.out)
     have HK4 := iC.mk (HK2.out.then hk4 (Nw.refl _ _))
     have HR4 := iC.mk (HR2.out.rkb HD2.out hk4)
     have HS4 := iC.mk (Nat.le_trans HS2.out hk4.size)
     have HD4 := iC.mk hD4
     clear hsync hn4 hk4 hD4 HD2 HR2 HK2 HS2 hz
     by_cases hS0 : S = 0
     ·subst hS0
      clear hS
      go_wp2
      go_ret3
      have hb5 : Below w4.heap.size w4 (w4.alloc (.cells #[.pointer (some ⟨b, 0, none⟩)] 87)) := iD (Below.refl _ _) _
      exact ⟨row4, by rw [HOD.out]; exact HD4.out.below hb5, HN4.out, HK4.out.then (Kb.of_below hb5) HN4.out, .inl ⟨HOE.out, w4.heap.size, .slice Ao rs.length co, rfl, HS4.out, iO rfl, by rw [← HRS.out]; exact HR4.out.below hb5⟩⟩
     ·obtain rfl := hS.resolve_left hS0
      clear hS hS0
      go_wp2
      go_ret3
      exact ⟨row4, by rw [HOD.out]; exact HD4.out, HN4.out, HK4.out, .inr ⟨by rw [HOE.out]; decide, by rw [HOE.out]; rfl⟩⟩
  ·obtain rfl : k = ls.length := by omega
   have HOK2 := iC.mk (XE HOK.out)
   have hsz : endK ls ls.length = walN d := by rw [HWN.out, HOK2.out]; unfold endK; rw [List.take_length]
   have hrl : decK ls ls.length = nD ls := by unfold nD decK; rw [HOK2.out, List.take_length]
   have HDr := iC.mk (HD2.out.below HB.out)
   have HBr := iC.mk (iF HB2.out HB.out)
   have HRr := iC.mk (show RRs wr w.heap.size (.slice Ao (nD ls).length co) (nD ls) from by rw [← hrl]; exact HR.out.lower HB2.out.size)
   have HKr := iC.mk (Kb.of_below (b := b) (row := row) HBr.out)
   rw [hsz, hrl]
   clear HOK HOK2 HB HR hEI hlI hsz hrl hlt HBr HD2
   obtain ⟨rs, hrs⟩ : ∃ rs, rs = nD ls := ⟨_, rfl⟩
   rw [← hrs] at HRr ⊢
   have HRS := iC.mk (show rs = nD (jY d.bs) from by rw [hrs, HLS.out])
   clear hrs
   go_upto_region 11 with fail
   have HD2 := iC.mk (HDr.out)
   have HR2 := iC.mk HRr.out
   have HK2 := iC.mk HKr.out
   have HS2 := iC.mk HKr.out.size
   obtain ⟨⟨ao, cap, hDc, _⟩, _⟩ := HDr.out
   have hz := hDc.c0
   clear hDc HDr HRr HKr
   by_cases hlt : (walN d : Int) < (d.bs.length : Int)
   ·have HCD := iC.mk (show cutD d = d.cut (walN d) from by unfold cutD; rw [if_pos (by omega)])
    have HCO := iC.mk (show cutO d = d.cutE (walN d) from by unfold cutO; rw [if_pos (by omega)])
    have hcut := jg5 (walN d : Int) HD2.out
    have hE := (lZ d (walN d)).1
    have hS := (lZ (d.cut (walN d)) 0).2
    obtain ⟨E, hEE⟩ : ∃ E, E = d.cutE (walN d) := ⟨_, rfl⟩
    rw [← hEE] at hcut hE HCO
    clear hEE
    go_wp2_with fail
    go_at_call 35
    refine hcut.mono ?_
    rintro e w3 ⟨rfl, row3, hD3, hn3, hk3⟩
    have HN3 := iC.mk (hn3.older HS2.out)
    have HK3 := iC.mk (HK2.out.then hk3 (Nw.refl _ _))
    have HR3 := iC.mk (HR2.out.rkb HD2.out hk3)
    have HS3 := iC.mk (Nat.le_trans HS2.out hk3.size)
    have HD3 := iC.mk hD3
    clear hcut hn3 hk3 hD3 HD2 HR2 HK2 HS2 hz
    by_cases hE0 : E = 0
    ·subst hE0
     have hsync := QJ HD3.out
     have HOD := iC.mk (show lN d = (d.cut (walN d)).sync from by unfold lN; rw [HCO.out, if_pos rfl, HCD.out])
     have HOE := iC.mk (show nK d = (d.cut (walN d)).syncE from by unfold nK; rw [HCO.out, if_pos rfl, HCD.out])
     obtain ⟨S, hSE⟩ : ∃ S, S = (d.cut (walN d)).syncE := ⟨_, rfl⟩
     rw [← hSE] at hsync hS HOE
     clear hSE hE
     go_wp2_with fail
     go_at_call 36
     refine hsync.mono ?_
     rintro e w4 ⟨rfl, row4, hD4, hn4, hk4⟩
     have HN4 := iC.mk (HN3.out.trans HS3.out hn4)
     have HK4 := iC.mk (HK3.out.then hk4 HN3.out)
     have HR4 := iC.mk (HR3.out.rkb HD3.out hk4)
     have HS4 := iC.mk (Nat.le_trans HS3.out hk4.size)
     have HD4 := iC.mk hD4
     clear hsync hn4 hk4 hD4 HD3 HR3 HK3 HS3 HN3
     by_cases hS0 : S = 0
     ·subst hS0
      clear hS
      go_wp2
      go_ret3
      have hb5 : Below w4.heap.size w4 (w4.alloc (.cells #[.pointer (some ⟨b, 0, none⟩)] 87)) := iD (Below.refl _ _) _
      exact ⟨row4, by rw [HOD.out]; exact HD4.out.below hb5, HN4.out, HK4.out.then (Kb.of_below hb5) HN4.out, .inl ⟨HOE.out, w4.heap.size, .slice Ao rs.length co, rfl, HS4.out, iO rfl, by rw [← HRS.out]; exact HR4.out.below hb5⟩⟩
     ·obtain rfl := hS.resolve_left hS0
      clear hS hS0
      go_wp2
      go_ret3
      exact ⟨row4, by rw [HOD.out]; exact HD4.out, HN4.out, HK4.out, .inr ⟨by rw [HOE.out]; decide, by rw [HOE.out]; rfl⟩⟩
    ·have HOD := iC.mk (show lN d = d.cut (walN d) from by unfold lN; rw [HCO.out, if_neg hE0, HCD.out])
     have HOE := iC.mk (show nK d = E from by unfold nK; rw [HCO.out, if_neg hE0])
     have hE1 : E = 1 ∨ E = 100 := hE.resolve_left hE0
     clear hE hS
     rcases hE1 with rfl | rfl
     all_goals
      go_wp2
      go_ret3
      exact ⟨row3, by rw [HOD.out]; exact HD3.out, HN3.out, HK3.out, .inr ⟨by rw [HOE.out]; decide, by rw [HOE.out]; rfl⟩⟩
   ·have HCO := iC.mk (show cutO d = 0 from by unfold cutO; rw [if_neg (by omega)])
    have HCD := iC.mk (show cutD d = d from by unfold cutD; rw [if_neg (by omega)])
    have hsync := QJ HD2.out
    have hS := (lZ d 0).2
    have HOD := iC.mk (show lN d = d.sync from by unfold lN; rw [HCO.out, if_pos rfl, HCD.out])
    have HOE := iC.mk (show nK d = d.syncE from by unfold nK; rw [HCO.out, if_pos rfl, HCD.out])
    obtain ⟨S, hSE⟩ : ∃ S, S = d.syncE := ⟨_, rfl⟩
    rw [← hSE] at hsync hS HOE
    clear hSE
    go_wp2_with fail
    go_at_call 36
    refine hsync.mono ?_
    rintro e w4 ⟨rfl, row4, hD4, hn4, hk4⟩
    have HN4 := iC.mk (hn4.older HS2.out)
    have HK4 := iC.mk (HK2.out.then hk4 (Nw.refl _ _))
    have HR4 := iC.mk (HR2.out.rkb HD2.out hk4)
    have HS4 := iC.mk (Nat.le_trans HS2.out hk4.size)
    have HD4 := iC.mk hD4
    clear hsync hn4 hk4 hD4 HD2 HR2 HK2 HS2 hz
    by_cases hS0 : S = 0
    ·subst hS0
     clear hS
     go_wp2
     go_ret3
     have hb5 : Below w4.heap.size w4 (w4.alloc (.cells #[.pointer (some ⟨b, 0, none⟩)] 87)) := iD (Below.refl _ _) _
     exact ⟨row4, by rw [HOD.out]; exact HD4.out.below hb5, HN4.out, HK4.out.then (Kb.of_below hb5) HN4.out, .inl ⟨HOE.out, w4.heap.size, .slice Ao rs.length co, rfl, HS4.out, iO rfl, by rw [← HRS.out]; exact HR4.out.below hb5⟩⟩
    ·obtain rfl := hS.resolve_left hS0
     clear hS hS0
     go_wp2
     go_ret3
     exact ⟨row4, by rw [HOD.out]; exact HD4.out, HN4.out, HK4.out, .inr ⟨by rw [HOE.out]; decide, by rw [HOE.out]; rfl⟩⟩
end Go.Proofs.YtgfkgppomaapiaaGreatDoor.K
end

section
namespace Go.Proofs.YtgfkgppomaapiaaGreatDoor.K
open RowKit YtgfkgppomaapiaaGreatDoorW.PrintWords YtgfkgppomaapiaaGreatDoorW.PrintLast YtgfkgppomaapiaaGreatDoorW.PrintMore My
def pX (d : DM) (r : SRec) : Int := if (encR r).2 = 0 then d.appE (kT (recE r)) else (encR r).2
def pF (d : DM) (r : SRec) : DM := if (encR r).2 = 0 then d.app (kT (recE r)) else d
def rU (d : DM) (r : SRec) : Int := if pX d r = 0 then (pF d r).syncE else pX d r
def qH (d : DM) (r : SRec) : DM := if pX d r = 0 then (if (pF d r).syncE = 0 then (pF d r).sync else (pF d r).sync.cut d.bs.length) else pF d r
theorem ja2 (d : DM) (l : List UInt8) : d.appE l = 0 ∨ d.appE l = 100 := by
 unfold DM.appE
 (repeat' split) <;> simp
theorem O4 (d : DM) (r : SRec) : pX d r = 0 ∨ pX d r = 1 ∨ pX d r = 3 ∨ pX d r = 100 := by
 unfold pX
 rcases oQ r with h | h | h <;> rw [h]
 ·exact .inr (.inl (if_neg (by decide)))
 ·exact .inr (.inr (.inl (if_neg (by decide))))
 ·rw [if_pos rfl]
  rcases ja2 d (kT (recE r)) with h | h <;> rw [h] <;> simp
theorem MN {r : SRec} (h : encR r = (nums (recE r), 0)) : (recE r).length ≤ 60000 := by
 unfold encR at h
 split at h
 ·split at h
  ·injection h with _ h2; cases h2
  ·omega
 ·injection h with _ h2; cases h2
attribute [-go_sem] Instr.build Instr.storeAt
set_option maxRecDepth 20000 in
set_option maxHeartbeats 8000000 in
theorem RS {w : World} {b g : Nat} {row : Option Nat} {d : DM} {r : SRec} {A3 A4 A6 A9 : Option Addr} {a3 a4 a6 a9 : Nat} (h : DD w b row d) (hg : Lg w g b) (hr : Lies w r A3 a3 A4 a4 A6 a6 A9 a9) :
  Calls Tryz.prog 15 #[.pointer (some ⟨g, 0, none⟩), .agg #[.int .u8 r.f0, .int .u32 r.f1, .int .u32 r.f2, .slice A3 r.f3.length a3, .slice A4 r.f4.length a4, .int .u32 r.f5.f0, .slice A6 r.f5.f1.length a6, .int .i64 r.f6, .int .i64 r.f7, .slice A9 r.f8.length a9]] w (DP (.int .u16 (pX d r)) w b row (pF d r)) := by
 obtain ⟨W, hW⟩ : ∃ W, W = w.alloc (.cells #[.int .u8 r.f0, .int .u32 r.f1, .int .u32 r.f2, .slice A3 r.f3.length a3, .slice A4 r.f4.length a4, .int .u32 r.f5.f0, .slice A6 r.f5.f1.length a6, .int .i64 r.f6, .int .i64 r.f7, .slice A9 r.f8.length a9] 54) := ⟨_, rfl⟩
 have hb : Below w.heap.size w W := by rw [hW]; exact iD (Below.refl _ _) _
 have HX := iC.mk (show W.heap[w.heap.size]? = some (.cells #[.int .u8 r.f0, .int .u32 r.f1, .int .u32 r.f2, .slice A3 r.f3.length a3, .slice A4 r.f4.length a4, .int .u32 r.f5.f0, .slice A6 r.f5.f1.length a6, .int .i64 r.f6, .int .i64 r.f7, .slice A9 r.f8.length a9] 54 (0, 0)) from by rw [hW]; exact iO rfl)
 have HD := iC.mk (h.below hb)
 have HG := iC.mk (hg.below hb)
 have HL := iC.mk (hr.below hb)
 have HB := iC.mk hb
 have HW := iC.mk hW
 have HLT := iC.mk h.1.lt
 have HLT2 := iC.mk (show b < W.heap.size from HD.out.1.lt)
 clear h hg hr hb hW
 obtain ⟨⟨E1, E2⟩, hE⟩ : ∃ E : List Int × Int, encR r = E := ⟨_, rfl⟩
 have hcall := PU HL.out hE
 have hcs := oQ r
 have HE := iC.mk hE
 rw [hE] at hcs
 have HCS := iC.mk hcs
 clear hE hcs
 go_enter Tryz.func15, Tryz.ntmps15
 go_upto_region 1 with fail
 rw [← HW.out]
 obtain ⟨wz0, wz1, wz2, wz3, wz4, wz5, wz6, wz7, wz8, wz9, wy0, wy1, wy2, wy3, wy4, wy5, wy6, wy7, wy8, wy9⟩ := ten (HX.out)
 clear wy0 wy1 wy2 wy3 wy4 wy5 wy6 wy7 wy8 wy9
 go_wp2_with fail
 go_at_call 41
 refine hcall.mono ?_
 rintro e w1 ⟨v0, rfl, h0, hb1⟩
 obtain ⟨A0, c0, rfl⟩ := Kd.R_slice h0
 obtain ⟨_, q0, C0⟩ := Kd.R_reads' h0
 have HD1 := iC.mk (HD.out.below hb1)
 have HG1 := iC.mk (HG.out.below hb1)
 have HB1 := iC.mk (iF HB.out hb1)
 have hcs := HCS.out
 clear hcall h0 hb1 wz0 wz1 wz2 wz3 wz4 wz5 wz6 wz7 wz8 wz9 HX HL HD HG HB
 have hbad : ∀ E, E ≠ 0 → (encR r).2 = E → DP (.int .u16 (pX d r)) w b row (pF d r) (.returned (.int .u16 E)) w1 := fun E h0 hE => by
  unfold pX pF
  rw [hE, if_neg h0, if_neg h0]
  exact ⟨rfl, row, HD1.out, Nw.refl _ _, Kb.of_below HB1.out⟩
 rcases hcs with hc | hc | hc
 ·obtain ⟨rfl, rfl⟩ := Prod.mk.inj hc
  have HBAD := iC.mk (hbad 1 (by decide) (by rw [HE.out]))
  clear hc hbad C0 q0
  go_wp2
  go_ret
  exact HBAD.out
 ·obtain ⟨rfl, rfl⟩ := Prod.mk.inj hc
  have HBAD := iC.mk (hbad 3 (by decide) (by rw [HE.out]))
  clear hc hbad C0 q0
  go_wp2
  go_ret
  exact HBAD.out
 ·obtain ⟨rfl, rfl⟩ := Prod.mk.inj hc
  have hlen : (nums (recE r)).length = (recE r).length := jJ _
  have hsh := MN HE.out
  rw [hlen] at q0 C0
  have hwrap := wrap_any A0 c0 (recE r) w1 (uD C0) q0 hsh
  have HSH := iC.mk hsh
  rw [hlen]
  clear hc hbad C0 q0 hlen hsh
  go_wp2_with fail
  go_at_call 42
  refine hwrap.mono ?_
  rintro e w2 ⟨vw, rfl, hO, hb2⟩
  have hbase := fun k => Kd.R_base hO k
  obtain ⟨Aw, cw, rfl, hcw, hCw⟩ := hO.reads
  have HD2 := iC.mk (HD1.out.below hb2)
  have HB2 := iC.mk (iF HB1.out hb2)
  have hz := (iH (HG1.out.below hb2) 0).trans (show _ = some (Value.pointer (some ⟨b, 0, none⟩)) from rfl)
  have hwl := qN (recE r)
  have hlt := HD1.out.1.lt
  have happ := RD (c := cw) HD2.out hCw (fun a e _ hab => by subst e; have := hbase a.block rfl; omega) (by have := HSH.out; omega)
  have HF := iC.mk (show ∀ e' w', DP (.int .u16 (d.appE (kT (recE r)))) w2 b row (d.app (kT (recE r))) e' w' → DP (.int .u16 (pX d r)) w b row (pF d r) e' w' from fun e' w' hp => by
   unfold pX pF
   rw [HE.out, if_pos rfl, if_pos rfl]
   obtain ⟨he, row', h1, h2, h3⟩ := hp
   exact ⟨he, row', h1, h2.older HB2.out.size, (Kb.of_below (b := b) (row := row) HB2.out).then h3 (Nw.refl _ _)⟩)
  generalize kT (recE r) = L at happ hcw hCw hwl HF
  obtain ⟨E, hEE⟩ : ∃ E, E = d.appE L := ⟨_, rfl⟩
  rw [← hEE] at happ HF
  clear hwrap hO hb2 hcw hCw hwl hlt HD1 HG1 HB1 hbase hEE
  go_wp2_with fail
  go_at_call 8
  refine happ.mono ?_
  rintro e w3 ⟨rfl, hp⟩
  have HP := iC.mk (HF.out _ _ ⟨rfl, hp⟩)
  clear happ hp HF
  go_wp2
  go_ret
  exact HP.out
end Go.Proofs.YtgfkgppomaapiaaGreatDoor.K
end

section
namespace Go.Proofs.YtgfkgppomaapiaaGreatDoor.K
open Go.RowKit Go.Proofs.YtgfkgppomaapiaaGreatDoorW.PrintWords Go.Proofs.YtgfkgppomaapiaaGreatDoor.My
theorem yL {n x : Nat} {b t : List UInt8} (h : number n b = some (x, t)) : x < 256 ^ n := by
 unfold number at h
 split at h
 ·cases h
 ·injection h with h
  injection h with h1 h2
  subst h1
  have := xJ (b.take n)
  rwa [List.length_take, Nat.min_eq_left (by omega)] at this
theorem xQ {n : Nat} {x : Int} {b t : List UInt8} (h : intP n b = some (x, t)) : 0 ≤ x ∧ x < 256 ^ n := by
 unfold intP at h
 obtain ⟨⟨y, s⟩, h1, h2⟩ := Option.bind_eq_some_iff.1 h
 injection h2 with h2
 injection h2 with h3 h4
 subst h3
 have := yL h1
 simp only
 have h9 : ((y : Nat) : Int) < ((256 ^ n : Nat) : Int) := by omega
 exact ⟨by omega, by simpa using h9⟩
theorem OI {α : Type} {p : List UInt8 → Option (α × List UInt8)} {Q : α → Prop} (hp : ∀ b x t, p b = some (x, t) → Q x) : ∀ (n : Nat) (b : List UInt8) (l : List α) (t : List UInt8), repP p n b = some (l, t) → ∀ x ∈ l, Q x
 | 0, b, l, t, h, x, hx => by
  unfold repP at h
  injection h with h
  injection h with h1 h2
  subst h1
  cases hx
 | n + 1, b, l, t, h, x, hx => by
  unfold repP at h
  obtain ⟨⟨y, s⟩, h1, h2⟩ := Option.bind_eq_some_iff.1 h
  obtain ⟨⟨ys, u⟩, h3, h4⟩ := Option.bind_eq_some_iff.1 h2
  injection h4 with h4
  injection h4 with h5 h6
  subst h5
  rcases List.mem_cons.1 hx with rfl | hx
  ·exact hp _ _ _ h1
  ·exact OI hp n _ _ _ h3 x hx
theorem jg2 {n : Nat} (h : n < 256 ^ 8) : -9223372036854775808 ≤ s64 n ∧ s64 n < 9223372036854775808 := by
 have e : (256 : Nat) ^ 8 = 18446744073709551616 := by decide
 rw [e] at h
 unfold s64
 split <;> omega
theorem ZH {b t : List UInt8} {f : jR} (h : pO b = some (f, t)) : J7 f := by
 unfold pO at h
 obtain ⟨x, _, h⟩ := Option.bind_eq_some_iff.1 h
 obtain ⟨y, _, h⟩ := Option.bind_eq_some_iff.1 h
 obtain ⟨⟨z, s⟩, h1, h⟩ := Option.bind_eq_some_iff.1 h
 injection h with h
 injection h with h2 h3
 subst h2
 exact jg2 (yL h1)
theorem NG {b t : List UInt8} {l : List jR} (h : mV b = some (l, t)) : ∀ f ∈ l, J7 f := by
 unfold mV at h
 obtain ⟨x, _, h⟩ := Option.bind_eq_some_iff.1 h
 exact OI (fun _ _ _ => ZH) _ _ _ _ h
theorem XX {b t : List UInt8} {e : jL} (h : mW b = some (e, t)) : zV e := by
 unfold mW at h
 obtain ⟨⟨x, s⟩, h1, h⟩ := Option.bind_eq_some_iff.1 h
 obtain ⟨⟨y, u⟩, h2, h⟩ := Option.bind_eq_some_iff.1 h
 injection h with h
 injection h with h3 h4
 subst h3
 have := xQ h1
 exact ⟨this.1, by have := this.2; simp at this ⊢; omega, NG h2⟩
theorem OO {b t : List UInt8} {l : List jL} (h : kY b = some (l, t)) : ∀ e ∈ l, zV e := by
 unfold kY at h
 obtain ⟨x, _, h⟩ := Option.bind_eq_some_iff.1 h
 exact OI (fun _ _ _ => XX) _ _ _ _ h
theorem z32' : (0 : Int) ≤ 0 ∧ (0 : Int) < 4294967296 := by decide
theorem PL {x : Int} {b t : List UInt8} (h : intP 4 b = some (x, t)) : 0 ≤ x ∧ x < 4294967296 := by
 have := xQ h
 exact ⟨this.1, by have := this.2; simp at this; omega⟩
theorem jd5 {b t : List UInt8} {r : SRec} (h : recP b = some (r, t)) : MQ r := by
 unfold recP at h
 obtain ⟨⟨k, s⟩, h1, h⟩ := Option.bind_eq_some_iff.1 h
 obtain ⟨⟨id, u⟩, h2, h⟩ := Option.bind_eq_some_iff.1 h
 have hk := xQ h1
 have hk : 0 ≤ k ∧ k < 256 := ⟨hk.1, by have := hk.2; simp at this; omega⟩
 have hid := PL h2
 simp only at h
 unfold oK at h
 split at h
 ·obtain ⟨⟨x, s⟩, h3, h⟩ := Option.bind_eq_some_iff.1 h
  obtain ⟨⟨y, s2⟩, h4, h⟩ := Option.bind_eq_some_iff.1 h
  injection h with h
  injection h with h5 h6
  subst h5
  exact ⟨hk, hid, z32', NG h4, z32', fun e h => by cases h⟩
 split at h
 ·obtain ⟨⟨x, s⟩, h3, h⟩ := Option.bind_eq_some_iff.1 h
  obtain ⟨⟨y, s2⟩, h4, h⟩ := Option.bind_eq_some_iff.1 h
  injection h with h
  injection h with h5 h6
  subst h5
  exact ⟨hk, hid, PL h3, (fun e h => by cases h), z32', fun e h => by cases h⟩
 split at h
 ·obtain ⟨⟨x, s⟩, h3, h⟩ := Option.bind_eq_some_iff.1 h
  obtain ⟨⟨y, s2⟩, h4, h⟩ := Option.bind_eq_some_iff.1 h
  injection h with h
  injection h with h5 h6
  subst h5
  exact ⟨hk, hid, z32', (fun e h => by cases h), PL h3, fun e h => by cases h⟩
 split at h
 ·obtain ⟨⟨x, s⟩, h3, h⟩ := Option.bind_eq_some_iff.1 h
  obtain ⟨⟨y, s2⟩, h4, h⟩ := Option.bind_eq_some_iff.1 h
  obtain ⟨⟨z, s3⟩, h7, h⟩ := Option.bind_eq_some_iff.1 h
  injection h with h
  injection h with h5 h6
  subst h5
  exact ⟨hk, hid, z32', (fun e h => by cases h), z32', OO h7⟩
 ·injection h with h
  injection h with h5 h6
  subst h5
  exact ⟨hk, hid, z32', (fun e h => by cases h), z32', fun e h => by cases h⟩
theorem jc1 (l : List UInt8) : ((decR l).2 ≠ 0 ∧ (decR l).1 = lX) ∨ (∃ x, decR l = (x, 0) ∧ jQ x = true ∧ MQ x ∧ recE x = l ∧ l.length ≤ 60000) := by
 unfold decR
 by_cases hl : 60000 < l.length
 ·rw [if_pos hl]; exact .inl ⟨(by decide : (3 : Int) ≠ 0), rfl⟩
 rw [if_neg hl]
 cases hp : recP l with
 | none => exact .inl ⟨(by decide : (70 : Int) ≠ 0), rfl⟩
 | some y =>
  obtain ⟨x, r⟩ := y
  simp only
  by_cases he : encR x = (nums l, 0)
  ·rw [if_pos he]
   refine .inr ⟨x, rfl, ?_, jd5 hp, ?_, by omega⟩
   ·unfold encR at he
    split at he
    ·assumption
    ·injection he with _ h2; cases h2
   ·rcases oQ x with h | h | h <;> rw [h] at he <;> injection he with h1 h2
    ·cases h2
    ·cases h2
    ·exact LD h1
  ·rw [if_neg he]; exact .inl ⟨(by decide : (70 : Int) ≠ 0), rfl⟩
theorem MP {x : SRec} (hs : jQ x = true) (hk : MQ x) (hl : (recE x).length ≤ 60000) : decR (recE x) = (x, 0) := by
 unfold decR
 have h1 := YT x [] hs hk
 rw [List.append_nil] at h1
 rw [if_neg (by omega), h1]
 simp only
 rw [if_pos]
 unfold encR
 rw [if_pos hs, if_neg (by omega)]
end Go.Proofs.YtgfkgppomaapiaaGreatDoor.K
end

section
namespace Go.Proofs.YtgfkgppomaapiaaGreatDoor.K
open RowKit YtgfkgppomaapiaaGreatDoorW.PrintWords YtgfkgppomaapiaaGreatDoorW.PrintLast YtgfkgppomaapiaaGreatDoorW.PrintMore My
theorem QF {d : DM} {l : List UInt8} (h : d.full l) (hl : d.left = -1) : d.app l = d ∧ d.appE l = 100 := by
 unfold DM.app DM.appE
 rw [if_neg (by omega), if_pos h, if_neg (by omega), if_pos h]
 refine ⟨?_, rfl⟩
 cases d
 simp only at hl
 subst hl
 rfl
theorem QS {d : DM} {l : List UInt8} (h : ¬ d.full l) (hl : d.left = -1) : d.app l = { d with bs := d.bs ++ l } ∧ d.appE l = 0 := by
 unfold DM.app DM.appE
 rw [if_neg (by omega), if_neg h, if_neg (by omega), if_neg h]
 refine ⟨?_, rfl⟩
 cases d
 simp only at hl
 subst hl
 rfl
theorem zA {d : DM} (hl : d.left = -1) : d.sync = { d with lasts := d.bs.length } ∧ d.syncE = 0 := by
 unfold DM.sync DM.syncE
 rw [if_neg (by omega), if_neg (by omega)]
 refine ⟨?_, rfl⟩
 cases d
 simp only at hl
 subst hl
 rfl
theorem ZZ {d : DM} (hl : d.left = -1) (n : Nat) (hn : n ≤ d.bs.length) : d.cut n = { d with bs := d.bs.take n, lasts := min d.lasts n } ∧ d.cutE n = 0 := by
 unfold DM.cut DM.cutE
 have ho : ¬ d.out n := by unfold DM.out; omega
 rw [if_neg (by omega), if_neg ho, if_neg (by omega), if_neg ho]
 refine ⟨?_, rfl⟩
 cases d
 simp only at hl
 subst hl
 simp only [Int.toNat_natCast]
 rfl
theorem pJ {d : DM} (hl : d.left = -1) : nK d = 0 ∧ lN d = ⟨d.bs.take (walN d), walN d, d.room, -1⟩ := by
 have hw := OM d
 by_cases h : walN d < d.bs.length
 ·have hc := ZZ hl (walN d) hw
  have hO : cutO d = 0 := by unfold cutO; rw [if_pos h]; exact hc.2
  have hD : cutD d = d.cut (walN d) := by unfold cutD; rw [if_pos h]
  have hs := zA (d := d.cut (walN d)) (by rw [hc.1]; exact hl)
  refine ⟨by unfold nK; rw [if_pos hO, hD, hs.2], ?_⟩
  unfold lN
  rw [if_pos hO, hD, hs.1, hc.1]
  simp only [DM.mk.injEq, true_and]
  exact ⟨by rw [List.length_take]; omega, hl⟩
 ·have hO : cutO d = 0 := by unfold cutO; rw [if_neg h]
  have hD : cutD d = d := by unfold cutD; rw [if_neg h]
  have hs := zA hl
  refine ⟨by unfold nK; rw [if_pos hO, hD, hs.2], ?_⟩
  unfold lN
  rw [if_pos hO, hD, hs.1]
  have he : walN d = d.bs.length := by omega
  cases d
  simp only at hl he ⊢
  subst hl
  rw [he, List.take_length]
structure JM (r : SRec) : Prop where
 sound : jQ r = true
 ok : MQ r
 len : (recE r).length ≤ 60000
def logB (rs : List SRec) : List UInt8 := uM (rs.map recE)
theorem Y3 (rs : List SRec) (r : SRec) : logB (rs ++ [r]) = logB rs ++ kT (recE r) := by
 unfold logB uM
 simp
theorem IQ : lC [] = none := by decide
theorem QQ (rs : List SRec) (t : List (List UInt8)) (h : ∀ r ∈ rs, JM r) : okL (rs.map recE ++ t) = rs.map recE ++ okL t := by
 induction rs with
 | nil => rfl
 | cons r rs ih =>
  have hr := h r List.mem_cons_self
  have := ih (fun x hx => h x (List.mem_cons_of_mem _ hx))
  show List.takeWhile _ (recE r :: (rs.map recE ++ t)) = _
  rw [List.takeWhile_cons_of_pos (p := fun x => (decR x).2 == 0) (by rw [MP hr.sound hr.ok hr.len]; rfl)]
  exact congrArg _ this
theorem WQ (rs : List SRec) (h : ∀ r ∈ rs, JM r) : (rs.map recE).map (fun x => (decR x).1) = rs := by
 rw [List.map_map]
 conv => rhs; rw [← List.map_id rs]
 apply List.map_congr_left
 intro r hr
 have := h r hr
 simp only [Function.comp, id]
 rw [MP this.sound this.ok this.len]
theorem QP (rs : List SRec) (h : ∀ r ∈ rs, JM r) : jY (logB rs) = rs.map recE := by
 have := MV (rs.map recE) [] (fun x hx => by obtain ⟨r, hr, rfl⟩ := List.mem_map.1 hx; exact (h r hr).len)
 rw [List.append_nil, lD IQ, List.append_nil] at this
 exact this
theorem YR (rs : List SRec) (h : ∀ r ∈ rs, JM r) : nD (jY (logB rs)) = rs := by
 rw [QP rs h]
 unfold nD
 have := QQ rs [] h
 rw [List.append_nil, show okL [] = [] from rfl, List.append_nil] at this
 rw [this, WQ rs h]
theorem ZN {d : DM} {rs : List SRec} (hb : d.bs = logB rs) (h : ∀ r ∈ rs, JM r) : walN d = d.bs.length := by
 unfold walN
 rw [hb, QP rs h]
 have := QQ rs [] h
 rw [List.append_nil, show okL [] = [] from rfl, List.append_nil] at this
 rw [this]
 unfold logB
 rw [rG]
structure Has (d : DM) (rs : List SRec) : Prop where
 bs : d.bs = logB rs
 las : d.lasts = d.bs.length
 live : d.left = -1
theorem Has.opened {d : DM} {rs : List SRec} (hd : Has d rs) (h : ∀ r ∈ rs, JM r) : nK d = 0 ∧ lN d = d := by
 obtain ⟨h1, h2⟩ := pJ hd.live
 refine ⟨h1, ?_⟩
 rw [h2, ZN hd.bs h, List.take_length]
 have := hd.las
 have h3 := hd.live
 cases d
 simp only at this h3 ⊢
 rw [this, h3]
theorem Has.crash {d : DM} {rs : List SRec} (hd : Has d rs) (keep : Int) : d.crash keep = d := by
 have h1 := hd.las
 have h2 := hd.live
 have hk : d.kept keep = d.bs.length := by unfold DM.kept; rw [h1]; omega
 unfold DM.crash
 rw [hk, List.take_length]
 cases d
 simp only at h1 h2 ⊢
 rw [h1, h2]
theorem Has.force {d : DM} {rs : List SRec} (hd : Has d rs) (r : SRec) (hs : jQ r = true) (hk : MQ r) :
  (rU d r = 0 ∧ JM r ∧ Has (qH d r) (rs ++ [r])) ∨ (rU d r ≠ 0 ∧ qH d r = d) := by
 by_cases he : (encR r).2 = 0
 ·have hen : encR r = (nums (recE r), 0) := by
   rcases oQ r with h | h | h
   ·rw [h] at he; cases he
   ·rw [h] at he; cases he
   ·exact h
  have hLE : pX d r = d.appE (kT (recE r)) := by unfold pX; rw [if_pos he]
  have hLD : pF d r = d.app (kT (recE r)) := by unfold pF; rw [if_pos he]
  by_cases hf : d.full (kT (recE r))
  ·obtain ⟨h1, h2⟩ := QF hf hd.live
   refine .inr ⟨?_, ?_⟩
   ·unfold rU; rw [hLE, h2, if_neg (by decide)]; decide
   ·unfold qH; rw [hLE, h2, if_neg (by decide), hLD, h1]
  ·obtain ⟨h1, h2⟩ := QS hf hd.live
   have hsy := zA (d := d.app (kT (recE r))) (by rw [h1]; exact hd.live)
   refine .inl ⟨?_, ⟨hs, hk, MN hen⟩, ?_⟩
   ·unfold rU; rw [hLE, h2, if_pos rfl, hLD, hsy.2]
   ·have hFD : qH d r = (d.app (kT (recE r))).sync := by unfold qH; rw [hLE, h2, if_pos rfl, hLD, hsy.2, if_pos rfl]
    rw [hFD, hsy.1, h1]
    exact ⟨by rw [Y3, ← hd.bs], rfl, hd.live⟩
 ·have hLE : pX d r = (encR r).2 := by unfold pX; rw [if_neg he]
  have hLD : pF d r = d := by unfold pF; rw [if_neg he]
  refine .inr ⟨?_, ?_⟩
  ·unfold rU; rw [hLE, if_neg he]; exact he
  ·unfold qH; rw [hLE, if_neg he, hLD]
theorem Has.new (room : Nat) : Has (DM.new room) [] := ⟨rfl, rfl, rfl⟩
end Go.Proofs.YtgfkgppomaapiaaGreatDoor.K
end

section
namespace Go.Proofs.YtgfkgppomaapiaaGreatDoor.K
open RowKit YtgfkgppomaapiaaGreatDoorW.PrintWords YtgfkgppomaapiaaGreatDoorW.PrintLast YtgfkgppomaapiaaGreatDoorW.PrintMore My
theorem WM (d : DM) (r : SRec) : 0 ≤ pX d r ∧ pX d r ≤ 100 := by rcases O4 d r with h | h | h | h <;> omega
attribute [-go_sem] Instr.build Instr.storeAt
set_option maxRecDepth 20000 in
set_option maxHeartbeats 8000000 in
theorem Y1 {w : World} {b g : Nat} {row : Option Nat} {d : DM} {r : SRec} {A3 A4 A6 A9 : Option Addr} {a3 a4 a6 a9 : Nat} (h : DD w b row d) (hg : Lg w g b) (hr : Lies w r A3 a3 A4 a4 A6 a6 A9 a9) :
  Calls Tryz.prog 18 #[.pointer (some ⟨g, 0, none⟩), .agg #[.int .u8 r.f0, .int .u32 r.f1, .int .u32 r.f2, .slice A3 r.f3.length a3, .slice A4 r.f4.length a4, .int .u32 r.f5.f0, .slice A6 r.f5.f1.length a6, .int .i64 r.f6, .int .i64 r.f7, .slice A9 r.f8.length a9]] w (DP (.int .u16 (rU d r)) w b row (qH d r)) := by
 obtain ⟨W, hW⟩ : ∃ W, W = w.alloc (.cells #[.int .u8 r.f0, .int .u32 r.f1, .int .u32 r.f2, .slice A3 r.f3.length a3, .slice A4 r.f4.length a4, .int .u32 r.f5.f0, .slice A6 r.f5.f1.length a6, .int .i64 r.f6, .int .i64 r.f7, .slice A9 r.f8.length a9] 54) := ⟨_, rfl⟩
 have hb : Below w.heap.size w W := by rw [hW]; exact iD (Below.refl _ _) _
 have HX := iC.mk (show W.heap[w.heap.size]? = some (.cells #[.int .u8 r.f0, .int .u32 r.f1, .int .u32 r.f2, .slice A3 r.f3.length a3, .slice A4 r.f4.length a4, .int .u32 r.f5.f0, .slice A6 r.f5.f1.length a6, .int .i64 r.f6, .int .i64 r.f7, .slice A9 r.f8.length a9] 54 (0, 0)) from by rw [hW]; exact iO rfl)
 have HD := iC.mk (h.below hb)
 have HG := iC.mk (hg.below hb)
 have HL := iC.mk (hr.below hb)
 have HB := iC.mk hb
 have HW := iC.mk hW
 clear h hg hr hb hW
 have hz := (iH HG.out 0).trans (show _ = some (Value.pointer (some ⟨b, 0, none⟩)) from rfl)
 have hcall := VX HD.out
 go_enter Tryz.func18, Tryz.ntmps18
 go_upto_region 1 with fail
 rw [← HW.out]
 clear HW
 go_wp2_with fail
 go_at_call 13
 refine hcall.mono ?_
 rintro e w1 ⟨v1, rfl, ho1, hb1⟩
 obtain ⟨A1, c1, rfl, _, _⟩ := ho1.reads
 have HX1 := iC.mk (iJ hb1 HX.out)
 have HD1 := iC.mk (HD.out.below hb1)
 have HG1 := iC.mk (HG.out.below hb1)
 have HB1 := iC.mk (iF HB.out hb1)
 have hcall := RS HD1.out HG1.out (HL.out.below hb1)
 have hE0 := WM d r
 obtain ⟨E, hE⟩ : ∃ E, pX d r = E := ⟨_, rfl⟩
 have HE := iC.mk hE
 rw [hE] at hcall hE0
 have hE1 := hE0.1
 have hE2 := hE0.2
 clear ho1 hb1 HX HD HG HL HB hz hE hE0
 obtain ⟨wz0, wz1, wz2, wz3, wz4, wz5, wz6, wz7, wz8, wz9, wy0, wy1, wy2, wy3, wy4, wy5, wy6, wy7, wy8, wy9⟩ := ten (HX1.out)
 clear wy0 wy1 wy2 wy3 wy4 wy5 wy6 wy7 wy8 wy9
 go_wp2_with fail
 go_at_call 15
 refine hcall.mono ?_
 rintro e w2 ⟨rfl, row2, hD2, hn2, hk2⟩
 have HD2 := iC.mk hD2
 have HG2 := iC.mk (HG1.out.kb HD1.out hk2)
 have HN2 := iC.mk (hn2.older (w := w) HB1.out.size)
 have HK2 := iC.mk ((Kb.of_below (b := b) (row := row) HB1.out).then hk2 (Nw.refl _ _))
 clear hcall hD2 hn2 hk2 HX1 HD1 HG1 HB1 wz0 wz1 wz2 wz3 wz4 wz5 wz6 wz7 wz8 wz9
 by_cases h0 : E = 0
 ·subst h0
  have hsync := VC HD2.out
  have hS := (lZ (pF d r) 0).2
  have HFE := iC.mk (show rU d r = (pF d r).syncE from by unfold rU; rw [if_pos HE.out])
  have HFD := iC.mk (show qH d r = if (pF d r).syncE = 0 then (pF d r).sync else (pF d r).sync.cut d.bs.length from by unfold qH; rw [if_pos HE.out])
  obtain ⟨S, hSE⟩ : ∃ S, S = (pF d r).syncE := ⟨_, rfl⟩
  rw [← hSE] at hsync hS HFE HFD
  have hz := (iH HG2.out 0).trans (show _ = some (Value.pointer (some ⟨b, 0, none⟩)) from rfl)
  clear hSE hE1 hE2
  go_wp2_with fail
  go_at_call 31
  refine hsync.mono ?_
  rintro e w3 ⟨rfl, row3, hD3, hn3, hk3⟩
  have HD3 := iC.mk hD3
  have HG3 := iC.mk (HG2.out.kb HD2.out hk3)
  have HN3 := iC.mk (HN2.out.trans HK2.out.size hn3)
  have HK3 := iC.mk (HK2.out.then hk3 HN2.out)
  clear hsync hD3 hn3 hk3 HD2 HG2 HN2 HK2 hz
  by_cases hS0 : S = 0
  ·subst hS0
   clear hS
   go_wp2
   go_ret
   exact ⟨by rw [HFE.out]; rfl, row3, by rw [HFD.out, if_pos (by trivial)]; exact HD3.out, HN3.out, HK3.out⟩
  ·obtain rfl := hS.resolve_left hS0
   have hcut := jg4 (d.bs.length : Int) HD3.out
   have hz := (iH HG3.out 0).trans (show _ = some (Value.pointer (some ⟨b, 0, none⟩)) from rfl)
   clear hS hS0
   go_wp2_with fail
   go_at_call 30
   refine hcut.mono ?_
   rintro e w4 ⟨rfl, row4, hD4, hn4, hk4⟩
   have HD4 := iC.mk hD4
   have HN4 := iC.mk (HN3.out.trans HK3.out.size hn4)
   have HK4 := iC.mk (HK3.out.then hk4 HN3.out)
   clear hcut hD4 hn4 hk4 hz
   go_wp2
   go_ret
   exact ⟨by rw [HFE.out]; rfl, row4, by rw [HFD.out, if_neg (by decide)]; exact HD4.out, HN4.out, HK4.out⟩
 ·have HFE := iC.mk (show rU d r = E from by unfold rU; rw [HE.out, if_neg h0])
  have HFD := iC.mk (show qH d r = pF d r from by unfold qH; rw [HE.out, if_neg h0])
  go_wp2
  go_ret
  exact ⟨by rw [HFE.out]; rfl, row2, by rw [HFD.out]; exact HD2.out, HN2.out, HK2.out⟩
end Go.Proofs.YtgfkgppomaapiaaGreatDoor.K
end

section
namespace Go.Proofs.YtgfkgppomaapiaaGreatDoor.K
open Go Go.RowKit Go.Deep Go.ChangeShapes Go.WideShapes Go.ChangeAt Go.Proofs.YtgfkgppomaapiaaGreatDoorW.PrintWords Go.Proofs.YtgfkgppomaapiaaGreatDoorW.PrintLast Go.Proofs.YtgfkgppomaapiaaGreatDoorW.PrintMore Go.Proofs.YtgfkgppomaapiaaGreatDoor.My
instance : Inhabited SRec := ⟨lX⟩
theorem L8 {P : Program} (w : World) (a : Addr) (ty : TypeId) (cs : List Value) (d : TypeDesc) (hc : ∀ j v, cs[j]? = some v → w.cell? (a.add j) = some v)
  (hu : P.underlying ty = some d) (hd : d.isRow = true) (hi : (P.info? ty).map (·.size) = some cs.length) :
  (Instr.loadAt ty (.pointer (some a))).run P w = .ok (.agg cs.toArray) w := by
 have hl : (loadCells a cs.length).run P w = .ok cs.toArray w := run_loadCells_list (P := P) w a cs hc
 have hv : (loadVar ty a).run P w = .ok (.agg cs.toArray) w := by
  cases hq : P.info? ty with
  | none => simp [hq] at hi
  | some i =>
   have hs : i.size = cs.length := by simpa [hq] using hi
   have hagg : (isAgg ty).run P w = .ok true w := by
    unfold isAgg
    rw [Sem.run_bind, run_underlying hu w]
    cases d <;> simp_all
   simp [loadVar, Sem.run_bind, hagg, sizeOf, typeInfo, hq, hs, hl]
 simp only [Instr.loadAt, Instr.sureAddr, Sem.run_bind, Sem.run_pure, Result.andThen_ok, hv]
end Go.Proofs.YtgfkgppomaapiaaGreatDoor.K
end

section
namespace Go.Proofs.YtgfkgppomaapiaaGreatDoor.K
open RowKit YtgfkgppomaapiaaGreatDoorW.PrintWords YtgfkgppomaapiaaGreatDoorW.PrintLast YtgfkgppomaapiaaGreatDoorW.PrintMore My
def r5 : SRec := ⟨3, 5, 0, [], [], ⟨0, []⟩, 0, 0, []⟩
def r6 : SRec := ⟨3, 6, 0, [], [], ⟨0, []⟩, 0, 0, []⟩
def kd1 : DM := qH (DM.new 900) r5
def kd2 : DM := pF kd1 r6
def kd3 : DM := kd2.crash 0
theorem RG : rU (DM.new 900) r5 = 0 := by decide +kernel
theorem ja5 : pX kd1 r6 = 0 := by decide +kernel
theorem ji9 : kd3.bs = kd1.bs := by decide +kernel
theorem jc_ : kd3.left = -1 := by decide +kernel
theorem jg9 : kd3.lasts = kd3.bs.length := by decide +kernel
theorem jd8 : kd3.room = 900 := by decide +kernel
theorem ji4 : MQ r5 := ⟨by decide, by decide, by decide, fun _ h => by (cases h), by decide, fun _ h => by (cases h)⟩
theorem XO : JM r5 ∧ Has kd1 [r5] := by
 rcases (Has.new 900).force r5 (by decide) ji4 with ⟨_, h2, h3⟩ | ⟨h1, _⟩
 ·exact ⟨h2, h3⟩
 ·exact absurd RG h1
theorem j01 : Has kd3 [r5] := ⟨by rw [ji9]; exact XO.2.bs, jg9, jc_⟩
theorem j3_ : ∀ r ∈ [r5], JM r := fun r hr => by
 obtain rfl := List.mem_singleton.1 hr
 exact XO.1
theorem RJ (w : World) (k i : Int) : Lies w ⟨k, i, 0, [], [], ⟨0, []⟩, 0, 0, []⟩ none 0 none 0 none 0 none 0 := ⟨Kd.C_nil _ _, Nat.le_refl _, Kd.C_nil _ _, Nat.le_refl _, Kd.C_nil _ _, Nat.le_refl _, Kd.C_nil _ _, Nat.le_refl _⟩
theorem One.open {w0 w w' : World} {b : Nat} {row : Option Nat} {d : DM} {e : Ending} (h : One w0 w b row d) (hp : jb_ w b row d e w') (hE : nK d = 0) :
  ∃ row' g v, One w0 w' b row' (lN d) ∧ e = .returned (.tuple #[.pointer (some ⟨g, 0, none⟩), v, .int .u16 0]) ∧ Lg w' g b ∧ RRs w' w.heap.size v (nD (jY d.bs)) ∧ Kb b row w w' ∧ w0.heap.size ≤ g := by
 obtain ⟨row', h1, h2, h3, ⟨_, g, v, he, hg, hl, hr⟩ | ⟨hne, _⟩⟩ := hp
 ·exact ⟨row', g, v, h.step h1 h2 h3, he, hl, hr, h3, Nat.le_trans h.bel.size hg⟩
 ·exact absurd hE hne
theorem One.dpk {w0 w w' : World} {b : Nat} {row : Option Nat} {d d' : DM} {v : Value} {e : Ending} (h : One w0 w b row d) (hp : DP v w b row d' e w') : e = .returned v ∧ Kb b row w w' ∧ ∃ row', One w0 w' b row' d' := by
 obtain ⟨he, row', h1, h2, h3⟩ := hp
 exact ⟨he, h3, row', h.step h1 h2 h3⟩
attribute [-go_sem] Instr.build Instr.storeAt
attribute [local go_sem] j04
set_option maxRecDepth 20000 in
set_option maxHeartbeats 8000000 in
theorem X0 (w : World) : Calls Tryz.prog 5 #[] w fun e w' => e = .returned (.bool true) ∧ Below w.heap.size w w' := by
 have hopn := (Has.new 900).opened (fun r hr => by cases hr)
 go_enter Tryz.func5, Tryz.ntmps5
 go_wp2_with fail
 go_at_call 6
 refine (jf3 900 w (by omega)).mono ?_
 rintro e w1 ⟨rfl, hd1, hb1⟩
 have H1 := iC.mk (One.new (Below.refl _ _) hd1 hb1)
 obtain ⟨b, hb⟩ : ∃ b, b = w.heap.size := ⟨_, rfl⟩
 rw [← hb] at H1 ⊢
 clear hd1 hb1 hb
 have hcall := open_any H1.out.dd (by show ((0 : Nat) : Int) ≤ 1000000; omega)
 go_wp2_with fail
 go_at_call 10
 refine hcall.mono ?_
 intro e w2 hp
 obtain ⟨row2, g, v2, h2, rfl, hg2, hr2, hk2, _⟩ := H1.out.open hp hopn.1
 rw [hopn.2] at h2
 have H2 := iC.mk h2
 have HG2 := iC.mk hg2
 obtain ⟨A2, c2, rfl⟩ := Kd.R_slice hr2
 clear hcall hp h2 hg2 hr2 hk2 hopn
 have hcall := Y1 H2.out.dd HG2.out (RJ w2 3 5)
 rw [show (⟨3, 5, 0, [], [], ⟨0, []⟩, 0, 0, []⟩ : SRec) = r5 from rfl, RG, show qH (DM.new 900) r5 = kd1 from rfl] at hcall
 simp only [r5, List.length_nil] at hcall
 go_wp2_with fail
 go_at_call 18
 refine hcall.mono ?_
 intro e w3 hp
 obtain ⟨rfl, hk3, row3, h3⟩ := H2.out.dpk hp
 have H3 := iC.mk h3
 have HG3 := iC.mk (HG2.out.kb H2.out.dd hk3)
 clear hcall hp h3 hk3
 have hcall := RS H3.out.dd HG3.out (RJ w3 3 6)
 rw [show (⟨3, 6, 0, [], [], ⟨0, []⟩, 0, 0, []⟩ : SRec) = r6 from rfl, ja5, show pF kd1 r6 = kd2 from rfl] at hcall
 simp only [r6, List.length_nil] at hcall
 go_wp2_with fail
 go_at_call 15
 refine hcall.mono ?_
 intro e w4 hp
 obtain ⟨rfl, hk4, row4, h4⟩ := H3.out.dpk hp
 have H4 := iC.mk h4
 clear hcall hp h4 hk4
 have hcall := j6_ 0 H4.out.dd
 rw [show kd2.crash 0 = kd3 from rfl] at hcall
 go_wp2_with fail
 go_at_call 22
 refine hcall.mono ?_
 intro e w5 hp
 obtain ⟨rfl, hk5, row5, h5⟩ := H4.out.dpk hp
 have H5 := iC.mk h5
 clear hcall hp h5 hk5
 have hopn := j01.opened j3_
 have hcall := open_any H5.out.dd (by have := H5.out.dd.2.fit; have hr := jd8; omega)
 go_wp2_with fail
 go_at_call 10
 refine hcall.mono ?_
 intro e w6 hp
 obtain ⟨row6, g6, v6, h6, rfl, hg6, hr6, hk6, _⟩ := H5.out.open hp hopn.1
 rw [j01.bs, YR _ j3_] at hr6
 have H6 := iC.mk h6
 obtain ⟨A6, c6, rfl, hc6, C6⟩ := Kd.R_reads hr6
 obtain ⟨ad, cc, rfl, _, hK, hcc⟩ := Kd.C_get C6 default 0 (by omega) (by simp)
 obtain ⟨_, _, _, _, _, _, _, _, rfl, _⟩ := V7 hK
 have hid := hcc 1 _ rfl
 rw [show (0 : Int).toNat * kR.sz + 1 = 0 + 1 from rfl, vN _ _ 1 (by omega), Addr.add_zero'] at hid
 have hid : w6.cell? ⟨ad.block, ad.off + 1, none⟩ = some (.int .u32 5) := hid
 clear hcall hp h6 hg6 hr6 hk6 hopn C6 hK hcc
 simp only [List.length_singleton]
 go_wp2
 go_ret
 exact ⟨rfl, H6.out.bel⟩
end Go.Proofs.YtgfkgppomaapiaaGreatDoor.K
end

section
namespace Go.Proofs.YtgfkgppomaapiaaGreatDoor.K
open RowKit YtgfkgppomaapiaaGreatDoorW.PrintWords YtgfkgppomaapiaaGreatDoorW.PrintLast YtgfkgppomaapiaaGreatDoorW.PrintMore My
structure Pr (w0 w : World) (b : Nat) (row : Option Nat) (d : DM) (r : Nat) (rr : Option Nat) (e : DM) : Prop where
 dd : DD w b row d
 rk : RR w r rr e
 bel : Below w0.heap.size w0 w
 blk : w0.heap.size ≤ b
 rlk : w0.heap.size ≤ r
 rwb : ∀ k, row = some k → w0.heap.size ≤ k
 rrw : ∀ k, rr = some k → w0.heap.size ≤ k
 ne : ∀ k, row = some k → rr ≠ some k
section
variable {w0 w w' : World} {b r : Nat} {row rr : Option Nat} {d e d' e' : DM} {v : Value} {x : Ending}
theorem Pr.bt (h : Pr w0 w b row d r rr e) : b ≠ r ∧ row ≠ some r ∧ rr ≠ some b ∧ (∀ k, rr = some k → k ≠ r) ∧ (∀ k, row = some k → k ≠ b) := by
 obtain ⟨cb, hb⟩ := h.dd.blk
 obtain ⟨cr, hr⟩ := h.rk.blk
 refine ⟨fun q => ?_, fun q => ?_, fun q => ?_, fun k q => (h.rk.row_lt k q).2, fun k q => (h.dd.row_lt k q).2⟩
 ·subst q
  rw [hb] at hr
  injection hr with hr
  injection hr with _ hr
  exact absurd hr (by decide)
 ·obtain ⟨cs, hc⟩ := h.dd.rowt r q
  rw [hr] at hc
  injection hc with hc
  injection hc with _ hc
  exact absurd hc (by decide)
 ·obtain ⟨cs, hc⟩ := h.rk.rowt b q
  rw [hb] at hc
  injection hc with hc
  injection hc with _ hc
  exact absurd hc (by decide)
theorem Pr.fst {row' : Option Nat} (h : Pr w0 w b row d r rr e) (hd : DD w' b row' d') (hn : Nw w row row') (hk : Kb b row w w') : Pr w0 w' b row' d' r rr e := by
 obtain ⟨h1, h2, h3, h4, _⟩ := h.bt
 refine ⟨hd, h.rk.kb hk (Ne.symm h1) (fun q => h2 q.symm) (fun k q => ⟨fun q2 => h3 (by rw [← q2]; exact q), fun q2 => h.ne k q2.symm q⟩), h.bel.trans (hk.below h.bel.size h.blk h.rwb), h.blk, h.rlk, fun k q => (hn k q).elim (fun q => h.rwb k q) (fun q => Nat.le_trans h.bel.size q), h.rrw, fun k q q2 => ?_⟩
 rcases hn k q with q3 | q3
 ·exact h.ne k q3 q2
 ·have := (h.rk.row_lt k q2).1; omega
theorem Pr.snd {rr' : Option Nat} (h : Pr w0 w b row d r rr e) (hd : RR w' r rr' e') (hn : Nw w rr rr') (hk : Kb r rr w w') : Pr w0 w' b row d r rr' e' := by
 obtain ⟨h1, h2, h3, _, h5⟩ := h.bt
 refine ⟨h.dd.kb hk h1 (fun q => h3 q.symm) (fun k q => ⟨fun q2 => h2 (by rw [← q2]; exact q), fun q2 => h.ne k q q2.symm⟩), hd, h.bel.trans (hk.below h.bel.size h.rlk h.rrw), h.blk, h.rlk, h.rwb, fun k q => (hn k q).elim (fun q => h.rrw k q) (fun q => Nat.le_trans h.bel.size q), fun k q q2 => ?_⟩
 rcases hn k q2 with q3 | q3
 ·exact h.ne k q q3
 ·have := (h.dd.row_lt k q).1; omega
theorem Pr.dp (h : Pr w0 w b row d r rr e) (hp : DP v w b row d' x w') : x = .returned v ∧ Kb b row w w' ∧ ∃ row', Pr w0 w' b row' d' r rr e := by
 obtain ⟨he, row', h1, h2, h3⟩ := hp
 exact ⟨he, h3, row', h.fst h1 h2 h3⟩
theorem Pr.rp (h : Pr w0 w b row d r rr e) (hp : RKP v w r rr e' x w') : x = .returned v ∧ Kb r rr w w' ∧ ∃ rr', Pr w0 w' b row d r rr' e' := by
 obtain ⟨he, rr', h1, h2, h3⟩ := hp
 exact ⟨he, h3, rr', h.snd h1 h2 h3⟩
theorem Pr.open (h : Pr w0 w b row d r rr e) (hp : jb_ w b row d x w') (hE : nK d = 0) :
  ∃ row' g v, Pr w0 w' b row' (lN d) r rr e ∧ x = .returned (.tuple #[.pointer (some ⟨g, 0, none⟩), v, .int .u16 0]) ∧ Lg w' g b ∧ RRs w' w.heap.size v (nD (jY d.bs)) ∧ Kb b row w w' := by
 obtain ⟨row', h1, h2, h3, ⟨_, g, v, he, hg, hl, hr⟩ | ⟨hne, _⟩⟩ := hp
 ·exact ⟨row', g, v, h.fst h1 h2 h3, he, hl, hr, h3⟩
 ·exact absurd hE hne
theorem Pr.ropen (h : Pr w0 w b row d r rr e) (hp : j05 w r rr e x w') (hE : nK e = 0) :
  ∃ rr' g v, Pr w0 w' b row d r rr' (lN e) ∧ x = .returned (.tuple #[.pointer (some ⟨g, 0, none⟩), v, .int .i64 0]) ∧ RLg w' g r ∧ RRs w' w.heap.size v (nD (jY e.bs)) ∧ Kb r rr w w' := by
 obtain ⟨rr', h1, h2, h3, ⟨_, g, v, he, hg, hl, hr⟩ | ⟨hne, _⟩⟩ := hp
 ·exact ⟨rr', g, v, h.snd h1 h2 h3, he, hl, hr, h3⟩
 ·exact absurd hE hne
end
theorem YY {d : DM} (l : List UInt8) (h : d.left = -1) : (d.app l).left = -1 := by
 by_cases hf : d.full l
 ·rw [(QF hf h).1]; exact h
 ·rw [(QS hf h).1]; exact h
theorem ZO {d : DM} (l : List UInt8) : (d.app l).room = d.room := by
 unfold DM.app
 (repeat' split) <;> rfl
theorem QY (ls : List (List UInt8)) : okL (okL ls) = okL ls := by
 unfold okL
 induction ls with
 | nil => rfl
 | cons x t ih =>
  by_cases h : ((decR x).2 == 0) = true
  ·rw [List.takeWhile_cons_of_pos (p := fun x => (decR x).2 == 0) h, List.takeWhile_cons_of_pos (p := fun x => (decR x).2 == 0) h, ih]
  ·rw [List.takeWhile_cons_of_neg (p := fun x => (decR x).2 == 0) h]
   rfl
theorem reopen {d : DM} (hl : d.left = -1) : nD (jY (lN d).bs) = nD (jY d.bs) ∧ lN (lN d) = lN d := by
 obtain ⟨_, h2⟩ := pJ hl
 obtain ⟨t, hb, _, hsm⟩ := JI d.bs
 obtain ⟨u, hu⟩ : ∃ u, jY d.bs = okL (jY d.bs) ++ u := ⟨(jY d.bs).dropWhile fun x => (decR x).2 == 0, (List.takeWhile_append_dropWhile).symm⟩
 have hbs : (lN d).bs = uM (okL (jY d.bs)) := by
  rw [h2]
  show d.bs.take (walN d) = _
  have h3 : d.bs = uM (okL (jY d.bs)) ++ (uM u ++ t) := by
   rw [← List.append_assoc]
   have : uM (okL (jY d.bs)) ++ uM u = uM (jY d.bs) := by
    conv => rhs; rw [hu]
    unfold uM
    rw [List.map_append, List.flatten_append]
   rw [this]
   exact hb
  conv => lhs; rw [h3]
  unfold walN
  rw [← rG, List.take_left]
 have hsc : jY (uM (okL (jY d.bs))) = okL (jY d.bs) := by
  have := MV (okL (jY d.bs)) [] (fun x hx => hsm x (by rw [hu]; exact List.mem_append_left _ hx))
  rwa [List.append_nil, lD IQ, List.append_nil] at this
 have hr : nD (jY (lN d).bs) = nD (jY d.bs) := by
  rw [hbs, hsc]
  unfold nD
  rw [QY]
 refine ⟨hr, ?_⟩
 have hl2 : (lN d).left = -1 := by rw [h2]
 obtain ⟨_, h4⟩ := pJ hl2
 have hw : walN (lN d) = (lN d).bs.length := by
  unfold walN
  rw [hbs, hsc, QY, rG]
 rw [h4, hw, List.take_length]
 have hlas : (lN d).lasts = (lN d).bs.length := by
  rw [hbs, rG, h2]
  rfl
 generalize lN d = q at hl2 hlas ⊢
 cases q
 simp only at hl2 hlas ⊢
 rw [hl2, hlas]
end Go.Proofs.YtgfkgppomaapiaaGreatDoor.K
end

section
namespace Go.Proofs.YtgfkgppomaapiaaGreatDoor.K
open RowKit YtgfkgppomaapiaaGreatDoorW.PrintWords YtgfkgppomaapiaaGreatDoorW.PrintLast YtgfkgppomaapiaaGreatDoorW.PrintMore My
theorem U3 : SLen lX := ⟨by decide, by decide, by decide, by decide⟩
theorem UX (l : List UInt8) : SLen (decR l).1 := by
 rcases jc1 l with ⟨_, h⟩ | ⟨x, h, hs, _⟩
 ·rw [h]; exact U3
 ·rw [h]; exact UM x hs
end Go.Proofs.YtgfkgppomaapiaaGreatDoor.K
end

section
namespace Go.Proofs.YtgfkgppomaapiaaGreatDoor.K
open RowKit YtgfkgppomaapiaaGreatDoorW.PrintWords YtgfkgppomaapiaaGreatDoorW.PrintLast YtgfkgppomaapiaaGreatDoorW.PrintMore My
set_option maxRecDepth 20000 in
set_option maxHeartbeats 4000000 in
theorem Y7 {w : World} {x : SRec} {A3 A4 A6 A9 B3 B4 B6 B9 : Option Addr} {a3 a4 a6 a9 b3 b4 b6 b9 : Nat} (h : Lies w x A3 a3 A4 a4 A6 a6 A9 a9) (g : Lies w x B3 b3 B4 b4 B6 b6 B9 b9) (hx : SLen x) :
  Calls Tryz.prog 37 #[.agg #[.int .u8 x.f0, .int .u32 x.f1, .int .u32 x.f2, .slice A3 x.f3.length a3, .slice A4 x.f4.length a4, .int .u32 x.f5.f0, .slice A6 x.f5.f1.length a6, .int .i64 x.f6, .int .i64 x.f7, .slice A9 x.f8.length a9], .agg #[.int .u8 x.f0, .int .u32 x.f1, .int .u32 x.f2, .slice B3 x.f3.length b3, .slice B4 x.f4.length b4, .int .u32 x.f5.f0, .slice B6 x.f5.f1.length b6, .int .i64 x.f6, .int .i64 x.f7, .slice B9 x.f8.length b9]] w fun e w' => e = .returned (.bool true) ∧ Below w.heap.size w w' := by
 obtain ⟨W, hW⟩ : ∃ W, W = (w.alloc (.cells #[.int .u8 x.f0, .int .u32 x.f1, .int .u32 x.f2, .slice A3 x.f3.length a3, .slice A4 x.f4.length a4, .int .u32 x.f5.f0, .slice A6 x.f5.f1.length a6, .int .i64 x.f6, .int .i64 x.f7, .slice A9 x.f8.length a9] 54)).alloc (.cells #[.int .u8 x.f0, .int .u32 x.f1, .int .u32 x.f2, .slice B3 x.f3.length b3, .slice B4 x.f4.length b4, .int .u32 x.f5.f0, .slice B6 x.f5.f1.length b6, .int .i64 x.f6, .int .i64 x.f7, .slice B9 x.f8.length b9] 54) := ⟨_, rfl⟩
 have hb : Below w.heap.size w W := by rw [hW]; exact iD (iD (Below.refl _ _) _) _
 have HX := iC.mk (show W.heap[w.heap.size]? = some (.cells #[.int .u8 x.f0, .int .u32 x.f1, .int .u32 x.f2, .slice A3 x.f3.length a3, .slice A4 x.f4.length a4, .int .u32 x.f5.f0, .slice A6 x.f5.f1.length a6, .int .i64 x.f6, .int .i64 x.f7, .slice A9 x.f8.length a9] 54 (0, 0)) from by rw [hW]; exact jG (iO rfl))
 have HY := iC.mk (show W.heap[w.heap.size + 1]? = some (.cells #[.int .u8 x.f0, .int .u32 x.f1, .int .u32 x.f2, .slice B3 x.f3.length b3, .slice B4 x.f4.length b4, .int .u32 x.f5.f0, .slice B6 x.f5.f1.length b6, .int .i64 x.f6, .int .i64 x.f7, .slice B9 x.f8.length b9] 54 (0, 0)) from by rw [hW]; exact iO (by simp))
 have HA := iC.mk (h.below hb)
 have HBB := iC.mk (g.below hb)
 have HB := iC.mk hb
 have HW := iC.mk hW
 obtain ⟨t3, e3, f3⟩ := OY x.f3 x.f3 hx.n3
 obtain ⟨t4, e4, f4⟩ := MK x.f4 x.f4 hx.n4 hx.n4
 obtain ⟨t6, e6, f6⟩ := TA x.f5.f0 x.f5.f0 x.f5.f1 x.f5.f1 hx.n6
 have e9 := IC x.f8 x.f8 hx.n9 hx.n9
 obtain rfl := f3.2 rfl
 obtain rfl := f4.2 rfl
 obtain rfl := f6.2 ⟨rfl, rfl⟩
 rw [decide_eq_true rfl] at e9
 obtain ⟨k3, r3⟩ := e3.rounds
 obtain ⟨k4, r4⟩ := e4.rounds
 obtain ⟨k6, r6⟩ := e6.rounds
 have h3 := stratumref07_SameInts.calls k3 A3 a3 x.f3 B3 b3 x.f3 true W HA.out.h3 HA.out.d3 HBB.out.h3 HBB.out.d3 r3
 have h4 := fun w2 (hb : Below W.heap.size W w2) => stratumref07_SameFacts.calls k4 A4 a4 x.f4 B4 b4 x.f4 true w2 (HA.out.below hb).h4 HA.out.d4 (HBB.out.below hb).h4 HBB.out.d4 r4
 have h6 := fun w2 (hb : Below W.heap.size W w2) => stratumref07_SameMap.calls k6 x.f5.f0 A6 a6 x.f5.f1 x.f5.f0 B6 b6 x.f5.f1 true w2 (HA.out.below hb).h6 HA.out.d6 (HBB.out.below hb).h6 HBB.out.d6 r6
 have h9 := fun w2 (hb : Below W.heap.size W w2) => stratumref07_SameEntries.calls A9 a9 x.f8 B9 b9 x.f8 true w2 (HA.out.below hb).h9 HA.out.d9 (HBB.out.below hb).h9 HBB.out.d9 e9
 have H4 := iC.mk h4
 have H6 := iC.mk h6
 have H9 := iC.mk h9
 clear h g hb hW f3 f4 f6 e3 e4 e6 e9 r3 r4 r6 h4 h6 h9
 go_enter Tryz.func37, Tryz.ntmps37
 go_upto_region 1 with fail
 rw [← HW.out]
 clear HW
 obtain ⟨wz0, wz1, wz2, wz3, wz4, wz5, wz6, wz7, wz8, wz9, wy0, wy1, wy2, wy3, wy4, wy5, wy6, wy7, wy8, wy9⟩ := ten (HX.out)
 obtain ⟨xz0, xz1, xz2, xz3, xz4, xz5, xz6, xz7, xz8, xz9, xy0, xy1, xy2, xy3, xy4, xy5, xy6, xy7, xy8, xy9⟩ := ten (HY.out)
 clear wy0 wy1 wy2 wy3 wy4 wy5 wy6 wy7 wy8 wy9 xy0 xy1 xy2 xy3 xy4 xy5 xy6 xy7 xy8 xy9
 go_wp2_with fail
 go_at_call 55
 refine h3.mono ?_
 rintro e w1 ⟨rfl, hd⟩
 have HB1 := iC.mk hd.below
 clear h3 hd wz0 wz1 wz2 wz3 wz4 wz5 wz6 wz7 wz8 wz9 xz0 xz1 xz2 xz3 xz4 xz5 xz6 xz7 xz8 xz9
 have h4 := H4.out w1 HB1.out
 obtain ⟨wz0, wz1, wz2, wz3, wz4, wz5, wz6, wz7, wz8, wz9, wy0, wy1, wy2, wy3, wy4, wy5, wy6, wy7, wy8, wy9⟩ := ten (iJ HB1.out HX.out)
 obtain ⟨xz0, xz1, xz2, xz3, xz4, xz5, xz6, xz7, xz8, xz9, xy0, xy1, xy2, xy3, xy4, xy5, xy6, xy7, xy8, xy9⟩ := ten (iJ HB1.out HY.out)
 clear wy0 wy1 wy2 wy3 wy4 wy5 wy6 wy7 wy8 wy9 xy0 xy1 xy2 xy3 xy4 xy5 xy6 xy7 xy8 xy9
 go_wp2_with fail
 go_at_call 56
 refine h4.mono ?_
 rintro e w2 ⟨rfl, hb2⟩
 have HB2 := iC.mk (iF HB1.out hb2)
 clear h4 hb2 wz0 wz1 wz2 wz3 wz4 wz5 wz6 wz7 wz8 wz9 xz0 xz1 xz2 xz3 xz4 xz5 xz6 xz7 xz8 xz9
 have h6 := H6.out w2 HB2.out
 obtain ⟨wz0, wz1, wz2, wz3, wz4, wz5, wz6, wz7, wz8, wz9, wy0, wy1, wy2, wy3, wy4, wy5, wy6, wy7, wy8, wy9⟩ := ten (iJ HB2.out HX.out)
 obtain ⟨xz0, xz1, xz2, xz3, xz4, xz5, xz6, xz7, xz8, xz9, xy0, xy1, xy2, xy3, xy4, xy5, xy6, xy7, xy8, xy9⟩ := ten (iJ HB2.out HY.out)
 clear wy0 wy1 wy2 wy3 wy4 wy5 wy6 wy7 wy8 wy9 xy0 xy1 xy2 xy3 xy4 xy5 xy6 xy7 xy8 xy9
 go_wp2_with fail
 go_at_call 57
 refine h6.mono ?_
 rintro e w3 ⟨rfl, hb3⟩
 have HB3 := iC.mk (iF HB2.out hb3)
 clear h6 hb3 wz0 wz1 wz2 wz3 wz4 wz5 wz6 wz7 wz8 wz9 xz0 xz1 xz2 xz3 xz4 xz5 xz6 xz7 xz8 xz9
 have h9 := H9.out w3 HB3.out
 obtain ⟨wz0, wz1, wz2, wz3, wz4, wz5, wz6, wz7, wz8, wz9, wy0, wy1, wy2, wy3, wy4, wy5, wy6, wy7, wy8, wy9⟩ := ten (iJ HB3.out HX.out)
 obtain ⟨xz0, xz1, xz2, xz3, xz4, xz5, xz6, xz7, xz8, xz9, xy0, xy1, xy2, xy3, xy4, xy5, xy6, xy7, xy8, xy9⟩ := ten (iJ HB3.out HY.out)
 clear wy0 wy1 wy2 wy3 wy4 wy5 wy6 wy7 wy8 wy9 xy0 xy1 xy2 xy3 xy4 xy5 xy6 xy7 xy8 xy9
 go_wp2_with fail
 go_at_call 58
 refine h9.mono ?_
 rintro e w4 ⟨rfl, hb4⟩
 clear h9
 go_wp2
 go_ret
 exact ⟨rfl, iF HB.out (iF HB3.out hb4)⟩
end Go.Proofs.YtgfkgppomaapiaaGreatDoor.K
end

section
namespace Go.Proofs.YtgfkgppomaapiaaGreatDoor.K
open RowKit YtgfkgppomaapiaaGreatDoorW.PrintWords YtgfkgppomaapiaaGreatDoorW.PrintLast YtgfkgppomaapiaaGreatDoorW.PrintMore My
theorem j00 {w : World} {A : Option Addr} {n : Nat} {l : List SRec} (h : kR.C w A n l) (i : Nat) (hi : i < n) :
  ∃ ad A3 a3 A4 a4 A6 a6 A9 a9, A = some ad ∧ Lies w (l.getD i default) A3 a3 A4 a4 A6 a6 A9 a9 ∧
   ∀ w', Below w.heap.size w w' → True → (Instr.loadAt 54 (.pointer (some (ad.add (i * 10))))).run Tryz.prog w' = .ok (.agg #[.int .u8 (l.getD i default).f0, .int .u32 (l.getD i default).f1, .int .u32 (l.getD i default).f2, .slice A3 (l.getD i default).f3.length a3, .slice A4 (l.getD i default).f4.length a4, .int .u32 (l.getD i default).f5.f0, .slice A6 (l.getD i default).f5.f1.length a6, .int .i64 (l.getD i default).f6, .int .i64 (l.getD i default).f7, .slice A9 (l.getD i default).f8.length a9]) w' := by
 obtain ⟨ad, c, e, _, hK, hc0⟩ := Kd.C_get h default (i : Int) (by omega) (by omega)
 rw [Int.toNat_natCast] at hK hc0
 have hc : ∀ j u, c[j]? = some u → w.cell? (ad.add (i * 10 + j)) = some u := hc0
 obtain ⟨A3, a3, A4, a4, A6, a6, A9, a9, rfl, hL⟩ := V7 hK
 refine ⟨ad, A3, a3, A4, a4, A6, a6, A9, a9, e, hL, fun w' hb _ => ?_⟩
 exact L8 w' _ _ #[.int .u8 (l.getD i default).f0, .int .u32 (l.getD i default).f1, .int .u32 (l.getD i default).f2, .slice A3 (l.getD i default).f3.length a3, .slice A4 (l.getD i default).f4.length a4, .int .u32 (l.getD i default).f5.f0, .slice A6 (l.getD i default).f5.f1.length a6, .int .i64 (l.getD i default).f6, .int .i64 (l.getD i default).f7, .slice A9 (l.getD i default).f8.length a9].toList _ (fun j v hj => by
  rw [Go.Deep.add_add]
  have h1 := hc j v hj
  exact (hb.cell (World.block_lt_of_cell? _ _ h1)).trans h1) Tryz.underlying54 rfl (by kernel_rfl)
attribute [-go_sem] Instr.build Instr.storeAt Instr.loadAt
set_option maxRecDepth 20000 in
set_option maxHeartbeats 4000000 in
theorem j1_ (A B : Option Addr) (c d : Nat) (l : List SRec) (w : World) (h : kR.C w A l.length l) (g : kR.C w B l.length l) (hs : ∀ x ∈ l, SLen x) :
  Calls Tryz.prog 12 #[.slice A l.length c, .slice B l.length d] w fun e w' => e = .returned (.bool true) ∧ Below w.heap.size w w' := by
 have hm := kZ h
 have H := iC.mk h
 have G := iC.mk g
 have HS := iC.mk hs
 clear h g hs
 go_enter Tryz.func12, Tryz.ntmps12
 go_wp2
 go_loopw [5] (fun i wr => ∃ k : Nat, k ≤ l.length ∧ i = .int .i64 k ∧ iC (Below w.heap.size w wr)) (fun i _ => l.length - (intOf i).toNat)
 case atStart => exact ⟨0, Nat.zero_le _, rfl, ⟨Below.refl _ _⟩⟩
 case round =>
  obtain ⟨k, hk, rfl, HB⟩ := hrel
  by_cases hlt : k < l.length
  ·obtain ⟨ad, A3, a3, A4, a4, A6, a6, A9, a9, rfl, hL, hx⟩ := j00 (Kd.C_below H.out HB.out) k hlt
   obtain ⟨bd, B3, b3, B4, b4, B6, b6, B9, b9, rfl, hM, hy⟩ := j00 (Kd.C_below G.out HB.out) k hlt
   have hmem : l.getD k default ∈ l := by rw [List.getD_eq_getElem?_getD, List.getElem?_eq_getElem hlt]; exact List.getElem_mem hlt
   have HSS := iC.mk (HS.out _ hmem)
   generalize l.getD k default = x at hL hx hM hy HSS
   have HL := iC.mk hL
   have HM := iC.mk hM
   have HXX := iC.mk hx
   have HYY := iC.mk hy
   have hk1 : (k : Int) < (l.length : Int) := by omega
   clear hL hM hx hy hmem
   obtain ⟨wr0, rfl⟩ : ∃ x : World, x = wr := ⟨_, rfl⟩
   go_wp2_with fail
   refine vF [18, 19, 20, 21, 22, 23, 24, 25, 26, 6] [fun v _ => v = (.slice (some ad) l.length c), fun v _ => v = (.int .i64 (k : Int)), fun v _ => v = (.pointer (some (ad.add (k * 10)))), fun v _ => v = (.agg #[.int .u8 x.f0, .int .u32 x.f1, .int .u32 x.f2, .slice A3 x.f3.length a3, .slice A4 x.f4.length a4, .int .u32 x.f5.f0, .slice A6 x.f5.f1.length a6, .int .i64 x.f6, .int .i64 x.f7, .slice A9 x.f8.length a9]), fun v _ => v = (.slice (some bd) l.length d), fun v _ => v = (.int .i64 (k : Int)), fun v _ => v = (.pointer (some (bd.add (k * 10)))), fun v _ => v = (.agg #[.int .u8 x.f0, .int .u32 x.f1, .int .u32 x.f2, .slice B3 x.f3.length b3, .slice B4 x.f4.length b4, .int .u32 x.f5.f0, .slice B6 x.f5.f1.length b6, .int .i64 x.f6, .int .i64 x.f7, .slice B9 x.f8.length b9]), fun v _ => v = (.bool true), fun v _ => v = (.bool true)] [0, 1, 2, 3, 4, 5, 6, 7, 8, 9] (true, [([], []), ([], []), ([0, 1], [0, 1]), ([2], [2]), ([], []), ([], []), ([4, 5], [4, 5]), ([6], [6]), ([3, 7], [3, 7]), ([8, 8, 0, 1, 2, 3, 4, 5, 6, 7, 8], [8])]) [0, 0, 3, 7, 0, 0, 48, 112, 255, 511] (by kernel_rfl) (by kernel_rfl) (by kernel_rfl) (by kernel_rfl) (by kernel_rfl) (by kernel_rfl) (by kernel_rfl) (by rfl) (by kernel_rfl) ?_ ?_ ?_
   ·exact (iP (jO _) (iP (jO _) (iP (jO _) (iP (jO _) (iP (jO _) (iP (jO _) (iP (jO _) (iP (jO _) (iP (jO _) (iP (jO _) uV))))))))))
   ·refine iI ?_ ?_
    ·intro a w' vs hB hel hd
     have e0 : a.tmps[0]? = some (.slice (some ad) l.length c) := (hel 0 (by kernel_rfl)).trans (by rfl)
     refine ⟨_, rfl, rfl, fun K hK => ?_⟩
     refine iY (w1 := w') (v := .slice (some ad) l.length c) (by rfl) rfl ?_ (hK _ _ (by exact rfl) (Below.refl _ _))
     ·go_simp
      (try simp only [iR, iQ])
      (try rfl)
      (try (unfold Go.RowKit.wrap64; omega))
    refine iI ?_ ?_
    ·intro a w' vs hB hel hd
     have e5 : a.tmps[5]? = some (.int .i64 (k : Int)) := (hel 5 (by kernel_rfl)).trans (by rfl)
     refine ⟨_, rfl, rfl, fun K hK => ?_⟩
     refine iY (w1 := w') (v := .int .i64 (k : Int)) (by rfl) rfl ?_ (hK _ _ (by exact rfl) (Below.refl _ _))
     ·go_simp
      (try simp only [iR, iQ])
      (try rfl)
      (try (unfold Go.RowKit.wrap64; omega))
    refine iI ?_ ?_
    ·intro a w' vs hB hel hd
     obtain ⟨f18, r18⟩ := hd 0 (by kernel_rfl)
     have e18 : a.tmps[18]? = some (.slice (some ad) l.length c) := f18.trans (congrArg some (r18 : vs 0 = (.slice (some ad) l.length c)))
     obtain ⟨f19, r19⟩ := hd 1 (by kernel_rfl)
     have e19 : a.tmps[19]? = some (.int .i64 (k : Int)) := f19.trans (congrArg some (r19 : vs 1 = (.int .i64 (k : Int))))
     refine ⟨_, rfl, rfl, fun K hK => ?_⟩
     refine iY (w1 := w') (v := .pointer (some (ad.add (k * 10)))) (by rfl) rfl ?_ (hK _ _ (by exact rfl) (Below.refl _ _))
     ·go_simp
      (try simp only [iR, iQ])
      (try rfl)
      (try (unfold Go.RowKit.wrap64; omega))
    refine iI ?_ ?_
    ·intro a w' vs hB hel hd
     obtain ⟨f20, r20⟩ := hd 2 (by kernel_rfl)
     have e20 : a.tmps[20]? = some (.pointer (some (ad.add (k * 10)))) := f20.trans (congrArg some (r20 : vs 2 = (.pointer (some (ad.add (k * 10))))))
     have hz0 := HXX.out w' hB
     refine ⟨_, rfl, rfl, fun K hK => ?_⟩
     refine iY (w1 := w') (v := .agg #[.int .u8 x.f0, .int .u32 x.f1, .int .u32 x.f2, .slice A3 x.f3.length a3, .slice A4 x.f4.length a4, .int .u32 x.f5.f0, .slice A6 x.f5.f1.length a6, .int .i64 x.f6, .int .i64 x.f7, .slice A9 x.f8.length a9]) (by rfl) rfl ?_ (hK _ _ (by exact rfl) (Below.refl _ _))
     ·go_simp
      (try simp only [iR, iQ])
      (try rfl)
      (try (unfold Go.RowKit.wrap64; omega))
    refine iI ?_ ?_
    ·intro a w' vs hB hel hd
     have e1 : a.tmps[1]? = some (.slice (some bd) l.length d) := (hel 1 (by kernel_rfl)).trans (by rfl)
     refine ⟨_, rfl, rfl, fun K hK => ?_⟩
     refine iY (w1 := w') (v := .slice (some bd) l.length d) (by rfl) rfl ?_ (hK _ _ (by exact rfl) (Below.refl _ _))
     ·go_simp
      (try simp only [iR, iQ])
      (try rfl)
      (try (unfold Go.RowKit.wrap64; omega))
    refine iI ?_ ?_
    ·intro a w' vs hB hel hd
     have e5 : a.tmps[5]? = some (.int .i64 (k : Int)) := (hel 5 (by kernel_rfl)).trans (by rfl)
     refine ⟨_, rfl, rfl, fun K hK => ?_⟩
     refine iY (w1 := w') (v := .int .i64 (k : Int)) (by rfl) rfl ?_ (hK _ _ (by exact rfl) (Below.refl _ _))
     ·go_simp
      (try simp only [iR, iQ])
      (try rfl)
      (try (unfold Go.RowKit.wrap64; omega))
    refine iI ?_ ?_
    ·intro a w' vs hB hel hd
     obtain ⟨f22, r22⟩ := hd 4 (by kernel_rfl)
     have e22 : a.tmps[22]? = some (.slice (some bd) l.length d) := f22.trans (congrArg some (r22 : vs 4 = (.slice (some bd) l.length d)))
     obtain ⟨f23, r23⟩ := hd 5 (by kernel_rfl)
     have e23 : a.tmps[23]? = some (.int .i64 (k : Int)) := f23.trans (congrArg some (r23 : vs 5 = (.int .i64 (k : Int))))
     refine ⟨_, rfl, rfl, fun K hK => ?_⟩
     refine iY (w1 := w') (v := .pointer (some (bd.add (k * 10)))) (by rfl) rfl ?_ (hK _ _ (by exact rfl) (Below.refl _ _))
     ·go_simp
      (try simp only [iR, iQ])
      (try rfl)
      (try (unfold Go.RowKit.wrap64; omega))
    refine iI ?_ ?_
    ·intro a w' vs hB hel hd
     obtain ⟨f24, r24⟩ := hd 6 (by kernel_rfl)
     have e24 : a.tmps[24]? = some (.pointer (some (bd.add (k * 10)))) := f24.trans (congrArg some (r24 : vs 6 = (.pointer (some (bd.add (k * 10))))))
     have hz0 := HYY.out w' hB
     refine ⟨_, rfl, rfl, fun K hK => ?_⟩
     refine iY (w1 := w') (v := .agg #[.int .u8 x.f0, .int .u32 x.f1, .int .u32 x.f2, .slice B3 x.f3.length b3, .slice B4 x.f4.length b4, .int .u32 x.f5.f0, .slice B6 x.f5.f1.length b6, .int .i64 x.f6, .int .i64 x.f7, .slice B9 x.f8.length b9]) (by rfl) rfl ?_ (hK _ _ (by exact rfl) (Below.refl _ _))
     ·go_simp
      (try simp only [iR, iQ])
      (try rfl)
      (try (unfold Go.RowKit.wrap64; omega))
    refine iI ?_ ?_
    ·intro a w' vs hB hel hd
     obtain ⟨f21, r21⟩ := hd 3 (by kernel_rfl)
     have e21 : a.tmps[21]? = some (.agg #[.int .u8 x.f0, .int .u32 x.f1, .int .u32 x.f2, .slice A3 x.f3.length a3, .slice A4 x.f4.length a4, .int .u32 x.f5.f0, .slice A6 x.f5.f1.length a6, .int .i64 x.f6, .int .i64 x.f7, .slice A9 x.f8.length a9]) := f21.trans (congrArg some (r21 : vs 3 = (.agg #[.int .u8 x.f0, .int .u32 x.f1, .int .u32 x.f2, .slice A3 x.f3.length a3, .slice A4 x.f4.length a4, .int .u32 x.f5.f0, .slice A6 x.f5.f1.length a6, .int .i64 x.f6, .int .i64 x.f7, .slice A9 x.f8.length a9])))
     obtain ⟨f25, r25⟩ := hd 7 (by kernel_rfl)
     have e25 : a.tmps[25]? = some (.agg #[.int .u8 x.f0, .int .u32 x.f1, .int .u32 x.f2, .slice B3 x.f3.length b3, .slice B4 x.f4.length b4, .int .u32 x.f5.f0, .slice B6 x.f5.f1.length b6, .int .i64 x.f6, .int .i64 x.f7, .slice B9 x.f8.length b9]) := f25.trans (congrArg some (r25 : vs 7 = (.agg #[.int .u8 x.f0, .int .u32 x.f1, .int .u32 x.f2, .slice B3 x.f3.length b3, .slice B4 x.f4.length b4, .int .u32 x.f5.f0, .slice B6 x.f5.f1.length b6, .int .i64 x.f6, .int .i64 x.f7, .slice B9 x.f8.length b9])))
     refine ⟨_, rfl, rfl, fun K hK => ?_⟩
     refine qL Tryz.func37 (by kernel_rfl) rfl #[.agg #[.int .u8 x.f0, .int .u32 x.f1, .int .u32 x.f2, .slice A3 x.f3.length a3, .slice A4 x.f4.length a4, .int .u32 x.f5.f0, .slice A6 x.f5.f1.length a6, .int .i64 x.f6, .int .i64 x.f7, .slice A9 x.f8.length a9], .agg #[.int .u8 x.f0, .int .u32 x.f1, .int .u32 x.f2, .slice B3 x.f3.length b3, .slice B4 x.f4.length b4, .int .u32 x.f5.f0, .slice B6 x.f5.f1.length b6, .int .i64 x.f6, .int .i64 x.f7, .slice B9 x.f8.length b9]] (by rfl) rfl rfl (by first | (simp only [List.map_toArray, List.map_cons, List.map_nil, Act.eval, Array.getD_eq_getD_getElem?, Option.getD_some, e21, e25]; done) | (simp only [List.map_toArray, List.map_cons, List.map_nil, Act.eval, Array.getD_eq_getD_getElem?, Option.getD_some, e21, e25]; rfl)) ?_
     refine (Y7 (HL.out.below hB) (HM.out.below hB) HSS.out).mono ?_
     rintro e_ w2_ ⟨rfl, hb2_⟩
     exact ⟨_, rfl, hK _ _ (by exact rfl) hb2_⟩
    refine iI ?_ ?_
    ·intro a w' vs hB hel hd
     obtain ⟨f26, r26⟩ := hd 8 (by kernel_rfl)
     have e26 : a.tmps[26]? = some (.bool true) := f26.trans (congrArg some (r26 : vs 8 = (.bool true)))
     refine ⟨_, rfl, rfl, fun K hK => ?_⟩
     refine iY (w1 := w') (v := .bool true) (by rfl) rfl ?_ (hK _ _ (by exact rfl) (Below.refl _ _))
     ·go_simp
      (try simp only [iR, iQ])
      (try rfl)
      (try (unfold Go.RowKit.wrap64; omega))
    exact oG
   ·intro vs w' hB hR
    have hv0_ : vs 0 = (.slice (some ad) l.length c) := hR 0 (by kernel_rfl)
    have hv1_ : vs 1 = (.int .i64 (k : Int)) := hR 1 (by kernel_rfl)
    have hv2_ : vs 2 = (.pointer (some (ad.add (k * 10)))) := hR 2 (by kernel_rfl)
    have hv3_ : vs 3 = (.agg #[.int .u8 x.f0, .int .u32 x.f1, .int .u32 x.f2, .slice A3 x.f3.length a3, .slice A4 x.f4.length a4, .int .u32 x.f5.f0, .slice A6 x.f5.f1.length a6, .int .i64 x.f6, .int .i64 x.f7, .slice A9 x.f8.length a9]) := hR 3 (by kernel_rfl)
    have hv4_ : vs 4 = (.slice (some bd) l.length d) := hR 4 (by kernel_rfl)
    have hv5_ : vs 5 = (.int .i64 (k : Int)) := hR 5 (by kernel_rfl)
    have hv6_ : vs 6 = (.pointer (some (bd.add (k * 10)))) := hR 6 (by kernel_rfl)
    have hv7_ : vs 7 = (.agg #[.int .u8 x.f0, .int .u32 x.f1, .int .u32 x.f2, .slice B3 x.f3.length b3, .slice B4 x.f4.length b4, .int .u32 x.f5.f0, .slice B6 x.f5.f1.length b6, .int .i64 x.f6, .int .i64 x.f7, .slice B9 x.f8.length b9]) := hR 7 (by kernel_rfl)
    have hv8_ : vs 8 = (.bool true) := hR 8 (by kernel_rfl)
    have hv9_ : vs 9 = (.bool true) := hR 9 (by kernel_rfl)
    rw [show entries [18, 19, 20, 21, 22, 23, 24, 25, 26, 6] vs = [(0, 18, vs 0), (1, 19, vs 1), (2, 20, vs 2), (3, 21, vs 3), (4, 22, vs 4), (5, 23, vs 5), (6, 24, vs 6), (7, 25, vs 7), (8, 26, vs 8), (9, 6, vs 9)] from rfl]
    simp only [jV, if_true, Act.put, List.setIfInBounds_toArray, List.set_cons_zero, List.set_cons_succ, hv0_, hv1_, hv2_, hv3_, hv4_, hv5_, hv6_, hv7_, hv8_, hv9_]
    clear hR hv0_ hv1_ hv2_ hv3_ hv4_ hv5_ hv6_ hv7_ hv8_ hv9_
    have HB2 := iC.mk (iF HB.out hB)
    go_wp2
    go_roundw
    case rel => exact ⟨k + 1, by omega, by go_num, HB2⟩
    case measure => simp [intOf]; omega
  ·obtain rfl : k = l.length := by omega
   go_wp2
   go_ret
   exact ⟨rfl, HB.out⟩
end Go.Proofs.YtgfkgppomaapiaaGreatDoor.K
end

section
namespace Go.Proofs.YtgfkgppomaapiaaGreatDoor.K
open RowKit YtgfkgppomaapiaaGreatDoorW.PrintWords YtgfkgppomaapiaaGreatDoorW.PrintLast YtgfkgppomaapiaaGreatDoorW.PrintMore My
def YU (l : List UInt8) : Value → World → Prop := fun v w => ∃ A c, v = .slice A l.length c ∧ kb.C w A l.length l
theorem j5_ (l : List UInt8) : Rm (YU l) := fun _ _ _ ⟨A, c, h1, h2⟩ hb => ⟨A, c, h1, Kd.C_below h2 hb⟩
theorem WG (b : List UInt8) : ∀ x ∈ nD (jY b), SLen x := fun x hx => by
 unfold nD at hx
 obtain ⟨y, _, rfl⟩ := List.mem_map.1 hx
 exact UX y
attribute [-go_sem] Instr.build Instr.storeAt
set_option maxRecDepth 20000 in
set_option maxHeartbeats 16000000 in
theorem NS (A : Option Addr) (c : Nat) (l : List UInt8) (w0 : World) (hCi : (Kd.int .u8).C w0 A l.length (nums l)) (hc : l.length ≤ c) :
  Calls Tryz.prog 3 #[.slice A l.length c] w0 fun e w' => e = .returned (.bool true) ∧ Below w0.heap.size w0 w' := by
 have HC := iC.mk (uD hCi)
 clear hCi
 by_cases hl : (l.length : Int) > 3000
 ·go_enter Tryz.func3, Tryz.ntmps3
  go_wp2_with fail
  go_at_call 5
  refine (X0 _).mono ?_
  rintro e w1 ⟨rfl, hb1⟩
  go_wp2
  go_ret
  exact ⟨rfl, hb1⟩
 ·have HL := iC.mk hl
  go_enter Tryz.func3, Tryz.ntmps3
  go_wp2_with fail
  go_at_call 5
  refine (X0 _).mono ?_
  rintro e w1 ⟨rfl, hb1⟩
  have HB1 := iC.mk hb1
  clear hb1
  go_wp2_with fail
  go_at_call 6
  refine (jf3 10000 w1 (by omega)).mono ?_
  rintro e w2 ⟨rfl, hd2, hb2⟩
  have HD2 := iC.mk hd2
  have HB2 := iC.mk hb2
  obtain ⟨b, hb⟩ : ∃ b, b = w1.heap.size := ⟨_, rfl⟩
  rw [← hb] at HD2 ⊢
  have HBI := iC.mk hb
  clear hd2 hb2 hb
  go_wp2_with fail
  go_at_call 7
  refine (jh6 10000 w2 (by omega)).mono ?_
  rintro e w3 ⟨rfl, hd3, hb3⟩
  obtain ⟨r, hr⟩ : ∃ r, r = w2.heap.size := ⟨_, rfl⟩
  rw [← hr] at hd3 ⊢
  have H3 := iC.mk (show Pr w0 w3 b none (DM.new 10000) r none (DM.new 10000) from ⟨HD2.out.below hb3, hd3, iF (iF HB1.out HB2.out) hb3, by rw [HBI.out]; exact HB1.out.size, by rw [hr]; exact Nat.le_trans HB1.out.size HB2.out.size, fun _ q => (by cases q), fun _ q => (by cases q), fun _ q => (by cases q)⟩)
  clear hd3 hb3 hr HD2 HB2 HBI HB1
  have hA : ∀ x, w0.heap.size ≤ x → ∀ a, A = some a → 0 < l.length → a.block ≠ x := fun x hx a e h0 => by
   subst e
   have := Kd.C_lt HC.out h0 (by decide)
   omega
  have hcall := RD (c := c) H3.out.dd (Kd.C_below HC.out H3.out.bel) (hA b H3.out.blk) (by have := HL.out; omega)
  have HAA := iC.mk hA
  obtain ⟨E, hE⟩ : ∃ E, (DM.new 10000).appE l = E := ⟨_, rfl⟩
  obtain ⟨D, hD⟩ : ∃ D, (DM.new 10000).app l = D := ⟨_, rfl⟩
  have HDL := iC.mk (show D.left = -1 from by rw [← hD]; exact YY l rfl)
  have HDR := iC.mk (show D.room = 10000 from by rw [← hD]; exact ZO l)
  have HE := iC.mk hE
  have HD := iC.mk hD
  rw [hE, hD] at hcall
  clear hA hE hD
  go_wp2_with fail
  go_at_call 8
  refine hcall.mono ?_
  intro e w4 hp
  obtain ⟨rfl, _, row4, h4⟩ := H3.out.dp hp
  have hcall := Y6 (c := c) h4.rk (Kd.C_below HC.out h4.bel) (HAA.out r h4.rlk) (by have := HL.out; omega)
  rw [HE.out, HD.out] at hcall
  have H4 := iC.mk h4
  clear hp h4 H3
  go_wp2_with fail
  go_at_call 9
  refine hcall.mono ?_
  intro e w5 hp
  obtain ⟨rfl, _, rr5, h5⟩ := H4.out.rp hp
  have H5 := iC.mk h5
  clear hcall hp h5 H4 HAA HE HD HC
  have hopE := (pJ HDL.out).1
  have hre := reopen HDL.out
  have hl2 : (lN D).left = -1 := by rw [(pJ HDL.out).2]
  have hopE2 := (pJ hl2).1
  have HOE := iC.mk hopE
  have HOE2 := iC.mk hopE2
  have HRE := iC.mk hre
  have HR2 := iC.mk (show (lN D).room = 10000 from by rw [(pJ HDL.out).2]; exact HDR.out)
  clear hopE hre hl2 hopE2
  have hcall := open_any H5.out.dd (by have := H5.out.dd.2.fit; have := HDR.out; omega)
  go_wp2_with fail
  go_at_call 10
  refine hcall.mono ?_
  intro e w6 hp
  obtain ⟨row6, g6, v6, h6, rfl, _, hr6, _⟩ := H5.out.open hp HOE.out
  have H6 := iC.mk h6
  have HX6 := iC.mk hr6
  clear hcall hp h6 hr6 H5
  have hcall := XJ H6.out.rk (by have := H6.out.rk.2.fit; have := HDR.out; omega)
  go_wp2_with fail
  go_at_call 11
  refine hcall.mono ?_
  intro e w7 hp
  obtain ⟨rr7, g7, v7, h7, rfl, _, hr7, hk7⟩ := H6.out.ropen hp HOE.out
  have H7 := iC.mk h7
  have HX7 := iC.mk (HX6.out.rkb H6.out.rk hk7)
  have HY7 := iC.mk hr7
  clear hcall hp h7 hr7 hk7 H6 HX6
  have hcall := open_any H7.out.dd (by have := H7.out.dd.2.fit; have := HR2.out; omega)
  go_wp2_with fail
  go_at_call 10
  refine hcall.mono ?_
  intro e w8 hp
  obtain ⟨row8, g8, v8, h8, rfl, _, hr8, hk8⟩ := H7.out.open hp HOE2.out
  rw [HRE.out.2] at h8
  rw [HRE.out.1] at hr8
  have hx8 := HX7.out.kb H7.out.dd hk8
  have hy8 := HY7.out.kb H7.out.dd hk8
  have hsl := WG D.bs
  obtain ⟨G, hG⟩ : ∃ G, nD (jY D.bs) = G := ⟨_, rfl⟩
  rw [hG] at hx8 hy8 hr8 hsl
  obtain ⟨Ax, cx, rfl, _, Cx⟩ := Kd.R_reads hx8
  obtain ⟨Ay, cy, rfl, _, Cy⟩ := Kd.R_reads hy8
  obtain ⟨Az, cz, rfl, _, Cz⟩ := Kd.R_reads hr8
  obtain ⟨bl, hbl⟩ : ∃ x, x = (lN D).bs := ⟨_, rfl⟩
  have HBB := iC.mk hbl
  obtain ⟨⟨ao, cap, hRc, hRw⟩, _⟩ := h8.rk
  obtain ⟨hRd, _, _⟩ := hRw.reads
  rw [← hbl] at hRd hRc
  have hrc := hRc.c0
  have HRd := iC.mk hRd
  have HCx := iC.mk Cx
  have HCy := iC.mk Cy
  have HCz := iC.mk Cz
  have HSL := iC.mk hsl
  have H8 := iC.mk h8
  clear hcall hp h8 hr8 hk8 H7 HX7 HY7 hx8 hy8 hsl hG Cx Cy Cz hbl hRc hRw hRd
  go_upto_region 12 with fail
  refine vF [54, 55, 56, 57, 58, 59, 60, 61, 62, 63, 64, 65, 66, 67, 68, 69, 70, 71, 72, 73, 74, 75, 76, 77, 78, 79, 80, 81, 82, 2] [fun v _ => v = (.int .u16 0), fun v _ => v = (.int .i64 0), fun v _ => v = (.int .i64 0), fun v _ => v = (.bool true), fun v _ => v = (.bool true), fun v _ => v = (.int .u16 0), fun v _ => v = (.bool true), fun v _ => v = (.bool true), fun v _ => v = (.bool true), fun v _ => v = (.slice Ax G.length cx), fun v _ => v = (.slice Ay G.length cy), fun v _ => v = (.bool true), fun v _ => v = (.bool true), fun v _ => v = (.bool true), fun v _ => v = (.slice Ax G.length cx), fun v _ => v = (.slice Az G.length cz), fun v _ => v = (.bool true), fun v _ => v = (.bool true), fun v _ => v = (.bool true), fun v _ => v = (.pointer (some ⟨b, 0, none⟩)), YU bl, fun v _ => v = (.string (bs bl)), fun v _ => v = (.pointer (some ⟨r, 0, none⟩)), fun v _ => v = (.pointer (some ⟨r, 0, none⟩)), fun v _ => v = (.pointer (some ⟨r, 0, none⟩)), fun v _ => v = (.slice ao bl.length cap), fun v _ => v = (.string (bs bl)), fun v _ => v = (.bool true), fun v _ => v = (.bool true), fun v _ => v = (.bool true)] [0, 1, 2, 3, 4, 5, 6, 7, 8, 9, 10, 11, 12, 13, 14, 15, 16, 17, 18, 19, 20, 21, 22, 23, 24, 25, 26, 27, 28, 29] (true, [([], []), ([0], [0]), ([], []), ([1, 2], [1, 2]), ([3], [3]), ([4], [4]), ([5, 4], [4, 5]), ([4, 6], [4, 6]), ([7, 4], [7]), ([8], [8]), ([8], [8]), ([9, 10, 8, 8], [8, 9, 10]), ([8, 11], [8, 11]), ([12, 11], [12]), ([13], [13]), ([13], [13]), ([14, 15, 13, 13], [13, 14, 15]), ([13, 16], [13, 16]), ([17, 16], [17]), ([18], [18]), ([19, 18, 18], [18, 19]), ([20, 18], [18, 20]), ([18], [18]), ([22, 18], [18, 22]), ([23, 18], [18, 23]), ([24, 18], [18, 24]), ([25, 18], [18, 25]), ([21, 26, 18], [18, 21, 26]), ([18, 27], [18, 27]), ([28, 20, 0, 1, 2, 3, 4, 5, 6, 7, 8, 9, 10, 11, 12, 13, 14, 15, 16, 17, 18, 19, 20, 21, 22, 23, 24, 25, 26, 27, 28], [28])]) [0, 1, 0, 7, 15, 31, 63, 127, 255, 511, 511, 2047, 4095, 8191, 16383, 16383, 65535, 131071, 262143, 524287, 1048575, 2097151, 524287, 4718591, 13107199, 29884415, 63438847, 134217727, 268435455, 536870911] (by kernel_rfl) (by kernel_rfl) (by kernel_rfl) (by kernel_rfl) (by kernel_rfl) (by kernel_rfl) (by kernel_rfl) (by rfl) (by kernel_rfl) ?_ ?_ ?_
  ·exact (iP (jO _) (iP (jO _) (iP (jO _) (iP (jO _) (iP (jO _) (iP (jO _) (iP (jO _) (iP (jO _) (iP (jO _) (iP (jO _) (iP (jO _) (iP (jO _) (iP (jO _) (iP (jO _) (iP (jO _) (iP (jO _) (iP (jO _) (iP (jO _) (iP (jO _) (iP (jO _) (iP (j5_ bl) (iP (jO _) (iP (jO _) (iP (jO _) (iP (jO _) (iP (jO _) (iP (jO _) (iP (jO _) (iP (jO _) (iP (jO _) uV))))))))))))))))))))))))))))))
  ·refine iI ?_ ?_
   ·intro a w' vs hB hel hd
    have e7 : a.tmps[7]? = some (.int .u16 0) := (hel 7 (by kernel_rfl)).trans (by rfl)
    refine ⟨_, rfl, rfl, fun K hK => ?_⟩
    refine iY (w1 := w') (v := .int .u16 0) (by rfl) rfl ?_ (hK _ _ (by exact rfl) (Below.refl _ _))
    ·go_simp
     (try simp only [iR, iQ])
     (try rfl)
     (try (unfold Go.RowKit.wrap64; omega))
   refine iI ?_ ?_
   ·intro a w' vs hB hel hd
    obtain ⟨f54, r54⟩ := hd 0 (by kernel_rfl)
    have e54 : a.tmps[54]? = some (.int .u16 0) := f54.trans (congrArg some (r54 : vs 0 = (.int .u16 0)))
    refine ⟨_, rfl, rfl, fun K hK => ?_⟩
    refine iY (w1 := w') (v := .int .i64 0) (by rfl) rfl ?_ (hK _ _ (by exact rfl) (Below.refl _ _))
    ·go_simp
     (try simp only [iR, iQ])
     (try rfl)
     (try (unfold Go.RowKit.wrap64; omega))
   refine iI ?_ ?_
   ·intro a w' vs hB hel hd
    have e10 : a.tmps[10]? = some (.int .i64 0) := (hel 10 (by kernel_rfl)).trans (by rfl)
    refine ⟨_, rfl, rfl, fun K hK => ?_⟩
    refine iY (w1 := w') (v := .int .i64 0) (by rfl) rfl ?_ (hK _ _ (by exact rfl) (Below.refl _ _))
    ·go_simp
     (try simp only [iR, iQ])
     (try rfl)
     (try (unfold Go.RowKit.wrap64; omega))
   refine iI ?_ ?_
   ·intro a w' vs hB hel hd
    obtain ⟨f55, r55⟩ := hd 1 (by kernel_rfl)
    have e55 : a.tmps[55]? = some (.int .i64 0) := f55.trans (congrArg some (r55 : vs 1 = (.int .i64 0)))
    obtain ⟨f56, r56⟩ := hd 2 (by kernel_rfl)
    have e56 : a.tmps[56]? = some (.int .i64 0) := f56.trans (congrArg some (r56 : vs 2 = (.int .i64 0)))
    refine ⟨_, rfl, rfl, fun K hK => ?_⟩
    refine iY (w1 := w') (v := .bool true) (by rfl) rfl ?_ (hK _ _ (by exact rfl) (Below.refl _ _))
    ·go_simp
     (try simp only [iR, iQ])
     (try rfl)
     (try (unfold Go.RowKit.wrap64; omega))
   refine iI ?_ ?_
   ·intro a w' vs hB hel hd
    obtain ⟨f57, r57⟩ := hd 3 (by kernel_rfl)
    have e57 : a.tmps[57]? = some (.bool true) := f57.trans (congrArg some (r57 : vs 3 = (.bool true)))
    refine ⟨_, rfl, rfl, fun K hK => ?_⟩
    refine iY (w1 := w') (v := .bool true) (by rfl) rfl ?_ (hK _ _ (by exact rfl) (Below.refl _ _))
    ·go_simp
     (try simp only [iR, iQ])
     (try rfl)
     (try (unfold Go.RowKit.wrap64; omega))
   refine iI ?_ ?_
   ·intro a w' vs hB hel hd
    have e13 : a.tmps[13]? = some (.int .u16 0) := (hel 13 (by kernel_rfl)).trans (by rfl)
    obtain ⟨f58, r58⟩ := hd 4 (by kernel_rfl)
    have e58 : a.tmps[58]? = some (.bool true) := f58.trans (congrArg some (r58 : vs 4 = (.bool true)))
    refine ⟨_, rfl, rfl, fun K hK => ?_⟩
    refine iY (w1 := w') (v := .int .u16 0) (kQ rfl rfl rfl e58) rfl ?_ (hK _ _ (by exact rfl) (Below.refl _ _))
    ·go_simp
     (try simp only [iR, iQ])
     (try rfl)
     (try (unfold Go.RowKit.wrap64; omega))
   refine iI ?_ ?_
   ·intro a w' vs hB hel hd
    obtain ⟨f59, r59⟩ := hd 5 (by kernel_rfl)
    have e59 : a.tmps[59]? = some (.int .u16 0) := f59.trans (congrArg some (r59 : vs 5 = (.int .u16 0)))
    obtain ⟨f58, r58⟩ := hd 4 (by kernel_rfl)
    have e58 : a.tmps[58]? = some (.bool true) := f58.trans (congrArg some (r58 : vs 4 = (.bool true)))
    refine ⟨_, rfl, rfl, fun K hK => ?_⟩
    refine iY (w1 := w') (v := .bool true) (kQ rfl rfl rfl e58) rfl ?_ (hK _ _ (by exact rfl) (Below.refl _ _))
    ·go_simp
     (try simp only [iR, iQ])
     (try rfl)
     (try (unfold Go.RowKit.wrap64; omega))
   refine iI ?_ ?_
   ·intro a w' vs hB hel hd
    obtain ⟨f58, r58⟩ := hd 4 (by kernel_rfl)
    have e58 : a.tmps[58]? = some (.bool true) := f58.trans (congrArg some (r58 : vs 4 = (.bool true)))
    obtain ⟨f60, r60⟩ := hd 6 (by kernel_rfl)
    have e60 : a.tmps[60]? = some (.bool true) := f60.trans (congrArg some (r60 : vs 6 = (.bool true)))
    refine ⟨_, rfl, rfl, fun K hK => ?_⟩
    refine iY (w1 := w') (v := .bool true) (by rfl) rfl ?_ (hK _ _ (by exact rfl) (Below.refl _ _))
    ·go_simp
     (try simp only [iR, iQ])
     (try rfl)
     (try (unfold Go.RowKit.wrap64; omega))
   refine iI ?_ ?_
   ·intro a w' vs hB hel hd
    obtain ⟨f61, r61⟩ := hd 7 (by kernel_rfl)
    have e61 : a.tmps[61]? = some (.bool true) := f61.trans (congrArg some (r61 : vs 7 = (.bool true)))
    refine ⟨_, rfl, rfl, fun K hK => ?_⟩
    refine iY (w1 := w') (v := .bool true) (by rfl) rfl ?_ (hK _ _ (by exact rfl) (Below.refl _ _))
    ·go_simp
     (try simp only [iR, iQ])
     (try rfl)
     (try (unfold Go.RowKit.wrap64; omega))
   refine iI ?_ ?_
   ·intro a w' vs hB hel hd
    have e6 : a.tmps[6]? = some (.slice Ax G.length cx) := (hel 6 (by kernel_rfl)).trans (by rfl)
    obtain ⟨f62, r62⟩ := hd 8 (by kernel_rfl)
    have e62 : a.tmps[62]? = some (.bool true) := f62.trans (congrArg some (r62 : vs 8 = (.bool true)))
    refine ⟨_, rfl, rfl, fun K hK => ?_⟩
    refine iY (w1 := w') (v := .slice Ax G.length cx) (kQ rfl rfl rfl e62) rfl ?_ (hK _ _ (by exact rfl) (Below.refl _ _))
    ·go_simp
     (try simp only [iR, iQ])
     (try rfl)
     (try (unfold Go.RowKit.wrap64; omega))
   refine iI ?_ ?_
   ·intro a w' vs hB hel hd
    have e9 : a.tmps[9]? = some (.slice Ay G.length cy) := (hel 9 (by kernel_rfl)).trans (by rfl)
    obtain ⟨f62, r62⟩ := hd 8 (by kernel_rfl)
    have e62 : a.tmps[62]? = some (.bool true) := f62.trans (congrArg some (r62 : vs 8 = (.bool true)))
    refine ⟨_, rfl, rfl, fun K hK => ?_⟩
    refine iY (w1 := w') (v := .slice Ay G.length cy) (kQ rfl rfl rfl e62) rfl ?_ (hK _ _ (by exact rfl) (Below.refl _ _))
    ·go_simp
     (try simp only [iR, iQ])
     (try rfl)
     (try (unfold Go.RowKit.wrap64; omega))
   refine iI ?_ ?_
   ·intro a w' vs hB hel hd
    obtain ⟨f63, r63⟩ := hd 9 (by kernel_rfl)
    have e63 : a.tmps[63]? = some (.slice Ax G.length cx) := f63.trans (congrArg some (r63 : vs 9 = (.slice Ax G.length cx)))
    obtain ⟨f64, r64⟩ := hd 10 (by kernel_rfl)
    have e64 : a.tmps[64]? = some (.slice Ay G.length cy) := f64.trans (congrArg some (r64 : vs 10 = (.slice Ay G.length cy)))
    obtain ⟨f62, r62⟩ := hd 8 (by kernel_rfl)
    have e62 : a.tmps[62]? = some (.bool true) := f62.trans (congrArg some (r62 : vs 8 = (.bool true)))
    refine ⟨_, rfl, rfl, fun K hK => ?_⟩
    refine qL Tryz.func12 (by kernel_rfl) rfl #[.slice Ax G.length cx, .slice Ay G.length cy] (kQ rfl rfl rfl e62) rfl rfl (by first | (simp only [List.map_toArray, List.map_cons, List.map_nil, Act.eval, Array.getD_eq_getD_getElem?, Option.getD_some, e63, e64, e62]; done) | (simp only [List.map_toArray, List.map_cons, List.map_nil, Act.eval, Array.getD_eq_getD_getElem?, Option.getD_some, e63, e64, e62]; rfl)) ?_
    refine (j1_ Ax Ay cx cy G w' (Kd.C_below HCx.out hB) (Kd.C_below HCy.out hB) HSL.out).mono ?_
    rintro e_ w2_ ⟨rfl, hb2_⟩
    exact ⟨_, rfl, hK _ _ (by exact rfl) hb2_⟩
   refine iI ?_ ?_
   ·intro a w' vs hB hel hd
    obtain ⟨f62, r62⟩ := hd 8 (by kernel_rfl)
    have e62 : a.tmps[62]? = some (.bool true) := f62.trans (congrArg some (r62 : vs 8 = (.bool true)))
    obtain ⟨f65, r65⟩ := hd 11 (by kernel_rfl)
    have e65 : a.tmps[65]? = some (.bool true) := f65.trans (congrArg some (r65 : vs 11 = (.bool true)))
    refine ⟨_, rfl, rfl, fun K hK => ?_⟩
    refine iY (w1 := w') (v := .bool true) (by rfl) rfl ?_ (hK _ _ (by exact rfl) (Below.refl _ _))
    ·go_simp
     (try simp only [iR, iQ])
     (try rfl)
     (try (unfold Go.RowKit.wrap64; omega))
   refine iI ?_ ?_
   ·intro a w' vs hB hel hd
    obtain ⟨f66, r66⟩ := hd 12 (by kernel_rfl)
    have e66 : a.tmps[66]? = some (.bool true) := f66.trans (congrArg some (r66 : vs 12 = (.bool true)))
    refine ⟨_, rfl, rfl, fun K hK => ?_⟩
    refine iY (w1 := w') (v := .bool true) (by rfl) rfl ?_ (hK _ _ (by exact rfl) (Below.refl _ _))
    ·go_simp
     (try simp only [iR, iQ])
     (try rfl)
     (try (unfold Go.RowKit.wrap64; omega))
   refine iI ?_ ?_
   ·intro a w' vs hB hel hd
    have e6 : a.tmps[6]? = some (.slice Ax G.length cx) := (hel 6 (by kernel_rfl)).trans (by rfl)
    obtain ⟨f67, r67⟩ := hd 13 (by kernel_rfl)
    have e67 : a.tmps[67]? = some (.bool true) := f67.trans (congrArg some (r67 : vs 13 = (.bool true)))
    refine ⟨_, rfl, rfl, fun K hK => ?_⟩
    refine iY (w1 := w') (v := .slice Ax G.length cx) (kQ rfl rfl rfl e67) rfl ?_ (hK _ _ (by exact rfl) (Below.refl _ _))
    ·go_simp
     (try simp only [iR, iQ])
     (try rfl)
     (try (unfold Go.RowKit.wrap64; omega))
   refine iI ?_ ?_
   ·intro a w' vs hB hel hd
    have e12 : a.tmps[12]? = some (.slice Az G.length cz) := (hel 12 (by kernel_rfl)).trans (by rfl)
    obtain ⟨f67, r67⟩ := hd 13 (by kernel_rfl)
    have e67 : a.tmps[67]? = some (.bool true) := f67.trans (congrArg some (r67 : vs 13 = (.bool true)))
    refine ⟨_, rfl, rfl, fun K hK => ?_⟩
    refine iY (w1 := w') (v := .slice Az G.length cz) (kQ rfl rfl rfl e67) rfl ?_ (hK _ _ (by exact rfl) (Below.refl _ _))
    ·go_simp
     (try simp only [iR, iQ])
     (try rfl)
     (try (unfold Go.RowKit.wrap64; omega))
   refine iI ?_ ?_
   ·intro a w' vs hB hel hd
    obtain ⟨f68, r68⟩ := hd 14 (by kernel_rfl)
    have e68 : a.tmps[68]? = some (.slice Ax G.length cx) := f68.trans (congrArg some (r68 : vs 14 = (.slice Ax G.length cx)))
    obtain ⟨f69, r69⟩ := hd 15 (by kernel_rfl)
    have e69 : a.tmps[69]? = some (.slice Az G.length cz) := f69.trans (congrArg some (r69 : vs 15 = (.slice Az G.length cz)))
    obtain ⟨f67, r67⟩ := hd 13 (by kernel_rfl)
    have e67 : a.tmps[67]? = some (.bool true) := f67.trans (congrArg some (r67 : vs 13 = (.bool true)))
    refine ⟨_, rfl, rfl, fun K hK => ?_⟩
    refine qL Tryz.func12 (by kernel_rfl) rfl #[.slice Ax G.length cx, .slice Az G.length cz] (kQ rfl rfl rfl e67) rfl rfl (by first | (simp only [List.map_toArray, List.map_cons, List.map_nil, Act.eval, Array.getD_eq_getD_getElem?, Option.getD_some, e68, e69, e67]; done) | (simp only [List.map_toArray, List.map_cons, List.map_nil, Act.eval, Array.getD_eq_getD_getElem?, Option.getD_some, e68, e69, e67]; rfl)) ?_
    refine (j1_ Ax Az cx cz G w' (Kd.C_below HCx.out hB) (Kd.C_below HCz.out hB) HSL.out).mono ?_
    rintro e_ w2_ ⟨rfl, hb2_⟩
    exact ⟨_, rfl, hK _ _ (by exact rfl) hb2_⟩
   refine iI ?_ ?_
   ·intro a w' vs hB hel hd
    obtain ⟨f67, r67⟩ := hd 13 (by kernel_rfl)
    have e67 : a.tmps[67]? = some (.bool true) := f67.trans (congrArg some (r67 : vs 13 = (.bool true)))
    obtain ⟨f70, r70⟩ := hd 16 (by kernel_rfl)
    have e70 : a.tmps[70]? = some (.bool true) := f70.trans (congrArg some (r70 : vs 16 = (.bool true)))
    refine ⟨_, rfl, rfl, fun K hK => ?_⟩
    refine iY (w1 := w') (v := .bool true) (by rfl) rfl ?_ (hK _ _ (by exact rfl) (Below.refl _ _))
    ·go_simp
     (try simp only [iR, iQ])
     (try rfl)
     (try (unfold Go.RowKit.wrap64; omega))
   refine iI ?_ ?_
   ·intro a w' vs hB hel hd
    obtain ⟨f71, r71⟩ := hd 17 (by kernel_rfl)
    have e71 : a.tmps[71]? = some (.bool true) := f71.trans (congrArg some (r71 : vs 17 = (.bool true)))
    refine ⟨_, rfl, rfl, fun K hK => ?_⟩
    refine iY (w1 := w') (v := .bool true) (by rfl) rfl ?_ (hK _ _ (by exact rfl) (Below.refl _ _))
    ·go_simp
     (try simp only [iR, iQ])
     (try rfl)
     (try (unfold Go.RowKit.wrap64; omega))
   refine iI ?_ ?_
   ·intro a w' vs hB hel hd
    have e3 : a.tmps[3]? = some (.pointer (some ⟨b, 0, none⟩)) := (hel 3 (by kernel_rfl)).trans (by rfl)
    obtain ⟨f72, r72⟩ := hd 18 (by kernel_rfl)
    have e72 : a.tmps[72]? = some (.bool true) := f72.trans (congrArg some (r72 : vs 18 = (.bool true)))
    refine ⟨_, rfl, rfl, fun K hK => ?_⟩
    refine iY (w1 := w') (v := .pointer (some ⟨b, 0, none⟩)) (kQ rfl rfl rfl e72) rfl ?_ (hK _ _ (by exact rfl) (Below.refl _ _))
    ·go_simp
     (try simp only [iR, iQ])
     (try rfl)
     (try (unfold Go.RowKit.wrap64; omega))
   refine iI ?_ ?_
   ·intro a w' vs hB hel hd
    obtain ⟨f73, r73⟩ := hd 19 (by kernel_rfl)
    have e73 : a.tmps[73]? = some (.pointer (some ⟨b, 0, none⟩)) := f73.trans (congrArg some (r73 : vs 19 = (.pointer (some ⟨b, 0, none⟩))))
    obtain ⟨f72, r72⟩ := hd 18 (by kernel_rfl)
    have e72 : a.tmps[72]? = some (.bool true) := f72.trans (congrArg some (r72 : vs 18 = (.bool true)))
    refine ⟨_, rfl, rfl, fun K hK => ?_⟩
    refine qL Tryz.func13 (by kernel_rfl) rfl #[.pointer (some ⟨b, 0, none⟩)] (kQ rfl rfl rfl e72) rfl rfl (by first | (simp only [List.map_toArray, List.map_cons, List.map_nil, Act.eval, Array.getD_eq_getD_getElem?, Option.getD_some, e73, e72]; done) | (simp only [List.map_toArray, List.map_cons, List.map_nil, Act.eval, Array.getD_eq_getD_getElem?, Option.getD_some, e73, e72]; rfl)) ?_
    refine (VX (H8.out.dd.below hB)).mono ?_
    rintro e_ w2_ ⟨v_, rfl, hv_, hb2_⟩
    rw [← HBB.out] at hv_
    obtain ⟨A_, c_, rfl, _, hC_⟩ := hv_.reads
    exact ⟨_, rfl, hK _ _ ⟨A_, c_, rfl, hC_⟩ hb2_⟩
   refine iI ?_ ?_
   ·intro a w' vs hB hel hd
    obtain ⟨f74, r74⟩ := hd 20 (by kernel_rfl)
    obtain ⟨A20_, c20_, hv20_, hC20_⟩ := (r74 : (YU bl) (vs 20) w')
    have e74 : a.tmps[74]? = some (.slice A20_ bl.length c20_) := f74.trans (congrArg some hv20_)
    obtain ⟨f72, r72⟩ := hd 18 (by kernel_rfl)
    have e72 : a.tmps[72]? = some (.bool true) := f72.trans (congrArg some (r72 : vs 18 = (.bool true)))
    have q1 := oC (c := c20_) hC20_
    refine ⟨_, rfl, rfl, fun K hK => ?_⟩
    refine iY (w1 := w') (v := .string (bs bl)) (kQ rfl rfl rfl e72) rfl ?_ (hK _ _ (by exact rfl) (Below.refl _ _))
    ·go_simp
     (try simp only [iR, iQ])
     (try rfl)
     (try (unfold Go.RowKit.wrap64; omega))
   refine iI ?_ ?_
   ·intro a w' vs hB hel hd
    have e4 : a.tmps[4]? = some (.pointer (some ⟨r, 0, none⟩)) := (hel 4 (by kernel_rfl)).trans (by rfl)
    obtain ⟨f72, r72⟩ := hd 18 (by kernel_rfl)
    have e72 : a.tmps[72]? = some (.bool true) := f72.trans (congrArg some (r72 : vs 18 = (.bool true)))
    refine ⟨_, rfl, rfl, fun K hK => ?_⟩
    refine iY (w1 := w') (v := .pointer (some ⟨r, 0, none⟩)) (kQ rfl rfl rfl e72) rfl ?_ (hK _ _ (by exact rfl) (Below.refl _ _))
    ·go_simp
     (try simp only [iR, iQ])
     (try rfl)
     (try (unfold Go.RowKit.wrap64; omega))
   refine iI ?_ ?_
   ·intro a w' vs hB hel hd
    obtain ⟨f76, r76⟩ := hd 22 (by kernel_rfl)
    have e76 : a.tmps[76]? = some (.pointer (some ⟨r, 0, none⟩)) := f76.trans (congrArg some (r76 : vs 22 = (.pointer (some ⟨r, 0, none⟩))))
    obtain ⟨f72, r72⟩ := hd 18 (by kernel_rfl)
    have e72 : a.tmps[72]? = some (.bool true) := f72.trans (congrArg some (r72 : vs 18 = (.bool true)))
    refine ⟨_, rfl, rfl, fun K hK => ?_⟩
    refine iY (w1 := w') (v := .pointer (some ⟨r, 0, none⟩)) (kQ rfl rfl rfl e72) rfl ?_ (hK _ _ (by exact rfl) (Below.refl _ _))
    ·go_simp
     (try simp only [iR, iQ])
     (try rfl)
     (try (unfold Go.RowKit.wrap64; omega))
   refine iI ?_ ?_
   ·intro a w' vs hB hel hd
    obtain ⟨f77, r77⟩ := hd 23 (by kernel_rfl)
    have e77 : a.tmps[77]? = some (.pointer (some ⟨r, 0, none⟩)) := f77.trans (congrArg some (r77 : vs 23 = (.pointer (some ⟨r, 0, none⟩))))
    obtain ⟨f72, r72⟩ := hd 18 (by kernel_rfl)
    have e72 : a.tmps[72]? = some (.bool true) := f72.trans (congrArg some (r72 : vs 18 = (.bool true)))
    refine ⟨_, rfl, rfl, fun K hK => ?_⟩
    refine iY (w1 := w') (v := .pointer (some ⟨r, 0, none⟩)) (kQ rfl rfl rfl e72) rfl ?_ (hK _ _ (by exact rfl) (Below.refl _ _))
    ·go_simp
     (try simp only [iR, iQ])
     (try rfl)
     (try (unfold Go.RowKit.wrap64; omega))
   refine iI ?_ ?_
   ·intro a w' vs hB hel hd
    obtain ⟨f78, r78⟩ := hd 24 (by kernel_rfl)
    have e78 : a.tmps[78]? = some (.pointer (some ⟨r, 0, none⟩)) := f78.trans (congrArg some (r78 : vs 24 = (.pointer (some ⟨r, 0, none⟩))))
    obtain ⟨f72, r72⟩ := hd 18 (by kernel_rfl)
    have e72 : a.tmps[72]? = some (.bool true) := f72.trans (congrArg some (r72 : vs 18 = (.bool true)))
    have q1 := yS hB hrc
    refine ⟨_, rfl, rfl, fun K hK => ?_⟩
    refine iY (w1 := w') (v := .slice ao bl.length cap) (kQ rfl rfl rfl e72) rfl ?_ (hK _ _ (by exact rfl) (Below.refl _ _))
    ·go_simp
     (try simp only [iR, iQ])
     (try rfl)
     (try (unfold Go.RowKit.wrap64; omega))
   refine iI ?_ ?_
   ·intro a w' vs hB hel hd
    obtain ⟨f79, r79⟩ := hd 25 (by kernel_rfl)
    have e79 : a.tmps[79]? = some (.slice ao bl.length cap) := f79.trans (congrArg some (r79 : vs 25 = (.slice ao bl.length cap)))
    obtain ⟨f72, r72⟩ := hd 18 (by kernel_rfl)
    have e72 : a.tmps[72]? = some (.bool true) := f72.trans (congrArg some (r72 : vs 18 = (.bool true)))
    have q1 := oC (c := cap) (Kd.C_below HRd.out hB)
    refine ⟨_, rfl, rfl, fun K hK => ?_⟩
    refine iY (w1 := w') (v := .string (bs bl)) (kQ rfl rfl rfl e72) rfl ?_ (hK _ _ (by exact rfl) (Below.refl _ _))
    ·go_simp
     (try simp only [iR, iQ])
     (try rfl)
     (try (unfold Go.RowKit.wrap64; omega))
   refine iI ?_ ?_
   ·intro a w' vs hB hel hd
    obtain ⟨f75, r75⟩ := hd 21 (by kernel_rfl)
    have e75 : a.tmps[75]? = some (.string (bs bl)) := f75.trans (congrArg some (r75 : vs 21 = (.string (bs bl))))
    obtain ⟨f80, r80⟩ := hd 26 (by kernel_rfl)
    have e80 : a.tmps[80]? = some (.string (bs bl)) := f80.trans (congrArg some (r80 : vs 26 = (.string (bs bl))))
    obtain ⟨f72, r72⟩ := hd 18 (by kernel_rfl)
    have e72 : a.tmps[72]? = some (.bool true) := f72.trans (congrArg some (r72 : vs 18 = (.bool true)))
    refine ⟨_, rfl, rfl, fun K hK => ?_⟩
    refine iY (w1 := w') (v := .bool true) (kQ rfl rfl rfl e72) rfl ?_ (hK _ _ (by exact rfl) (Below.refl _ _))
    ·go_simp
     (try simp only [iR, iQ])
     (try rfl)
     (try (unfold Go.RowKit.wrap64; omega))
   refine iI ?_ ?_
   ·intro a w' vs hB hel hd
    obtain ⟨f72, r72⟩ := hd 18 (by kernel_rfl)
    have e72 : a.tmps[72]? = some (.bool true) := f72.trans (congrArg some (r72 : vs 18 = (.bool true)))
    obtain ⟨f81, r81⟩ := hd 27 (by kernel_rfl)
    have e81 : a.tmps[81]? = some (.bool true) := f81.trans (congrArg some (r81 : vs 27 = (.bool true)))
    refine ⟨_, rfl, rfl, fun K hK => ?_⟩
    refine iY (w1 := w') (v := .bool true) (by rfl) rfl ?_ (hK _ _ (by exact rfl) (Below.refl _ _))
    ·go_simp
     (try simp only [iR, iQ])
     (try rfl)
     (try (unfold Go.RowKit.wrap64; omega))
   refine iI ?_ ?_
   ·intro a w' vs hB hel hd
    obtain ⟨f82, r82⟩ := hd 28 (by kernel_rfl)
    have e82 : a.tmps[82]? = some (.bool true) := f82.trans (congrArg some (r82 : vs 28 = (.bool true)))
    refine ⟨_, rfl, rfl, fun K hK => ?_⟩
    refine iY (w1 := w') (v := .bool true) (by rfl) rfl ?_ (hK _ _ (by exact rfl) (Below.refl _ _))
    ·go_simp
     (try simp only [iR, iQ])
     (try rfl)
     (try (unfold Go.RowKit.wrap64; omega))
   exact oG
  ·intro vs w' hB hR
   have hv0_ : vs 0 = (.int .u16 0) := hR 0 (by kernel_rfl)
   have hv1_ : vs 1 = (.int .i64 0) := hR 1 (by kernel_rfl)
   have hv2_ : vs 2 = (.int .i64 0) := hR 2 (by kernel_rfl)
   have hv3_ : vs 3 = (.bool true) := hR 3 (by kernel_rfl)
   have hv4_ : vs 4 = (.bool true) := hR 4 (by kernel_rfl)
   have hv5_ : vs 5 = (.int .u16 0) := hR 5 (by kernel_rfl)
   have hv6_ : vs 6 = (.bool true) := hR 6 (by kernel_rfl)
   have hv7_ : vs 7 = (.bool true) := hR 7 (by kernel_rfl)
   have hv8_ : vs 8 = (.bool true) := hR 8 (by kernel_rfl)
   have hv9_ : vs 9 = (.slice Ax G.length cx) := hR 9 (by kernel_rfl)
   have hv10_ : vs 10 = (.slice Ay G.length cy) := hR 10 (by kernel_rfl)
   have hv11_ : vs 11 = (.bool true) := hR 11 (by kernel_rfl)
   have hv12_ : vs 12 = (.bool true) := hR 12 (by kernel_rfl)
   have hv13_ : vs 13 = (.bool true) := hR 13 (by kernel_rfl)
   have hv14_ : vs 14 = (.slice Ax G.length cx) := hR 14 (by kernel_rfl)
   have hv15_ : vs 15 = (.slice Az G.length cz) := hR 15 (by kernel_rfl)
   have hv16_ : vs 16 = (.bool true) := hR 16 (by kernel_rfl)
   have hv17_ : vs 17 = (.bool true) := hR 17 (by kernel_rfl)
   have hv18_ : vs 18 = (.bool true) := hR 18 (by kernel_rfl)
   have hv19_ : vs 19 = (.pointer (some ⟨b, 0, none⟩)) := hR 19 (by kernel_rfl)
   obtain ⟨A20_, c20_, hv20_, hC20_⟩ := (hR 20 (by kernel_rfl) : (YU bl) (vs 20) w')
   have hv21_ : vs 21 = (.string (bs bl)) := hR 21 (by kernel_rfl)
   have hv22_ : vs 22 = (.pointer (some ⟨r, 0, none⟩)) := hR 22 (by kernel_rfl)
   have hv23_ : vs 23 = (.pointer (some ⟨r, 0, none⟩)) := hR 23 (by kernel_rfl)
   have hv24_ : vs 24 = (.pointer (some ⟨r, 0, none⟩)) := hR 24 (by kernel_rfl)
   have hv25_ : vs 25 = (.slice ao bl.length cap) := hR 25 (by kernel_rfl)
   have hv26_ : vs 26 = (.string (bs bl)) := hR 26 (by kernel_rfl)
   have hv27_ : vs 27 = (.bool true) := hR 27 (by kernel_rfl)
   have hv28_ : vs 28 = (.bool true) := hR 28 (by kernel_rfl)
   have hv29_ : vs 29 = (.bool true) := hR 29 (by kernel_rfl)
   rw [show entries [54, 55, 56, 57, 58, 59, 60, 61, 62, 63, 64, 65, 66, 67, 68, 69, 70, 71, 72, 73, 74, 75, 76, 77, 78, 79, 80, 81, 82, 2] vs = [(0, 54, vs 0), (1, 55, vs 1), (2, 56, vs 2), (3, 57, vs 3), (4, 58, vs 4), (5, 59, vs 5), (6, 60, vs 6), (7, 61, vs 7), (8, 62, vs 8), (9, 63, vs 9), (10, 64, vs 10), (11, 65, vs 11), (12, 66, vs 12), (13, 67, vs 13), (14, 68, vs 14), (15, 69, vs 15), (16, 70, vs 16), (17, 71, vs 17), (18, 72, vs 18), (19, 73, vs 19), (20, 74, vs 20), (21, 75, vs 21), (22, 76, vs 22), (23, 77, vs 23), (24, 78, vs 24), (25, 79, vs 25), (26, 80, vs 26), (27, 81, vs 27), (28, 82, vs 28), (29, 2, vs 29)] from rfl]
   simp only [jV, if_true, Act.put, List.setIfInBounds_toArray, List.set_cons_zero, List.set_cons_succ, hv0_, hv1_, hv2_, hv3_, hv4_, hv5_, hv6_, hv7_, hv8_, hv9_, hv10_, hv11_, hv12_, hv13_, hv14_, hv15_, hv16_, hv17_, hv18_, hv19_, hv20_, hv21_, hv22_, hv23_, hv24_, hv25_, hv26_, hv27_, hv28_, hv29_]
   clear hR hv0_ hv1_ hv2_ hv3_ hv4_ hv5_ hv6_ hv7_ hv8_ hv9_ hv10_ hv11_ hv12_ hv13_ hv14_ hv15_ hv16_ hv17_ hv18_ hv19_ hv21_ hv22_ hv23_ hv24_ hv25_ hv26_ hv27_ hv28_ hv29_
   go_wp2
   go_ret
   exact ⟨rfl, iF H8.out.bel hB⟩
theorem walOpens_walk (A : Option Addr) (c : Nat) (l : List Int) (W : World) (hC : (Kd.int .u8).C W A l.length l) (hc : l.length ≤ c) (hw : ∀ x ∈ l, 0 ≤ x ∧ x < 256) :
  Calls Tryz.prog 3 #[.slice A l.length c] W fun e w' => e = .returned (.bool true) ∧ Below W.heap.size W w' := by
 have hn : nums (bytesOf l) = l := by
  unfold nums bytesOf
  rw [List.map_map]
  conv => rhs; rw [← List.map_id l]
  apply List.map_congr_left
  intro x hx
  have hb := hw x hx
  simp only [Function.comp, id]
  rw [UInt8.toNat_ofNat']
  omega
 have hlen : (bytesOf l).length = l.length := by unfold bytesOf; simp
 have := NS A c (bytesOf l) W (by rw [hn, hlen]; exact hC) (by omega)
 rwa [hlen] at this
end Go.Proofs.YtgfkgppomaapiaaGreatDoor.K
end
