/- Parts of the proof, one behind the other: WalC, WalD, WalP, WalH, WalI, WalJ. -/
import Derived.Test.YtgfkgppomaapiaaDoorQWalRoom8
set_option linter.unusedVariables false
set_option linter.unusedSimpArgs false
section
namespace Go.Proofs.YtgfkgppomaapiaaDoor.K
open RowKit YtgfkgppomaapiaaDoorW.PrintWords YtgfkgppomaapiaaDoorW.PrintLast YtgfkgppomaapiaaDoorW.PrintMore My
def oI (d : DM) (r : SRec) : Int := if (encR r).2 = 0 then d.appE (mM (recE r)) else (encR r).2
def nP (d : DM) (r : SRec) : DM := if (encR r).2 = 0 then d.app (mM (recE r)) else d
def qB (d : DM) (r : SRec) : Int := if oI d r = 0 then (nP d r).syncE else oI d r
def nK (d : DM) (r : SRec) : DM := if oI d r = 0 then (if (nP d r).syncE = 0 then (nP d r).sync else (nP d r).sync.cut d.bs.length) else nP d r
theorem ZV (d : DM) (l : List UInt8) : d.appE l = 0 ∨ d.appE l = 100 := by
  unfold DM.appE
  (repeat' split) <;> simp
theorem NI (d : DM) (r : SRec) : oI d r = 0 ∨ oI d r = 1 ∨ oI d r = 3 ∨ oI d r = 100 := by
  unfold oI
  rcases qZ r with h | h | h <;> rw [h]
  · exact .inr (.inl (if_neg (by decide)))
  · exact .inr (.inr (.inl (if_neg (by decide))))
  · rw [if_pos rfl]
    rcases ZV d (mM (recE r)) with h | h <;> rw [h] <;> simp
theorem JG {r : SRec} (h : encR r = (nums (recE r), 0)) : (recE r).length ≤ 60000 := by
  unfold encR at h
  split at h
  · split at h
    · injection h with _ h2; cases h2
    · omega
  · injection h with _ h2; cases h2
attribute [-go_sem] Instr.build Instr.storeAt
set_option maxRecDepth 20000 in
set_option maxHeartbeats 8000000 in
theorem P7 {w : World} {b g : Nat} {row : Option Nat} {d : DM} {r : SRec} {A3 A4 A6 A9 : Option Addr} {a3 a4 a6 a9 : Nat} (h : DD w b row d) (hg : Lg w g b) (hr : Lies w r A3 a3 A4 a4 A6 a6 A9 a9) :
    Calls Tryd.prog 45 #[.pointer (some ⟨g, 0, none⟩), .agg #[.int .u8 r.f0, .int .u32 r.f1, .int .u32 r.f2, .slice A3 r.f3.length a3, .slice A4 r.f4.length a4, .int .u32 r.f5.f0, .slice A6 r.f5.f1.length a6, .int .i64 r.f6, .int .i64 r.f7, .slice A9 r.f8.length a9]] w (DP (.int .u16 (oI d r)) w b row (nP d r)) := by
  obtain ⟨W, hW⟩ : ∃ W, W = w.alloc (.cells #[.int .u8 r.f0, .int .u32 r.f1, .int .u32 r.f2, .slice A3 r.f3.length a3, .slice A4 r.f4.length a4, .int .u32 r.f5.f0, .slice A6 r.f5.f1.length a6, .int .i64 r.f6, .int .i64 r.f7, .slice A9 r.f8.length a9] 30) := ⟨_, rfl⟩
  have hb : Below w.heap.size w W := by rw [hW]; exact iG (Below.refl _ _) _
  have HX := iC.mk (show W.heap[w.heap.size]? = some (.cells #[.int .u8 r.f0, .int .u32 r.f1, .int .u32 r.f2, .slice A3 r.f3.length a3, .slice A4 r.f4.length a4, .int .u32 r.f5.f0, .slice A6 r.f5.f1.length a6, .int .i64 r.f6, .int .i64 r.f7, .slice A9 r.f8.length a9] 30 (0, 0)) from by rw [hW]; exact iZ rfl)
  have HD := iC.mk (h.below hb)
  have HG := iC.mk (hg.below hb)
  have HL := iC.mk (hr.below hb)
  have HB := iC.mk hb
  have HW := iC.mk hW
  have HLT := iC.mk h.1.lt
  have HLT2 := iC.mk (show b < W.heap.size from HD.out.1.lt)
  clear h hg hr hb hW
  obtain ⟨⟨E1, E2⟩, hE⟩ : ∃ E : List Int × Int, encR r = E := ⟨_, rfl⟩
  have hcall := O6 HL.out hE
  have hcs := qZ r
  have HE := iC.mk hE
  rw [hE] at hcs
  have HCS := iC.mk hcs
  clear hE hcs
  go_enter Tryd.func45, Tryd.ntmps45
  go_upto_region 1 with fail
  rw [← HW.out]
  obtain ⟨wz0, wz1, wz2, wz3, wz4, wz5, wz6, wz7, wz8, wz9, wy0, wy1, wy2, wy3, wy4, wy5, wy6, wy7, wy8, wy9⟩ := ten (HX.out)
  clear wy0 wy1 wy2 wy3 wy4 wy5 wy6 wy7 wy8 wy9
  go_wp2_with fail
  go_at_call 17
  refine hcall.mono ?_
  rintro e w1 ⟨v0, rfl, h0, hb1⟩
  obtain ⟨A0, c0, rfl⟩ := Kd.R_slice h0
  obtain ⟨_, q0, C0⟩ := Kd.R_reads' h0
  have HD1 := iC.mk (HD.out.below hb1)
  have HG1 := iC.mk (HG.out.below hb1)
  have HB1 := iC.mk (iK HB.out hb1)
  have hcs := HCS.out
  clear hcall h0 hb1 wz0 wz1 wz2 wz3 wz4 wz5 wz6 wz7 wz8 wz9 HX HL HD HG HB
  have hbad : ∀ E, E ≠ 0 → (encR r).2 = E → DP (.int .u16 (oI d r)) w b row (nP d r) (.returned (.int .u16 E)) w1 := fun E h0 hE => by
    unfold oI nP
    rw [hE, if_neg h0, if_neg h0]
    exact ⟨rfl, row, HD1.out, Nw.refl _ _, Kb.of_below HB1.out⟩
  rcases hcs with hc | hc | hc
  · obtain ⟨rfl, rfl⟩ := Prod.mk.inj hc
    have HBAD := iC.mk (hbad 1 (by decide) (by rw [HE.out]))
    clear hc hbad C0 q0
    go_wp2
    go_ret
    exact HBAD.out
  · obtain ⟨rfl, rfl⟩ := Prod.mk.inj hc
    have HBAD := iC.mk (hbad 3 (by decide) (by rw [HE.out]))
    clear hc hbad C0 q0
    go_wp2
    go_ret
    exact HBAD.out
  · obtain ⟨rfl, rfl⟩ := Prod.mk.inj hc
    have hlen : (nums (recE r)).length = (recE r).length := lW _
    have hsh := JG HE.out
    rw [hlen] at q0 C0
    have hwrap := wrap_any A0 c0 (recE r) w1 (zH C0) q0 hsh
    have HSH := iC.mk hsh
    rw [hlen]
    clear hc hbad C0 q0 hlen hsh
    go_wp2_with fail
    go_at_call 88
    refine hwrap.mono ?_
    rintro e w2 ⟨vw, rfl, hO, hb2⟩
    have hbase := fun k => Kd.R_base hO k
    obtain ⟨Aw, cw, rfl, hcw, hCw⟩ := hO.reads
    have HD2 := iC.mk (HD1.out.below hb2)
    have HB2 := iC.mk (iK HB1.out hb2)
    have hz := (iE (HG1.out.below hb2) 0).trans (show _ = some (Value.pointer (some ⟨b, 0, none⟩)) from rfl)
    have hwl := pI (recE r)
    have hlt := HD1.out.1.lt
    have happ := WY (c := cw) HD2.out hCw (fun a e _ hab => by subst e; have := hbase a.block rfl; omega) (by have := HSH.out; omega)
    have HF := iC.mk (show ∀ e' w', DP (.int .u16 (d.appE (mM (recE r)))) w2 b row (d.app (mM (recE r))) e' w' → DP (.int .u16 (oI d r)) w b row (nP d r) e' w' from fun e' w' hp => by
      unfold oI nP
      rw [HE.out, if_pos rfl, if_pos rfl]
      obtain ⟨he, row', h1, h2, h3⟩ := hp
      exact ⟨he, row', h1, h2.older HB2.out.size, (Kb.of_below (b := b) (row := row) HB2.out).then h3 (Nw.refl _ _)⟩)
    generalize mM (recE r) = L at happ hcw hCw hwl HF
    obtain ⟨E, hEE⟩ : ∃ E, E = d.appE L := ⟨_, rfl⟩
    rw [← hEE] at happ HF
    clear hwrap hO hb2 hcw hCw hwl hlt HD1 HG1 HB1 hbase hEE
    go_wp2_with fail
    go_at_call 89
    refine happ.mono ?_
    rintro e w3 ⟨rfl, hp⟩
    have HP := iC.mk (HF.out _ _ ⟨rfl, hp⟩)
    clear happ hp HF
    go_wp2
    go_ret
    exact HP.out
end Go.Proofs.YtgfkgppomaapiaaDoor.K
end

section
namespace Go.Proofs.YtgfkgppomaapiaaDoor.K
open RowKit YtgfkgppomaapiaaDoorW.PrintWords YtgfkgppomaapiaaDoorW.PrintLast YtgfkgppomaapiaaDoorW.PrintMore My
theorem UN (d : DM) (r : SRec) : 0 ≤ oI d r ∧ oI d r ≤ 100 := by rcases NI d r with h | h | h | h <;> omega
attribute [-go_sem] Instr.build Instr.storeAt
set_option maxRecDepth 20000 in
set_option maxHeartbeats 8000000 in
theorem MG {w : World} {b g : Nat} {row : Option Nat} {d : DM} {r : SRec} {A3 A4 A6 A9 : Option Addr} {a3 a4 a6 a9 : Nat} (h : DD w b row d) (hg : Lg w g b) (hr : Lies w r A3 a3 A4 a4 A6 a6 A9 a9) :
    Calls Tryd.prog 41 #[.pointer (some ⟨g, 0, none⟩), .agg #[.int .u8 r.f0, .int .u32 r.f1, .int .u32 r.f2, .slice A3 r.f3.length a3, .slice A4 r.f4.length a4, .int .u32 r.f5.f0, .slice A6 r.f5.f1.length a6, .int .i64 r.f6, .int .i64 r.f7, .slice A9 r.f8.length a9]] w (DP (.int .u16 (qB d r)) w b row (nK d r)) := by
  obtain ⟨W, hW⟩ : ∃ W, W = w.alloc (.cells #[.int .u8 r.f0, .int .u32 r.f1, .int .u32 r.f2, .slice A3 r.f3.length a3, .slice A4 r.f4.length a4, .int .u32 r.f5.f0, .slice A6 r.f5.f1.length a6, .int .i64 r.f6, .int .i64 r.f7, .slice A9 r.f8.length a9] 30) := ⟨_, rfl⟩
  have hb : Below w.heap.size w W := by rw [hW]; exact iG (Below.refl _ _) _
  have HX := iC.mk (show W.heap[w.heap.size]? = some (.cells #[.int .u8 r.f0, .int .u32 r.f1, .int .u32 r.f2, .slice A3 r.f3.length a3, .slice A4 r.f4.length a4, .int .u32 r.f5.f0, .slice A6 r.f5.f1.length a6, .int .i64 r.f6, .int .i64 r.f7, .slice A9 r.f8.length a9] 30 (0, 0)) from by rw [hW]; exact iZ rfl)
  have HD := iC.mk (h.below hb)
  have HG := iC.mk (hg.below hb)
  have HL := iC.mk (hr.below hb)
  have HB := iC.mk hb
  have HW := iC.mk hW
  clear h hg hr hb hW
  have hz := (iE HG.out 0).trans (show _ = some (Value.pointer (some ⟨b, 0, none⟩)) from rfl)
  have hcall := OX HD.out
  go_enter Tryd.func41, Tryd.ntmps41
  go_upto_region 1 with fail
  rw [← HW.out]
  clear HW
  go_wp2_with fail
  go_at_call 40
  refine hcall.mono ?_
  rintro e w1 ⟨v1, rfl, ho1, hb1⟩
  obtain ⟨A1, c1, rfl, _, _⟩ := ho1.reads
  have HX1 := iC.mk (iO hb1 HX.out)
  have HD1 := iC.mk (HD.out.below hb1)
  have HG1 := iC.mk (HG.out.below hb1)
  have HB1 := iC.mk (iK HB.out hb1)
  have hcall := P7 HD1.out HG1.out (HL.out.below hb1)
  have hE0 := UN d r
  obtain ⟨E, hE⟩ : ∃ E, oI d r = E := ⟨_, rfl⟩
  have HE := iC.mk hE
  rw [hE] at hcall hE0
  have hE1 := hE0.1
  have hE2 := hE0.2
  clear ho1 hb1 HX HD HG HL HB hz hE hE0
  obtain ⟨wz0, wz1, wz2, wz3, wz4, wz5, wz6, wz7, wz8, wz9, wy0, wy1, wy2, wy3, wy4, wy5, wy6, wy7, wy8, wy9⟩ := ten (HX1.out)
  clear wy0 wy1 wy2 wy3 wy4 wy5 wy6 wy7 wy8 wy9
  go_wp2_with fail
  go_at_call 45
  refine hcall.mono ?_
  rintro e w2 ⟨rfl, row2, hD2, hn2, hk2⟩
  have HD2 := iC.mk hD2
  have HG2 := iC.mk (HG1.out.kb HD1.out hk2)
  have HN2 := iC.mk (hn2.older (w := w) HB1.out.size)
  have HK2 := iC.mk ((Kb.of_below (b := b) (row := row) HB1.out).then hk2 (Nw.refl _ _))
  clear hcall hD2 hn2 hk2 HX1 HD1 HG1 HB1 wz0 wz1 wz2 wz3 wz4 wz5 wz6 wz7 wz8 wz9
  by_cases h0 : E = 0
  · subst h0
    have hsync := V9 HD2.out
    have hS := (rG (nP d r) 0).2
    have HFE := iC.mk (show qB d r = (nP d r).syncE from by unfold qB; rw [if_pos HE.out])
    have HFD := iC.mk (show nK d r = if (nP d r).syncE = 0 then (nP d r).sync else (nP d r).sync.cut d.bs.length from by unfold nK; rw [if_pos HE.out])
    obtain ⟨S, hSE⟩ : ∃ S, S = (nP d r).syncE := ⟨_, rfl⟩
    rw [← hSE] at hsync hS HFE HFD
    have hz := (iE HG2.out 0).trans (show _ = some (Value.pointer (some ⟨b, 0, none⟩)) from rfl)
    clear hSE hE1 hE2
    go_wp2_with fail
    go_at_call 85
    refine hsync.mono ?_
    rintro e w3 ⟨rfl, row3, hD3, hn3, hk3⟩
    have HD3 := iC.mk hD3
    have HG3 := iC.mk (HG2.out.kb HD2.out hk3)
    have HN3 := iC.mk (HN2.out.trans HK2.out.size hn3)
    have HK3 := iC.mk (HK2.out.then hk3 HN2.out)
    clear hsync hD3 hn3 hk3 HD2 HG2 HN2 HK2 hz
    by_cases hS0 : S = 0
    · subst hS0
      clear hS
      go_wp2
      go_ret
      exact ⟨by rw [HFE.out]; rfl, row3, by rw [HFD.out, if_pos (by trivial)]; exact HD3.out, HN3.out, HK3.out⟩
    · obtain rfl := hS.resolve_left hS0
      have hcut := j8_ (d.bs.length : Int) HD3.out
      have hz := (iE HG3.out 0).trans (show _ = some (Value.pointer (some ⟨b, 0, none⟩)) from rfl)
      clear hS hS0
      go_wp2_with fail
      go_at_call 84
      refine hcut.mono ?_
      rintro e w4 ⟨rfl, row4, hD4, hn4, hk4⟩
      have HD4 := iC.mk hD4
      have HN4 := iC.mk (HN3.out.trans HK3.out.size hn4)
      have HK4 := iC.mk (HK3.out.then hk4 HN3.out)
      clear hcut hD4 hn4 hk4 hz
      go_wp2
      go_ret
      exact ⟨by rw [HFE.out]; rfl, row4, by rw [HFD.out, if_neg (by decide)]; exact HD4.out, HN4.out, HK4.out⟩
  · have HFE := iC.mk (show qB d r = E from by unfold qB; rw [HE.out, if_neg h0])
    have HFD := iC.mk (show nK d r = nP d r from by unfold nK; rw [HE.out, if_neg h0])
    go_wp2
    go_ret
    exact ⟨by rw [HFE.out]; rfl, row2, by rw [HFD.out]; exact HD2.out, HN2.out, HK2.out⟩
end Go.Proofs.YtgfkgppomaapiaaDoor.K
end

section
namespace Go.Proofs.YtgfkgppomaapiaaDoor.K
open RowKit YtgfkgppomaapiaaDoorW.PrintWords YtgfkgppomaapiaaDoorW.PrintLast YtgfkgppomaapiaaDoorW.PrintMore My
theorem XE {d : DM} {l : List UInt8} (h : d.full l) (hl : d.left = -1) : d.app l = d ∧ d.appE l = 100 := by
  unfold DM.app DM.appE
  rw [if_neg (by omega), if_pos h, if_neg (by omega), if_pos h]
  refine ⟨?_, rfl⟩
  cases d
  simp only at hl
  subst hl
  rfl
theorem X7 {d : DM} {l : List UInt8} (h : ¬ d.full l) (hl : d.left = -1) : d.app l = { d with bs := d.bs ++ l } ∧ d.appE l = 0 := by
  unfold DM.app DM.appE
  rw [if_neg (by omega), if_neg h, if_neg (by omega), if_neg h]
  refine ⟨?_, rfl⟩
  cases d
  simp only at hl
  subst hl
  rfl
theorem yL {d : DM} (hl : d.left = -1) : d.sync = { d with lasts := d.bs.length } ∧ d.syncE = 0 := by
  unfold DM.sync DM.syncE
  rw [if_neg (by omega), if_neg (by omega)]
  refine ⟨?_, rfl⟩
  cases d
  simp only at hl
  subst hl
  rfl
theorem WJ {d : DM} (hl : d.left = -1) (n : Nat) (hn : n ≤ d.bs.length) : d.cut n = { d with bs := d.bs.take n, lasts := min d.lasts n } ∧ d.cutE n = 0 := by
  unfold DM.cut DM.cutE
  have ho : ¬ d.out n := by unfold DM.out; omega
  rw [if_neg (by omega), if_neg ho, if_neg (by omega), if_neg ho]
  refine ⟨?_, rfl⟩
  cases d
  simp only at hl
  subst hl
  simp only [Int.toNat_natCast]
  rfl
theorem UJ {d : DM} (hl : d.left = -1) : uY d = 0 ∧ xM d = ⟨d.bs.take (walN d), walN d, d.room, -1⟩ := by
  have hw := RX d
  by_cases h : walN d < d.bs.length
  · have hc := WJ hl (walN d) hw
    have hO : cutO d = 0 := by unfold cutO; rw [if_pos h]; exact hc.2
    have hD : cutD d = d.cut (walN d) := by unfold cutD; rw [if_pos h]
    have hs := yL (d := d.cut (walN d)) (by rw [hc.1]; exact hl)
    refine ⟨by unfold uY; rw [if_pos hO, hD, hs.2], ?_⟩
    unfold xM
    rw [if_pos hO, hD, hs.1, hc.1]
    simp only [DM.mk.injEq, true_and]
    exact ⟨by rw [List.length_take]; omega, hl⟩
  · have hO : cutO d = 0 := by unfold cutO; rw [if_neg h]
    have hD : cutD d = d := by unfold cutD; rw [if_neg h]
    have hs := yL hl
    refine ⟨by unfold uY; rw [if_pos hO, hD, hs.2], ?_⟩
    unfold xM
    rw [if_pos hO, hD, hs.1]
    have he : walN d = d.bs.length := by omega
    cases d
    simp only at hl he ⊢
    subst hl
    rw [he, List.take_length]
structure yU (r : SRec) : Prop where
  sound : jZ r = true
  ok : IU r
  len : (recE r).length ≤ 60000
def logB (rs : List SRec) : List UInt8 := JD (rs.map recE)
theorem TQ (rs : List SRec) (r : SRec) : logB (rs ++ [r]) = logB rs ++ mM (recE r) := by
  unfold logB JD
  simp
theorem QZ : lY [] = none := by decide
theorem OM (rs : List SRec) (t : List (List UInt8)) (h : ∀ r ∈ rs, yU r) : okL (rs.map recE ++ t) = rs.map recE ++ okL t := by
  induction rs with
  | nil => rfl
  | cons r rs ih =>
    have hr := h r List.mem_cons_self
    have := ih (fun x hx => h x (List.mem_cons_of_mem _ hx))
    show List.takeWhile _ (recE r :: (rs.map recE ++ t)) = _
    rw [List.takeWhile_cons_of_pos (p := fun x => (decR x).2 == 0) (by rw [MB hr.sound hr.ok hr.len]; rfl)]
    exact congrArg _ this
theorem VH (rs : List SRec) (h : ∀ r ∈ rs, yU r) : (rs.map recE).map (fun x => (decR x).1) = rs := by
  rw [List.map_map]
  conv => rhs; rw [← List.map_id rs]
  apply List.map_congr_left
  intro r hr
  have := h r hr
  simp only [Function.comp, id]
  rw [MB this.sound this.ok this.len]
theorem OQ (rs : List SRec) (h : ∀ r ∈ rs, yU r) : lZ (logB rs) = rs.map recE := by
  have := TC (rs.map recE) [] (fun x hx => by obtain ⟨r, hr, rfl⟩ := List.mem_map.1 hx; exact (h r hr).len)
  rw [List.append_nil, lF QZ, List.append_nil] at this
  exact this
theorem OC (rs : List SRec) (h : ∀ r ∈ rs, yU r) : zA (lZ (logB rs)) = rs := by
  rw [OQ rs h]
  unfold zA
  have := OM rs [] h
  rw [List.append_nil, show okL [] = [] from rfl, List.append_nil] at this
  rw [this, VH rs h]
theorem WA {d : DM} {rs : List SRec} (hb : d.bs = logB rs) (h : ∀ r ∈ rs, yU r) : walN d = d.bs.length := by
  unfold walN
  rw [hb, OQ rs h]
  have := OM rs [] h
  rw [List.append_nil, show okL [] = [] from rfl, List.append_nil] at this
  rw [this]
  unfold logB
  rw [JV]
structure Has (d : DM) (rs : List SRec) : Prop where
  bs : d.bs = logB rs
  las : d.lasts = d.bs.length
  live : d.left = -1
theorem Has.opened {d : DM} {rs : List SRec} (hd : Has d rs) (h : ∀ r ∈ rs, yU r) : uY d = 0 ∧ xM d = d := by
  obtain ⟨h1, h2⟩ := UJ hd.live
  refine ⟨h1, ?_⟩
  rw [h2, WA hd.bs h, List.take_length]
  have := hd.las
  have h3 := hd.live
  cases d
  simp only at this h3 ⊢
  rw [this, h3]
theorem Has.crash {d : DM} {rs : List SRec} (hd : Has d rs) (keep : Int) : d.crash keep = d := by
  have h1 := hd.las
  have h2 := hd.live
  have hk : d.kept keep = d.bs.length := by unfold DM.kept; rw [h1]; omega
  unfold DM.crash
  rw [hk, List.take_length]
  cases d
  simp only at h1 h2 ⊢
  rw [h1, h2]
theorem Has.force {d : DM} {rs : List SRec} (hd : Has d rs) (r : SRec) (hs : jZ r = true) (hk : IU r) :
    (qB d r = 0 ∧ yU r ∧ Has (nK d r) (rs ++ [r])) ∨ (qB d r ≠ 0 ∧ nK d r = d) := by
  by_cases he : (encR r).2 = 0
  · have hen : encR r = (nums (recE r), 0) := by
      rcases qZ r with h | h | h
      · rw [h] at he; cases he
      · rw [h] at he; cases he
      · exact h
    have hLE : oI d r = d.appE (mM (recE r)) := by unfold oI; rw [if_pos he]
    have hLD : nP d r = d.app (mM (recE r)) := by unfold nP; rw [if_pos he]
    by_cases hf : d.full (mM (recE r))
    · obtain ⟨h1, h2⟩ := XE hf hd.live
      refine .inr ⟨?_, ?_⟩
      · unfold qB; rw [hLE, h2, if_neg (by decide)]; decide
      · unfold nK; rw [hLE, h2, if_neg (by decide), hLD, h1]
    · obtain ⟨h1, h2⟩ := X7 hf hd.live
      have hsy := yL (d := d.app (mM (recE r))) (by rw [h1]; exact hd.live)
      refine .inl ⟨?_, ⟨hs, hk, JG hen⟩, ?_⟩
      · unfold qB; rw [hLE, h2, if_pos rfl, hLD, hsy.2]
      · have hFD : nK d r = (d.app (mM (recE r))).sync := by unfold nK; rw [hLE, h2, if_pos rfl, hLD, hsy.2, if_pos rfl]
        rw [hFD, hsy.1, h1]
        exact ⟨by rw [TQ, ← hd.bs], rfl, hd.live⟩
  · have hLE : oI d r = (encR r).2 := by unfold oI; rw [if_neg he]
    have hLD : nP d r = d := by unfold nP; rw [if_neg he]
    refine .inr ⟨?_, ?_⟩
    · unfold qB; rw [hLE, if_neg he]; exact he
    · unfold nK; rw [hLE, if_neg he, hLD]
theorem Has.new (room : Nat) : Has (DM.new room) [] := ⟨rfl, rfl, rfl⟩
end Go.Proofs.YtgfkgppomaapiaaDoor.K
end

section
namespace Go.Proofs.YtgfkgppomaapiaaDoor.K
open RowKit YtgfkgppomaapiaaDoorW.PrintWords YtgfkgppomaapiaaDoorW.PrintLast YtgfkgppomaapiaaDoorW.PrintMore My
def r5 : SRec := ⟨3, 5, 0, [], [], ⟨0, []⟩, 0, 0, []⟩
def r6 : SRec := ⟨3, 6, 0, [], [], ⟨0, []⟩, 0, 0, []⟩
def kd1 : DM := nK (DM.new 900) r5
def kd2 : DM := nP kd1 r6
def kd3 : DM := kd2.crash 0
theorem OV : qB (DM.new 900) r5 = 0 := by decide +kernel
theorem Z5 : oI kd1 r6 = 0 := by decide +kernel
theorem jd0 : kd3.bs = kd1.bs := by decide +kernel
theorem YW : kd3.left = -1 := by decide +kernel
theorem ja4 : kd3.lasts = kd3.bs.length := by decide +kernel
theorem jc4 : IU r5 := ⟨by decide, by decide, by decide, fun _ h => by (cases h), by decide, fun _ h => by (cases h)⟩
theorem RH : yU r5 ∧ Has kd1 [r5] := by
  rcases (Has.new 900).force r5 (by decide) jc4 with ⟨_, h2, h3⟩ | ⟨h1, _⟩
  · exact ⟨h2, h3⟩
  · exact absurd OV h1
theorem YF : Has kd3 [r5] := ⟨by rw [jd0]; exact RH.2.bs, ja4, YW⟩
theorem YI : ∀ r ∈ [r5], yU r := fun r hr => by
  obtain rfl := List.mem_singleton.1 hr
  exact RH.1
theorem OZ (w : World) (k i : Int) : Lies w ⟨k, i, 0, [], [], ⟨0, []⟩, 0, 0, []⟩ none 0 none 0 none 0 none 0 := ⟨Kd.C_nil _ _, Nat.le_refl _, Kd.C_nil _ _, Nat.le_refl _, Kd.C_nil _ _, Nat.le_refl _, Kd.C_nil _ _, Nat.le_refl _⟩
theorem One.open {w0 w w' : World} {b : Nat} {row : Option Nat} {d : DM} {e : Ending} (h : One w0 w b row d) (hp : j06 w b row d e w') (hE : uY d = 0) :
    ∃ row' g v, One w0 w' b row' (xM d) ∧ e = .returned (.tuple #[.pointer (some ⟨g, 0, none⟩), v, .int .u16 0]) ∧ Lg w' g b ∧ RRs w' w.heap.size v (zA (lZ d.bs)) ∧ Kb b row w w' ∧ w0.heap.size ≤ g := by
  obtain ⟨row', h1, h2, h3, ⟨_, g, v, he, hg, hl, hr⟩ | ⟨hne, _⟩⟩ := hp
  · exact ⟨row', g, v, h.step h1 h2 h3, he, hl, hr, h3, Nat.le_trans h.bel.size hg⟩
  · exact absurd hE hne
theorem One.dpk {w0 w w' : World} {b : Nat} {row : Option Nat} {d d' : DM} {v : Value} {e : Ending} (h : One w0 w b row d) (hp : DP v w b row d' e w') : e = .returned v ∧ Kb b row w w' ∧ ∃ row', One w0 w' b row' d' := by
  obtain ⟨he, row', h1, h2, h3⟩ := hp
  exact ⟨he, h3, row', h.step h1 h2 h3⟩
attribute [-go_sem] Instr.build Instr.storeAt
attribute [local go_sem] YN
set_option maxRecDepth 20000 in
set_option maxHeartbeats 8000000 in
theorem TU (w : World) : Calls Tryd.prog 37 #[] w fun e w' => e = .returned (.bool true) ∧ Below w.heap.size w w' := by
  have hopn := (Has.new 900).opened (fun r hr => by cases hr)
  go_enter Tryd.func37, Tryd.ntmps37
  go_wp2_with fail
  go_at_call 38
  refine (jb4 900 w (by omega)).mono ?_
  rintro e w1 ⟨rfl, hd1, hb1⟩
  have H1 := iC.mk (One.new (Below.refl _ _) hd1 hb1)
  obtain ⟨b, hb⟩ : ∃ b, b = w.heap.size := ⟨_, rfl⟩
  rw [← hb] at H1 ⊢
  clear hd1 hb1 hb
  have hcall := open_any H1.out.dd (by show ((0 : Nat) : Int) ≤ 1000000; omega)
  go_wp2_with fail
  go_at_call 39
  refine hcall.mono ?_
  intro e w2 hp
  obtain ⟨row2, g, v2, h2, rfl, hg2, hr2, hk2, _⟩ := H1.out.open hp hopn.1
  rw [hopn.2] at h2
  have H2 := iC.mk h2
  have HG2 := iC.mk hg2
  obtain ⟨A2, c2, rfl⟩ := Kd.R_slice hr2
  clear hcall hp h2 hg2 hr2 hk2 hopn
  have hcall := MG H2.out.dd HG2.out (OZ w2 3 5)
  rw [show (⟨3, 5, 0, [], [], ⟨0, []⟩, 0, 0, []⟩ : SRec) = r5 from rfl, OV, show nK (DM.new 900) r5 = kd1 from rfl] at hcall
  simp only [r5, List.length_nil] at hcall
  go_wp2_with fail
  go_at_call 41
  refine hcall.mono ?_
  intro e w3 hp
  obtain ⟨rfl, hk3, row3, h3⟩ := H2.out.dpk hp
  have H3 := iC.mk h3
  have HG3 := iC.mk (HG2.out.kb H2.out.dd hk3)
  clear hcall hp h3 hk3
  have hcall := P7 H3.out.dd HG3.out (OZ w3 3 6)
  rw [show (⟨3, 6, 0, [], [], ⟨0, []⟩, 0, 0, []⟩ : SRec) = r6 from rfl, Z5, show nP kd1 r6 = kd2 from rfl] at hcall
  simp only [r6, List.length_nil] at hcall
  go_wp2_with fail
  go_at_call 45
  refine hcall.mono ?_
  intro e w4 hp
  obtain ⟨rfl, hk4, row4, h4⟩ := H3.out.dpk hp
  have H4 := iC.mk h4
  clear hcall hp h4 hk4
  have hcall := U4 0 H4.out.dd
  rw [show kd2.crash 0 = kd3 from rfl] at hcall
  go_wp2_with fail
  go_at_call 43
  refine hcall.mono ?_
  intro e w5 hp
  obtain ⟨rfl, hk5, row5, h5⟩ := H4.out.dpk hp
  have H5 := iC.mk h5
  clear hcall hp h5 hk5
  have hopn := YF.opened YI
  have hcall := open_any H5.out.dd (by have := H5.out.dd.2.fit; have hr : kd3.room = 900 := by decide +kernel
                                       omega)
  go_wp2_with fail
  go_at_call 39
  refine hcall.mono ?_
  intro e w6 hp
  obtain ⟨row6, g6, v6, h6, rfl, hg6, hr6, hk6, _⟩ := H5.out.open hp hopn.1
  rw [YF.bs, OC _ YI] at hr6
  have H6 := iC.mk h6
  obtain ⟨A6, c6, rfl, hc6, C6⟩ := Kd.R_reads hr6
  obtain ⟨ad, cc, rfl, _, hK, hcc⟩ := Kd.C_get C6 default 0 (by omega) (by simp)
  obtain ⟨_, _, _, _, _, _, _, _, rfl, _⟩ := NY hK
  have hid := hcc 1 _ rfl
  rw [show (0 : Int).toNat * kR.sz + 1 = 0 + 1 from rfl, oW _ _ 1 (by omega), Addr.add_zero'] at hid
  have hid : w6.cell? ⟨ad.block, ad.off + 1, none⟩ = some (.int .u32 5) := hid
  clear hcall hp h6 hg6 hr6 hk6 hopn C6 hK hcc
  simp only [List.length_singleton]
  go_wp2
  go_ret
  exact ⟨rfl, H6.out.bel⟩
end Go.Proofs.YtgfkgppomaapiaaDoor.K
end

section
namespace Go.Proofs.YtgfkgppomaapiaaDoor.K
open RowKit YtgfkgppomaapiaaDoorW.PrintWords YtgfkgppomaapiaaDoorW.PrintLast YtgfkgppomaapiaaDoorW.PrintMore My
structure OpW (o : SOp) : Prop where
  k : 0 ≤ o.k ∧ o.k < 256
  r : RecW o.r
  wh : 0 ≤ o.wh ∧ o.wh < 256
  n : -9223372036854775808 ≤ o.n ∧ o.n ≤ 9223372036854775807
theorem VX (x : Int) : 0 ≤ IntKind.u16.wrap x ∧ IntKind.u16.wrap x < 65536 := by
  rw [show IntKind.u16.wrap x = x % 65536 by simp [IntKind.wrap, IntKind.bits, IntKind.signed]]
  omega
theorem LD {o : SOp} (h : OpW o) : jZ (zD o) = true :=
  QO _ _ _ _ _ _ _ _ _ h.wh.1 (fun v hv => by cases hv) (VX _) ⟨by decide, by decide⟩ (fun e he => (h.r.n9 e he).1.1)
theorem UR {o : SOp} (h : OpW o) : IU (zD o) :=
  YY _ _ _ _ _ _ _ _ _ h.r.ok.id h.r.ok.at_ h.r.n4 h.r.n9
theorem One.grown {w0 w w' : World} {b : Nat} {row : Option Nat} {d : DM} {s n : Nat} {v : Value} {xs : List Value} (h : One w0 w b row d) (hv : w.ownsRow w0.heap.size 30 s v n xs) (hg : w.grownBy w' v.ownBlock) : One w0 w' b row d := by
  have hne : ∀ k, v.ownBlock = some k → w0.heap.size ≤ k ∧ k ≠ b ∧ row ≠ some k := fun k e => by
    obtain ⟨cs, hc⟩ := mD hv k e
    refine ⟨own_base hv k e, fun e2 => ?_, fun e2 => ?_⟩
    · subst e2
      obtain ⟨cs', hc'⟩ := h.dd.blk
      rw [hc] at hc'
      injection hc' with hc'
      injection hc' with _ hc'
      exact absurd hc' (by decide)
    · obtain ⟨cs', hc'⟩ := h.dd.rowt k e2
      rw [hc] at hc'
      injection hc' with hc'
      injection hc' with _ hc'
      exact absurd hc' (by decide)
  obtain ⟨⟨ao, cap, lr, hD, hR⟩, hok⟩ := h.dd
  refine ⟨⟨⟨ao, cap, lr, (hg.block b hD.lt (fun e => (hne b e.symm).2.1 rfl)).trans hD, ?_⟩, hok⟩, h.blk, h.row, ?_⟩
  · rcases hR with h1 | ⟨g, cur, e1, e2, h3, h4, h5⟩
    · exact .inl h1
    · exact .inr ⟨g, cur, e1, e2, h3, (hg.block g (jW h4) (fun e => (hne g e.symm).2.2 e2)).trans h4, h5⟩
  · exact ⟨hg.os.trans h.bel.os, hg.tape.trans h.bel.tape, hg.output.trans h.bel.output, Nat.le_trans h.bel.size hg.size, fun k hk => (hg.block k (Nat.lt_of_lt_of_le hk h.bel.size) (fun e => by have := (hne k e.symm).1; omega)).trans (h.bel.block k hk)⟩
theorem Lg.grown {w w' : World} {g b b0 s n : Nat} {v : Value} {xs : List Value} (h : Lg w g b) (hv : w.ownsRow b0 30 s v n xs) (hg : w.grownBy w' v.ownBlock) : Lg w' g b :=
  (hg.block g (jW h) (fun e => by
    obtain ⟨cs', hc'⟩ := mD hv g e.symm
    rw [show w.heap[g]? = _ from h] at hc'
    injection hc' with hc'
    injection hc' with _ hc'
    exact absurd hc' (by decide))).trans h
structure Lp (w0 w : World) (b g R : Nat) (rs : List SRec) (v : Value) : Prop where
  one : ∃ row d, One w0 w b row d ∧ Has d rs ∧ d.room = R
  lg : Lg w g b
  good : ∀ r ∈ rs, yU r
  rr : RRs w w0.heap.size v rs
theorem Lp.below {w0 w w' : World} {b g R : Nat} {rs : List SRec} {v : Value} (h : Lp w0 w b g R rs v) (hb : Below w.heap.size w w') : Lp w0 w' b g R rs v := by
  obtain ⟨row, d, h1, h2, h3⟩ := h.one
  exact ⟨⟨row, d, h1.below hb, h2, h3⟩, h.lg.below hb, h.good, h.rr.below hb⟩
attribute [-go_sem] Instr.build Instr.storeAt Instr.loadAt
set_option maxRecDepth 20000 in
set_option maxHeartbeats 16000000 in
theorem walRoom_walk (A : Option Addr) (c : Nat) (l : List SOp) (room : Int) (w0 : World) (h : kOp.C w0 A l.length l) (hc : l.length ≤ c) (hok : ∀ o ∈ l, OpW o) (hroom : 0 ≤ room ∧ room < 65536) :
    Calls Tryd.prog 12 #[.slice A l.length c, .int .u16 room] w0 fun e w' => e = .returned (.bool true) ∧ Below w0.heap.size w0 w' := by
  obtain ⟨hr0, hr1⟩ := hroom
  have hhe := ZJ A c l w0 h
  have hm := kX h
  have H := iC.mk h
  have HOK := iC.mk hok
  clear h hok
  obtain ⟨R, hR⟩ : ∃ R : Nat, (R : Int) = room % 2000 := ⟨(room % 2000).toNat, by omega⟩
  have hR2 : (R : Int) < 2000 := by omega
  have q1 : room.tmod 2000 = R := by rw [hR, Int.tmod_eq_emod_of_nonneg hr0]
  have q2 : room % 2000 = R := hR.symm
  clear hR
  go_enter Tryd.func12, Tryd.ntmps12
  go_wp2_with fail
  go_at_call 36
  refine hhe.mono ?_
  rintro e w1 ⟨B, rfl, h40, hb1⟩
  have HB1 := iC.mk hb1
  clear hhe hb1
  cases B with
  | true =>
    go_wp2_with fail
    go_at_call 37
    refine (TU _).mono ?_
    rintro e w2 ⟨rfl, hb2⟩
    go_wp2
    go_ret
    exact ⟨rfl, iK HB1.out hb2⟩
  | false =>
    have hl40 := h40 rfl
    clear h40
    go_wp2_with fail
    go_at_call 37
    refine (TU _).mono ?_
    rintro e w2 ⟨rfl, hb2⟩
    have HB2 := iC.mk (iK HB1.out hb2)
    clear hb2 HB1
    go_wp2_with fail
    go_at_call 38
    refine (jb4 R w2 (by omega)).mono ?_
    rintro e w3 ⟨rfl, hd3, hb3⟩
    have H3 := iC.mk (One.new HB2.out hd3 hb3)
    obtain ⟨b, hb⟩ : ∃ b, b = w2.heap.size := ⟨_, rfl⟩
    rw [← hb] at H3 ⊢
    clear hd3 hb3 hb HB2
    have hopn := (Has.new R).opened (fun r hr => by cases hr)
    have hcall := open_any H3.out.dd (by show ((0 : Nat) : Int) ≤ 1000000; omega)
    go_wp2_with fail
    go_at_call 39
    refine hcall.mono ?_
    intro e w4 hp
    obtain ⟨row4, g, v4, h4, rfl, hg4, hr4, hk4, _⟩ := H3.out.open hp hopn.1
    rw [hopn.2] at h4
    have HLP := iC.mk (show Lp w0 w4 b g R [] (.slice none 0 0) from ⟨⟨row4, _, h4, Has.new R, rfl⟩, hg4, fun r hr => (by cases hr), Kd.R_nil _ _ _ _ _⟩)
    clear hcall hp h4 hg4 hr4 hk4 hopn H3
    go_wp2
    go_loopw [9, 10] (fun a i wr => ∃ (k : Nat) (rs : List SRec), k ≤ l.length ∧ i = .int .i64 k ∧ iC (Lp w0 wr b g R rs a) ∧ iC (rs.length ≤ k)) (fun _ i _ => l.length - (intOf i).toNat)
    case atStart => exact ⟨0, [], Nat.zero_le _, rfl, HLP, ⟨Nat.le_refl _⟩⟩
    case round =>
      obtain ⟨k, rs, hk, rfl, HL, HN⟩ := hrel
      clear HLP
      obtain ⟨Aa, ca, rfl⟩ := Kd.R_slice HL.out.rr
      obtain ⟨wr0, rfl⟩ : ∃ x : World, x = wr := ⟨_, rfl⟩
      obtain ⟨row, d, h1, h2, h3⟩ := HL.out.one
      have HD := iC.mk h2
      have HRM := iC.mk h3
      by_cases hlt : k < l.length
      · have hcall := OX h1.dd
        have HLT := iC.mk hlt
        have hk1 : (k : Int) < (l.length : Int) := by omega
        have HO := iC.mk h1
        clear h1 h2 h3 hlt
        go_wp2_with fail
        go_at_call 40
        refine hcall.mono ?_
        rintro e wa ⟨va, rfl, hoa, hba⟩
        obtain ⟨Ab, cb, rfl, _, hCb⟩ := hoa.reads
        have hcv := fun (_ : True) => pJ (c := cb) hCb
        have HOa := iC.mk (HO.out.below hba)
        have HLa := iC.mk (HL.out.below hba)
        clear hcall hoa hba HO HL hCb
        go_upto_region 14 with fail
        clear hcv
        obtain ⟨ad, A3, a3, A4, a4, A6, a6, A9, a9, rfl, hLi, hld, hld2, hc0, hc1⟩ := Z7 (Kd.C_below H.out HOa.out.bel) k HLT.out
        clear hld2 hc0 hc1
        have hmem : l.getD k default ∈ l := by rw [List.getD_eq_getElem?_getD, List.getElem?_eq_getElem HLT.out]; exact List.getElem_mem HLT.out
        have HOP := iC.mk (HOK.out _ hmem)
        have hgen : ∀ w', Below w0.heap.size w0 w' → ∃ A3 a3 A4 a4 A6 a6 A9 a9, Lies w' (l.getD k default).r A3 a3 A4 a4 A6 a6 A9 a9 ∧ (True → (Instr.loadAt 78 (.pointer (some (ad.add (k * 13))))).run Tryd.prog w' = .ok (.agg #[.int .u8 (l.getD k default).k, .int .u8 (l.getD k default).r.f0, .int .u32 (l.getD k default).r.f1, .int .u32 (l.getD k default).r.f2, .slice A3 (l.getD k default).r.f3.length a3, .slice A4 (l.getD k default).r.f4.length a4, .int .u32 (l.getD k default).r.f5.f0, .slice A6 (l.getD k default).r.f5.f1.length a6, .int .i64 (l.getD k default).r.f6, .int .i64 (l.getD k default).r.f7, .slice A9 (l.getD k default).r.f8.length a9, .int .u8 (l.getD k default).wh, .int .i64 (l.getD k default).n]) w') := fun w' hb => by
          obtain ⟨ad', B3, b3, B4, b4, B6, b6, B9, b9, he, h1, h2, _⟩ := Z7 (Kd.C_below H.out hb) k HLT.out
          injection he with he
          subst he
          exact ⟨B3, b3, B4, b4, B6, b6, B9, b9, h1, h2⟩
        have HGEN := iC.mk hgen
        clear hgen hmem
        obtain ⟨o, ho⟩ : ∃ o, o = l.getD k default := ⟨_, rfl⟩
        rw [← ho] at hLi hld HOP HGEN
        clear ho
        have hcall := TZ hLi HOP.out.n
        have hsnd := LD HOP.out
        have hsok := UR HOP.out
        obtain ⟨rr, hrr⟩ : ∃ rr, rr = zD o := ⟨_, rfl⟩
        rw [← hrr] at hcall hsnd hsok
        have HSND := iC.mk hsnd
        have HSOK := iC.mk hsok
        have HRR := iC.mk hrr
        clear hsnd hsok hrr
        go_wp2_with fail
        go_at_call 42
        refine hcall.mono ?_
        rintro e wb ⟨B3, b3, B4, b4, B6, b6, B9, b9, rfl, hOw, hbb⟩
        have HOb := iC.mk (HOa.out.below hbb)
        have HLb := iC.mk (HLa.out.below hbb)
        have hcall := MG HOb.out.dd HLb.out.lg hOw.lies
        have hfor := HD.out.force rr HSND.out HSOK.out
        have HFOR := iC.mk hfor
        obtain ⟨E, hE⟩ : ∃ E, qB d rr = E := ⟨_, rfl⟩
        obtain ⟨D, hDD⟩ : ∃ D, nK d rr = D := ⟨_, rfl⟩
        have hFR : (nK d rr).room = R := by
          rcases hfor with ⟨_, _, _⟩ | ⟨_, h⟩
          · have : (nK d rr).room = d.room := by
              unfold nK nP
              (repeat' split) <;> (try unfold DM.cut) <;> (repeat' split) <;> (try unfold DM.sync) <;> (repeat' split) <;> (try unfold DM.app) <;> (repeat' split) <;> rfl
            rw [this]; exact HRM.out
          · rw [h]; exact HRM.out
        rw [hE, hDD] at hcall hfor
        rw [hDD] at hFR
        have HFR := iC.mk hFR
        clear hLi hld hbb hOw HOa HLa hE hDD hFR HFOR
        have HFO := iC.mk hfor
        clear hfor
        go_wp2_with fail
        go_at_call 41
        refine hcall.mono ?_
        intro e wc hp
        obtain ⟨rfl, hkc, rowc, hOc⟩ := HOb.out.dpk hp
        have HOc := iC.mk hOc
        have HGc := iC.mk (HLb.out.lg.kb HOb.out.dd hkc)
        have HRc := iC.mk (HLb.out.rr.kb HOb.out.dd hkc)
        have HGD := iC.mk HLb.out.good
        clear hcall hp hOc hkc HOb HLb
        rcases HFO.out with ⟨rfl, hgr, hhas⟩ | ⟨hE0, hDe⟩
        · have HGR := iC.mk hgr
          have HHAS := iC.mk hhas
          clear hgr hhas HFO
          go_upto_region 16 with fail
          obtain ⟨C3, c3, C4, c4, C6, c6, C9, c9, hLc, hldc⟩ := HGEN.out wc HOc.out.bel
          have hcall := TZ hLc HOP.out.n
          rw [← HRR.out] at hcall
          clear hLc
          go_wp2_with fail
          go_at_call 42
          refine hcall.mono ?_
          rintro e wd ⟨D3, d3, D4, d4, D6, d6, D9, d9, rfl, hOw, hbd⟩
          have HOd := iC.mk (HOc.out.below hbd)
          have HGd := iC.mk (HGc.out.below hbd)
          have HRd := iC.mk (HRc.out.below hbd)
          have HOw := iC.mk (hOw.lower HOc.out.bel.size)
          clear hcall hOw hbd hldc HOc HGc HRc
          go_wp2_with (at_builtin; go_loud (refine Kd.R_append kR (w0 := wd) w0.heap.size rfl (.tmp 59) (.tmp 65) 71 30 (.agg #[.int .u8 0, .int .u32 0, .int .u32 0, .slice none 0 0, .slice none 0 0, .int .u32 0, .slice none 0 0, .int .i64 0, .int .i64 0, .slice none 0 0]) 136 rfl Tryd.underlying71 OW rfl (by decide) (by omega) (.slice Aa rs.length ca) rs rr [.int .u8 rr.f0, .int .u32 rr.f1, .int .u32 rr.f2, .slice D3 rr.f3.length d3, .slice D4 rr.f4.length d4, .int .u32 rr.f5.f0, .slice D6 rr.f5.f1.length d6, .int .i64 rr.f6, .int .i64 rr.f7, .slice D9 rr.f8.length d9] (fun _ => True) (fun j => some j ≠ (Value.slice Aa rs.length ca).ownBlock) rfl rfl ?aP ?aK ?aF ?aO (Below.refl _ _) ?aB ?aL ?_; (case aP => exact LW (kR_M HOw.out) HRd.out); (case aK => exact fun _ h => ⟨trivial, h⟩); (case aF => exact fun _ _ => trivial); (case aO => exact HRd.out); (case aB => exact HOd.out.bel.size); (case aL => (have := HN.out; omega)); intro v5 w5 ho hb5 hg5 hat; have HOO := iC.mk ho; have HG5 := iC.mk hg5; clear ho hb5 hg5 hat))
          obtain ⟨_, inner, hown, _⟩ := HRd.out
          have HL5 := iC.mk (show Lp w0 w5 b g R (rs ++ [rr]) v5 from ⟨⟨rowc, D, HOd.out.grown hown HG5.out, HHAS.out, HFR.out⟩, HGd.out.grown hown HG5.out, (fun x hx => (List.mem_append.1 hx).elim (HGD.out x) (fun hx => by rw [List.mem_singleton.1 hx]; exact HGR.out)), HOO.out⟩)
          go_roundw
          case rel => exact ⟨k + 1, rs ++ [rr], by omega, by go_num, HL5, ⟨by rw [List.length_append]; exact Nat.succ_le_succ HN.out⟩⟩
          case measure => simp [intOf]; omega
        · subst hDe
          have hcall := OX HOc.out.dd
          clear HFO
          go_upto_region 17 with fail
          go_wp2_with fail
          go_at_call 40
          refine hcall.mono ?_
          rintro e wd ⟨vd, rfl, hod, hbd⟩
          obtain ⟨Ac, cc, rfl, _, hCc⟩ := hod.reads
          have hcv := fun (_ : True) => pJ (c := cc) hCc
          have HL5 := iC.mk (Lp.below (⟨⟨rowc, D, HOc.out, HD.out, HRM.out⟩, HGc.out, HGD.out, HRc.out⟩ : Lp w0 wc b g R rs (.slice Aa rs.length ca)) hbd)
          clear hcall hod hbd hCc HOc HGc HRc
          go_wp2
          go_roundw
          case rel => exact ⟨k + 1, rs, by omega, by go_num, HL5, ⟨by have := HN.out; omega⟩⟩
          case measure => simp [intOf]; omega
      · obtain rfl : k = l.length := by omega
        have hcall := U4 0 h1.dd
        rw [HD.out.crash] at hcall
        have HO := iC.mk h1
        clear h1 h2 h3 hlt
        go_wp2_with fail
        go_at_call 43
        refine hcall.mono ?_
        intro e wa hp
        obtain ⟨rfl, hka, rowa, hOa⟩ := HO.out.dpk hp
        have HOa := iC.mk hOa
        have HRa := iC.mk (HL.out.rr.kb HO.out.dd hka)
        have HGD := iC.mk HL.out.good
        clear hcall hp hOa hka HO HL
        have hopn := HD.out.opened HGD.out
        have hcall := open_any HOa.out.dd (by have := HOa.out.dd.2.fit; have := HRM.out; omega)
        go_wp2_with fail
        go_at_call 39
        refine hcall.mono ?_
        intro e wb hp
        obtain ⟨rowb, g2, vb, hOb, rfl, hgb, hrb, hkb, _⟩ := HOa.out.open hp hopn.1
        rw [HD.out.bs, OC rs HGD.out] at hrb
        obtain ⟨Ag, cg, rfl, hcg, Cg⟩ := Kd.R_reads hrb
        obtain ⟨_, hca, Ca⟩ := Kd.R_reads' (HRa.out.kb HOa.out.dd hkb)
        have hcall := jb3 Ag Aa cg ca rs wb Cg Ca (fun x hx => QJ x (HGD.out x hx).sound)
        have HOb := iC.mk hOb
        clear hp hOb hgb hrb hkb hopn Cg Ca HOa HRa
        go_wp2_with fail
        go_at_call 44
        refine hcall.mono ?_
        rintro e wc ⟨rfl, hbc⟩
        clear hcall
        go_wp2
        go_ret
        exact ⟨rfl, iK HOb.out.bel hbc⟩
end Go.Proofs.YtgfkgppomaapiaaDoor.K
end

section
namespace Go.Proofs.YtgfkgppomaapiaaDoor.K
open Go Go.RowKit Go.Deep Go.ChangeShapes Go.WideShapes Go.ChangeAt Go.Proofs.YtgfkgppomaapiaaDoorW.PrintWords Go.Proofs.YtgfkgppomaapiaaDoor.My
def wtW (o : SOp) : Nat := wtR o.r
theorem WE : Came kOp 78 OpW wtW := by
  intro H enc w fuel cs x h
  obtain ⟨xs, n, rfl, rfl, hl, hlen, hf⟩ := DataW.trod_struct Tryd.underlying78 h
  match xs, hlen with
  | [y0, y1, y2, y3], _ =>
    rw [show Tryd.prog.cellsOf 78 = 13 from by kernel_rfl] at hl
    obtain ⟨a0, p0, o0, b0⟩ := lK Tryd.underlying5 enc w n _ y0 (hf 0 _ rfl)
    obtain ⟨r, hr, o1, b1⟩ := NP enc (hf 1 _ rfl)
    obtain ⟨a2, p2, o2, b2⟩ := lK Tryd.underlying5 enc w n _ y2 (hf 2 _ rfl)
    obtain ⟨a3, p3, o3, b3⟩ := lK Tryd.underlying3 enc w n _ y3 (hf 3 _ rfl)
    obtain ⟨A3, c3, A4, c4, A6, c6, A9, c9, p1, g3, l3, g4, l4, g6, l6, g9, l9⟩ := hr
    have p0 : List.take (Tryd.prog.cellsOf 5) (List.drop 0 cs) = [.int .u8 a0] := p0
    rw [show Tryd.prog.cellsOf 5 = 1 from by kernel_rfl] at p0
    have p1 : List.take (Tryd.prog.cellsOf 30) (List.drop 1 cs) = [.int .u8 r.f0, .int .u32 r.f1, .int .u32 r.f2, .slice A3 r.f3.length c3, .slice A4 r.f4.length c4, .int .u32 r.f5.f0, .slice A6 r.f5.f1.length c6, .int .i64 r.f6, .int .i64 r.f7, .slice A9 r.f8.length c9] := p1
    rw [show Tryd.prog.cellsOf 30 = 10 from by kernel_rfl] at p1
    have p2 : List.take (Tryd.prog.cellsOf 5) (List.drop 11 cs) = [.int .u8 a2] := p2
    rw [show Tryd.prog.cellsOf 5 = 1 from by kernel_rfl] at p2
    have p3 : List.take (Tryd.prog.cellsOf 3) (List.drop 12 cs) = [.int .i64 a3] := p3
    rw [show Tryd.prog.cellsOf 3 = 1 from by kernel_rfl] at p3
    obtain ⟨z0, t0, rfl, ht0⟩ := mY hl
    obtain ⟨z1, t1, rfl, ht1⟩ := mY ht0
    obtain ⟨z2, t2, rfl, ht2⟩ := mY ht1
    obtain ⟨z3, z4, z5, z6, z7, z8, z9, z10, z11, z12, rfl⟩ := O7 ht2
    have s0 : [z0] = [.int .u8 a0] := p0
    have s1 : [z1, z2, z3, z4, z5, z6, z7, z8, z9, z10] = _ := p1
    have s2 : [z11] = [.int .u8 a2] := p2
    have s3 : [z12] = [.int .i64 a3] := p3
    simp only [List.cons.injEq, and_true] at s0 s1 s2 s3
    obtain ⟨rfl, rfl, rfl, rfl, rfl, rfl, rfl, rfl, rfl, rfl⟩ := s1
    subst s0; subst s2; subst s3
    refine ⟨⟨a0, r, a2, a3⟩, ⟨[.int .u8 a0], _, rfl, rfl, _, _, rfl, kR_K (⟨g3, l3, g4, l4, g6, l6, g9, l9⟩ : Lies w r A3 c3 A4 c4 A6 c6 A9 c9), [.int .u8 a2], [.int .i64 a3], rfl, rfl, rfl⟩, ⟨wf_u8 o0, o1, wf_u8 o2, wf_i64 o3⟩, ?_⟩
    show wtR r ≤ _
    simp only [Rows.uptoBulk, Rows.uptoBulkAll, List.map_cons, List.map_nil]
    omega
theorem came_wops : Came (Kd.slice 78 kOp) 66 (fun l => ∀ v ∈ l, OpW v) (fun l => pV wtW l + 1) :=
  oQ Tryd.underlying66 (by kernel_rfl) WE
end Go.Proofs.YtgfkgppomaapiaaDoor.K
end
