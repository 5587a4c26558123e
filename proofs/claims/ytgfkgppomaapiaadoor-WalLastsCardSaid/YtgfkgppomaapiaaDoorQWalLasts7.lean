/- Parts of the proof, one behind the other: WalG, BytesW, Adler, SumW, FrameP, FrameW, FrameB, Range, Each, Scan, MsgP, MsgD, WalA, BufG, DiskG, DiskH, DiskW, DiskX, DiskY, DiskZ, DiskF, DiskB, DiskC, DiskN, DiskO, DiskQ. -/
import Derived.Test.YtgfkgppomaapiaaDoorQWalLasts6
import Derived.Lib.SliceRun
import Derived.RangeFuncNested
import Derived.RangeFuncBound
import Derived.RangeFuncCalls
import Derived.RangeFuncLeaves
import Derived.RangeFuncBox
import Derived.Shelf.RegionOpen
import Derived.OwnWalkIn
import Derived.TacticsInMore
import Derived.LoopNIn
import Derived.LoopIn
import Derived.Shelf.Bytes.LenAt
import Derived.Shelf.Bytes.TryGrowAt
import Derived.Lib.BufferGrow
import Derived.Laws.CopyRow
import Derived.Lib.BufferSrc
set_option linter.unusedVariables false
set_option linter.unusedSimpArgs false
section
namespace Go.Proofs.YtgfkgppomaapiaaDoor.K
open RowKit YtgfkgppomaapiaaDoorW.PrintWords YtgfkgppomaapiaaDoorW.PrintLast YtgfkgppomaapiaaDoorW.PrintMore My
theorem P9 {w : World} {A : Option Addr} {n : Nat} {l : List SRec} (h : kR.C w A n l) (i : Nat) (hi : i < n) :
  ∃ ad A3 a3 A4 a4 A6 a6 A9 a9, A = some ad ∧ Lies w (l.getD i default) A3 a3 A4 a4 A6 a6 A9 a9 ∧
   ∀ w', Below w.heap.size w w' → True → (Instr.loadAt 30 (.pointer (some (ad.add (i * 10))))).run Tryd.prog w' = .ok (.agg #[.int .u8 (l.getD i default).f0, .int .u32 (l.getD i default).f1, .int .u32 (l.getD i default).f2, .slice A3 (l.getD i default).f3.length a3, .slice A4 (l.getD i default).f4.length a4, .int .u32 (l.getD i default).f5.f0, .slice A6 (l.getD i default).f5.f1.length a6, .int .i64 (l.getD i default).f6, .int .i64 (l.getD i default).f7, .slice A9 (l.getD i default).f8.length a9]) w' := by
 obtain ⟨ad, c, e, _, hK, hc0⟩ := Kd.C_get h default (i : Int) (by omega) (by omega)
 rw [Int.toNat_natCast] at hK hc0
 have hc : ∀ j u, c[j]? = some u → w.cell? (ad.add (i * 10 + j)) = some u := hc0
 obtain ⟨A3, a3, A4, a4, A6, a6, A9, a9, rfl, hL⟩ := OO hK
 refine ⟨ad, A3, a3, A4, a4, A6, a6, A9, a9, e, hL, fun w' hb _ => ?_⟩
 exact vK w' _ _ #[.int .u8 (l.getD i default).f0, .int .u32 (l.getD i default).f1, .int .u32 (l.getD i default).f2, .slice A3 (l.getD i default).f3.length a3, .slice A4 (l.getD i default).f4.length a4, .int .u32 (l.getD i default).f5.f0, .slice A6 (l.getD i default).f5.f1.length a6, .int .i64 (l.getD i default).f6, .int .i64 (l.getD i default).f7, .slice A9 (l.getD i default).f8.length a9].toList _ (fun j v hj => by
  rw [Go.Deep.add_add]
  have h1 := hc j v hj
  exact (hb.cell (World.block_lt_of_cell? _ _ h1)).trans h1) Tryd.underlying30 rfl (by kernel_rfl)
attribute [-go_sem] Instr.build Instr.storeAt Instr.loadAt
set_option maxRecDepth 20000 in
set_option maxHeartbeats 4000000 in
theorem PR (A B : Option Addr) (c d : Nat) (l : List SRec) (w : World) (h : kR.C w A l.length l) (g : kR.C w B l.length l) (hs : ∀ x ∈ l, SLen x) :
  Calls Tryd.prog 44 #[.slice A l.length c, .slice B l.length d] w fun e w' => e = .returned (.bool true) ∧ Below w.heap.size w w' := by
 have hm := lC h
 have H := iC.mk h
 have G := iC.mk g
 have HS := iC.mk hs
 clear h g hs
 go_enter Tryd.func44, Tryd.ntmps44
 go_wp2
 go_loopw [5] (fun i wr => ∃ k : Nat, k ≤ l.length ∧ i = .int .i64 k ∧ iC (Below w.heap.size w wr)) (fun i _ => l.length - (intOf i).toNat)
 case atStart => exact ⟨0, Nat.zero_le _, rfl, ⟨Below.refl _ _⟩⟩
 case round =>
  obtain ⟨k, hk, rfl, HB⟩ := hrel
  by_cases hlt : k < l.length
  ·obtain ⟨ad, A3, a3, A4, a4, A6, a6, A9, a9, rfl, hL, hx⟩ := P9 (Kd.C_below H.out HB.out) k hlt
   obtain ⟨bd, B3, b3, B4, b4, B6, b6, B9, b9, rfl, hM, hy⟩ := P9 (Kd.C_below G.out HB.out) k hlt
   have hmem : l.getD k default ∈ l := by rw [List.getD_eq_getElem?_getD, List.getElem?_eq_getElem hlt]; exact List.getElem_mem hlt
   have HSS := iC.mk (yP (HS.out _ hmem))
   generalize l.getD k default = x at hL hx hM hy HSS
   have HL := iC.mk hL
   have HM := iC.mk hM
   have HXX := iC.mk hx
   have HYY := iC.mk hy
   have hk1 : (k : Int) < (l.length : Int) := by omega
   clear hL hM hx hy hmem
   obtain ⟨wr0, rfl⟩ : ∃ x : World, x = wr := ⟨_, rfl⟩
   go_wp2_with fail
   refine vW [18, 19, 20, 21, 22, 23, 24, 25, 26, 6] [fun v _ => v = (.slice (some ad) l.length c), fun v _ => v = (.int .i64 (k : Int)), fun v _ => v = (.pointer (some (ad.add (k * 10)))), fun v _ => v = (.agg #[.int .u8 x.f0, .int .u32 x.f1, .int .u32 x.f2, .slice A3 x.f3.length a3, .slice A4 x.f4.length a4, .int .u32 x.f5.f0, .slice A6 x.f5.f1.length a6, .int .i64 x.f6, .int .i64 x.f7, .slice A9 x.f8.length a9]), fun v _ => v = (.slice (some bd) l.length d), fun v _ => v = (.int .i64 (k : Int)), fun v _ => v = (.pointer (some (bd.add (k * 10)))), fun v _ => v = (.agg #[.int .u8 x.f0, .int .u32 x.f1, .int .u32 x.f2, .slice B3 x.f3.length b3, .slice B4 x.f4.length b4, .int .u32 x.f5.f0, .slice B6 x.f5.f1.length b6, .int .i64 x.f6, .int .i64 x.f7, .slice B9 x.f8.length b9]), fun v _ => v = (.bool true), fun v _ => v = (.bool true)] [0, 1, 2, 3, 4, 5, 6, 7, 8, 9] (true, [([], []), ([], []), ([0, 1], [0, 1]), ([2], [2]), ([], []), ([], []), ([4, 5], [4, 5]), ([6], [6]), ([3, 7], [3, 7]), ([8, 8, 0, 1, 2, 3, 4, 5, 6, 7, 8], [8])]) [0, 0, 3, 7, 0, 0, 48, 112, 255, 511] (by kernel_rfl) (by kernel_rfl) (by kernel_rfl) (by kernel_rfl) (by kernel_rfl) (by kernel_rfl) (by kernel_rfl) (by rfl) (by kernel_rfl) ?_ ?_ ?_
   ·exact (jA (jW _) (jA (jW _) (jA (jW _) (jA (jW _) (jA (jW _) (jA (jW _) (jA (jW _) (jA (jW _) (jA (jW _) (jA (jW _) xG))))))))))
   ·refine iP ?_ ?_
    ·intro a w' vs hB hel hd
     have e0 : a.tmps[0]? = some (.slice (some ad) l.length c) := (hel 0 (by kernel_rfl)).trans (by rfl)
     refine ⟨_, rfl, rfl, fun K hK => ?_⟩
     refine jH (w1 := w') (v := .slice (some ad) l.length c) (by rfl) rfl ?_ (hK _ _ (by exact rfl) (Below.refl _ _))
     ·go_simp
      (try simp only [iR, jC])
      (try rfl)
      (try (unfold Go.RowKit.wrap64; omega))
    refine iP ?_ ?_
    ·intro a w' vs hB hel hd
     have e5 : a.tmps[5]? = some (.int .i64 (k : Int)) := (hel 5 (by kernel_rfl)).trans (by rfl)
     refine ⟨_, rfl, rfl, fun K hK => ?_⟩
     refine jH (w1 := w') (v := .int .i64 (k : Int)) (by rfl) rfl ?_ (hK _ _ (by exact rfl) (Below.refl _ _))
     ·go_simp
      (try simp only [iR, jC])
      (try rfl)
      (try (unfold Go.RowKit.wrap64; omega))
    refine iP ?_ ?_
    ·intro a w' vs hB hel hd
     obtain ⟨f18, r18⟩ := hd 0 (by kernel_rfl)
     have e18 : a.tmps[18]? = some (.slice (some ad) l.length c) := f18.trans (congrArg some (r18 : vs 0 = (.slice (some ad) l.length c)))
     obtain ⟨f19, r19⟩ := hd 1 (by kernel_rfl)
     have e19 : a.tmps[19]? = some (.int .i64 (k : Int)) := f19.trans (congrArg some (r19 : vs 1 = (.int .i64 (k : Int))))
     refine ⟨_, rfl, rfl, fun K hK => ?_⟩
     refine jH (w1 := w') (v := .pointer (some (ad.add (k * 10)))) (by rfl) rfl ?_ (hK _ _ (by exact rfl) (Below.refl _ _))
     ·go_simp
      (try simp only [iR, jC])
      (try rfl)
      (try (unfold Go.RowKit.wrap64; omega))
    refine iP ?_ ?_
    ·intro a w' vs hB hel hd
     obtain ⟨f20, r20⟩ := hd 2 (by kernel_rfl)
     have e20 : a.tmps[20]? = some (.pointer (some (ad.add (k * 10)))) := f20.trans (congrArg some (r20 : vs 2 = (.pointer (some (ad.add (k * 10))))))
     have hz0 := HXX.out w' hB
     refine ⟨_, rfl, rfl, fun K hK => ?_⟩
     refine jH (w1 := w') (v := .agg #[.int .u8 x.f0, .int .u32 x.f1, .int .u32 x.f2, .slice A3 x.f3.length a3, .slice A4 x.f4.length a4, .int .u32 x.f5.f0, .slice A6 x.f5.f1.length a6, .int .i64 x.f6, .int .i64 x.f7, .slice A9 x.f8.length a9]) (by rfl) rfl ?_ (hK _ _ (by exact rfl) (Below.refl _ _))
     ·go_simp
      (try simp only [iR, jC])
      (try rfl)
      (try (unfold Go.RowKit.wrap64; omega))
    refine iP ?_ ?_
    ·intro a w' vs hB hel hd
     have e1 : a.tmps[1]? = some (.slice (some bd) l.length d) := (hel 1 (by kernel_rfl)).trans (by rfl)
     refine ⟨_, rfl, rfl, fun K hK => ?_⟩
     refine jH (w1 := w') (v := .slice (some bd) l.length d) (by rfl) rfl ?_ (hK _ _ (by exact rfl) (Below.refl _ _))
     ·go_simp
      (try simp only [iR, jC])
      (try rfl)
      (try (unfold Go.RowKit.wrap64; omega))
    refine iP ?_ ?_
    ·intro a w' vs hB hel hd
     have e5 : a.tmps[5]? = some (.int .i64 (k : Int)) := (hel 5 (by kernel_rfl)).trans (by rfl)
     refine ⟨_, rfl, rfl, fun K hK => ?_⟩
     refine jH (w1 := w') (v := .int .i64 (k : Int)) (by rfl) rfl ?_ (hK _ _ (by exact rfl) (Below.refl _ _))
     ·go_simp
      (try simp only [iR, jC])
      (try rfl)
      (try (unfold Go.RowKit.wrap64; omega))
    refine iP ?_ ?_
    ·intro a w' vs hB hel hd
     obtain ⟨f22, r22⟩ := hd 4 (by kernel_rfl)
     have e22 : a.tmps[22]? = some (.slice (some bd) l.length d) := f22.trans (congrArg some (r22 : vs 4 = (.slice (some bd) l.length d)))
     obtain ⟨f23, r23⟩ := hd 5 (by kernel_rfl)
     have e23 : a.tmps[23]? = some (.int .i64 (k : Int)) := f23.trans (congrArg some (r23 : vs 5 = (.int .i64 (k : Int))))
     refine ⟨_, rfl, rfl, fun K hK => ?_⟩
     refine jH (w1 := w') (v := .pointer (some (bd.add (k * 10)))) (by rfl) rfl ?_ (hK _ _ (by exact rfl) (Below.refl _ _))
     ·go_simp
      (try simp only [iR, jC])
      (try rfl)
      (try (unfold Go.RowKit.wrap64; omega))
    refine iP ?_ ?_
    ·intro a w' vs hB hel hd
     obtain ⟨f24, r24⟩ := hd 6 (by kernel_rfl)
     have e24 : a.tmps[24]? = some (.pointer (some (bd.add (k * 10)))) := f24.trans (congrArg some (r24 : vs 6 = (.pointer (some (bd.add (k * 10))))))
     have hz0 := HYY.out w' hB
     refine ⟨_, rfl, rfl, fun K hK => ?_⟩
     refine jH (w1 := w') (v := .agg #[.int .u8 x.f0, .int .u32 x.f1, .int .u32 x.f2, .slice B3 x.f3.length b3, .slice B4 x.f4.length b4, .int .u32 x.f5.f0, .slice B6 x.f5.f1.length b6, .int .i64 x.f6, .int .i64 x.f7, .slice B9 x.f8.length b9]) (by rfl) rfl ?_ (hK _ _ (by exact rfl) (Below.refl _ _))
     ·go_simp
      (try simp only [iR, jC])
      (try rfl)
      (try (unfold Go.RowKit.wrap64; omega))
    refine iP ?_ ?_
    ·intro a w' vs hB hel hd
     obtain ⟨f21, r21⟩ := hd 3 (by kernel_rfl)
     have e21 : a.tmps[21]? = some (.agg #[.int .u8 x.f0, .int .u32 x.f1, .int .u32 x.f2, .slice A3 x.f3.length a3, .slice A4 x.f4.length a4, .int .u32 x.f5.f0, .slice A6 x.f5.f1.length a6, .int .i64 x.f6, .int .i64 x.f7, .slice A9 x.f8.length a9]) := f21.trans (congrArg some (r21 : vs 3 = (.agg #[.int .u8 x.f0, .int .u32 x.f1, .int .u32 x.f2, .slice A3 x.f3.length a3, .slice A4 x.f4.length a4, .int .u32 x.f5.f0, .slice A6 x.f5.f1.length a6, .int .i64 x.f6, .int .i64 x.f7, .slice A9 x.f8.length a9])))
     obtain ⟨f25, r25⟩ := hd 7 (by kernel_rfl)
     have e25 : a.tmps[25]? = some (.agg #[.int .u8 x.f0, .int .u32 x.f1, .int .u32 x.f2, .slice B3 x.f3.length b3, .slice B4 x.f4.length b4, .int .u32 x.f5.f0, .slice B6 x.f5.f1.length b6, .int .i64 x.f6, .int .i64 x.f7, .slice B9 x.f8.length b9]) := f25.trans (congrArg some (r25 : vs 7 = (.agg #[.int .u8 x.f0, .int .u32 x.f1, .int .u32 x.f2, .slice B3 x.f3.length b3, .slice B4 x.f4.length b4, .int .u32 x.f5.f0, .slice B6 x.f5.f1.length b6, .int .i64 x.f6, .int .i64 x.f7, .slice B9 x.f8.length b9])))
     refine ⟨_, rfl, rfl, fun K hK => ?_⟩
     refine qC Tryd.func23 (by kernel_rfl) rfl #[.agg #[.int .u8 x.f0, .int .u32 x.f1, .int .u32 x.f2, .slice A3 x.f3.length a3, .slice A4 x.f4.length a4, .int .u32 x.f5.f0, .slice A6 x.f5.f1.length a6, .int .i64 x.f6, .int .i64 x.f7, .slice A9 x.f8.length a9], .agg #[.int .u8 x.f0, .int .u32 x.f1, .int .u32 x.f2, .slice B3 x.f3.length b3, .slice B4 x.f4.length b4, .int .u32 x.f5.f0, .slice B6 x.f5.f1.length b6, .int .i64 x.f6, .int .i64 x.f7, .slice B9 x.f8.length b9]] (by rfl) rfl rfl (by first | (simp only [List.map_toArray, List.map_cons, List.map_nil, Act.eval, Array.getD_eq_getD_getElem?, Option.getD_some, e21, e25]; done) | (simp only [List.map_toArray, List.map_cons, List.map_nil, Act.eval, Array.getD_eq_getD_getElem?, Option.getD_some, e21, e25]; rfl)) ?_
     refine (yD (HL.out.below hB) (HM.out.below hB) HSS.out).mono ?_
     rintro e_ w2_ ⟨rfl, hb2_⟩
     exact ⟨_, rfl, hK _ _ (by exact rfl) hb2_⟩
    refine iP ?_ ?_
    ·intro a w' vs hB hel hd
     obtain ⟨f26, r26⟩ := hd 8 (by kernel_rfl)
     have e26 : a.tmps[26]? = some (.bool true) := f26.trans (congrArg some (r26 : vs 8 = (.bool true)))
     refine ⟨_, rfl, rfl, fun K hK => ?_⟩
     refine jH (w1 := w') (v := .bool true) (by rfl) rfl ?_ (hK _ _ (by exact rfl) (Below.refl _ _))
     ·go_simp
      (try simp only [iR, jC])
      (try rfl)
      (try (unfold Go.RowKit.wrap64; omega))
    exact oG
   ·intro vs w' hB hR
    have hv0_ : vs 0 = (.slice (some ad) l.length c) := hR 0 (by kernel_rfl)
    have hv1_ : vs 1 = (.int .i64 (k : Int)) := hR 1 (by kernel_rfl)
    have hv2_ : vs 2 = (.pointer (some (ad.add (k * 10)))) := hR 2 (by kernel_rfl)
    have hv3_ : vs 3 = (.agg #[.int .u8 x.f0, .int .u32 x.f1, .int .u32 x.f2, .slice A3 x.f3.length a3, .slice A4 x.f4.length a4, .int .u32 x.f5.f0, .slice A6 x.f5.f1.length a6, .int .i64 x.f6, .int .i64 x.f7, .slice A9 x.f8.length a9]) := hR 3 (by kernel_rfl)
    have hv4_ : vs 4 = (.slice (some bd) l.length d) := hR 4 (by kernel_rfl)
    have hv5_ : vs 5 = (.int .i64 (k : Int)) := hR 5 (by kernel_rfl)
    have hv6_ : vs 6 = (.pointer (some (bd.add (k * 10)))) := hR 6 (by kernel_rfl)
    have hv7_ : vs 7 = (.agg #[.int .u8 x.f0, .int .u32 x.f1, .int .u32 x.f2, .slice B3 x.f3.length b3, .slice B4 x.f4.length b4, .int .u32 x.f5.f0, .slice B6 x.f5.f1.length b6, .int .i64 x.f6, .int .i64 x.f7, .slice B9 x.f8.length b9]) := hR 7 (by kernel_rfl)
    have hv8_ : vs 8 = (.bool true) := hR 8 (by kernel_rfl)
    have hv9_ : vs 9 = (.bool true) := hR 9 (by kernel_rfl)
    rw [show entries [18, 19, 20, 21, 22, 23, 24, 25, 26, 6] vs = [(0, 18, vs 0), (1, 19, vs 1), (2, 20, vs 2), (3, 21, vs 3), (4, 22, vs 4), (5, 23, vs 5), (6, 24, vs 6), (7, 25, vs 7), (8, 26, vs 8), (9, 6, vs 9)] from rfl]
    simp only [jX, if_true, Act.put, List.setIfInBounds_toArray, List.set_cons_zero, List.set_cons_succ, hv0_, hv1_, hv2_, hv3_, hv4_, hv5_, hv6_, hv7_, hv8_, hv9_]
    clear hR hv0_ hv1_ hv2_ hv3_ hv4_ hv5_ hv6_ hv7_ hv8_ hv9_
    have HB2 := iC.mk (iK HB.out hB)
    go_wp2
    go_roundw
    case rel => exact ⟨k + 1, by omega, by go_num, HB2⟩
    case measure => simp [intOf]; omega
  ·obtain rfl : k = l.length := by omega
   go_wp2
   go_ret
   exact ⟨rfl, HB.out⟩
end Go.Proofs.YtgfkgppomaapiaaDoor.K
end

section
namespace Go.Proofs.YtgfkgppomaapiaaDoor.My
open Go Go.RowKit Go.Proofs.YtgfkgppomaapiaaDoorW.PrintWords
def OB (w : World) (base : Nat) (v : Value) (l : List UInt8) : Prop := kb.R 5 w base (fun _ => True) v l
theorem OB.reads {w : World} {base : Nat} {v : Value} {l : List UInt8} (h : OB w base v l) : ∃ A c, v = .slice A l.length c ∧ l.length ≤ c ∧ kb.C w A l.length l := Kd.R_reads h
theorem OB.lower {w : World} {base base' : Nat} {v : Value} {l : List UInt8} (h : OB w base v l) (hb : base' ≤ base) : OB w base' v l := Kd.R_lower h hb
theorem OB.nil (w : World) (base : Nat) : OB w base (.slice none 0 0) [] := Kd.R_nil _ _ _ _ _
theorem yA : (Tryd.prog.info? 5).map (fun i => (i.zero, i.size, i.bytes)) = some (some (.int .u8 0), kb.sz, 1) := by kernel_rfl
theorem OB.empty (w : World) : OB (w.alloc (.cells #[] 5)) w.heap.size (.slice (some ⟨w.heap.size, 0, none⟩) 0 0) [] := by
 refine Kd.R_of_own ?_ (fun _ _ => trivial)
 have h := World.ownsRow_lit (base := w.heap.size) (e := 5) (size := 1) w #[] 0 (Nat.le_refl _) (by simp) (by simp)
 simpa [encs] using h
theorem ZH {w : World} {n : Nat} {l : List UInt8} (h : kb.C w none n l) : l = [] ∧ n = 0 := by
 have h1 := h.1
 rcases Nat.eq_zero_or_pos n with h0 | h0
 ·subst h0; exact ⟨List.length_eq_zero_iff.1 h1, rfl⟩
 ·obtain ⟨ad, e, _⟩ := h.2.2 h0; cases e
set_option maxHeartbeats 1000000 in
theorem IW (A : Option Addr) (c : Nat) (l : List UInt8) (w : World) (hr : kb.C w A l.length l) (hc : l.length ≤ c) (hs : l.length ≤ 140737488355327) :
  Calls Tryd.prog 86 #[.slice A l.length c] w fun e w' => ∃ v, e = .returned v ∧ OB w' w.heap.size v l ∧ Below w.heap.size w w' := by
 cases A with
 | none =>
  obtain ⟨rfl, _⟩ := ZH hr
  have hnil := fun (w : World) (a : Option Addr) (n c : Nat) => Lib.run_eql_slice_nil (P := Tryd.prog) w 33 5 a n c 0 0 Tryd.underlying33
  go_enter Tryd.func86, Tryd.ntmps86
  go_wp2
  go_ret
  exact ⟨_, rfl, OB.nil _ _, Below.refl _ _⟩
 | some ad =>
  have HL := iC.mk hr
  clear hr
  have hnil := fun (w : World) (a : Option Addr) (n c : Nat) => Lib.run_eql_slice_nil (P := Tryd.prog) w 33 5 a n c 0 0 Tryd.underlying33
  go_enter Tryd.func86, Tryd.ntmps86
  go_wp2_with (at_builtin; refine Kd.R_append_rows kb (w0 := w) w.heap.size rfl (.tmp 5) (.tmp 6) 33 5 (.int .u8 0) 1 rfl Tryd.underlying33 yA rfl (by decide) (by omega) (.slice (some ⟨w.heap.size, 0, none⟩) 0 0) [] l _ _ _ (fun _ => True) (fun _ => False) rfl rfl (OB.empty w) ?aR (fun _ _ h => h) (fun _ h => h.elim) (fun _ _ => trivial) ?aB ?aS ?aL ?_; (case aR => exact Kd.C_below HL.out (by (repeat (first | exact Below.refl _ _ | apply iG | apply jO | apply iF | apply below_bytesWorld | (refine iH ?_ (by first | assumption | omega)) | refine iK ?_ (by assumption))))); (case aB => (repeat (first | exact Below.refl _ _ | apply iG | apply jO | apply iF | apply below_bytesWorld | (refine iH ?_ (by first | assumption | omega)) | refine iK ?_ (by assumption)))); (case aS => exact iQ (by (repeat (first | exact Below.refl _ _ | apply iG | apply jO | apply iF | apply below_bytesWorld | (refine iH ?_ (by first | assumption | omega)) | refine iK ?_ (by assumption))))); (case aL => simp; omega); intro v1 w2 HO HB hg hat)
  go_ret
  exact ⟨_, rfl, HO, HB⟩
set_option maxHeartbeats 1000000 in
theorem zZ (A : Option Addr) (c : Nat) (l : List UInt8) (w : World) (hr : kb.C w A l.length l) (hc : l.length ≤ c) (hs : l.length ≤ 140737488355327) :
  Calls Tryd.prog 126 #[.slice A l.length c] w fun e w' => ∃ v, e = .returned v ∧ OB w' w.heap.size v l ∧ Below w.heap.size w w' := by
 cases A with
 | none =>
  obtain ⟨rfl, _⟩ := ZH hr
  have hnil := fun (w : World) (a : Option Addr) (n c : Nat) => Lib.run_eql_slice_nil (P := Tryd.prog) w 33 5 a n c 0 0 Tryd.underlying33
  go_enter Tryd.func126, Tryd.ntmps126
  go_wp2
  go_ret
  exact ⟨_, rfl, OB.nil _ _, Below.refl _ _⟩
 | some ad =>
  have HL := iC.mk hr
  clear hr
  have hnil := fun (w : World) (a : Option Addr) (n c : Nat) => Lib.run_eql_slice_nil (P := Tryd.prog) w 33 5 a n c 0 0 Tryd.underlying33
  go_enter Tryd.func126, Tryd.ntmps126
  go_wp2_with (at_builtin; refine Kd.R_append_rows kb (w0 := w) w.heap.size rfl (.tmp 5) (.tmp 6) 33 5 (.int .u8 0) 1 rfl Tryd.underlying33 yA rfl (by decide) (by omega) (.slice (some ⟨w.heap.size, 0, none⟩) 0 0) [] l _ _ _ (fun _ => True) (fun _ => False) rfl rfl (OB.empty w) ?aR (fun _ _ h => h) (fun _ h => h.elim) (fun _ _ => trivial) ?aB ?aS ?aL ?_; (case aR => exact Kd.C_below HL.out (by (repeat (first | exact Below.refl _ _ | apply iG | apply jO | apply iF | apply below_bytesWorld | (refine iH ?_ (by first | assumption | omega)) | refine iK ?_ (by assumption))))); (case aB => (repeat (first | exact Below.refl _ _ | apply iG | apply jO | apply iF | apply below_bytesWorld | (refine iH ?_ (by first | assumption | omega)) | refine iK ?_ (by assumption)))); (case aS => exact iQ (by (repeat (first | exact Below.refl _ _ | apply iG | apply jO | apply iF | apply below_bytesWorld | (refine iH ?_ (by first | assumption | omega)) | refine iK ?_ (by assumption))))); (case aL => simp; omega); intro v1 w2 HO HB hg hat)
  go_ret
  exact ⟨_, rfl, HO, HB⟩
set_option maxHeartbeats 1000000 in
theorem QO (A A' : Option Addr) (c c' n n' : Nat) (l l' : List UInt8) (w : World) (hr : kb.C w A n l) (hr' : kb.C w A' n' l') :
  Calls Tryd.prog 75 #[.slice A n c, .slice A' n' c'] w fun e w' => e = .returned (.bool (l == l')) ∧ w' = w := by
 have h1 := zG (c := c) hr
 have h2 := zG (c := c') hr'
 have h3 := yC l
 have h4 := yC l'
 clear hr hr'
 go_enter Tryd.func75, Tryd.ntmps75
 go_wp2
 go_ret
 refine ⟨?_, rfl⟩
 rw [jC, jC]
 rfl
set_option maxHeartbeats 1000000 in
theorem VM (n : Nat) (w : World) (hn : n ≤ 140737488355327) :
  Calls Tryd.prog 104 #[.slice none 0 0, .int .i64 (n : Int)] w fun e w' => ∃ v, e = .returned v ∧ OB w' w.heap.size v [] ∧ Below w.heap.size w w' := by
 have hn0 : ¬ (n : Int) < 0 := by omega
 by_cases h0 : (0 : Int) < n
 ·go_enter Tryd.func104, Tryd.ntmps104
  go_wp2_with (at_builtin; refine Kd.R_append_zeros kb (w0 := w) w.heap.size rfl (.tmp 20) (.tmp 21) 33 3 5 (.int .u8 0) 1 rfl Tryd.underlying33 Tryd.underlying3 yA rfl (by decide) (by omega) (.slice none 0 0) [] 0 (n : Int) (fun _ => True) rfl rfl rfl (fun _ _ => trivial) (Kd.R_nil _ _ _ _ _) (by omega) ?aB ?aS ?aL ?_; (case aB => (repeat (first | exact Below.refl _ _ | apply iG | apply jO | apply iF | apply below_bytesWorld | (refine iH ?_ (by first | assumption | omega)) | refine iK ?_ (by assumption)))); (case aS => exact iQ (by (repeat (first | exact Below.refl _ _ | apply iG | apply jO | apply iF | apply below_bytesWorld | (refine iH ?_ (by first | assumption | omega)) | refine iK ?_ (by assumption))))); (case aL => simp; omega); intro v1 w2 HO HB hg hat; rw [List.nil_append, Int.toNat_natCast] at HO; obtain ⟨g, cap, rfl, hlc, hgb, _, hfr, hC1⟩ := j05 HO (by simp; omega); have HR := iC.mk HO; clear HO hg hat hfr hC1; rw [List.length_replicate] at HR hlc; rw [List.length_replicate])
  go_ret
  exact ⟨_, rfl, Kd.R_take (m := 0) HR.out (Nat.zero_le _), HB⟩
 ·go_enter Tryd.func104, Tryd.ntmps104
  go_wp2_with fail
  go_ret
  exact ⟨_, rfl, OB.nil _ _, by (repeat (first | exact Below.refl _ _ | apply iG | apply jO | apply iF | apply below_bytesWorld | (refine iH ?_ (by first | assumption | omega)) | refine iK ?_ (by assumption)))⟩
theorem MN (l : List (List UInt8)) (k : Nat) (h : k < l.length) : (l.take (k + 1)).flatten = (l.take k).flatten ++ l.getD k [] := by
 rw [lH [] l k h, List.flatten_append]
 simp
theorem VJ (l : List (List UInt8)) (k : Nat) : (l.take k).flatten.length ≤ l.flatten.length := by
 conv => rhs; rw [← List.take_append_drop k l, List.flatten_append, List.length_append]
 omega
def qA (l : List (List UInt8)) : Nat := l.flatten.length
set_option maxHeartbeats 1000000 in
theorem OX (A : Option Addr) (c : Nat) (l : List (List UInt8)) (w : World) (hr : (Kd.slice 5 kb).C w A l.length l) (hs : l.flatten.length ≤ 140737488355327) :
  Calls Tryd.prog 81 #[.slice A l.length c] w fun e w' => ∃ v, e = .returned v ∧ OB w' w.heap.size v l.flatten ∧ Below w.heap.size w w' := by
 have hm := lC hr
 have HR := iC.mk hr
 clear hr
 go_enter Tryd.func81, Tryd.ntmps81
 go_wp2
 go_loop [3, 11] (fun s i => ∃ k : Nat, k ≤ l.length ∧ i = .int .i64 k ∧ s = .int .i64 (qA (l.take k) : Int)) (fun _ i => l.length - (intOf i).toNat)
 case atStart => exact ⟨0, Nat.zero_le _, rfl, rfl⟩
 case round =>
  obtain ⟨k, hk, rfl, rfl⟩ := hrel
  by_cases hlt : k < l.length
  ·obtain ⟨ad, A', c', rfl, hx, hxl, hxc⟩ := X6 HR.out k hlt
   have hf := MN l k hlt
   have hle := VJ l (k + 1)
   have hadd : (qA (l.take k) : Int) + ((l.getD k []).length : Int) = (qA (l.take (k + 1)) : Int) := by unfold qA; rw [hf, List.length_append]; omega
   have hb1 : ((qA (l.take k) : Int) + ((l.getD k []).length : Int)) ≤ 140737488355327 := by rw [hadd]; unfold qA; omega
   have HADD := iC.mk hadd
   clear hf hle hadd hxl hxc
   generalize (l.getD k []).length = m at hx hb1 HADD
   have hb0 : ¬ (qA (l.take k) : Int) + (m : Int) < 0 := by omega
   generalize qA (l.take k) = q at hb1 HADD hb0
   go_wp2
   go_round
   case rel => exact ⟨k + 1, by omega, by go_num, by rw [HADD.out]⟩
   case measure => simp [intOf]; omega
  ·obtain rfl : k = l.length := by omega
   simp only [List.take_length]
   go_wp2_with fail
   refine (VM (qA l) _ hs).mono ?_
   rintro e w1 ⟨v0, rfl, HO0, hb1⟩
   have HO0' := iC.mk HO0
   clear HO0
   go_wp2
   go_loopw [6, 27] (fun v i wr => ∃ k : Nat, k ≤ l.length ∧ i = .int .i64 k ∧ iC (OB wr w.heap.size v (l.take k).flatten) ∧ iC (Below w.heap.size w wr)) (fun _ i _ => l.length - (intOf i).toNat)
   case atStart => exact ⟨0, Nat.zero_le _, rfl, HO0', ⟨hb1⟩⟩
   case round =>
    obtain ⟨k, hk, rfl, HO, HB⟩ := hrel
    by_cases hlt : k < l.length
    ·obtain ⟨ad, A', c', rfl, hx, hxl, hxc⟩ := X6 HR.out k hlt
     have hx' := MF HB.out hx
     have HX := iC.mk (Kd.C_below hxc HB.out)
     have HF := iC.mk (MN l k hlt)
     have hle : (l.take k).flatten.length + (l.getD k []).length ≤ 140737488355327 := by have := VJ l (k + 1); rw [HF.out, List.length_append] at this; omega
     clear hx hxl hxc
     obtain ⟨x, hxe⟩ : ∃ x, x = l.getD k [] := ⟨_, rfl⟩
     rw [← hxe] at hx' HX HF hle
     clear hxe
     go_wp2_with (at_builtin; refine Kd.R_append_rows kb (w0 := w) w.heap.size rfl (.tmp 31) (.tmp 32) 33 5 (.int .u8 0) 1 rfl Tryd.underlying33 yA rfl (by decide) (by omega) _ _ x _ _ _ (fun _ => True) (fun _ => False) rfl rfl HO.out HX.out (fun _ _ h => h) (fun _ h => h.elim) (fun _ _ => trivial) HB.out HB.out.size (by omega) ?_; intro v1 w2 HO1 HB1 hg hat; have HO1' := iC.mk HO1; have HB1' := iC.mk HB1; clear HO1 HB1 hg hat)
     go_roundw
     case rel => exact ⟨k + 1, by omega, by go_num, ⟨by rw [HF.out]; exact HO1'.out⟩, HB1'⟩
     case measure => simp [intOf]; omega
    ·obtain rfl : k = l.length := by omega
     have HO2 := HO.out
     rw [List.take_length] at HO2
     have HO2' := iC.mk HO2
     clear HO2
     go_wp2
     go_ret
     exact ⟨_, rfl, HO2'.out, HB.out⟩
end Go.Proofs.YtgfkgppomaapiaaDoor.My
end

section
namespace Go.Proofs.YtgfkgppomaapiaaDoor.My
def LJ (s : Nat × Nat) (c : UInt8) : Nat × Nat := ((s.1 + c.toNat) % 65521, (s.2 + (s.1 + c.toNat) % 65521) % 65521)
def adl (s : Nat × Nat) (l : List UInt8) : Nat × Nat := l.foldl LJ s
def adls (s : Nat × Nat) (l : List (List UInt8)) : Nat × Nat := l.foldl adl s
def sumOf (s : Nat × Nat) : Nat := s.2 * 65536 + s.1
def sumN (l : List (List UInt8)) : Nat := sumOf (adls (1, 0) l)
def Fine (s : Nat × Nat) : Prop := s.1 < 65521 ∧ s.2 < 65521
theorem IE : Fine (1, 0) := by unfold Fine; decide
theorem TS {s : Nat × Nat} (c : UInt8) : Fine (LJ s c) := ⟨Nat.mod_lt _ (by decide), Nat.mod_lt _ (by decide)⟩
theorem PH {s : Nat × Nat} (h : Fine s) (l : List UInt8) : Fine (adl s l) := by
 induction l generalizing s with
 | nil => exact h
 | cons c l ih => exact ih (TS c)
theorem MK {s : Nat × Nat} (h : Fine s) (l : List (List UInt8)) : Fine (adls s l) := by
 induction l generalizing s with
 | nil => exact h
 | cons c l ih => exact ih (PH h c)
theorem I8 (s : Nat × Nat) (a b : List UInt8) : adl s (a ++ b) = adl (adl s a) b := List.foldl_append
theorem XU (s : Nat × Nat) (a : List UInt8) (c : UInt8) : adl s (a ++ [c]) = LJ (adl s a) c := by rw [I8]; rfl
theorem TZ (s : Nat × Nat) (a : List (List UInt8)) (c : List UInt8) : adls s (a ++ [c]) = adl (adls s a) c := by unfold adls; rw [List.foldl_append]; rfl
theorem MM (s : Nat × Nat) (l : List (List UInt8)) : adls s l = adl s l.flatten := by
 induction l generalizing s with
 | nil => rfl
 | cons a l ih => rw [List.flatten_cons, I8]; exact ih _
theorem UW (l : List (List UInt8)) : sumN l = sumN [l.flatten] := by unfold sumN; rw [MM, MM]; simp
end Go.Proofs.YtgfkgppomaapiaaDoor.My
end

section
namespace Go.Proofs.YtgfkgppomaapiaaDoor.My
open Go Go.RowKit Go.Proofs.YtgfkgppomaapiaaDoorW.PrintWords
def xU (w : World) (b : Nat) (s : Nat × Nat) : Prop := w.heap[b]? = some (.cells #[.int .u32 (s.1 : Int), .int .u32 (s.2 : Int)] 179 (0, 0))
set_option maxHeartbeats 1000000 in
theorem ZZ (b : Nat) (l h c : Int) (w : World) (hl0 : 0 ≤ l) (hl : l < 65521) (hh0 : 0 ≤ h) (hh : h < 65521) (hc0 : 0 ≤ c) (hc : c < 256)
  (hb : w.heap[b]? = some (.cells #[.int .u32 l, .int .u32 h] 179 (0, 0))) :
  Calls Tryd.prog 127 #[.pointer (some ⟨b, 0, none⟩), .int .u8 c] w fun e w' => e = .returned (.tuple #[]) ∧
   w'.heap[b]? = some (.cells #[.int .u32 ((l + c) % 65521), .int .u32 ((h + (l + c) % 65521) % 65521)] 179 (0, 0)) ∧ Only b w w' := by
 have c0 : w.cell? ⟨b, 0, none⟩ = some (.int .u32 l) := by simp [World.cell?, hb]
 have c1 : w.cell? ⟨b, 1, none⟩ = some (.int .u32 h) := by simp [World.cell?, hb]
 have f0 : w.frozen? ⟨b, 0, none⟩ = false := by simp [World.frozen?, hb]
 have f1 : w.frozen? ⟨b, 1, none⟩ = false := by simp [World.frozen?, hb]
 have HB := Lib.hid hb
 clear hb
 go_enter Tryd.func127, Tryd.ntmps127
 go_wp2
 all_goals (go_region; go_wp2)
 all_goals go_end0
 all_goals
  refine ⟨rfl, ?_, ?_⟩
  ·have hb := HB.out
   simp only [World.drew, World.setCell, Array.getElem?_modify, hb]
   simp
   refine ⟨?_, ?_⟩ <;> omega
  ·repeat (first | exact Only.refl _ _ | apply Only.drew | apply Only.set)
theorem add_any (b : Nat) (s : Nat × Nat) (c : UInt8) (w : World) (hf : Fine s) (hb : xU w b s) :
  Calls Tryd.prog 127 #[.pointer (some ⟨b, 0, none⟩), .int .u8 (c.toNat : Int)] w fun e w' => e = .returned (.tuple #[]) ∧ xU w' b (LJ s c) ∧ Only b w w' := by
 have hc := c.toNat_lt
 refine (ZZ b s.1 s.2 c.toNat w (by omega) (by have := hf.1; omega) (by omega) (by have := hf.2; omega) (by omega) (by omega) hb).mono ?_
 rintro e w' ⟨he, h, ho⟩
 refine ⟨he, ?_, ho⟩
 unfold xU LJ
 simp only
 rw [h]
 have e1 : ((s.1 : Int) + c.toNat) % 65521 = (((s.1 + c.toNat) % 65521 : Nat) : Int) := by omega
 rw [e1]
 have e2 : ((s.2 : Int) + (((s.1 + c.toNat) % 65521 : Nat) : Int)) % 65521 = (((s.2 + (s.1 + c.toNat) % 65521) % 65521 : Nat) : Int) := by omega
 rw [e2]
theorem jb_ (s : Nat × Nat) (h : Fine s) : bits .or .u32 ((s.2 : Int) * 65536 % 4294967296) (s.1 : Int) = (sumOf s : Int) := by
 obtain ⟨h1, h2⟩ := h
 have e : (s.2 : Int) * 65536 % 4294967296 = ((s.2 * 65536 : Nat) : Int) := by omega
 rw [e, u32_or_nat _ _ (by omega) (by omega)]
 have := Nat.shiftLeft_add_eq_or_of_lt (b := s.1) (i := 16) (by omega) s.2
 rw [Nat.shiftLeft_eq] at this
 unfold sumOf
 rw [← this]
theorem X0 (w : World) : xU (w.alloc (.cells #[.int .u32 1, .int .u32 0] 179)) w.heap.size (adls (1, 0) (List.take 0 [])) := by
 show (w.heap.push _)[w.heap.size]? = _
 simp [adls]
theorem pair_cells {w : World} {b : Nat} {s : Nat × Nat} (h : xU w b s) : w.cell? ⟨b, 0, none⟩ = some (.int .u32 (s.1 : Int)) ∧ w.cell? ⟨b, 1, none⟩ = some (.int .u32 (s.2 : Int)) := by
 unfold xU at h
 exact ⟨by simp [World.cell?, h], by simp [World.cell?, h]⟩
set_option maxHeartbeats 1000000 in
theorem sum_any (A : Option Addr) (c : Nat) (l : List (List UInt8)) (w : World) (hr : (Kd.slice 5 kb).C w A l.length l) :
  Calls Tryd.prog 111 #[.slice A l.length c] w fun e w' => e = .returned (.int .u32 (sumN l : Int)) ∧ Below w.heap.size w w' := by
 have hm := lC hr
 have HR := iC.mk hr
 clear hr
 go_enter Tryd.func111, Tryd.ntmps111
 go_wp2
 go_loopw [13] (fun i wr => ∃ k : Nat, k ≤ l.length ∧ i = .int .i64 k ∧ iC (xU wr w.heap.size (adls (1, 0) (l.take k))) ∧ iC (Below w.heap.size w wr)) (fun i _ => l.length - (intOf i).toNat)
 case atStart => exact ⟨0, Nat.zero_le _, rfl, ⟨X0 w⟩, ⟨iG (Below.refl _ _) _⟩⟩
 case round =>
  obtain ⟨k, hk, rfl, HP, HB⟩ := hrel
  by_cases hlt : k < l.length
  ·obtain ⟨ad, A', c', rfl, hx, hxl, hxc⟩ := X6 HR.out k hlt
   have hx' := MF HB.out hx
   clear hx hxl
   have hts := iC.mk (lH [] l k hlt)
   have hxm := lC hxc
   have HX := iC.mk hxc
   clear hxc
   obtain ⟨x, hxe⟩ : ∃ x, x = l.getD k [] := ⟨_, rfl⟩
   rw [← hxe] at hx' HX hts hxm
   clear hxe
   obtain ⟨wo, rfl⟩ : ∃ wo : World, wo = wr := ⟨_, rfl⟩
   go_wp2
   go_loopw [19] (fun j wi => ∃ m : Nat, m ≤ x.length ∧ j = .int .i64 m ∧ iC (xU wi w.heap.size (adl (adls (1, 0) (l.take k)) (x.take m))) ∧ iC (Below w.heap.size w wi)) (fun j _ => x.length - (intOf j).toNat)
   case atStart => exact ⟨0, Nat.zero_le _, rfl, HP, HB⟩
   case round =>
    obtain ⟨m, hmx, rfl, HPm, HBm⟩ := hrel
    by_cases hml : m < x.length
    ·obtain ⟨ad2, rfl, hb0⟩ := C_at HX.out m hml
     have hb1 := MF HBm.out hb0
     clear hb0
     have hts2 := iC.mk (lH 0 x m hml)
     have hfine := iC.mk (PH (MK IE (l.take k)) (x.take m))
     generalize x.getD m 0 = cb at hb1 hts2
     go_wp2_with (go_at_call 127; refine (add_any _ _ cb _ hfine.out HPm.out).mono ?_; rintro e w1 ⟨rfl, hp1, ho1⟩; have HP1 := iC.mk hp1; have HO1 := iC.mk ho1; clear hp1 ho1)
     go_roundw
     case rel => exact ⟨m + 1, by omega, by go_num, ⟨by rw [hts2.out, XU]; exact HP1.out⟩, ⟨HO1.out.below (Nat.le_refl _) HBm.out⟩⟩
     case measure => simp [intOf]; omega
    ·obtain rfl : m = x.length := by omega
     have HPx := HPm.out
     rw [List.take_length] at HPx
     have HPx' := iC.mk HPx
     clear HPx
     go_wp2
     go_roundw
     case rel => exact ⟨k + 1, by omega, by go_num, ⟨by rw [hts.out, TZ]; exact HPx'.out⟩, HBm⟩
     case measure => simp [intOf]; omega
  ·obtain rfl : k = l.length := by omega
   obtain ⟨hp0, hp1⟩ := pair_cells HP.out
   go_wp2
   go_ret
   refine ⟨?_, HB.out⟩
   rw [jb_ _ (MK IE l)]
   rfl
theorem UT {b e : Nat} {fz : Nat × Nat} {cells : Array Value} {W : World} {n c : Nat} (ls : List (List UInt8)) (hb : W.heap[b]? = some (.cells cells e fz)) (hn : n = ls.length) (hm : ls.length ≤ 9223372036854775807) (hc : Cs W cells.toList ls) :
  Calls Tryd.prog 111 #[.slice (some ⟨b, 0, none⟩) n c] W fun e w' => e = .returned (.int .u32 (sumN ls : Int)) ∧ Below W.heap.size W w' := by
 subst hn
 exact sum_any _ _ ls W (YN hb rfl hm hc)
end Go.Proofs.YtgfkgppomaapiaaDoor.My
end

section
namespace Go.Proofs.YtgfkgppomaapiaaDoor.My
def be4 (n : Nat) : List UInt8 := [UInt8.ofNat (n / 16777216), UInt8.ofNat (n / 65536), UInt8.ofNat (n / 256), UInt8.ofNat n]
def qN (n size : Nat) : List UInt8 := (be4 n).drop (4 - size)
def headB (n : Nat) : List UInt8 := qN n 3
def pI (l : List UInt8) : List UInt8 := qN (sumN [l]) 4
def kS (l : List UInt8) : List UInt8 := headB l.length ++ l ++ pI (headB l.length ++ l)
theorem qH (n : Nat) : (headB n).length = 3 := rfl
theorem JC (l : List UInt8) : (pI l).length = 4 := rfl
theorem lF (l : List UInt8) : (kS l).length = l.length + 7 := by
 unfold kS
 rw [List.length_append, List.length_append, qH, JC]
 omega
def num3 (b : List UInt8) : Nat := (b.getD 0 0).toNat * 65536 + (b.getD 1 0).toNat * 256 + (b.getD 2 0).toNat
theorem N8 (n : Nat) (h : n < 16777216) (r : List UInt8) : num3 (headB n ++ r) = n := by
 simp only [num3, headB, qN, be4, List.drop, List.cons_append, List.nil_append, List.getD_cons_zero, List.getD_cons_succ, UInt8.toNat_ofNat']
 omega
theorem be4_inj {a b : Nat} (ha : a < 4294967296) (hb : b < 4294967296) (h : be4 a = be4 b) : a = b := by
 simp only [be4, List.cons.injEq, and_true, ← UInt8.toNat_inj, UInt8.toNat_ofNat'] at h
 omega
def lV (b : List UInt8) : Option (List UInt8) :=
 if b.length < 7 then none
 else if num3 b > 60000 ∨ num3 b > b.length - 7 then none
 else if pI (b.take (3 + num3 b)) = (b.drop (3 + num3 b)).take 4 then some ((b.drop 3).take (num3 b)) else none
theorem WZ : ∀ b : List UInt8, 3 ≤ b.length → headB (num3 b) = b.take 3
 | b0 :: b1 :: b2 :: r, _ => by
  have e0 := b0.toNat_lt
  have e1 := b1.toNat_lt
  have e2 := b2.toNat_lt
  show [UInt8.ofNat (num3 (b0 :: b1 :: b2 :: r) / 65536), UInt8.ofNat (num3 (b0 :: b1 :: b2 :: r) / 256), UInt8.ofNat (num3 (b0 :: b1 :: b2 :: r))] = [b0, b1, b2]
  have hn : num3 (b0 :: b1 :: b2 :: r) = b0.toNat * 65536 + b1.toNat * 256 + b2.toNat := rfl
  rw [hn]
  simp only [List.cons.injEq, and_true, ← UInt8.toNat_inj, UInt8.toNat_ofNat']
  omega
 | [], h => by simp at h
 | [_], h => by simp at h
 | [_, _], h => by simp at h
theorem first_some {b x : List UInt8} (h : lV b = some x) : x.length ≤ 60000 ∧ b = kS x ++ b.drop (x.length + 7) ∧ x.length + 7 ≤ b.length := by
 unfold lV at h
 split at h
 ·cases h
 ·rename_i h7
  split at h
  ·cases h
  ·rename_i hn
   split at h
   ·rename_i ht
    simp only [Option.some.injEq] at h
    have hxl : x.length = num3 b := by rw [← h, List.length_take, List.length_drop]; omega
    have hhead : headB x.length = b.take 3 := by rw [hxl]; exact WZ b (by omega)
    have hb3 : b.take 3 ++ x = b.take (3 + num3 b) := by rw [← h, List.take_add]
    refine ⟨by omega, ?_, by omega⟩
    unfold kS
    rw [hhead, hb3, ht, hxl]
    rw [← List.take_add, show 3 + num3 b + 4 = num3 b + 7 from by omega, List.take_append_drop]
   ·cases h
theorem IR (x r : List UInt8) (h : x.length ≤ 60000) : lV (kS x ++ r) = some x := by
 have hw := lF x
 have hn : num3 (kS x ++ r) = x.length := by
  unfold kS
  rw [List.append_assoc, List.append_assoc]
  exact N8 _ (by omega) _
 have hl : (kS x ++ r).length = x.length + 7 + r.length := by rw [List.length_append, hw]
 unfold lV
 rw [if_neg (by omega), if_neg (by omega), hn]
 have e1 : (kS x ++ r).take (3 + x.length) = headB x.length ++ x := by
  unfold kS
  rw [List.append_assoc, List.take_append_of_le_length (by rw [List.length_append, qH]; omega), List.take_of_length_le (by rw [List.length_append, qH]; omega)]
 have e2 : ((kS x ++ r).drop (3 + x.length)).take 4 = pI (headB x.length ++ x) := by
  unfold kS
  rw [List.append_assoc, List.drop_append_of_le_length (by rw [List.length_append, qH]; omega), List.drop_of_length_le (by rw [List.length_append, qH]; omega), List.nil_append, List.take_append_of_le_length (by rw [JC]; omega), List.take_of_length_le (by rw [JC]; omega)]
 have e3 : ((kS x ++ r).drop 3).take x.length = x := by
  unfold kS
  rw [List.append_assoc, List.append_assoc, List.drop_append_of_le_length (by rw [qH]; omega), List.drop_of_length_le (by rw [qH]; omega), List.nil_append, List.take_append_of_le_length (by omega), List.take_of_length_le (by omega)]
 rw [e1, e2, e3, if_pos rfl]
def MG : Nat → List UInt8 → List (List UInt8)
 | 0, _ => []
 | k + 1, b => match lV b with
  | none => []
  | some x => x :: MG k (b.drop (x.length + 7))
def lK (b : List UInt8) : List (List UInt8) := MG b.length b
def endB (l : List (List UInt8)) : Nat := (l.map fun x => x.length + 7).sum
theorem RX : ∀ (k : Nat) (b : List UInt8), b.length ≤ k → MG k b = MG b.length b := by
 intro k
 induction k using Nat.strongRecOn with
 | _ k ih =>
  intro b hb
  rcases Nat.eq_zero_or_pos k with h0 | hk
  ·subst h0
   rw [show b.length = 0 from by omega]
  ·obtain ⟨k, rfl⟩ : ∃ m, k = m + 1 := ⟨k - 1, by omega⟩
   rcases Nat.eq_zero_or_pos b.length with h0 | hb0
   ·have : b = [] := List.length_eq_zero_iff.1 h0
    subst this
    simp [MG, lV]
   ·obtain ⟨m, hm⟩ : ∃ m, b.length = m + 1 := ⟨b.length - 1, by omega⟩
    rw [hm]
    unfold MG
    cases hf : lV b with
    | none => rfl
    | some x =>
     simp only
     have hl := (first_some hf).2.2
     have hd : (b.drop (x.length + 7)).length ≤ m := by rw [List.length_drop]; omega
     rw [ih k (by omega) _ (by omega), ← ih m (by omega) _ hd]
theorem kV {b : List UInt8} (h : lV b = none) : lK b = [] := by
 unfold lK
 cases b.length <;> simp [MG, h]
theorem pG {b x : List UInt8} (h : lV b = some x) : lK b = x :: lK (b.drop (x.length + 7)) := by
 have hl := (first_some h).2.2
 unfold lK
 obtain ⟨m, hm⟩ : ∃ m, b.length = m + 1 := ⟨b.length - 1, by omega⟩
 rw [hm]
 conv => lhs; unfold MG
 rw [h]
 simp only
 rw [RX m _ (by rw [List.length_drop]; omega)]
theorem qR (x : List UInt8) (l : List (List UInt8)) : endB (x :: l) = x.length + 7 + endB l := by simp [endB]
theorem uG (a b : List (List UInt8)) : endB (a ++ b) = endB a + endB b := by simp [endB]
def uD (l : List (List UInt8)) : List UInt8 := (l.map kS).flatten
theorem nO (x : List UInt8) (l : List (List UInt8)) : uD (x :: l) = kS x ++ uD l := by simp [uD]
theorem LP (l : List (List UInt8)) : (uD l).length = endB l := by
 induction l with
 | nil => rfl
 | cons x l ih => rw [nO, List.length_append, lF, ih, qR]
theorem yT (l : List (List UInt8)) (r : List UInt8) (h : ∀ x ∈ l, x.length ≤ 60000) : lK (uD l ++ r) = l ++ lK r := by
 induction l with
 | nil => rfl
 | cons x l ih =>
  rw [nO, List.append_assoc, pG (IR x _ (h x List.mem_cons_self)), List.cons_append]
  congr 1
  rw [List.drop_append_of_le_length (by rw [lF]; omega), List.drop_of_length_le (by rw [lF]; omega), List.nil_append]
  exact ih (fun y hy => h y (List.mem_cons_of_mem _ hy))
theorem UB (b : List UInt8) : ∃ r, b = uD (lK b) ++ r ∧ lV r = none ∧ ∀ x ∈ lK b, x.length ≤ 60000 := by
 generalize hk : b.length = k
 induction k using Nat.strongRecOn generalizing b with
 | _ k ih =>
  cases hf : lV b with
  | none => exact ⟨b, by rw [kV hf]; rfl, hf, fun x hx => by rw [kV hf] at hx; cases hx⟩
  | some x =>
   obtain ⟨h1, h2, h3⟩ := first_some hf
   obtain ⟨r, e1, e2, e3⟩ := ih (b.drop (x.length + 7)).length (by rw [List.length_drop]; omega) _ rfl
   refine ⟨r, ?_, e2, ?_⟩
   ·rw [pG hf, nO, List.append_assoc, ← e1]
    exact h2
   ·rw [pG hf]
    intro y hy
    rcases List.mem_cons.1 hy with rfl | hy
    ·exact h1
    ·exact e3 y hy
theorem YQ (b : List UInt8) : endB (lK b) ≤ b.length := by
 obtain ⟨r, h, _⟩ := UB b
 conv => rhs; rw [h]
 rw [List.length_append, LP]
 omega
end Go.Proofs.YtgfkgppomaapiaaDoor.My
end

section
namespace Go.Proofs.YtgfkgppomaapiaaDoor.My
open Go Go.RowKit Go.Proofs.YtgfkgppomaapiaaDoorW.PrintWords Go.Proofs.YtgfkgppomaapiaaDoorW.PrintMore
theorem add_plain' (g o j : Nat) : (⟨g, o, none⟩ : Addr).add j = ⟨g, o + j, none⟩ := by unfold Addr.add; split <;> simp_all
theorem jc8 {W : World} {b e off n : Nat} {fz : Nat × Nat} {cells : Array Value} {l : List UInt8} (hb : W.heap[b]? = some (.cells cells e fz)) (hn : n = l.length) (hm : l.length ≤ 9223372036854775807)
  (hc : ∀ j p, l[j]? = some p → cells[off + j]? = some (.int .u8 (p.toNat : Int))) : kb.C W (some ⟨b, off, none⟩) n l := by
 subst hn
 refine ⟨rfl, hm, fun _ => ⟨_, rfl, fun j p hj => ⟨[.int .u8 (p.toNat : Int)], rfl, rfl, fun i u hi => ?_⟩⟩⟩
 have hi0 : i = 0 := by
  rcases i with _ | i
  ·rfl
  ·simp at hi
 subst hi0
 have hu : u = .int .u8 (p.toNat : Int) := by simpa using hi.symm
 subst hu
 rw [add_plain', show kb.sz = 1 from rfl, Nat.mul_one, Nat.add_zero]
 simp [World.cell?, hb, hc j p hj]
theorem JL (n k : Nat) : ((UInt8.ofNat (n / k)).toNat : Int) = (n : Int) / k % 256 := by rw [UInt8.toNat_ofNat']; omega
theorem WY (n : Nat) : ((UInt8.ofNat n).toNat : Int) = (n : Int) % 256 := by rw [UInt8.toNat_ofNat']; omega
theorem YY (n : Nat) : ∀ (j : Nat) (p : UInt8), (be4 n)[j]? = some p → #[Value.int .u8 ((n : Int) / 16777216 % 256), Value.int .u8 ((n : Int) / 65536 % 256), Value.int .u8 ((n : Int) / 256 % 256), Value.int .u8 ((n : Int) % 256)][j]? = some (Value.int .u8 (p.toNat : Int)) := by
 intro j p hj
 have b1 := JL n 16777216
 have b2 := JL n 65536
 have b3 := JL n 256
 have b4 := WY n
 rcases j with _ | _ | _ | _ | j
 ·obtain rfl : UInt8.ofNat (n / 16777216) = p := by simpa [be4] using hj
  rw [b1]; rfl
 ·obtain rfl : UInt8.ofNat (n / 65536) = p := by simpa [be4] using hj
  rw [b2]; rfl
 ·obtain rfl : UInt8.ofNat (n / 256) = p := by simpa [be4] using hj
  rw [b3]; rfl
 ·obtain rfl : UInt8.ofNat n = p := by simpa [be4] using hj
  rw [b4]; rfl
 ·simp [be4] at hj
set_option maxHeartbeats 1000000 in
theorem ZC (n : Nat) (w : World) :
  Calls Tryd.prog 110 #[.int .u32 (n : Int), .int .i64 4] w fun e w' => ∃ v, e = .returned v ∧ OB w' w.heap.size v (qN n 4) ∧ Below w.heap.size w w' := by
 go_enter Tryd.func110, Tryd.ntmps110
 go_wp2_with fail
 refine (zZ _ _ (qN n 4) _ (jc8 (jB rfl) rfl (by show 4 ≤ _; omega) (fun j p hj => by rw [Nat.zero_add]; exact YY n j p hj)) (Nat.le_refl _) (by show 4 ≤ _; omega)).mono ?_
 rintro e w1 ⟨v, rfl, ho, hb⟩
 go_wp2
 go_ret
 exact ⟨_, rfl, ho.lower (by simp), iK (by (repeat (first | exact Below.refl _ _ | apply iG | apply jO | apply iF | apply below_bytesWorld | (refine iH ?_ (by first | assumption | omega)) | refine iK ?_ (by assumption)))) hb⟩
set_option maxHeartbeats 1000000 in
theorem ja_ (n : Nat) (w : World) :
  Calls Tryd.prog 110 #[.int .u32 (n : Int), .int .i64 3] w fun e w' => ∃ v, e = .returned v ∧ OB w' w.heap.size v (qN n 3) ∧ Below w.heap.size w w' := by
 go_enter Tryd.func110, Tryd.ntmps110
 go_wp2_with fail
 refine (zZ _ _ (qN n 3) _ (jc8 (jB rfl) rfl (by show 3 ≤ _; omega) (fun j p hj => by rw [Nat.add_comm]; exact YY n (j + 1) p (by simpa [qN, be4] using hj))) (Nat.le_refl _) (by show 3 ≤ _; omega)).mono ?_
 rintro e w1 ⟨v, rfl, ho, hb⟩
 go_wp2
 go_ret
 exact ⟨_, rfl, ho.lower (by simp), iK (by (repeat (first | exact Below.refl _ _ | apply iG | apply jO | apply iF | apply below_bytesWorld | (refine iH ?_ (by first | assumption | omega)) | refine iK ?_ (by assumption)))) hb⟩
theorem uX (a b c : List UInt8) : ([a, b, c] : List (List UInt8)).flatten = a ++ b ++ c := by simp
set_option maxHeartbeats 1000000 in
theorem wrap_any (A : Option Addr) (c : Nat) (l : List UInt8) (w : World) (hr : kb.C w A l.length l) (hc : l.length ≤ c) (hs : l.length ≤ 60000) :
  Calls Tryd.prog 88 #[.slice A l.length c] w fun e w' => ∃ v, e = .returned (.tuple #[v, .int .u16 0]) ∧ OB w' w.heap.size v (kS l) ∧ Below w.heap.size w w' := by
 have HL := iC.mk hr
 clear hr
 have hs1 : (l.length : Int) ≤ 60000 := by omega
 go_enter Tryd.func88, Tryd.ntmps88
 go_wp2_with fail
 refine (ja_ l.length _).mono ?_
 rintro e w1 ⟨v1, rfl, ho1, hb1⟩
 obtain ⟨A1, c1, rfl, hc1, hC1⟩ := ho1.reads
 have HC1 := iC.mk hC1
 clear hC1 ho1
 go_wp2_with fail
 refine (UT [headB l.length, l] (by (repeat (first | (refine jB ?_; simp; done) | apply heap_drew' | apply jM | refine iO (by assumption) ?_))) rfl (by simp) (Cs.cons (n := (qN l.length 3).length) (Kd.C_below HC1.out (by (repeat (first | exact Below.refl _ _ | apply iG | apply jO | apply iF | apply below_bytesWorld | (refine iH ?_ (by first | assumption | omega)) | refine iK ?_ (by assumption))))) hc1 (Cs.cons (Kd.C_below HL.out (by (repeat (first | exact Below.refl _ _ | apply iG | apply jO | apply iF | apply below_bytesWorld | (refine iH ?_ (by first | assumption | omega)) | refine iK ?_ (by assumption))))) hc (Cs.nil _)))).mono ?_
 rintro e w2 ⟨rfl, hb2⟩
 go_wp2_with fail
 have hsum : sumN [headB l.length, l] = sumN [headB l.length ++ l] := by rw [UW]; simp
 rw [hsum]
 have HSUM := iC.mk hsum
 clear hsum
 refine (ZC _ _).mono ?_
 rintro e w3 ⟨v3, rfl, ho3, hb3⟩
 obtain ⟨A3, c3, rfl, hc3, hC3⟩ := ho3.reads
 have HC3 := iC.mk hC3
 clear hC3 ho3
 go_wp2_with fail
 refine (OX _ _ [headB l.length, l, pI (headB l.length ++ l)] _ (YN (by (repeat (first | (refine jB ?_; simp; done) | apply heap_drew' | apply jM | refine iO (by assumption) ?_))) rfl (by simp) (Cs.cons (n := (qN l.length 3).length) (Kd.C_below HC1.out (by (repeat (first | exact Below.refl _ _ | apply iG | apply jO | apply iF | apply below_bytesWorld | (refine iH ?_ (by first | assumption | omega)) | refine iK ?_ (by assumption))))) hc1 (Cs.cons (Kd.C_below HL.out (by (repeat (first | exact Below.refl _ _ | apply iG | apply jO | apply iF | apply below_bytesWorld | (refine iH ?_ (by first | assumption | omega)) | refine iK ?_ (by assumption))))) hc (Cs.cons (n := (qN (sumN [headB l.length ++ l]) 4).length) (Kd.C_below HC3.out (by (repeat (first | exact Below.refl _ _ | apply iG | apply jO | apply iF | apply below_bytesWorld | (refine iH ?_ (by first | assumption | omega)) | refine iK ?_ (by assumption))))) hc3 (Cs.nil _))))) (by rw [uX]; have := lF l; unfold kS at this; omega)).mono ?_
 rintro e w4 ⟨v4, rfl, ho4, hb4⟩
 rw [uX] at ho4
 have HO4 := iC.mk ho4
 clear ho4
 go_wp2
 go_ret2
 exact ⟨_, rfl, HO4.out.lower (iQ (by (repeat (first | exact Below.refl _ _ | apply iG | apply jO | apply iF | apply below_bytesWorld | (refine iH ?_ (by first | assumption | omega)) | refine iK ?_ (by assumption))))), by (repeat (first | exact Below.refl _ _ | apply iG | apply jO | apply iF | apply below_bytesWorld | (refine iH ?_ (by first | assumption | omega)) | refine iK ?_ (by assumption)))⟩
end Go.Proofs.YtgfkgppomaapiaaDoor.My
end

section
namespace Go.Proofs.YtgfkgppomaapiaaDoor.My
open Go Go.RowKit Go.Proofs.YtgfkgppomaapiaaDoorW.PrintWords Go.Proofs.YtgfkgppomaapiaaDoorW.PrintMore Go.Proofs.YtgfkgppomaapiaaDoorW.PrintLast
theorem X3 (l : List UInt8) (x0 x1 x2 : UInt8) (h0 : x0 = l.getD 0 0) (h1 : x1 = l.getD 1 0) (h2 : x2 = l.getD 2 0) :
  (x0.toNat : Int) * 65536 + (x1.toNat : Int) * 256 + (x2.toNat : Int) = (num3 l : Int) := by
 subst h0; subst h1; subst h2
 unfold num3
 omega
def OBB (w : World) (base : Nat) (v : Value) (ls : List (List UInt8)) : Prop := (Kd.slice 5 kb).R 33 w base (fun _ => True) v ls
theorem OBB.below {w w' : World} {base : Nat} {v : Value} {l : List (List UInt8)} (h : OBB w base v l) (hb : Below w.heap.size w w') : OBB w' base v l := Kd.R_below h hb
theorem OBB.reads {w : World} {base : Nat} {v : Value} {l : List (List UInt8)} (h : OBB w base v l) : ∃ A c, v = .slice A l.length c ∧ l.length ≤ c ∧ (Kd.slice 5 kb).C w A l.length l := Kd.R_reads h
theorem OBB.nil (w : World) (base : Nat) : OBB w base (.slice none 0 0) [] := Kd.R_nil _ _ _ _ _
theorem OBB.lower {w : World} {base base' : Nat} {v : Value} {l : List (List UInt8)} (h : OBB w base v l) (hb : base' ≤ base) : OBB w base' v l := Kd.R_lower h hb
theorem ZX : (Tryd.prog.info? 33).map (fun i => (i.zero, i.size, i.bytes)) = some (some (.slice none 0 0), (Kd.slice 5 kb).sz, 24) := by kernel_rfl
theorem WH {w : World} {base : Nat} {v x : Value} {ls : List (List UInt8)} {l : List UInt8} (h : OBB w base v ls) (hx : OB w base x l) : (Kd.slice 5 kb).M w base (fun k => some k ≠ v.ownBlock) l [x] := by
 refine ⟨x, rfl, ?_⟩
 cases hv : v.ownBlock with
 | none => exact Kd.R_mono hx (fun k _ => by simp)
 | some g =>
  obtain ⟨inner, ho⟩ := Kd.R_own h
  obtain ⟨cells, hc⟩ := mM ho g hv
  exact Kd.R_mono (Kd.R_types hx hc (by decide)) (fun k hk e => hk.2 (by injection e))
end Go.Proofs.YtgfkgppomaapiaaDoor.My
end

section
namespace Go.Proofs.YtgfkgppomaapiaaDoor.My
open Go Go.RowKit Go.Proofs.YtgfkgppomaapiaaDoorW.PrintWords Go.Proofs.YtgfkgppomaapiaaDoorW.PrintMore Go.Proofs.YtgfkgppomaapiaaDoorW.PrintLast
def YZ {α : Type} (F : Fence) (n : Nat) (P : Program) (g : Nat) (lb : Array Value) (encs : α → Array Value) (Kp : World → World → Prop) (G : α → World → Prop) (S : List α → Prop) (N : Nat) (w : World) : Prop :=
 ∀ (l : Nat) (J : List α → World → Prop) (W : World), Below w.heap.size w W → (∀ s A B, J s A → Below A.heap.size A B → J s B) →
  (∀ pre x W1, J pre W1 → G x W1 → pre.length < N → YieldAt F (n - 1) P l (encs x) W1 fun e W' => e = .returned (.bool true) ∧ J (pre ++ [x]) W' ∧ Kp W1 W') → J [] W →
  CallsIn F n P g (#[.func (.yield l) #[] #[]] ++ lb) W fun e W' => (∃ v, e = .returned v) ∧ ∃ xs, S xs ∧ J xs W'
theorem ja8 {F : Fence} {n : Nat} {P : Program} {α : Type} {g : Operand} {ps : Array Tmp} {assign body : Code} {Q : Exit → Act → World → Prop} {a : Act} {w : World}
  (hro : F.round = none) (h1 : 1 ≤ n) {gf : Nat} {lb : Array Value} (hg : a.eval g = .func (.func gf) #[] lb) (hFg : F.fn gf) (eg : ∀ args w, (callFunc gf args).run P w = .ok (.enter gf args) w)
  {encs : α → Array Value} {Kp : World → World → Prop} {G : α → World → Prop} {S : List α → Prop} {N : Nat} {w0 : World} (hseq : YZ F (n - 1) P gf lb encs Kp G S N w0)
  (hKt : ∀ {A B C : World}, Kp A B → Kp B C → Kp A C) (hKb : ∀ (W : World) (l : Nat) (r : Loop) (o' : Obj), w.heap.size ≤ l → W.heap[l]? = some (.loop r) → Kp W (W.putObj l o')) (hb0 : Below w0.heap.size w0 w) (hps : ∀ x, (encs x).size = ps.size)
  (I : List α → World → Prop) (hIb : ∀ s A B, I s A → Below A.heap.size A B → I s B) (hIp : ∀ s A l r o', I s A → w.heap.size ≤ l → A.heap[l]? = some (.loop r) → I s (A.putObj l o'))
  (hGp : ∀ x A l r o', G x A → w.heap.size ≤ l → A.heap[l]? = some (.loop r) → G x (A.putObj l o')) (h0 : I [] w) (a₁ : α → Act)
  (hassign : ∀ (l : Nat) (x : α) (W : World) (K : Act → World → Prop), K (a₁ x) W →
   assign.wpIn (F.inRound l) (n - 1 - 1) P (Exit.then K (fun _ _ _ => False)) { tmps := (ps.zip (encs x)).foldl (fun t (p, v) => t.setIfInBounds p v) a.tmps, defers := [] } W)
  (hbody : ∀ (l : Nat) (pre : List α) (x : α) (W : World), w.heap.size ≤ l → I pre W → G x W → pre.length < N → body.wpIn (F.inRound l) (n - 1 - 1) P (fun e _ W' => e = .normal ∧ KeepsFrom w.heap.size W W' ∧ Kp W W' ∧ I (pre ++ [x]) W') (a₁ x) W)
  (hdone : ∀ (D : Nat) (xs : List α) (W : World), w.heap.size ≤ D → S xs → I xs W → W.heap[D]? = some (.deferred (some [])) → Q .normal { a with defers := { target := .collected D, args := #[] } :: a.defers } W) :
  (Code.rangeFunc g ps assign body).wpIn F n P Q a w := by
 refine wpIn_rangeFunc ?_
 intro fn hfn
 rw [hro]
 obtain ⟨rc, hrc⟩ : ∃ rc : LoopState → Option Code → Loop, rc = fun st pe => { state := st, pending := pe, fn, tmps := a.tmps, params := ps, assign, body, defers := w.heap.size } := ⟨_, rfl⟩
 obtain ⟨W1, hW1⟩ : ∃ W1, (w.alloc (.deferred (some []))).alloc (.loop (rc .ready none)) = W1 := ⟨_, rfl⟩
 have hbW : Below w.heap.size w W1 := by rw [← hW1]; exact iG (iG (Below.refl _ _) _) _
 have hL1 : W1.heap[w.heap.size + 1]? = some (.loop (rc .ready none)) := by rw [← hW1]; exact jB (by simp)
 have hK1 : W1.heap[w.heap.size]? = some (.deferred (some [])) := by rw [← hW1]; exact jM (jB rfl)
 refine ⟨w.heap.size + 1, [{ target := .collected w.heap.size, args := #[] }], W1, { target := .fn (.func gf) lb, args := #[.func (.yield (w.heap.size + 1)) #[] #[]] }, W1, gf, #[.func (.yield (w.heap.size + 1)) #[] #[]] ++ lb, W1, ?_, ?_, ?_, ?_, fun _ => h1, ?_⟩
 ·rw [← hW1, hrc]; exact run_enterLoop_outer _ _ _ _ _
 ·simp only [resolve, hg]
  simp [go_sem]
 ·intro f' hf'; simp [Target.leads] at hf'; subst hf'; exact hFg
 ·simp [invoke, go_sem, eg]
 ·refine (hseq (w.heap.size + 1)
   (fun pre W => I pre W ∧ W.heap[w.heap.size + 1]? = some (.loop (rc .ready none)) ∧ W.heap[w.heap.size]? = some (.deferred (some [])))
   W1 (hb0.trans (hbW.mono hb0.size)) (fun s A B hs hb => ⟨hIb s A B hs.1 hb, iO hb hs.2.1, iO hb hs.2.2⟩) ?_ ⟨hIb _ _ _ h0 hbW, hL1, hK1⟩).mono ?_
  ·rintro pre x W ⟨hi, hl, hk⟩ hG hlen
   have hlt : w.heap.size + 1 < W.heap.size := jU hl
   have hy := run_yield (P := P) (args := encs x) hl (by rw [hrc]; exact hps x)
   rw [hrc] at hy
   refine ⟨fn, _, assign, body, hy, roundIn_of_wpIn hfn (hassign _ x W _ ⟨_, run_beginRound hl (by rw [hrc]), ?_⟩)⟩
   have hl2 : (W.putObj (w.heap.size + 1) (.loop { rc .ready none with state := .busy })).heap[w.heap.size + 1]? = some (.loop { rc .ready none with state := .busy }) := World.putObj_heap_same hlt
   have hk2 : (W.putObj (w.heap.size + 1) (.loop { rc .ready none with state := .busy })).heap[w.heap.size]? = some (.deferred (some [])) := (World.putObj_heap_other (by omega)).trans hk
   refine wpIn_mono (hbody _ pre x _ (by omega) (hIp _ _ _ _ _ hi (by omega) hl) (hGp _ _ _ _ _ hG (by omega) hl) hlen) ?_
   rintro e a3 W3 ⟨rfl, hk3, hkp3, hi3⟩
   have hl3 := hk3.same _ _ (by omega) hl2 rfl
   have hr := run_endRound (P := P) none hl3
   refine ⟨_, _, hr, rfl, ⟨hIp _ _ _ _ _ hi3 (by omega) hl3, ?_, ?_⟩, hKt (hKt (hKb _ _ _ _ (by omega) hl) hkp3) (hKb _ _ _ _ (by omega) hl3)⟩
   ·rw [hrc]; exact World.putObj_heap_same (jU hl3)
   ·exact (World.putObj_heap_other (by omega)).trans (hk3.same _ _ (Nat.le_refl _) hk2 rfl)
  ·rintro e W2 ⟨⟨v, rfl⟩, xs, hS, hi, hl, hk⟩
   have hend := run_endLoop (P := P) hl (by rw [hrc]; simp)
   refine ⟨_, _, hend, ?_⟩
   have hp : (rc .ready none).pending = none := by rw [hrc]
   rw [hp]
   exact hdone _ xs _ (Nat.le_refl _) hS (hIp _ _ _ _ _ hi (by omega) hl) ((World.putObj_heap_other (by omega)).trans hk)
end Go.Proofs.YtgfkgppomaapiaaDoor.My
end

section
namespace Go.Proofs.YtgfkgppomaapiaaDoor.My
open Go Go.RowKit Go.Proofs.YtgfkgppomaapiaaDoorW.PrintWords Go.Proofs.YtgfkgppomaapiaaDoorW.PrintMore Go.Proofs.YtgfkgppomaapiaaDoorW.PrintLast
attribute [local go_sem] Oper.semAt_some
def imin (x y : Int) : Int := if y < x then y else x
theorem ja2 {n x y : Int} (h1 : n ≤ x) (h2 : n ≤ y) : n ≤ imin x y := by unfold imin; split <;> assumption
theorem U1 {n x y : Int} (h : x < n ∨ y < n) : imin x y < n := by unfold imin; split <;> omega
theorem jd3 (k k' : IntKind) (x y : Int) : Builtin.min2 (.int k x) (.int k' y) = pure (.int k (imin x y)) := kD k k' x y
attribute [local go_sem] jd3 kM
abbrev Fr := Nat × Value × List UInt8
def frs (xs : List Fr) : List (List UInt8) := xs.map fun x => x.2.2
def xB (xs : List Fr) : Nat := (xs.getLast?.map fun x => x.1).getD 0
theorem JP (xs : List Fr) (x : Fr) : frs (xs ++ [x]) = frs xs ++ [x.2.2] := by simp [frs]
theorem zW (xs : List Fr) (x : Fr) : xB (xs ++ [x]) = x.1 := by simp [xB]
theorem je1 (xs : List Fr) : xs.length ≤ endB (frs xs) := by
 induction xs with
 | nil => simp
 | cons x xs ih =>
  rw [show frs (x :: xs) = x.2.2 :: frs xs from rfl, qR, List.length_cons]
  omega
def encF (x : Fr) : Array Value := #[.int .i64 (x.1 : Int), x.2.1]
def KpF (n0 B : Nat) (W W' : World) : Prop := Below n0 W W' ∧ W'.heap[B]? = W.heap[B]?
def GF (n0 : Nat) (x : Fr) (W : World) : Prop := OB W n0 x.2.1 x.2.2
theorem jc_ (x0 x1 x2 : UInt8) : bits .or .i64 (bits .or .i64 ((x0.toNat : Int) * 65536) ((x1.toNat : Int) * 256)) (x2.toNat : Int) = (x0.toNat : Int) * 65536 + (x1.toNat : Int) * 256 + (x2.toNat : Int) := by
 have b0 := x0.toNat_lt
 have b1 := x1.toNat_lt
 have b2 := x2.toNat_lt
 have hw : ∀ n : Int, 0 ≤ n → n < 2 ^ 24 → IntKind.i64.wrap n = n := fun n h1 h2 => by rw [iR]; unfold Go.RowKit.wrap64; omega
 have h1 : bits .or .i64 ((x0.toNat : Int) * 65536) ((x1.toNat : Int) * 256) = (x0.toNat : Int) * 65536 + (x1.toNat : Int) * 256 := bits_join .i64 24 (by decide) hw 16 _ _ (by omega) (by omega) (by omega) (by omega) (by omega) (by omega)
 rw [h1]
 exact bits_join .i64 24 (by decide) hw 8 _ _ (by omega) (by omega) (by omega) (by omega) (by omega) (by omega)
def RSl (l : List UInt8) : Value → World → Prop := fun v w => ∃ A c, v = .slice A l.length c ∧ l.length ≤ c ∧ kb.C w A l.length l
theorem jf5 (l : List UInt8) : Rm (RSl l) := fun _ _ _ ⟨A, c, h1, h2, h3⟩ hb => ⟨A, c, h1, h2, Kd.C_below h3 hb⟩
theorem jc5 (A : Option Addr) (n c hi : Nat) (hiI : Int) (e1 : hiI = hi) (h1 : hi ≤ n) (hc : n ≤ c) :
  ∀ W : World, (Instr.slice 33 (.slice A n c) none (some (.int .i64 hiI)) (some (.int .i64 hiI))).run Tryd.prog W = .ok (.slice A hi hi) W := by
 subst e1
 intro W
 obtain ⟨i, hi0, hsz⟩ := Option.map_eq_some_iff.1 rG
 have hel : Tryd.prog.elem 33 = 5 := by simp [Program.elem, Tryd.underlying33]
 have hu : Tryd.prog.underlying 33 = some (.slice (Tryd.prog.elem 33)) := by rw [hel]; exact Tryd.underlying33
 rw [run_slice_hm W 33 A n c hu .i64 .i64 (hi : Int) (hi : Int) (Int.natCast_nonneg _) (Int.le_refl _) (by omega), hel]
 simp [sizeOf, typeInfo, hi0, hsz, sliced, Result.andThen]
 intro _
 cases A with
 | none => rfl
 | some a => simp [Addr.add]
theorem QT (b : List UInt8) (h7 : 7 ≤ b.length) (h1 : num3 b ≤ 60000) (h2 : num3 b ≤ b.length - 7) :
  lV b = if (pI (b.take (3 + num3 b)) == (b.take (3 + num3 b + 4)).drop (3 + num3 b)) = true then some ((b.take (3 + num3 b)).drop 3) else none := by
 unfold lV
 rw [if_neg (by omega), if_neg (by omega)]
 have e1 : (b.take (3 + num3 b + 4)).drop (3 + num3 b) = (b.drop (3 + num3 b)).take 4 := by rw [List.drop_take]; congr 1; omega
 have e2 : (b.take (3 + num3 b)).drop 3 = (b.drop 3).take (num3 b) := by rw [List.drop_take]; congr 1; omega
 rw [e1, e2]
 simp only [beq_iff_eq]
set_option maxRecDepth 20000 in
set_option maxHeartbeats 2000000 in
theorem QV (n B e : Nat) (fz : Nat × Nat) (A : Option Addr) (c : Nat) (l : List UInt8) (wS w0 : World) (hr : kb.C wS A l.length l) (hc : l.length ≤ c) (hs : (l.length : Int) ≤ 1000000) (hwS : Below wS.heap.size wS w0)
  (hB : w0.heap[B]? = some (.cells #[.slice A l.length c] e fz)) :
  YZ Fence.wide n Tryd.prog 131 #[.pointer (some ⟨B, 0, none⟩)] encF (KpF wS.heap.size B) (GF w0.heap.size) (fun xs => frs xs = lK l ∧ xB xs = endB (lK l)) (l.length + 1) w0 := by
 intro lp J W hW hJb hY h0
 have HL := iC.mk hr
 clear hr
 have hBW := iO hW hB
 refine callsIn_of_wp Tryd.func131 rfl trivial ?_ rfl
 simp only [Tryd.ntmps131, List.size_toArray, List.length_cons, List.length_nil, Nat.reduceAdd, Nat.reduceSub, Array.replicate_succ, Array.replicate_zero, List.push_toArray, List.append_toArray, List.nil_append, List.cons_append]
 gi_wp2
 gi_loopw [3] (fun p wr => ∃ (k : Nat) (xs : List Fr), p = .int .i64 (k : Int) ∧ k ≤ l.length ∧ iC (lK l = frs xs ++ lK (l.drop k)) ∧ iC (endB (frs xs) = k) ∧ iC (xB xs = k) ∧ iC (J xs wr) ∧ iC (Below wS.heap.size wS wr) ∧ w0.heap.size ≤ wr.heap.size ∧ wr.heap[B]? = some (.cells #[.slice A l.length c] e fz)) (fun p _ => l.length - (intOf p).toNat)
 case atStart => exact ⟨0, [], rfl, Nat.zero_le _, ⟨rfl⟩, ⟨rfl⟩, ⟨rfl⟩, ⟨h0⟩, ⟨hwS.trans (hW.mono hwS.size)⟩, hW.size, hBW⟩
 case round =>
  obtain ⟨k, xs, rfl, hk, HS, HE, HK, HJ, HB, hszr, hBr⟩ := hrel
  have hcell : wr.cell? ⟨B, 0, none⟩ = some (.slice A l.length c) := by simp [World.cell?, hBr]
  have hk1 : (k : Int) ≤ (l.length : Int) := by omega
  obtain ⟨A', hrun, hC⟩ := je3 (Kd.C_below HL.out HB.out) hc k (k : Int) rfl hk
  obtain ⟨l', hl'⟩ : ∃ z, z = l.drop k := ⟨_, rfl⟩
  have hll : l'.length = l.length - k := by rw [hl', List.length_drop]
  have hlI : (l'.length : Int) = (l.length : Int) - (k : Int) := by omega
  rw [← hl'] at hC
  rw [← hll] at hrun hC
  have HLI := iC.mk hlI
  have HLL := iC.mk hll
  have HL' := iC.mk hl'
  clear hl' hll hlI
  rw [← HL'.out] at HS
  have hcc : l'.length ≤ c - k := by have := HLL.out; omega
  by_cases h7 : (7 : Int) ≤ (l.length : Int) - (k : Int)
  ·have h7' : (7 : Int) ≤ (l'.length : Int) := by have := HLI.out; omega
   obtain ⟨ad, hA, hx0⟩ := C_at hC 0 (by omega)
   obtain ⟨ad', hA', hx1⟩ := C_at hC 1 (by omega)
   obtain ⟨ad'', hA'', hx2⟩ := C_at hC 2 (by omega)
   subst hA
   obtain rfl : ad = ad' := by injection hA'
   obtain rfl : ad = ad'' := by injection hA''
   clear hA' hA''
   obtain ⟨x0, e0⟩ : ∃ x, x = l'.getD 0 0 := ⟨_, rfl⟩
   obtain ⟨x1, e1⟩ : ∃ x, x = l'.getD 1 0 := ⟨_, rfl⟩
   obtain ⟨x2, e2⟩ : ∃ x, x = l'.getD 2 0 := ⟨_, rfl⟩
   rw [← e0] at hx0
   rw [← e1] at hx1
   rw [← e2] at hx2
   have HN := iC.mk (X3 l' x0 x1 x2 e0 e1 e2)
   have HSH := iC.mk (jc_ x0 x1 x2)
   have b0 := x0.toNat_lt
   have b1 := x1.toNat_lt
   have b2 := x2.toNat_lt
   clear e0 e1 e2
   have HC := iC.mk hC
   clear hC
   have hm' : (l'.length : Int) ≤ 1000000 := by have := HLI.out; omega
   have hne : ¬ (l' = []) := fun h => by subst h; simp at h7'
   have hi0 : (0 : Int) < (l'.length : Int) := by omega
   have hi1 : (1 : Int) < (l'.length : Int) := by omega
   have hi2 : (2 : Int) < (l'.length : Int) := by omega
   have hs0 : (x0.toNat : Int) * 65536 ≤ 16711680 := by omega
   have hs1 : (x1.toNat : Int) * 256 ≤ 65280 := by omega
   gi_wp2
   refine wpIn_wide.2 ?_
   refine vW [15, 16, 17, 18, 19, 20, 21, 22, 23, 24, 25, 26, 27, 28, 29, 30, 5] [fun v _ => v = (.slice (some ad) l'.length (c - k)), fun v _ => v = (.pointer (some (ad.add 0))), fun v _ => v = (.int .u8 (x0.toNat : Int)), fun v _ => v = (.int .i64 (x0.toNat : Int)), fun v _ => v = (.int .i64 ((x0.toNat : Int) * 65536)), fun v _ => v = (.slice (some ad) l'.length (c - k)), fun v _ => v = (.pointer (some (ad.add 1))), fun v _ => v = (.int .u8 (x1.toNat : Int)), fun v _ => v = (.int .i64 (x1.toNat : Int)), fun v _ => v = (.int .i64 ((x1.toNat : Int) * 256)), fun v _ => v = (.int .i64 (bits .or .i64 ((x0.toNat : Int) * 65536) ((x1.toNat : Int) * 256))), fun v _ => v = (.slice (some ad) l'.length (c - k)), fun v _ => v = (.pointer (some (ad.add 2))), fun v _ => v = (.int .u8 (x2.toNat : Int)), fun v _ => v = (.int .i64 (x2.toNat : Int)), fun v _ => v = (.int .i64 (bits .or .i64 (bits .or .i64 ((x0.toNat : Int) * 65536) ((x1.toNat : Int) * 256)) (x2.toNat : Int))), fun v _ => v = (.int .i64 (bits .or .i64 (bits .or .i64 ((x0.toNat : Int) * 65536) ((x1.toNat : Int) * 256)) (x2.toNat : Int)))] [0, 1, 2, 3, 4, 5, 6, 7, 8, 9, 10, 11, 12, 13, 14, 15, 16] (true, [([], []), ([0], [0]), ([1], [1]), ([2], [2]), ([3], [3]), ([], []), ([5], [5]), ([6], [6]), ([7], [7]), ([8], [8]), ([4, 9], [4, 9]), ([], []), ([11], [11]), ([12], [12]), ([13], [13]), ([10, 14], [10, 14]), ([15, 0, 1, 2, 3, 4, 5, 6, 7, 8, 9, 10, 11, 12, 13, 14, 15], [15])]) [0, 1, 3, 7, 15, 0, 32, 96, 224, 480, 1023, 0, 2048, 6144, 14336, 32767, 65535] (by kernel_rfl) (by kernel_rfl) (by kernel_rfl) (by kernel_rfl) (by kernel_rfl) (by kernel_rfl) (by kernel_rfl) (by rfl) (by kernel_rfl) ?_ ?_ ?_
   ·exact (jA (jW _) (jA (jW _) (jA (jW _) (jA (jW _) (jA (jW _) (jA (jW _) (jA (jW _) (jA (jW _) (jA (jW _) (jA (jW _) (jA (jW _) (jA (jW _) (jA (jW _) (jA (jW _) (jA (jW _) (jA (jW _) (jA (jW _) xG)))))))))))))))))
   ·refine iP ?_ ?_
    ·intro a w' vs hB hel hd
     have e4 : a.tmps[4]? = some (.slice (some ad) l'.length (c - k)) := (hel 4 (by kernel_rfl)).trans (by rfl)
     refine ⟨_, rfl, rfl, fun K hK => ?_⟩
     refine jH (w1 := w') (v := .slice (some ad) l'.length (c - k)) (by rfl) rfl ?_ (hK _ _ (by exact rfl) (Below.refl _ _))
     ·go_simp
      (try simp only [iR, jC])
      (try rfl)
      (try (unfold Go.RowKit.wrap64; omega))
    refine iP ?_ ?_
    ·intro a w' vs hB hel hd
     obtain ⟨f15, r15⟩ := hd 0 (by kernel_rfl)
     have e15 : a.tmps[15]? = some (.slice (some ad) l'.length (c - k)) := f15.trans (congrArg some (r15 : vs 0 = (.slice (some ad) l'.length (c - k))))
     refine ⟨_, rfl, rfl, fun K hK => ?_⟩
     refine jH (w1 := w') (v := .pointer (some (ad.add 0))) (by rfl) rfl ?_ (hK _ _ (by exact rfl) (Below.refl _ _))
     ·go_simp
      (try simp only [iR, jC])
      (try rfl)
      (try (unfold Go.RowKit.wrap64; omega))
    refine iP ?_ ?_
    ·intro a w' vs hB hel hd
     obtain ⟨f16, r16⟩ := hd 1 (by kernel_rfl)
     have e16 : a.tmps[16]? = some (.pointer (some (ad.add 0))) := f16.trans (congrArg some (r16 : vs 1 = (.pointer (some (ad.add 0)))))
     have hy0 := MF hB hx0
     rw [TP] at hy0
     refine ⟨_, rfl, rfl, fun K hK => ?_⟩
     refine jH (w1 := w') (v := .int .u8 (x0.toNat : Int)) (by rfl) rfl ?_ (hK _ _ (by exact rfl) (Below.refl _ _))
     ·go_simp
      (try simp only [iR, jC])
      (try rfl)
      (try (unfold Go.RowKit.wrap64; omega))
    refine iP ?_ ?_
    ·intro a w' vs hB hel hd
     obtain ⟨f17, r17⟩ := hd 2 (by kernel_rfl)
     have e17 : a.tmps[17]? = some (.int .u8 (x0.toNat : Int)) := f17.trans (congrArg some (r17 : vs 2 = (.int .u8 (x0.toNat : Int))))
     refine ⟨_, rfl, rfl, fun K hK => ?_⟩
     refine jH (w1 := w') (v := .int .i64 (x0.toNat : Int)) (by rfl) rfl ?_ (hK _ _ (by exact rfl) (Below.refl _ _))
     ·go_simp
      (try simp only [iR, jC])
      (try rfl)
      (try (unfold Go.RowKit.wrap64; omega))
    refine iP ?_ ?_
    ·intro a w' vs hB hel hd
     obtain ⟨f18, r18⟩ := hd 3 (by kernel_rfl)
     have e18 : a.tmps[18]? = some (.int .i64 (x0.toNat : Int)) := f18.trans (congrArg some (r18 : vs 3 = (.int .i64 (x0.toNat : Int))))
     refine ⟨_, rfl, rfl, fun K hK => ?_⟩
     refine jH (w1 := w') (v := .int .i64 ((x0.toNat : Int) * 65536)) (by rfl) rfl ?_ (hK _ _ (by exact rfl) (Below.refl _ _))
     ·go_simp
      (try simp only [iR, jC])
      (try rfl)
      (try (unfold Go.RowKit.wrap64; omega))
    refine iP ?_ ?_
    ·intro a w' vs hB hel hd
     have e4 : a.tmps[4]? = some (.slice (some ad) l'.length (c - k)) := (hel 4 (by kernel_rfl)).trans (by rfl)
     refine ⟨_, rfl, rfl, fun K hK => ?_⟩
     refine jH (w1 := w') (v := .slice (some ad) l'.length (c - k)) (by rfl) rfl ?_ (hK _ _ (by exact rfl) (Below.refl _ _))
     ·go_simp
      (try simp only [iR, jC])
      (try rfl)
      (try (unfold Go.RowKit.wrap64; omega))
    refine iP ?_ ?_
    ·intro a w' vs hB hel hd
     obtain ⟨f20, r20⟩ := hd 5 (by kernel_rfl)
     have e20 : a.tmps[20]? = some (.slice (some ad) l'.length (c - k)) := f20.trans (congrArg some (r20 : vs 5 = (.slice (some ad) l'.length (c - k))))
     refine ⟨_, rfl, rfl, fun K hK => ?_⟩
     refine jH (w1 := w') (v := .pointer (some (ad.add 1))) (by rfl) rfl ?_ (hK _ _ (by exact rfl) (Below.refl _ _))
     ·go_simp
      (try simp only [iR, jC])
      (try rfl)
      (try (unfold Go.RowKit.wrap64; omega))
    refine iP ?_ ?_
    ·intro a w' vs hB hel hd
     obtain ⟨f21, r21⟩ := hd 6 (by kernel_rfl)
     have e21 : a.tmps[21]? = some (.pointer (some (ad.add 1))) := f21.trans (congrArg some (r21 : vs 6 = (.pointer (some (ad.add 1)))))
     have hy0 := MF hB hx1
     rw [PT _ _ (by omega)] at hy0
     refine ⟨_, rfl, rfl, fun K hK => ?_⟩
     refine jH (w1 := w') (v := .int .u8 (x1.toNat : Int)) (by rfl) rfl ?_ (hK _ _ (by exact rfl) (Below.refl _ _))
     ·go_simp
      (try simp only [iR, jC])
      (try rfl)
      (try (unfold Go.RowKit.wrap64; omega))
    refine iP ?_ ?_
    ·intro a w' vs hB hel hd
     obtain ⟨f22, r22⟩ := hd 7 (by kernel_rfl)
     have e22 : a.tmps[22]? = some (.int .u8 (x1.toNat : Int)) := f22.trans (congrArg some (r22 : vs 7 = (.int .u8 (x1.toNat : Int))))
     refine ⟨_, rfl, rfl, fun K hK => ?_⟩
     refine jH (w1 := w') (v := .int .i64 (x1.toNat : Int)) (by rfl) rfl ?_ (hK _ _ (by exact rfl) (Below.refl _ _))
     ·go_simp
      (try simp only [iR, jC])
      (try rfl)
      (try (unfold Go.RowKit.wrap64; omega))
    refine iP ?_ ?_
    ·intro a w' vs hB hel hd
     obtain ⟨f23, r23⟩ := hd 8 (by kernel_rfl)
     have e23 : a.tmps[23]? = some (.int .i64 (x1.toNat : Int)) := f23.trans (congrArg some (r23 : vs 8 = (.int .i64 (x1.toNat : Int))))
     refine ⟨_, rfl, rfl, fun K hK => ?_⟩
     refine jH (w1 := w') (v := .int .i64 ((x1.toNat : Int) * 256)) (by rfl) rfl ?_ (hK _ _ (by exact rfl) (Below.refl _ _))
     ·go_simp
      (try simp only [iR, jC])
      (try rfl)
      (try (unfold Go.RowKit.wrap64; omega))
    refine iP ?_ ?_
    ·intro a w' vs hB hel hd
     obtain ⟨f19, r19⟩ := hd 4 (by kernel_rfl)
     have e19 : a.tmps[19]? = some (.int .i64 ((x0.toNat : Int) * 65536)) := f19.trans (congrArg some (r19 : vs 4 = (.int .i64 ((x0.toNat : Int) * 65536))))
     obtain ⟨f24, r24⟩ := hd 9 (by kernel_rfl)
     have e24 : a.tmps[24]? = some (.int .i64 ((x1.toNat : Int) * 256)) := f24.trans (congrArg some (r24 : vs 9 = (.int .i64 ((x1.toNat : Int) * 256))))
     refine ⟨_, rfl, rfl, fun K hK => ?_⟩
     refine jH (w1 := w') (v := .int .i64 (bits .or .i64 ((x0.toNat : Int) * 65536) ((x1.toNat : Int) * 256))) (by rfl) rfl ?_ (hK _ _ (by exact rfl) (Below.refl _ _))
     ·go_simp
      (try simp only [iR, jC])
      (try rfl)
      (try (unfold Go.RowKit.wrap64; omega))
    refine iP ?_ ?_
    ·intro a w' vs hB hel hd
     have e4 : a.tmps[4]? = some (.slice (some ad) l'.length (c - k)) := (hel 4 (by kernel_rfl)).trans (by rfl)
     refine ⟨_, rfl, rfl, fun K hK => ?_⟩
     refine jH (w1 := w') (v := .slice (some ad) l'.length (c - k)) (by rfl) rfl ?_ (hK _ _ (by exact rfl) (Below.refl _ _))
     ·go_simp
      (try simp only [iR, jC])
      (try rfl)
      (try (unfold Go.RowKit.wrap64; omega))
    refine iP ?_ ?_
    ·intro a w' vs hB hel hd
     obtain ⟨f26, r26⟩ := hd 11 (by kernel_rfl)
     have e26 : a.tmps[26]? = some (.slice (some ad) l'.length (c - k)) := f26.trans (congrArg some (r26 : vs 11 = (.slice (some ad) l'.length (c - k))))
     refine ⟨_, rfl, rfl, fun K hK => ?_⟩
     refine jH (w1 := w') (v := .pointer (some (ad.add 2))) (by rfl) rfl ?_ (hK _ _ (by exact rfl) (Below.refl _ _))
     ·go_simp
      (try simp only [iR, jC])
      (try rfl)
      (try (unfold Go.RowKit.wrap64; omega))
    refine iP ?_ ?_
    ·intro a w' vs hB hel hd
     obtain ⟨f27, r27⟩ := hd 12 (by kernel_rfl)
     have e27 : a.tmps[27]? = some (.pointer (some (ad.add 2))) := f27.trans (congrArg some (r27 : vs 12 = (.pointer (some (ad.add 2)))))
     have hy0 := MF hB hx2
     rw [PT _ _ (by omega)] at hy0
     refine ⟨_, rfl, rfl, fun K hK => ?_⟩
     refine jH (w1 := w') (v := .int .u8 (x2.toNat : Int)) (by rfl) rfl ?_ (hK _ _ (by exact rfl) (Below.refl _ _))
     ·go_simp
      (try simp only [iR, jC])
      (try rfl)
      (try (unfold Go.RowKit.wrap64; omega))
    refine iP ?_ ?_
    ·intro a w' vs hB hel hd
     obtain ⟨f28, r28⟩ := hd 13 (by kernel_rfl)
     have e28 : a.tmps[28]? = some (.int .u8 (x2.toNat : Int)) := f28.trans (congrArg some (r28 : vs 13 = (.int .u8 (x2.toNat : Int))))
     refine ⟨_, rfl, rfl, fun K hK => ?_⟩
     refine jH (w1 := w') (v := .int .i64 (x2.toNat : Int)) (by rfl) rfl ?_ (hK _ _ (by exact rfl) (Below.refl _ _))
     ·go_simp
      (try simp only [iR, jC])
      (try rfl)
      (try (unfold Go.RowKit.wrap64; omega))
    refine iP ?_ ?_
    ·intro a w' vs hB hel hd
     obtain ⟨f25, r25⟩ := hd 10 (by kernel_rfl)
     have e25 : a.tmps[25]? = some (.int .i64 (bits .or .i64 ((x0.toNat : Int) * 65536) ((x1.toNat : Int) * 256))) := f25.trans (congrArg some (r25 : vs 10 = (.int .i64 (bits .or .i64 ((x0.toNat : Int) * 65536) ((x1.toNat : Int) * 256)))))
     obtain ⟨f29, r29⟩ := hd 14 (by kernel_rfl)
     have e29 : a.tmps[29]? = some (.int .i64 (x2.toNat : Int)) := f29.trans (congrArg some (r29 : vs 14 = (.int .i64 (x2.toNat : Int))))
     refine ⟨_, rfl, rfl, fun K hK => ?_⟩
     refine jH (w1 := w') (v := .int .i64 (bits .or .i64 (bits .or .i64 ((x0.toNat : Int) * 65536) ((x1.toNat : Int) * 256)) (x2.toNat : Int))) (by rfl) rfl ?_ (hK _ _ (by exact rfl) (Below.refl _ _))
     ·go_simp
      (try simp only [iR, jC])
      (try rfl)
      (try (unfold Go.RowKit.wrap64; omega))
    refine iP ?_ ?_
    ·intro a w' vs hB hel hd
     obtain ⟨f30, r30⟩ := hd 15 (by kernel_rfl)
     have e30 : a.tmps[30]? = some (.int .i64 (bits .or .i64 (bits .or .i64 ((x0.toNat : Int) * 65536) ((x1.toNat : Int) * 256)) (x2.toNat : Int))) := f30.trans (congrArg some (r30 : vs 15 = (.int .i64 (bits .or .i64 (bits .or .i64 ((x0.toNat : Int) * 65536) ((x1.toNat : Int) * 256)) (x2.toNat : Int)))))
     refine ⟨_, rfl, rfl, fun K hK => ?_⟩
     refine jH (w1 := w') (v := .int .i64 (bits .or .i64 (bits .or .i64 ((x0.toNat : Int) * 65536) ((x1.toNat : Int) * 256)) (x2.toNat : Int))) (by rfl) rfl ?_ (hK _ _ (by exact rfl) (Below.refl _ _))
     ·go_simp
      (try simp only [iR, jC])
      (try rfl)
      (try (unfold Go.RowKit.wrap64; omega))
    exact oG
   ·intro vs w' hB hR
    have hv0_ : vs 0 = (.slice (some ad) l'.length (c - k)) := hR 0 (by kernel_rfl)
    have hv1_ : vs 1 = (.pointer (some (ad.add 0))) := hR 1 (by kernel_rfl)
    have hv2_ : vs 2 = (.int .u8 (x0.toNat : Int)) := hR 2 (by kernel_rfl)
    have hv3_ : vs 3 = (.int .i64 (x0.toNat : Int)) := hR 3 (by kernel_rfl)
    have hv4_ : vs 4 = (.int .i64 ((x0.toNat : Int) * 65536)) := hR 4 (by kernel_rfl)
    have hv5_ : vs 5 = (.slice (some ad) l'.length (c - k)) := hR 5 (by kernel_rfl)
    have hv6_ : vs 6 = (.pointer (some (ad.add 1))) := hR 6 (by kernel_rfl)
    have hv7_ : vs 7 = (.int .u8 (x1.toNat : Int)) := hR 7 (by kernel_rfl)
    have hv8_ : vs 8 = (.int .i64 (x1.toNat : Int)) := hR 8 (by kernel_rfl)
    have hv9_ : vs 9 = (.int .i64 ((x1.toNat : Int) * 256)) := hR 9 (by kernel_rfl)
    have hv10_ : vs 10 = (.int .i64 (bits .or .i64 ((x0.toNat : Int) * 65536) ((x1.toNat : Int) * 256))) := hR 10 (by kernel_rfl)
    have hv11_ : vs 11 = (.slice (some ad) l'.length (c - k)) := hR 11 (by kernel_rfl)
    have hv12_ : vs 12 = (.pointer (some (ad.add 2))) := hR 12 (by kernel_rfl)
    have hv13_ : vs 13 = (.int .u8 (x2.toNat : Int)) := hR 13 (by kernel_rfl)
    have hv14_ : vs 14 = (.int .i64 (x2.toNat : Int)) := hR 14 (by kernel_rfl)
    have hv15_ : vs 15 = (.int .i64 (bits .or .i64 (bits .or .i64 ((x0.toNat : Int) * 65536) ((x1.toNat : Int) * 256)) (x2.toNat : Int))) := hR 15 (by kernel_rfl)
    have hv16_ : vs 16 = (.int .i64 (bits .or .i64 (bits .or .i64 ((x0.toNat : Int) * 65536) ((x1.toNat : Int) * 256)) (x2.toNat : Int))) := hR 16 (by kernel_rfl)
    rw [show entries [15, 16, 17, 18, 19, 20, 21, 22, 23, 24, 25, 26, 27, 28, 29, 30, 5] vs = [(0, 15, vs 0), (1, 16, vs 1), (2, 17, vs 2), (3, 18, vs 3), (4, 19, vs 4), (5, 20, vs 5), (6, 21, vs 6), (7, 22, vs 7), (8, 23, vs 8), (9, 24, vs 9), (10, 25, vs 10), (11, 26, vs 11), (12, 27, vs 12), (13, 28, vs 13), (14, 29, vs 14), (15, 30, vs 15), (16, 5, vs 16)] from rfl]
    simp only [jX, if_true, Act.put, List.setIfInBounds_toArray, List.set_cons_zero, List.set_cons_succ, hv0_, hv1_, hv2_, hv3_, hv4_, hv5_, hv6_, hv7_, hv8_, hv9_, hv10_, hv11_, hv12_, hv13_, hv14_, hv15_, hv16_]
    clear hR hv0_ hv1_ hv2_ hv3_ hv4_ hv5_ hv6_ hv7_ hv8_ hv9_ hv10_ hv11_ hv12_ hv13_ hv14_ hv15_ hv16_
    rw [HSH.out, HN.out]
    obtain ⟨n, hne1⟩ : ∃ n, n = num3 l' := ⟨_, rfl⟩
    rw [← hne1]
    have HNE := iC.mk hne1
    clear hne1 HSH
    have hB3 : Below wr.heap.size wr w' := hB
    clear hB
    by_cases h60 : (60000 : Int) < (n : Int)
    ·have HF := iC.mk (show lV l' = none from by unfold lV; rw [if_neg (by omega), if_pos (by rw [← HNE.out]; omega)])
     have hmn : imin 60000 ((l'.length : Int) - 3 - 4) < (n : Int) := U1 (.inl h60)
     gi_wp2
     refine bodyPost_ret (results_none rfl _ _ _) rfl ?_
     exact ⟨⟨_, rfl⟩, xs, ⟨by rw [HS.out, kV HF.out, List.append_nil], by rw [HK.out, HS.out, kV HF.out, List.append_nil, HE.out]⟩, hJb _ _ _ HJ.out hB3⟩
    ·by_cases hln : (l'.length : Int) - 7 < (n : Int)
     ·have HF := iC.mk (show lV l' = none from by unfold lV; rw [if_neg (by omega), if_pos (by rw [← HNE.out]; omega)])
      have hmn : imin 60000 ((l'.length : Int) - 3 - 4) < (n : Int) := U1 (.inr (by omega))
      gi_wp2
      refine bodyPost_ret (results_none rfl _ _ _) rfl ?_
      exact ⟨⟨_, rfl⟩, xs, ⟨by rw [HS.out, kV HF.out, List.append_nil], by rw [HK.out, HS.out, kV HF.out, List.append_nil, HE.out]⟩, hJb _ _ _ HJ.out hB3⟩
     ·have hn1 : (n : Int) ≤ (l'.length : Int) - 7 := by omega
      have hnn : n + 7 ≤ l'.length := by omega
      have hr3 := jc5 (some ad) l'.length (c - k) (3 + n) (3 + (n : Int)) (by omega) (by omega) hcc
      have hC3 := iC.mk (WC HC.out (3 + n) (by omega))
      obtain ⟨A4, hr4, hC4⟩ := YV HC.out hcc (3 + n) (3 + n + 4) (3 + (n : Int)) (3 + (n : Int) + 4) (by omega) (by omega) (by omega) (by omega)
      obtain ⟨l4, hl4⟩ : ∃ z, z = (l'.take (3 + n + 4)).drop (3 + n) := ⟨_, rfl⟩
      have hll4 : l4.length = 3 + n + 4 - (3 + n) := by rw [hl4, List.length_drop, List.length_take]; omega
      rw [← hl4, ← hll4] at hC4
      rw [← hll4] at hr4
      obtain ⟨A1, hr1, hC1⟩ := YV HC.out hcc 3 (3 + n) (3 : Int) (3 + (n : Int)) rfl (by omega) (by omega) (by omega)
      obtain ⟨x, hx⟩ : ∃ z, z = (l'.take (3 + n)).drop 3 := ⟨_, rfl⟩
      have hxl : x.length = 3 + n - 3 := by rw [hx, List.length_drop, List.length_take]; omega
      rw [← hx, ← hxl] at hC1
      rw [← hxl] at hr1
      have HC4 := iC.mk hC4
      have HC1 := iC.mk hC1
      have HL4 := iC.mk hl4
      have HXX := iC.mk hx
      have HXL := iC.mk hxl
      have hx60 : x.length ≤ 140737488355327 := by omega
      have hxc : x.length ≤ c - k - 3 := by omega
      clear hC4 hC1 hl4 hx hll4 hxl
      have hmn : (n : Int) ≤ imin 60000 ((l'.length : Int) - 3 - 4) := ja2 (by omega) (by omega)
      gi_wp2
      refine wpIn_wide.2 ?_
      refine vW [40, 41, 42, 43, 44, 45, 46, 47, 48, 49, 50, 51, 52, 53] [fun v _ => v = (.slice (some ad) l'.length (c - k)), fun v _ => v = (.int .i64 (3 + (n : Int))), fun v _ => v = (.int .i64 (3 + (n : Int))), fun v _ => v = (.slice (some ad) (3 + n) (3 + n)), RLit 1 #[.slice (some ad) (3 + n) (3 + n)] 33, fun v _ => v = (.int .u32 (sumN [l'.take (3 + n)] : Int)), RSl (pI (l'.take (3 + n))), fun v _ => v = (.slice (some ad) l'.length (c - k)), fun v _ => v = (.int .i64 (3 + (n : Int))), fun v _ => v = (.int .i64 (3 + (n : Int))), fun v _ => v = (.int .i64 (3 + (n : Int) + 4)), fun v _ => v = (.slice A4 l4.length (c - k - (3 + n))), fun v _ => v = (.bool (pI (l'.take (3 + n)) == l4)), fun v _ => v = (.bool (!(pI (l'.take (3 + n)) == l4)))] [0, 1, 2, 3, 4, 5, 6, 7, 8, 9, 10, 11, 12, 13] (true, [([], []), ([], []), ([], []), ([0, 1, 2], [0, 1, 2]), ([3], [3]), ([4], [4]), ([5, 5], [5]), ([], []), ([], []), ([], []), ([9], [9]), ([7, 8, 10], [7, 8, 10]), ([6, 11, 6], [6, 11]), ([12], [12])]) [0, 0, 0, 7, 15, 31, 63, 0, 0, 0, 512, 1920, 4095, 8191] (by kernel_rfl) (by kernel_rfl) (by kernel_rfl) (by kernel_rfl) (by kernel_rfl) (by kernel_rfl) (by kernel_rfl) (by rfl) (by kernel_rfl) ?_ ?_ ?_
      ·exact (jA (jW _) (jA (jW _) (jA (jW _) (jA (jW _) (jA (jb9 _ _ _) (jA (jW _) (jA (jf5 _) (jA (jW _) (jA (jW _) (jA (jW _) (jA (jW _) (jA (jW _) (jA (jW _) (jA (jW _) xG))))))))))))))
      ·refine iP ?_ ?_
       ·intro a w' vs hB hel hd
        have e4 : a.tmps[4]? = some (.slice (some ad) l'.length (c - k)) := (hel 4 (by kernel_rfl)).trans (by rfl)
        refine ⟨_, rfl, rfl, fun K hK => ?_⟩
        refine jH (w1 := w') (v := .slice (some ad) l'.length (c - k)) (by rfl) rfl ?_ (hK _ _ (by exact rfl) (Below.refl _ _))
        ·go_simp
         (try simp only [iR, jC])
         (try rfl)
         (try (unfold Go.RowKit.wrap64; omega))
       refine iP ?_ ?_
       ·intro a w' vs hB hel hd
        have e6 : a.tmps[6]? = some (.int .i64 (3 + (n : Int))) := (hel 6 (by kernel_rfl)).trans (by rfl)
        refine ⟨_, rfl, rfl, fun K hK => ?_⟩
        refine jH (w1 := w') (v := .int .i64 (3 + (n : Int))) (by rfl) rfl ?_ (hK _ _ (by exact rfl) (Below.refl _ _))
        ·go_simp
         (try simp only [iR, jC])
         (try rfl)
         (try (unfold Go.RowKit.wrap64; omega))
       refine iP ?_ ?_
       ·intro a w' vs hB hel hd
        have e6 : a.tmps[6]? = some (.int .i64 (3 + (n : Int))) := (hel 6 (by kernel_rfl)).trans (by rfl)
        refine ⟨_, rfl, rfl, fun K hK => ?_⟩
        refine jH (w1 := w') (v := .int .i64 (3 + (n : Int))) (by rfl) rfl ?_ (hK _ _ (by exact rfl) (Below.refl _ _))
        ·go_simp
         (try simp only [iR, jC])
         (try rfl)
         (try (unfold Go.RowKit.wrap64; omega))
       refine iP ?_ ?_
       ·intro a w' vs hB hel hd
        obtain ⟨f40, r40⟩ := hd 0 (by kernel_rfl)
        have e40 : a.tmps[40]? = some (.slice (some ad) l'.length (c - k)) := f40.trans (congrArg some (r40 : vs 0 = (.slice (some ad) l'.length (c - k))))
        obtain ⟨f41, r41⟩ := hd 1 (by kernel_rfl)
        have e41 : a.tmps[41]? = some (.int .i64 (3 + (n : Int))) := f41.trans (congrArg some (r41 : vs 1 = (.int .i64 (3 + (n : Int)))))
        obtain ⟨f42, r42⟩ := hd 2 (by kernel_rfl)
        have e42 : a.tmps[42]? = some (.int .i64 (3 + (n : Int))) := f42.trans (congrArg some (r42 : vs 2 = (.int .i64 (3 + (n : Int)))))
        refine ⟨_, rfl, rfl, fun K hK => ?_⟩
        refine jH (w1 := w') (v := .slice (some ad) (3 + n) (3 + n)) (by rfl) rfl ?_ (hK _ _ (by exact rfl) (Below.refl _ _))
        ·go_simp
         (try simp only [iR, jC])
         (try rfl)
         (try (unfold Go.RowKit.wrap64; omega))
       refine iP ?_ ?_
       ·intro a w' vs hB hel hd
        obtain ⟨f43, r43⟩ := hd 3 (by kernel_rfl)
        have e43 : a.tmps[43]? = some (.slice (some ad) (3 + n) (3 + n)) := f43.trans (congrArg some (r43 : vs 3 = (.slice (some ad) (3 + n) (3 + n))))
        refine ⟨_, rfl, rfl, fun K hK => ?_⟩
        refine jH (w1 := w'.alloc (.cells #[.slice (some ad) (3 + n) (3 + n)] 33)) (v := .slice (some ⟨w'.heap.size, 0, none⟩) 1 1) (by rfl) rfl ?_ (hK _ _ (by exact ⟨w'.heap.size, rfl, jB rfl⟩) (iG (Below.refl _ _) _))
        ·go_simp
         (try rfl)
       refine iP ?_ ?_
       ·intro a w' vs hB hel hd
        obtain ⟨f44, r44⟩ := hd 4 (by kernel_rfl)
        obtain ⟨b4_, hv4_, hb4_⟩ := (r44 : (RLit 1 #[.slice (some ad) (3 + n) (3 + n)] 33) (vs 4) w')
        have e44 : a.tmps[44]? = some (.slice (some ⟨b4_, 0, none⟩) 1 1) := f44.trans (congrArg some hv4_)
        refine ⟨_, rfl, rfl, fun K hK => ?_⟩
        refine qC Tryd.func111 (by kernel_rfl) rfl #[.slice (some ⟨b4_, 0, none⟩) 1 1] (by rfl) rfl rfl (by first | (simp only [List.map_toArray, List.map_cons, List.map_nil, Act.eval, Array.getD_eq_getD_getElem?, Option.getD_some, e44]; done) | (simp only [List.map_toArray, List.map_cons, List.map_nil, Act.eval, Array.getD_eq_getD_getElem?, Option.getD_some, e44]; rfl)) ?_
        refine (UT [l'.take (3 + n)] hb4_ rfl (by simp) (Cs.cons (Kd.C_below hC3.out (by (repeat (first | exact Below.refl _ _ | apply iG | apply jO | apply iF | apply below_bytesWorld | (refine iH ?_ (by first | assumption | omega)) | refine iK ?_ (by assumption))))) (Nat.le_refl _) (Cs.nil _))).mono ?_
        rintro e_ w2_ ⟨rfl, hb2_⟩
        exact ⟨_, rfl, hK _ _ (by exact rfl) hb2_⟩
       refine iP ?_ ?_
       ·intro a w' vs hB hel hd
        obtain ⟨f45, r45⟩ := hd 5 (by kernel_rfl)
        have e45 : a.tmps[45]? = some (.int .u32 (sumN [l'.take (3 + n)] : Int)) := f45.trans (congrArg some (r45 : vs 5 = (.int .u32 (sumN [l'.take (3 + n)] : Int))))
        refine ⟨_, rfl, rfl, fun K hK => ?_⟩
        refine qC Tryd.func110 (by kernel_rfl) rfl #[.int .u32 (sumN [l'.take (3 + n)] : Int), (Value.int IntKind.i64 4)] (by rfl) rfl rfl (by first | (simp only [List.map_toArray, List.map_cons, List.map_nil, Act.eval, Array.getD_eq_getD_getElem?, Option.getD_some, e45]; done) | (simp only [List.map_toArray, List.map_cons, List.map_nil, Act.eval, Array.getD_eq_getD_getElem?, Option.getD_some, e45]; rfl)) ?_
        refine (ZC _ _).mono ?_
        rintro e_ w2_ ⟨v_, rfl, ho_, hb2_⟩
        exact ⟨_, rfl, hK _ _ (OB.reads ho_) hb2_⟩
       refine iP ?_ ?_
       ·intro a w' vs hB hel hd
        have e4 : a.tmps[4]? = some (.slice (some ad) l'.length (c - k)) := (hel 4 (by kernel_rfl)).trans (by rfl)
        refine ⟨_, rfl, rfl, fun K hK => ?_⟩
        refine jH (w1 := w') (v := .slice (some ad) l'.length (c - k)) (by rfl) rfl ?_ (hK _ _ (by exact rfl) (Below.refl _ _))
        ·go_simp
         (try simp only [iR, jC])
         (try rfl)
         (try (unfold Go.RowKit.wrap64; omega))
       refine iP ?_ ?_
       ·intro a w' vs hB hel hd
        have e6 : a.tmps[6]? = some (.int .i64 (3 + (n : Int))) := (hel 6 (by kernel_rfl)).trans (by rfl)
        refine ⟨_, rfl, rfl, fun K hK => ?_⟩
        refine jH (w1 := w') (v := .int .i64 (3 + (n : Int))) (by rfl) rfl ?_ (hK _ _ (by exact rfl) (Below.refl _ _))
        ·go_simp
         (try simp only [iR, jC])
         (try rfl)
         (try (unfold Go.RowKit.wrap64; omega))
       refine iP ?_ ?_
       ·intro a w' vs hB hel hd
        have e6 : a.tmps[6]? = some (.int .i64 (3 + (n : Int))) := (hel 6 (by kernel_rfl)).trans (by rfl)
        refine ⟨_, rfl, rfl, fun K hK => ?_⟩
        refine jH (w1 := w') (v := .int .i64 (3 + (n : Int))) (by rfl) rfl ?_ (hK _ _ (by exact rfl) (Below.refl _ _))
        ·go_simp
         (try simp only [iR, jC])
         (try rfl)
         (try (unfold Go.RowKit.wrap64; omega))
       refine iP ?_ ?_
       ·intro a w' vs hB hel hd
        obtain ⟨f49, r49⟩ := hd 9 (by kernel_rfl)
        have e49 : a.tmps[49]? = some (.int .i64 (3 + (n : Int))) := f49.trans (congrArg some (r49 : vs 9 = (.int .i64 (3 + (n : Int)))))
        refine ⟨_, rfl, rfl, fun K hK => ?_⟩
        refine jH (w1 := w') (v := .int .i64 (3 + (n : Int) + 4)) (by rfl) rfl ?_ (hK _ _ (by exact rfl) (Below.refl _ _))
        ·go_simp
         (try simp only [iR, jC])
         (try rfl)
         (try (unfold Go.RowKit.wrap64; omega))
       refine iP ?_ ?_
       ·intro a w' vs hB hel hd
        obtain ⟨f47, r47⟩ := hd 7 (by kernel_rfl)
        have e47 : a.tmps[47]? = some (.slice (some ad) l'.length (c - k)) := f47.trans (congrArg some (r47 : vs 7 = (.slice (some ad) l'.length (c - k))))
        obtain ⟨f48, r48⟩ := hd 8 (by kernel_rfl)
        have e48 : a.tmps[48]? = some (.int .i64 (3 + (n : Int))) := f48.trans (congrArg some (r48 : vs 8 = (.int .i64 (3 + (n : Int)))))
        obtain ⟨f50, r50⟩ := hd 10 (by kernel_rfl)
        have e50 : a.tmps[50]? = some (.int .i64 (3 + (n : Int) + 4)) := f50.trans (congrArg some (r50 : vs 10 = (.int .i64 (3 + (n : Int) + 4))))
        refine ⟨_, rfl, rfl, fun K hK => ?_⟩
        refine jH (w1 := w') (v := .slice A4 l4.length (c - k - (3 + n))) (by rfl) rfl ?_ (hK _ _ (by exact rfl) (Below.refl _ _))
        ·go_simp
         (try simp only [iR, jC])
         (try rfl)
         (try (unfold Go.RowKit.wrap64; omega))
       refine iP ?_ ?_
       ·intro a w' vs hB hel hd
        obtain ⟨f46, r46⟩ := hd 6 (by kernel_rfl)
        obtain ⟨A6_, c6_, hv6_, hc6_, hC6_⟩ := (r46 : (RSl (pI (l'.take (3 + n)))) (vs 6) w')
        have e46 : a.tmps[46]? = some (.slice A6_ (pI (l'.take (3 + n))).length c6_) := f46.trans (congrArg some hv6_)
        obtain ⟨f51, r51⟩ := hd 11 (by kernel_rfl)
        have e51 : a.tmps[51]? = some (.slice A4 l4.length (c - k - (3 + n))) := f51.trans (congrArg some (r51 : vs 11 = (.slice A4 l4.length (c - k - (3 + n)))))
        refine ⟨_, rfl, rfl, fun K hK => ?_⟩
        refine qC Tryd.func75 (by kernel_rfl) rfl #[.slice A6_ (pI (l'.take (3 + n))).length c6_, .slice A4 l4.length (c - k - (3 + n))] (by rfl) rfl rfl (by first | (simp only [List.map_toArray, List.map_cons, List.map_nil, Act.eval, Array.getD_eq_getD_getElem?, Option.getD_some, e46, e51]; done) | (simp only [List.map_toArray, List.map_cons, List.map_nil, Act.eval, Array.getD_eq_getD_getElem?, Option.getD_some, e46, e51]; rfl)) ?_
        refine (QO A6_ A4 c6_ (c - k - (3 + n)) _ _ _ _ w' hC6_ (Kd.C_below HC4.out (by (repeat (first | exact Below.refl _ _ | apply iG | apply jO | apply iF | apply below_bytesWorld | (refine iH ?_ (by first | assumption | omega)) | refine iK ?_ (by assumption)))))).mono ?_
        rintro e_ w2_ ⟨rfl, rfl⟩
        exact ⟨_, rfl, hK _ _ (by exact rfl) (Below.refl _ _)⟩
       refine iP ?_ ?_
       ·intro a w' vs hB hel hd
        obtain ⟨f52, r52⟩ := hd 12 (by kernel_rfl)
        have e52 : a.tmps[52]? = some (.bool (pI (l'.take (3 + n)) == l4)) := f52.trans (congrArg some (r52 : vs 12 = (.bool (pI (l'.take (3 + n)) == l4))))
        refine ⟨_, rfl, rfl, fun K hK => ?_⟩
        refine jH (w1 := w') (v := .bool (!(pI (l'.take (3 + n)) == l4))) (by rfl) rfl ?_ (hK _ _ (by exact rfl) (Below.refl _ _))
        ·go_simp
         (try simp only [iR, jC])
         (try rfl)
         (try (unfold Go.RowKit.wrap64; omega))
       exact oG
      ·intro vs w' hB hR
       have hv0_ : vs 0 = (.slice (some ad) l'.length (c - k)) := hR 0 (by kernel_rfl)
       have hv1_ : vs 1 = (.int .i64 (3 + (n : Int))) := hR 1 (by kernel_rfl)
       have hv2_ : vs 2 = (.int .i64 (3 + (n : Int))) := hR 2 (by kernel_rfl)
       have hv3_ : vs 3 = (.slice (some ad) (3 + n) (3 + n)) := hR 3 (by kernel_rfl)
       obtain ⟨b4_, hv4_, hb4_⟩ := (hR 4 (by kernel_rfl) : (RLit 1 #[.slice (some ad) (3 + n) (3 + n)] 33) (vs 4) w')
       have hv5_ : vs 5 = (.int .u32 (sumN [l'.take (3 + n)] : Int)) := hR 5 (by kernel_rfl)
       obtain ⟨A6_, c6_, hv6_, hc6_, hC6_⟩ := (hR 6 (by kernel_rfl) : (RSl (pI (l'.take (3 + n)))) (vs 6) w')
       have hv7_ : vs 7 = (.slice (some ad) l'.length (c - k)) := hR 7 (by kernel_rfl)
       have hv8_ : vs 8 = (.int .i64 (3 + (n : Int))) := hR 8 (by kernel_rfl)
       have hv9_ : vs 9 = (.int .i64 (3 + (n : Int))) := hR 9 (by kernel_rfl)
       have hv10_ : vs 10 = (.int .i64 (3 + (n : Int) + 4)) := hR 10 (by kernel_rfl)
       have hv11_ : vs 11 = (.slice A4 l4.length (c - k - (3 + n))) := hR 11 (by kernel_rfl)
       have hv12_ : vs 12 = (.bool (pI (l'.take (3 + n)) == l4)) := hR 12 (by kernel_rfl)
       have hv13_ : vs 13 = (.bool (!(pI (l'.take (3 + n)) == l4))) := hR 13 (by kernel_rfl)
       rw [show entries [40, 41, 42, 43, 44, 45, 46, 47, 48, 49, 50, 51, 52, 53] vs = [(0, 40, vs 0), (1, 41, vs 1), (2, 42, vs 2), (3, 43, vs 3), (4, 44, vs 4), (5, 45, vs 5), (6, 46, vs 6), (7, 47, vs 7), (8, 48, vs 8), (9, 49, vs 9), (10, 50, vs 10), (11, 51, vs 11), (12, 52, vs 12), (13, 53, vs 13)] from rfl]
       simp only [jX, if_true, Act.put, List.setIfInBounds_toArray, List.set_cons_zero, List.set_cons_succ, hv0_, hv1_, hv2_, hv3_, hv4_, hv5_, hv6_, hv7_, hv8_, hv9_, hv10_, hv11_, hv12_, hv13_]
       clear hR hv0_ hv1_ hv2_ hv3_ hv5_ hv7_ hv8_ hv9_ hv10_ hv11_ hv12_ hv13_
       have hB6 : Below wr.heap.size wr w' := by (repeat (first | exact Below.refl _ _ | apply iG | apply jO | apply iF | apply below_bytesWorld | (refine iH ?_ (by first | assumption | omega)) | refine iK ?_ (by assumption)))
       have hfa := QT l' (by omega) (by rw [← HNE.out]; omega) (by rw [← HNE.out]; omega)
       rw [← HNE.out, ← HL4.out, ← HXX.out] at hfa
       obtain ⟨q, hq⟩ : ∃ q, q = (pI (l'.take (3 + n)) == l4) := ⟨_, rfl⟩
       rw [← hq] at hfa ⊢
       have HFA := iC.mk hfa
       clear hfa hq
       cases q with
       | false =>
        have HF := iC.mk (show lV l' = none from HFA.out)
        gi_wp2
        refine bodyPost_ret (results_none rfl _ _ _) rfl ?_
        exact ⟨⟨_, rfl⟩, xs, ⟨by rw [HS.out, kV HF.out, List.append_nil], by rw [HK.out, HS.out, kV HF.out, List.append_nil, HE.out]⟩, hJb _ _ _ HJ.out hB6⟩
       | true =>
        have HF := iC.mk (show lV l' = some x from HFA.out)
        gi_wp2
        refine ⟨trivial, (fun h => by cases h), ?_⟩
        refine (callsIn_wide.2 (IW A1 (c - k - 3) x w' (Kd.C_below HC1.out hB6) hxc hx60)).mono ?_
        rintro e_ w5 ⟨v5, rfl, ho5, hb5⟩
        obtain ⟨A5, c5, rfl, hc5, hC5⟩ := ho5.reads
        clear hC5
        have hB7 : Below wr.heap.size wr w5 := iK hB6 hb5
        have hlow : w0.heap.size ≤ w'.heap.size := Nat.le_trans hszr hB6.size
        have hszt : w0.heap.size ≤ w5.heap.size := Nat.le_trans hszr hB7.size
        have hcast : ((k + (3 + n + 4) : Nat) : Int) = (k : Int) + (3 + (n : Int) + 4) := by omega
        obtain ⟨fn, tmps, assign, body, hy, hR⟩ := hY xs (k + (3 + n + 4), .slice A5 x.length c5, x) w5 (hJb _ _ _ HJ.out hB7) (ho5.lower hlow) (by have := je1 xs; rw [HE.out] at this; omega)
        simp only [encF, hcast] at hy
        clear ho5 hcast
        gi_wp2
        refine ⟨(fun h => by cases h), hR.mono ?_⟩
        rintro e_ W6 ⟨rfl, hJ6, hk6, hk6'⟩
        have HJ6 := iC.mk hJ6
        have hlast : lK l = frs xs ++ x :: lK (l.drop (k + (3 + n + 4))) := by
         have hxl := HXL.out
         rw [HS.out, pG HF.out, HL'.out, List.drop_drop, show x.length + 7 = 3 + n + 4 from by omega]
        have HLAST := iC.mk hlast
        have hBt : W6.heap[B]? = some (.cells #[.slice A l.length c] e fz) := hk6'.trans (iO hB7 hBr)
        have hBW6 := iC.mk ((HB.out.trans (hB7.mono HB.out.size)).trans hk6)
        have hszu : w0.heap.size ≤ W6.heap.size := Nat.le_trans hszt hk6.size
        clear hJ6 hlast hk6 hk6'
        gi_wp2
        go_roundw
        case rel => exact ⟨k + (3 + n + 4), xs ++ [(k + (3 + n + 4), .slice A5 x.length c5, x)], by go_num, by have := HLL.out; omega, ⟨by rw [JP, HLAST.out, List.append_assoc]; rfl⟩, ⟨by rw [JP, uG, HE.out, qR]; show k + (x.length + 7 + 0) = _; have := HXL.out; omega⟩, ⟨zW _ _⟩, HJ6, hBW6, hszu, hBt⟩
        case measure => simp [intOf]; try omega
  ·have h7' : l'.length < 7 := by have := HLI.out; omega
   have hf : lV l' = none := by unfold lV; rw [if_pos h7']
   have HF := iC.mk hf
   clear hf h7'
   gi_wp2
   go_end0
   exact ⟨⟨_, rfl⟩, xs, ⟨by rw [HS.out, kV HF.out, List.append_nil], by rw [HK.out, HS.out, kV HF.out, List.append_nil, HE.out]⟩, HJ.out⟩
end Go.Proofs.YtgfkgppomaapiaaDoor.My
end

section
namespace Go.Proofs.YtgfkgppomaapiaaDoor.My
open Go Go.RowKit Go.Proofs.YtgfkgppomaapiaaDoorW.PrintWords Go.Proofs.YtgfkgppomaapiaaDoorW.PrintMore Go.Proofs.YtgfkgppomaapiaaDoorW.PrintLast
attribute [local go_sem] Oper.semAt_some
theorem Q9 {F : Fence} {n : Nat} {P : Program} {ops : Array Oper} {rest : List Oper} {o : Oper} {a : Act} {Q : Exit → Act → World → Prop} {α : Type} (d : Kd α) {w0 W : World} (base : Nat) (hgd : o.guard = none) (s x : Operand) (t e : TypeId) (z : Value) (bytes : Nat)
  (ho : o.op = .call { callee := .builtin .append, args := #[s, x], argTypes := #[t, t] })
  (ht : P.underlying t = some (.slice e)) (hinfo : (P.info? e).map (fun i => (i.zero, i.size, i.bytes)) = some (some z, d.sz, bytes)) (hz : z.cells.size = d.sz) (hs0 : 0 < d.sz) (hb0 : 0 < bytes)
  (v : Value) (xs : List α) (p : α) (cs : List Value) (ok okp : Nat → Prop) (hs : a.eval s = v) (hx : a.eval x = .slice (some ⟨W.heap.size, 0, none⟩) 1 1) (hp : d.M W base okp p cs) (hokp : ∀ k, okp k → ok k ∧ some k ≠ v.ownBlock) (hfresh : ∀ k, W.heap.size ≤ k → ok k)
  (HO : d.R e W base ok v xs) (HB : Below base w0 W) (hbase : base ≤ W.heap.size) (hl : (xs.length + 1) * bytes ≤ 140737488355328)
  (h : ∀ v1 w1, d.R e w1 base ok v1 (xs ++ [p]) → Below base w0 w1 → W.grownBy w1 v.ownBlock → wpListIn F n P ops Q rest (a.put o.dst v1) w1) :
  wpListIn F n P ops Q (o :: rest) a (W.alloc (.cells cs.toArray e)) := by
 obtain ⟨h0, inner, hown, hr⟩ := HO
 obtain ⟨i0, hi, hzz⟩ := Option.map_eq_some_iff.1 hinfo
 simp only [Prod.mk.injEq] at hzz
 obtain ⟨hz0, hz1, hz2⟩ := hzz
 have hlen : xs.length + 1 ≤ 140737488355328 := Nat.le_trans (Nat.le_mul_of_pos_right _ hb0) hl
 have hys := d.K_len (d.K_of_M hp)
 refine wpListIn_plain hgd fun K hK' => ?_
 obtain ⟨v', w', hrun, hown', hg, _, hat⟩ := run_append_own_at (P := P) (W.alloc (.cells cs.toArray e)) base t o.type e i0 z d.sz bytes ht hi hz0 hz1 hz2 hz hs0 v xs.length inner (hown.alloc _) ⟨W.heap.size, 0, none⟩ 1 1 cs (by rw [hys]; simp)
  (by simpa using World.news_of_block (cs := cs.toArray) (t := e) (fr := (0, 0)) (heap_alloc_new W (.cells cs.toArray e))) (d.K_one (d.K_of_M hp)) (by simp only [maxLen]; omega) hl (by simp; omega)
 unfold Oper.wpIn
 refine ⟨?_, ?_⟩
 ·simp [Oper.about, ho, resolve, Target.leads, Sem.run_pure]
 ·rw [Oper.semAt_plain F _ _ (by rw [ho]; intro c hc'; cases hc')]
  simp [execOp, ho, resolve, invoke, builtin, hs, hx, hrun, Result.andThen]
  have hg' : W.grownBy w' v.ownBlock := World.grownBy.trans (World.grownBy_alloc W _ _) hg
  refine hK' _ _ (h v' w' (Kd.R_appended h0 hr hp hokp hfresh hown' hg' ?_) ((HB.alloc hbase _).grown hg (by simp; omega) (own_base hown)) hg')
  rcases hat with hat | hat
  ·exact .inl hat
  ·exact .inr ⟨_, hat, by simp⟩
theorem JK {α : Type} {d : Kd α} {e : Nat} {w : World} {base l : Nat} {ok : Nat → Prop} {v : Value} {xs : List α} {o : Obj} (h : d.R e w base ok v xs) (hl : w.heap[l]? = some o) (ho : o.isCells = false) (o' : Obj) : d.R e (w.putObj l o') base ok v xs :=
 Kd.R_mono (Kd.R_move (Kd.R_bound h) (fun k hk => by
  obtain ⟨_, _, _, q, hq, cells, hc⟩ := hk
  exact World.putObj_heap_other (fun e => by subst e; rw [hl] at hc; cases hc; cases ho))) (fun _ hk => hk.1)
theorem xW {w : World} {B l : Nat} {t : TypeId} {v : Value} {r : Loop} (h : Boxed w B t v) (hl : w.heap[l]? = some (.loop r)) (o' : Obj) : Boxed (w.putObj l o') B t v :=
 (World.putObj_heap_other (fun e => by subst e; have h2 := (show w.heap[B]? = _ from h).symm.trans hl; cases h2)).trans h
theorem WJ (n : Nat) (s : Value) (w : World) (hs : ∃ A m c, s = .slice A m c) : CallsIn Fence.wide n Tryd.prog 124 #[s] w fun e w' => e = .returned (.func (.func 131) #[] #[.pointer (some ⟨w.heap.size, 0, none⟩)]) ∧ w' = w.alloc (.cells #[s] 33) := by
 obtain ⟨A, m, c, rfl⟩ := hs
 refine callsIn_of_wp Tryd.func124 rfl trivial ?_ rfl
 simp only [Tryd.ntmps124, List.size_toArray, List.length_cons, List.length_nil, Nat.reduceAdd, Nat.reduceSub, Array.replicate_succ, Array.replicate_zero, List.push_toArray, List.append_toArray, List.nil_append, List.cons_append]
 gi_wp2
 go_ret
 exact ⟨rfl, rfl⟩
theorem QC {B b1 b2 t1 t2 : Nat} {W w1 : World} {v x1 x2 : Value} (u1 u2 : Value) (hg : W.grownBy w1 v.ownBlock) (ht : ∀ k, v.ownBlock = some k → ∃ cells e, W.heap[k]? = some (.cells cells e (0, 0))) (h1 : Boxed W b1 t1 x1) (h2 : Boxed W b2 t2 x2) :
  KeepsFrom B W ((w1.setCell ⟨b1, 0, none⟩ u1).setCell ⟨b2, 0, none⟩ u2) := by
 refine ⟨by simp [World.setCell]; exact hg.size, fun k o _ hk ho => ?_⟩
 have n1 : k ≠ b1 := fun e => by subst e; have h3 := hk.symm.trans h1; cases h3; cases ho
 have n2 : k ≠ b2 := fun e => by subst e; have h3 := hk.symm.trans h2; cases h3; cases ho
 rw [Below.heap_setCell _ _ _ _ n2, Below.heap_setCell _ _ _ _ n1, hg.block k (jU hk) (fun e => by
  obtain ⟨cells, q, hc⟩ := ht k e.symm
  have h3 := hk.symm.trans hc
  cases h3; cases ho)]
 exact hk
def IS (w0 : World) (nb B1 B2 : Nat) (pre : List Fr) (W : World) : Prop :=
 (∃ v, Boxed W B1 158 v ∧ OBB W nb v (frs pre)) ∧ Boxed W B2 3 (.int .i64 (xB pre : Int)) ∧ Below w0.heap.size w0 W ∧ nb ≤ W.heap.size
set_option maxRecDepth 20000 in
set_option maxHeartbeats 2000000 in
theorem WE (A : Option Addr) (c : Nat) (l : List UInt8) (w0 : World) (hr : kb.C w0 A l.length l) (hc : l.length ≤ c) (hs : (l.length : Int) ≤ 1000000) :
  Calls Tryd.prog 105 #[.slice A l.length c] w0 fun e w' => ∃ v, e = .returned (.tuple #[v, .int .i64 (endB (lK l) : Nat)]) ∧ OBB w' w0.heap.size v (lK l) ∧ Below w0.heap.size w0 w' := by
 have HL := iC.mk hr
 clear hr
 refine (callsIn_wide (n := 5)).1 ?_
 refine callsIn_of_wp_marks Tryd.func105 rfl trivial ?_ rfl
 simp only [Tryd.ntmps105, List.size_toArray, List.length_cons, List.length_nil, Nat.reduceAdd, Nat.reduceSub, Array.replicate_succ, Array.replicate_zero, List.push_toArray, List.append_toArray, List.nil_append, List.cons_append]
 gi_wp2
 refine ⟨trivial, ?_⟩
 refine (WJ _ _ _ ⟨_, _, _, rfl⟩).mono ?_
 rintro e w1 ⟨rfl, rfl⟩
 obtain ⟨W0, hW0⟩ : ∃ W0, W0 = ((w0.alloc (.cells #[.slice none 0 0] 158)).alloc (.cells #[.int .i64 0] 3)).alloc (.cells #[.slice A l.length c] 33) := ⟨_, rfl⟩
 have hsz : W0.heap.size = w0.heap.size + 3 := by rw [hW0]; simp
 have hB0 : Below w0.heap.size w0 W0 := by rw [hW0]; (repeat (first | exact Below.refl _ _ | apply iG | apply jO | apply iF | apply below_bytesWorld | (refine iH ?_ (by first | assumption | omega)) | refine iK ?_ (by assumption)))
 have hx1 : Boxed W0 w0.heap.size 158 (.slice none 0 0) := by rw [hW0]; exact jM (jM (jB rfl))
 have hx2 : Boxed W0 (w0.heap.size + 1) 3 (.int .i64 0) := by rw [hW0]; exact jM (jB (by simp))
 have hx3 : W0.heap[w0.heap.size + 1 + 1]? = some (.cells #[.slice A l.length c] 33 (0, 0)) := by rw [hW0]; exact jB (by simp)
 gi_wp2
 rw [← hW0]
 clear hW0
 refine ja8 (F := Fence.wide) rfl (by decide) (gf := 131) (lb := #[.pointer (some ⟨w0.heap.size + 1 + 1, 0, none⟩)]) rfl trivial (enters_of Tryd.func131 (by kernel_rfl) rfl)
  (QV (5 - 1) (w0.heap.size + 1 + 1) 33 (0, 0) A c l w0 W0 HL.out hc hs hB0 hx3)
  (fun h k => ⟨h.1.trans k.1, k.2.trans h.2⟩)
  (fun W q r o' hle hl => ⟨belowK_b (w := W0) (by omega) W q _ o' hle hl rfl rfl, World.putObj_heap_other (by omega)⟩)
  (Below.refl _ _) (fun _ => rfl) (IS w0 W0.heap.size w0.heap.size (w0.heap.size + 1))
  (fun s X Y h hb => by
   obtain ⟨⟨v, h1, h2⟩, h3, h4, h5⟩ := h
   exact ⟨⟨v, iO hb h1, h2.below hb⟩, iO hb h3, iK h4 hb, Nat.le_trans h5 hb.size⟩)
  (fun s X q r o' h hle hl => by
   obtain ⟨⟨v, h1, h2⟩, h3, h4, h5⟩ := h
   exact ⟨⟨v, xW h1 hl o', JK h2 hl rfl o'⟩, xW h3 hl o', h4.trans (belowK_b (w := W0) (by omega) X q _ o' hle hl rfl rfl), by simpa [World.putObj] using h5⟩)
  (fun x X q r o' h hle hl => JK h hl rfl o')
  ⟨⟨_, hx1, OBB.nil _ _⟩, hx2, hB0, Nat.le_refl _⟩
  (fun x => { tmps := #[.slice A l.length c, undef, .slice none 0 0, .int .i64 0, .pointer (some ⟨w0.heap.size, 0, none⟩), .pointer (some ⟨w0.heap.size + 1, 0, none⟩), .int .i64 (x.1 : Int), x.2.1, .slice A l.length c, .func (.func 131) #[] #[.pointer (some ⟨w0.heap.size + 1 + 1, 0, none⟩)], .int .i64 (x.1 : Int), x.2.1, undef, undef, undef, undef, undef, undef, undef], defers := [] }) ?assign ?body ?done
 case assign =>
  intro lp x W K hK
  simp only [encF]
  gi_wp2
  exact hK
 case body =>
  rintro lp pre ⟨k, xv, bl⟩ W hlp ⟨⟨v, hv, hO⟩, hv2, hB, hsW⟩ hG hlen
  have hG' : OB W W0.heap.size xv bl := hG
  clear hG
  obtain ⟨Ax, cx, rfl, hcx, hCx⟩ := hG'.reads
  obtain ⟨Av, cv, rfl, hcv, hCv⟩ := hO.reads
  clear hCx hCv
  obtain ⟨inner, hown⟩ := Kd.R_own hO
  have hne1 : some w0.heap.size ≠ (Value.slice Av (frs pre).length cv).ownBlock := fun e => by have := own_base hown _ e.symm; omega
  have hne2 : some (w0.heap.size + 1) ≠ (Value.slice Av (frs pre).length cv).ownBlock := fun e => by have := own_base hown _ e.symm; omega
  have hne3 : some (w0.heap.size + 1 + 1) ≠ (Value.slice Av (frs pre).length cv).ownBlock := fun e => by have := own_base hown _ e.symm; omega
  have htyp : ∀ k, (Value.slice Av (frs pre).length cv).ownBlock = some k → ∃ cells e, W.heap[k]? = some (.cells cells e (0, 0)) := fun k hk => by
   obtain ⟨cells, hc⟩ := mM hown k hk
   exact ⟨cells, _, hc⟩
  have hlow : ∀ k, (Value.slice Av (frs pre).length cv).ownBlock = some k → w0.heap.size ≤ k := fun k hk => by have := own_base hown _ hk; omega
  have hc1 := hv.cell
  have hf1 := hv.frozen
  have hc2 := hv2.cell
  have hf2 := hv2.frozen
  have hlp : (frs pre).length ≤ 1000000 := by simp only [frs, List.length_map]; omega
  have hWW : w0.heap.size ≤ W.heap.size := by omega
  have hB3 : w0.heap.size + 1 + 1 < W.heap.size := by omega
  clear hown hsz
  simp only
  gi_wp2_with (gi_at_builtin; refine Q9 (Kd.slice 5 kb) (w0 := W) W0.heap.size rfl (.tmp 12) (.tmp 14) 158 33 (.slice none 0 0) 24 rfl Tryd.underlying158 ZX rfl (by decide) (by omega) (.slice Av (frs pre).length cv) (frs pre) bl [.slice Ax bl.length cx] (fun _ => True) (fun k => some k ≠ Value.ownBlock (.slice Av (frs pre).length cv)) rfl rfl (WH hO hG') (fun _ h => ⟨trivial, h⟩) (fun _ _ => trivial) hO (Below.refl _ _) hsW (by omega) ?_; intro v1 w1 ho1 hb1 hg1; obtain ⟨A1, c1, rfl, hc1', hC1'⟩ := OBB.reads ho1; clear hC1'; have hv1 := hv.kept hg1 hne1; have hv3 := hv2.kept hg1 hne2; have hc3 := hv1.cell; have hf3 := hv1.frozen; have hc4 := hv3.cell; have hf4 := hv3.frozen)
  have HBW : Below w0.heap.size W w1 := (Below.refl w0.heap.size W).grown hg1 hWW hlow
  refine ⟨QC _ _ hg1 htyp hv hv2, ⟨?_, ?_⟩, ⟨.slice A1 ((frs pre).length + 1) c1, ?_, ?_⟩, ?_, ?_, ?_⟩
  ·exact (HBW.setCell (p := ⟨w0.heap.size, 0, none⟩) (Nat.le_refl _) _).setCell (p := ⟨w0.heap.size + 1, 0, none⟩) (Nat.le_succ _) _
  ·rw [Below.heap_setCell _ _ _ _ (by show _ ≠ w0.heap.size + 1; omega), Below.heap_setCell _ _ _ _ (by show _ ≠ w0.heap.size; omega)]
   exact hg1.block _ hB3 hne3
  ·exact (hv1.set _).other (by omega) _
  ·rw [JP]
   have h1 := Kd.R_set ho1 (show w1.heap[w0.heap.size]? = some (.cells #[_] _ (0, 0)) from hv1) (by decide) 0 (.slice A1 ((frs pre).length + 1) c1)
   have h2 := Kd.R_set h1 (show (w1.setCell ⟨w0.heap.size, 0, none⟩ _).heap[w0.heap.size + 1]? = some (.cells #[_] _ (0, 0)) from hv3.other (by omega) _) (by decide) 0 (.int .i64 (k : Int))
   rw [List.length_append] at h2
   exact h2
  ·rw [zW]
   exact (hv3.other (by omega) _).set _
  ·exact hB.trans ((HBW.setCell (p := ⟨w0.heap.size, 0, none⟩) (Nat.le_refl _) _).setCell (p := ⟨w0.heap.size + 1, 0, none⟩) (Nat.le_succ _) _)
  ·simpa [World.setCell] using Nat.le_trans hsW hg1.size
 case done =>
  rintro D xs W hD ⟨hS1, hS2⟩ ⟨⟨v, hv, hO⟩, hv2, hB, hsW⟩ hK
  obtain ⟨Av, cv, rfl, hcv, hCv⟩ := hO.reads
  clear hCv
  have hc1 := hv.cell
  have hc2 := hv2.cell
  have HB0 := iC.mk hB
  have hlow : w0.heap.size ≤ W0.heap.size := by omega
  have hDl : w0.heap.size ≤ D := by omega
  clear hsz
  gi_wp2
  refine wpIn_wide.2 ?_
  refine vW [17, 18, 2, 3] [fun v _ => v = (.slice Av (frs xs).length cv), fun v _ => v = (.int .i64 (xB xs : Int)), fun v _ => v = (.slice Av (frs xs).length cv), fun v _ => v = (.int .i64 (xB xs : Int))] [0, 1, 2, 3] (true, [([], []), ([], []), ([0, 0], [0]), ([1, 2, 0, 1, 2], [1])]) [0, 0, 1, 7] (by kernel_rfl) (by kernel_rfl) (by kernel_rfl) (by kernel_rfl) (by kernel_rfl) (by kernel_rfl) (by kernel_rfl) (by rfl) (by kernel_rfl) ?_ ?_ ?_
  ·exact (jA (jW _) (jA (jW _) (jA (jW _) (jA (jW _) xG))))
  ·refine iP ?_ ?_
   ·intro a w' vs hB hel hd
    have e4 : a.tmps[4]? = some (.pointer (some ⟨w0.heap.size, 0, none⟩)) := (hel 4 (by kernel_rfl)).trans (by rfl)
    have hy0 := MF hB hc1
    refine ⟨_, rfl, rfl, fun K hK => ?_⟩
    refine jH (w1 := w') (v := .slice Av (frs xs).length cv) (by rfl) rfl ?_ (hK _ _ (by exact rfl) (Below.refl _ _))
    ·go_simp
     (try simp only [iR, jC])
     (try rfl)
     (try (unfold Go.RowKit.wrap64; omega))
   refine iP ?_ ?_
   ·intro a w' vs hB hel hd
    have e5 : a.tmps[5]? = some (.pointer (some ⟨w0.heap.size + 1, 0, none⟩)) := (hel 5 (by kernel_rfl)).trans (by rfl)
    have hy0 := MF hB hc2
    refine ⟨_, rfl, rfl, fun K hK => ?_⟩
    refine jH (w1 := w') (v := .int .i64 (xB xs : Int)) (by rfl) rfl ?_ (hK _ _ (by exact rfl) (Below.refl _ _))
    ·go_simp
     (try simp only [iR, jC])
     (try rfl)
     (try (unfold Go.RowKit.wrap64; omega))
   refine iP ?_ ?_
   ·intro a w' vs hB hel hd
    obtain ⟨f17, r17⟩ := hd 0 (by kernel_rfl)
    have e17 : a.tmps[17]? = some (.slice Av (frs xs).length cv) := f17.trans (congrArg some (r17 : vs 0 = (.slice Av (frs xs).length cv)))
    refine ⟨_, rfl, rfl, fun K hK => ?_⟩
    refine jH (w1 := w') (v := .slice Av (frs xs).length cv) (by rfl) rfl ?_ (hK _ _ (by exact rfl) (Below.refl _ _))
    ·go_simp
     (try simp only [iR, jC])
     (try rfl)
     (try (unfold Go.RowKit.wrap64; omega))
   refine iP ?_ ?_
   ·intro a w' vs hB hel hd
    obtain ⟨f18, r18⟩ := hd 1 (by kernel_rfl)
    have e18 : a.tmps[18]? = some (.int .i64 (xB xs : Int)) := f18.trans (congrArg some (r18 : vs 1 = (.int .i64 (xB xs : Int))))
    refine ⟨_, rfl, rfl, fun K hK => ?_⟩
    refine jH (w1 := w') (v := .int .i64 (xB xs : Int)) (by rfl) rfl ?_ (hK _ _ (by exact rfl) (Below.refl _ _))
    ·go_simp
     (try simp only [iR, jC])
     (try rfl)
     (try (unfold Go.RowKit.wrap64; omega))
   exact oG
  ·intro vs w' hB hR
   have hv0_ : vs 0 = (.slice Av (frs xs).length cv) := hR 0 (by kernel_rfl)
   have hv1_ : vs 1 = (.int .i64 (xB xs : Int)) := hR 1 (by kernel_rfl)
   have hv2_ : vs 2 = (.slice Av (frs xs).length cv) := hR 2 (by kernel_rfl)
   have hv3_ : vs 3 = (.int .i64 (xB xs : Int)) := hR 3 (by kernel_rfl)
   rw [show entries [17, 18, 2, 3] vs = [(0, 17, vs 0), (1, 18, vs 1), (2, 2, vs 2), (3, 3, vs 3)] from rfl]
   simp only [jX, if_true, Act.put, List.setIfInBounds_toArray, List.set_cons_zero, List.set_cons_succ, hv0_, hv1_, hv2_, hv3_]
   clear hR hv0_ hv1_ hv2_ hv3_
   have hB0' := iK HB0.out hB
   have hK2 : w'.heap[D]? = some (.deferred (some [])) := iO hB hK
   gi_wp2
   refine ⟨by simp, .inl ⟨_, _, rfl, run_takeDeferred hK2, ?_⟩⟩
   refine ⟨_, results_tmp2 rfl _ _ _, .slice Av (frs xs).length cv, ?_, ?_, ?_⟩
   ·rw [← hS2]; rfl
   ·rw [← hS1]
    exact JK (OBB.lower (OBB.below hO hB) hlow) hK2 rfl _
   ·exact (hB0'.trans (belowK_b (w := w0) (Nat.le_refl _) w' D _ _ hDl hK2 rfl rfl))
end Go.Proofs.YtgfkgppomaapiaaDoor.My
end

section
namespace Go.Proofs.YtgfkgppomaapiaaDoor.K
open Go.RowKit Go.Proofs.YtgfkgppomaapiaaDoorW.PrintWords Go.Proofs.YtgfkgppomaapiaaDoor.My
structure SMsg where
 f0 : Int
 f1 : Int
 f2 : Int
 f3 : List Int
 f4 : List jP
 f5 : Int
 f6 : Int
 f7 : List jI
end Go.Proofs.YtgfkgppomaapiaaDoor.K
end

section
namespace Go.Proofs.YtgfkgppomaapiaaDoor.K
open RowKit YtgfkgppomaapiaaDoorW.PrintWords YtgfkgppomaapiaaDoorW.PrintLast YtgfkgppomaapiaaDoorW.PrintMore My
theorem xE {w : World} {A : Option Addr} {n : Nat} {l : List UInt8} (h : kb.C w A n l) : (Kd.int .u8).C w A n (nums l) := by
 refine ⟨by rw [mJ]; exact h.1, h.2.1, fun hn => ?_⟩
 obtain ⟨ad, e, hc⟩ := h.2.2 hn
 refine ⟨ad, e, fun j p hj => ?_⟩
 unfold nums at hj
 rw [List.getElem?_map] at hj
 obtain ⟨b, hb, rfl⟩ := Option.map_eq_some_iff.1 hj
 exact hc j b hb
attribute [-go_sem] Instr.build Instr.storeAt
end Go.Proofs.YtgfkgppomaapiaaDoor.K
end

section
namespace Go.Proofs.YtgfkgppomaapiaaDoor.K
open RowKit YtgfkgppomaapiaaDoorW.PrintWords YtgfkgppomaapiaaDoorW.PrintLast YtgfkgppomaapiaaDoorW.PrintMore My
def endK (ls : List (List UInt8)) (k : Nat) : Nat := endB (ls.take k)
theorem VT (ls : List (List UInt8)) (k : Nat) (h : k < ls.length) : endK ls (k + 1) = endK ls k + ((ls.getD k []).length + 7) := by
 unfold endK
 rw [List.take_add_one, uG]
 have : ls[k]?.toList = [ls.getD k []] := by rw [List.getElem?_eq_getElem h]; simp [List.getD_eq_getElem?_getD, List.getElem?_eq_getElem h]
 rw [this]
 simp [endB]
theorem ZV (ls : List (List UInt8)) (k : Nat) : endK ls k ≤ endB ls := by
 unfold endK
 conv => rhs; rw [← List.take_append_drop k ls]
 rw [uG]
 omega
def decK (ls : List (List UInt8)) (k : Nat) : List SRec := (ls.take k).map fun x => (decR x).1
theorem VS (ls : List (List UInt8)) (k : Nat) (h : k < ls.length) : decK ls (k + 1) = decK ls k ++ [(decR (ls.getD k [])).1] := by
 unfold decK
 rw [List.take_add_one, List.map_append]
 have : ls[k]?.toList = [ls.getD k []] := by rw [List.getElem?_eq_getElem h]; simp [List.getD_eq_getElem?_getD, List.getElem?_eq_getElem h]
 rw [this]
 rfl
def okK (ls : List (List UInt8)) (k : Nat) : Prop := okL ls = ls.take k ++ okL (ls.drop k)
theorem Y2 (ls : List (List UInt8)) : okK ls 0 := by unfold okK; simp
theorem LD (ls : List (List UInt8)) (k : Nat) (h : k < ls.length) : ls.drop k = ls.getD k [] :: ls.drop (k + 1) := by
 rw [List.drop_eq_getElem_cons h]
 simp [List.getD_eq_getElem?_getD, List.getElem?_eq_getElem h]
theorem XY {ls : List (List UInt8)} {k : Nat} (h : okK ls k) (hk : k < ls.length) (hd : (decR (ls.getD k [])).2 = 0) : okK ls (k + 1) := by
 unfold okK at h ⊢
 rw [h, LD ls k hk]
 have h1 : okL (ls.getD k [] :: ls.drop (k + 1)) = ls.getD k [] :: okL (ls.drop (k + 1)) := by
  show List.takeWhile _ (_ :: _) = _
  rw [List.takeWhile_cons_of_pos (p := fun x => (decR x).2 == 0) (beq_iff_eq.2 hd)]
  rfl
 rw [h1, List.take_add_one, List.append_assoc]
 have : ls[k]?.toList = [ls.getD k []] := by rw [List.getElem?_eq_getElem hk]; simp [List.getD_eq_getElem?_getD, List.getElem?_eq_getElem hk]
 rw [this]
 rfl
theorem WW {ls : List (List UInt8)} {k : Nat} (h : okK ls k) (hk : k < ls.length) (hd : (decR (ls.getD k [])).2 ≠ 0) : okL ls = ls.take k := by
 unfold okK at h
 rw [h, LD ls k hk]
 have h1 : okL (ls.getD k [] :: ls.drop (k + 1)) = [] := by
  show List.takeWhile _ (_ :: _) = _
  rw [List.takeWhile_cons_of_neg (p := fun x => (decR x).2 == 0) (fun h => hd (beq_iff_eq.1 h))]
 rw [h1, List.append_nil]
theorem j7_ {ls : List (List UInt8)} (h : okK ls ls.length) : okL ls = ls := by
 unfold okK at h
 rw [h, List.take_length, List.drop_length]
 simp [okL]
attribute [-go_sem] Instr.build Instr.storeAt
set_option maxRecDepth 20000 in
set_option maxHeartbeats 8000000 in
theorem O5 (A : Option Addr) (c : Nat) (l : List UInt8) (w0 : World) (hr : kb.C w0 A l.length l) (hc : l.length ≤ c) (hs : (l.length : Int) ≤ 1000000) :
  Calls Tryd.prog 83 #[.slice A l.length c] w0 fun e w' => ∃ v, e = .returned (.tuple #[v, .int .i64 (endB (okL (lK l)) : Nat)]) ∧ RRs w' w0.heap.size v (qM (lK l)) ∧ Below w0.heap.size w0 w' := by
 have hcall := WE A c l w0 hr hc hs
 have hend : endB (lK l) ≤ 1000000 := by have := YQ l; omega
 have hlen : (lK l).length ≤ endB (lK l) := by
  unfold endB
  generalize lK l = q
  induction q with
  | nil => simp
  | cons x q ih => simp only [List.map_cons, List.sum_cons, List.length_cons]; omega
 have HSM := iC.mk (fun x hx => (UB l).elim fun r h => h.2.2 x hx : ∀ x ∈ lK l, x.length ≤ 60000)
 obtain ⟨ls, hls⟩ : ∃ ls, lK l = ls := ⟨_, rfl⟩
 rw [hls] at hcall hend hlen HSM ⊢
 have hlI : (ls.length : Int) ≤ 1000000 := by omega
 have hEI : (endB ls : Int) ≤ 1000000 := by omega
 have HEN := iC.mk hend
 clear hls hr hc hs hend hlen
 go_enter Tryd.func83, Tryd.ntmps83
 go_wp2_with fail
 go_at_call 105
 refine hcall.mono ?_
 rintro e w1 ⟨v, rfl, hO, hb1⟩
 obtain ⟨Aa, ca, rfl, hca, hC⟩ := hO.reads
 have HC := iC.mk hC
 have HB1 := iC.mk hb1
 clear hcall hO hC hb1
 go_wp2
 go_loopw [6, 7, 21] (fun o s i wr => ∃ k : Nat, k ≤ ls.length ∧ i = .int .i64 k ∧ s = .int .i64 (endK ls k : Int) ∧ iC (okK ls k) ∧ iC (RRs wr w1.heap.size o (decK ls k)) ∧ iC (Below w1.heap.size w1 wr)) (fun _ _ i _ => ls.length - (intOf i).toNat)
 case atStart => exact ⟨0, Nat.zero_le _, rfl, rfl, ⟨Y2 _⟩, ⟨Kd.R_nil _ _ _ _ _⟩, ⟨Below.refl _ _⟩⟩
 case round =>
  obtain ⟨k, hk, rfl, rfl, HOK, HR, HB⟩ := hrel
  obtain ⟨Ao, co, rfl⟩ := Kd.R_slice HR.out
  by_cases hlt : k < ls.length
  ·obtain ⟨ad, A3, c3, rfl, hx, hxc, hxC⟩ := X6 (Kd.C_below HC.out HB.out) k hlt
   have hsu := VT ls k hlt
   have hle := ZV ls (k + 1)
   have hmem : ls.getD k [] ∈ ls := by
    rw [List.getD_eq_getElem?_getD, List.getElem?_eq_getElem hlt]
    exact List.getElem_mem hlt
   have h6 := HSM.out _ hmem
   have hdec := decode_any A3 c3 (ls.getD k []) wr (xE hxC) hxc
   have HDK := iC.mk (VS ls k hlt)
   have hn1 := fun h => XY HOK.out hlt h
   have hn2 := fun h => WW HOK.out hlt h
   have HLT := iC.mk hlt
   generalize ls.getD k [] = x at hx hxc hxC hsu h6 hdec HDK hn1 hn2
   have HSU := iC.mk (show (endK ls k : Int) + ((x.length : Int) + 7) = (endK ls (k + 1) : Int) from by omega)
   have hb2 : (endK ls k : Int) + ((x.length : Int) + 7) ≤ 1000000 := by omega
   have hk1 : (k : Int) < (ls.length : Int) := by omega
   obtain ⟨⟨X, E⟩, hD⟩ : ∃ D, decR x = D := ⟨_, rfl⟩
   rw [hD] at hdec HDK hn1 hn2
   have HXC := iC.mk hxC
   have HN1 := iC.mk hn1
   have HN2 := iC.mk hn2
   have hxm := lC hxC
   have hwl := lF x
   clear hsu hle hmem hxC hn1 hn2 hD hlt
   obtain ⟨wo, rfl⟩ : ∃ x : World, x = wr := ⟨_, rfl⟩
   go_wp2_with fail
   go_at_call 22
   refine hdec.mono ?_
   rintro e w2 ⟨v, rfl, hv, hb2'⟩
   obtain ⟨B3, b3, B4, b4, B6, b6, B9, b9, rfl, hO⟩ := LX hv
   dsimp only at hO
   dsimp only
   have hsx := fun (_ : True) => run_storeAt_new (P := Tryd.prog) w2 30 #[.int .u8 0, .int .u32 0, .int .u32 0, .slice none 0 0, .slice none 0 0, .int .u32 0, .slice none 0 0, .int .i64 0, .int .i64 0, .slice none 0 0] #[.int .u8 X.f0, .int .u32 X.f1, .int .u32 X.f2, .slice B3 X.f3.length b3, .slice B4 X.f4.length b4, .int .u32 X.f5.f0, .slice B6 X.f5.f1.length b6, .int .i64 X.f6, .int .i64 X.f7, .slice B9 X.f8.length b9] (by kernel_rfl) rfl (by simp [Value.oneCell'])
   obtain ⟨W2, hW2⟩ : ∃ W, W = w2.alloc (.cells #[.int .u8 X.f0, .int .u32 X.f1, .int .u32 X.f2, .slice B3 X.f3.length b3, .slice B4 X.f4.length b4, .int .u32 X.f5.f0, .slice B6 X.f5.f1.length b6, .int .i64 X.f6, .int .i64 X.f7, .slice B9 X.f8.length b9] 30) := ⟨_, rfl⟩
   have hbw : Below w2.heap.size w2 W2 := by rw [hW2]; exact iG (Below.refl _ _) _
   have hbb : Below wo.heap.size wo W2 := iK hb2' hbw
   have HX2 := iC.mk (show W2.heap[w2.heap.size]? = some (.cells #[.int .u8 X.f0, .int .u32 X.f1, .int .u32 X.f2, .slice B3 X.f3.length b3, .slice B4 X.f4.length b4, .int .u32 X.f5.f0, .slice B6 X.f5.f1.length b6, .int .i64 X.f6, .int .i64 X.f7, .slice B9 X.f8.length b9] 30 (0, 0)) from by rw [hW2]; exact jB rfl)
   have HO2 := iC.mk ((hO.below hbw).lower HB.out.size)
   have HR2 := iC.mk (HR.out.below hbb)
   have HB2 := iC.mk (iK HB.out hbb)
   have HXC2 := iC.mk (Kd.C_below HXC.out hbb)
   have HW2 := iC.mk hW2
   clear hdec hv hO hb2' hbw hbb hW2 HR HB HXC
   go_upto_region 8 with fail
   rw [← HW2.out]
   clear hsx HW2
   by_cases hE : E = 0
   ·subst hE
    have HOK2 := iC.mk (HN1.out rfl)
    have hwrap := wrap_any A3 c3 x W2 HXC2.out hxc h6
    clear HOK HN1 HN2
    go_wp2_with fail
    go_at_call 88
    refine hwrap.mono ?_
    rintro e w3 ⟨vw, rfl, hOw, hb3⟩
    obtain ⟨Aw, cw, rfl, hcw, hCw⟩ := hOw.reads
    have HX3 := iC.mk (iO hb3 HX2.out)
    have HO3 := iC.mk (HO2.out.below hb3)
    have HR3 := iC.mk (HR2.out.below hb3)
    have HB3 := iC.mk (iK HB2.out hb3)
    rw [hwl]
    clear hwrap hOw hCw hb3 hcw HX2 HO2 HR2 HB2 HXC2 hwl
    obtain ⟨wz0, wz1, wz2, wz3, wz4, wz5, wz6, wz7, wz8, wz9, wy0, wy1, wy2, wy3, wy4, wy5, wy6, wy7, wy8, wy9⟩ := ten (HX3.out)
    clear wy0 wy1 wy2 wy3 wy4 wy5 wy6 wy7 wy8 wy9
    have HLK := iC.mk (show (decK ls k).length = k from by unfold decK; rw [List.length_map, List.length_take]; have := HLT.out; omega)
    go_wp2_with (at_builtin; go_loud (refine Kd.R_append kR (w0 := w3) w1.heap.size rfl (.tmp 41) (.tmp 43) 71 30 (.agg #[.int .u8 0, .int .u32 0, .int .u32 0, .slice none 0 0, .slice none 0 0, .int .u32 0, .slice none 0 0, .int .i64 0, .int .i64 0, .slice none 0 0]) 136 rfl Tryd.underlying71 PI rfl (by decide) (by omega) (.slice Ao (decK ls k).length co) (decK ls k) X [.int .u8 X.f0, .int .u32 X.f1, .int .u32 X.f2, .slice B3 X.f3.length b3, .slice B4 X.f4.length b4, .int .u32 X.f5.f0, .slice B6 X.f5.f1.length b6, .int .i64 X.f6, .int .i64 X.f7, .slice B9 X.f8.length b9] (fun _ => True) (fun j => some j ≠ (Value.slice Ao (decK ls k).length co).ownBlock) rfl rfl ?aP ?aK ?aF ?aO (Below.refl _ _) ?aB ?aL ?_; (case aP => exact TQ (kR_M HO3.out) HR3.out); (case aK => exact fun _ h => ⟨trivial, h⟩); (case aF => exact fun _ _ => trivial); (case aO => exact HR3.out); (case aB => exact HB3.out.size); (case aL => (rw [HLK.out]; omega)); intro v5 w5 ho hb5 hg5 hat; have HR5 := iC.mk (show RRs w5 w1.heap.size v5 (decK ls (k + 1)) from by rw [HDK.out]; exact ho); have HB5 := iC.mk (HB3.out.trans hb5); clear ho hb5 hg5 hat))
    go_roundw
    case rel => exact ⟨k + 1, by omega, by go_num, by rw [← HSU.out], HOK2, HR5, HB5⟩
    case measure => simp [intOf]; omega
   ·have HOK2 := iC.mk (HN2.out hE)
    clear HOK HN1 HN2 h6 hwl hb2 hEI hlI
    go_wp2
    go_ret2
    rw [show endB (okL ls) = endK ls k from by rw [HOK2.out]; rfl, show qM ls = decK ls k from by unfold qM; rw [HOK2.out]; rfl]
    exact ⟨.slice Ao (decK ls k).length co, rfl, HR2.out.lower HB1.out.size, iK HB1.out HB2.out⟩
  ·obtain rfl : k = ls.length := by omega
   have HOK2 := iC.mk (j7_ HOK.out)
   go_wp2
   go_ret2
   rw [show endB (okL ls) = endK ls ls.length from by rw [HOK2.out]; unfold endK; rw [List.take_length], show qM ls = decK ls ls.length from by unfold qM decK; rw [HOK2.out, List.take_length]]
   exact ⟨.slice Ao (decK ls ls.length).length co, rfl, HR.out.lower HB1.out.size, iK HB1.out HB.out⟩
end Go.Proofs.YtgfkgppomaapiaaDoor.K
end

section
namespace Go.Proofs
open Go.Shelf
def Tryd.laysM290_ren : Go.Shelf.Ren := ⟨fun | 290 => 128 | 324 => 132 | n => n, fun | 37 => 33 | 3 => 3 | 0 => 0 | 4 => 4 | 20 => 20 | 75 => 141 | 5 => 5 | 80 => 185 | 9 => 9 | n => n, fun | 14 => 0 | n => n⟩
theorem Tryd.laysM290 : Go.Proofs.LaysM.n290 Tryd.prog Tryd.laysM290_ren := {
 mixed := by kernel_rfl
 f290 := Tryd.func128.trans (congrArg some (by kernel_rfl))
 f324 := Tryd.func132.trans (congrArg some (by kernel_rfl))
 t0 := Tryd.underlying0
 a0 := Tryd.isAgg0
 z0 := Tryd.sizeOf0
 v0 := Tryd.zeroValue0
 t3 := Tryd.underlying3
 a3 := Tryd.isAgg3
 z3 := Tryd.sizeOf3
 v3 := Tryd.zeroValue3
 t4 := Tryd.underlying4
 a4 := Tryd.isAgg4
 z4 := Tryd.sizeOf4
 v4 := Tryd.zeroValue4
 t20 := Tryd.underlying20
 a20 := Tryd.isAgg20
 z20 := Tryd.sizeOf20
 v20 := Tryd.zeroValue20
 t37 := Tryd.underlying33
 a37 := Tryd.isAgg33
 z37 := Tryd.sizeOf33
 v37 := Tryd.zeroValue33
 t75 := Tryd.underlying141
 a75 := Tryd.isAgg141
 z75 := Tryd.sizeOf141
 v75 := Tryd.zeroValue141
 g14 := by kernel_rfl
 t5 := Tryd.underlying5
 a5 := Tryd.isAgg5
 z5 := Tryd.sizeOf5
 v5 := Tryd.zeroValue5
 t9 := Tryd.underlying9
 a9 := Tryd.isAgg9
 z9 := Tryd.sizeOf9
 v9 := Tryd.zeroValue9
 t80 := Tryd.underlying185
 a80 := Tryd.isAgg185
 z80 := Tryd.sizeOf185
 v80 := Tryd.zeroValue185
 i0 := by kernel_rfl
 i3 := by kernel_rfl
 i4 := by kernel_rfl
 i5 := by kernel_rfl
 i9 := by kernel_rfl
 i20 := by kernel_rfl
 i37 := by kernel_rfl
 i75 := by kernel_rfl
 i80 := by kernel_rfl
 m14 := by kernel_rfl }
open Go.RowKit in
theorem Tryd.bytes_growSlice_row (g l c n : Nat) (cur : Array Value) (w : World) (hg : w.heap[g]? = some (.cells cur 5 (0, 0))) (hcs : cur.size = c) (hlc : l ≤ c) (hn : 1 ≤ n) (hlim : l + n ≤ 140737488355328) (hc2 : c ≤ 140737488355328) (h1 : ∀ v ∈ cur.toList.take l, v.oneCell' = true) :
  Calls Tryd.prog 128 #[.slice (some ⟨g, 0, none⟩) l c, .int .i64 n] w fun e w' => ∃ cap2 cells, e = .returned (.slice (some ⟨w.heap.size, 0, none⟩) l cap2) ∧ w'.heap[w.heap.size]? = some (.cells cells 5 (0, 0)) ∧
   cells.size = cap2 ∧ cells.toList.take l = cur.toList.take l ∧ l + n ≤ cap2 ∧ cap2 ≤ maxLen ∧ Below w.heap.size w w' := Any.bytes_growSlice_row Tryd.laysM290 g l c n cur w hg hcs hlc hn hlim hc2 h1
open Go.RowKit in
theorem Tryd.bytes_growSlice_nil (n : Nat) (w : World) (hn : 1 ≤ n) (hlim : n ≤ 140737488355328) :
  Calls Tryd.prog 128 #[.slice none 0 0, .int .i64 n] w fun e w' => ∃ cap2 cells, e = .returned (.slice (some ⟨w.heap.size, 0, none⟩) 0 cap2) ∧ w'.heap[w.heap.size]? = some (.cells cells 5 (0, 0)) ∧
   cells.size = cap2 ∧ n ≤ cap2 ∧ cap2 ≤ maxLen ∧ Below w.heap.size w w' := Any.bytes_growSlice_nil Tryd.laysM290 n w hn hlim
def Tryd.laysM251_ren : Go.Shelf.Ren := ⟨fun | 251 => 114 | n => n, fun | 130 => 87 | 3 => 3 | 4 => 4 | 0 => 0 | 93 => 91 | 37 => 33 | 91 => 89 | 5 => 5 | n => n, fun | n => n⟩
theorem Tryd.laysM251 : Go.Proofs.LaysM.n251 Tryd.prog Tryd.laysM251_ren := {
 mixed := by kernel_rfl
 f251 := Tryd.func114.trans (congrArg some (by kernel_rfl))
 t0 := Tryd.underlying0
 a0 := Tryd.isAgg0
 z0 := Tryd.sizeOf0
 v0 := Tryd.zeroValue0
 t3 := Tryd.underlying3
 a3 := Tryd.isAgg3
 z3 := Tryd.sizeOf3
 v3 := Tryd.zeroValue3
 t4 := Tryd.underlying4
 a4 := Tryd.isAgg4
 z4 := Tryd.sizeOf4
 v4 := Tryd.zeroValue4
 t37 := Tryd.underlying33
 a37 := Tryd.isAgg33
 z37 := Tryd.sizeOf33
 v37 := Tryd.zeroValue33
 t93 := Tryd.underlying91
 a93 := Tryd.isAgg91
 z93 := Tryd.sizeOf91
 v93 := Tryd.zeroValue91
 t130 := Tryd.underlying87
 a130 := Tryd.isAgg87
 z130 := Tryd.sizeOf87
 v130 := Tryd.zeroValue87
 t5 := Tryd.underlying5
 a5 := Tryd.isAgg5
 z5 := Tryd.sizeOf5
 v5 := Tryd.zeroValue5
 t91 := Tryd.underlying89
 a91 := Tryd.isAgg89
 z91 := Tryd.sizeOf89
 v91 := Tryd.zeroValue89
 i0 := by kernel_rfl
 i3 := by kernel_rfl
 i4 := by kernel_rfl
 i5 := by kernel_rfl
 i37 := by kernel_rfl
 i91 := by kernel_rfl
 i93 := by kernel_rfl
 i130 := by kernel_rfl }
open Go.RowKit in
theorem Tryd.Buffer_tryGrow_room_at (b q : Nat) (ao : Option Addr) (l cap n : Nat) (w : World) (c0 : w.cell? ⟨b, q, none⟩ = some (.slice ao l cap)) (f0 : w.frozen? ⟨b, q, none⟩ = false) (hlc : l ≤ cap) (hcap : cap ≤ maxLen) (hn : n ≤ cap - l) :
  Calls Tryd.prog 114 #[.pointer (some ⟨b, q, none⟩), .int .i64 n] w fun e w' => e = .returned (.tuple #[.int .i64 l, .bool true]) ∧ w' = w.setCell ⟨b, q, none⟩ (.slice ao (l + n) cap) := Any.Buffer_tryGrow_room_at Tryd.laysM251 b q ao l cap n w c0 f0 hlc hcap hn
open Go.RowKit in
theorem Tryd.Buffer_tryGrow_none_at (b q : Nat) (ao : Option Addr) (l cap n : Nat) (w : World) (c0 : w.cell? ⟨b, q, none⟩ = some (.slice ao l cap)) (hlc : l ≤ cap) (hcap : cap ≤ maxLen) (hn : cap - l < n) :
  Calls Tryd.prog 114 #[.pointer (some ⟨b, q, none⟩), .int .i64 n] w fun e w' => e = .returned (.tuple #[.int .i64 0, .bool false]) ∧ w' = w := Any.Buffer_tryGrow_none_at Tryd.laysM251 b q ao l cap n w c0 hlc hcap hn
end Go.Proofs
end

section
namespace Go.Proofs.YtgfkgppomaapiaaDoor.K
open RowKit YtgfkgppomaapiaaDoorW.PrintWords YtgfkgppomaapiaaDoorW.PrintLast YtgfkgppomaapiaaDoorW.PrintMore My
def Dc (w : World) (b : Nat) (ao : Option Addr) (l cap : Nat) (lr lasts room left : Int) : Prop :=
 w.heap[b]? = some (.cells #[.slice ao l cap, .int .i64 0, .int .i8 lr, .int .i64 lasts, .int .i64 room, .int .i64 left] 128 (0, 0))
section
variable {w : World} {b : Nat} {ao : Option Addr} {l cap : Nat} {lr lasts room left : Int}
theorem Dc.c0 (h : Dc w b ao l cap lr lasts room left) : w.cell? ⟨b, 0, none⟩ = some (.slice ao l cap) := (iE h 0).trans rfl
theorem Dc.c1 (h : Dc w b ao l cap lr lasts room left) : w.cell? ⟨b, 1, none⟩ = some (.int .i64 0) := (iE h 1).trans rfl
theorem Dc.c2 (h : Dc w b ao l cap lr lasts room left) : w.cell? ⟨b, 2, none⟩ = some (.int .i8 lr) := (iE h 2).trans rfl
theorem Dc.c3 (h : Dc w b ao l cap lr lasts room left) : w.cell? ⟨b, 3, none⟩ = some (.int .i64 lasts) := (iE h 3).trans rfl
theorem Dc.c4 (h : Dc w b ao l cap lr lasts room left) : w.cell? ⟨b, 4, none⟩ = some (.int .i64 room) := (iE h 4).trans rfl
theorem Dc.c5 (h : Dc w b ao l cap lr lasts room left) : w.cell? ⟨b, 5, none⟩ = some (.int .i64 left) := (iE h 5).trans rfl
theorem Dc.f (h : Dc w b ao l cap lr lasts room left) (i : Nat) : w.frozen? ⟨b, i, none⟩ = false := iD h i
theorem Dc.lt (h : Dc w b ao l cap lr lasts room left) : b < w.heap.size := jU h
theorem Dc.below {w' : World} (h : Dc w b ao l cap lr lasts room left) (hb : Below w.heap.size w w') : Dc w' b ao l cap lr lasts room left := iO hb h
theorem Dc.s0 (h : Dc w b ao l cap lr lasts room left) (ao' : Option Addr) (l' cap' : Nat) : Dc (w.setCell ⟨b, 0, none⟩ (.slice ao' l' cap')) b ao' l' cap' lr lasts room left := iY h 0 _ rfl
theorem Dc.s1 (h : Dc w b ao l cap lr lasts room left) : Dc (w.setCell ⟨b, 1, none⟩ (.int .i64 0)) b ao l cap lr lasts room left := iY h 1 _ rfl
theorem Dc.s2 (h : Dc w b ao l cap lr lasts room left) (x : Int) : Dc (w.setCell ⟨b, 2, none⟩ (.int .i8 x)) b ao l cap x lasts room left := iY h 2 _ rfl
theorem Dc.s3 (h : Dc w b ao l cap lr lasts room left) (x : Int) : Dc (w.setCell ⟨b, 3, none⟩ (.int .i64 x)) b ao l cap lr x room left := iY h 3 _ rfl
theorem Dc.s5 (h : Dc w b ao l cap lr lasts room left) (x : Int) : Dc (w.setCell ⟨b, 5, none⟩ (.int .i64 x)) b ao l cap lr lasts room x := iY h 5 _ rfl
end
theorem lY {w w1 w2 : World} {row : Option Nat} (h : w.grownBy w1 row) (k : Below w1.heap.size w1 w2) : w.grownBy w2 row :=
 ⟨k.os.trans h.os, k.tape.trans h.tape, k.output.trans h.output, Nat.le_trans h.size k.size, fun i hi hne => (k.block i (Nat.lt_of_lt_of_le hi h.size)).trans (h.block i hi hne)⟩
theorem jK {w w1 : World} {b : Nat} (h : w.grownBy w1 (some b)) (i : Nat) (v : Value) : w.grownBy (w1.setCell ⟨b, i, none⟩ v) (some b) := Lib.grownBy_trans h (Lib.grownBy_setCell w1 b i v)
set_option maxHeartbeats 1000000 in
theorem nP {b : Nat} {ao : Option Addr} {l cap : Nat} {lr lasts room left : Int} (w : World) (h : Dc w b ao l cap lr lasts room left) (hl : l ≤ 140737488355328) :
  Calls Tryd.prog 55 #[.pointer (some ⟨b, 0, none⟩)] w fun e w' => e = .returned (.int .i64 l) ∧ ∃ n, w' = w.drewN n := by
 have c0 := h.c0
 have c1 := h.c1
 have mixed : Tryd.prog.follows Departure.mixedOrders = true := by kernel_rfl
 have hwl : IntKind.i64.wrap (l : Int) = l := by rw [IntKind.wrap_i64]; omega
 clear h
 go_enter Tryd.func55, Tryd.ntmps55
 go_wp2
 go_region_o
 all_goals (go_wp2; go_ret; exact ⟨by simp [Act.put, hwl], 1, rfl⟩)
set_option maxHeartbeats 12800000 in
set_option maxRecDepth 100000 in
theorem VP {b g l cap n : Nat} {lr lasts room left : Int} {cur : Array Value} (w : World) (h : Dc w b (some ⟨g, 0, none⟩) l cap lr lasts room left) (hg : w.heap[g]? = some (.cells cur 5 (0, 0))) (hlc : l ≤ cap) (hcm : cap ≤ maxLen) (hcs : cur.size = cap)
  (h1 : ∀ v ∈ cur.toList.take l, v.oneCell' = true) (hn : 1 ≤ n) (hroom : cap - l < n) (hlim : l + n ≤ 140737488355328) :
  Calls Tryd.prog 115 #[.pointer (some ⟨b, 0, none⟩), .int .i64 n] w fun e w' => e = .returned (.int .i64 l) ∧ ∃ g2 cap2 cells, Dc w' b (some ⟨g2, 0, none⟩) (l + n) cap2 lr lasts room left ∧ w'.heap[g2]? = some (.cells cells 5 (0, 0)) ∧ w.heap.size ≤ g2 ∧
   cells.size = cap2 ∧ cells.toList.take l = cur.toList.take l ∧ l + n ≤ cap2 ∧ cap2 ≤ maxLen ∧ w.grownBy w' (some b) := by
 have hnil : ∀ W l, (binOp .eql 33 (.slice (some ⟨g, 0, none⟩) l cap) (.slice none 0 0)).run Tryd.prog W = .ok (.bool false) W := fun W l => Lib.run_eql_slice_some_nil W _ _ _ Tryd.underlying33
 have mixed : Tryd.prog.follows Departure.mixedOrders = true := by kernel_rfl
 have hcm' := hcm
 unfold maxLen at hcm'
 have hc2 : cap ≤ 140737488355328 := by omega
 have hlen := nP w h (by omega)
 have HD := iC.mk h
 clear h
 go_enter Tryd.func115, Tryd.ntmps115
 go_wp2_with (go_at_call 55; refine hlen.mono ?_)
 rintro e W0 ⟨rfl, k, hW0⟩
 have hD0 : Dc W0 b (some ⟨g, 0, none⟩) l cap lr lasts room left := by rw [hW0]; exact HD.out
 have hg0 : W0.heap[g]? = some (.cells cur 5 (0, 0)) := by rw [hW0]; exact hg
 have c0 := hD0.c0
 have c1 := hD0.c1
 have f0 := hD0.f 0
 have f1 := hD0.f 1
 have HW0 := Lib.hid hW0
 have HD0 := iC.mk hD0
 have hbW := hD0.lt
 clear hW0 hlen hD0
 have hwn : IntKind.i64.wrap (n : Int) = n := by rw [IntKind.wrap_i64]; omega
 rcases Nat.eq_zero_or_pos l with rfl | hl0
 all_goals go_wp2_with (go_at_call 114; refine (Tryd.Buffer_tryGrow_none_at b 0 _ _ cap n _ c0 hlc hcm hroom).mono ?_; rintro e w' ⟨rfl, rfl⟩)
 ·go_region_with_o (
   go_at_call 128
   refine (Tryd.bytes_growSlice_row g 0 cap n cur _ ?_ hcs hlc hn hlim hc2 h1).mono ?_
   exact hg0
   rintro e w2 ⟨cap2, cells, rfl, hN, hcsz, htk, hcap2, hcm2, hbel⟩
   have hD2 : Dc w2 b (some ⟨g, 0, none⟩) 0 cap lr lasts room left := (hbel.block b hbW).trans HD0.out
   have d0 := hD2.c0
   have d1 := hD2.c1
   have e0 := hD2.f 0
   have e1 := hD2.f 1)
  all_goals (
   go_wp2
   go_ret
   have hgr : w.grownBy w2 (some b) := lY (w1 := w'.drew) (by rw [HW0.out]; exact ⟨rfl, rfl, rfl, Nat.le_refl _, fun _ _ _ => rfl⟩) hbel
   have hne : w'.heap.size ≠ b := by omega
   have hsz : w.heap.size ≤ w'.heap.size := by rw [HW0.out]; exact Nat.le_refl _
   refine ⟨rfl, w'.heap.size, cap2, cells, ?_, jZ (jZ (jZ hN (p := ⟨b, 0, none⟩) hne _) (p := ⟨b, 1, none⟩) hne _) (p := ⟨b, 0, none⟩) hne _, hsz, hcsz, htk, hcap2, hcm2, jK (jK (jK hgr 0 _) 1 _) 0 _⟩
   first | exact ((hD2.s0 _ _ _).s1).s0 _ _ _ | (rw [Nat.zero_add]; exact ((hD2.s0 _ _ _).s1).s0 _ _ _))
 ·go_region_with_o (
   go_at_call 128
   refine (Tryd.bytes_growSlice_row g l cap n cur _ ?_ hcs hlc hn hlim hc2 h1).mono ?_
   exact hg0
   rintro e w2 ⟨cap2, cells, rfl, hN, hcsz, htk, hcap2, hcm2, hbel⟩
   have hD2 : Dc w2 b (some ⟨g, 0, none⟩) l cap lr lasts room left := (hbel.block b hbW).trans HD0.out
   have d0 := hD2.c0
   have d1 := hD2.c1
   have e0 := hD2.f 0
   have e1 := hD2.f 1)
  all_goals (
   go_wp2
   go_ret
   have hgr : w.grownBy w2 (some b) := lY (w1 := w'.drew) (by rw [HW0.out]; exact ⟨rfl, rfl, rfl, Nat.le_refl _, fun _ _ _ => rfl⟩) hbel
   have hne : w'.heap.size ≠ b := by omega
   have hsz : w.heap.size ≤ w'.heap.size := by rw [HW0.out]; exact Nat.le_refl _
   refine ⟨rfl, w'.heap.size, cap2, cells, ?_, jZ (jZ (jZ hN (p := ⟨b, 0, none⟩) hne _) (p := ⟨b, 1, none⟩) hne _) (p := ⟨b, 0, none⟩) hne _, hsz, hcsz, htk, hcap2, hcm2, jK (jK (jK hgr 0 _) 1 _) 0 _⟩
   first | exact ((hD2.s0 _ _ _).s1).s0 _ _ _ | (rw [Nat.zero_add]; exact ((hD2.s0 _ _ _).s1).s0 _ _ _))
end Go.Proofs.YtgfkgppomaapiaaDoor.K
end

section
namespace Go.Proofs.YtgfkgppomaapiaaDoor.K
open RowKit YtgfkgppomaapiaaDoorW.PrintWords YtgfkgppomaapiaaDoorW.PrintLast YtgfkgppomaapiaaDoorW.PrintMore My
set_option maxHeartbeats 12800000 in
set_option maxRecDepth 100000 in
theorem NM {b n : Nat} {lr lasts room left : Int} (w : World) (h : Dc w b none 0 0 lr lasts room left) (hn : 1 ≤ n) (h64 : n ≤ 64) :
  Calls Tryd.prog 115 #[.pointer (some ⟨b, 0, none⟩), .int .i64 n] w fun e w' => e = .returned (.int .i64 0) ∧ ∃ g2 cap2 cells, Dc w' b (some ⟨g2, 0, none⟩) n cap2 lr lasts room left ∧ w'.heap[g2]? = some (.cells cells 5 (0, 0)) ∧ w.heap.size ≤ g2 ∧
   cells.size = cap2 ∧ n ≤ cap2 ∧ cap2 ≤ maxLen ∧ w.grownBy w' (some b) := by
 have mixed : Tryd.prog.follows Departure.mixedOrders = true := by kernel_rfl
 have hinf : (Tryd.prog.info? 5).map (fun i => (i.zero, i.size, i.bytes)) = some (some (.int .u8 0), 1, 1) := by kernel_rfl
 obtain ⟨i0, hi, hz0, hz1, hz2⟩ := info_parts hinf
 obtain ⟨M, hM⟩ : ∃ M, M = madeCells (Value.int .u8 0).cells ((64 : Int).toNat * i0.size) := ⟨_, rfl⟩
 have hMs : M.size = 64 := by rw [hM, size_madeCells, hz1]; rfl
 have hmk : ∀ W : World, (Instr.makeSlice 33 (.int .i64 (n : Int)) (.int .i64 64)).run Tryd.prog W = .ok (.slice (some ⟨W.heap.size, 0, none⟩) n 64) (W.alloc (.cells M 5)) := fun W => by
  have h := run_makeSlice (P := Tryd.prog) W 33 5 i0 (.int .u8 0) Tryd.underlying33 hi hz0 .i64 .i64 (n : Int) 64 (by omega) (by omega) (by rw [hz1]; decide) (by rw [hz2]; decide) (by decide)
  rw [← hM] at h
  simpa using h
 clear hM
 have hnil : ∀ W, (binOp .eql 33 (.slice none 0 0) (.slice none 0 0)).run Tryd.prog W = .ok (.bool true) W := fun W => Lib.run_eql_slice_nil_nil W _ _ Tryd.underlying33
 have hlen := nP w h (by omega)
 have HD := iC.mk h
 clear h
 go_enter Tryd.func115, Tryd.ntmps115
 go_wp2_with (go_at_call 55; refine hlen.mono ?_)
 rintro e W0 ⟨rfl, k, hW0⟩
 have hD0 : Dc W0 b none 0 0 lr lasts room left := by rw [hW0]; exact HD.out
 have c0 := hD0.c0
 have c1 := hD0.c1
 have f0 := hD0.f 0
 have f1 := hD0.f 1
 have hbW0 := hD0.lt
 have c0a : ∀ o, (W0.alloc o).cell? ⟨b, 0, none⟩ = some (.slice none 0 0) := fun o => (World.cell?_of_block (a := ⟨b, 0, none⟩) (Below.heap_alloc W0 o b hbW0)).trans c0
 have f0a : ∀ o, (W0.alloc o).frozen? ⟨b, 0, none⟩ = false := fun o => (World.frozen?_of_block (a := ⟨b, 0, none⟩) (Below.heap_alloc W0 o b hbW0)).trans f0
 have HW0 := Lib.hid hW0
 have HD0 := iC.mk hD0
 clear hW0 hlen hD0
 go_wp2_with (go_at_call 114; refine (Tryd.Buffer_tryGrow_none_at b 0 _ 0 0 n _ c0 (Nat.le_refl _) (Nat.zero_le _) (by omega)).mono ?_; rintro e w' ⟨rfl, rfl⟩)
 go_ret
 have hne : w'.heap.size ≠ b := by omega
 have hsz : w.heap.size ≤ w'.heap.size := by rw [HW0.out]; exact Nat.le_refl _
 have hgr : w.grownBy w' (some b) := by rw [HW0.out]; exact ⟨rfl, rfl, rfl, Nat.le_refl _, fun _ _ _ => rfl⟩
 have hs1 : (w'.setCell ⟨b, 0, none⟩ (.slice (some ⟨w'.heap.size, 0, none⟩) n 64)).heap.size = w'.heap.size := by simp [World.setCell]
 refine ⟨rfl, w'.heap.size, 64, M, (HD0.out.s0 _ _ _).below (iG (Below.refl _ _) _), ?_, hsz, hMs, h64, by unfold maxLen; omega, lY (jK hgr 0 _) (iG (Below.refl _ _) _)⟩
 exact jB hs1.symm
set_option maxHeartbeats 12800000 in
set_option maxRecDepth 100000 in
theorem TU {b n : Nat} {lr lasts room left : Int} (w : World) (h : Dc w b none 0 0 lr lasts room left) (hn : 64 < n) (hlim : n ≤ 140737488355328) :
  Calls Tryd.prog 115 #[.pointer (some ⟨b, 0, none⟩), .int .i64 n] w fun e w' => e = .returned (.int .i64 0) ∧ ∃ g2 cap2 cells, Dc w' b (some ⟨g2, 0, none⟩) n cap2 lr lasts room left ∧ w'.heap[g2]? = some (.cells cells 5 (0, 0)) ∧ w.heap.size ≤ g2 ∧
   cells.size = cap2 ∧ n ≤ cap2 ∧ cap2 ≤ maxLen ∧ w.grownBy w' (some b) := by
 have mixed : Tryd.prog.follows Departure.mixedOrders = true := by kernel_rfl
 have hnil : ∀ W, (binOp .eql 33 (.slice none 0 0) (.slice none 0 0)).run Tryd.prog W = .ok (.bool true) W := fun W => Lib.run_eql_slice_nil_nil W _ _ Tryd.underlying33
 have hlen := nP w h (by omega)
 have HD := iC.mk h
 clear h
 go_enter Tryd.func115, Tryd.ntmps115
 go_wp2_with (go_at_call 55; refine hlen.mono ?_)
 rintro e W0 ⟨rfl, k, hW0⟩
 have hD0 : Dc W0 b none 0 0 lr lasts room left := by rw [hW0]; exact HD.out
 have c0 := hD0.c0
 have c1 := hD0.c1
 have f0 := hD0.f 0
 have f1 := hD0.f 1
 have hbW := hD0.lt
 have HW0 := Lib.hid hW0
 have HD0 := iC.mk hD0
 clear hW0 hlen hD0
 have hwn : IntKind.i64.wrap (n : Int) = n := by rw [IntKind.wrap_i64]; omega
 go_wp2_with (go_at_call 114; refine (Tryd.Buffer_tryGrow_none_at b 0 _ 0 0 n _ c0 (Nat.le_refl _) (Nat.zero_le _) (by omega)).mono ?_; rintro e w' ⟨rfl, rfl⟩)
 go_region_with_o (
   go_at_call 128
   refine (Tryd.bytes_growSlice_nil n _ (by omega) hlim).mono ?_
   rintro e w2 ⟨cap2, cells, rfl, hN, hcsz, hcap2, hcm2, hbel⟩
   have hD2 : Dc w2 b none 0 0 lr lasts room left := (hbel.block b hbW).trans HD0.out
   have d0 := hD2.c0
   have d1 := hD2.c1
   have e0 := hD2.f 0
   have e1 := hD2.f 1)
 all_goals (
   go_wp2
   go_ret
   have hgr : w.grownBy w2 (some b) := lY (w1 := w'.drew) (by rw [HW0.out]; exact ⟨rfl, rfl, rfl, Nat.le_refl _, fun _ _ _ => rfl⟩) hbel
   have hne : w'.heap.size ≠ b := by omega
   have hsz : w.heap.size ≤ w'.heap.size := by rw [HW0.out]; exact Nat.le_refl _
   exact ⟨rfl, w'.heap.size, cap2, cells, ((hD2.s0 _ _ _).s1).s0 _ _ _, jZ (jZ (jZ hN (p := ⟨b, 0, none⟩) hne _) (p := ⟨b, 1, none⟩) hne _) (p := ⟨b, 0, none⟩) hne _, hsz, hcsz, hcap2, hcm2, jK (jK (jK hgr 0 _) 1 _) 0 _⟩)
end Go.Proofs.YtgfkgppomaapiaaDoor.K
end

section
namespace Go.Proofs.YtgfkgppomaapiaaDoor.K
open RowKit YtgfkgppomaapiaaDoorW.PrintWords YtgfkgppomaapiaaDoorW.PrintLast YtgfkgppomaapiaaDoorW.PrintMore My
def Rw (w : World) (b : Nat) (ao : Option Addr) (row : Option Nat) (cap : Nat) (bs : List UInt8) : Prop :=
 (ao = none ∧ row = none ∧ cap = 0 ∧ bs = []) ∨ ∃ g cur, ao = some ⟨g, 0, none⟩ ∧ row = some g ∧ g ≠ b ∧ w.heap[g]? = some (.cells cur 5 (0, 0)) ∧ bs.length ≤ cap ∧ cap ≤ maxLen ∧ cur.size = cap ∧ cur.toList.take bs.length = Lib.byteCells bs
def Dk (w : World) (b : Nat) (row : Option Nat) (bs : List UInt8) (lasts room left : Int) : Prop :=
 ∃ ao cap lr, Dc w b ao bs.length cap lr lasts room left ∧ Rw w b ao row cap bs
structure Kb (b : Nat) (row : Option Nat) (w w' : World) : Prop where
 os : w'.os = w.os
 tape : w'.tape = w.tape
 output : w'.output = w.output
 size : w.heap.size ≤ w'.heap.size
 block : ∀ k, k < w.heap.size → k ≠ b → some k ≠ row → w'.heap[k]? = w.heap[k]?
def Nw (w : World) (row row' : Option Nat) : Prop := ∀ k, row' = some k → row = some k ∨ w.heap.size ≤ k
theorem Kb.of_grown {b : Nat} {row : Option Nat} {w w' : World} (h : w.grownBy w' (some b)) : Kb b row w w' :=
 ⟨h.os, h.tape, h.output, h.size, fun k hk hb _ => h.block k hk (fun e => hb (by injection e))⟩
theorem Kb.refl (b : Nat) (row : Option Nat) (w : World) : Kb b row w w := ⟨rfl, rfl, rfl, Nat.le_refl _, fun _ _ _ _ => rfl⟩
theorem Kb.trans {b : Nat} {row row' : Option Nat} {w w1 w2 : World} (h : Kb b row w w1) (hn : Nw w row row') (k : Kb b row' w1 w2) : Kb b row w w2 :=
 ⟨k.os.trans h.os, k.tape.trans h.tape, k.output.trans h.output, Nat.le_trans h.size k.size, fun i hi hb hr => (k.block i (Nat.lt_of_lt_of_le hi h.size) hb (fun e => (hn i e.symm).elim (fun h' => hr h'.symm) (fun h' => by omega))).trans (h.block i hi hb hr)⟩
theorem Kb.below {B b : Nat} {row : Option Nat} {w w' : World} (h : Kb b row w w') (hB : B ≤ w.heap.size) (hb : B ≤ b) (hr : ∀ k, row = some k → B ≤ k) : Below B w w' :=
 ⟨h.os, h.tape, h.output, h.size, fun k hk => h.block k (by omega) (by omega) (fun e => by have := hr k e.symm; omega)⟩
theorem Kb.setRow {b g : Nat} {w w1 : World} (h : Kb b (some g) w w1) (cs : Array Value) : Kb b (some g) w (w1.setRow g cs) :=
 ⟨h.os, h.tape, h.output, by simpa [World.setRow] using h.size, fun k hk hb hr => (setRow_other _ _ _ _ (fun e => hr (by rw [e]))).trans (h.block k hk hb hr)⟩
theorem MB {w : World} {a : Addr} {l : List UInt8} (h : kb.C w (some a) l.length l) : ∀ (j : Nat) (v : Value), (Lib.byteCells l)[j]? = some v → w.cell? (a.add j) = some v := by
 intro j v hj
 have hlt : j < l.length := by
  have := (List.getElem?_eq_some_iff.1 hj).1
  rwa [Lib.byteCells_length] at this
 obtain ⟨ad, e, hc⟩ := C_at h j hlt
 cases e
 rw [hc, ← hj]
 simp [Lib.byteCells, List.getElem?_eq_getElem hlt]
theorem written {w : World} {b g cap : Nat} {lr lasts room left : Int} {cur : Array Value} {bs l : List UInt8} (hD : Dc w b (some ⟨g, 0, none⟩) (bs.length + l.length) cap lr lasts room left) (hg : w.heap[g]? = some (.cells cur 5 (0, 0))) (hgb : g ≠ b) (hcs : cur.size = cap) (hcm : cap ≤ maxLen) (htk : cur.toList.take bs.length = Lib.byteCells bs) (hn : bs.length + l.length ≤ cap) :
  Dk (w.setRow g (cur.toList.take bs.length ++ Lib.byteCells l ++ cur.toList.drop (bs.length + (Lib.byteCells l).length)).toArray) b (some g) (bs ++ l) lasts room left := by
 have hcl : cur.toList.length = cap := (Array.length_toList (xs := cur)).trans hcs
 have hl : (cur.toList.take bs.length).length = bs.length := by rw [List.length_take]; omega
 refine ⟨some ⟨g, 0, none⟩, cap, lr, ?_, .inr ⟨g, _, rfl, rfl, hgb, setRow_heap w g cur _ _ (0, 0) hg, by rw [List.length_append]; exact hn, hcm, ?_, ?_⟩⟩
 ·rw [List.length_append]
  exact (setRow_other _ _ _ _ (Ne.symm hgb)).trans hD
 ·simp only [List.size_toArray, List.length_append, hl, List.length_drop, hcl, Lib.byteCells_length]; omega
 ·rw [List.toList_toArray, List.take_append_of_le_length (by simp only [List.length_append, hl, Lib.byteCells_length]; exact Nat.le_refl _), List.take_of_length_le (by simp only [List.length_append, hl, Lib.byteCells_length]; exact Nat.le_refl _), htk]
  simp [Lib.byteCells]
end Go.Proofs.YtgfkgppomaapiaaDoor.K
end

section
namespace Go.Proofs.YtgfkgppomaapiaaDoor.K
open RowKit YtgfkgppomaapiaaDoorW.PrintWords YtgfkgppomaapiaaDoorW.PrintLast YtgfkgppomaapiaaDoorW.PrintMore My
theorem Z8 {b g : Nat} {row : Option Nat} {w w1 : World} (hn : Nw w row (some g)) (h : w.grownBy w1 (some b)) (cs : Array Value) : Kb b row w (w1.setRow g cs) :=
 (Kb.of_grown h).trans (fun k e => by cases e; exact hn g rfl) ((Kb.refl b (some g) w1).setRow cs)
def NR (w : World) (b : Nat) (row : Option Nat) (bs l : List UInt8) (lasts room left : Int) (e : Ending) (w' : World) : Prop :=
 e = .returned (.tuple #[.int .i64 l.length, .nilIface]) ∧ ∃ row', Dk w' b row' (bs ++ l) lasts room left ∧ Nw w row row' ∧ Kb b row w w'
set_option maxHeartbeats 6400000 in
set_option maxRecDepth 100000 in
theorem NP {w : World} {b g2 cap2 : Nat} {lr lasts room left : Int} {cur2 : Array Value} {bs l : List UInt8} {a : Addr} {c : Nat} (hD : Dc w b (some ⟨g2, 0, none⟩) bs.length cap2 lr lasts room left) (hg : w.heap[g2]? = some (.cells cur2 5 (0, 0))) (hgb : g2 ≠ b) (hcs : cur2.size = cap2) (hcm : cap2 ≤ maxLen) (htk : cur2.toList.take bs.length = Lib.byteCells bs)
  (hC : kb.C w (some a) l.length l) (hab : a.block ≠ b) (hn : 0 < l.length) (hfit : bs.length + l.length ≤ cap2) :
  Calls Tryd.prog 113 #[.pointer (some ⟨b, 0, none⟩), .slice (some a) l.length c] w (NR w b (some g2) bs l lasts room left) := by
 have hinfo : (Tryd.prog.info? 5).map (·.size) = some 1 := by kernel_rfl
 have c2 := hD.c2
 have f2 := hD.f 2
 have hD1 := hD.s2 0
 have hg1 := jZ hg (p := ⟨b, 2, none⟩) hgb (.int .i8 0)
 have hgr1 : w.grownBy (w.setCell ⟨b, 2, none⟩ (.int .i8 0)) (some b) := Lib.grownBy_setCell w b 2 _
 unfold NR
 go_enter Tryd.func113, Tryd.ntmps113
 go_wp2_with (go_at_call 114; refine (Tryd.Buffer_tryGrow_room_at b 0 _ bs.length cap2 l.length _ hD1.c0 (hD1.f 0) (by omega) hcm (by omega)).mono ?_)
 rintro e W1 ⟨rfl, hW1⟩
 have hD2 : Dc W1 b (some ⟨g2, 0, none⟩) (bs.length + l.length) cap2 0 lasts room left := by rw [hW1]; exact hD1.s0 _ _ _
 have hg2 : W1.heap[g2]? = some (.cells cur2 5 (0, 0)) := by rw [hW1]; exact jZ hg1 (p := ⟨b, 0, none⟩) hgb _
 have hgr : w.grownBy W1 (some b) := by rw [hW1]; exact jK hgr1 0 _
 have hnw : Nw w (some g2) (some g2) := fun k e => .inl e
 clear hW1 hD1 hg1 hgr1 c2 f2 hD hg
 have hg2b := hgb; have hcs2 := hcs; have hcm2 := hcm; have htk2 := htk
 clear hgb hcs hcm htk
 have d0 := hD2.c0
 have hsrc1 : ∀ (j : Nat) (v : Value), (Lib.byteCells l)[j]? = some v → W1.cell? (a.add j) = some v := fun j v hj => hgr.cell (MB hC j v hj) (by rw [Lib.block_add]; exact fun e => hab (Option.some.inj e))
 have hcp := run_copy_row (P := Tryd.prog) W1 33 33 3 5 g2 bs.length l.length (cap2 - bs.length) a l.length c cur2 5 (Lib.byteCells l) Tryd.underlying33 hinfo hg2 (by rw [Lib.byteCells_length]; exact (Nat.min_self _).symm) hsrc1 (by rw [Lib.byteCells_length]; omega) (Lib.byteCells_one l)
 rw [show goInt (Lib.byteCells l).length = .int .i64 (l.length : Int) from by rw [Lib.byteCells_length]; rfl] at hcp
 have hne : ¬ cap2 = bs.length := by omega
 have HW := iC.mk (written hD2 hg2 hg2b hcs2 hcm2 htk2 hfit)
 have HN := iC.mk hnw
 have HG := iC.mk hgr
 unfold maxLen at hcm2
 clear hC hsrc1 hgr hnw htk2
 go_wp2
 go_ret2
 refine ⟨rfl, some g2, by rw [← List.append_assoc]; exact HW.out, HN.out, ?_⟩
 exact Z8 HN.out HG.out _
theorem UQ {w : World} {b cap2 n : Nat} {lr lasts room left : Int} {ao : Option Addr} {row : Option Nat} {bs : List UInt8} (hD : Dc w b ao bs.length cap2 lr lasts room left) (hR : Rw w b ao row cap2 bs) (hn : 1 ≤ n) (hroom : cap2 - bs.length < n) (hlim : bs.length + n ≤ 140737488355328) :
  Calls Tryd.prog 115 #[.pointer (some ⟨b, 0, none⟩), .int .i64 n] w fun e w' => e = .returned (.int .i64 bs.length) ∧ ∃ g2 cap2 cells, Dc w' b (some ⟨g2, 0, none⟩) (bs.length + n) cap2 lr lasts room left ∧ w'.heap[g2]? = some (.cells cells 5 (0, 0)) ∧ w.heap.size ≤ g2 ∧
   cells.size = cap2 ∧ cells.toList.take bs.length = Lib.byteCells bs ∧ bs.length + n ≤ cap2 ∧ cap2 ≤ maxLen ∧ w.grownBy w' (some b) := by
 rcases hR with ⟨rfl, _, rfl, rfl⟩ | ⟨g2, cur2, rfl, _, _, hg, hlc, hcm, hcs, htk⟩
 ·have key : ∀ {e : Ending} {w' : World}, (e = .returned (.int .i64 0) ∧ ∃ g2 cap2 cells, Dc w' b (some ⟨g2, 0, none⟩) n cap2 lr lasts room left ∧ w'.heap[g2]? = some (.cells cells 5 (0, 0)) ∧ w.heap.size ≤ g2 ∧ cells.size = cap2 ∧ n ≤ cap2 ∧ cap2 ≤ maxLen ∧ w.grownBy w' (some b)) →
    (e = .returned (.int .i64 ([] : List UInt8).length) ∧ ∃ g2 cap2 cells, Dc w' b (some ⟨g2, 0, none⟩) (([] : List UInt8).length + n) cap2 lr lasts room left ∧ w'.heap[g2]? = some (.cells cells 5 (0, 0)) ∧ w.heap.size ≤ g2 ∧
   cells.size = cap2 ∧ cells.toList.take ([] : List UInt8).length = Lib.byteCells [] ∧ ([] : List UInt8).length + n ≤ cap2 ∧ cap2 ≤ maxLen ∧ w.grownBy w' (some b)) := by
   rintro e w' ⟨rfl, g2, cap2, cells, q1, q2, q3, q4, q5, q6, q7⟩
   exact ⟨rfl, g2, cap2, cells, by simpa using q1, q2, q3, q4, by simp [Lib.byteCells], by simpa using q5, q6, q7⟩
  by_cases h64 : n ≤ 64
  ·exact (NM w hD hn h64).mono (fun _ _ h => key h)
  ·exact (TU w hD (by omega) (by simpa using hlim)).mono (fun _ _ h => key h)
 ·refine (VP w hD hg hlc hcm hcs (by rw [htk]; exact Lib.byteCells_one bs) hn hroom hlim).mono ?_
  rintro e w' ⟨rfl, g2, cap2, cells, q1, q2, q3, q4, q5, q6, q7, q8⟩
  exact ⟨rfl, g2, cap2, cells, q1, q2, q3, q4, q5.trans htk, q6, q7, q8⟩
end Go.Proofs.YtgfkgppomaapiaaDoor.K
end

section
namespace Go.Proofs.YtgfkgppomaapiaaDoor.K
open RowKit YtgfkgppomaapiaaDoorW.PrintWords YtgfkgppomaapiaaDoorW.PrintLast YtgfkgppomaapiaaDoorW.PrintMore My
set_option maxHeartbeats 6400000 in
set_option maxRecDepth 100000 in
theorem NW {w : World} {b cap : Nat} {lr lasts room left : Int} {ao : Option Addr} {row : Option Nat} {bs l : List UInt8} {a : Addr} {c : Nat} (hD : Dc w b ao bs.length cap lr lasts room left) (hR : Rw w b ao row cap bs)
  (hC : kb.C w (some a) l.length l) (hab : a.block ≠ b) (hn : 0 < l.length) (hroom : cap - bs.length < l.length) (hlim : bs.length + l.length ≤ 140737488355328) :
  Calls Tryd.prog 113 #[.pointer (some ⟨b, 0, none⟩), .slice (some a) l.length c] w (NR w b row bs l lasts room left) := by
 have hinfo : (Tryd.prog.info? 5).map (·.size) = some 1 := by kernel_rfl
 obtain ⟨hlc, hcm⟩ : bs.length ≤ cap ∧ cap ≤ maxLen := by
  rcases hR with ⟨_, _, rfl, rfl⟩ | ⟨_, _, _, _, _, _, h1, h2, _⟩
  ·exact ⟨Nat.le_refl _, Nat.zero_le _⟩
  ·exact ⟨h1, h2⟩
 have c2 := hD.c2
 have f2 := hD.f 2
 have hD1 := hD.s2 0
 have hR1 : Rw (w.setCell ⟨b, 2, none⟩ (.int .i8 0)) b ao row cap bs := by
  rcases hR with h | ⟨g, cur, h1, h2, h3, h4, h5⟩
  ·exact .inl h
  ·exact .inr ⟨g, cur, h1, h2, h3, jZ h4 (p := ⟨b, 2, none⟩) h3 _, h5⟩
 have hgr1 : w.grownBy (w.setCell ⟨b, 2, none⟩ (.int .i8 0)) (some b) := Lib.grownBy_setCell w b 2 _
 have hgrow := UQ hD1 hR1 (n := l.length) (by omega) hroom hlim
 have hsz1 := hgr1.size
 have hbw := hD.lt
 unfold NR
 go_enter Tryd.func113, Tryd.ntmps113
 go_wp2_with (go_at_call 114; refine (Tryd.Buffer_tryGrow_none_at b 0 _ bs.length cap l.length _ hD1.c0 hlc hcm hroom).mono ?_; rintro e w' ⟨rfl, hw'⟩; subst hw')
 clear hD hR hR1 c2 f2 hD1
 go_wp2_with (go_at_call 115; refine hgrow.mono ?_)
 rintro e W1 ⟨rfl, g2, cap2, cur2, hD2, hg2, hnew, hcs2, htk2, hfit, hcm2, hgr2⟩
 have hgr : w.grownBy W1 (some b) := Lib.grownBy_trans hgr1 hgr2
 have hg2b : g2 ≠ b := by omega
 have hnw : Nw w row (some g2) := fun k e => .inr (by cases e; omega)
 clear hgrow hgr1 hgr2 hnew hcm
 have d0 := hD2.c0
 have hsrc1 : ∀ (j : Nat) (v : Value), (Lib.byteCells l)[j]? = some v → W1.cell? (a.add j) = some v := fun j v hj => hgr.cell (MB hC j v hj) (by rw [Lib.block_add]; exact fun e => hab (Option.some.inj e))
 have hcp := run_copy_row (P := Tryd.prog) W1 33 33 3 5 g2 bs.length l.length (cap2 - bs.length) a l.length c cur2 5 (Lib.byteCells l) Tryd.underlying33 hinfo hg2 (by rw [Lib.byteCells_length]; exact (Nat.min_self _).symm) hsrc1 (by rw [Lib.byteCells_length]; omega) (Lib.byteCells_one l)
 rw [show goInt (Lib.byteCells l).length = .int .i64 (l.length : Int) from by rw [Lib.byteCells_length]; rfl] at hcp
 have hne : ¬ cap2 = bs.length := by omega
 have HW := iC.mk (written hD2 hg2 hg2b hcs2 hcm2 htk2 hfit)
 have HN := iC.mk hnw
 have HG := iC.mk hgr
 unfold maxLen at hcm2
 clear hC hsrc1 hgr hnw htk2
 go_wp2
 go_ret2
 refine ⟨rfl, some g2, by rw [← List.append_assoc]; exact HW.out, HN.out, ?_⟩
 exact Z8 HN.out HG.out _
set_option maxHeartbeats 6400000 in
set_option maxRecDepth 100000 in
theorem NE {w : World} {b cap : Nat} {lr lasts room left : Int} {ao : Option Addr} {row : Option Nat} {bs : List UInt8} {A : Option Addr} {c : Nat} (hD : Dc w b ao bs.length cap lr lasts room left) (hR : Rw w b ao row cap bs) :
  Calls Tryd.prog 113 #[.pointer (some ⟨b, 0, none⟩), .slice A 0 c] w (NR w b row bs [] lasts room left) := by
 have hinfo : (Tryd.prog.info? 5).map (·.size) = some 1 := by kernel_rfl
 obtain ⟨hlc, hcm⟩ : bs.length ≤ cap ∧ cap ≤ maxLen := by
  rcases hR with ⟨_, _, rfl, rfl⟩ | ⟨_, _, _, _, _, _, h1, h2, _⟩
  ·exact ⟨Nat.le_refl _, Nat.zero_le _⟩
  ·exact ⟨h1, h2⟩
 have hce : ∀ d dLen dCap W, (Builtin.copy_ #[33, 33] 3 #[.slice d dLen dCap, .slice A 0 c]).run Tryd.prog W = .ok (goInt 0) W := fun d dLen dCap W => run_copy_none W 33 33 3 5 d A dLen dCap 0 c Tryd.underlying33 hinfo (by simp)
 have c2 := hD.c2
 have f2 := hD.f 2
 have hD1 := hD.s2 0
 have hR1 : Rw (w.setCell ⟨b, 2, none⟩ (.int .i8 0)) b ao row cap bs := by
  rcases hR with h | ⟨g, cur, h1, h2, h3, h4, h5⟩
  ·exact .inl h
  ·exact .inr ⟨g, cur, h1, h2, h3, jZ h4 (p := ⟨b, 2, none⟩) h3 _, h5⟩
 have hgr1 : w.grownBy (w.setCell ⟨b, 2, none⟩ (.int .i8 0)) (some b) := Lib.grownBy_setCell w b 2 _
 unfold NR
 go_enter Tryd.func113, Tryd.ntmps113
 go_wp2_with (go_at_call 114; refine (Tryd.Buffer_tryGrow_room_at b 0 _ bs.length cap 0 _ hD1.c0 (hD1.f 0) hlc hcm (Nat.zero_le _)).mono ?_)
 rintro e W1 ⟨rfl, hW1⟩
 have hD2 : Dc W1 b ao bs.length cap 0 lasts room left := by rw [hW1]; exact hD1.s0 _ _ _
 have hR2 : Rw W1 b ao row cap bs := by
  rw [hW1]
  rcases hR1 with h | ⟨g, cur, h1, h2, h3, h4, h5⟩
  ·exact .inl h
  ·exact .inr ⟨g, cur, h1, h2, h3, jZ h4 (p := ⟨b, 0, none⟩) h3 _, h5⟩
 have hgr : w.grownBy W1 (some b) := by rw [hW1]; exact jK hgr1 0 _
 clear hW1 hD1 hR1 hgr1 c2 f2 hD hR
 have HF := iC.mk (And.intro (show Dk W1 b row (bs ++ []) lasts room left from by rw [List.append_nil]; exact ⟨ao, cap, 0, hD2, hR2⟩) (Kb.of_grown (row := row) hgr))
 rcases hR2 with ⟨rfl, rfl, rfl, rfl⟩ | ⟨g, cur, rfl, rfl, _, _, _, _, _, _⟩
 ·have d0 : W1.cell? ⟨b, 0, none⟩ = some (.slice none 0 0) := hD2.c0
  clear hD2 hgr
  go_wp2
  all_goals (go_ret2; exact ⟨rfl, _, (by first | exact HF.out.1 | simpa using HF.out.1), fun k e => .inl e, HF.out.2⟩)
 ·have d0 := hD2.c0
  clear hD2 hgr
  unfold maxLen at hcm
  go_wp2
  all_goals (go_ret2; exact ⟨rfl, _, (by first | exact HF.out.1 | simpa using HF.out.1), fun k e => .inl e, HF.out.2⟩)
theorem TG {w : World} {b : Nat} {row : Option Nat} {bs l : List UInt8} {lasts room left : Int} {A : Option Addr} {c : Nat} (h : Dk w b row bs lasts room left) (hC : kb.C w A l.length l) (hab : ∀ a, A = some a → 0 < l.length → a.block ≠ b) (hlim : bs.length + l.length ≤ 140737488355328) :
  Calls Tryd.prog 113 #[.pointer (some ⟨b, 0, none⟩), .slice A l.length c] w (NR w b row bs l lasts room left) := by
 obtain ⟨ao, cap, lr, hD, hR⟩ := h
 rcases Nat.eq_zero_or_pos l.length with h0 | h0
 ·obtain rfl := List.eq_nil_of_length_eq_zero h0
  exact NE hD hR
 ·obtain ⟨a, rfl, _⟩ := C_at hC 0 h0
  by_cases hr : cap - bs.length < l.length
  ·exact NW hD hR hC (hab a rfl h0) h0 hr hlim
  ·rcases hR with ⟨_, _, rfl, rfl⟩ | ⟨g, cur, rfl, rfl, h3, h4, h5, h6, h7, h8⟩
   ·exact absurd hr (by simp; omega)
   ·exact NP hD h4 h3 h7 h6 h8 hC (hab a rfl h0) h0 (by omega)
end Go.Proofs.YtgfkgppomaapiaaDoor.K
end

section
namespace Go.Proofs.YtgfkgppomaapiaaDoor.K
open RowKit YtgfkgppomaapiaaDoorW.PrintWords YtgfkgppomaapiaaDoorW.PrintLast YtgfkgppomaapiaaDoorW.PrintMore My
theorem Kb.grown0 {b : Nat} (w : World) : w.grownBy w (some b) := ⟨rfl, rfl, rfl, Nat.le_refl _, fun _ _ _ => rfl⟩
theorem Rw.kept {w w' : World} {b : Nat} {ao : Option Addr} {row : Option Nat} {cap : Nat} {bs : List UInt8} (h : Rw w b ao row cap bs) (hg : w.grownBy w' (some b)) : Rw w' b ao row cap bs := by
 rcases h with h | ⟨g, cur, h1, h2, h3, h4, h5⟩
 ·exact .inl h
 ·exact .inr ⟨g, cur, h1, h2, h3, (hg.block g (jU h4) (fun e => h3 (by injection e))).trans h4, h5⟩
theorem Rw.take {w : World} {b : Nat} {ao : Option Addr} {row : Option Nat} {cap : Nat} {bs : List UInt8} (h : Rw w b ao row cap bs) (n : Nat) : Rw w b ao row cap (bs.take n) := by
 rcases h with ⟨h1, h2, h3, rfl⟩ | ⟨g, cur, h1, h2, h3, h4, h5, h6, h7, h8⟩
 ·exact .inl ⟨h1, h2, h3, List.take_nil⟩
 ·refine .inr ⟨g, cur, h1, h2, h3, h4, by rw [List.length_take]; omega, h6, h7, ?_⟩
  rw [List.length_take, ← List.take_take, h8]
  simp [Lib.byteCells, List.map_take]
set_option maxHeartbeats 3200000 in
theorem QX {w : World} {b cap : Nat} {lr lasts room left : Int} {ao : Option Addr} {row : Option Nat} {bs : List UInt8} (hD : Dc w b ao bs.length cap lr lasts room left) (hR : Rw w b ao row cap bs) :
  Calls Tryd.prog 125 #[.pointer (some ⟨b, 0, none⟩)] w fun e w' => e = .returned (.tuple #[]) ∧ Dk w' b row [] lasts room left ∧ w.grownBy w' (some b) := by
 have HR := iC.mk hR
 have HD := iC.mk hD
 have c0 := hD.c0
 have c1 := hD.c1
 have c2 := hD.c2
 have f0 := hD.f 0
 have f1 := hD.f 1
 have f2 := hD.f 2
 clear hD hR
 rcases HR.out with ⟨rfl, rfl, rfl, rfl⟩ | ⟨g, cur, rfl, rfl, _, _, h5, h6, _, _⟩
 ·go_enter Tryd.func125, Tryd.ntmps125
  go_wp2
  go_end0
  have hg := jK (jK (jK (b := b) (Kb.grown0 w) 0 (.slice none 0 0)) 1 (.int .i64 0)) 2 (.int .i8 0)
  exact ⟨rfl, ⟨none, 0, 0, ((HD.out.s0 none 0 0).s1).s2 0, HR.out.kept hg⟩, hg⟩
 ·unfold maxLen at h6
  go_enter Tryd.func125, Tryd.ntmps125
  go_wp2
  go_end0
  have hg := jK (jK (jK (b := b) (Kb.grown0 w) 0 (.slice (some ⟨g, 0, none⟩) 0 cap)) 1 (.int .i64 0)) 2 (.int .i8 0)
  exact ⟨rfl, ⟨some ⟨g, 0, none⟩, cap, 0, ((HD.out.s0 (some ⟨g, 0, none⟩) 0 cap).s1).s2 0, (HR.out.take 0).kept hg⟩, hg⟩
set_option maxHeartbeats 3200000 in
theorem QQ {w : World} {b n : Nat} {row : Option Nat} {bs : List UInt8} {lasts room left : Int} (h : Dk w b row bs lasts room left) (hn : n ≤ bs.length) (hbs : bs.length ≤ 140737488355328) :
  Calls Tryd.prog 109 #[.pointer (some ⟨b, 0, none⟩), .int .i64 n] w fun e w' => e = .returned (.tuple #[]) ∧ Dk w' b row (bs.take n) lasts room left ∧ w.grownBy w' (some b) := by
 obtain ⟨ao, cap, lr, hD, hR⟩ := h
 rcases Nat.eq_zero_or_pos n with rfl | h0
 ·have hr := QX hD hR
  go_enter Tryd.func109, Tryd.ntmps109
  go_wp2_with (go_at_call 125; refine hr.mono ?_; rintro e w' ⟨rfl, h1, h2⟩)
  refine bodyPost_ret (results_none rfl _ _ _) rfl ?_
  exact ⟨rfl, h1, h2⟩
 ·rcases hR with ⟨rfl, rfl, rfl, rfl⟩ | ⟨g, cur, rfl, rfl, h3, h4, h5, h6, h7, h8⟩
  ·exact absurd hn (by simp; omega)
  ·have HR := iC.mk (show Rw w b (some ⟨g, 0, none⟩) (some g) cap bs from .inr ⟨g, cur, rfl, rfl, h3, h4, h5, h6, h7, h8⟩)
   unfold maxLen at h6
   have c2 := hD.c2
   have f2 := hD.f 2
   have hD1 := hD.s2 0
   have c0 := hD1.c0
   have c1 := hD1.c1
   have f0 := hD1.f 0
   have hlen := nP _ hD1 (by omega)
   have HD := iC.mk hD1
   clear hD hD1 h3 h4 h7 h8
   go_enter Tryd.func109, Tryd.ntmps109
   go_wp2_with (go_at_call 55; refine hlen.mono ?_)
   rintro e W1 ⟨rfl, k, hW1⟩
   have hD2 : Dc W1 b (some ⟨g, 0, none⟩) bs.length cap 0 lasts room left := by rw [hW1]; exact HD.out
   have hg1 : w.grownBy W1 (some b) := by rw [hW1]; exact ⟨rfl, rfl, rfl, (Lib.grownBy_setCell w b 2 (.int .i8 0)).size, (Lib.grownBy_setCell w b 2 (.int .i8 0)).block⟩
   have d0 := hD2.c0
   have d1 := hD2.c1
   have e0 := hD2.f 0
   have HD2 := iC.mk hD2
   have HG := iC.mk hg1
   have mixed : Tryd.prog.follows Departure.mixedOrders = true := by kernel_rfl
   have hwn : IntKind.i64.wrap (n : Int) = n := by rw [IntKind.wrap_i64]; omega
   clear hD2 hg1 hlen hW1 c0 c1 c2 f0 f2
   go_wp2
   go_region_o
   all_goals (
    go_wp2
    go_end0
    have hg := jK (w1 := W1.drew) ⟨HG.out.os, HG.out.tape, HG.out.output, HG.out.size, HG.out.block⟩ 0 (.slice (some ⟨g, 0, none⟩) n cap)
    have hl : (bs.take n).length = n := by rw [List.length_take]; omega
    refine ⟨rfl, ⟨some ⟨g, 0, none⟩, cap, 0, ?_, (HR.out.take n).kept hg⟩, hg⟩
    rw [hl]
    exact Dc.s0 (w := W1.drew) HD2.out _ _ _)
end Go.Proofs.YtgfkgppomaapiaaDoor.K
end

section
namespace Go.Proofs.YtgfkgppomaapiaaDoor.K
open RowKit YtgfkgppomaapiaaDoorW.PrintWords YtgfkgppomaapiaaDoorW.PrintLast YtgfkgppomaapiaaDoorW.PrintMore My
attribute [local go_sem] kF kD kN kM
set_option maxHeartbeats 1600000 in
theorem NK {w : World} {b : Nat} {row : Option Nat} {bs : List UInt8} {lasts room left : Int} (h : Dk w b row bs lasts room left) :
  Calls Tryd.prog 47 #[.pointer (some ⟨b, 0, none⟩)] w fun e w' => e = .returned (.bool (decide (left = 0))) ∧ w' = w := by
 obtain ⟨ao, cap, lr, hD, _⟩ := h
 have c5 := hD.c5
 clear hD
 go_enter Tryd.func47, Tryd.ntmps47
 go_wp2
 go_ret
 exact ⟨by first | rfl | simp, rfl⟩
set_option maxHeartbeats 1600000 in
theorem IM {w : World} {b n : Nat} {row : Option Nat} {bs : List UInt8} {lasts room left : Int} (h : Dk w b row bs lasts room left) (hn : n ≤ bs.length) (hbs : bs.length ≤ 140737488355328) :
  Calls Tryd.prog 87 #[.pointer (some ⟨b, 0, none⟩), .int .i64 n] w fun e w' => e = .returned (.tuple #[]) ∧ Dk w' b row (bs.take n) (mn lasts n) room left ∧ w.grownBy w' (some b) := by
 have ht := QQ h hn hbs
 obtain ⟨ao, cap, lr, hD, _⟩ := h
 go_enter Tryd.func87, Tryd.ntmps87
 go_wp2_with (go_at_call 109; refine ht.mono ?_)
 rintro e W1 ⟨rfl, hK, hG⟩
 clear ht hD
 have HG := iC.mk hG
 obtain ⟨ao1, cap1, lr1, hD1, hR1⟩ := hK
 have c3 := hD1.c3
 have f3 := hD1.f 3
 have HD := iC.mk hD1
 have HR := iC.mk hR1
 clear hD1 hR1 hG
 go_wp2
 all_goals (
  go_end0
  refine ⟨rfl, ⟨ao1, cap1, lr1, ?_, HR.out.kept (jK (b := b) (Kb.grown0 W1) 3 _)⟩, jK HG.out 3 _⟩
  unfold mn
  split <;> first | exact HD.out.s3 _ | (exfalso; omega))
set_option maxHeartbeats 1600000 in
theorem VG {w : World} {b : Nat} {row : Option Nat} {bs : List UInt8} {lasts room left : Int} (n : Int) (h : Dk w b row bs lasts room left) :
  Calls Tryd.prog 46 #[.pointer (some ⟨b, 0, none⟩), .int .i64 n] w fun e w' => e = .returned (.tuple #[]) ∧ Dk w' b row bs lasts room (mx n (-1)) ∧ w.grownBy w' (some b) := by
 obtain ⟨ao, cap, lr, hD, hR⟩ := h
 have c5 := hD.c5
 have f5 := hD.f 5
 have HD := iC.mk hD
 have HR := iC.mk hR
 clear hD hR
 go_enter Tryd.func46, Tryd.ntmps46
 go_wp2
 all_goals (
  go_end0
  refine ⟨rfl, ⟨ao, cap, lr, ?_, HR.out.kept (jK (b := b) (Kb.grown0 w) 5 _)⟩, jK (Kb.grown0 w) 5 _⟩
  unfold mx
  split <;> first | exact HD.out.s5 _ | (exfalso; omega))
end Go.Proofs.YtgfkgppomaapiaaDoor.K
end

section
namespace Go.Proofs.YtgfkgppomaapiaaDoor.K
open RowKit YtgfkgppomaapiaaDoorW.PrintWords YtgfkgppomaapiaaDoorW.PrintLast YtgfkgppomaapiaaDoorW.PrintMore My
theorem Rw.reads {w : World} {b : Nat} {ao : Option Addr} {row : Option Nat} {cap : Nat} {bs : List UInt8} (h : Rw w b ao row cap bs) : kb.C w ao bs.length bs ∧ bs.length ≤ cap ∧ cap ≤ maxLen := by
 rcases h with ⟨rfl, rfl, rfl, rfl⟩ | ⟨g, cur, rfl, rfl, h3, h4, h5, h6, h7, h8⟩
 ·exact ⟨Kd.C_nil _ _, Nat.le_refl _, Nat.zero_le _⟩
 ·have hR : kb.R 5 w 0 (fun _ => True) (.slice (some ⟨g, 0, none⟩) bs.length cap) bs := by
   refine Kd.R_of_own ?_ (fun _ _ => trivial)
   refine ⟨by simp [encs, Lib.byteCells], .inr ⟨g, cap, cur, rfl, Nat.zero_le _, h4, h5, h6, by rw [h7]; show cap = cap * 1; omega, ?_⟩⟩
   show cur.toList.take (bs.length * 1) = _
   rw [Nat.mul_one, h8]
   simp [encs, Lib.byteCells]
  exact ⟨(kb_R hR).2.2, h5, h6⟩
set_option maxHeartbeats 3200000 in
theorem QW {w : World} {b cap : Nat} {lr lasts room left : Int} {ao : Option Addr} {row : Option Nat} {bs : List UInt8} (hD : Dc w b ao bs.length cap lr lasts room left) (hR : Rw w b ao row cap bs) :
  Calls Tryd.prog 56 #[.pointer (some ⟨b, 0, none⟩)] w fun e w' => e = .returned (.slice ao bs.length cap) ∧ ∃ n, w' = w.drewN n := by
 have mixed : Tryd.prog.follows Departure.mixedOrders = true := by kernel_rfl
 have c0 := hD.c0
 have c1 := hD.c1
 rcases hR with ⟨rfl, rfl, rfl, rfl⟩ | ⟨g, cur, rfl, rfl, _, _, h5, h6, _, _⟩
 ·clear hD
  go_enter Tryd.func56, Tryd.ntmps56
  go_wp2
  go_region_o
  all_goals (go_wp2; go_ret; exact ⟨rfl, 1, rfl⟩)
 ·clear hD
  unfold maxLen at h6
  go_enter Tryd.func56, Tryd.ntmps56
  go_wp2
  go_region_o
  all_goals (go_wp2; go_ret; exact ⟨by simp, 1, rfl⟩)
theorem oD {b : Nat} {row : Option Nat} {w : World} {bs : List UInt8} {lasts room left : Int} (h : Dk w b row bs lasts room left) (n : Nat) : Dk (w.drewN n) b row bs lasts room left := h
set_option maxHeartbeats 3200000 in
theorem UE {w : World} {b : Nat} {row : Option Nat} {bs : List UInt8} {lasts room left : Int} (h : Dk w b row bs lasts room left) (hbs : bs.length ≤ 140737488355327) :
  Calls Tryd.prog 40 #[.pointer (some ⟨b, 0, none⟩)] w fun e w' => ∃ v, e = .returned v ∧ OB w' w.heap.size v bs ∧ Below w.heap.size w w' := by
 obtain ⟨ao, cap, lr, hD, hR⟩ := h
 have hb := QW hD hR
 obtain ⟨hC, hc, _⟩ := hR.reads
 clear hD hR
 have HC := iC.mk hC
 clear hC
 go_enter Tryd.func40, Tryd.ntmps40
 go_wp2_with (go_at_call 56; refine hb.mono ?_)
 rintro e W1 ⟨rfl, k, hW1⟩
 have hbel : Below w.heap.size w W1 := by rw [hW1]; exact iF (Below.refl _ _) k
 have hcl := IW ao cap bs W1 (Kd.C_below HC.out hbel) hc hbs
 have HB := iC.mk hbel
 clear hW1 hbel hb
 go_wp2_with (go_at_call 86; refine hcl.mono ?_)
 rintro e w2 ⟨v, rfl, hv, hb2⟩
 have HV := iC.mk hv
 have HB2 := iC.mk hb2
 clear hcl hv hb2
 go_wp2
 go_ret
 exact ⟨v, rfl, HV.out.lower (iQ HB.out), iK HB.out HB2.out⟩
end Go.Proofs.YtgfkgppomaapiaaDoor.K
end

section
namespace Go.Proofs.YtgfkgppomaapiaaDoor.K
open RowKit YtgfkgppomaapiaaDoorW.PrintWords YtgfkgppomaapiaaDoorW.PrintLast YtgfkgppomaapiaaDoorW.PrintMore My
theorem ZP (x y : Int) : Builtin.max2 (.int .i64 x) (.int .i64 y) = pure (.int .i64 (mx x y)) := kF _ _ x y
theorem j5_ (x y : Int) : Builtin.min2 (.int .i64 x) (.int .i64 y) = pure (.int .i64 (mn x y)) := kD _ _ x y
attribute [local go_sem] ZP j5_ kN kM
set_option maxHeartbeats 6400000 in
set_option maxRecDepth 20000 in
theorem QU {w : World} {b k : Nat} {row : Option Nat} {bs : List UInt8} {lasts room left : Int} (keep : Int) (h : Dk w b row bs lasts room left) (hbs : bs.length ≤ 140737488355327) (hl0 : 0 ≤ lasts) (hl1 : lasts ≤ bs.length) (hk : (k : Int) = lasts + mn (mx keep 0) (bs.length - lasts)) :
  Calls Tryd.prog 43 #[.pointer (some ⟨b, 0, none⟩), .int .i64 keep] w fun e w' => e = .returned (.tuple #[]) ∧ Dk w' b row (bs.take k) k room (-1) ∧ w.grownBy w' (some b) := by
 have mixed : Tryd.prog.follows Departure.mixedOrders = true := by kernel_rfl
 have HK := iC.mk h
 obtain ⟨ao, cap, lr, hD, hR⟩ := h
 have HD := iC.mk hD
 have c3 := hD.c3
 have hlen := fun n => nP (w.drewN n) (show Dc (w.drewN n) b ao bs.length cap lr lasts room left from hD) (by omega)
 have hkl : k ≤ bs.length := by unfold mn mx at hk; split at hk <;> split at hk <;> omega
 have hlv := fun n => IM (w := w.drewN n) (oD HK.out n) hkl (by omega)
 have hw1 : IntKind.i64.wrap ((bs.length : Int) - lasts) = bs.length - lasts := by rw [IntKind.wrap_i64]; omega
 have hw2 : IntKind.i64.wrap (lasts + mn (mx keep 0) ((bs.length : Int) - lasts)) = k := by rw [← hk, IntKind.wrap_i64]; omega
 have HKK := iC.mk hk
 clear hD hR hk
 go_enter Tryd.func43, Tryd.ntmps43
 go_wp2
 go_quiet ((go_at_call 55; exact Calls.quiet_of (hlen _)))
 go_wp2_with (go_at_call 87; refine (hlv _).mono ?_)
 rintro e W1 ⟨rfl, hK1, hG1⟩
 have hG2 : w.grownBy W1 (some b) := Lib.grownBy_trans (lY (Kb.grown0 w) (iF (Below.refl _ _) nq)) hG1
 have HG := iC.mk hG2
 obtain ⟨ao1, cap1, lr1, hD1, hR1⟩ := hK1
 have hkb : (bs.take k).length = k := by rw [List.length_take]; omega
 rw [hkb] at hD1
 have HD1 := iC.mk hD1
 have HR1 := iC.mk hR1
 have hlen1 := nP W1 hD1 (by omega)
 clear hlv hlen hG1 hG2 hD1 hR1 c3 hw1 hw2 hkb
 go_wp2_with (go_at_call 55; refine hlen1.mono ?_)
 rintro e W2 ⟨rfl, q, hq⟩
 have hD2 : Dc W2 b ao1 k cap1 lr1 (mn lasts k) room left := by rw [hq]; exact HD1.out
 have hG2 : W1.grownBy W2 (some b) := by rw [hq]; exact lY (Kb.grown0 _) (iF (Below.refl _ _) q)
 have d3 := hD2.c3
 have d5 := hD2.c5
 have f3 := hD2.f 3
 have f5 := hD2.f 5
 have HD2 := iC.mk hD2
 have HG2 := iC.mk hG2
 clear hq hlen1 hD2 hG2
 go_wp2
 go_end0
 have hg := jK (jK HG2.out 3 (.int .i64 k)) 5 (.int .i64 (-1))
 refine ⟨rfl, ⟨ao1, cap1, lr1, ?_, HR1.out.kept hg⟩, Lib.grownBy_trans HG.out hg⟩
 rw [show (bs.take k).length = k by rw [List.length_take]; omega]
 exact (HD2.out.s3 k).s5 (-1)
end Go.Proofs.YtgfkgppomaapiaaDoor.K
end

section
namespace Go.Proofs.YtgfkgppomaapiaaDoor.K
open RowKit YtgfkgppomaapiaaDoorW.PrintWords YtgfkgppomaapiaaDoorW.PrintLast YtgfkgppomaapiaaDoorW.PrintMore My
def dec (left : Int) : Int := if 0 < left then left - 1 else left
theorem NI {left : Int} (h : 0 < left) : dec left = left - 1 := if_pos h
theorem OY {left : Int} (h : ¬ 0 < left) : dec left = left := if_neg h
def EQ (Q : Int → World → Prop) (e : Ending) (w' : World) : Prop := ∃ n : Int, e = .returned (.int .u16 n) ∧ Q n w'
theorem Dk.left_eq {w : World} {b : Nat} {row : Option Nat} {bs : List UInt8} {lasts room left left' : Int} (h : Dk w b row bs lasts room left) (e : left = left') : Dk w b row bs lasts room left' := e ▸ h
theorem Dk.set_left {w : World} {b : Nat} {row : Option Nat} {bs : List UInt8} {lasts room left : Int} (h : Dk w b row bs lasts room left) (x : Int) : Dk (w.setCell ⟨b, 5, none⟩ (.int .i64 x)) b row bs lasts room x := by
 obtain ⟨ao, cap, lr, hD, hR⟩ := h
 exact ⟨ao, cap, lr, hD.s5 x, hR.kept (jK (b := b) (Kb.grown0 w) 5 _)⟩
set_option maxHeartbeats 1600000 in
theorem VE {w : World} {b : Nat} {row : Option Nat} {bs : List UInt8} {lasts room left : Int} (v : Value) (h : Dk w b row bs lasts room left) (h0 : left = 0) :
  Calls Tryd.prog 106 #[.pointer (some ⟨b, 0, none⟩), v] w fun e w' => e = .returned (.int .u16 100) ∧ w' = w := by
 subst h0
 obtain ⟨ao, cap, lr, hD, _⟩ := h
 have c5 := hD.c5
 clear hD
 go_enter Tryd.func106, Tryd.ntmps106
 go_wp2
 go_ret
 exact ⟨rfl, rfl⟩
set_option maxHeartbeats 3200000 in
theorem XD {w : World} {b : Nat} {row : Option Nat} {bs : List UInt8} {lasts room left : Int} (x y : Value) {Q : Int → World → Prop} (h : Dk w b row bs lasts room left) (h0 : left ≠ 0) (hr : left ≤ 9223372036854775807) (hdo : ∀ w1, Dk w1 b row bs lasts room (dec left) → w.grownBy w1 (some b) → Calls Tryd.prog 112 #[x, y] w1 (EQ Q)) :
  Calls Tryd.prog 106 #[.pointer (some ⟨b, 0, none⟩), .func (.func 112) #[] #[x, y]] w (EQ Q) := by
 have HK := iC.mk h
 obtain ⟨ao, cap, lr, hD, _⟩ := h
 have c5 := hD.c5
 have f5 := hD.f 5
 clear hD
 have hne : (left == 0) = false := by simpa using h0
 clear h0
 by_cases hp : 0 < left
 ·have hdo1 := hdo _ ((HK.out.set_left (left - 1)).left_eq (NI hp).symm) (jK (b := b) (Kb.grown0 w) 5 (.int .i64 (left - 1)))
  clear hdo
  go_enter Tryd.func106, Tryd.ntmps106
  go_wp2_with (go_at_call 112; refine hdo1.mono ?_)
  rintro e w2 ⟨n, rfl, hq⟩
  have HQ := iC.mk hq
  clear hq hdo1
  go_wp2
  go_ret
  exact ⟨n, rfl, HQ.out⟩
 ·have hdo1 := hdo _ (HK.out.left_eq (OY hp).symm) (Kb.grown0 w)
  clear hdo
  go_enter Tryd.func106, Tryd.ntmps106
  go_wp2_with (go_at_call 112; refine hdo1.mono ?_)
  rintro e w2 ⟨n, rfl, hq⟩
  have HQ := iC.mk hq
  clear hq hdo1
  go_wp2
  go_ret
  exact ⟨n, rfl, HQ.out⟩
set_option maxHeartbeats 3200000 in
theorem YF {w : World} {b : Nat} {row : Option Nat} {bs : List UInt8} {lasts room left : Int} (x y : Value) {Q : Int → World → Prop} (h : Dk w b row bs lasts room left) (h0 : left ≠ 0) (hr : left ≤ 9223372036854775807) (hdo : ∀ w1, Dk w1 b row bs lasts room (dec left) → w.grownBy w1 (some b) → Calls Tryd.prog 108 #[x] w1 (EQ Q)) :
  Calls Tryd.prog 106 #[.pointer (some ⟨b, 0, none⟩), .func (.func 108) #[] #[x]] w (EQ Q) := by
 have HK := iC.mk h
 obtain ⟨ao, cap, lr, hD, _⟩ := h
 have c5 := hD.c5
 have f5 := hD.f 5
 clear hD
 have hne : (left == 0) = false := by simpa using h0
 clear h0
 by_cases hp : 0 < left
 ·have hdo1 := hdo _ ((HK.out.set_left (left - 1)).left_eq (NI hp).symm) (jK (b := b) (Kb.grown0 w) 5 (.int .i64 (left - 1)))
  clear hdo
  go_enter Tryd.func106, Tryd.ntmps106
  go_wp2_with (go_at_call 108; refine hdo1.mono ?_)
  rintro e w2 ⟨n, rfl, hq⟩
  have HQ := iC.mk hq
  clear hq hdo1
  go_wp2
  go_ret
  exact ⟨n, rfl, HQ.out⟩
 ·have hdo1 := hdo _ (HK.out.left_eq (OY hp).symm) (Kb.grown0 w)
  clear hdo
  go_enter Tryd.func106, Tryd.ntmps106
  go_wp2_with (go_at_call 108; refine hdo1.mono ?_)
  rintro e w2 ⟨n, rfl, hq⟩
  have HQ := iC.mk hq
  clear hq hdo1
  go_wp2
  go_ret
  exact ⟨n, rfl, HQ.out⟩
set_option maxHeartbeats 3200000 in
theorem X9 {w : World} {b : Nat} {row : Option Nat} {bs : List UInt8} {lasts room left : Int} (x y : Value) {Q : Int → World → Prop} (h : Dk w b row bs lasts room left) (h0 : left ≠ 0) (hr : left ≤ 9223372036854775807) (hdo : ∀ w1, Dk w1 b row bs lasts room (dec left) → w.grownBy w1 (some b) → Calls Tryd.prog 107 #[x, y] w1 (EQ Q)) :
  Calls Tryd.prog 106 #[.pointer (some ⟨b, 0, none⟩), .func (.func 107) #[] #[x, y]] w (EQ Q) := by
 have HK := iC.mk h
 obtain ⟨ao, cap, lr, hD, _⟩ := h
 have c5 := hD.c5
 have f5 := hD.f 5
 clear hD
 have hne : (left == 0) = false := by simpa using h0
 clear h0
 by_cases hp : 0 < left
 ·have hdo1 := hdo _ ((HK.out.set_left (left - 1)).left_eq (NI hp).symm) (jK (b := b) (Kb.grown0 w) 5 (.int .i64 (left - 1)))
  clear hdo
  go_enter Tryd.func106, Tryd.ntmps106
  go_wp2_with (go_at_call 107; refine hdo1.mono ?_)
  rintro e w2 ⟨n, rfl, hq⟩
  have HQ := iC.mk hq
  clear hq hdo1
  go_wp2
  go_ret
  exact ⟨n, rfl, HQ.out⟩
 ·have hdo1 := hdo _ (HK.out.left_eq (OY hp).symm) (Kb.grown0 w)
  clear hdo
  go_enter Tryd.func106, Tryd.ntmps106
  go_wp2_with (go_at_call 107; refine hdo1.mono ?_)
  rintro e w2 ⟨n, rfl, hq⟩
  have HQ := iC.mk hq
  clear hq hdo1
  go_wp2
  go_ret
  exact ⟨n, rfl, HQ.out⟩
end Go.Proofs.YtgfkgppomaapiaaDoor.K
end

section
namespace Go.Proofs.YtgfkgppomaapiaaDoor.K
open RowKit YtgfkgppomaapiaaDoorW.PrintWords YtgfkgppomaapiaaDoorW.PrintLast YtgfkgppomaapiaaDoorW.PrintMore My
def apB (bs l : List UInt8) (room : Int) : List UInt8 := if room - bs.length < l.length then bs else bs ++ l
def apE (bs l : List UInt8) (room : Int) : Int := if room - bs.length < l.length then 100 else 0
def DQ (w : World) (b : Nat) (row : Option Nat) (n : Int) (bs : List UInt8) (lasts room left : Int) (m : Int) (w' : World) : Prop :=
 m = n ∧ ∃ row', Dk w' b row' bs lasts room left ∧ Nw w row row' ∧ Kb b row w w'
theorem DQ.old {w w1 w' : World} {b : Nat} {row : Option Nat} {n : Int} {bs : List UInt8} {lasts room left m : Int} (h : DQ w1 b row n bs lasts room left m w') (hk : Kb b row w w1) : DQ w b row n bs lasts room left m w' := by
 obtain ⟨e, row', h1, h2, h3⟩ := h
 have hn : Nw w row row := fun k e => .inl e
 exact ⟨e, row', h1, fun k e => (h2 k e).imp id (fun h => Nat.le_trans hk.size h), hk.trans hn h3⟩
theorem Kb.of_below {b : Nat} {row : Option Nat} {w w' : World} (h : Below w.heap.size w w') : Kb b row w w' :=
 ⟨h.os, h.tape, h.output, h.size, fun k hk _ _ => h.block k hk⟩
theorem Rw.below {w w' : World} {b : Nat} {ao : Option Addr} {row : Option Nat} {cap : Nat} {bs : List UInt8} (h : Rw w b ao row cap bs) (hb : Below w.heap.size w w') : Rw w' b ao row cap bs := by
 rcases h with h | ⟨g, cur, h1, h2, h3, h4, h5⟩
 ·exact .inl h
 ·exact .inr ⟨g, cur, h1, h2, h3, (hb.block g (jU h4)).trans h4, h5⟩
theorem Dk.below {w w' : World} {b : Nat} {row : Option Nat} {bs : List UInt8} {lasts room left : Int} (h : Dk w b row bs lasts room left) (hb : Below w.heap.size w w') : Dk w' b row bs lasts room left := by
 obtain ⟨ao, cap, lr, hD, hR⟩ := h
 exact ⟨ao, cap, lr, hD.below hb, hR.below hb⟩
theorem Dk.lt {w : World} {b : Nat} {row : Option Nat} {bs : List UInt8} {lasts room left : Int} (h : Dk w b row bs lasts room left) : b < w.heap.size := by
 obtain ⟨ao, cap, lr, hD, hR⟩ := h
 exact hD.lt
set_option maxHeartbeats 3200000 in
theorem XW {w : World} {b x y : Nat} {row : Option Nat} {bs l : List UInt8} {lasts room left : Int} {A : Option Addr} {c : Nat} (h : Dk w b row bs lasts room left) (hx : w.cell? ⟨x, 0, none⟩ = some (.slice A l.length c)) (hy : w.cell? ⟨y, 0, none⟩ = some (.pointer (some ⟨b, 0, none⟩)))
  (hC : kb.C w A l.length l) (hab : ∀ a, A = some a → 0 < l.length → a.block ≠ b) (hbs : (bs.length : Int) ≤ room) (hroom : room ≤ 1048576) (hl : l.length ≤ 140737480000000) :
  Calls Tryd.prog 112 #[.pointer (some ⟨x, 0, none⟩), .pointer (some ⟨y, 0, none⟩)] w (EQ (DQ w b row (apE bs l room) (apB bs l room) lasts room left)) := by
 have mixed : Tryd.prog.follows Departure.mixedOrders = true := by kernel_rfl
 have hwr := fun n => TG (w := w.drewN n) (c := c) (oD h n) hC hab (by omega)
 have HK := iC.mk h
 obtain ⟨ao, cap, lr, hD, hR⟩ := h
 have c4 := hD.c4
 have hlen := fun n => nP (w.drewN n) (show Dc (w.drewN n) b ao bs.length cap lr lasts room left from hD) (by omega)
 have hw1 : IntKind.i64.wrap (room - (bs.length : Int)) = room - bs.length := by rw [IntKind.wrap_i64]; omega
 clear hD hR
 by_cases hp : room - (bs.length : Int) < l.length
 ·have hE : apE bs l room = 100 := if_pos hp
  have hB : apB bs l room = bs := if_pos hp
  rw [hE, hB]
  clear hwr hE hB
  go_enter Tryd.func112, Tryd.ntmps112
  go_wp2
  go_quiet ((go_at_call 55; exact Calls.quiet_of (hlen _)))
  go_wp2
  go_ret
  exact ⟨100, rfl, rfl, row, oD HK.out _, fun k e => .inl e, Kb.of_below (iF (Below.refl _ _) _)⟩
 ·have hE : apE bs l room = 0 := if_neg hp
  have hB : apB bs l room = bs ++ l := if_neg hp
  rw [hE, hB]
  clear hE hB
  go_enter Tryd.func112, Tryd.ntmps112
  go_wp2
  go_quiet ((go_at_call 55; exact Calls.quiet_of (hlen _)))
  go_wp2
  go_region_with_o (
   go_at_call 113
   refine (hwr _).mono ?_
   rintro e w1 ⟨rfl, hq⟩)
  all_goals (
   go_wp2
   go_ret
   obtain ⟨row', h1, h2, h3⟩ := hq
   exact ⟨0, rfl, rfl, row', h1, h2, (Kb.of_below (iF (Below.refl _ _) _)).trans (fun k e => .inl e) h3⟩)
theorem ZJ {w w1 : World} {b : Nat} {A : Option Addr} {n : Nat} {l : List UInt8} (h : kb.C w A n l) (hg : w.grownBy w1 (some b)) (hab : ∀ a, A = some a → 0 < l.length → a.block ≠ b) : kb.C w1 A n l :=
 Kd.C_keep (0 : UInt8) h ⟨hg.size, fun i hi hne _ => hg.block i hi (fun e => hne (Option.some.inj e))⟩ (fun a e hn => hab a e (by rw [h.1]; exact hn))
theorem cell_grown {w w1 : World} {b : Nat} {x : Nat} {v : Value} (h : w.cell? ⟨x, 0, none⟩ = some v) (hg : w.grownBy w1 (some b)) (hx : x ≠ b) : w1.cell? ⟨x, 0, none⟩ = some v :=
 hg.cell h (fun e => hx (Option.some.inj e))
set_option maxHeartbeats 3200000 in
theorem O9 {w : World} {b : Nat} {row : Option Nat} {bs l : List UInt8} {lasts room left : Int} {A : Option Addr} {c : Nat} (h : Dk w b row bs lasts room left)
  (hC : kb.C w A l.length l) (hab : ∀ a, A = some a → 0 < l.length → a.block ≠ b) (hbs : (bs.length : Int) ≤ room) (hroom : room ≤ 1048576) (hl : l.length ≤ 140737480000000) (hlf : left ≤ 9223372036854775807) :
  Calls Tryd.prog 89 #[.pointer (some ⟨b, 0, none⟩), .slice A l.length c] w (EQ (DQ w b row (if left = 0 then 100 else apE bs l room) (if left = 0 then bs else apB bs l room) lasts room (dec left))) := by
 generalize hE : (if left = 0 then 100 else apE bs l room) = E
 generalize hB : (if left = 0 then bs else apB bs l room) = B
 have hbel : Below w.heap.size w ((w.alloc (.cells #[.pointer (some ⟨b, 0, none⟩)] 68)).alloc (.cells #[.slice A l.length c] 33)) := ((Below.refl _ _).alloc (Nat.le_refl _) _).alloc (by simp) _
 have hK := h.below hbel
 have hC1 := Kd.C_below hC hbel
 have hy : ((w.alloc (.cells #[.pointer (some ⟨b, 0, none⟩)] 68)).alloc (.cells #[.slice A l.length c] 33)).cell? ⟨w.heap.size, 0, none⟩ = some (.pointer (some ⟨b, 0, none⟩)) := by go_simp
 have hx : ((w.alloc (.cells #[.pointer (some ⟨b, 0, none⟩)] 68)).alloc (.cells #[.slice A l.length c] 33)).cell? ⟨w.heap.size + 1, 0, none⟩ = some (.slice A l.length c) := by go_simp
 have hlt := h.lt
 have HB := iC.mk hbel
 obtain ⟨W, hW⟩ : ∃ W, W = (w.alloc (.cells #[.pointer (some ⟨b, 0, none⟩)] 68)).alloc (.cells #[.slice A l.length c] 33) := ⟨_, rfl⟩
 have key : Calls Tryd.prog 106 #[.pointer (some ⟨b, 0, none⟩), .func (.func 112) #[] #[.pointer (some ⟨w.heap.size + 1, 0, none⟩), .pointer (some ⟨w.heap.size, 0, none⟩)]] W (EQ (DQ w b row E B lasts room (dec left))) := by
  rw [← hE, ← hB]
  rw [← hW] at hK hC1 hx hy hbel
  by_cases h0 : left = 0
  ·refine (VE _ hK h0).mono ?_
   rintro e w' ⟨rfl, rfl⟩
   exact ⟨100, rfl, by rw [if_pos h0], row, by rw [if_pos h0, h0, show dec 0 = 0 from rfl]; rwa [h0] at hK, fun k e => .inl e, Kb.of_below hbel⟩
  ·refine XD _ _ hK h0 hlf (fun w1 hk1 hg1 => ?_)
   have h1 := XW (x := w.heap.size + 1) (y := w.heap.size) (c := c) hk1 (cell_grown hx hg1 (by omega)) (cell_grown hy hg1 (by omega)) (ZJ hC1 hg1 hab) hab hbs hroom hl
   refine h1.mono ?_
   rintro e w' ⟨n, rfl, hq⟩
   refine ⟨n, rfl, ?_⟩
   rw [if_neg h0, if_neg h0]
   exact hq.old ((Kb.of_below hbel).trans (fun k e => .inl e) (Kb.of_grown hg1))
 rw [hW] at key
 clear hK hC1 hC hbel h hW hx hy hE hB hl hlf hroom hbs hlt hab
 go_enter Tryd.func89, Tryd.ntmps89
 go_wp2_with (go_at_call 106; refine key.mono ?_)
 rintro e w2 ⟨n, rfl, hq⟩
 have HQ := iC.mk hq
 clear hq key
 go_wp2
 go_ret
 exact ⟨n, rfl, HQ.out⟩
set_option maxHeartbeats 3200000 in
theorem TJ {w : World} {b x : Nat} {row : Option Nat} {bs : List UInt8} {lasts room left : Int} (h : Dk w b row bs lasts room left) (hx : w.cell? ⟨x, 0, none⟩ = some (.pointer (some ⟨b, 0, none⟩))) (hbs : bs.length ≤ 1048576) (hxb : x ≠ b) :
  Calls Tryd.prog 108 #[.pointer (some ⟨x, 0, none⟩)] w (EQ (DQ w b row 0 bs bs.length room left)) := by
 have mixed : Tryd.prog.follows Departure.mixedOrders = true := by kernel_rfl
 have HK := iC.mk h
 obtain ⟨ao, cap, lr, hD, hR⟩ := h
 have HD := iC.mk hD
 have HR := iC.mk hR
 have f3 := hD.f 3
 have hlen := fun n => nP (w.drewN n) (show Dc (w.drewN n) b ao bs.length cap lr lasts room left from hD) (by omega)
 clear hD hR
 go_enter Tryd.func108, Tryd.ntmps108
 go_wp2
 go_region_with_o (
  go_at_call 55
  refine (nP (b := b) (l := bs.length) (ao := ao) (cap := cap) (lr := lr) (lasts := lasts) (room := room) (left := left) _ ?_ (by omega)).mono ?_
  exact HD.out
  rintro e w1 ⟨rfl, q, hq⟩
  have hD2 : Dc w1 b ao bs.length cap lr lasts room left := by rw [hq]; exact HD.out
  have hG2 : w.grownBy w1 (some b) := by rw [hq]; exact lY (w1 := w.drew) (by exact ⟨rfl, rfl, rfl, Nat.le_refl _, fun _ _ _ => rfl⟩) (iF (Below.refl _ _) _)
  have hx2 := cell_grown hx hG2 hxb
  have d3 := hD2.c3
  have e3 := hD2.f 3
  have HD2 := iC.mk hD2
  have HG2 := iC.mk hG2
  clear hq hD2 hG2)
 all_goals (
  go_wp2
  go_ret
  exact ⟨0, rfl, rfl, row, ⟨ao, cap, lr, HD2.out.s3 _, HR.out.kept (jK (b := b) HG2.out 3 _)⟩, fun k e => .inl e, Kb.of_grown (jK HG2.out 3 _)⟩)
set_option maxHeartbeats 3200000 in
theorem TR {w : World} {b : Nat} {row : Option Nat} {bs : List UInt8} {lasts room left : Int} (h : Dk w b row bs lasts room left) (hbs : bs.length ≤ 1048576) (hlf : left ≤ 9223372036854775807) :
  Calls Tryd.prog 85 #[.pointer (some ⟨b, 0, none⟩)] w (EQ (DQ w b row (if left = 0 then 100 else 0) bs (if left = 0 then lasts else bs.length) room (dec left))) := by
 generalize hE : (if left = 0 then 100 else 0 : Int) = E
 generalize hB : (if left = 0 then lasts else (bs.length : Int)) = B
 have hbel : Below w.heap.size w (w.alloc (.cells #[.pointer (some ⟨b, 0, none⟩)] 68)) := (Below.refl _ _).alloc (Nat.le_refl _) _
 have hK := h.below hbel
 have hy : (w.alloc (.cells #[.pointer (some ⟨b, 0, none⟩)] 68)).cell? ⟨w.heap.size, 0, none⟩ = some (.pointer (some ⟨b, 0, none⟩)) := by go_simp
 have hlt := h.lt
 have HB := iC.mk hbel
 obtain ⟨W, hW⟩ : ∃ W, W = w.alloc (.cells #[.pointer (some ⟨b, 0, none⟩)] 68) := ⟨_, rfl⟩
 have key : Calls Tryd.prog 106 #[.pointer (some ⟨b, 0, none⟩), .func (.func 108) #[] #[.pointer (some ⟨w.heap.size, 0, none⟩)]] W (EQ (DQ w b row E bs B room (dec left))) := by
  rw [← hE, ← hB]
  rw [← hW] at hK hy hbel
  by_cases h0 : left = 0
  ·refine (VE _ hK h0).mono ?_
   rintro e w' ⟨rfl, rfl⟩
   exact ⟨100, rfl, by rw [if_pos h0], row, by rw [if_pos h0, h0, show dec 0 = 0 from rfl]; rwa [h0] at hK, fun k e => .inl e, Kb.of_below hbel⟩
  ·refine YF _ (.bool true) hK h0 hlf (fun w1 hk1 hg1 => ?_)
   have h1 := TJ (x := w.heap.size) hk1 (cell_grown hy hg1 (by omega)) hbs (by omega)
   refine h1.mono ?_
   rintro e w' ⟨n, rfl, hq⟩
   refine ⟨n, rfl, ?_⟩
   rw [if_neg h0, if_neg h0]
   exact hq.old ((Kb.of_below hbel).trans (fun k e => .inl e) (Kb.of_grown hg1))
 rw [hW] at key
 clear hK hbel h hW hy hE hB hlf hbs hlt
 go_enter Tryd.func85, Tryd.ntmps85
 go_wp2_with (go_at_call 106; refine key.mono ?_)
 rintro e w2 ⟨n, rfl, hq⟩
 have HQ := iC.mk hq
 clear hq key
 go_wp2
 go_ret
 exact ⟨n, rfl, HQ.out⟩
end Go.Proofs.YtgfkgppomaapiaaDoor.K
end

section
namespace Go.Proofs.YtgfkgppomaapiaaDoor.K
open RowKit YtgfkgppomaapiaaDoorW.PrintWords YtgfkgppomaapiaaDoorW.PrintLast YtgfkgppomaapiaaDoorW.PrintMore My
def ctB (bs : List UInt8) (n : Int) : List UInt8 := if n < 0 ∨ (bs.length : Int) < n then bs else bs.take n.toNat
def ctE (bs : List UInt8) (n : Int) : Int := if n < 0 ∨ (bs.length : Int) < n then 1 else 0
def ctL (bs : List UInt8) (lasts n : Int) : Int := if n < 0 ∨ (bs.length : Int) < n then lasts else mn lasts n
set_option maxHeartbeats 3200000 in
theorem X7 {w : World} {b x y : Nat} {row : Option Nat} {bs : List UInt8} {lasts room left : Int} (n : Int) (h : Dk w b row bs lasts room left) (hx : w.cell? ⟨x, 0, none⟩ = some (.int .i64 n)) (hy : w.cell? ⟨y, 0, none⟩ = some (.pointer (some ⟨b, 0, none⟩))) (hbs : bs.length ≤ 1048576) :
  Calls Tryd.prog 107 #[.pointer (some ⟨x, 0, none⟩), .pointer (some ⟨y, 0, none⟩)] w (EQ (DQ w b row (ctE bs n) (ctB bs n) (ctL bs lasts n) room left)) := by
 have mixed : Tryd.prog.follows Departure.mixedOrders = true := by kernel_rfl
 have HK := iC.mk h
 obtain ⟨ao, cap, lr, hD, hR⟩ := h
 have hlen := fun n => nP (w.drewN n) (show Dc (w.drewN n) b ao bs.length cap lr lasts room left from hD) (by omega)
 clear hD hR
 by_cases hn : n < 0
 ·have hE : ctE bs n = 1 := if_pos (.inl hn)
  have hB : ctB bs n = bs := if_pos (.inl hn)
  have hL : ctL bs lasts n = lasts := if_pos (.inl hn)
  rw [hE, hB, hL]
  clear hE hB hL
  go_enter Tryd.func107, Tryd.ntmps107
  go_wp2
  go_quiet (fail)
  go_wp2
  go_ret
  exact ⟨1, rfl, rfl, row, oD HK.out _, fun k e => .inl e, Kb.of_below (iF (Below.refl _ _) _)⟩
 ·obtain ⟨m, rfl⟩ : ∃ m : Nat, n = m := ⟨n.toNat, by omega⟩
  by_cases hm : (bs.length : Int) < m
  ·have hE : ctE bs m = 1 := if_pos (.inr hm)
   have hB : ctB bs m = bs := if_pos (.inr hm)
   have hL : ctL bs lasts m = lasts := if_pos (.inr hm)
   rw [hE, hB, hL]
   clear hE hB hL
   have hd : decide ((m : Int) < 0) = false := by simp
   go_enter Tryd.func107, Tryd.ntmps107
   go_wp2
   go_quiet ((go_at_call 55; exact Calls.quiet_of (hlen _)))
   go_wp2
   go_ret
   exact ⟨1, rfl, rfl, row, oD HK.out _, fun k e => .inl e, Kb.of_below (iF (Below.refl _ _) _)⟩
  ·have hor : ¬ ((m : Int) < 0 ∨ (bs.length : Int) < m) := by omega
   have hE : ctE bs m = 0 := if_neg hor
   have hB : ctB bs m = bs.take m := (if_neg hor).trans (by rw [Int.toNat_natCast])
   have hL : ctL bs lasts m = mn lasts m := if_neg hor
   rw [hE, hB, hL]
   clear hE hB hL hor
   have hd : decide ((m : Int) < 0) = false := by simp
   have hlv := fun k => IM (w := w.drewN k) (n := m) (oD HK.out k) (by omega) (by omega)
   go_enter Tryd.func107, Tryd.ntmps107
   go_wp2
   go_quiet ((go_at_call 55; exact Calls.quiet_of (hlen _)))
   go_wp2_with (go_at_call 87; refine (hlv _).mono ?_)
   rintro e w1 ⟨rfl, h1, h2⟩
   have H1 := iC.mk h1
   have H2 := iC.mk h2
   clear h1 h2 hlv hlen
   go_wp2
   go_ret
   exact ⟨0, rfl, rfl, row, H1.out, fun k e => .inl e, (Kb.of_below (iF (Below.refl _ _) _)).trans (fun k e => .inl e) (Kb.of_grown H2.out)⟩
set_option maxHeartbeats 3200000 in
theorem Y5 {w : World} {b : Nat} {row : Option Nat} {bs : List UInt8} {lasts room left : Int} (n : Int) (h : Dk w b row bs lasts room left) (hbs : bs.length ≤ 1048576) (hlf : left ≤ 9223372036854775807) :
  Calls Tryd.prog 84 #[.pointer (some ⟨b, 0, none⟩), .int .i64 n] w (EQ (DQ w b row (if left = 0 then 100 else ctE bs n) (if left = 0 then bs else ctB bs n) (if left = 0 then lasts else ctL bs lasts n) room (dec left))) := by
 generalize hE : (if left = 0 then 100 else ctE bs n) = E
 generalize hB : (if left = 0 then bs else ctB bs n) = B
 generalize hL : (if left = 0 then lasts else ctL bs lasts n) = L
 have hbel : Below w.heap.size w ((w.alloc (.cells #[.pointer (some ⟨b, 0, none⟩)] 68)).alloc (.cells #[.int .i64 n] 3)) := ((Below.refl _ _).alloc (Nat.le_refl _) _).alloc (by simp) _
 have hK := h.below hbel
 have hy : ((w.alloc (.cells #[.pointer (some ⟨b, 0, none⟩)] 68)).alloc (.cells #[.int .i64 n] 3)).cell? ⟨w.heap.size, 0, none⟩ = some (.pointer (some ⟨b, 0, none⟩)) := by go_simp
 have hx : ((w.alloc (.cells #[.pointer (some ⟨b, 0, none⟩)] 68)).alloc (.cells #[.int .i64 n] 3)).cell? ⟨w.heap.size + 1, 0, none⟩ = some (.int .i64 n) := by go_simp
 have hlt := h.lt
 have HB := iC.mk hbel
 obtain ⟨W, hW⟩ : ∃ W, W = (w.alloc (.cells #[.pointer (some ⟨b, 0, none⟩)] 68)).alloc (.cells #[.int .i64 n] 3) := ⟨_, rfl⟩
 have key : Calls Tryd.prog 106 #[.pointer (some ⟨b, 0, none⟩), .func (.func 107) #[] #[.pointer (some ⟨w.heap.size + 1, 0, none⟩), .pointer (some ⟨w.heap.size, 0, none⟩)]] W (EQ (DQ w b row E B L room (dec left))) := by
  rw [← hE, ← hB, ← hL]
  rw [← hW] at hK hx hy hbel
  by_cases h0 : left = 0
  ·refine (VE _ hK h0).mono ?_
   rintro e w' ⟨rfl, rfl⟩
   exact ⟨100, rfl, by rw [if_pos h0], row, by rw [if_pos h0, if_pos h0, h0, show dec 0 = 0 from rfl]; rwa [h0] at hK, fun k e => .inl e, Kb.of_below hbel⟩
  ·refine X9 _ _ hK h0 hlf (fun w1 hk1 hg1 => ?_)
   have h1 := X7 (x := w.heap.size + 1) (y := w.heap.size) n hk1 (cell_grown hx hg1 (by omega)) (cell_grown hy hg1 (by omega)) hbs
   refine h1.mono ?_
   rintro e w' ⟨n, rfl, hq⟩
   refine ⟨n, rfl, ?_⟩
   rw [if_neg h0, if_neg h0, if_neg h0]
   exact hq.old ((Kb.of_below hbel).trans (fun k e => .inl e) (Kb.of_grown hg1))
 rw [hW] at key
 clear hK hbel h hW hx hy hE hB hL hlf hbs hlt
 go_enter Tryd.func84, Tryd.ntmps84
 go_wp2_with (go_at_call 106; refine key.mono ?_)
 rintro e w2 ⟨n, rfl, hq⟩
 have HQ := iC.mk hq
 clear hq key
 go_wp2
 go_ret
 exact ⟨n, rfl, HQ.out⟩
set_option maxHeartbeats 1600000 in
theorem VC (room : Int) (w : World) (h0 : 0 ≤ room) (h1 : room ≤ 1048576) : Calls Tryd.prog 38 #[.int .i64 room] w fun e w' => e = .returned (.pointer (some ⟨w.heap.size, 0, none⟩)) ∧ Dk w' w.heap.size none [] 0 room (-1) ∧ Below w.heap.size w w' := by
 go_enter Tryd.func38, Tryd.ntmps38
 go_wp2
 go_ret
 exact ⟨rfl, ⟨none, 0, 0, jB rfl, .inl ⟨rfl, rfl, rfl, rfl⟩⟩, (Below.refl _ _).alloc (Nat.le_refl _) _⟩
end Go.Proofs.YtgfkgppomaapiaaDoor.K
end
