/- Parts of the proof, one behind the other: CodeD, Came, CameR, K87, K88, LawE, LawF, K90, K80, K81, K1, K82, K83, K84, SameP, SoundL, Apart, Owns, WalK, Adler, SumW, FrameP, FrameW, FrameB, Range, Each. -/
import Derived.Test.YtgfkgppomaapiaaGreatDoorQWalOpens5
import Derived.Laws.ResultCell
import Derived.Deep.Slices
import Derived.ChangeSame
import Derived.RangeFuncNested
import Derived.RangeFuncBound
import Derived.RangeFuncCalls
import Derived.RangeFuncLeaves
import Derived.RangeFuncBox
import Derived.Shelf.RegionOpen
import Derived.OwnWalkIn
import Derived.TacticsInMore
import Derived.LoopNIn
import Derived.LoopIn
set_option linter.unusedVariables false
set_option linter.unusedSimpArgs false
section
namespace Go.Proofs.YtgfkgppomaapiaaGreatDoor.K
open RowKit YtgfkgppomaapiaaGreatDoorW.PrintWords YtgfkgppomaapiaaGreatDoorW.PrintLast YtgfkgppomaapiaaGreatDoorW.PrintMore My
def lX : SRec := ⟨0, 0, 0, [], [], ⟨0, []⟩, 0, 0, []⟩
def bytesOf (l0 : List Int) : List UInt8 := l0.map fun x => UInt8.ofNat x.toNat
def decR (l : List UInt8) : SRec × Int := if 60000 < l.length then (lX, 3) else match recP l with | none => (lX, 70) | some (x, _) => if encR x = (nums l, 0) then (x, 0) else (lX, 70)
def jh_ (r : SRec × Int) : Int × Int × Int × List Int × List jR × Int × List kD × Int × Int × List jL × Int := (r.1.f0, r.1.f1, r.1.f2, r.1.f3, r.1.f4, r.1.f5.f0, r.1.f5.f1, r.1.f6, r.1.f7, r.1.f8, r.2)
theorem yE (l : List UInt8) : bytesOf (nums l) = l := by
 unfold bytesOf nums
 rw [List.map_map]
 conv => rhs; rw [← List.map_id l]
 apply List.map_congr_left
 intro b _
 simp
theorem LD {l m : List UInt8} (h : nums l = nums m) : l = m := by rw [← yE l, h, yE]
theorem uD {w : World} {A : Option Addr} {n : Nat} {l : List UInt8} (h : (Kd.int .u8).C w A n (nums l)) : kb.C w A n l := by
 refine ⟨by rw [← jJ]; exact h.1, h.2.1, fun hn => ?_⟩
 obtain ⟨ad, e, hc⟩ := h.2.2 hn
 refine ⟨ad, e, fun j p hj => ?_⟩
 obtain ⟨c, h1, h2, h3⟩ := hc j (p.toNat : Int) (by unfold nums; rw [List.getElem?_map, hj]; rfl)
 exact ⟨c, h1, h2, h3⟩
theorem uA (l m : List UInt8) : ((strOfNums (nums l)).toList == (strOfNums (nums m)).toList) = decide (l = m) := by
 unfold nums
 rw [vC, vC, iQ, iQ]
 by_cases h : l = m
 ·subst h; simp
 ·simp [h]
theorem oQ (x : SRec) : encR x = ([], 1) ∨ encR x = ([], 3) ∨ encR x = (nums (recE x), 0) := by
 unfold encR
 split
 ·split
  ·exact .inr (.inl rfl)
  ·exact .inr (.inr rfl)
 ·exact .inl rfl
def JQ (w : World) (r : SRec × Int) (e : Ending) (w' : World) : Prop := ∃ v, e = .returned (.tuple #[v, .int .u16 r.2]) ∧ RecV w.heap.size r.1 v w' ∧ Below w.heap.size w w'
theorem j8_ (w w' : World) (c : Int) (h : Below w.heap.size w w') : JQ w (lX, c) (.returned (.tuple #[.agg #[.int .u8 0, .int .u32 0, .int .u32 0, .slice none 0 0, .slice none 0 0, .int .u32 0, .slice none 0 0, .int .i64 0, .int .i64 0, .slice none 0 0], .int .u16 c])) w' :=
 ⟨_, rfl, ⟨_, _, _, _, rfl, Kd.R_nil _ _ _ _ _, Kd.R_nil _ _ _ _ _, Kd.R_nil _ _ _ _ _, Kd.R_nil _ _ _ _ _⟩, h⟩
theorem xY {base : Nat} {x : SRec} {v : Value} {w w' : World} (h : RecV base x v w) (hb : Below w.heap.size w w') : RecV base x v w' := by
 obtain ⟨v3, v4, v6, v9, rfl, h3, h4, h6, h9⟩ := h
 exact ⟨v3, v4, v6, v9, rfl, Kd.R_below h3 hb, Kd.R_below h4 hb, Kd.R_below h6 hb, Kd.R_below h9 hb⟩
theorem yA {tmps : Array Value} {W : World} {p u : Tmp} {b : Nat} {cs : Array Value} {x : Value} (h : Tryz.f50.results = #[.cell p 54, .tmp u]) (hp : tmps.getD p undef = .pointer (some ⟨b, 0, none⟩)) (hu : tmps.getD u undef = x) (hx : W.heap[b]? = some (.cells cs 54 (0, 0))) (hs : cs.size = 10) :
  (results Tryz.f50 tmps).run Tryz.prog W = .ok (.tuple #[.agg cs, x]) W := by
 have h1 := run_loadVar_row (P := Tryz.prog) W b 54 54 cs (0, 0) _ hx Tryz.underlying54 rfl (by rw [hs]; kernel_rfl)
 rw [results_cell_tmp h, hp, hu]
 simp [asAddr, h1, Result.andThen]
theorem zX {w : World} {b : Nat} (h : w.heap[b]? = some (.cells #[.int .u8 0, .int .u32 0, .int .u32 0, .slice none 0 0, .slice none 0 0, .int .u32 0, .slice none 0 0, .int .i64 0, .int .i64 0, .slice none 0 0] 54 (0, 0))) : (Instr.storeAt 54 (.pointer (some ⟨b, 0, none⟩)) (.agg #[.int .u8 0, .int .u32 0, .int .u32 0, .slice none 0 0, .slice none 0 0, .int .u32 0, .slice none 0 0, .int .i64 0, .int .i64 0, .slice none 0 0])).run Tryz.prog w = .ok () (w.setRow b #[.int .u8 0, .int .u32 0, .int .u32 0, .slice none 0 0, .slice none 0 0, .int .u32 0, .slice none 0 0, .int .i64 0, .int .i64 0, .slice none 0 0]) := nZ (a := 0) (k := 0) (i := 0) (x3 := .slice none 0 0) (x4 := .slice none 0 0) (j := 0) (x6 := .slice none 0 0) (p := 0) (q := 0) (x9 := .slice none 0 0) h rfl rfl rfl rfl
theorem zC (w W : World) (h : Below w.heap.size w W) (c : Int) : JQ w (lX, c) (.returned (.tuple #[.agg #[.int .u8 0, .int .u32 0, .int .u32 0, .slice none 0 0, .slice none 0 0, .int .u32 0, .slice none 0 0, .int .i64 0, .int .i64 0, .slice none 0 0], .int .u16 c])) (W.setRow w.heap.size #[.int .u8 0, .int .u32 0, .int .u32 0, .slice none 0 0, .slice none 0 0, .int .u32 0, .slice none 0 0, .int .i64 0, .int .i64 0, .slice none 0 0]) :=
 j8_ w _ c (below_grown h (jP W w.heap.size _) (Nat.le_refl _) (Nat.le_refl _))
attribute [-go_sem] Instr.build Instr.storeAt Instr.loadAt
attribute [local go_sem] WT
set_option maxRecDepth 20000 in
set_option maxHeartbeats 8000000 in
theorem decode_any (A : Option Addr) (c : Nat) (l : List UInt8) (w : World) (hCi : (Kd.int .u8).C w A l.length (nums l)) (hc : l.length ≤ c) :
  Calls Tryz.prog 50 #[.slice A l.length c] w (JQ w (decR l)) := by
 obtain ⟨Wa, hWa⟩ : ∃ Wa, Wa = w.alloc (.cells #[.int .u8 0, .int .u32 0, .int .u32 0, .slice none 0 0, .slice none 0 0, .int .u32 0, .slice none 0 0, .int .i64 0, .int .i64 0, .slice none 0 0] 54) := ⟨_, rfl⟩
 have HWA := iC.mk hWa
 have hBa : Below w.heap.size w Wa := by rw [hWa]; exact iD (Below.refl _ _) _
 have HXA := iC.mk (show Wa.heap[w.heap.size]? = some (.cells #[.int .u8 0, .int .u32 0, .int .u32 0, .slice none 0 0, .slice none 0 0, .int .u32 0, .slice none 0 0, .int .i64 0, .int .i64 0, .slice none 0 0] 54 (0, 0)) from by rw [hWa]; exact iO rfl)
 have HBA := iC.mk hBa
 have HLT := iC.mk (jC HXA.out)
 have HCI := iC.mk (Kd.C_below hCi hBa)
 have HC := iC.mk (uD HCI.out)
 clear hCi hWa hBa
 unfold decR
 by_cases hl : 60000 < l.length
 ·rw [if_pos hl]
  have hst := fun (_ : True) => zX (show (w.alloc (.cells #[.int .u8 0, .int .u32 0, .int .u32 0, .slice none 0 0, .slice none 0 0, .int .u32 0, .slice none 0 0, .int .i64 0, .int .i64 0, .slice none 0 0] 54)).heap[w.heap.size]? = _ from iO rfl)
  go_enter Tryz.func50, Tryz.ntmps50
  go_wp2
  ((try simp only [Exit.inBlock, Exit.then]); exact bodyPost_ret (yA rfl rfl rfl (setRow_heap _ _ _ _ _ _ (iO rfl)) rfl) rfl (zC w _ (iD (Below.refl _ _) _) 3))
 ·rw [if_neg hl]
  have hcall := WL A c l Wa HC.out hc (by omega)
  cases hp : recP l with
  | none =>
   go_enter Tryz.func50, Tryz.ntmps50
   go_wp2_with fail
   rw [← HWA.out]
   refine hcall.mono ?_
   rintro e w1 ⟨hB, hor⟩
   rcases hor.symm with ⟨_, rfl⟩ | ⟨x, r, v, h, _⟩
   case inr => rw [hp] at h; cases h
   have HX := iC.mk ((hB.block _ HLT.out).trans HXA.out)
   have HB := iC.mk (HBA.out.trans (hB.mono HBA.out.size))
   have hst := fun (_ : True) => zX (show (w1.alloc (.cells #[.int .u8 0, .int .u32 0, .int .u32 0, .slice none 0 0, .slice none 0 0, .int .u32 0, .slice none 0 0, .int .i64 0, .int .i64 0, .slice none 0 0] 54)).heap[w.heap.size]? = _ from jG HX.out)
   have hsx := fun (_ : True) => run_storeAt_new (P := Tryz.prog) w1 54 #[.int .u8 0, .int .u32 0, .int .u32 0, .slice none 0 0, .slice none 0 0, .int .u32 0, .slice none 0 0, .int .i64 0, .int .i64 0, .slice none 0 0] #[.int .u8 0, .int .u32 0, .int .u32 0, .slice none 0 0, .slice none 0 0, .int .u32 0, .slice none 0 0, .int .i64 0, .int .i64 0, .slice none 0 0] (by kernel_rfl) rfl (by simp [Value.oneCell'])
   clear hp hcall hB hor
   go_wp2
   ((try simp only [Exit.inBlock, Exit.then]); exact bodyPost_ret (yA rfl rfl rfl (setRow_heap _ _ _ _ _ _ (jG HX.out)) rfl) rfl (zC w _ (iD HB.out _) 70))
  | some y =>
   obtain ⟨x, r⟩ := y
   obtain ⟨D, hD⟩ : ∃ D : SRec × Int, D = (if encR x = (nums l, 0) then (x, 0) else (lX, 70)) := ⟨_, rfl⟩
   show Calls _ _ _ _ (JQ w (if encR x = (nums l, 0) then (x, 0) else (lX, 70)))
   rw [← hD]
   have HDD := iC.mk hD
   clear hD
   go_enter Tryz.func50, Tryz.ntmps50
   go_wp2_with fail
   rw [← HWA.out]
   refine hcall.mono ?_
   rintro e w1 ⟨hB, hor⟩
   rcases hor.symm with ⟨h, _⟩ | ⟨x', r', v, h, rfl, hv⟩
   case inl => rw [hp] at h; cases h
   rw [hp] at h
   injection h with h
   injection h with e1 e2
   subst e1
   subst e2
   clear hp hcall hor
   have HX := iC.mk ((hB.block _ HLT.out).trans HXA.out)
   have HB := iC.mk (HBA.out.trans (hB.mono HBA.out.size))
   have HCB0 := iC.mk (Kd.C_below HCI.out hB)
   obtain ⟨v3, v4, v6, v9, rfl, h3, h4, h6, h9⟩ := hv
   obtain ⟨A3, d3, rfl⟩ := Kd.R_slice h3
   obtain ⟨A4, d4, rfl⟩ := Kd.R_slice h4
   obtain ⟨A6, d6, rfl⟩ := Kd.R_slice h6
   obtain ⟨A9, d9, rfl⟩ := Kd.R_slice h9
   have hbw : Below w1.heap.size w1 (w1.alloc (.cells #[.int .u8 x.f0, .int .u32 x.f1, .int .u32 x.f2, .slice A3 x.f3.length d3, .slice A4 x.f4.length d4, .int .u32 x.f5.f0, .slice A6 x.f5.f1.length d6, .int .i64 x.f6, .int .i64 x.f7, .slice A9 x.f8.length d9] 54)) := iD (Below.refl _ _) _
   have HV := iC.mk (xY (show RecV Wa.heap.size x _ w1 from ⟨_, _, _, _, rfl, h3, h4, h6, h9⟩) hbw)
   have HX0 := HX
   have HX := iC.mk (show (w1.alloc (.cells #[.int .u8 x.f0, .int .u32 x.f1, .int .u32 x.f2, .slice A3 x.f3.length d3, .slice A4 x.f4.length d4, .int .u32 x.f5.f0, .slice A6 x.f5.f1.length d6, .int .i64 x.f6, .int .i64 x.f7, .slice A9 x.f8.length d9] 54)).heap[w.heap.size]? = _ from jG HX0.out)
   have HB := iC.mk (show Below w.heap.size w (w1.alloc (.cells #[.int .u8 x.f0, .int .u32 x.f1, .int .u32 x.f2, .slice A3 x.f3.length d3, .slice A4 x.f4.length d4, .int .u32 x.f5.f0, .slice A6 x.f5.f1.length d6, .int .i64 x.f6, .int .i64 x.f7, .slice A9 x.f8.length d9] 54)) from iD HB.out _)
   have HCB := iC.mk (Kd.C_below HCB0.out hbw)
   have HXX := iC.mk (show (w1.alloc (.cells #[.int .u8 x.f0, .int .u32 x.f1, .int .u32 x.f2, .slice A3 x.f3.length d3, .slice A4 x.f4.length d4, .int .u32 x.f5.f0, .slice A6 x.f5.f1.length d6, .int .i64 x.f6, .int .i64 x.f7, .slice A9 x.f8.length d9] 54)).heap[w1.heap.size]? = some (.cells #[.int .u8 x.f0, .int .u32 x.f1, .int .u32 x.f2, .slice A3 x.f3.length d3, .slice A4 x.f4.length d4, .int .u32 x.f5.f0, .slice A6 x.f5.f1.length d6, .int .i64 x.f6, .int .i64 x.f7, .slice A9 x.f8.length d9] 54 (0, 0)) from iO rfl)
   have h3 := Kd.R_below h3 hbw
   have h4 := Kd.R_below h4 hbw
   have h6 := Kd.R_below h6 hbw
   have h9 := Kd.R_below h9 hbw
   have hsx := fun (_ : True) => run_storeAt_new (P := Tryz.prog) w1 54 #[.int .u8 0, .int .u32 0, .int .u32 0, .slice none 0 0, .slice none 0 0, .int .u32 0, .slice none 0 0, .int .i64 0, .int .i64 0, .slice none 0 0] #[.int .u8 x.f0, .int .u32 x.f1, .int .u32 x.f2, .slice A3 x.f3.length d3, .slice A4 x.f4.length d4, .int .u32 x.f5.f0, .slice A6 x.f5.f1.length d6, .int .i64 x.f6, .int .i64 x.f7, .slice A9 x.f8.length d9] (by kernel_rfl) rfl (by simp [Value.oneCell'])
   have hlx := fun (_ : True) => qB HXX.out rfl
   obtain ⟨_, q3, C3⟩ := Kd.R_reads' h3
   obtain ⟨_, q4, C4⟩ := Kd.R_reads' h4
   obtain ⟨_, q6, C6⟩ := Kd.R_reads' h6
   obtain ⟨_, q9, C9⟩ := Kd.R_reads' h9
   have hcall := fun r1 r2 (h : encR x = (r1, r2)) => code_Encode.calls x.f0 x.f1 x.f2 A3 d3 x.f3 A4 d4 x.f4 x.f5.f0 A6 d6 x.f5.f1 x.f6 x.f7 A9 d9 x.f8 r1 r2 (w1.alloc (.cells #[.int .u8 x.f0, .int .u32 x.f1, .int .u32 x.f2, .slice A3 x.f3.length d3, .slice A4 x.f4.length d4, .int .u32 x.f5.f0, .slice A6 x.f5.f1.length d6, .int .i64 x.f6, .int .i64 x.f7, .slice A9 x.f8.length d9] 54)) C3 q3 C4 q4 C6 q6 C9 q9 (congrArg some h)
   clear h3 h4 h6 h9 C3 C4 C6 C9 q3 q4 q6 q9 hB hbw HX0 HCB0
   rcases oQ x with he | he | he
   ·have hcall := hcall _ _ he
    have HNE := iC.mk (show ¬ encR x = (nums l, 0) from by rw [he]; intro h; injection h with h1 h2; cases h2)
    clear he
    go_wp2_with fail
    refine hcall.mono ?_
    rintro e w2 ⟨v0, rfl, h0, hB2⟩
    have HX2 := iC.mk ((hB2.block _ (jC HX.out)).trans HX.out)
    have HB3 := iC.mk (HB.out.trans (hB2.mono HB.out.size))
    have hst := fun (_ : True) => zX HX2.out
    clear hB2 hcall h0
    go_wp2
    ((try simp only [Exit.inBlock, Exit.then]); exact bodyPost_ret (yA rfl rfl rfl (setRow_heap _ _ _ _ _ _ HX2.out) rfl) rfl (by rw [HDD.out, if_neg HNE.out]; exact zC w _ HB3.out 70))
   ·have hcall := hcall _ _ he
    have HNE := iC.mk (show ¬ encR x = (nums l, 0) from by rw [he]; intro h; injection h with h1 h2; cases h2)
    clear he
    go_wp2_with fail
    refine hcall.mono ?_
    rintro e w2 ⟨v0, rfl, h0, hB2⟩
    have HX2 := iC.mk ((hB2.block _ (jC HX.out)).trans HX.out)
    have HB3 := iC.mk (HB.out.trans (hB2.mono HB.out.size))
    have hst := fun (_ : True) => zX HX2.out
    clear hB2 hcall h0
    go_wp2
    ((try simp only [Exit.inBlock, Exit.then]); exact bodyPost_ret (yA rfl rfl rfl (setRow_heap _ _ _ _ _ _ HX2.out) rfl) rfl (by rw [HDD.out, if_neg HNE.out]; exact zC w _ HB3.out 70))
   ·have hcall := hcall _ _ he
    have HE := iC.mk he
    clear he
    go_wp2_with fail
    refine hcall.mono ?_
    rintro e w2 ⟨v0, rfl, h0, hB2⟩
    clear hcall
    obtain ⟨A0, d0, rfl⟩ := Kd.R_slice h0
    obtain ⟨_, q0, C0⟩ := Kd.R_reads' h0
    have HX2 := iC.mk ((hB2.block _ (jC HX.out)).trans HX.out)
    have HB3 := iC.mk (HB.out.trans (hB2.mono HB.out.size))
    have HV2 := iC.mk (xY HV.out hB2)
    have HXX2 := iC.mk ((hB2.block _ (jC HXX.out)).trans HXX.out)
    have hcall := bytes_Equal.calls A0 d0 (nums (recE x)) A c (nums l) _ w2 C0 q0 (by rw [jJ]; exact Kd.C_below HCB.out hB2) (by rw [jJ]; exact hc) rfl
    rw [uA, jJ l] at hcall
    clear C0 h0 hB2 q0
    by_cases hq : recE x = l
    ·rw [decide_eq_true hq] at hcall
     have HEQ := iC.mk (show encR x = (nums l, 0) from by rw [HE.out, hq])
     clear hq
     go_wp2_with fail
     refine hcall.mono ?_
     rintro e w3 ⟨rfl, hD⟩
     have HX3 := iC.mk ((hD.below.block _ (jC HX2.out)).trans HX2.out)
     have HB4 := iC.mk (HB3.out.trans (hD.below.mono HB3.out.size))
     have HV3 := iC.mk (xY HV2.out hD.below)
     have hl3 := fun (_ : True) => qB ((hD.below.block _ (jC HXX2.out)).trans HXX2.out) rfl
     have hst := fun (_ : True) => nZ (a := x.f0) (k := x.f1) (i := x.f2) (x3 := .slice A3 x.f3.length d3) (x4 := .slice A4 x.f4.length d4) (j := x.f5.f0) (x6 := .slice A6 x.f5.f1.length d6) (p := x.f6) (q := x.f7) (x9 := .slice A9 x.f8.length d9) HX3.out rfl rfl rfl rfl
     clear hcall hD
     go_wp2
     (try simp only [Exit.inBlock, Exit.then])
     refine bodyPost_ret (yA rfl rfl rfl (setRow_heap _ _ _ _ _ _ HX3.out) rfl) rfl ?_
     rw [HDD.out, if_pos HEQ.out]
     exact ⟨_, rfl, IG (xW HV3.out (jP _ w.heap.size _) HLT.out) HBA.out.size, below_grown HB4.out (jP _ w.heap.size _) (Nat.le_refl _) (Nat.le_refl _)⟩
    ·rw [decide_eq_false hq] at hcall
     have HNE := iC.mk (show ¬ encR x = (nums l, 0) from by rw [HE.out]; intro h; injection h with h1 h2; exact hq (LD h1))
     clear hq
     go_wp2_with fail
     refine hcall.mono ?_
     rintro e w3 ⟨rfl, hD⟩
     have HX3 := iC.mk ((hD.below.block _ (jC HX2.out)).trans HX2.out)
     have HB4 := iC.mk (HB3.out.trans (hD.below.mono HB3.out.size))
     have hst := fun (_ : True) => zX HX3.out
     clear hcall hD
     go_wp2
     ((try simp only [Exit.inBlock, Exit.then]); exact bodyPost_ret (yA rfl rfl rfl (setRow_heap _ _ _ _ _ _ HX3.out) rfl) rfl (by rw [HDD.out, if_neg HNE.out]; exact zC w _ HB4.out 70))
def code_Decode.f (l0 : List Int) : Option (Int × Int × Int × List Int × List jR × Int × List kD × Int × Int × List jL × Int) := if nums (bytesOf l0) = l0 then some (jh_ (decR (bytesOf l0))) else none
end Go.Proofs.YtgfkgppomaapiaaGreatDoor.K
end

section
namespace Go.Proofs.YtgfkgppomaapiaaGreatDoor.My
open Go Go.RowKit Go.Deep Go.ChangeShapes Go.WideShapes Go.ChangeAt Go.Proofs.YtgfkgppomaapiaaGreatDoorW.PrintWords
def Came {α : Type} (d : Kd α) (t : TypeId) (ok : α → Prop) (wt : α → Nat) : Prop :=
 ∀ {H : Type} (enc : TypeId × Value → H) (w : World) (fuel : Nat) (cs : List Value) (x : DataW H × List MemPlace), DataW.trod enc Tryz.prog w 0 (fun _ => true) true fuel t cs = some x → ∃ v : α, d.K w v cs ∧ ok v ∧ wt v ≤ Rows.uptoBulk x.1
theorem YJ {k : IntKind} {t : TypeId} (ht : Tryz.prog.underlying t = some (.int k)) : Came (Kd.int k) t (fun n => (Lit.int k n).wf = true) (fun _ => 1) := by
 intro H enc w fuel cs x h
 obtain ⟨n, rfl, hx, hw⟩ := DataW.trod_int ht h
 exact ⟨n, rfl, hw, by rw [hx]; simp [Rows.uptoBulk]⟩
def NH {α : Type} (wt : α → Nat) (l : List α) : Nat := (l.map wt).sum
theorem TF {α : Type} (wt : α → Nat) (x : α) (l : List α) : NH wt (x :: l) = wt x + NH wt l := by simp [NH]
theorem ZV {α : Type} [Inhabited α] {n : Nat} {p : Nat → α → Prop} (h : ∀ i, i < n → ∃ x, p i x) : ∃ f : Nat → α, ∀ i, i < n → p i (f i) := by
 classical
 refine ⟨fun i => if h' : i < n then Classical.choose (h i h') else default, fun i hi => ?_⟩
 simp only [dif_pos hi]
 exact Classical.choose_spec (h i hi)
theorem UZ {w : World} {a : Addr} {n : Nat} {cs : List Value} (h : w.cells? 0 a n = some cs) (i : Nat) (v : Value) (hi : cs[i]? = some v) : w.cell? (a.add i) = some v := by
 obtain ⟨_, hl, hc⟩ := World.cells?_some h
 have hil : i < n := by have := (List.getElem?_eq_some_iff.1 hi).1; omega
 rw [hc i hil]
 exact hi
theorem TQ {α : Type} [Inhabited α] {d : Kd α} {t e : TypeId} {ok : α → Prop} {wt : α → Nat} (ht : Tryz.prog.underlying t = some (.slice e)) (hc : Tryz.prog.cellsOf e = d.sz) (he : Came d e ok wt) :
  Came (Kd.slice e d) t (fun l => ∀ x ∈ l, ok x) (fun l => NH wt l + 1) := by
 intro H enc w fuel cs x h
 rcases open_slice ht h with ⟨rfl, rfl⟩ | ⟨ad, len, cap, m, n, D, Pl, rfl, _, hl, hmax, hm, rfl, hel⟩
 ·exact ⟨[], ⟨none, 0, rfl, Nat.le_refl _, ⟨rfl, by simp, fun h => absurd h (Nat.lt_irrefl 0)⟩⟩, (by simp), by simp [NH, Rows.uptoBulk]⟩
 ·have hlm : len ≤ m := by rw [hm]; simp; exact hl
  have one : ∀ i, i < len → ∃ v : α, (∃ cs', w.cells? 0 (ad.add (i * Tryz.prog.cellsOf e)) (Tryz.prog.cellsOf e) = some cs' ∧ d.K w v cs') ∧ ok v ∧ wt v ≤ Rows.uptoBulk (D i) := by
   intro i hi
   obtain ⟨cs', h1, h2⟩ := hel i (by omega)
   obtain ⟨v, h3, h4, h5⟩ := he enc w n cs' _ h2
   exact ⟨v, ⟨cs', h1, h3⟩, h4, h5⟩
  obtain ⟨L, hL⟩ := ZV one
  have hlen : ((List.range len).map L).length = len := by simp
  refine ⟨(List.range len).map L, ⟨some ad, cap, by rw [hlen], by rw [hlen]; exact hl, ?_⟩, ?_, ?_⟩
  ·rw [hlen]
   refine ⟨hlen, by unfold maxLen at hmax; omega, fun _ => ⟨ad, rfl, fun j p hj => ?_⟩⟩
   have hjl : j < len := by have := (List.getElem?_eq_some_iff.1 hj).1; simpa using this
   have hp : p = L j := by
    rw [List.getElem?_map, List.getElem?_range hjl] at hj
    simp only [Option.map_some, Option.some.injEq] at hj
    exact hj.symm
   subst hp
   obtain ⟨⟨cs', h1, h2⟩, _, _⟩ := hL j hjl
   rw [hc] at h1
   refine ⟨cs', d.K_len h2, h2, fun i u hi => ?_⟩
   have := UZ h1 i u hi
   rwa [Go.Deep.add_add] at this
  ·intro y hy
   obtain ⟨i, hi, rfl⟩ := List.mem_map.1 hy
   exact (hL i (List.mem_range.1 hi)).2.1
  ·have key : ∀ is : List Nat, (∀ i ∈ is, i < len) → NH wt (is.map L) ≤ Rows.uptoBulkAll (is.map D) := by
    intro is
    induction is with
    | nil => intro _; simp [NH, Rows.uptoBulkAll]
    | cons i is ih =>
     intro hi
     have h3 := ih (fun k hk => hi k (List.mem_cons_of_mem _ hk))
     have h4 := (hL i (hi i List.mem_cons_self)).2.2
     rw [List.map_cons, List.map_cons, TF]
     simp only [Rows.uptoBulkAll]
     omega
   have := key (List.range len) (fun i hi => List.mem_range.1 hi)
   simp only [Rows.uptoBulk]
   omega
theorem VW {α : Type} {d : Kd α} {t : TypeId} {ok ok' : α → Prop} {wt : α → Nat} (h : Came d t ok wt) (hok : ∀ x, ok x → ok' x) : Came d t ok' wt := by
 intro H enc w fuel cs x hx
 obtain ⟨v, h1, h2, h3⟩ := h enc w fuel cs x hx
 exact ⟨v, h1, hok v h2, h3⟩
theorem came_C {α : Type} {d : Kd α} {t e : TypeId} {ok : List α → Prop} {wt : List α → Nat} (h : Came (Kd.slice e d) t ok wt) {H : Type} (enc : TypeId × Value → H) {w : World} {fuel : Nat} {v : Value} {x : DataW H × List MemPlace} (ht : DataW.trod enc Tryz.prog w 0 (fun _ => true) true fuel t v.cells.toList = some x) :
  ∃ (A : Option Addr) (c : Nat) (l : List α), v.cells.toList = [.slice A l.length c] ∧ l.length ≤ c ∧ d.C w A l.length l ∧ ok l ∧ wt l ≤ Rows.uptoBulk x.1 := by
 obtain ⟨l, ⟨A, c, h1, h2, h3⟩, h4, h5⟩ := h enc w fuel _ x ht
 exact ⟨A, c, l, h1, h2, h3, h4, h5⟩
end Go.Proofs.YtgfkgppomaapiaaGreatDoor.My
end

section
namespace Go.Proofs.YtgfkgppomaapiaaGreatDoor.K
open Go Go.RowKit Go.Deep Go.ChangeShapes Go.WideShapes Go.ChangeAt Go.Proofs.YtgfkgppomaapiaaGreatDoorW.PrintWords Go.Proofs.YtgfkgppomaapiaaGreatDoor.My
instance : Inhabited jR := ⟨⟨[], 0⟩⟩
instance : Inhabited jL := ⟨⟨0, []⟩⟩
instance : Inhabited kD := ⟨⟨0, 0⟩⟩
def wtI (_ : Int) : Nat := 1
theorem came_bytes : Came (Kd.slice 5 (Kd.int .u8)) 22 (fun l => ∀ v ∈ l, 0 ≤ v ∧ v < 256) (fun l => NH wtI l + 1) :=
 VW (TQ (wt := wtI) Tryz.underlying22 (by kernel_rfl) (YJ Tryz.underlying5)) (fun _ h x hx => wf_u8 (h x hx))
end Go.Proofs.YtgfkgppomaapiaaGreatDoor.K
end

section
namespace Go.Proofs.YtgfkgppomaapiaaGreatDoor.K
open Go.RowKit Go.Proofs.YtgfkgppomaapiaaGreatDoorW.PrintWords Go.Proofs.YtgfkgppomaapiaaGreatDoorW.PrintLast Go.Proofs.YtgfkgppomaapiaaGreatDoorW.PrintMore
attribute [local go_sem] jZ jW kK kH
def stratumlaw07_heavy.l0 : Nat → List (S149) → Int → Int → Option (Int)
 | 0, _, _, _ => none
 | k + 1, x0, x3, x4 => if x4 < (x0.length : Int) then (if 0 ≤ x4 then (stratumlaw07_heavy.l0 k x0 (wrap64 (x3 + (wrap64 (1 + (((jA x0 x4).f0).length : Int))))) (wrap64 (x4 + 1))) else (none)) else (some x3)
def stratumlaw07_heavy.f (k : Nat) (l0 : List (S149)) : Option (Int) := stratumlaw07_heavy.l0 k l0 0 0
end Go.Proofs.YtgfkgppomaapiaaGreatDoor.K
end

section
namespace Go.Proofs.YtgfkgppomaapiaaGreatDoor.K
open Go.RowKit Go.Proofs.YtgfkgppomaapiaaGreatDoorW.PrintWords Go.Proofs.YtgfkgppomaapiaaGreatDoorW.PrintLast Go.Proofs.YtgfkgppomaapiaaGreatDoorW.PrintMore
attribute [local go_sem] jZ jW kK kH
def stratumlaw07_Heavy.l0 : Nat → Int → Int → Int → Int → Int → List Int → List (S149) → Int → List (S122) → Int → Int → List (S114) → Option (Int)
 | 0, _, _, _, _, _, _, _, _, _, _, _, _ => none
 | k + 1, x3, x4, x241000, x241001, x241002, x241003, x241004, x241005, x241006, x241007, x241008, x241009 => if x4 < (x241009.length : Int) then (if 0 ≤ x4 then ((stratumlaw07_heavy.f k ((iK x241009 x4).f1)).bind fun t243 => (stratumlaw07_Heavy.l0 k (wrap64 (x3 + (wrap64 (1 + t243)))) (wrap64 (x4 + 1)) x241000 x241001 x241002 x241003 x241004 x241005 x241006 x241007 x241008 x241009)) else (none)) else (some x3)
def stratumlaw07_Heavy.f (k : Nat) (a0_0 : Int) (a0_1 : Int) (a0_2 : Int) (l0_3 : List Int) (l0_4 : List (S149)) (a0_5 : Int) (l0_6 : List (S122)) (a0_7 : Int) (a0_8 : Int) (l0_9 : List (S114)) : Option (Int) := (stratumlaw07_heavy.f k l0_4).bind fun t241 => (stratumlaw07_Heavy.l0 k (wrap64 ((wrap64 ((l0_3.length : Int) + (l0_6.length : Int))) + t241)) 0 a0_0 a0_1 a0_2 l0_3 l0_4 a0_5 l0_6 a0_7 a0_8 l0_9)
end Go.Proofs.YtgfkgppomaapiaaGreatDoor.K
end

section
namespace Go.Proofs.YtgfkgppomaapiaaGreatDoor.K
open RowKit YtgfkgppomaapiaaGreatDoorW.PrintWords YtgfkgppomaapiaaGreatDoorW.PrintLast YtgfkgppomaapiaaGreatDoorW.PrintMore My
section
variable (a0 a1 a2 : Int) (A3 : Option Addr) (c3 : Nat) (l3 : List Int) (A4 : Option Addr) (c4 : Nat) (l4 : List jR) (a5 : Int) (A6 : Option Addr) (c6 : Nat) (l6 : List kD) (a7 a8 : Int) (A9 : Option Addr) (c9 : Nat) (l9 : List jL) (w : World)
  (h3 : Kd.C (Kd.int .i64) w A3 l3.length l3) (d3 : l3.length ≤ c3) (h4 : Kd.C k149 w A4 l4.length l4) (d4 : l4.length ≤ c4) (h6 : Kd.C k122 w A6 l6.length l6) (d6 : l6.length ≤ c6) (h9 : Kd.C k114 w A9 l9.length l9) (d9 : l9.length ≤ c9)
include h3 d3 h4 d4 h6 d6 h9 d9
theorem MO : Calls Tryz.prog 71 #[.agg #[.int .u8 a0, .int .u32 a1, .int .u32 a2, .slice A3 l3.length c3, .slice A4 l4.length c4, .int .u32 a5, .slice A6 l6.length c6, .int .i64 a7, .int .i64 a8, .slice A9 l9.length c9]] w fun e w' => e = .returned (.bool (jQ ⟨a0, a1, a2, l3, l4, ⟨a5, l6⟩, a7, a8, l9⟩)) ∧ Below w.heap.size w w' := by
 exact mQ a0 a1 a2 A3 c3 l3 A4 c4 l4 a5 A6 c6 l6 a7 a8 A9 c9 l9 w h3 d3 h4 d4 h6 d6 h9 d9
set_option maxHeartbeats 4000000 in
theorem VS (hs : jQ ⟨a0, a1, a2, l3, l4, ⟨a5, l6⟩, a7, a8, l9⟩ = false) : Calls Tryz.prog 44 #[.agg #[.int .u8 a0, .int .u32 a1, .int .u32 a2, .slice A3 l3.length c3, .slice A4 l4.length c4, .int .u32 a5, .slice A6 l6.length c6, .int .i64 a7, .int .i64 a8, .slice A9 l9.length c9]] w (pW w (encR ⟨a0, a1, a2, l3, l4, ⟨a5, l6⟩, a7, a8, l9⟩)) := by
 have hbw : Below w.heap.size w (w.alloc (.cells #[.int .u8 a0, .int .u32 a1, .int .u32 a2, .slice A3 l3.length c3, .slice A4 l4.length c4, .int .u32 a5, .slice A6 l6.length c6, .int .i64 a7, .int .i64 a8, .slice A9 l9.length c9] 54)) := iD (Below.refl _ _) _
 have hsnd := MO a0 a1 a2 A3 c3 l3 A4 c4 l4 a5 A6 c6 l6 a7 a8 A9 c9 l9 _ (Kd.C_below h3 hbw) d3 (Kd.C_below h4 hbw) d4 (Kd.C_below h6 hbw) d6 (Kd.C_below h9 hbw) d9
 rw [hs] at hsnd
 have hr : encR ⟨a0, a1, a2, l3, l4, ⟨a5, l6⟩, a7, a8, l9⟩ = ([], 1) := by unfold encR; rw [if_neg (by rw [hs]; decide)]
 rw [hr]
 clear hs hr hbw h3 h4 h6 h9
 go_enter Tryz.func44, Tryz.ntmps44
 go_wp2_with fail
 go_at_call 71
 (with_reducible refine hsnd.mono ?_)
 clear hsnd
 rintro e w0 ⟨rfl, hb1⟩
 go_wp2_with fail
 go_ret2
 exact ⟨_, rfl, Kd.R_nil _ _ _ _ _, iF (iD (Below.refl _ _) _) hb1⟩
theorem LU : Calls Tryz.prog 44 #[.agg #[.int .u8 a0, .int .u32 a1, .int .u32 a2, .slice A3 l3.length c3, .slice A4 l4.length c4, .int .u32 a5, .slice A6 l6.length c6, .int .i64 a7, .int .i64 a8, .slice A9 l9.length c9]] w (pW w (encR ⟨a0, a1, a2, l3, l4, ⟨a5, l6⟩, a7, a8, l9⟩)) := by
 cases hs : jQ ⟨a0, a1, a2, l3, l4, ⟨a5, l6⟩, a7, a8, l9⟩ with
 | false => exact VS a0 a1 a2 A3 c3 l3 A4 c4 l4 a5 A6 c6 l6 a7 a8 A9 c9 l9 w h3 d3 h4 d4 h6 d6 h9 d9 hs
 | true =>
  have h7 : ¬ (a0 < 1 ∨ 7 < a0) := by
   intro h
   rw [XI _ _ _ _ _ _ _ _ _ _ h] at hs
   cases hs
  have h7 : a0 = 1 ∨ a0 = 2 ∨ a0 = 3 ∨ a0 = 4 ∨ a0 = 5 ∨ a0 = 6 ∨ a0 = 7 := by omega
  rcases h7 with rfl | rfl | rfl | rfl | rfl | rfl | rfl
  ·exact XM a1 a2 A3 c3 l3 A4 c4 l4 a5 A6 c6 l6 a7 a8 A9 c9 l9 w h3 d3 h4 d4 h6 d6 h9 d9 hs
  ·exact X8 a1 a2 A3 c3 l3 A4 c4 l4 a5 A6 c6 l6 a7 a8 A9 c9 l9 w h3 d3 h4 d4 h6 d6 h9 d9 hs
  ·exact UY a1 a2 A3 c3 l3 A4 c4 l4 a5 A6 c6 l6 a7 a8 A9 c9 l9 w h3 d3 h4 d4 h6 d6 h9 d9 hs
  ·exact WC a1 a2 A3 c3 l3 A4 c4 l4 a5 A6 c6 l6 a7 a8 A9 c9 l9 w h3 d3 h4 d4 h6 d6 h9 d9 hs
  ·exact WH a1 a2 A3 c3 l3 A4 c4 l4 a5 A6 c6 l6 a7 a8 A9 c9 l9 w h3 d3 h4 d4 h6 d6 h9 d9 hs
  ·exact VR a1 a2 A3 c3 l3 A4 c4 l4 a5 A6 c6 l6 a7 a8 A9 c9 l9 w h3 d3 h4 d4 h6 d6 h9 d9 hs
  ·exact XT a1 a2 A3 c3 l3 A4 c4 l4 a5 A6 c6 l6 a7 a8 A9 c9 l9 w h3 d3 h4 d4 h6 d6 h9 d9 hs
end
end Go.Proofs.YtgfkgppomaapiaaGreatDoor.K
end

section
namespace Go.Proofs.YtgfkgppomaapiaaGreatDoor.K
open Go.RowKit Go.Proofs.YtgfkgppomaapiaaGreatDoorW.PrintWords Go.Proofs.YtgfkgppomaapiaaGreatDoorW.PrintLast Go.Proofs.YtgfkgppomaapiaaGreatDoorW.PrintMore
attribute [local go_sem] jZ jW kK kH
mutual
def stratumlaw07_Facts.l0 : Nat → List (S149) → List (S149) → Int → Option ((List (S149)))
 | 0, _, _, _ => none
 | k + 1, x0, x3, x4 => if x4 < (x0.length : Int) then (stratumlaw07_Facts.j1 k x0 x3 x4 (decide (x4 < 60))) else (stratumlaw07_Facts.j1 k x0 x3 x4 false)
def stratumlaw07_Facts.j1 : Nat → List (S149) → List (S149) → Int → Bool → Option ((List (S149)))
 | 0, _, _, _, _ => none
 | k + 1, x0, x3, x4, x14 => if x14 = true then (if 0 ≤ x4 then (if x4 < (x0.length : Int) then (stratumlaw07_Facts.l1 k x0 x3 x4 0 ([] : List Int) ((jA x0 x4).f1)) else (none)) else (none)) else (some x3)
def stratumlaw07_Facts.l1 : Nat → List (S149) → List (S149) → Int → Int → List Int → Int → Option ((List (S149)))
 | 0, _, _, _, _, _, _ => none
 | k + 1, x0, x3, x4, x6, x241000, x241001 => if 0 ≤ x4 then (if x4 < (x0.length : Int) then (if x6 < (((jA x0 x4).f0).length : Int) then (if x6 < 4 then (if 0 ≤ x6 then (if x241000.length < 17592186044416 then (stratumlaw07_Facts.l1 k x0 x3 x4 (wrap64 (x6 + 1)) (x241000 ++ [(mx (rd ((jA x0 x4).f0) x6) 0) % 10000]) x241001) else (none)) else (none)) else (if x3.length < 4398046511104 then (stratumlaw07_Facts.l0 k x0 (x3 ++ [(⟨x241000, x241001⟩ : S149)]) (wrap64 (x4 + 1))) else (none))) else (if x3.length < 4398046511104 then (stratumlaw07_Facts.l0 k x0 (x3 ++ [(⟨x241000, x241001⟩ : S149)]) (wrap64 (x4 + 1))) else (none))) else (none)) else (none)
end
def stratumlaw07_Facts.f (k : Nat) (l0 : List (S149)) : Option ((List (S149))) := stratumlaw07_Facts.l0 k l0 ([] : List (S149)) 0
def stratumlaw07_Facts.B9 : List Nat := [0, 1, 0, 0, 12, 28, 60, 0, 252, 508, 1020, 2044, 4092, 8191, 16383, 32767]
end Go.Proofs.YtgfkgppomaapiaaGreatDoor.K
end

section
namespace Go.Proofs.YtgfkgppomaapiaaGreatDoor.K
open Go.RowKit Go.Proofs.YtgfkgppomaapiaaGreatDoorW.PrintWords Go.Proofs.YtgfkgppomaapiaaGreatDoorW.PrintLast Go.Proofs.YtgfkgppomaapiaaGreatDoorW.PrintMore
attribute [local go_sem] jZ jW kK kH
mutual
def stratumlaw07_Make.l0 : Nat → Int → Int → List (S149) → List Int → Int → Int → List (S114) → List Int → Int → Int → Int → Int → Int → Int → Int → Option (Int × Int × Int × List Int × (List (S149)) × Int × (List (S122)) × Int × Int × (List (S114)))
 | 0, _, _, _, _, _, _, _, _, _, _, _, _, _, _, _ => none
 | k + 1, x2, x3, x4, x5, x6, x7, x8, x20, x21, x248000, x248001, x248002, x248005, x248007, x248008 => if x21 < 6 then (if 0 ≤ (IntKind.u64.wrap (x21)) then (if (Go.bits .and .u8 (shr .u8 x3 (IntKind.u64.wrap (x21))) 1) = 1 then (if x20.length < 17592186044416 then (stratumlaw07_Make.l0 k x2 x3 x4 x5 x6 x7 x8 (x20 ++ [x21]) (wrap64 (x21 + 1)) x248000 x248001 x248002 x248005 x248007 x248008) else (none)) else (stratumlaw07_Make.l0 k x2 x3 x4 x5 x6 x7 x8 x20 (wrap64 (x21 + 1)) x248000 x248001 x248002 x248005 x248007 x248008)) else (none)) else (if x248000 = 1 then ((stratumlaw07_Facts.f k x4).bind fun t251 => (some (x248000, x248001, x248002, x20, t251, x248005, ([] : List (S122)), x248007, x248008, ([] : List (S114))))) else (if x248000 = 2 then (some (x248000, x248001, x2, x20, ([] : List (S149)), x248005, ([] : List (S122)), x248007, x248008, ([] : List (S114)))) else (if x248000 = 6 then (stratumlaw07_Make.l1 k x5 0 x248000 0 x248002 x2 ([] : List (S122)) x248007 x248008) else (if x248000 = 7 then (stratumlaw07_Make.l2 k x8 0 0 x248000 x248001 x248002 x248005 (Int.tmod (wrap64 (x6)) 10001) (Int.tmod (wrap64 (x7)) 10001) ([] : List (S114))) else (some (x248000, x248001, x248002, ([] : List Int), ([] : List (S149)), x248005, ([] : List (S122)), x248007, x248008, ([] : List (S114))))))))
def stratumlaw07_Make.l1 : Nat → List Int → Int → Int → Int → Int → Int → List (S122) → Int → Int → Option (Int × Int × Int × List Int × (List (S149)) × Int × (List (S122)) × Int × Int × (List (S114)))
 | 0, _, _, _, _, _, _, _, _, _ => none
 | k + 1, x5, x22, x248000, x248001, x248002, x248005, x248006, x248007, x248008 => if x22 < (x5.length : Int) then (if x22 < 40 then (if 0 ≤ x22 then (if x248006.length < 8796093022208 then (stratumlaw07_Make.l1 k x5 (wrap64 (x22 + 1)) x248000 x248001 x248002 x248005 (x248006 ++ [(⟨Int.tmod (wrap64 (rd x5 x22)) 10000, Int.tmod (wrap64 (rd x5 x22)) 6⟩ : S122)]) x248007 x248008) else (none)) else (none)) else (some (x248000, x248001, x248002, ([] : List Int), ([] : List (S149)), x248005, x248006, x248007, x248008, ([] : List (S114))))) else (some (x248000, x248001, x248002, ([] : List Int), ([] : List (S149)), x248005, x248006, x248007, x248008, ([] : List (S114))))
def stratumlaw07_Make.l2 : Nat → List (S114) → Int → Int → Int → Int → Int → Int → Int → Int → List (S114) → Option (Int × Int × Int × List Int × (List (S149)) × Int × (List (S122)) × Int × Int × (List (S114)))
 | 0, _, _, _, _, _, _, _, _, _, _ => none
 | k + 1, x8, x23, x24, x248000, x248001, x248002, x248005, x248007, x248008, x248009 => if x24 < (x8.length : Int) then (if x24 < 50 then (if 0 ≤ x24 then ((stratumlaw07_Facts.f k ((iK x8 x24).f1)).bind fun t261 => (if x248009.length < 4398046511104 then (stratumlaw07_Make.l2 k x8 ((x23 + (1 + (Int.tmod ((iK x8 x24).f0) 1000))) % 4294967296) (wrap64 (x24 + 1)) x248000 x248001 x248002 x248005 x248007 x248008 (x248009 ++ [(⟨(x23 + (1 + (Int.tmod ((iK x8 x24).f0) 1000))) % 4294967296, t261⟩ : S114)])) else (none))) else (none)) else (some (x248000, x248001, x248002, ([] : List Int), ([] : List (S149)), x248005, ([] : List (S122)), x248007, x248008, x248009))) else (some (x248000, x248001, x248002, ([] : List Int), ([] : List (S149)), x248005, ([] : List (S122)), x248007, x248008, x248009))
end
def stratumlaw07_Make.f (k : Nat) (a0 : Int) (a1 : Int) (a2 : Int) (a3 : Int) (l4 : List (S149)) (l5 : List Int) (a6 : Int) (a7 : Int) (l8 : List (S114)) : Option (Int × Int × Int × List Int × (List (S149)) × Int × (List (S122)) × Int × Int × (List (S114))) := stratumlaw07_Make.l0 k a2 a3 l4 l5 a6 a7 l8 ([] : List Int) 0 ((1 + (Int.tmod a0 7)) % 256) a1 0 0 0 0
end Go.Proofs.YtgfkgppomaapiaaGreatDoor.K
end

section
namespace Go.Proofs.YtgfkgppomaapiaaGreatDoor.K
open Go.RowKit Go.Proofs.YtgfkgppomaapiaaGreatDoorW.PrintWords Go.Proofs.YtgfkgppomaapiaaGreatDoorW.PrintLast Go.Proofs.YtgfkgppomaapiaaGreatDoorW.PrintMore
attribute [local go_sem] jZ jW kK kH
def stratumref07_SameInts.l0 : Nat → List Int → List Int → Int → Option (Bool)
 | 0, _, _, _ => none
 | k + 1, x0, x1, x5 => if x5 < (x0.length : Int) then (if 0 ≤ x5 then (if x5 < (x1.length : Int) then (if (rd x0 x5) = (rd x1 x5) then (stratumref07_SameInts.l0 k x0 x1 (wrap64 (x5 + 1))) else (some false)) else (none)) else (none)) else (some true)
def stratumref07_SameInts.f (k : Nat) (l0 : List Int) (l1 : List Int) : Option (Bool) := if (l0.length : Int) = (l1.length : Int) then (stratumref07_SameInts.l0 k l0 l1 0) else (some false)
set_option maxHeartbeats 8000000 in
set_option maxRecDepth 100000 in
theorem stratumref07_SameInts.calls (k : Nat) (A0 : Option Addr) (c0 : Nat) (l0 : List Int) (A1 : Option Addr) (c1 : Nat) (l1 : List Int) (r : Bool) (w : World) (hr0 : Kd.C (Kd.int .i64) w A0 l0.length l0) (hc0 : l0.length ≤ c0) (hr1 : Kd.C (Kd.int .i64) w A1 l1.length l1) (hc1 : l1.length ≤ c1) (h : stratumref07_SameInts.f k l0 l1 = some r) :
  Calls Tryz.prog 55 #[.slice A0 l0.length c0, .slice A1 l1.length c1] w fun e w' => e = .returned (.bool r) ∧ jB w w' := by
 have HR0 := iC.mk hr0
 have HC0 := iC.mk hc0
 clear hr0 hc0
 have HR1 := iC.mk hr1
 have HC1 := iC.mk hc1
 clear hr1 hc1
 have H : (if (l0.length : Int) = (l1.length : Int) then (stratumref07_SameInts.l0 k l0 l1 0) else (some false)) = some r := h
 clear h
 by_cases c3 : (l0.length : Int) = (l1.length : Int)
 ·rw [if_pos c3] at H
  have c3b0 : ((l0.length : Int) == (l1.length : Int)) = true := beq_iff_eq.mpr c3
  have c3b1 : ((l0.length : Int) != (l1.length : Int)) = false := bne_eq_false_iff_eq.mpr c3
  have c3b2 : (l0.length == l1.length) = true := by first | simpa using c3 | (simp at c3 ⊢; omega)
  clear c3
  have H' := iC.mk H
  clear H
  go_enter Tryz.func55, Tryz.ntmps55
  go_wp2
  repeat (go_quiet (fail); try go_wp2)
  go_loopg [5] k (fun kq v5 w' => ∃ (x5_1 : Int), v5 = .int .i64 x5_1 ∧ iC (stratumref07_SameInts.l0 kq l0 l1 x5_1 = some r) ∧ iC (kq ≤ k) ∧ jB w w')
  case atStart => exact ⟨(0), (by first | rfl | (simp; done) | (simp [*]; done)), H', ⟨Nat.le_refl _⟩, by repeat (first | exact jB.refl _ | apply jB.step)⟩
  case round =>
   clear H'
   try clear c1
   try clear p2
   try clear c3
   try clear c3b0
   try clear c3b1
   try clear c3b2
   obtain ⟨x5_1, rfl, HA, HK1, ⟨m1, rfl⟩⟩ := hrel
   cases gk with
   | zero => exact absurd HA.out (by simp [stratumref07_SameInts.l0])
   | succ k1 =>
    have H := HA.out
    clear HA
    simp only [stratumref07_SameInts.l0] at H
    by_cases c4 : x5_1 < (l0.length : Int)
    ·rw [if_pos c4] at H
     have c4b0 : decide (x5_1 < (l0.length : Int)) = true := decide_eq_true c4
     clear c4
     by_cases c5 : 0 ≤ x5_1
     ·rw [if_pos c5] at H
      have c5b0 : decide (0 ≤ x5_1) = true := decide_eq_true c5
      clear c5
      by_cases c6 : x5_1 < (l1.length : Int)
      ·rw [if_pos c6] at H
       have c6b0 : decide (x5_1 < (l1.length : Int)) = true := decide_eq_true c6
       clear c6
       by_cases c7 : (rd l0 x5_1) = (rd l1 x5_1)
       ·rw [if_pos c7] at H
        have c7b0 : ((rd l0 x5_1) == (rd l1 x5_1)) = true := beq_iff_eq.mpr c7
        have c7b1 : ((rd l0 x5_1) != (rd l1 x5_1)) = false := bne_eq_false_iff_eq.mpr c7
        clear c7
        have H' := iC.mk H
        clear H
        have p212 : 0 ≤ (x5_1 : Int) := of_decide_eq_true asm_
        have q212 : x5_1 < (l0.length : Int) := of_decide_eq_true asm_
        obtain ⟨ad212, e212, hx212_0⟩ := Kd.at_int HR0.out x5_1 p212 q212
        cases e212
        replace p212 := eq_true p212
        replace q212 := eq_true q212
        have p213 : 0 ≤ (x5_1 : Int) := of_decide_eq_true asm_
        have q213 : x5_1 < (l1.length : Int) := of_decide_eq_true asm_
        obtain ⟨ad213, e213, hx213_0⟩ := Kd.at_int HR1.out x5_1 p213 q213
        cases e213
        replace p213 := eq_true p213
        replace q213 := eq_true q213
        go_wp2
        repeat (go_quiet (fail); try go_wp2)
        go_roundg k1
        case measure => have := HK1.out; omega
        case rel => exact ⟨(wrap64 (x5_1 + 1)), (by first | rfl | (simp; done) | (simp [*]; done)), H', ⟨by have := HK1.out; omega⟩, by repeat (first | exact jB.refl _ | apply jB.step)⟩
       ·rw [if_neg c7] at H
        have c7b0 : ((rd l0 x5_1) == (rd l1 x5_1)) = false := beq_eq_false_iff_ne.mpr c7
        have c7b1 : ((rd l0 x5_1) != (rd l1 x5_1)) = true := bne_iff_ne.mpr c7
        obtain rfl := Option.some.inj H
        have p212 : 0 ≤ (x5_1 : Int) := of_decide_eq_true asm_
        have q212 : x5_1 < (l0.length : Int) := of_decide_eq_true asm_
        obtain ⟨ad212, e212, hx212_0⟩ := Kd.at_int HR0.out x5_1 p212 q212
        cases e212
        replace p212 := eq_true p212
        replace q212 := eq_true q212
        have p213 : 0 ≤ (x5_1 : Int) := of_decide_eq_true asm_
        have q213 : x5_1 < (l1.length : Int) := of_decide_eq_true asm_
        obtain ⟨ad213, e213, hx213_0⟩ := Kd.at_int HR1.out x5_1 p213 q213
        cases e213
        replace p213 := eq_true p213
        replace q213 := eq_true q213
        go_wp2
        repeat (go_quiet (fail); try go_wp2)
        go_ret
        exact ⟨by first | rfl | (simp; done) | (simp [*]; done), by repeat (first | exact jB.refl _ | apply jB.step)⟩
      ·rw [if_neg c6] at H
       exact absurd H (by simp)
     ·rw [if_neg c5] at H
      exact absurd H (by simp)
    ·rw [if_neg c4] at H
     have c4b0 : decide (x5_1 < (l0.length : Int)) = false := decide_eq_false c4
     clear c4
     obtain rfl := Option.some.inj H
     go_wp2
     repeat (go_quiet (fail); try go_wp2)
     go_ret
     exact ⟨by first | rfl | (simp; done) | (simp [*]; done), by repeat (first | exact jB.refl _ | apply jB.step)⟩
 ·rw [if_neg c3] at H
  have c3b0 : ((l0.length : Int) == (l1.length : Int)) = false := beq_eq_false_iff_ne.mpr c3
  have c3b1 : ((l0.length : Int) != (l1.length : Int)) = true := bne_iff_ne.mpr c3
  have c3b2 : (l0.length == l1.length) = false := by first | simpa using c3 | (simp at c3 ⊢; omega)
  obtain rfl := Option.some.inj H
  go_enter Tryz.func55, Tryz.ntmps55
  go_wp2
  repeat (go_quiet (fail); try go_wp2)
  go_ret
  exact ⟨by first | rfl | (simp; done) | (simp [*]; done), by repeat (first | exact jB.refl _ | apply jB.step)⟩
end Go.Proofs.YtgfkgppomaapiaaGreatDoor.K
end

section
namespace Go.Proofs.YtgfkgppomaapiaaGreatDoor.K
open Go.RowKit Go.Proofs.YtgfkgppomaapiaaGreatDoorW.PrintWords Go.Proofs.YtgfkgppomaapiaaGreatDoorW.PrintLast Go.Proofs.YtgfkgppomaapiaaGreatDoorW.PrintMore
attribute [local go_sem] jZ jW kK kH
def stratumref07_SameFacts.f (k : Nat) (l0 : List (S149)) (l1 : List (S149)) : Option (Bool) := (stratumref07_Facts.f k ([] : List Int) l0).bind fun t214 => ((stratumref07_Facts.f k ([] : List Int) l1).bind fun t217 => (some ((strOfNums t214).toList == (strOfNums t217).toList)))
def stratumref07_SameFacts.T1 : Bool × List (List Nat × List Nat) := (true, [([], []), ([0], [0]), ([1], [1]), ([], []), ([3, 1], [3]), ([4], [4]), ([2, 5], [2, 5]), ([6, 4, 0, 1, 2, 3, 4, 5, 6], [6])])
def stratumref07_SameFacts.B1 : List Nat := [0, 1, 3, 0, 11, 27, 63, 127]
theorem stratumref07_SameFacts.tab1 : rtab .any (opsOf Tryz.f56 1) = stratumref07_SameFacts.T1 := by kernel_rfl
theorem stratumref07_SameFacts.bits1 : nV stratumref07_SameFacts.T1.2 stratumref07_SameFacts.B1 = true := by kernel_rfl
set_option maxHeartbeats 8000000 in
set_option maxRecDepth 100000 in
theorem stratumref07_SameFacts.calls (k : Nat) (A0 : Option Addr) (c0 : Nat) (l0 : List (S149)) (A1 : Option Addr) (c1 : Nat) (l1 : List (S149)) (r : Bool) (w : World) (hr0 : Kd.C k149 w A0 l0.length l0) (hc0 : l0.length ≤ c0) (hr1 : Kd.C k149 w A1 l1.length l1) (hc1 : l1.length ≤ c1) (h : stratumref07_SameFacts.f k l0 l1 = some r) :
  Calls Tryz.prog 56 #[.slice A0 l0.length c0, .slice A1 l1.length c1] w fun e w' => e = .returned (.bool r) ∧ Below w.heap.size w w' := by
 have HR0 := iC.mk hr0
 have HC0 := iC.mk hc0
 clear hr0 hc0
 have HR1 := iC.mk hr1
 have HC1 := iC.mk hc1
 clear hr1 hc1
 have HB := iC.mk (Below.refl w.heap.size w)
 have H : ((stratumref07_Facts.f k ([] : List Int) l0).bind fun t214 => ((stratumref07_Facts.f k ([] : List Int) l1).bind fun t217 => (some ((strOfNums t214).toList == (strOfNums t217).toList)))) = some r := h
 clear h
 replace H := Option.bind_eq_some_iff.mp H
 obtain ⟨t214, A30, H⟩ := H
 replace H : ((stratumref07_Facts.f k ([] : List Int) l1).bind fun t217 => (some ((strOfNums t214).toList == (strOfNums t217).toList))) = some r := H
 have A3 := iC.mk A30
 clear A30
 replace H := Option.bind_eq_some_iff.mp H
 obtain ⟨t217, A40, H⟩ := H
 replace H : (some ((strOfNums t214).toList == (strOfNums t217).toList)) = some r := H
 have A4 := iC.mk A40
 clear A40
 obtain rfl := Option.some.inj H
 go_enter Tryz.func56, Tryz.ntmps56
 try go_wp2
 have n0_ := iC.mk (iT HB.out)
 clear HB
 have HB := n0_
 clear n0_
 refine vP (n := 8) (S := fun w' => True) (ds := []) #[false, false, false, false, false, false, false, false] (by kernel_rfl) rfl rfl trivial (fun hHeld => ?_); refine pG stratumref07_SameFacts.tab1 stratumref07_SameFacts.bits1 (fun HT_ HW_ => ?_)
 generalize w.drew = w5 at HB hHeld ⊢
 refine jT (i := 0) (N := some 5) (v := ?_) (a' := ?_) #[true, false, false, false, false, false, false, false] rfl rfl (jI HT_.out (by kernel_rfl)) (fun _ _ _ h => h) (Or.inl ⟨by rfl, ?_⟩) ?_ ?_
 rotate_left
 ·intro w'
  go_simp
  with_reducible rfl
 rotate_left
 ·simp only [Act.put, List.setIfInBounds_toArray, List.set_cons_zero, List.set_cons_succ, iR, jK]
  rfl
 refine jT (i := 3) (N := some 8) (v := ?_) (a' := ?_) #[true, false, false, true, false, false, false, false] rfl rfl (jI HT_.out (by kernel_rfl)) (fun _ _ _ h => h) (Or.inl ⟨by rfl, ?_⟩) ?_ ?_
 rotate_left
 ·intro w'
  go_simp
  with_reducible rfl
 rotate_left
 ·simp only [Act.put, List.setIfInBounds_toArray, List.set_cons_zero, List.set_cons_succ, iR, jK]
  rfl
 refine one_ (i := 1) (N := some 6) #[true, true, false, true, false, false, false, false] rfl rfl (o5 HT_.out (by kernel_rfl)) (by decide) (fun K hK => ?_)
 refine qL Tryz.func74 (by kernel_rfl) rfl #[.slice none 0 0, .slice A0 l0.length c0] (by rfl) rfl rfl (by (try simp only [List.map_toArray, List.map_cons, List.map_nil]); first | done | rfl | (simp only [List.length_drop, List.length_take]; rfl)) ?_
 refine (stratumref07_Facts.calls k (fun k_ => some k_ = (.slice none 0 0 : Value).ownBlock) (.slice none 0 0) ([] : List Int) _ _ l0 t214 w _ ?side1 ?side2 ?side3 ?side4 A3.out).mono ?_
 (case side1 => repeat (first | (with_reducible first | exact HB.out | apply iD | apply iE | apply iT) | exact HB.out))
 (case side2 => exact Kd.R_nil _ _ _ _ _)
 (case side3 => exact Kd.C_kept_came rX HR0.out hb_ (fun k_ hs_ => (fun e_ => by simp [Value.ownBlock] at e_) hs_))
 (case side4 => exact HC0.out)
 rintro e w6 ⟨v215, rfl, ho0, hb, hkp⟩
 refine ⟨_, rfl, ?_⟩
 have n0_ := iC.mk (Kd.R_mono (ok' := fun k_ => True) ho0 (fun k_ hk_ => trivial))
 have n1_ := iC.mk (hb)
 clear HB
 have HO216 := n0_
 have HB := n1_
 clear n0_ n1_
 (try clear hb)
 (try clear hkp)
 (try clear ho0)
 refine hK.out _ _ trivial (fun hHeld => ?_)
 clear hK K
 refine nG (a' := ?_) ?_ ?_
 rotate_left
 ·show Act.put _ (some 6) _ = _
  simp only [Act.put, List.setIfInBounds_toArray, List.set_cons_zero, List.set_cons_succ, iR, jK]
  rfl
 refine je_ (σ := Value) 2 #[true, true, true, true, true, true, false, false] (fun s_ => [(7, .string (strOfNums t214)), (9, s_), (10, .string (strOfNums t217))]) (fun s_ w' => (Kd.R (Kd.int .u8) 5 w' w.heap.size (fun k_ => some k_ ≠ (s_ : Value).ownBlock) v215 t214) ∧ (Kd.R (Kd.int .u8) 5 w' w.heap.size (fun k_ => some k_ ≠ (v215 : Value).ownBlock) s_ t217) ∧ (Below w.heap.size w w')) ?_ ?_
 rotate_left
 ·intro hCont
  refine two_ (i := 2) (j := 4) (Ni := some 7) (Nj := some 9) #[true, true, true, true, false, false, false, false] #[true, true, false, true, true, false, false, false] rfl rfl rfl rfl (QD HT_.out (by kernel_rfl)) (by decide) (by decide) (fun K hK => ?_) (fun K hK => ?_)
  ·skip
   have hcv7 := lK (P := Tryz.prog) Tryz.underlying22 Tryz.underlying5 Tryz.underlying9 (Kd.own_of_R HO216.out)
   refine iY (w1 := ?_) (v := ?_) (by rfl) rfl ?_ ?_
   rotate_left 2
   ·go_simp
    constructor
    ·rfl
    ·rfl
   clear hcv7
   refine hK.out _ _ trivial (fun hHeld => ?_)
   clear hK K
   refine nG (a' := ?_) ?_ ?_
   rotate_left
   ·show Act.put _ (some 7) _ = _
    simp only [Act.put, List.setIfInBounds_toArray, List.set_cons_zero, List.set_cons_succ, iR, jK]
    rfl
   refine one_ (i := 4) (N := some 9) #[true, true, true, true, true, false, false, false] rfl rfl (o5 HT_.out (by kernel_rfl)) (by decide) (fun K hK => ?_)
   refine qL Tryz.func74 (by kernel_rfl) rfl #[.slice none 0 0, .slice A1 l1.length c1] (by rfl) rfl rfl (by (try simp only [List.map_toArray, List.map_cons, List.map_nil]); first | done | rfl | (simp only [List.length_drop, List.length_take]; rfl)) ?_
   refine (stratumref07_Facts.calls k (fun k_ => some k_ = (.slice none 0 0 : Value).ownBlock) (.slice none 0 0) ([] : List Int) _ _ l1 t217 w _ ?side1 ?side2 ?side3 ?side4 A4.out).mono ?_
   (case side1 => repeat (first | (with_reducible first | exact HB.out | apply iD | apply iE | apply iT) | exact HB.out))
   (case side2 => exact Kd.R_nil _ _ _ _ _)
   (case side3 => exact Kd.C_kept_came rX HR1.out hb_ (fun k_ hs_ => (fun e_ => by simp [Value.ownBlock] at e_) hs_))
   (case side4 => exact HC1.out)
   rintro e w8 ⟨v218, rfl, ho0, hb, hkp⟩
   refine ⟨_, rfl, ?_⟩
   have n0_ := iC.mk (Kd.R_mono (ok' := fun k_ => some k_ ≠ (v218 : Value).ownBlock) (Kd.R_keptB (HO216.out) hkp (fun k_ hk_ hs_ => (fun e_ => by simp [Value.ownBlock] at e_) hs_)) (fun k_ hk_ => fun e_ => Or.elim (ho0.1 k_ e_.symm) (fun hs_ => hk_.2.1 hs_) (fun hn_ => Nat.not_le.2 hk_.2.2 hn_)))
   have n1_ := iC.mk (Kd.R_mono (ok' := fun k_ => some k_ ≠ (v215 : Value).ownBlock) ho0 (fun k_ hk_ => Or.elim hk_ (fun hs_ => absurd hs_ (by simp [Value.ownBlock])) (fun hn_ => (Kd.fresh' (Kd.R_lt (by (with_reducible repeat (first | apply Kd.R_alloc | apply Kd.R_drewN | apply Kd.R_drew)); exact HO216.out)) k_ hn_))))
   have n2_ := iC.mk (hb)
   clear HO216
   clear HB
   have HO216 := n0_
   have HO219 := n1_
   have HB := n2_
   clear n0_ n1_ n2_
   (try clear hb)
   (try clear hkp)
   (try clear ho0)
   refine hK.out _ _ trivial (fun hHeld => ?_)
   clear hK K
   refine nG (a' := ?_) ?_ ?_
   rotate_left
   ·show Act.put _ (some 9) _ = _
    simp only [Act.put, List.setIfInBounds_toArray, List.set_cons_zero, List.set_cons_succ, iR, jK]
    rfl
   refine one_ (i := 5) (N := some 10) #[true, true, true, true, true, true, false, false] rfl rfl (o5 HT_.out (by kernel_rfl)) (by decide) (fun K hK => ?_)
   have hcv9 := lK (P := Tryz.prog) Tryz.underlying22 Tryz.underlying5 Tryz.underlying9 (Kd.own_of_R HO219.out)
   refine iY (w1 := ?_) (v := ?_) (by rfl) rfl ?_ ?_
   rotate_left 2
   ·go_simp
    constructor
    ·rfl
    ·rfl
   clear hcv9
   refine hK.out _ _ trivial (fun hHeld => ?_)
   clear hK K
   refine nG (a' := ?_) ?_ ?_
   rotate_left
   ·show Act.put _ (some 10) _ = _
    simp only [Act.put, List.setIfInBounds_toArray, List.set_cons_zero, List.set_cons_succ, iR, jK]
    rfl
   exact nG (by simp only [rJ, Act.put, List.setIfInBounds_toArray, List.set_cons_zero, List.set_cons_succ]) (hCont (v218) _ ⟨(by (with_reducible repeat (first | apply Kd.R_alloc | apply Kd.R_drewN | apply Kd.R_drew)); exact HO216.out), (by (with_reducible repeat (first | apply Kd.R_alloc | apply Kd.R_drewN | apply Kd.R_drew)); exact HO219.out), hb_⟩)
  ·skip
   refine qL Tryz.func74 (by kernel_rfl) rfl #[.slice none 0 0, .slice A1 l1.length c1] (by rfl) rfl rfl (by (try simp only [List.map_toArray, List.map_cons, List.map_nil]); first | done | rfl | (simp only [List.length_drop, List.length_take]; rfl)) ?_
   refine (stratumref07_Facts.calls k (fun k_ => some k_ = (.slice none 0 0 : Value).ownBlock) (.slice none 0 0) ([] : List Int) _ _ l1 t217 w _ ?side1 ?side2 ?side3 ?side4 A4.out).mono ?_
   (case side1 => repeat (first | (with_reducible first | exact HB.out | apply iD | apply iE | apply iT) | exact HB.out))
   (case side2 => exact Kd.R_nil _ _ _ _ _)
   (case side3 => exact Kd.C_kept_came rX HR1.out hb_ (fun k_ hs_ => (fun e_ => by simp [Value.ownBlock] at e_) hs_))
   (case side4 => exact HC1.out)
   rintro e w7 ⟨v218, rfl, ho0, hb, hkp⟩
   refine ⟨_, rfl, ?_⟩
   have n0_ := iC.mk (Kd.R_mono (ok' := fun k_ => some k_ ≠ (v218 : Value).ownBlock) (Kd.R_keptB (HO216.out) hkp (fun k_ hk_ hs_ => (fun e_ => by simp [Value.ownBlock] at e_) hs_)) (fun k_ hk_ => fun e_ => Or.elim (ho0.1 k_ e_.symm) (fun hs_ => hk_.2.1 hs_) (fun hn_ => Nat.not_le.2 hk_.2.2 hn_)))
   have n1_ := iC.mk (Kd.R_mono (ok' := fun k_ => some k_ ≠ (v215 : Value).ownBlock) ho0 (fun k_ hk_ => Or.elim hk_ (fun hs_ => absurd hs_ (by simp [Value.ownBlock])) (fun hn_ => (Kd.fresh' (Kd.R_lt (by (with_reducible repeat (first | apply Kd.R_alloc | apply Kd.R_drewN | apply Kd.R_drew)); exact HO216.out)) k_ hn_))))
   have n2_ := iC.mk (hb)
   clear HO216
   clear HB
   have HO216 := n0_
   have HO219 := n1_
   have HB := n2_
   clear n0_ n1_ n2_
   (try clear hb)
   (try clear hkp)
   (try clear ho0)
   refine hK.out _ _ trivial (fun hHeld => ?_)
   clear hK K
   refine nG (a' := ?_) ?_ ?_
   rotate_left
   ·show Act.put _ (some 9) _ = _
    simp only [Act.put, List.setIfInBounds_toArray, List.set_cons_zero, List.set_cons_succ, iR, jK]
    rfl
   refine two_ (i := 2) (j := 5) (Ni := some 7) (Nj := some 10) #[true, true, true, true, true, false, false, false] #[true, true, false, true, true, true, false, false] rfl rfl rfl rfl (QD HT_.out (by kernel_rfl)) (by decide) (by decide) (fun K hK => ?_) (fun K hK => ?_)
   ·skip
    have hcv8 := lK (P := Tryz.prog) Tryz.underlying22 Tryz.underlying5 Tryz.underlying9 (Kd.own_of_R HO216.out)
    refine iY (w1 := ?_) (v := ?_) (by rfl) rfl ?_ ?_
    rotate_left 2
    ·go_simp
     constructor
     ·rfl
     ·rfl
    clear hcv8
    refine hK.out _ _ trivial (fun hHeld => ?_)
    clear hK K
    refine nG (a' := ?_) ?_ ?_
    rotate_left
    ·show Act.put _ (some 7) _ = _
     simp only [Act.put, List.setIfInBounds_toArray, List.set_cons_zero, List.set_cons_succ, iR, jK]
     rfl
    refine one_ (i := 5) (N := some 10) #[true, true, true, true, true, true, false, false] rfl rfl (o5 HT_.out (by kernel_rfl)) (by decide) (fun K hK => ?_)
    have hcv9 := lK (P := Tryz.prog) Tryz.underlying22 Tryz.underlying5 Tryz.underlying9 (Kd.own_of_R HO219.out)
    refine iY (w1 := ?_) (v := ?_) (by rfl) rfl ?_ ?_
    rotate_left 2
    ·go_simp
     constructor
     ·rfl
     ·rfl
    clear hcv9
    refine hK.out _ _ trivial (fun hHeld => ?_)
    clear hK K
    refine nG (a' := ?_) ?_ ?_
    rotate_left
    ·show Act.put _ (some 10) _ = _
     simp only [Act.put, List.setIfInBounds_toArray, List.set_cons_zero, List.set_cons_succ, iR, jK]
     rfl
    exact nG (by simp only [rJ, Act.put, List.setIfInBounds_toArray, List.set_cons_zero, List.set_cons_succ]) (hCont (v218) _ ⟨(by (with_reducible repeat (first | apply Kd.R_alloc | apply Kd.R_drewN | apply Kd.R_drew)); exact HO216.out), (by (with_reducible repeat (first | apply Kd.R_alloc | apply Kd.R_drewN | apply Kd.R_drew)); exact HO219.out), hb_⟩)
   ·skip
    have hcv8 := lK (P := Tryz.prog) Tryz.underlying22 Tryz.underlying5 Tryz.underlying9 (Kd.own_of_R HO219.out)
    refine iY (w1 := ?_) (v := ?_) (by rfl) rfl ?_ ?_
    rotate_left 2
    ·go_simp
     constructor
     ·rfl
     ·rfl
    clear hcv8
    refine hK.out _ _ trivial (fun hHeld => ?_)
    clear hK K
    refine nG (a' := ?_) ?_ ?_
    rotate_left
    ·show Act.put _ (some 10) _ = _
     simp only [Act.put, List.setIfInBounds_toArray, List.set_cons_zero, List.set_cons_succ, iR, jK]
     rfl
    refine one_ (i := 2) (N := some 7) #[true, true, true, true, true, true, false, false] rfl rfl (o5 HT_.out (by kernel_rfl)) (by decide) (fun K hK => ?_)
    have hcv9 := lK (P := Tryz.prog) Tryz.underlying22 Tryz.underlying5 Tryz.underlying9 (Kd.own_of_R HO216.out)
    refine iY (w1 := ?_) (v := ?_) (by rfl) rfl ?_ ?_
    rotate_left 2
    ·go_simp
     constructor
     ·rfl
     ·rfl
    clear hcv9
    refine hK.out _ _ trivial (fun hHeld => ?_)
    clear hK K
    refine nG (a' := ?_) ?_ ?_
    rotate_left
    ·show Act.put _ (some 7) _ = _
     simp only [Act.put, List.setIfInBounds_toArray, List.set_cons_zero, List.set_cons_succ, iR, jK]
     rfl
    exact nG (by simp only [rJ, Act.put, List.setIfInBounds_toArray, List.set_cons_zero, List.set_cons_succ]) (hCont (v218) _ ⟨(by (with_reducible repeat (first | apply Kd.R_alloc | apply Kd.R_drewN | apply Kd.R_drew)); exact HO216.out), (by (with_reducible repeat (first | apply Kd.R_alloc | apply Kd.R_drewN | apply Kd.R_drew)); exact HO219.out), hb_⟩)
 rintro v218 w10 ⟨h0_, h1_, h2_⟩
 have n0_ : iC (Kd.R (Kd.int .u8) 5 w10 w.heap.size (fun k_ => some k_ ≠ (v218 : Value).ownBlock) v215 t214) := ⟨h0_⟩
 have n1_ : iC (Kd.R (Kd.int .u8) 5 w10 w.heap.size (fun k_ => some k_ ≠ (v215 : Value).ownBlock) v218 t217) := ⟨h1_⟩
 have n2_ : iC (Below w.heap.size w w10) := ⟨h2_⟩
 clear HB
 clear h0_ h1_ h2_
 have HO216 := n0_
 have HO219 := n1_
 have HB := n2_
 clear n0_ n1_ n2_
 have hHeld := trivial
 refine nG (a' := ?_) ?_ ?_
 rotate_left
 ·simp only [rJ, Act.put, List.setIfInBounds_toArray, List.set_cons_zero, List.set_cons_succ]
  rfl
 refine jT (i := 6) (N := some 11) (v := ?_) (a' := ?_) #[true, true, true, true, true, true, true, false] rfl rfl (jI HT_.out (by kernel_rfl)) (fun _ _ _ h => h) (Or.inl ⟨by rfl, ?_⟩) ?_ ?_
 rotate_left
 ·intro w'
  go_simp
  with_reducible rfl
 rotate_left
 ·simp only [Act.put, List.setIfInBounds_toArray, List.set_cons_zero, List.set_cons_succ, iR, jK]
  rfl
 refine jT (i := 7) (N := some 4) (v := ?_) (a' := ?_) #[true, true, true, true, true, true, true, true] rfl rfl (jI HT_.out (by kernel_rfl)) (fun _ _ _ h => h) (Or.inl ⟨by rfl, ?_⟩) ?_ ?_
 rotate_left
 ·intro w'
  go_simp
  with_reducible rfl
 rotate_left
 ·simp only [Act.put, List.setIfInBounds_toArray, List.set_cons_zero, List.set_cons_succ, iR, jK]
  rfl
 refine OJ (uX HT_.out (by kernel_rfl)) ?_
 try go_wp2
 go_ret
 exact ⟨by first | rfl | (simp [jF, jE] <;> rfl) | (simp [*, jF, jE] <;> rfl), hb_⟩
end Go.Proofs.YtgfkgppomaapiaaGreatDoor.K
end

section
namespace Go.Proofs.YtgfkgppomaapiaaGreatDoor.K
open Go.RowKit Go.Proofs.YtgfkgppomaapiaaGreatDoorW.PrintWords Go.Proofs.YtgfkgppomaapiaaGreatDoorW.PrintLast Go.Proofs.YtgfkgppomaapiaaGreatDoorW.PrintMore
attribute [local go_sem] jZ jW kK kH
theorem jg1 (d : Nat) (w : World) (x0 y0 : Int) (x1 y1 : Int) :
  (Op.equalIn (d + 2) 122 (.agg #[.int .i64 x0, .int .i64 x1]) (.agg #[.int .i64 y0, .int .i64 y1])).run Tryz.prog w = .ok (x0 == y0 && (x1 == y1)) w := by
 refine jg3 Tryz.underlying122 (by kernel_rfl) ?_
 refine ZQ (by rfl) (by go_simp; rfl) (by go_simp; rfl) (by go_simp) ?_
 exact YW (by rfl) (by go_simp; rfl) (by go_simp; rfl) (by go_simp)
end Go.Proofs.YtgfkgppomaapiaaGreatDoor.K
end

section
namespace Go.Proofs.YtgfkgppomaapiaaGreatDoor.K
open Go.RowKit Go.Proofs.YtgfkgppomaapiaaGreatDoorW.PrintWords Go.Proofs.YtgfkgppomaapiaaGreatDoorW.PrintLast Go.Proofs.YtgfkgppomaapiaaGreatDoorW.PrintMore
attribute [local go_sem] jZ jW kK kH
attribute [local go_sem high] jg1
mutual
def stratumref07_SameMap.j0 : Nat → Bool → Int → List (S122) → Int → List (S122) → Option (Bool)
 | 0, _, _, _, _, _ => none
 | k + 1, x19, x221000, x221001, x222000, x222001 => if x19 = true then (some false) else (stratumref07_SameMap.l0 k 0 x221000 x221001 x222000 x222001)
def stratumref07_SameMap.l0 : Nat → Int → Int → List (S122) → Int → List (S122) → Option (Bool)
 | 0, _, _, _, _, _ => none
 | k + 1, x5, x221000, x221001, x222000, x222001 => if x5 < (x221001.length : Int) then (if 0 ≤ x5 then (if x5 < (x222001.length : Int) then (if (!(((jM x221001 x5).f0) == ((jM x222001 x5).f0)) || (!(((jM x221001 x5).f1) == ((jM x222001 x5).f1)))) = true then (some false) else (stratumref07_SameMap.l0 k (wrap64 (x5 + 1)) x221000 x221001 x222000 x222001)) else (none)) else (none)) else (some true)
end
def stratumref07_SameMap.f (k : Nat) (a0_0 : Int) (l0_1 : List (S122)) (a1_0 : Int) (l1_1 : List (S122)) : Option (Bool) := if a0_0 = a1_0 then (stratumref07_SameMap.j0 k ((l0_1.length : Int) != (l1_1.length : Int)) a0_0 l0_1 a1_0 l1_1) else (stratumref07_SameMap.j0 k true a0_0 l0_1 a1_0 l1_1)
set_option maxHeartbeats 8000000 in
set_option maxRecDepth 100000 in
theorem stratumref07_SameMap.calls (k : Nat) (a0_0 : Int) (A0_1 : Option Addr) (c0_1 : Nat) (l0_1 : List (S122)) (a1_0 : Int) (A1_1 : Option Addr) (c1_1 : Nat) (l1_1 : List (S122)) (r : Bool) (w : World) (hr0_1 : Kd.C k122 w A0_1 l0_1.length l0_1) (hc0_1 : l0_1.length ≤ c0_1) (hr1_1 : Kd.C k122 w A1_1 l1_1.length l1_1) (hc1_1 : l1_1.length ≤ c1_1) (h : stratumref07_SameMap.f k a0_0 l0_1 a1_0 l1_1 = some r) :
  Calls Tryz.prog 57 #[.agg #[.int .u32 a0_0, .slice A0_1 l0_1.length c0_1], .agg #[.int .u32 a1_0, .slice A1_1 l1_1.length c1_1]] w fun e w' => e = .returned (.bool r) ∧ Below w.heap.size w w' := by
 have hu51 := Tryz.underlying51
 have hu122 := Tryz.underlying122
 have HR0_1 := iC.mk hr0_1
 have HC0_1 := iC.mk hc0_1
 clear hr0_1 hc0_1
 have HR1_1 := iC.mk hr1_1
 have HC1_1 := iC.mk hc1_1
 clear hr1_1 hc1_1
 have HB := iC.mk (Below.refl w.heap.size w)
 have H : (if a0_0 = a1_0 then (stratumref07_SameMap.j0 k ((l0_1.length : Int) != (l1_1.length : Int)) a0_0 l0_1 a1_0 l1_1) else (stratumref07_SameMap.j0 k true a0_0 l0_1 a1_0 l1_1)) = some r := h
 clear h
 have HC3 := iC.mk H
 clear H
 go_enter Tryz.func57, Tryz.ntmps57
 go_upto_region 1 with (first | ((with_reducible refine kU (N := 2) rfl ?_); (try (refine kJ (by rfl) ?_; dsimp only)); refine kG ?hg (N := 2) ?hd (cs := #[.int .u32 a0_0, .slice A0_1 l0_1.length c0_1]) (t := 51) ?hr ?_; (case hd => rfl); (case hg => rfl); (case hr => first | (go_simp; done) | (go_simp; rfl)); intro gb220 hg w4 hbox hb; have n0_ := iC.mk (iF hb_ hb); have n1_ := iC.mk (hbox); have n2_ := iC.mk ((by rw [hg]; exact (iV hb_) : w.heap.size ≤ gb220)); have n3_ := iC.mk ((by rw [hg]; exact (iV hb_) : w.heap.size ≤ gb220)); clear HB; have HB := n0_; have BK220 := n1_; have GW220 := n2_; have GE220 := n3_; clear n0_ n1_ n2_ n3_; clear hb hbox hg) | ((with_reducible refine kU (N := 3) rfl ?_); (try (refine kJ (by rfl) ?_; dsimp only)); refine kG ?hg (N := 3) ?hd (cs := #[.int .u32 a1_0, .slice A1_1 l1_1.length c1_1]) (t := 51) ?hr ?_; (case hd => rfl); (case hg => rfl); (case hr => first | (go_simp; done) | (go_simp; rfl)); intro gb221 hg w5 hbox hb; have n0_ := iC.mk (pK (g := gb220) (o := .cells #[.int .u32 a0_0, .slice A0_1 l0_1.length c0_1] 51 (0, 0)) (bk_ BK220.out) hb); have n1_ := iC.mk (iF (by repeat (first | (with_reducible first | exact HB.out | apply iD | apply iE | apply iT | refine iM ?_ GE220.out) | exact HB.out)) hb); have n2_ := iC.mk (hbox); have n3_ := iC.mk ((by rw [hg]; exact (iV (by repeat (first | (with_reducible first | exact HB.out | apply iD | apply iE | apply iT | refine iM ?_ GE220.out) | exact HB.out))) : w.heap.size ≤ gb221)); have n4_ := iC.mk ((by rw [hg]; exact (iV (by repeat (first | (with_reducible first | exact HB.out | apply iD | apply iE | apply iT | refine iM ?_ GE220.out) | exact HB.out))) : w.heap.size ≤ gb221)); have n5_ := iC.mk ((by rw [hg]; exact Nat.ne_of_lt (jC (g := gb220) (o := .cells #[.int .u32 a0_0, .slice A0_1 l0_1.length c0_1] 51 (0, 0)) (bk_ BK220.out)) : gb220 ≠ gb221)); have n6_ := iC.mk ((by rw [hg]; exact Nat.ne_of_gt (jC (g := gb220) (o := .cells #[.int .u32 a0_0, .slice A0_1 l0_1.length c0_1] 51 (0, 0)) (bk_ BK220.out)) : gb221 ≠ gb220)); clear BK220; clear HB; have BK220 := n0_; have HB := n1_; have BK221 := n2_; have GW221 := n3_; have GE221 := n4_; have NB220_221 := n5_; have NB221_220 := n6_; clear n0_ n1_ n2_ n3_ n4_ n5_ n6_; clear hb hbox hg))
 repeat (go_quiet (first | ((with_reducible refine kU (N := 2) rfl ?_); (try (refine kJ (by rfl) ?_; dsimp only)); refine kG ?hg (N := 2) ?hd (cs := #[.int .u32 a0_0, .slice A0_1 l0_1.length c0_1]) (t := 51) ?hr ?_; (case hd => rfl); (case hg => rfl); (case hr => first | (go_simp; done) | (go_simp; rfl)); intro gb220 hg w4 hbox hb; have n0_ := iC.mk (iF hb_ hb); have n1_ := iC.mk (hbox); have n2_ := iC.mk ((by rw [hg]; exact (iV hb_) : w.heap.size ≤ gb220)); have n3_ := iC.mk ((by rw [hg]; exact (iV hb_) : w.heap.size ≤ gb220)); clear HB; have HB := n0_; have BK220 := n1_; have GW220 := n2_; have GE220 := n3_; clear n0_ n1_ n2_ n3_; clear hb hbox hg) | ((with_reducible refine kU (N := 3) rfl ?_); (try (refine kJ (by rfl) ?_; dsimp only)); refine kG ?hg (N := 3) ?hd (cs := #[.int .u32 a1_0, .slice A1_1 l1_1.length c1_1]) (t := 51) ?hr ?_; (case hd => rfl); (case hg => rfl); (case hr => first | (go_simp; done) | (go_simp; rfl)); intro gb221 hg w5 hbox hb; have n0_ := iC.mk (pK (g := gb220) (o := .cells #[.int .u32 a0_0, .slice A0_1 l0_1.length c0_1] 51 (0, 0)) (bk_ BK220.out) hb); have n1_ := iC.mk (iF (by repeat (first | (with_reducible first | exact HB.out | apply iD | apply iE | apply iT | refine iM ?_ GE220.out) | exact HB.out)) hb); have n2_ := iC.mk (hbox); have n3_ := iC.mk ((by rw [hg]; exact (iV (by repeat (first | (with_reducible first | exact HB.out | apply iD | apply iE | apply iT | refine iM ?_ GE220.out) | exact HB.out))) : w.heap.size ≤ gb221)); have n4_ := iC.mk ((by rw [hg]; exact (iV (by repeat (first | (with_reducible first | exact HB.out | apply iD | apply iE | apply iT | refine iM ?_ GE220.out) | exact HB.out))) : w.heap.size ≤ gb221)); have n5_ := iC.mk ((by rw [hg]; exact Nat.ne_of_lt (jC (g := gb220) (o := .cells #[.int .u32 a0_0, .slice A0_1 l0_1.length c0_1] 51 (0, 0)) (bk_ BK220.out)) : gb220 ≠ gb221)); have n6_ := iC.mk ((by rw [hg]; exact Nat.ne_of_gt (jC (g := gb220) (o := .cells #[.int .u32 a0_0, .slice A0_1 l0_1.length c0_1] 51 (0, 0)) (bk_ BK220.out)) : gb221 ≠ gb220)); clear BK220; clear HB; have BK220 := n0_; have HB := n1_; have BK221 := n2_; have GW221 := n3_; have GE221 := n4_; have NB220_221 := n5_; have NB221_220 := n6_; clear n0_ n1_ n2_ n3_ n4_ n5_ n6_; clear hb hbox hg)); go_upto_region 1 with (first | ((with_reducible refine kU (N := 2) rfl ?_); (try (refine kJ (by rfl) ?_; dsimp only)); refine kG ?hg (N := 2) ?hd (cs := #[.int .u32 a0_0, .slice A0_1 l0_1.length c0_1]) (t := 51) ?hr ?_; (case hd => rfl); (case hg => rfl); (case hr => first | (go_simp; done) | (go_simp; rfl)); intro gb220 hg w4 hbox hb; have n0_ := iC.mk (iF hb_ hb); have n1_ := iC.mk (hbox); have n2_ := iC.mk ((by rw [hg]; exact (iV hb_) : w.heap.size ≤ gb220)); have n3_ := iC.mk ((by rw [hg]; exact (iV hb_) : w.heap.size ≤ gb220)); clear HB; have HB := n0_; have BK220 := n1_; have GW220 := n2_; have GE220 := n3_; clear n0_ n1_ n2_ n3_; clear hb hbox hg) | ((with_reducible refine kU (N := 3) rfl ?_); (try (refine kJ (by rfl) ?_; dsimp only)); refine kG ?hg (N := 3) ?hd (cs := #[.int .u32 a1_0, .slice A1_1 l1_1.length c1_1]) (t := 51) ?hr ?_; (case hd => rfl); (case hg => rfl); (case hr => first | (go_simp; done) | (go_simp; rfl)); intro gb221 hg w5 hbox hb; have n0_ := iC.mk (pK (g := gb220) (o := .cells #[.int .u32 a0_0, .slice A0_1 l0_1.length c0_1] 51 (0, 0)) (bk_ BK220.out) hb); have n1_ := iC.mk (iF (by repeat (first | (with_reducible first | exact HB.out | apply iD | apply iE | apply iT | refine iM ?_ GE220.out) | exact HB.out)) hb); have n2_ := iC.mk (hbox); have n3_ := iC.mk ((by rw [hg]; exact (iV (by repeat (first | (with_reducible first | exact HB.out | apply iD | apply iE | apply iT | refine iM ?_ GE220.out) | exact HB.out))) : w.heap.size ≤ gb221)); have n4_ := iC.mk ((by rw [hg]; exact (iV (by repeat (first | (with_reducible first | exact HB.out | apply iD | apply iE | apply iT | refine iM ?_ GE220.out) | exact HB.out))) : w.heap.size ≤ gb221)); have n5_ := iC.mk ((by rw [hg]; exact Nat.ne_of_lt (jC (g := gb220) (o := .cells #[.int .u32 a0_0, .slice A0_1 l0_1.length c0_1] 51 (0, 0)) (bk_ BK220.out)) : gb220 ≠ gb221)); have n6_ := iC.mk ((by rw [hg]; exact Nat.ne_of_gt (jC (g := gb220) (o := .cells #[.int .u32 a0_0, .slice A0_1 l0_1.length c0_1] 51 (0, 0)) (bk_ BK220.out)) : gb221 ≠ gb220)); clear BK220; clear HB; have BK220 := n0_; have HB := n1_; have BK221 := n2_; have GW221 := n3_; have GE221 := n4_; have NB220_221 := n5_; have NB221_220 := n6_; clear n0_ n1_ n2_ n3_ n4_ n5_ n6_; clear hb hbox hg)))
 (try simp only [Act.put, List.setIfInBounds_toArray, List.set_cons_zero, List.set_cons_succ])
 go_cut [19] (fun v19 wc => ∃ (kq : Nat) (x19_2 : Bool), v19 = .bool x19_2 ∧ iC (stratumref07_SameMap.j0 kq x19_2 a0_0 l0_1 a1_0 l1_1 = some r) ∧ iC (kq ≤ k) ∧ iC (wc.heap[gb220]? = some (.cells #[.int .u32 a0_0, (.slice A0_1 l0_1.length c0_1)] 51 (0, 0))) ∧ iC (wc.heap[gb221]? = some (.cells #[.int .u32 a1_0, (.slice A1_1 l1_1.length c1_1)] 51 (0, 0))) ∧ iC (Below w.heap.size w wc))
 case first =>
  have H := HC3.out
  clear HC3
  by_cases c6 : a0_0 = a1_0
  ·rw [if_pos c6] at H
   have c6b0 : (a0_0 == a1_0) = true := beq_iff_eq.mpr c6
   have c6b1 : (a0_0 != a1_0) = false := bne_eq_false_iff_eq.mpr c6
   clear c6
   (first | rw [c6b0] | (simp only [iR, jK]; rw [c6b0]) | skip)
   have H' := iC.mk H
   clear H
   have hnb7 := NB220_221.out
   have hnc7 := NB221_220.out
   have hcz8_0 : w5.cell? ⟨gb220, 0, none⟩ = some (.int .u32 a0_0) := (iH BK220.out 0).trans rfl
   have hcz8_1 : w5.cell? ⟨gb220, 1, none⟩ = some (.slice A0_1 l0_1.length c0_1) := (iH BK220.out 1).trans rfl
   have hfz8_0 := iG BK220.out 0
   have hfz8_1 := iG BK220.out 1
   have hcz9_0 : w5.cell? ⟨gb221, 0, none⟩ = some (.int .u32 a1_0) := (iH BK221.out 0).trans rfl
   have hcz9_1 : w5.cell? ⟨gb221, 1, none⟩ = some (.slice A1_1 l1_1.length c1_1) := (iH BK221.out 1).trans rfl
   have hfz9_0 := iG BK221.out 0
   have hfz9_1 := iG BK221.out 1
   go_wp2
   repeat (go_quiet (fail); try go_wp2)
   go_meet
   case rel => exact ⟨_, (((l0_1.length : Int) != (l1_1.length : Int))), (by first | rfl | (simp; done) | (simp [*]; done)), H', ⟨by first | omega | exact Nat.le_refl _⟩, ⟨bk_ BK220.out⟩, ⟨bk_ BK221.out⟩, ⟨by repeat (first | (with_reducible first | exact HB.out | apply iD | apply iE | apply iT | refine iM ?_ GE220.out | refine iM ?_ GE221.out) | exact HB.out)⟩⟩
  ·rw [if_neg c6] at H
   have c6b0 : (a0_0 == a1_0) = false := beq_eq_false_iff_ne.mpr c6
   have c6b1 : (a0_0 != a1_0) = true := bne_iff_ne.mpr c6
   (first | rw [c6b0] | (simp only [iR, jK]; rw [c6b0]) | skip)
   have H' := iC.mk H
   clear H
   have hnb10 := NB220_221.out
   have hnc10 := NB221_220.out
   have hcz11_0 : w5.cell? ⟨gb220, 0, none⟩ = some (.int .u32 a0_0) := (iH BK220.out 0).trans rfl
   have hcz11_1 : w5.cell? ⟨gb220, 1, none⟩ = some (.slice A0_1 l0_1.length c0_1) := (iH BK220.out 1).trans rfl
   have hfz11_0 := iG BK220.out 0
   have hfz11_1 := iG BK220.out 1
   have hcz12_0 : w5.cell? ⟨gb221, 0, none⟩ = some (.int .u32 a1_0) := (iH BK221.out 0).trans rfl
   have hcz12_1 : w5.cell? ⟨gb221, 1, none⟩ = some (.slice A1_1 l1_1.length c1_1) := (iH BK221.out 1).trans rfl
   have hfz12_0 := iG BK221.out 0
   have hfz12_1 := iG BK221.out 1
   go_wp2
   repeat (go_quiet (fail); try go_wp2)
   go_meet
   case rel => exact ⟨_, (true), (by first | rfl | (simp; done) | (simp [*]; done)), H', ⟨by first | omega | exact Nat.le_refl _⟩, ⟨bk_ BK220.out⟩, ⟨bk_ BK221.out⟩, ⟨by repeat (first | (with_reducible first | exact HB.out | apply iD | apply iE | apply iT | refine iM ?_ GE220.out | refine iM ?_ GE221.out) | exact HB.out)⟩⟩
 case rest =>
  clear HC3
  try clear c1
  try clear p2
  try clear c5
  try clear c6
  try clear c6b0
  try clear c6b1
  try clear c7
  try clear c10
  try clear hcz11_0
  try clear hcz11_1
  try clear hcz12_0
  try clear hcz12_1
  try clear hcz8_0
  try clear hcz8_1
  try clear hcz9_0
  try clear hcz9_1
  try clear hfz11_0
  try clear hfz11_1
  try clear hfz12_0
  try clear hfz12_1
  try clear hfz8_0
  try clear hfz8_1
  try clear hfz9_0
  try clear hfz9_1
  obtain ⟨kq, x19_2, rfl, HA, HJ2, BK220, BK221, HB⟩ := hcut
  cases kq with
  | zero => exact absurd HA.out (by simp [stratumref07_SameMap.j0])
  | succ kj2 =>
   have H := HA.out
   clear HA
   simp only [stratumref07_SameMap.j0] at H
   by_cases c13 : x19_2 = true
   ·subst c13
    have H1 : (some false) = some r := by rw [if_pos rfl] at H; exact H
    clear H
    have H := H1
    clear H1
    obtain rfl := Option.some.inj H
    go_wp2
    repeat (go_quiet (fail); try go_wp2)
    go_ret
    exact ⟨by first | rfl | (simp [jF, jE] <;> rfl) | (simp [*, jF, jE] <;> rfl), by repeat (first | (with_reducible first | exact HB.out | apply iD | apply iE | apply iT | refine iM ?_ GE220.out | refine iM ?_ GE221.out) | exact HB.out)⟩
   ·replace c13 := Bool.eq_false_iff.mpr c13
    subst c13
    have H1 : (stratumref07_SameMap.l0 kj2 0 a0_0 l0_1 a1_0 l1_1) = some r := by rw [if_neg (show ¬ (false = true) by decide)] at H; exact H
    clear H
    have H := H1
    clear H1
    have H' := iC.mk H
    clear H
    go_wp2
    repeat (go_quiet (fail); try go_wp2)
    go_loopg [5] kj2 (fun kq v5 w' => ∃ (x5_2 : Int), v5 = .int .i64 x5_2 ∧ iC (stratumref07_SameMap.l0 kq x5_2 a0_0 l0_1 a1_0 l1_1 = some r) ∧ iC (kq ≤ kj2) ∧ iC (w'.heap[gb220]? = some (.cells #[.int .u32 a0_0, (.slice A0_1 l0_1.length c0_1)] 51 (0, 0))) ∧ iC (w'.heap[gb221]? = some (.cells #[.int .u32 a1_0, (.slice A1_1 l1_1.length c1_1)] 51 (0, 0))) ∧ iC (Below w.heap.size w w'))
    case atStart => exact ⟨(0), (by first | rfl | (simp; done) | (simp [*]; done)), H', ⟨Nat.le_refl _⟩, ⟨bk_ BK220.out⟩, ⟨bk_ BK221.out⟩, ⟨by repeat (first | (with_reducible first | exact HB.out | apply iD | apply iE | apply iT | refine iM ?_ GE220.out | refine iM ?_ GE221.out) | exact HB.out)⟩⟩
    case round =>
     clear H'
     try clear c1
     try clear p2
     try clear c5
     try clear c6
     try clear c6b0
     try clear c6b1
     try clear c7
     try clear c10
     try clear c13
     try clear hcz11_0
     try clear hcz11_1
     try clear hcz12_0
     try clear hcz12_1
     try clear hcz8_0
     try clear hcz8_1
     try clear hcz9_0
     try clear hcz9_1
     try clear hfz11_0
     try clear hfz11_1
     try clear hfz12_0
     try clear hfz12_1
     try clear hfz8_0
     try clear hfz8_1
     try clear hfz9_0
     try clear hfz9_1
     try clear p2
     obtain ⟨x5_2, rfl, HA, HK2, BK220, BK221, HB⟩ := hrel
     cases gk with
     | zero => exact absurd HA.out (by simp [stratumref07_SameMap.l0])
     | succ k2 =>
      have H := HA.out
      clear HA
      simp only [stratumref07_SameMap.l0] at H
      by_cases c14 : x5_2 < (l0_1.length : Int)
      ·rw [if_pos c14] at H
       have c14b0 : decide (x5_2 < (l0_1.length : Int)) = true := decide_eq_true c14
       clear c14
       by_cases c15 : 0 ≤ x5_2
       ·rw [if_pos c15] at H
        have c15b0 : decide (0 ≤ x5_2) = true := decide_eq_true c15
        clear c15
        by_cases c16 : x5_2 < (l1_1.length : Int)
        ·rw [if_pos c16] at H
         have c16b0 : decide (x5_2 < (l1_1.length : Int)) = true := decide_eq_true c16
         clear c16
         by_cases c17 : (!(((jM l0_1 x5_2).f0) == ((jM l1_1 x5_2).f0)) || (!(((jM l0_1 x5_2).f1) == ((jM l1_1 x5_2).f1)))) = true
         ·rw [if_pos c17] at H
          have c17b0 : (!(((jM l0_1 x5_2).f0) == ((jM l1_1 x5_2).f0)) || (!(((jM l0_1 x5_2).f1) == ((jM l1_1 x5_2).f1)))) = true := c17
          clear c17
          obtain rfl := Option.some.inj H
          have hnb18 := NB220_221.out
          have hnc18 := NB221_220.out
          have hcz19_0 : wr.cell? ⟨gb220, 0, none⟩ = some (.int .u32 a0_0) := (iH BK220.out 0).trans rfl
          have hcz19_1 : wr.cell? ⟨gb220, 1, none⟩ = some (.slice A0_1 l0_1.length c0_1) := (iH BK220.out 1).trans rfl
          have hfz19_0 := iG BK220.out 0
          have hfz19_1 := iG BK220.out 1
          have p222 : 0 ≤ (x5_2 : Int) := of_decide_eq_true asm_
          have q222 : x5_2 < (l0_1.length : Int) := of_decide_eq_true asm_
          obtain ⟨ad222, e222, hx222_0, hx222_1⟩ := lI HR0_1.out x5_2 p222 q222
          cases e222
          replace hx222_0 := (HB.out.cell (World.block_lt_of_cell? w _ hx222_0)).trans hx222_0
          replace hx222_1 := (HB.out.cell (World.block_lt_of_cell? w _ hx222_1)).trans hx222_1
          replace p222 := eq_true p222
          replace q222 := eq_true q222
          have hcz20_0 : wr.cell? ⟨gb221, 0, none⟩ = some (.int .u32 a1_0) := (iH BK221.out 0).trans rfl
          have hcz20_1 : wr.cell? ⟨gb221, 1, none⟩ = some (.slice A1_1 l1_1.length c1_1) := (iH BK221.out 1).trans rfl
          have hfz20_0 := iG BK221.out 0
          have hfz20_1 := iG BK221.out 1
          have p223 : 0 ≤ (x5_2 : Int) := of_decide_eq_true asm_
          have q223 : x5_2 < (l1_1.length : Int) := of_decide_eq_true asm_
          obtain ⟨ad223, e223, hx223_0, hx223_1⟩ := lI HR1_1.out x5_2 p223 q223
          cases e223
          replace hx223_0 := (HB.out.cell (World.block_lt_of_cell? w _ hx223_0)).trans hx223_0
          replace hx223_1 := (HB.out.cell (World.block_lt_of_cell? w _ hx223_1)).trans hx223_1
          replace p223 := eq_true p223
          replace q223 := eq_true q223
          go_wp2
          repeat (go_quiet (fail); try go_wp2)
          go_ret
          exact ⟨by first | rfl | (simp [jF, jE] <;> rfl) | (simp [*, jF, jE] <;> rfl), by repeat (first | (with_reducible first | exact HB.out | apply iD | apply iE | apply iT | refine iM ?_ GE220.out | refine iM ?_ GE221.out) | exact HB.out)⟩
         ·rw [if_neg c17] at H
          have c17b0 : (!(((jM l0_1 x5_2).f0) == ((jM l1_1 x5_2).f0)) || (!(((jM l0_1 x5_2).f1) == ((jM l1_1 x5_2).f1)))) = false := by simpa using c17
          clear c17
          have H' := iC.mk H
          clear H
          have hnb21 := NB220_221.out
          have hnc21 := NB221_220.out
          have hcz22_0 : wr.cell? ⟨gb220, 0, none⟩ = some (.int .u32 a0_0) := (iH BK220.out 0).trans rfl
          have hcz22_1 : wr.cell? ⟨gb220, 1, none⟩ = some (.slice A0_1 l0_1.length c0_1) := (iH BK220.out 1).trans rfl
          have hfz22_0 := iG BK220.out 0
          have hfz22_1 := iG BK220.out 1
          have p222 : 0 ≤ (x5_2 : Int) := of_decide_eq_true asm_
          have q222 : x5_2 < (l0_1.length : Int) := of_decide_eq_true asm_
          obtain ⟨ad222, e222, hx222_0, hx222_1⟩ := lI HR0_1.out x5_2 p222 q222
          cases e222
          replace hx222_0 := (HB.out.cell (World.block_lt_of_cell? w _ hx222_0)).trans hx222_0
          replace hx222_1 := (HB.out.cell (World.block_lt_of_cell? w _ hx222_1)).trans hx222_1
          replace p222 := eq_true p222
          replace q222 := eq_true q222
          have hcz23_0 : wr.cell? ⟨gb221, 0, none⟩ = some (.int .u32 a1_0) := (iH BK221.out 0).trans rfl
          have hcz23_1 : wr.cell? ⟨gb221, 1, none⟩ = some (.slice A1_1 l1_1.length c1_1) := (iH BK221.out 1).trans rfl
          have hfz23_0 := iG BK221.out 0
          have hfz23_1 := iG BK221.out 1
          have p223 : 0 ≤ (x5_2 : Int) := of_decide_eq_true asm_
          have q223 : x5_2 < (l1_1.length : Int) := of_decide_eq_true asm_
          obtain ⟨ad223, e223, hx223_0, hx223_1⟩ := lI HR1_1.out x5_2 p223 q223
          cases e223
          replace hx223_0 := (HB.out.cell (World.block_lt_of_cell? w _ hx223_0)).trans hx223_0
          replace hx223_1 := (HB.out.cell (World.block_lt_of_cell? w _ hx223_1)).trans hx223_1
          replace p223 := eq_true p223
          replace q223 := eq_true q223
          go_wp2
          repeat (go_quiet (fail); try go_wp2)
          go_roundg k2
          case measure => have := HJ2.out; have := HK2.out; omega
          case rel => exact ⟨(wrap64 (x5_2 + 1)), (by first | rfl | (simp; done) | (simp [*]; done)), H', ⟨by have := HJ2.out; have := HK2.out; omega⟩, ⟨bk_ BK220.out⟩, ⟨bk_ BK221.out⟩, ⟨by repeat (first | (with_reducible first | exact HB.out | apply iD | apply iE | apply iT | refine iM ?_ GE220.out | refine iM ?_ GE221.out) | exact HB.out)⟩⟩
        ·rw [if_neg c16] at H
         exact absurd H (by simp)
       ·rw [if_neg c15] at H
        exact absurd H (by simp)
      ·rw [if_neg c14] at H
       have c14b0 : decide (x5_2 < (l0_1.length : Int)) = false := decide_eq_false c14
       clear c14
       obtain rfl := Option.some.inj H
       have hnb24 := NB220_221.out
       have hnc24 := NB221_220.out
       have hcz25_0 : wr.cell? ⟨gb220, 0, none⟩ = some (.int .u32 a0_0) := (iH BK220.out 0).trans rfl
       have hcz25_1 : wr.cell? ⟨gb220, 1, none⟩ = some (.slice A0_1 l0_1.length c0_1) := (iH BK220.out 1).trans rfl
       have hfz25_0 := iG BK220.out 0
       have hfz25_1 := iG BK220.out 1
       go_wp2
       repeat (go_quiet (fail); try go_wp2)
       go_ret
       exact ⟨by first | rfl | (simp [jF, jE] <;> rfl) | (simp [*, jF, jE] <;> rfl), by repeat (first | (with_reducible first | exact HB.out | apply iD | apply iE | apply iT | refine iM ?_ GE220.out | refine iM ?_ GE221.out) | exact HB.out)⟩
end Go.Proofs.YtgfkgppomaapiaaGreatDoor.K
end

section
namespace Go.Proofs.YtgfkgppomaapiaaGreatDoor.K
open Go.RowKit Go.Proofs.YtgfkgppomaapiaaGreatDoorW.PrintWords Go.Proofs.YtgfkgppomaapiaaGreatDoorW.PrintLast Go.Proofs.YtgfkgppomaapiaaGreatDoorW.PrintMore
attribute [local go_sem] jZ jW kK kH
def stratumref07_SameEntries.f (l0 : List (S114)) (l1 : List (S114)) : Option (Bool) := (stratumref07_Entries.f ([] : List Int) l0).bind fun t224 => ((stratumref07_Entries.f ([] : List Int) l1).bind fun t227 => (some ((strOfNums t224).toList == (strOfNums t227).toList)))
def stratumref07_SameEntries.T1 : Bool × List (List Nat × List Nat) := (true, [([], []), ([0], [0]), ([1], [1]), ([], []), ([3, 1], [3]), ([4], [4]), ([2, 5], [2, 5]), ([6, 4, 0, 1, 2, 3, 4, 5, 6], [6])])
def stratumref07_SameEntries.B1 : List Nat := [0, 1, 3, 0, 11, 27, 63, 127]
theorem stratumref07_SameEntries.tab1 : rtab .any (opsOf Tryz.f58 1) = stratumref07_SameEntries.T1 := by kernel_rfl
theorem stratumref07_SameEntries.bits1 : nV stratumref07_SameEntries.T1.2 stratumref07_SameEntries.B1 = true := by kernel_rfl
set_option maxHeartbeats 8000000 in
set_option maxRecDepth 100000 in
theorem stratumref07_SameEntries.calls (A0 : Option Addr) (c0 : Nat) (l0 : List (S114)) (A1 : Option Addr) (c1 : Nat) (l1 : List (S114)) (r : Bool) (w : World) (hr0 : Kd.C k114 w A0 l0.length l0) (hc0 : l0.length ≤ c0) (hr1 : Kd.C k114 w A1 l1.length l1) (hc1 : l1.length ≤ c1) (h : stratumref07_SameEntries.f l0 l1 = some r) :
  Calls Tryz.prog 58 #[.slice A0 l0.length c0, .slice A1 l1.length c1] w fun e w' => e = .returned (.bool r) ∧ Below w.heap.size w w' := by
 have HR0 := iC.mk hr0
 have HC0 := iC.mk hc0
 clear hr0 hc0
 have HR1 := iC.mk hr1
 have HC1 := iC.mk hc1
 clear hr1 hc1
 have HB := iC.mk (Below.refl w.heap.size w)
 have H : ((stratumref07_Entries.f ([] : List Int) l0).bind fun t224 => ((stratumref07_Entries.f ([] : List Int) l1).bind fun t227 => (some ((strOfNums t224).toList == (strOfNums t227).toList)))) = some r := h
 clear h
 replace H := Option.bind_eq_some_iff.mp H
 obtain ⟨t224, A30, H⟩ := H
 replace H : ((stratumref07_Entries.f ([] : List Int) l1).bind fun t227 => (some ((strOfNums t224).toList == (strOfNums t227).toList))) = some r := H
 have A3 := iC.mk A30
 clear A30
 replace H := Option.bind_eq_some_iff.mp H
 obtain ⟨t227, A40, H⟩ := H
 replace H : (some ((strOfNums t224).toList == (strOfNums t227).toList)) = some r := H
 have A4 := iC.mk A40
 clear A40
 obtain rfl := Option.some.inj H
 go_enter Tryz.func58, Tryz.ntmps58
 try go_wp2
 have n0_ := iC.mk (iT HB.out)
 clear HB
 have HB := n0_
 clear n0_
 refine vP (n := 8) (S := fun w' => True) (ds := []) #[false, false, false, false, false, false, false, false] (by kernel_rfl) rfl rfl trivial (fun hHeld => ?_); refine pG stratumref07_SameEntries.tab1 stratumref07_SameEntries.bits1 (fun HT_ HW_ => ?_)
 generalize w.drew = w5 at HB hHeld ⊢
 refine jT (i := 0) (N := some 5) (v := ?_) (a' := ?_) #[true, false, false, false, false, false, false, false] rfl rfl (jI HT_.out (by kernel_rfl)) (fun _ _ _ h => h) (Or.inl ⟨by rfl, ?_⟩) ?_ ?_
 rotate_left
 ·intro w'
  go_simp
  with_reducible rfl
 rotate_left
 ·simp only [Act.put, List.setIfInBounds_toArray, List.set_cons_zero, List.set_cons_succ, iR, jK]
  rfl
 refine jT (i := 3) (N := some 8) (v := ?_) (a' := ?_) #[true, false, false, true, false, false, false, false] rfl rfl (jI HT_.out (by kernel_rfl)) (fun _ _ _ h => h) (Or.inl ⟨by rfl, ?_⟩) ?_ ?_
 rotate_left
 ·intro w'
  go_simp
  with_reducible rfl
 rotate_left
 ·simp only [Act.put, List.setIfInBounds_toArray, List.set_cons_zero, List.set_cons_succ, iR, jK]
  rfl
 refine one_ (i := 1) (N := some 6) #[true, true, false, true, false, false, false, false] rfl rfl (o5 HT_.out (by kernel_rfl)) (by decide) (fun K hK => ?_)
 refine qL Tryz.func75 (by kernel_rfl) rfl #[.slice none 0 0, .slice A0 l0.length c0] (by rfl) rfl rfl (by (try simp only [List.map_toArray, List.map_cons, List.map_nil]); first | done | rfl | (simp only [List.length_drop, List.length_take]; rfl)) ?_
 refine (stratumref07_Entries.calls0 _ _ l0 t224 _ ?side1 ?side2 ?side3 ?side4 A3.out).mono ?_
 (case side1 => exact Kd.C_nil _ _)
 (case side2 => exact Nat.le_refl _)
 (case side3 => repeat (first | exact (Kd.C_below HR0.out HB.out) | (with_reducible refine Kd.C_alloc ?_ _) | (with_reducible refine Kd.C_drewN ?_ _) | (with_reducible refine Kd.C_drew ?_)))
 (case side4 => exact HC0.out)
 rintro e w6 ⟨v225, rfl, ho0, hb⟩
 refine ⟨_, rfl, ?_⟩
 have n0_ := iC.mk (Kd.R_lower ho0 (iV hb_))
 have n1_ := iC.mk (iF hb_ hb)
 clear HB
 have HO226 := n0_
 have HB := n1_
 clear n0_ n1_
 (try clear hb)
 (try clear hb2)
 (try clear hk)
 (try clear hi)
 (try clear ho0)
 refine hK.out _ _ trivial (fun hHeld => ?_)
 clear hK K
 refine nG (a' := ?_) ?_ ?_
 rotate_left
 ·show Act.put _ (some 6) _ = _
  simp only [Act.put, List.setIfInBounds_toArray, List.set_cons_zero, List.set_cons_succ, iR, jK]
  rfl
 refine je_ (σ := Value) 2 #[true, true, true, true, true, true, false, false] (fun s_ => [(7, .string (strOfNums t224)), (9, s_), (10, .string (strOfNums t227))]) (fun s_ w' => (Kd.R (Kd.int .u8) 5 w' w.heap.size (fun k_ => some k_ ≠ (s_ : Value).ownBlock) v225 t224) ∧ (Kd.R (Kd.int .u8) 5 w' w.heap.size (fun k_ => some k_ ≠ (v225 : Value).ownBlock) s_ t227) ∧ (Below w.heap.size w w')) ?_ ?_
 rotate_left
 ·intro hCont
  refine two_ (i := 2) (j := 4) (Ni := some 7) (Nj := some 9) #[true, true, true, true, false, false, false, false] #[true, true, false, true, true, false, false, false] rfl rfl rfl rfl (QD HT_.out (by kernel_rfl)) (by decide) (by decide) (fun K hK => ?_) (fun K hK => ?_)
  ·skip
   have hcv7 := lK (P := Tryz.prog) Tryz.underlying22 Tryz.underlying5 Tryz.underlying9 (Kd.own_of_R HO226.out)
   refine iY (w1 := ?_) (v := ?_) (by rfl) rfl ?_ ?_
   rotate_left 2
   ·go_simp
    constructor
    ·rfl
    ·rfl
   clear hcv7
   refine hK.out _ _ trivial (fun hHeld => ?_)
   clear hK K
   refine nG (a' := ?_) ?_ ?_
   rotate_left
   ·show Act.put _ (some 7) _ = _
    simp only [Act.put, List.setIfInBounds_toArray, List.set_cons_zero, List.set_cons_succ, iR, jK]
    rfl
   refine one_ (i := 4) (N := some 9) #[true, true, true, true, true, false, false, false] rfl rfl (o5 HT_.out (by kernel_rfl)) (by decide) (fun K hK => ?_)
   refine qL Tryz.func75 (by kernel_rfl) rfl #[.slice none 0 0, .slice A1 l1.length c1] (by rfl) rfl rfl (by (try simp only [List.map_toArray, List.map_cons, List.map_nil]); first | done | rfl | (simp only [List.length_drop, List.length_take]; rfl)) ?_
   refine (stratumref07_Entries.calls0 _ _ l1 t227 _ ?side1 ?side2 ?side3 ?side4 A4.out).mono ?_
   (case side1 => exact Kd.C_nil _ _)
   (case side2 => exact Nat.le_refl _)
   (case side3 => repeat (first | exact (Kd.C_below HR1.out HB.out) | (with_reducible refine Kd.C_alloc ?_ _) | (with_reducible refine Kd.C_drewN ?_ _) | (with_reducible refine Kd.C_drew ?_)))
   (case side4 => exact HC1.out)
   rintro e w8 ⟨v228, rfl, ho0, hb⟩
   refine ⟨_, rfl, ?_⟩
   have n0_ := iC.mk (Kd.R_elder' (by (with_reducible repeat (first | apply Kd.R_alloc | apply Kd.R_drewN | apply Kd.R_drew)); exact HO226.out) (Kd.R_base ho0) hb)
   have n1_ := iC.mk (Kd.R_lower (Kd.R_new' ho0 (Kd.R_lt (by (with_reducible repeat (first | apply Kd.R_alloc | apply Kd.R_drewN | apply Kd.R_drew)); exact HO226.out))) (iV hb_))
   have n2_ := iC.mk (iF hb_ hb)
   clear HO226
   clear HB
   have HO226 := n0_
   have HO229 := n1_
   have HB := n2_
   clear n0_ n1_ n2_
   (try clear hb)
   (try clear hb2)
   (try clear hk)
   (try clear hi)
   (try clear ho0)
   refine hK.out _ _ trivial (fun hHeld => ?_)
   clear hK K
   refine nG (a' := ?_) ?_ ?_
   rotate_left
   ·show Act.put _ (some 9) _ = _
    simp only [Act.put, List.setIfInBounds_toArray, List.set_cons_zero, List.set_cons_succ, iR, jK]
    rfl
   refine one_ (i := 5) (N := some 10) #[true, true, true, true, true, true, false, false] rfl rfl (o5 HT_.out (by kernel_rfl)) (by decide) (fun K hK => ?_)
   have hcv9 := lK (P := Tryz.prog) Tryz.underlying22 Tryz.underlying5 Tryz.underlying9 (Kd.own_of_R HO229.out)
   refine iY (w1 := ?_) (v := ?_) (by rfl) rfl ?_ ?_
   rotate_left 2
   ·go_simp
    constructor
    ·rfl
    ·rfl
   clear hcv9
   refine hK.out _ _ trivial (fun hHeld => ?_)
   clear hK K
   refine nG (a' := ?_) ?_ ?_
   rotate_left
   ·show Act.put _ (some 10) _ = _
    simp only [Act.put, List.setIfInBounds_toArray, List.set_cons_zero, List.set_cons_succ, iR, jK]
    rfl
   exact nG (by simp only [rJ, Act.put, List.setIfInBounds_toArray, List.set_cons_zero, List.set_cons_succ]) (hCont (v228) _ ⟨(by (with_reducible repeat (first | apply Kd.R_alloc | apply Kd.R_drewN | apply Kd.R_drew)); exact Kd.R_mono HO226.out (fun _ hk => hk.2)), (by (with_reducible repeat (first | apply Kd.R_alloc | apply Kd.R_drewN | apply Kd.R_drew)); exact Kd.R_mono HO229.out (fun _ hk => hk.2)), hb_⟩)
  ·skip
   refine qL Tryz.func75 (by kernel_rfl) rfl #[.slice none 0 0, .slice A1 l1.length c1] (by rfl) rfl rfl (by (try simp only [List.map_toArray, List.map_cons, List.map_nil]); first | done | rfl | (simp only [List.length_drop, List.length_take]; rfl)) ?_
   refine (stratumref07_Entries.calls0 _ _ l1 t227 _ ?side1 ?side2 ?side3 ?side4 A4.out).mono ?_
   (case side1 => exact Kd.C_nil _ _)
   (case side2 => exact Nat.le_refl _)
   (case side3 => repeat (first | exact (Kd.C_below HR1.out HB.out) | (with_reducible refine Kd.C_alloc ?_ _) | (with_reducible refine Kd.C_drewN ?_ _) | (with_reducible refine Kd.C_drew ?_)))
   (case side4 => exact HC1.out)
   rintro e w7 ⟨v228, rfl, ho0, hb⟩
   refine ⟨_, rfl, ?_⟩
   have n0_ := iC.mk (Kd.R_elder' (by (with_reducible repeat (first | apply Kd.R_alloc | apply Kd.R_drewN | apply Kd.R_drew)); exact HO226.out) (Kd.R_base ho0) hb)
   have n1_ := iC.mk (Kd.R_lower (Kd.R_new' ho0 (Kd.R_lt (by (with_reducible repeat (first | apply Kd.R_alloc | apply Kd.R_drewN | apply Kd.R_drew)); exact HO226.out))) (iV hb_))
   have n2_ := iC.mk (iF hb_ hb)
   clear HO226
   clear HB
   have HO226 := n0_
   have HO229 := n1_
   have HB := n2_
   clear n0_ n1_ n2_
   (try clear hb)
   (try clear hb2)
   (try clear hk)
   (try clear hi)
   (try clear ho0)
   refine hK.out _ _ trivial (fun hHeld => ?_)
   clear hK K
   refine nG (a' := ?_) ?_ ?_
   rotate_left
   ·show Act.put _ (some 9) _ = _
    simp only [Act.put, List.setIfInBounds_toArray, List.set_cons_zero, List.set_cons_succ, iR, jK]
    rfl
   refine two_ (i := 2) (j := 5) (Ni := some 7) (Nj := some 10) #[true, true, true, true, true, false, false, false] #[true, true, false, true, true, true, false, false] rfl rfl rfl rfl (QD HT_.out (by kernel_rfl)) (by decide) (by decide) (fun K hK => ?_) (fun K hK => ?_)
   ·skip
    have hcv8 := lK (P := Tryz.prog) Tryz.underlying22 Tryz.underlying5 Tryz.underlying9 (Kd.own_of_R HO226.out)
    refine iY (w1 := ?_) (v := ?_) (by rfl) rfl ?_ ?_
    rotate_left 2
    ·go_simp
     constructor
     ·rfl
     ·rfl
    clear hcv8
    refine hK.out _ _ trivial (fun hHeld => ?_)
    clear hK K
    refine nG (a' := ?_) ?_ ?_
    rotate_left
    ·show Act.put _ (some 7) _ = _
     simp only [Act.put, List.setIfInBounds_toArray, List.set_cons_zero, List.set_cons_succ, iR, jK]
     rfl
    refine one_ (i := 5) (N := some 10) #[true, true, true, true, true, true, false, false] rfl rfl (o5 HT_.out (by kernel_rfl)) (by decide) (fun K hK => ?_)
    have hcv9 := lK (P := Tryz.prog) Tryz.underlying22 Tryz.underlying5 Tryz.underlying9 (Kd.own_of_R HO229.out)
    refine iY (w1 := ?_) (v := ?_) (by rfl) rfl ?_ ?_
    rotate_left 2
    ·go_simp
     constructor
     ·rfl
     ·rfl
    clear hcv9
    refine hK.out _ _ trivial (fun hHeld => ?_)
    clear hK K
    refine nG (a' := ?_) ?_ ?_
    rotate_left
    ·show Act.put _ (some 10) _ = _
     simp only [Act.put, List.setIfInBounds_toArray, List.set_cons_zero, List.set_cons_succ, iR, jK]
     rfl
    exact nG (by simp only [rJ, Act.put, List.setIfInBounds_toArray, List.set_cons_zero, List.set_cons_succ]) (hCont (v228) _ ⟨(by (with_reducible repeat (first | apply Kd.R_alloc | apply Kd.R_drewN | apply Kd.R_drew)); exact Kd.R_mono HO226.out (fun _ hk => hk.2)), (by (with_reducible repeat (first | apply Kd.R_alloc | apply Kd.R_drewN | apply Kd.R_drew)); exact Kd.R_mono HO229.out (fun _ hk => hk.2)), hb_⟩)
   ·skip
    have hcv8 := lK (P := Tryz.prog) Tryz.underlying22 Tryz.underlying5 Tryz.underlying9 (Kd.own_of_R HO229.out)
    refine iY (w1 := ?_) (v := ?_) (by rfl) rfl ?_ ?_
    rotate_left 2
    ·go_simp
     constructor
     ·rfl
     ·rfl
    clear hcv8
    refine hK.out _ _ trivial (fun hHeld => ?_)
    clear hK K
    refine nG (a' := ?_) ?_ ?_
    rotate_left
    ·show Act.put _ (some 10) _ = _
     simp only [Act.put, List.setIfInBounds_toArray, List.set_cons_zero, List.set_cons_succ, iR, jK]
     rfl
    refine one_ (i := 2) (N := some 7) #[true, true, true, true, true, true, false, false] rfl rfl (o5 HT_.out (by kernel_rfl)) (by decide) (fun K hK => ?_)
    have hcv9 := lK (P := Tryz.prog) Tryz.underlying22 Tryz.underlying5 Tryz.underlying9 (Kd.own_of_R HO226.out)
    refine iY (w1 := ?_) (v := ?_) (by rfl) rfl ?_ ?_
    rotate_left 2
    ·go_simp
     constructor
     ·rfl
     ·rfl
    clear hcv9
    refine hK.out _ _ trivial (fun hHeld => ?_)
    clear hK K
    refine nG (a' := ?_) ?_ ?_
    rotate_left
    ·show Act.put _ (some 7) _ = _
     simp only [Act.put, List.setIfInBounds_toArray, List.set_cons_zero, List.set_cons_succ, iR, jK]
     rfl
    exact nG (by simp only [rJ, Act.put, List.setIfInBounds_toArray, List.set_cons_zero, List.set_cons_succ]) (hCont (v228) _ ⟨(by (with_reducible repeat (first | apply Kd.R_alloc | apply Kd.R_drewN | apply Kd.R_drew)); exact Kd.R_mono HO226.out (fun _ hk => hk.2)), (by (with_reducible repeat (first | apply Kd.R_alloc | apply Kd.R_drewN | apply Kd.R_drew)); exact Kd.R_mono HO229.out (fun _ hk => hk.2)), hb_⟩)
 rintro v228 w10 ⟨h0_, h1_, h2_⟩
 have n0_ : iC (Kd.R (Kd.int .u8) 5 w10 w.heap.size (fun k_ => some k_ ≠ (v228 : Value).ownBlock) v225 t224) := ⟨h0_⟩
 have n1_ : iC (Kd.R (Kd.int .u8) 5 w10 w.heap.size (fun k_ => some k_ ≠ (v225 : Value).ownBlock) v228 t227) := ⟨h1_⟩
 have n2_ : iC (Below w.heap.size w w10) := ⟨h2_⟩
 clear HB
 clear h0_ h1_ h2_
 have HO226 := n0_
 have HO229 := n1_
 have HB := n2_
 clear n0_ n1_ n2_
 have hHeld := trivial
 refine nG (a' := ?_) ?_ ?_
 rotate_left
 ·simp only [rJ, Act.put, List.setIfInBounds_toArray, List.set_cons_zero, List.set_cons_succ]
  rfl
 refine jT (i := 6) (N := some 11) (v := ?_) (a' := ?_) #[true, true, true, true, true, true, true, false] rfl rfl (jI HT_.out (by kernel_rfl)) (fun _ _ _ h => h) (Or.inl ⟨by rfl, ?_⟩) ?_ ?_
 rotate_left
 ·intro w'
  go_simp
  with_reducible rfl
 rotate_left
 ·simp only [Act.put, List.setIfInBounds_toArray, List.set_cons_zero, List.set_cons_succ, iR, jK]
  rfl
 refine jT (i := 7) (N := some 4) (v := ?_) (a' := ?_) #[true, true, true, true, true, true, true, true] rfl rfl (jI HT_.out (by kernel_rfl)) (fun _ _ _ h => h) (Or.inl ⟨by rfl, ?_⟩) ?_ ?_
 rotate_left
 ·intro w'
  go_simp
  with_reducible rfl
 rotate_left
 ·simp only [Act.put, List.setIfInBounds_toArray, List.set_cons_zero, List.set_cons_succ, iR, jK]
  rfl
 refine OJ (uX HT_.out (by kernel_rfl)) ?_
 try go_wp2
 go_ret
 exact ⟨by first | rfl | (simp [jF, jE] <;> rfl) | (simp [*, jF, jE] <;> rfl), hb_⟩
end Go.Proofs.YtgfkgppomaapiaaGreatDoor.K
end

section
namespace Go.Proofs.YtgfkgppomaapiaaGreatDoor.K
open Go.RowKit Go.Proofs.YtgfkgppomaapiaaGreatDoorW.PrintWords Go.Proofs.YtgfkgppomaapiaaGreatDoorW.PrintLast Go.Proofs.YtgfkgppomaapiaaGreatDoorW.PrintMore
attribute [local go_sem] jZ jW kK kH
def stratumref07_Same.j0 : Nat → Bool → Int → Int → Int → List Int → List (S149) → Int → List (S122) → Int → Int → List (S114) → Int → Int → Int → List Int → List (S149) → Int → List (S122) → Int → Int → List (S114) → Option (Bool)
 | 0, _, _, _, _, _, _, _, _, _, _, _, _, _, _, _, _, _, _, _, _, _ => none
 | k + 1, x5, x231000, x231001, x231002, x231003, x231004, x231005, x231006, x231007, x231008, x231009, x232000, x232001, x232002, x232003, x232004, x232005, x232006, x232007, x232008, x232009 => if x5 = true then ((stratumref07_SameInts.f k x231003 x232003).bind fun t232 => (if t232 = true then ((stratumref07_SameFacts.f k x231004 x232004).bind fun t233 => (if t233 = true then ((stratumref07_SameMap.f k x231005 x231006 x232005 x232006).bind fun t234 => (if t234 = true then ((stratumref07_SameEntries.f x231009 x232009).bind fun t235 => (some t235)) else (some false))) else (some false))) else (some false))) else (some false)
def stratumref07_Same.f (k : Nat) (a0_0 : Int) (a0_1 : Int) (a0_2 : Int) (l0_3 : List Int) (l0_4 : List (S149)) (a0_5 : Int) (l0_6 : List (S122)) (a0_7 : Int) (a0_8 : Int) (l0_9 : List (S114)) (a1_0 : Int) (a1_1 : Int) (a1_2 : Int) (l1_3 : List Int) (l1_4 : List (S149)) (a1_5 : Int) (l1_6 : List (S122)) (a1_7 : Int) (a1_8 : Int) (l1_9 : List (S114)) : Option (Bool) := if a0_0 = a1_0 then (if a0_1 = a1_1 then (if a0_2 = a1_2 then (if a0_7 = a1_7 then (stratumref07_Same.j0 k (a0_8 == a1_8) a0_0 a0_1 a0_2 l0_3 l0_4 a0_5 l0_6 a0_7 a0_8 l0_9 a1_0 a1_1 a1_2 l1_3 l1_4 a1_5 l1_6 a1_7 a1_8 l1_9) else (stratumref07_Same.j0 k false a0_0 a0_1 a0_2 l0_3 l0_4 a0_5 l0_6 a0_7 a0_8 l0_9 a1_0 a1_1 a1_2 l1_3 l1_4 a1_5 l1_6 a1_7 a1_8 l1_9)) else (stratumref07_Same.j0 k false a0_0 a0_1 a0_2 l0_3 l0_4 a0_5 l0_6 a0_7 a0_8 l0_9 a1_0 a1_1 a1_2 l1_3 l1_4 a1_5 l1_6 a1_7 a1_8 l1_9)) else (stratumref07_Same.j0 k false a0_0 a0_1 a0_2 l0_3 l0_4 a0_5 l0_6 a0_7 a0_8 l0_9 a1_0 a1_1 a1_2 l1_3 l1_4 a1_5 l1_6 a1_7 a1_8 l1_9)) else (stratumref07_Same.j0 k false a0_0 a0_1 a0_2 l0_3 l0_4 a0_5 l0_6 a0_7 a0_8 l0_9 a1_0 a1_1 a1_2 l1_3 l1_4 a1_5 l1_6 a1_7 a1_8 l1_9)
end Go.Proofs.YtgfkgppomaapiaaGreatDoor.K
end

section
namespace Go.Proofs.YtgfkgppomaapiaaGreatDoor.K
open RowKit YtgfkgppomaapiaaGreatDoorW.PrintWords YtgfkgppomaapiaaGreatDoorW.PrintLast YtgfkgppomaapiaaGreatDoorW.PrintMore My
theorem je8 (l m : List Int) (h : l.length = m.length) (k : Nat) (hk : ∀ i : Nat, i < k → l.getD i 0 = m.getD i 0) (hl : l.length ≤ k) : l = m := by
 apply List.ext_getElem h
 intro i h1 h2
 have := hk i (by omega)
 rw [List.getD_eq_getElem?_getD, List.getD_eq_getElem?_getD, List.getElem?_eq_getElem h1, List.getElem?_eq_getElem h2] at this
 exact this
theorem MB (l m : List Int) (h : l.length = m.length) (hn : l.length ≤ 9223372036854775807) (d : Nat) : ∀ i : Int, 0 ≤ i → i ≤ l.length → (l.length : Int) - i = d → (∀ j : Nat, j < i.toNat → l.getD j 0 = m.getD j 0) → ∃ b, Ev (fun k => stratumref07_SameInts.l0 k l m i) b ∧ (b = true ↔ l = m) := by
 induction d with
 | zero =>
  intro i h0 h1 hd hp
  exact ⟨true, Ev.step (f := fun _ => some true) (fun k => by simp only [stratumref07_SameInts.l0]; rw [if_neg (by omega)]) (Ev.now _), by
   simp only [true_iff]
   exact je8 l m h l.length (fun j hj => hp j (by omega)) (Nat.le_refl _)⟩
 | succ d ih =>
  intro i h0 h1 hd hp
  have hlt : i < (l.length : Int) := by omega
  by_cases c : rd l i = rd m i
  ·obtain ⟨b, h2, h3⟩ := ih (i + 1) (by omega) (by omega) (by omega) (fun j hj => by
    rcases Nat.lt_or_ge j i.toNat with h | h
    ·exact hp j h
    ·obtain rfl : j = i.toNat := by omega
     exact c)
   exact ⟨b, Ev.step (fun k => by simp only [stratumref07_SameInts.l0]; rw [if_pos hlt, if_pos h0, if_pos (by omega), if_pos c, oJ h0 hlt hn]) h2, h3⟩
  ·refine ⟨false, Ev.step (f := fun _ => some false) (fun k => by simp only [stratumref07_SameInts.l0]; rw [if_pos hlt, if_pos h0, if_pos (by omega), if_neg c]) (Ev.now _), ?_⟩
   simp only [Bool.false_eq_true, false_iff]
   intro e
   rw [e] at c
   exact c rfl
theorem OY (l m : List Int) (hn : l.length ≤ 9223372036854775807) : ∃ b, Ev (fun k => stratumref07_SameInts.f k l m) b ∧ (b = true ↔ l = m) := by
 by_cases h : (l.length : Int) = (m.length : Int)
 ·obtain ⟨b, h1, h2⟩ := MB l m (by omega) hn l.length 0 (by omega) (by omega) (by omega) (fun j hj => by simp at hj)
  exact ⟨b, Ev.congr (fun k => by unfold stratumref07_SameInts.f; rw [if_pos h]) h1, h2⟩
 ·refine ⟨false, Ev.congr (f := fun _ => some false) (fun k => by unfold stratumref07_SameInts.f; rw [if_neg h]) (Ev.now _), ?_⟩
  simp only [Bool.false_eq_true, false_iff]
  intro e
  exact h (by rw [e])
theorem ZC (l m : List kD) (h : l.length = m.length) (hk : ∀ i : Nat, i < l.length → (l.getD i z122).f0 = (m.getD i z122).f0 ∧ (l.getD i z122).f1 = (m.getD i z122).f1) : l = m := by
 apply List.ext_getElem h
 intro i h1 h2
 have := hk i h1
 rw [List.getD_eq_getElem?_getD, List.getD_eq_getElem?_getD, List.getElem?_eq_getElem h1, List.getElem?_eq_getElem h2] at this
 simp only [Option.getD_some] at this
 cases hx : l[i]
 cases hy : m[i]
 rw [hx, hy] at this
 simp only at this
 rw [this.1, this.2]
theorem PG (a b : Int) (l m : List kD) (h : l.length = m.length) (hn : l.length ≤ 9223372036854775807) (d : Nat) : ∀ i : Int, 0 ≤ i → i ≤ l.length → (l.length : Int) - i = d → (∀ j : Nat, j < i.toNat → (l.getD j z122).f0 = (m.getD j z122).f0 ∧ (l.getD j z122).f1 = (m.getD j z122).f1) → ∃ t, Ev (fun k => stratumref07_SameMap.l0 k i a l b m) t ∧ (t = true ↔ l = m) := by
 induction d with
 | zero =>
  intro i h0 h1 hd hp
  exact ⟨true, Ev.step (f := fun _ => some true) (fun k => by simp only [stratumref07_SameMap.l0]; rw [if_neg (by omega)]) (Ev.now _), by
   simp only [true_iff]
   exact ZC l m h (fun j hj => hp j (by omega))⟩
 | succ d ih =>
  intro i h0 h1 hd hp
  have hlt : i < (l.length : Int) := by omega
  by_cases c : (jM l i).f0 = (jM m i).f0 ∧ (jM l i).f1 = (jM m i).f1
  ·obtain ⟨b, h2, h3⟩ := ih (i + 1) (by omega) (by omega) (by omega) (fun j hj => by
    rcases Nat.lt_or_ge j i.toNat with h | h
    ·exact hp j h
    ·obtain rfl : j = i.toNat := by omega
     exact c)
   exact ⟨b, Ev.step (fun k => by simp only [stratumref07_SameMap.l0]; rw [if_pos hlt, if_pos h0, if_pos (by omega), if_neg (by simp [c.1, c.2]), oJ h0 hlt hn]) h2, h3⟩
  ·refine ⟨false, Ev.step (f := fun _ => some false) (fun k => by simp only [stratumref07_SameMap.l0]; rw [if_pos hlt, if_pos h0, if_pos (by omega), if_pos (by simp; exact Classical.not_and_iff_not_or_not.mp c)]) (Ev.now _), ?_⟩
   simp only [Bool.false_eq_true, false_iff]
   intro e
   rw [e] at c
   exact c ⟨rfl, rfl⟩
theorem TA (a b : Int) (l m : List kD) (hn : l.length ≤ 9223372036854775807) : ∃ t, Ev (fun k => stratumref07_SameMap.f k a l b m) t ∧ (t = true ↔ (a = b ∧ l = m)) := by
 have hno : ∀ (x : Bool), x = true → Ev (fun k => stratumref07_SameMap.j0 k x a l b m) false := fun x hx => Ev.step (f := fun _ => some false) (fun k => by simp only [stratumref07_SameMap.j0]; rw [if_pos hx]) (Ev.now _)
 by_cases hab : a = b
 ·by_cases h : (l.length : Int) = (m.length : Int)
  ·obtain ⟨t, h1, h2⟩ := PG a b l m (by omega) hn l.length 0 (by omega) (by omega) (by omega) (fun j hj => by simp at hj)
   refine ⟨t, Ev.congr (fun k => by unfold stratumref07_SameMap.f; rw [if_pos hab]) (Ev.step (fun k => by simp only [stratumref07_SameMap.j0]; rw [if_neg (by simp [h])]) h1), ?_⟩
   rw [h2]; exact ⟨fun e => ⟨hab, e⟩, fun e => e.2⟩
  ·refine ⟨false, Ev.congr (fun k => by unfold stratumref07_SameMap.f; rw [if_pos hab]) (hno _ (by simpa [bne] using h)), ?_⟩
   simp only [Bool.false_eq_true, false_iff]
   intro e
   exact h (by rw [e.2])
 ·refine ⟨false, Ev.congr (fun k => by unfold stratumref07_SameMap.f; rw [if_neg hab]) (hno true rfl), ?_⟩
  simp only [Bool.false_eq_true, false_iff]
  exact fun e => hab e.1
structure SLen (x : SRec) : Prop where
 n3 : x.f3.length ≤ 9223372036854775807
 n4 : (kL x.f4).length ≤ 140737488355328
 n6 : x.f5.f1.length ≤ 9223372036854775807
 n9 : (jX x.f8).length ≤ 140737488355328
theorem MK (l m : List jR) (hl : (kL l).length ≤ 140737488355328) (hm : (kL m).length ≤ 140737488355328) : ∃ t, Ev (fun k => stratumref07_SameFacts.f k l m) t ∧ (t = true ↔ kL l = kL m) := by
 have e1 := zS l [] (by simpa using hl)
 have e2 := zS m [] (by simpa using hm)
 rw [List.nil_append] at e1 e2
 refine ⟨decide (kL l = kL m), ?_, by simp⟩
 unfold stratumref07_SameFacts.f
 refine Ev.bind e1 (Ev.bind e2 ?_)
 rw [uA]
 exact Ev.now _
theorem IC (l m : List jL) (hl : (jX l).length ≤ 140737488355328) (hm : (jX m).length ≤ 140737488355328) : stratumref07_SameEntries.f l m = some (decide (jX l = jX m)) := by
 unfold stratumref07_SameEntries.f stratumref07_Entries.f
 rw [if_pos ⟨rfl, hl⟩, if_pos ⟨rfl, hm⟩]
 simp only [Option.bind_some]
 rw [uA]
end Go.Proofs.YtgfkgppomaapiaaGreatDoor.K
end

section
namespace Go.Proofs.YtgfkgppomaapiaaGreatDoor.K
open RowKit YtgfkgppomaapiaaGreatDoorW.PrintWords YtgfkgppomaapiaaGreatDoorW.PrintLast YtgfkgppomaapiaaGreatDoorW.PrintMore My
theorem OA (r : SRec) (h : jQ r = true) :
  (r.f0 = 1 ∧ mP (-1) r.f3 = true ∧ mD r.f4 = true ∧ r.f2 = 0 ∧ r.f5.f0 = 0 ∧ r.f5.f1 = [] ∧ r.f6 = 0 ∧ r.f7 = 0 ∧ r.f8 = []) ∨
  (r.f0 = 2 ∧ mP (-1) r.f3 = true ∧ r.f4 = [] ∧ r.f5.f0 = 0 ∧ r.f5.f1 = [] ∧ r.f6 = 0 ∧ r.f7 = 0 ∧ r.f8 = []) ∨
  ((r.f0 = 3 ∨ r.f0 = 4 ∨ r.f0 = 5) ∧ r.f2 = 0 ∧ r.f3 = [] ∧ r.f4 = [] ∧ r.f5.f0 = 0 ∧ r.f5.f1 = [] ∧ r.f6 = 0 ∧ r.f7 = 0 ∧ r.f8 = []) ∨
  (r.f0 = 6 ∧ r.f1 = 0 ∧ r.f5.f1.length ≤ 40 ∧ (∀ s ∈ r.f5.f1, mM s = true) ∧ r.f2 = 0 ∧ r.f3 = [] ∧ r.f4 = [] ∧ r.f6 = 0 ∧ r.f7 = 0 ∧ r.f8 = []) ∨
  (r.f0 = 7 ∧ nO r.f8 = true ∧ r.f8.length ≤ 5000 ∧ (0 ≤ r.f6 ∧ r.f6 ≤ 10000) ∧ (0 ≤ r.f7 ∧ r.f7 ≤ 10000) ∧ r.f2 = 0 ∧ r.f3 = [] ∧ r.f4 = [] ∧ r.f5.f0 = 0 ∧ r.f5.f1 = []) := by
 unfold jQ at h
 by_cases h1 : r.f0 = 1
 ·rw [if_pos h1] at h
  simp only [Bool.and_eq_true, beq_iff_eq] at h
  obtain ⟨⟨⟨⟨⟨⟨⟨ha, hb⟩, hc⟩, hd⟩, he⟩, hf⟩, hg⟩, hi⟩ := h
  exact .inl ⟨h1, ha, hb, hc, hd, lH he, hf, hg, lH hi⟩
 rw [if_neg h1] at h
 by_cases h2 : r.f0 = 2
 ·rw [if_pos h2] at h
  simp only [Bool.and_eq_true, beq_iff_eq] at h
  obtain ⟨⟨⟨⟨⟨⟨ha, hb⟩, hc⟩, hd⟩, he⟩, hf⟩, hg⟩ := h
  exact .inr (.inl ⟨h2, ha, lH hb, hc, lH hd, he, hf, lH hg⟩)
 rw [if_neg h2] at h
 by_cases h3 : (decide (r.f0 = 3) || decide (r.f0 = 4) || decide (r.f0 = 5)) = true
 ·rw [if_pos h3] at h
  have h3' : r.f0 = 3 ∨ r.f0 = 4 ∨ r.f0 = 5 := by
   simp only [Bool.or_eq_true, decide_eq_true_eq] at h3
   omega
  simp only [Bool.and_eq_true, beq_iff_eq] at h
  obtain ⟨⟨⟨⟨⟨⟨⟨ha, hb⟩, hc⟩, hd⟩, he⟩, hf⟩, hg⟩, hi⟩ := h
  exact .inr (.inr (.inl ⟨h3', ha, lH hb, lH hc, hd, lH he, hf, hg, lH hi⟩))
 rw [if_neg h3] at h
 by_cases h6 : r.f0 = 6
 ·rw [if_pos h6] at h
  simp only [Bool.and_eq_true, beq_iff_eq, decide_eq_true_eq, List.all_eq_true] at h
  obtain ⟨⟨⟨⟨⟨⟨⟨⟨ha, hb⟩, hc⟩, hd⟩, he⟩, hf⟩, hg⟩, hi⟩, hj⟩ := h
  exact .inr (.inr (.inr (.inl ⟨h6, ha, hb, hc, hd, lH he, lH hf, hg, hi, lH hj⟩)))
 rw [if_neg h6] at h
 by_cases h7 : r.f0 = 7
 ·rw [if_pos h7] at h
  simp only [Bool.and_eq_true, beq_iff_eq, decide_eq_true_eq] at h
  obtain ⟨⟨⟨⟨⟨⟨⟨⟨⟨⟨ha, hb⟩, hc⟩, hd⟩, he⟩, hf⟩, hg⟩, hi⟩, hj⟩, hk⟩, hl⟩ := h
  exact .inr (.inr (.inr (.inr ⟨h7, ha, hb, ⟨hc, hd⟩, ⟨he, hf⟩, hg, lH hi, lH hj, hk, lH hl⟩)))
 rw [if_neg h7] at h
 cases h
theorem xE : (kL []).length ≤ 140737488355328 := by decide
theorem qR : (jX []).length ≤ 140737488355328 := by decide
theorem UM (r : SRec) (h : jQ r = true) : SLen r := by
 rcases OA r h with ⟨_, h3, h4, _, _, h6, _, _, h9⟩ | ⟨_, h3, h4, _, h6, _, _, h9⟩ | ⟨_, _, h3, h4, _, h6, _, _, h9⟩ | ⟨_, _, h6, _, _, h3, h4, _, _, h9⟩ | ⟨_, h9, h95, _, _, _, h3, h4, _, h6⟩
 ·exact ⟨by have := qG _ h3; omega, by have := xB _ h4; omega, by rw [h6]; decide, by rw [h9]; exact qR⟩
 ·exact ⟨by have := qG _ h3; omega, by rw [h4]; exact xE, by rw [h6]; decide, by rw [h9]; exact qR⟩
 ·exact ⟨by rw [h3]; decide, by rw [h4]; exact xE, by rw [h6]; decide, by rw [h9]; exact qR⟩
 ·exact ⟨by rw [h3]; decide, by rw [h4]; exact xE, by omega, by rw [h9]; exact qR⟩
 ·exact ⟨by rw [h3]; decide, by rw [h4]; exact xE, by rw [h6]; decide, by have := uT _ h9 h95; omega⟩
end Go.Proofs.YtgfkgppomaapiaaGreatDoor.K
end

section
namespace Go.Proofs.YtgfkgppomaapiaaGreatDoor.K
open RowKit YtgfkgppomaapiaaGreatDoorW.PrintWords YtgfkgppomaapiaaGreatDoorW.PrintLast YtgfkgppomaapiaaGreatDoorW.PrintMore My
structure Lies (w : World) (r : SRec) (A3 : Option Addr) (a3 : Nat) (A4 : Option Addr) (a4 : Nat) (A6 : Option Addr) (a6 : Nat) (A9 : Option Addr) (a9 : Nat) : Prop where
 h3 : Kd.C (Kd.int .i64) w A3 r.f3.length r.f3
 d3 : r.f3.length ≤ a3
 h4 : Kd.C k149 w A4 r.f4.length r.f4
 d4 : r.f4.length ≤ a4
 h6 : Kd.C k122 w A6 r.f5.f1.length r.f5.f1
 d6 : r.f5.f1.length ≤ a6
 h9 : Kd.C k114 w A9 r.f8.length r.f8
 d9 : r.f8.length ≤ a9
theorem Lies.below {w w' : World} {r : SRec} {A3 A4 A6 A9 : Option Addr} {a3 a4 a6 a9 : Nat} (h : Lies w r A3 a3 A4 a4 A6 a6 A9 a9) (hb : Below w.heap.size w w') : Lies w' r A3 a3 A4 a4 A6 a6 A9 a9 :=
 ⟨Kd.C_below h.h3 hb, h.d3, Kd.C_below h.h4 hb, h.d4, Kd.C_below h.h6 hb, h.d6, Kd.C_below h.h9 hb, h.d9⟩
theorem PU {w : World} {r : SRec} {A3 A4 A6 A9 : Option Addr} {a3 a4 a6 a9 : Nat} (h : Lies w r A3 a3 A4 a4 A6 a6 A9 a9) {E1 : List Int} {E2 : Int} (hE : encR r = (E1, E2)) : Calls Tryz.prog 41 #[.agg #[.int .u8 r.f0, .int .u32 r.f1, .int .u32 r.f2, .slice A3 r.f3.length a3, .slice A4 r.f4.length a4, .int .u32 r.f5.f0, .slice A6 r.f5.f1.length a6, .int .i64 r.f6, .int .i64 r.f7, .slice A9 r.f8.length a9]] w fun e w' => ∃ v0_ : Value, e = .returned (.tuple #[v0_, .int .u16 E2]) ∧ Kd.R (Kd.int .u8) 5 w' w.heap.size (fun _ => True) v0_ E1 ∧ Below w.heap.size w w' :=
 code_Encode.calls r.f0 r.f1 r.f2 A3 a3 r.f3 A4 a4 r.f4 r.f5.f0 A6 a6 r.f5.f1 r.f6 r.f7 A9 a9 r.f8 E1 E2 w h.h3 h.d3 h.h4 h.d4 h.h6 h.d6 h.h9 h.d9 (congrArg some hE)
end Go.Proofs.YtgfkgppomaapiaaGreatDoor.K
end

section
namespace Go.Proofs.YtgfkgppomaapiaaGreatDoor.K
open RowKit YtgfkgppomaapiaaGreatDoorW.PrintWords YtgfkgppomaapiaaGreatDoorW.PrintLast YtgfkgppomaapiaaGreatDoorW.PrintMore My
structure Owns (base : Nat) (w : World) (x : SRec) (A3 : Option Addr) (a3 : Nat) (A4 : Option Addr) (a4 : Nat) (A6 : Option Addr) (a6 : Nat) (A9 : Option Addr) (a9 : Nat) : Prop where
 r3 : Kd.R (Kd.int .i64) 3 w base (fun _ => True) (.slice A3 x.f3.length a3) x.f3
 r4 : Kd.R k149 149 w base (fun _ => True) (.slice A4 x.f4.length a4) x.f4
 r6 : Kd.R k122 122 w base (fun _ => True) (.slice A6 x.f5.f1.length a6) x.f5.f1
 r9 : Kd.R k114 114 w base (fun _ => True) (.slice A9 x.f8.length a9) x.f8
section
variable {base : Nat} {w w' : World} {x : SRec} {A3 A4 A6 A9 : Option Addr} {a3 a4 a6 a9 : Nat}
theorem Owns.lies (h : Owns base w x A3 a3 A4 a4 A6 a6 A9 a9) : Lies w x A3 a3 A4 a4 A6 a6 A9 a9 := by
 obtain ⟨_, q3, C3⟩ := Kd.R_reads' h.r3
 obtain ⟨_, q4, C4⟩ := Kd.R_reads' h.r4
 obtain ⟨_, q6, C6⟩ := Kd.R_reads' h.r6
 obtain ⟨_, q9, C9⟩ := Kd.R_reads' h.r9
 exact ⟨C3, q3, C4, q4, C6, q6, C9, q9⟩
theorem Owns.below (h : Owns base w x A3 a3 A4 a4 A6 a6 A9 a9) (hb : Below w.heap.size w w') : Owns base w' x A3 a3 A4 a4 A6 a6 A9 a9 := ⟨Kd.R_below h.r3 hb, Kd.R_below h.r4 hb, Kd.R_below h.r6 hb, Kd.R_below h.r9 hb⟩
theorem Owns.keep (h : Owns base w x A3 a3 A4 a4 A6 a6 A9 a9) {g : Nat} (hG : w.grownBy w' (some g)) (hlt : g < base) : Owns base w' x A3 a3 A4 a4 A6 a6 A9 a9 := ⟨jS h.r3 hG hlt, jS h.r4 hG hlt, jS h.r6 hG hlt, jS h.r9 hG hlt⟩
theorem Owns.lower {base' : Nat} (h : Owns base w x A3 a3 A4 a4 A6 a6 A9 a9) (hb : base' ≤ base) : Owns base' w x A3 a3 A4 a4 A6 a6 A9 a9 := ⟨Kd.R_lower h.r3 hb, Kd.R_lower h.r4 hb, Kd.R_lower h.r6 hb, Kd.R_lower h.r9 hb⟩
end
end Go.Proofs.YtgfkgppomaapiaaGreatDoor.K
end

section
namespace Go.Proofs.YtgfkgppomaapiaaGreatDoor.K
open RowKit YtgfkgppomaapiaaGreatDoorW.PrintWords YtgfkgppomaapiaaGreatDoorW.PrintLast YtgfkgppomaapiaaGreatDoorW.PrintMore My
def kR : Kd SRec := Kd.iso (Kd.pair (Kd.int .u8) (Kd.pair (Kd.int .u32) (Kd.pair (Kd.int .u32) (Kd.pair (Kd.slice 3 (Kd.int .i64)) (Kd.pair (Kd.slice 149 k149) (Kd.pair (Kd.int .u32) (Kd.pair (Kd.slice 122 k122) (Kd.pair (Kd.int .i64) (Kd.pair (Kd.int .i64) (Kd.slice 114 k114)))))))))) (fun x : SRec => (x.f0, x.f1, x.f2, x.f3, x.f4, x.f5.f0, x.f5.f1, x.f6, x.f7, x.f8))
theorem V7 {w : World} {x : SRec} {cs : List Value} (h : kR.K w x cs) : ∃ A3 a3 A4 a4 A6 a6 A9 a9, cs = [.int .u8 x.f0, .int .u32 x.f1, .int .u32 x.f2, .slice A3 x.f3.length a3, .slice A4 x.f4.length a4, .int .u32 x.f5.f0, .slice A6 x.f5.f1.length a6, .int .i64 x.f6, .int .i64 x.f7, .slice A9 x.f8.length a9] ∧ Lies w x A3 a3 A4 a4 A6 a6 A9 a9 := by
 obtain ⟨_, _, rfl, rfl, _, _, rfl, rfl, _, _, rfl, rfl, _, _, rfl, ⟨A3, c3, rfl, l3, g3⟩, _, _, rfl, ⟨A4, c4, rfl, l4, g4⟩, _, _, rfl, rfl, _, _, rfl, ⟨A6, c6, rfl, l6, g6⟩, _, _, rfl, rfl, _, _, rfl, rfl, ⟨A9, c9, rfl, l9, g9⟩⟩ := h
 exact ⟨A3, c3, A4, c4, A6, c6, A9, c9, rfl, g3, l3, g4, l4, g6, l6, g9, l9⟩
theorem kR_M {base : Nat} {w : World} {x : SRec} {A3 A4 A6 A9 : Option Addr} {a3 a4 a6 a9 : Nat} (h : Owns base w x A3 a3 A4 a4 A6 a6 A9 a9) : kR.M w base (fun _ => True) x [.int .u8 x.f0, .int .u32 x.f1, .int .u32 x.f2, .slice A3 x.f3.length a3, .slice A4 x.f4.length a4, .int .u32 x.f5.f0, .slice A6 x.f5.f1.length a6, .int .i64 x.f6, .int .i64 x.f7, .slice A9 x.f8.length a9] :=
 ⟨[.int .u8 x.f0], _, rfl, rfl, [.int .u32 x.f1], _, rfl, rfl, [.int .u32 x.f2], _, rfl, rfl, [.slice A3 x.f3.length a3], _, rfl, ⟨_, rfl, h.r3⟩, [.slice A4 x.f4.length a4], _, rfl, ⟨_, rfl, h.r4⟩, [.int .u32 x.f5.f0], _, rfl, rfl, [.slice A6 x.f5.f1.length a6], _, rfl, ⟨_, rfl, h.r6⟩, [.int .i64 x.f6], _, rfl, rfl, [.int .i64 x.f7], _, rfl, rfl, ⟨_, rfl, h.r9⟩⟩
theorem kR_E : ∀ q ∈ kR.E, q ≠ 54 := by decide
theorem ZR {base : Nat} {w : World} {x : SRec} {cs : List Value} {v : Value} {n s : Nat} {xs : List Value} {b0 : Nat} (h : kR.M w base (fun _ => True) x cs) (hv : w.ownsRow b0 54 s v n xs) : kR.M w base (fun k => some k ≠ v.ownBlock) x cs :=
 kR.M_mono (fun k hk e => by
  obtain ⟨_, _, _, q, hq, cells, hc⟩ := hk
  obtain ⟨cells', hc'⟩ := oZ hv k e.symm
  rw [hc] at hc'
  injection hc' with hc'
  injection hc' with _ hc'
  exact kR_E q hq hc') (kR.M_bound h)
def RRs (w : World) (base : Nat) (v : Value) (l : List SRec) : Prop := kR.R 54 w base (fun _ => True) v l
theorem ND {base : Nat} {w : World} {x : SRec} {cs : List Value} {v : Value} {l : List SRec} {b0 : Nat} (h : kR.M w base (fun _ => True) x cs) (hv : RRs w b0 v l) : kR.M w base (fun k => some k ≠ v.ownBlock) x cs := by
 obtain ⟨_, inner, ho, _⟩ := hv
 exact ZR h ho
theorem Q9 : (Tryz.prog.info? 54).map (fun i => (i.zero, i.size, i.bytes)) = some (some (.agg #[.int .u8 0, .int .u32 0, .int .u32 0, .slice none 0 0, .slice none 0 0, .int .u32 0, .slice none 0 0, .int .i64 0, .int .i64 0, .slice none 0 0]), kR.sz, 136) := by kernel_rfl
theorem RRs.below {w w' : World} {base : Nat} {v : Value} {l : List SRec} (h : RRs w base v l) (hb : Below w.heap.size w w') : RRs w' base v l := Kd.R_below h hb
theorem RRs.lower {w : World} {base base' : Nat} {v : Value} {l : List SRec} (h : RRs w base v l) (hb : base' ≤ base) : RRs w base' v l := Kd.R_lower h hb
theorem LY {base : Nat} {x : SRec} {v : Value} {w : World} (h : RecV base x v w) : ∃ A3 a3 A4 a4 A6 a6 A9 a9, v = .agg #[.int .u8 x.f0, .int .u32 x.f1, .int .u32 x.f2, .slice A3 x.f3.length a3, .slice A4 x.f4.length a4, .int .u32 x.f5.f0, .slice A6 x.f5.f1.length a6, .int .i64 x.f6, .int .i64 x.f7, .slice A9 x.f8.length a9] ∧ Owns base w x A3 a3 A4 a4 A6 a6 A9 a9 := by
 obtain ⟨v3, v4, v6, v9, rfl, g3, g4, g6, g9⟩ := h
 obtain ⟨B3, b3, rfl⟩ := Kd.R_slice g3
 obtain ⟨B4, b4, rfl⟩ := Kd.R_slice g4
 obtain ⟨B6, b6, rfl⟩ := Kd.R_slice g6
 obtain ⟨B9, b9, rfl⟩ := Kd.R_slice g9
 exact ⟨B3, b3, B4, b4, B6, b6, B9, b9, rfl, g3, Kd.R_mono g4 (fun _ _ => trivial), g6, Kd.R_mono g9 (fun _ _ => trivial)⟩
def okL (ls : List (List UInt8)) : List (List UInt8) := ls.takeWhile fun x => (decR x).2 == 0
def nD (ls : List (List UInt8)) : List SRec := (okL ls).map fun x => (decR x).1
end Go.Proofs.YtgfkgppomaapiaaGreatDoor.K
end

section
namespace Go.Proofs.YtgfkgppomaapiaaGreatDoor.My
def uO (s : Nat × Nat) (c : UInt8) : Nat × Nat := ((s.1 + c.toNat) % 65521, (s.2 + (s.1 + c.toNat) % 65521) % 65521)
def adl (s : Nat × Nat) (l : List UInt8) : Nat × Nat := l.foldl uO s
def adls (s : Nat × Nat) (l : List (List UInt8)) : Nat × Nat := l.foldl adl s
def sumOf (s : Nat × Nat) : Nat := s.2 * 65536 + s.1
def sumN (l : List (List UInt8)) : Nat := sumOf (adls (1, 0) l)
def Fine (s : Nat × Nat) : Prop := s.1 < 65521 ∧ s.2 < 65521
theorem xU : Fine (1, 0) := by unfold Fine; decide
theorem LZ {s : Nat × Nat} (c : UInt8) : Fine (uO s c) := ⟨Nat.mod_lt _ (by decide), Nat.mod_lt _ (by decide)⟩
theorem QB {s : Nat × Nat} (h : Fine s) (l : List UInt8) : Fine (adl s l) := by
 induction l generalizing s with
 | nil => exact h
 | cons c l ih => exact ih (LZ c)
theorem MJ {s : Nat × Nat} (h : Fine s) (l : List (List UInt8)) : Fine (adls s l) := by
 induction l generalizing s with
 | nil => exact h
 | cons c l ih => exact ih (QB h c)
theorem J9 (s : Nat × Nat) (a b : List UInt8) : adl s (a ++ b) = adl (adl s a) b := List.foldl_append
theorem RN (s : Nat × Nat) (a : List UInt8) (c : UInt8) : adl s (a ++ [c]) = uO (adl s a) c := by rw [J9]; rfl
theorem NL (s : Nat × Nat) (a : List (List UInt8)) (c : List UInt8) : adls s (a ++ [c]) = adl (adls s a) c := by unfold adls; rw [List.foldl_append]; rfl
theorem NU (s : Nat × Nat) (l : List (List UInt8)) : adls s l = adl s l.flatten := by
 induction l generalizing s with
 | nil => rfl
 | cons a l ih => rw [List.flatten_cons, J9]; exact ih _
theorem WI (l : List (List UInt8)) : sumN l = sumN [l.flatten] := by unfold sumN; rw [NU, NU]; simp
end Go.Proofs.YtgfkgppomaapiaaGreatDoor.My
end

section
namespace Go.Proofs.YtgfkgppomaapiaaGreatDoor.My
open Go Go.RowKit Go.Proofs.YtgfkgppomaapiaaGreatDoorW.PrintWords
def yM (w : World) (b : Nat) (s : Nat × Nat) : Prop := w.heap[b]? = some (.cells #[.int .u32 (s.1 : Int), .int .u32 (s.2 : Int)] 159 (0, 0))
set_option maxHeartbeats 1000000 in
theorem jd1 (b : Nat) (l h c : Int) (w : World) (hl0 : 0 ≤ l) (hl : l < 65521) (hh0 : 0 ≤ h) (hh : h < 65521) (hc0 : 0 ≤ c) (hc : c < 256)
  (hb : w.heap[b]? = some (.cells #[.int .u32 l, .int .u32 h] 159 (0, 0))) :
  Calls Tryz.prog 100 #[.pointer (some ⟨b, 0, none⟩), .int .u8 c] w fun e w' => e = .returned (.tuple #[]) ∧
   w'.heap[b]? = some (.cells #[.int .u32 ((l + c) % 65521), .int .u32 ((h + (l + c) % 65521) % 65521)] 159 (0, 0)) ∧ Only b w w' := by
 have c0 : w.cell? ⟨b, 0, none⟩ = some (.int .u32 l) := by simp [World.cell?, hb]
 have c1 : w.cell? ⟨b, 1, none⟩ = some (.int .u32 h) := by simp [World.cell?, hb]
 have f0 : w.frozen? ⟨b, 0, none⟩ = false := by simp [World.frozen?, hb]
 have f1 : w.frozen? ⟨b, 1, none⟩ = false := by simp [World.frozen?, hb]
 have HB := Lib.hid hb
 clear hb
 go_enter Tryz.func100, Tryz.ntmps100
 go_wp2
 all_goals (go_region; go_wp2)
 all_goals go_end0
 all_goals
  refine ⟨rfl, ?_, ?_⟩
  ·have hb := HB.out
   simp only [World.drew, World.setCell, Array.getElem?_modify, hb]
   simp
   refine ⟨?_, ?_⟩ <;> omega
  ·repeat (first | exact Only.refl _ _ | apply Only.drew | apply Only.set)
theorem add_any (b : Nat) (s : Nat × Nat) (c : UInt8) (w : World) (hf : Fine s) (hb : yM w b s) :
  Calls Tryz.prog 100 #[.pointer (some ⟨b, 0, none⟩), .int .u8 (c.toNat : Int)] w fun e w' => e = .returned (.tuple #[]) ∧ yM w' b (uO s c) ∧ Only b w w' := by
 have hc := c.toNat_lt
 refine (jd1 b s.1 s.2 c.toNat w (by omega) (by have := hf.1; omega) (by omega) (by have := hf.2; omega) (by omega) (by omega) hb).mono ?_
 rintro e w' ⟨he, h, ho⟩
 refine ⟨he, ?_, ho⟩
 unfold yM uO
 simp only
 rw [h]
 have e1 : ((s.1 : Int) + c.toNat) % 65521 = (((s.1 + c.toNat) % 65521 : Nat) : Int) := by omega
 rw [e1]
 have e2 : ((s.2 : Int) + (((s.1 + c.toNat) % 65521 : Nat) : Int)) % 65521 = (((s.2 + (s.1 + c.toNat) % 65521) % 65521 : Nat) : Int) := by omega
 rw [e2]
theorem jf8 (s : Nat × Nat) (h : Fine s) : bits .or .u32 ((s.2 : Int) * 65536 % 4294967296) (s.1 : Int) = (sumOf s : Int) := by
 obtain ⟨h1, h2⟩ := h
 have e : (s.2 : Int) * 65536 % 4294967296 = ((s.2 * 65536 : Nat) : Int) := by omega
 rw [e, u32_or_nat _ _ (by omega) (by omega)]
 have := Nat.shiftLeft_add_eq_or_of_lt (b := s.1) (i := 16) (by omega) s.2
 rw [Nat.shiftLeft_eq] at this
 unfold sumOf
 rw [← this]
theorem YM (w : World) : yM (w.alloc (.cells #[.int .u32 1, .int .u32 0] 159)) w.heap.size (adls (1, 0) (List.take 0 [])) := by
 show (w.heap.push _)[w.heap.size]? = _
 simp [adls]
theorem pair_cells {w : World} {b : Nat} {s : Nat × Nat} (h : yM w b s) : w.cell? ⟨b, 0, none⟩ = some (.int .u32 (s.1 : Int)) ∧ w.cell? ⟨b, 1, none⟩ = some (.int .u32 (s.2 : Int)) := by
 unfold yM at h
 exact ⟨by simp [World.cell?, h], by simp [World.cell?, h]⟩
set_option maxHeartbeats 1000000 in
theorem sum_any (A : Option Addr) (c : Nat) (l : List (List UInt8)) (w : World) (hr : (Kd.slice 5 kb).C w A l.length l) :
  Calls Tryz.prog 69 #[.slice A l.length c] w fun e w' => e = .returned (.int .u32 (sumN l : Int)) ∧ Below w.heap.size w w' := by
 have hm := kZ hr
 have HR := iC.mk hr
 clear hr
 go_enter Tryz.func69, Tryz.ntmps69
 go_wp2
 go_loopw [13] (fun i wr => ∃ k : Nat, k ≤ l.length ∧ i = .int .i64 k ∧ iC (yM wr w.heap.size (adls (1, 0) (l.take k))) ∧ iC (Below w.heap.size w wr)) (fun i _ => l.length - (intOf i).toNat)
 case atStart => exact ⟨0, Nat.zero_le _, rfl, ⟨YM w⟩, ⟨iD (Below.refl _ _) _⟩⟩
 case round =>
  obtain ⟨k, hk, rfl, HP, HB⟩ := hrel
  by_cases hlt : k < l.length
  ·obtain ⟨ad, A', c', rfl, hx, hxl, hxc⟩ := RX HR.out k hlt
   have hx' := yS HB.out hx
   clear hx hxl
   have hts := iC.mk (kP [] l k hlt)
   have hxm := kZ hxc
   have HX := iC.mk hxc
   clear hxc
   obtain ⟨x, hxe⟩ : ∃ x, x = l.getD k [] := ⟨_, rfl⟩
   rw [← hxe] at hx' HX hts hxm
   clear hxe
   obtain ⟨wo, rfl⟩ : ∃ wo : World, wo = wr := ⟨_, rfl⟩
   go_wp2
   go_loopw [19] (fun j wi => ∃ m : Nat, m ≤ x.length ∧ j = .int .i64 m ∧ iC (yM wi w.heap.size (adl (adls (1, 0) (l.take k)) (x.take m))) ∧ iC (Below w.heap.size w wi)) (fun j _ => x.length - (intOf j).toNat)
   case atStart => exact ⟨0, Nat.zero_le _, rfl, HP, HB⟩
   case round =>
    obtain ⟨m, hmx, rfl, HPm, HBm⟩ := hrel
    by_cases hml : m < x.length
    ·obtain ⟨ad2, rfl, hb0⟩ := C_at HX.out m hml
     have hb1 := yS HBm.out hb0
     clear hb0
     have hts2 := iC.mk (kP 0 x m hml)
     have hfine := iC.mk (QB (MJ xU (l.take k)) (x.take m))
     generalize x.getD m 0 = cb at hb1 hts2
     go_wp2_with (go_at_call 100; refine (add_any _ _ cb _ hfine.out HPm.out).mono ?_; rintro e w1 ⟨rfl, hp1, ho1⟩; have HP1 := iC.mk hp1; have HO1 := iC.mk ho1; clear hp1 ho1)
     go_roundw
     case rel => exact ⟨m + 1, by omega, by go_num, ⟨by rw [hts2.out, RN]; exact HP1.out⟩, ⟨HO1.out.below (Nat.le_refl _) HBm.out⟩⟩
     case measure => simp [intOf]; omega
    ·obtain rfl : m = x.length := by omega
     have HPx := HPm.out
     rw [List.take_length] at HPx
     have HPx' := iC.mk HPx
     clear HPx
     go_wp2
     go_roundw
     case rel => exact ⟨k + 1, by omega, by go_num, ⟨by rw [hts.out, NL]; exact HPx'.out⟩, HBm⟩
     case measure => simp [intOf]; omega
  ·obtain rfl : k = l.length := by omega
   obtain ⟨hp0, hp1⟩ := pair_cells HP.out
   go_wp2
   go_ret
   refine ⟨?_, HB.out⟩
   rw [jf8 _ (MJ xU l)]
   rfl
theorem UV {b e : Nat} {fz : Nat × Nat} {cells : Array Value} {W : World} {n c : Nat} (ls : List (List UInt8)) (hb : W.heap[b]? = some (.cells cells e fz)) (hn : n = ls.length) (hm : ls.length ≤ 9223372036854775807) (hc : Cs W cells.toList ls) :
  Calls Tryz.prog 69 #[.slice (some ⟨b, 0, none⟩) n c] W fun e w' => e = .returned (.int .u32 (sumN ls : Int)) ∧ Below W.heap.size W w' := by
 subst hn
 exact sum_any _ _ ls W (XL hb rfl hm hc)
end Go.Proofs.YtgfkgppomaapiaaGreatDoor.My
end

section
namespace Go.Proofs.YtgfkgppomaapiaaGreatDoor.My
def be4 (n : Nat) : List UInt8 := [UInt8.ofNat (n / 16777216), UInt8.ofNat (n / 65536), UInt8.ofNat (n / 256), UInt8.ofNat n]
def lW (n size : Nat) : List UInt8 := (be4 n).drop (4 - size)
def headB (n : Nat) : List UInt8 := lW n 3
def pV (l : List UInt8) : List UInt8 := lW (sumN [l]) 4
def kT (l : List UInt8) : List UInt8 := headB l.length ++ l ++ pV (headB l.length ++ l)
theorem qY (n : Nat) : (headB n).length = 3 := rfl
theorem JJ (l : List UInt8) : (pV l).length = 4 := rfl
theorem qN (l : List UInt8) : (kT l).length = l.length + 7 := by
 unfold kT
 rw [List.length_append, List.length_append, qY, JJ]
 omega
def num3 (b : List UInt8) : Nat := (b.getD 0 0).toNat * 65536 + (b.getD 1 0).toNat * 256 + (b.getD 2 0).toNat
theorem VL (n : Nat) (h : n < 16777216) (r : List UInt8) : num3 (headB n ++ r) = n := by
 simp only [num3, headB, lW, be4, List.drop, List.cons_append, List.nil_append, List.getD_cons_zero, List.getD_cons_succ, UInt8.toNat_ofNat']
 omega
theorem be4_inj {a b : Nat} (ha : a < 4294967296) (hb : b < 4294967296) (h : be4 a = be4 b) : a = b := by
 simp only [be4, List.cons.injEq, and_true, ← UInt8.toNat_inj, UInt8.toNat_ofNat'] at h
 omega
def lC (b : List UInt8) : Option (List UInt8) :=
 if b.length < 7 then none
 else if num3 b > 60000 ∨ num3 b > b.length - 7 then none
 else if pV (b.take (3 + num3 b)) = (b.drop (3 + num3 b)).take 4 then some ((b.drop 3).take (num3 b)) else none
theorem QH : ∀ b : List UInt8, 3 ≤ b.length → headB (num3 b) = b.take 3
 | b0 :: b1 :: b2 :: r, _ => by
  have e0 := b0.toNat_lt
  have e1 := b1.toNat_lt
  have e2 := b2.toNat_lt
  show [UInt8.ofNat (num3 (b0 :: b1 :: b2 :: r) / 65536), UInt8.ofNat (num3 (b0 :: b1 :: b2 :: r) / 256), UInt8.ofNat (num3 (b0 :: b1 :: b2 :: r))] = [b0, b1, b2]
  have hn : num3 (b0 :: b1 :: b2 :: r) = b0.toNat * 65536 + b1.toNat * 256 + b2.toNat := rfl
  rw [hn]
  simp only [List.cons.injEq, and_true, ← UInt8.toNat_inj, UInt8.toNat_ofNat']
  omega
 | [], h => by simp at h
 | [_], h => by simp at h
 | [_, _], h => by simp at h
theorem first_some {b x : List UInt8} (h : lC b = some x) : x.length ≤ 60000 ∧ b = kT x ++ b.drop (x.length + 7) ∧ x.length + 7 ≤ b.length := by
 unfold lC at h
 split at h
 ·cases h
 ·rename_i h7
  split at h
  ·cases h
  ·rename_i hn
   split at h
   ·rename_i ht
    simp only [Option.some.injEq] at h
    have hxl : x.length = num3 b := by rw [← h, List.length_take, List.length_drop]; omega
    have hhead : headB x.length = b.take 3 := by rw [hxl]; exact QH b (by omega)
    have hb3 : b.take 3 ++ x = b.take (3 + num3 b) := by rw [← h, List.take_add]
    refine ⟨by omega, ?_, by omega⟩
    unfold kT
    rw [hhead, hb3, ht, hxl]
    rw [← List.take_add, show 3 + num3 b + 4 = num3 b + 7 from by omega, List.take_append_drop]
   ·cases h
theorem OV (b : List UInt8) (h7 : 7 ≤ b.length) (h1 : num3 b ≤ 60000) (h2 : num3 b ≤ b.length - 7) :
  lC b = if kT ((b.take (3 + num3 b)).drop 3) = b.take (num3 b + 7) then some ((b.take (3 + num3 b)).drop 3) else none := by
 have hd : (b.take (3 + num3 b)).drop 3 = (b.drop 3).take (num3 b) := by
  rw [List.drop_take]
  congr 1
  omega
 have hxl : ((b.drop 3).take (num3 b)).length = num3 b := by rw [List.length_take, List.length_drop]; omega
 have hb3 : b.take 3 ++ (b.drop 3).take (num3 b) = b.take (3 + num3 b) := by rw [List.take_add]
 have hw : kT ((b.drop 3).take (num3 b)) = b.take (3 + num3 b) ++ pV (b.take (3 + num3 b)) := by
  unfold kT
  rw [hxl, QH b (by omega), hb3]
 have ht : b.take (num3 b + 7) = b.take (3 + num3 b) ++ (b.drop (3 + num3 b)).take 4 := by
  rw [← List.take_add]
  congr 1
  omega
 rw [hd, hw, ht]
 unfold lC
 rw [if_neg (by omega), if_neg (by omega)]
 by_cases h : pV (b.take (3 + num3 b)) = (b.drop (3 + num3 b)).take 4
 ·rw [if_pos h, if_pos (by rw [h])]
 ·rw [if_neg h, if_neg (fun e => h (List.append_cancel_left e))]
theorem TL (x r : List UInt8) (h : x.length ≤ 60000) : lC (kT x ++ r) = some x := by
 have hw := qN x
 have hn : num3 (kT x ++ r) = x.length := by
  unfold kT
  rw [List.append_assoc, List.append_assoc]
  exact VL _ (by omega) _
 have hl : (kT x ++ r).length = x.length + 7 + r.length := by rw [List.length_append, hw]
 unfold lC
 rw [if_neg (by omega), if_neg (by omega), hn]
 have e1 : (kT x ++ r).take (3 + x.length) = headB x.length ++ x := by
  unfold kT
  rw [List.append_assoc, List.take_append_of_le_length (by rw [List.length_append, qY]; omega), List.take_of_length_le (by rw [List.length_append, qY]; omega)]
 have e2 : ((kT x ++ r).drop (3 + x.length)).take 4 = pV (headB x.length ++ x) := by
  unfold kT
  rw [List.append_assoc, List.drop_append_of_le_length (by rw [List.length_append, qY]; omega), List.drop_of_length_le (by rw [List.length_append, qY]; omega), List.nil_append, List.take_append_of_le_length (by rw [JJ]; omega), List.take_of_length_le (by rw [JJ]; omega)]
 have e3 : ((kT x ++ r).drop 3).take x.length = x := by
  unfold kT
  rw [List.append_assoc, List.append_assoc, List.drop_append_of_le_length (by rw [qY]; omega), List.drop_of_length_le (by rw [qY]; omega), List.nil_append, List.take_append_of_le_length (by omega), List.take_of_length_le (by omega)]
 rw [e1, e2, e3, if_pos rfl]
def NT : Nat → List UInt8 → List (List UInt8)
 | 0, _ => []
 | k + 1, b => match lC b with
  | none => []
  | some x => x :: NT k (b.drop (x.length + 7))
def jY (b : List UInt8) : List (List UInt8) := NT b.length b
def endB (l : List (List UInt8)) : Nat := (l.map fun x => x.length + 7).sum
theorem TD : ∀ (k : Nat) (b : List UInt8), b.length ≤ k → NT k b = NT b.length b := by
 intro k
 induction k using Nat.strongRecOn with
 | _ k ih =>
  intro b hb
  rcases Nat.eq_zero_or_pos k with h0 | hk
  ·subst h0
   rw [show b.length = 0 from by omega]
  ·obtain ⟨k, rfl⟩ : ∃ m, k = m + 1 := ⟨k - 1, by omega⟩
   rcases Nat.eq_zero_or_pos b.length with h0 | hb0
   ·have : b = [] := List.length_eq_zero_iff.1 h0
    subst this
    simp [NT, lC]
   ·obtain ⟨m, hm⟩ : ∃ m, b.length = m + 1 := ⟨b.length - 1, by omega⟩
    rw [hm]
    unfold NT
    cases hf : lC b with
    | none => rfl
    | some x =>
     simp only
     have hl := (first_some hf).2.2
     have hd : (b.drop (x.length + 7)).length ≤ m := by rw [List.length_drop]; omega
     rw [ih k (by omega) _ (by omega), ← ih m (by omega) _ hd]
theorem lD {b : List UInt8} (h : lC b = none) : jY b = [] := by
 unfold jY
 cases b.length <;> simp [NT, h]
theorem qE {b x : List UInt8} (h : lC b = some x) : jY b = x :: jY (b.drop (x.length + 7)) := by
 have hl := (first_some h).2.2
 unfold jY
 obtain ⟨m, hm⟩ : ∃ m, b.length = m + 1 := ⟨b.length - 1, by omega⟩
 rw [hm]
 conv => lhs; unfold NT
 rw [h]
 simp only
 rw [TD m _ (by rw [List.length_drop]; omega)]
theorem rP (x : List UInt8) (l : List (List UInt8)) : endB (x :: l) = x.length + 7 + endB l := by simp [endB]
theorem qX (a b : List (List UInt8)) : endB (a ++ b) = endB a + endB b := by simp [endB]
def uM (l : List (List UInt8)) : List UInt8 := (l.map kT).flatten
theorem xR (x : List UInt8) (l : List (List UInt8)) : uM (x :: l) = kT x ++ uM l := by simp [uM]
theorem rG (l : List (List UInt8)) : (uM l).length = endB l := by
 induction l with
 | nil => rfl
 | cons x l ih => rw [xR, List.length_append, qN, ih, rP]
theorem MV (l : List (List UInt8)) (r : List UInt8) (h : ∀ x ∈ l, x.length ≤ 60000) : jY (uM l ++ r) = l ++ jY r := by
 induction l with
 | nil => rfl
 | cons x l ih =>
  rw [xR, List.append_assoc, qE (TL x _ (h x List.mem_cons_self)), List.cons_append]
  congr 1
  rw [List.drop_append_of_le_length (by rw [qN]; omega), List.drop_of_length_le (by rw [qN]; omega), List.nil_append]
  exact ih (fun y hy => h y (List.mem_cons_of_mem _ hy))
theorem JI (b : List UInt8) : ∃ r, b = uM (jY b) ++ r ∧ lC r = none ∧ ∀ x ∈ jY b, x.length ≤ 60000 := by
 generalize hk : b.length = k
 induction k using Nat.strongRecOn generalizing b with
 | _ k ih =>
  cases hf : lC b with
  | none => exact ⟨b, by rw [lD hf]; rfl, hf, fun x hx => by rw [lD hf] at hx; cases hx⟩
  | some x =>
   obtain ⟨h1, h2, h3⟩ := first_some hf
   obtain ⟨r, e1, e2, e3⟩ := ih (b.drop (x.length + 7)).length (by rw [List.length_drop]; omega) _ rfl
   refine ⟨r, ?_, e2, ?_⟩
   ·rw [qE hf, xR, List.append_assoc, ← e1]
    exact h2
   ·rw [qE hf]
    intro y hy
    rcases List.mem_cons.1 hy with rfl | hy
    ·exact h1
    ·exact e3 y hy
theorem VJ (b : List UInt8) : endB (jY b) ≤ b.length := by
 obtain ⟨r, h, _⟩ := JI b
 conv => rhs; rw [h]
 rw [List.length_append, rG]
 omega
end Go.Proofs.YtgfkgppomaapiaaGreatDoor.My
end

section
namespace Go.Proofs.YtgfkgppomaapiaaGreatDoor.My
open Go Go.RowKit Go.Proofs.YtgfkgppomaapiaaGreatDoorW.PrintWords Go.Proofs.YtgfkgppomaapiaaGreatDoorW.PrintMore
theorem add_plain' (g o j : Nat) : (⟨g, o, none⟩ : Addr).add j = ⟨g, o + j, none⟩ := by unfold Addr.add; split <;> simp_all
theorem jf5 {W : World} {b e off n : Nat} {fz : Nat × Nat} {cells : Array Value} {l : List UInt8} (hb : W.heap[b]? = some (.cells cells e fz)) (hn : n = l.length) (hm : l.length ≤ 9223372036854775807)
  (hc : ∀ j p, l[j]? = some p → cells[off + j]? = some (.int .u8 (p.toNat : Int))) : kb.C W (some ⟨b, off, none⟩) n l := by
 subst hn
 refine ⟨rfl, hm, fun _ => ⟨_, rfl, fun j p hj => ⟨[.int .u8 (p.toNat : Int)], rfl, rfl, fun i u hi => ?_⟩⟩⟩
 have hi0 : i = 0 := by
  rcases i with _ | i
  ·rfl
  ·simp at hi
 subst hi0
 have hu : u = .int .u8 (p.toNat : Int) := by simpa using hi.symm
 subst hu
 rw [add_plain', show kb.sz = 1 from rfl, Nat.mul_one, Nat.add_zero]
 simp [World.cell?, hb, hc j p hj]
theorem yV (n k : Nat) : ((UInt8.ofNat (n / k)).toNat : Int) = (n : Int) / k % 256 := by rw [UInt8.toNat_ofNat']; omega
theorem RH (n : Nat) : ((UInt8.ofNat n).toNat : Int) = (n : Int) % 256 := by rw [UInt8.toNat_ofNat']; omega
theorem j03 (n : Nat) : ∀ (j : Nat) (p : UInt8), (be4 n)[j]? = some p → #[Value.int .u8 ((n : Int) / 16777216 % 256), Value.int .u8 ((n : Int) / 65536 % 256), Value.int .u8 ((n : Int) / 256 % 256), Value.int .u8 ((n : Int) % 256)][j]? = some (Value.int .u8 (p.toNat : Int)) := by
 intro j p hj
 have b1 := yV n 16777216
 have b2 := yV n 65536
 have b3 := yV n 256
 have b4 := RH n
 rcases j with _ | _ | _ | _ | j
 ·obtain rfl : UInt8.ofNat (n / 16777216) = p := by simpa [be4] using hj
  rw [b1]; rfl
 ·obtain rfl : UInt8.ofNat (n / 65536) = p := by simpa [be4] using hj
  rw [b2]; rfl
 ·obtain rfl : UInt8.ofNat (n / 256) = p := by simpa [be4] using hj
  rw [b3]; rfl
 ·obtain rfl : UInt8.ofNat n = p := by simpa [be4] using hj
  rw [b4]; rfl
 ·simp [be4] at hj
set_option maxHeartbeats 1000000 in
theorem j4_ (n : Nat) (w : World) :
  Calls Tryz.prog 67 #[.int .u32 (n : Int), .int .i64 4] w fun e w' => ∃ v, e = .returned v ∧ OB w' w.heap.size v (lW n 4) ∧ Below w.heap.size w w' := by
 go_enter Tryz.func67, Tryz.ntmps67
 go_wp2_with fail
 refine (JC _ _ (lW n 4) _ (jf5 (iO rfl) rfl (by show 4 ≤ _; omega) (fun j p hj => by rw [Nat.zero_add]; exact j03 n j p hj)) (Nat.le_refl _) (by show 4 ≤ _; omega)).mono ?_
 rintro e w1 ⟨v, rfl, ho, hb⟩
 go_wp2
 go_ret
 exact ⟨_, rfl, ho.lower (by simp), iF (by (repeat (first | exact Below.refl _ _ | apply iD | apply iW | apply iE | apply below_bytesWorld | (refine iM ?_ (by first | assumption | omega)) | refine iF ?_ (by assumption)))) hb⟩
set_option maxHeartbeats 1000000 in
theorem jh4 (n : Nat) (w : World) :
  Calls Tryz.prog 67 #[.int .u32 (n : Int), .int .i64 3] w fun e w' => ∃ v, e = .returned v ∧ OB w' w.heap.size v (lW n 3) ∧ Below w.heap.size w w' := by
 go_enter Tryz.func67, Tryz.ntmps67
 go_wp2_with fail
 refine (JC _ _ (lW n 3) _ (jf5 (iO rfl) rfl (by show 3 ≤ _; omega) (fun j p hj => by rw [Nat.add_comm]; exact j03 n (j + 1) p (by simpa [lW, be4] using hj))) (Nat.le_refl _) (by show 3 ≤ _; omega)).mono ?_
 rintro e w1 ⟨v, rfl, ho, hb⟩
 go_wp2
 go_ret
 exact ⟨_, rfl, ho.lower (by simp), iF (by (repeat (first | exact Below.refl _ _ | apply iD | apply iW | apply iE | apply below_bytesWorld | (refine iM ?_ (by first | assumption | omega)) | refine iF ?_ (by assumption)))) hb⟩
theorem xI (a b c : List UInt8) : ([a, b, c] : List (List UInt8)).flatten = a ++ b ++ c := by simp
set_option maxHeartbeats 1000000 in
theorem wrap_any (A : Option Addr) (c : Nat) (l : List UInt8) (w : World) (hr : kb.C w A l.length l) (hc : l.length ≤ c) (hs : l.length ≤ 60000) :
  Calls Tryz.prog 42 #[.slice A l.length c] w fun e w' => ∃ v, e = .returned (.tuple #[v, .int .u16 0]) ∧ OB w' w.heap.size v (kT l) ∧ Below w.heap.size w w' := by
 have HL := iC.mk hr
 clear hr
 have hs1 : (l.length : Int) ≤ 60000 := by omega
 go_enter Tryz.func42, Tryz.ntmps42
 go_wp2_with fail
 refine (jh4 l.length _).mono ?_
 rintro e w1 ⟨v1, rfl, ho1, hb1⟩
 obtain ⟨A1, c1, rfl, hc1, hC1⟩ := ho1.reads
 have HC1 := iC.mk hC1
 clear hC1 ho1
 go_wp2_with fail
 refine (UV [headB l.length, l] (by (repeat (first | (refine iO ?_; simp; done) | apply heap_drew' | apply jG | refine iJ (by assumption) ?_))) rfl (by simp) (Cs.cons (n := (lW l.length 3).length) (Kd.C_below HC1.out (by (repeat (first | exact Below.refl _ _ | apply iD | apply iW | apply iE | apply below_bytesWorld | (refine iM ?_ (by first | assumption | omega)) | refine iF ?_ (by assumption))))) hc1 (Cs.cons (Kd.C_below HL.out (by (repeat (first | exact Below.refl _ _ | apply iD | apply iW | apply iE | apply below_bytesWorld | (refine iM ?_ (by first | assumption | omega)) | refine iF ?_ (by assumption))))) hc (Cs.nil _)))).mono ?_
 rintro e w2 ⟨rfl, hb2⟩
 go_wp2_with fail
 have hsum : sumN [headB l.length, l] = sumN [headB l.length ++ l] := by rw [WI]; simp
 rw [hsum]
 have HSUM := iC.mk hsum
 clear hsum
 refine (j4_ _ _).mono ?_
 rintro e w3 ⟨v3, rfl, ho3, hb3⟩
 obtain ⟨A3, c3, rfl, hc3, hC3⟩ := ho3.reads
 have HC3 := iC.mk hC3
 clear hC3 ho3
 go_wp2_with fail
 refine (Q4 _ _ [headB l.length, l, pV (headB l.length ++ l)] _ (XL (by (repeat (first | (refine iO ?_; simp; done) | apply heap_drew' | apply jG | refine iJ (by assumption) ?_))) rfl (by simp) (Cs.cons (n := (lW l.length 3).length) (Kd.C_below HC1.out (by (repeat (first | exact Below.refl _ _ | apply iD | apply iW | apply iE | apply below_bytesWorld | (refine iM ?_ (by first | assumption | omega)) | refine iF ?_ (by assumption))))) hc1 (Cs.cons (Kd.C_below HL.out (by (repeat (first | exact Below.refl _ _ | apply iD | apply iW | apply iE | apply below_bytesWorld | (refine iM ?_ (by first | assumption | omega)) | refine iF ?_ (by assumption))))) hc (Cs.cons (n := (lW (sumN [headB l.length ++ l]) 4).length) (Kd.C_below HC3.out (by (repeat (first | exact Below.refl _ _ | apply iD | apply iW | apply iE | apply below_bytesWorld | (refine iM ?_ (by first | assumption | omega)) | refine iF ?_ (by assumption))))) hc3 (Cs.nil _))))) (by rw [xI]; have := qN l; unfold kT at this; omega)).mono ?_
 rintro e w4 ⟨v4, rfl, ho4, hb4⟩
 rw [xI] at ho4
 have HO4 := iC.mk ho4
 clear ho4
 go_wp2
 go_ret2
 exact ⟨_, rfl, HO4.out.lower (iV (by (repeat (first | exact Below.refl _ _ | apply iD | apply iW | apply iE | apply below_bytesWorld | (refine iM ?_ (by first | assumption | omega)) | refine iF ?_ (by assumption))))), by (repeat (first | exact Below.refl _ _ | apply iD | apply iW | apply iE | apply below_bytesWorld | (refine iM ?_ (by first | assumption | omega)) | refine iF ?_ (by assumption)))⟩
theorem uK (n size k : Nat) (hs : size ≤ 4) (hk : k < size) : (lW n size).take (size - k) = (lW n size).take (size - (k + 1)) ++ [UInt8.ofNat (n / 256 ^ k)] := by
 have h : size = 0 ∨ size = 1 ∨ size = 2 ∨ size = 3 ∨ size = 4 := by omega
 have h' : k = 0 ∨ k = 1 ∨ k = 2 ∨ k = 3 := by omega
 rcases h with rfl | rfl | rfl | rfl | rfl <;> rcases h' with rfl | rfl | rfl | rfl <;> first | omega | simp [lW, be4]
theorem OB.one {W : World} {b : Nat} {n k : Nat} (hb : b = W.heap.size) (e : Nat) : kb.C (W.alloc (.cells #[.int .u8 ((n : Int) / k % 256)] e)) (some ⟨b, 0, none⟩) 1 [UInt8.ofNat (n / k)] :=
 jh1 hb rfl (by simp) (by rw [List.map_cons, List.map_nil, yV])
theorem OB.one0 {W : World} {b : Nat} {n : Nat} (hb : b = W.heap.size) (e : Nat) : kb.C (W.alloc (.cells #[.int .u8 ((n : Int) % 256)] e)) (some ⟨b, 0, none⟩) 1 [UInt8.ofNat n] :=
 jh1 hb rfl (by simp) (by rw [List.map_cons, List.map_nil, RH])
end Go.Proofs.YtgfkgppomaapiaaGreatDoor.My
end

section
namespace Go.Proofs.YtgfkgppomaapiaaGreatDoor.My
open Go Go.RowKit Go.Proofs.YtgfkgppomaapiaaGreatDoorW.PrintWords Go.Proofs.YtgfkgppomaapiaaGreatDoorW.PrintMore Go.Proofs.YtgfkgppomaapiaaGreatDoorW.PrintLast
theorem QK (l : List UInt8) (x0 x1 x2 : UInt8) (h0 : x0 = l.getD 0 0) (h1 : x1 = l.getD 1 0) (h2 : x2 = l.getD 2 0) :
  (x0.toNat : Int) * 65536 + (x1.toNat : Int) * 256 + (x2.toNat : Int) = (num3 l : Int) := by
 subst h0; subst h1; subst h2
 unfold num3
 omega
theorem ja0 (a b : List UInt8) : (a == b) = decide (a = b) := by rw [Bool.eq_iff_iff]; simp
def OBB (w : World) (base : Nat) (v : Value) (ls : List (List UInt8)) : Prop := (Kd.slice 5 kb).R 22 w base (fun _ => True) v ls
theorem OBB.below {w w' : World} {base : Nat} {v : Value} {l : List (List UInt8)} (h : OBB w base v l) (hb : Below w.heap.size w w') : OBB w' base v l := Kd.R_below h hb
theorem OBB.reads {w : World} {base : Nat} {v : Value} {l : List (List UInt8)} (h : OBB w base v l) : ∃ A c, v = .slice A l.length c ∧ l.length ≤ c ∧ (Kd.slice 5 kb).C w A l.length l := Kd.R_reads h
theorem OBB.nil (w : World) (base : Nat) : OBB w base (.slice none 0 0) [] := Kd.R_nil _ _ _ _ _
theorem OBB.lower {w : World} {base base' : Nat} {v : Value} {l : List (List UInt8)} (h : OBB w base v l) (hb : base' ≤ base) : OBB w base' v l := Kd.R_lower h hb
theorem WO : (Tryz.prog.info? 22).map (fun i => (i.zero, i.size, i.bytes)) = some (some (.slice none 0 0), (Kd.slice 5 kb).sz, 24) := by kernel_rfl
theorem QT {w : World} {base : Nat} {v x : Value} {ls : List (List UInt8)} {l : List UInt8} (h : OBB w base v ls) (hx : OB w base x l) : (Kd.slice 5 kb).M w base (fun k => some k ≠ v.ownBlock) l [x] := by
 refine ⟨x, rfl, ?_⟩
 cases hv : v.ownBlock with
 | none => exact Kd.R_mono hx (fun k _ => by simp)
 | some g =>
  obtain ⟨inner, ho⟩ := Kd.R_own h
  obtain ⟨cells, hc⟩ := oZ ho g hv
  exact Kd.R_mono (Kd.R_types hx hc (by decide)) (fun k hk e => hk.2 (by injection e))
end Go.Proofs.YtgfkgppomaapiaaGreatDoor.My
end

section
namespace Go.Proofs.YtgfkgppomaapiaaGreatDoor.My
open Go Go.RowKit Go.Proofs.YtgfkgppomaapiaaGreatDoorW.PrintWords Go.Proofs.YtgfkgppomaapiaaGreatDoorW.PrintMore Go.Proofs.YtgfkgppomaapiaaGreatDoorW.PrintLast
def j0_ {α : Type} (F : Fence) (n : Nat) (P : Program) (g : Nat) (lb : Array Value) (encs : α → Array Value) (Kp : World → World → Prop) (G : α → World → Prop) (S : List α → Prop) (N : Nat) (w : World) : Prop :=
 ∀ (l : Nat) (J : List α → World → Prop) (W : World), Below w.heap.size w W → (∀ s A B, J s A → Below A.heap.size A B → J s B) →
  (∀ pre x W1, J pre W1 → G x W1 → pre.length < N → YieldAt F (n - 1) P l (encs x) W1 fun e W' => e = .returned (.bool true) ∧ J (pre ++ [x]) W' ∧ Kp W1 W') → J [] W →
  CallsIn F n P g (#[.func (.yield l) #[] #[]] ++ lb) W fun e W' => (∃ v, e = .returned v) ∧ ∃ xs, S xs ∧ J xs W'
theorem jd9 {F : Fence} {n : Nat} {P : Program} {α : Type} {g : Operand} {ps : Array Tmp} {assign body : Code} {Q : Exit → Act → World → Prop} {a : Act} {w : World}
  (hro : F.round = none) (h1 : 1 ≤ n) {gf : Nat} {lb : Array Value} (hg : a.eval g = .func (.func gf) #[] lb) (hFg : F.fn gf) (eg : ∀ args w, (callFunc gf args).run P w = .ok (.enter gf args) w)
  {encs : α → Array Value} {Kp : World → World → Prop} {G : α → World → Prop} {S : List α → Prop} {N : Nat} {w0 : World} (hseq : j0_ F (n - 1) P gf lb encs Kp G S N w0)
  (hKt : ∀ {A B C : World}, Kp A B → Kp B C → Kp A C) (hKb : ∀ (W : World) (l : Nat) (r : Loop) (o' : Obj), w.heap.size ≤ l → W.heap[l]? = some (.loop r) → Kp W (W.putObj l o')) (hb0 : Below w0.heap.size w0 w) (hps : ∀ x, (encs x).size = ps.size)
  (I : List α → World → Prop) (hIb : ∀ s A B, I s A → Below A.heap.size A B → I s B) (hIp : ∀ s A l r o', I s A → w.heap.size ≤ l → A.heap[l]? = some (.loop r) → I s (A.putObj l o'))
  (hGp : ∀ x A l r o', G x A → w.heap.size ≤ l → A.heap[l]? = some (.loop r) → G x (A.putObj l o')) (h0 : I [] w) (a₁ : α → Act)
  (hassign : ∀ (l : Nat) (x : α) (W : World) (K : Act → World → Prop), K (a₁ x) W →
   assign.wpIn (F.inRound l) (n - 1 - 1) P (Exit.then K (fun _ _ _ => False)) { tmps := (ps.zip (encs x)).foldl (fun t (p, v) => t.setIfInBounds p v) a.tmps, defers := [] } W)
  (hbody : ∀ (l : Nat) (pre : List α) (x : α) (W : World), w.heap.size ≤ l → I pre W → G x W → pre.length < N → body.wpIn (F.inRound l) (n - 1 - 1) P (fun e _ W' => e = .normal ∧ KeepsFrom w.heap.size W W' ∧ Kp W W' ∧ I (pre ++ [x]) W') (a₁ x) W)
  (hdone : ∀ (D : Nat) (xs : List α) (W : World), w.heap.size ≤ D → S xs → I xs W → W.heap[D]? = some (.deferred (some [])) → Q .normal { a with defers := { target := .collected D, args := #[] } :: a.defers } W) :
  (Code.rangeFunc g ps assign body).wpIn F n P Q a w := by
 refine wpIn_rangeFunc ?_
 intro fn hfn
 rw [hro]
 obtain ⟨rc, hrc⟩ : ∃ rc : LoopState → Option Code → Loop, rc = fun st pe => { state := st, pending := pe, fn, tmps := a.tmps, params := ps, assign, body, defers := w.heap.size } := ⟨_, rfl⟩
 obtain ⟨W1, hW1⟩ : ∃ W1, (w.alloc (.deferred (some []))).alloc (.loop (rc .ready none)) = W1 := ⟨_, rfl⟩
 have hbW : Below w.heap.size w W1 := by rw [← hW1]; exact iD (iD (Below.refl _ _) _) _
 have hL1 : W1.heap[w.heap.size + 1]? = some (.loop (rc .ready none)) := by rw [← hW1]; exact iO (by simp)
 have hK1 : W1.heap[w.heap.size]? = some (.deferred (some [])) := by rw [← hW1]; exact jG (iO rfl)
 refine ⟨w.heap.size + 1, [{ target := .collected w.heap.size, args := #[] }], W1, { target := .fn (.func gf) lb, args := #[.func (.yield (w.heap.size + 1)) #[] #[]] }, W1, gf, #[.func (.yield (w.heap.size + 1)) #[] #[]] ++ lb, W1, ?_, ?_, ?_, ?_, fun _ => h1, ?_⟩
 ·rw [← hW1, hrc]; exact run_enterLoop_outer _ _ _ _ _
 ·simp only [resolve, hg]
  simp [go_sem]
 ·intro f' hf'; simp [Target.leads] at hf'; subst hf'; exact hFg
 ·simp [invoke, go_sem, eg]
 ·refine (hseq (w.heap.size + 1)
   (fun pre W => I pre W ∧ W.heap[w.heap.size + 1]? = some (.loop (rc .ready none)) ∧ W.heap[w.heap.size]? = some (.deferred (some [])))
   W1 (hb0.trans (hbW.mono hb0.size)) (fun s A B hs hb => ⟨hIb s A B hs.1 hb, iJ hb hs.2.1, iJ hb hs.2.2⟩) ?_ ⟨hIb _ _ _ h0 hbW, hL1, hK1⟩).mono ?_
  ·rintro pre x W ⟨hi, hl, hk⟩ hG hlen
   have hlt : w.heap.size + 1 < W.heap.size := jC hl
   have hy := run_yield (P := P) (args := encs x) hl (by rw [hrc]; exact hps x)
   rw [hrc] at hy
   refine ⟨fn, _, assign, body, hy, roundIn_of_wpIn hfn (hassign _ x W _ ⟨_, run_beginRound hl (by rw [hrc]), ?_⟩)⟩
   have hl2 : (W.putObj (w.heap.size + 1) (.loop { rc .ready none with state := .busy })).heap[w.heap.size + 1]? = some (.loop { rc .ready none with state := .busy }) := World.putObj_heap_same hlt
   have hk2 : (W.putObj (w.heap.size + 1) (.loop { rc .ready none with state := .busy })).heap[w.heap.size]? = some (.deferred (some [])) := (World.putObj_heap_other (by omega)).trans hk
   refine wpIn_mono (hbody _ pre x _ (by omega) (hIp _ _ _ _ _ hi (by omega) hl) (hGp _ _ _ _ _ hG (by omega) hl) hlen) ?_
   rintro e a3 W3 ⟨rfl, hk3, hkp3, hi3⟩
   have hl3 := hk3.same _ _ (by omega) hl2 rfl
   have hr := run_endRound (P := P) none hl3
   refine ⟨_, _, hr, rfl, ⟨hIp _ _ _ _ _ hi3 (by omega) hl3, ?_, ?_⟩, hKt (hKt (hKb _ _ _ _ (by omega) hl) hkp3) (hKb _ _ _ _ (by omega) hl3)⟩
   ·rw [hrc]; exact World.putObj_heap_same (jC hl3)
   ·exact (World.putObj_heap_other (by omega)).trans (hk3.same _ _ (Nat.le_refl _) hk2 rfl)
  ·rintro e W2 ⟨⟨v, rfl⟩, xs, hS, hi, hl, hk⟩
   have hend := run_endLoop (P := P) hl (by rw [hrc]; simp)
   refine ⟨_, _, hend, ?_⟩
   have hp : (rc .ready none).pending = none := by rw [hrc]
   rw [hp]
   exact hdone _ xs _ (Nat.le_refl _) hS (hIp _ _ _ _ _ hi (by omega) hl) ((World.putObj_heap_other (by omega)).trans hk)
end Go.Proofs.YtgfkgppomaapiaaGreatDoor.My
end

section
namespace Go.Proofs.YtgfkgppomaapiaaGreatDoor.My
open Go Go.RowKit Go.Proofs.YtgfkgppomaapiaaGreatDoorW.PrintWords Go.Proofs.YtgfkgppomaapiaaGreatDoorW.PrintMore Go.Proofs.YtgfkgppomaapiaaGreatDoorW.PrintLast
attribute [local go_sem] Oper.semAt_some
def imin (x y : Int) : Int := if y < x then y else x
theorem jd0 {n x y : Int} (h1 : n ≤ x) (h2 : n ≤ y) : n ≤ imin x y := by unfold imin; split <;> assumption
theorem VT {n x y : Int} (h : x < n ∨ y < n) : imin x y < n := by unfold imin; split <;> omega
theorem jf7 (k k' : IntKind) (x y : Int) : Builtin.min2 (.int k x) (.int k' y) = pure (.int k (imin x y)) := jW k k' x y
attribute [local go_sem] jf7 kH
abbrev Fr := Nat × Value × List UInt8
def frs (xs : List Fr) : List (List UInt8) := xs.map fun x => x.2.2
def xX (xs : List Fr) : Nat := (xs.getLast?.map fun x => x.1).getD 0
theorem LJ (xs : List Fr) (x : Fr) : frs (xs ++ [x]) = frs xs ++ [x.2.2] := by simp [frs]
theorem JE (xs : List Fr) (x : Fr) : xX (xs ++ [x]) = x.1 := by simp [xX]
theorem jf_ (xs : List Fr) : xs.length ≤ endB (frs xs) := by
 induction xs with
 | nil => simp
 | cons x xs ih =>
  rw [show frs (x :: xs) = x.2.2 :: frs xs from rfl, rP, List.length_cons]
  omega
def encF (x : Fr) : Array Value := #[.int .i64 (x.1 : Int), x.2.1]
def KpF (n0 B : Nat) (W W' : World) : Prop := Below n0 W W' ∧ W'.heap[B]? = W.heap[B]?
def GF (n0 : Nat) (x : Fr) (W : World) : Prop := OB W n0 x.2.1 x.2.2
theorem je9 (x0 x1 x2 : UInt8) : bits .or .i64 (bits .or .i64 ((x0.toNat : Int) * 65536) ((x1.toNat : Int) * 256)) (x2.toNat : Int) = (x0.toNat : Int) * 65536 + (x1.toNat : Int) * 256 + (x2.toNat : Int) := by
 have b0 := x0.toNat_lt
 have b1 := x1.toNat_lt
 have b2 := x2.toNat_lt
 have hw : ∀ n : Int, 0 ≤ n → n < 2 ^ 24 → IntKind.i64.wrap n = n := fun n h1 h2 => by rw [iR]; unfold Go.RowKit.wrap64; omega
 have h1 : bits .or .i64 ((x0.toNat : Int) * 65536) ((x1.toNat : Int) * 256) = (x0.toNat : Int) * 65536 + (x1.toNat : Int) * 256 := bits_join .i64 24 (by decide) hw 16 _ _ (by omega) (by omega) (by omega) (by omega) (by omega) (by omega)
 rw [h1]
 exact bits_join .i64 24 (by decide) hw 8 _ _ (by omega) (by omega) (by omega) (by omega) (by omega) (by omega)
def RSl (l : List UInt8) : Value → World → Prop := fun v w => ∃ A c, v = .slice A l.length c ∧ l.length ≤ c ∧ kb.C w A l.length l
theorem ji0 (l : List UInt8) : Rm (RSl l) := fun _ _ _ ⟨A, c, h1, h2, h3⟩ hb => ⟨A, c, h1, h2, Kd.C_below h3 hb⟩
theorem jg7 (A : Option Addr) (n c hi : Nat) (hiI : Int) (e1 : hiI = hi) (h1 : hi ≤ n) (hc : n ≤ c) :
  ∀ W : World, (Instr.slice 22 (.slice A n c) none (some (.int .i64 hiI)) (some (.int .i64 hiI))).run Tryz.prog W = .ok (.slice A hi hi) W := by
 subst e1
 intro W
 obtain ⟨i, hi0, hsz⟩ := Option.map_eq_some_iff.1 uC
 have hel : Tryz.prog.elem 22 = 5 := by simp [Program.elem, Tryz.underlying22]
 have hu : Tryz.prog.underlying 22 = some (.slice (Tryz.prog.elem 22)) := by rw [hel]; exact Tryz.underlying22
 rw [run_slice_hm W 22 A n c hu .i64 .i64 (hi : Int) (hi : Int) (Int.natCast_nonneg _) (Int.le_refl _) (by omega), hel]
 simp [sizeOf, typeInfo, hi0, hsz, sliced, Result.andThen]
 intro _
 cases A with
 | none => rfl
 | some a => simp [Addr.add]
theorem TS (b : List UInt8) (h7 : 7 ≤ b.length) (h1 : num3 b ≤ 60000) (h2 : num3 b ≤ b.length - 7) :
  lC b = if (pV (b.take (3 + num3 b)) == (b.take (3 + num3 b + 4)).drop (3 + num3 b)) = true then some ((b.take (3 + num3 b)).drop 3) else none := by
 unfold lC
 rw [if_neg (by omega), if_neg (by omega)]
 have e1 : (b.take (3 + num3 b + 4)).drop (3 + num3 b) = (b.drop (3 + num3 b)).take 4 := by rw [List.drop_take]; congr 1; omega
 have e2 : (b.take (3 + num3 b)).drop 3 = (b.drop 3).take (num3 b) := by rw [List.drop_take]; congr 1; omega
 rw [e1, e2]
 simp only [beq_iff_eq]
set_option maxRecDepth 20000 in
set_option maxHeartbeats 2000000 in
theorem TZ (n B e : Nat) (fz : Nat × Nat) (A : Option Addr) (c : Nat) (l : List UInt8) (wS w0 : World) (hr : kb.C wS A l.length l) (hc : l.length ≤ c) (hs : (l.length : Int) ≤ 1000000) (hwS : Below wS.heap.size wS w0)
  (hB : w0.heap[B]? = some (.cells #[.slice A l.length c] e fz)) :
  j0_ Fence.wide n Tryz.prog 107 #[.pointer (some ⟨B, 0, none⟩)] encF (KpF wS.heap.size B) (GF w0.heap.size) (fun xs => frs xs = jY l ∧ xX xs = endB (jY l)) (l.length + 1) w0 := by
 intro lp J W hW hJb hY h0
 have HL := iC.mk hr
 clear hr
 have hBW := iJ hW hB
 refine callsIn_of_wp Tryz.func107 rfl trivial ?_ rfl
 simp only [Tryz.ntmps107, List.size_toArray, List.length_cons, List.length_nil, Nat.reduceAdd, Nat.reduceSub, Array.replicate_succ, Array.replicate_zero, List.push_toArray, List.append_toArray, List.nil_append, List.cons_append]
 gi_wp2
 gi_loopw [3] (fun p wr => ∃ (k : Nat) (xs : List Fr), p = .int .i64 (k : Int) ∧ k ≤ l.length ∧ iC (jY l = frs xs ++ jY (l.drop k)) ∧ iC (endB (frs xs) = k) ∧ iC (xX xs = k) ∧ iC (J xs wr) ∧ iC (Below wS.heap.size wS wr) ∧ w0.heap.size ≤ wr.heap.size ∧ wr.heap[B]? = some (.cells #[.slice A l.length c] e fz)) (fun p _ => l.length - (intOf p).toNat)
 case atStart => exact ⟨0, [], rfl, Nat.zero_le _, ⟨rfl⟩, ⟨rfl⟩, ⟨rfl⟩, ⟨h0⟩, ⟨hwS.trans (hW.mono hwS.size)⟩, hW.size, hBW⟩
 case round =>
  obtain ⟨k, xs, rfl, hk, HS, HE, HK, HJ, HB, hszr, hBr⟩ := hrel
  have hcell : wr.cell? ⟨B, 0, none⟩ = some (.slice A l.length c) := by simp [World.cell?, hBr]
  have hk1 : (k : Int) ≤ (l.length : Int) := by omega
  obtain ⟨A', hrun, hC⟩ := YZ (Kd.C_below HL.out HB.out) hc k (k : Int) rfl hk
  obtain ⟨l', hl'⟩ : ∃ z, z = l.drop k := ⟨_, rfl⟩
  have hll : l'.length = l.length - k := by rw [hl', List.length_drop]
  have hlI : (l'.length : Int) = (l.length : Int) - (k : Int) := by omega
  rw [← hl'] at hC
  rw [← hll] at hrun hC
  have HLI := iC.mk hlI
  have HLL := iC.mk hll
  have HL' := iC.mk hl'
  clear hl' hll hlI
  rw [← HL'.out] at HS
  have hcc : l'.length ≤ c - k := by have := HLL.out; omega
  by_cases h7 : (7 : Int) ≤ (l.length : Int) - (k : Int)
  ·have h7' : (7 : Int) ≤ (l'.length : Int) := by have := HLI.out; omega
   obtain ⟨ad, hA, hx0⟩ := C_at hC 0 (by omega)
   obtain ⟨ad', hA', hx1⟩ := C_at hC 1 (by omega)
   obtain ⟨ad'', hA'', hx2⟩ := C_at hC 2 (by omega)
   subst hA
   obtain rfl : ad = ad' := by injection hA'
   obtain rfl : ad = ad'' := by injection hA''
   clear hA' hA''
   obtain ⟨x0, e0⟩ : ∃ x, x = l'.getD 0 0 := ⟨_, rfl⟩
   obtain ⟨x1, e1⟩ : ∃ x, x = l'.getD 1 0 := ⟨_, rfl⟩
   obtain ⟨x2, e2⟩ : ∃ x, x = l'.getD 2 0 := ⟨_, rfl⟩
   rw [← e0] at hx0
   rw [← e1] at hx1
   rw [← e2] at hx2
   have HN := iC.mk (QK l' x0 x1 x2 e0 e1 e2)
   have HSH := iC.mk (je9 x0 x1 x2)
   have b0 := x0.toNat_lt
   have b1 := x1.toNat_lt
   have b2 := x2.toNat_lt
   clear e0 e1 e2
   have HC := iC.mk hC
   clear hC
   have hm' : (l'.length : Int) ≤ 1000000 := by have := HLI.out; omega
   have hne : ¬ (l' = []) := fun h => by subst h; simp at h7'
   have hi0 : (0 : Int) < (l'.length : Int) := by omega
   have hi1 : (1 : Int) < (l'.length : Int) := by omega
   have hi2 : (2 : Int) < (l'.length : Int) := by omega
   have hs0 : (x0.toNat : Int) * 65536 ≤ 16711680 := by omega
   have hs1 : (x1.toNat : Int) * 256 ≤ 65280 := by omega
   gi_wp2
   refine wpIn_wide.2 ?_
   refine vF [15, 16, 17, 18, 19, 20, 21, 22, 23, 24, 25, 26, 27, 28, 29, 30, 5] [fun v _ => v = (.slice (some ad) l'.length (c - k)), fun v _ => v = (.pointer (some (ad.add 0))), fun v _ => v = (.int .u8 (x0.toNat : Int)), fun v _ => v = (.int .i64 (x0.toNat : Int)), fun v _ => v = (.int .i64 ((x0.toNat : Int) * 65536)), fun v _ => v = (.slice (some ad) l'.length (c - k)), fun v _ => v = (.pointer (some (ad.add 1))), fun v _ => v = (.int .u8 (x1.toNat : Int)), fun v _ => v = (.int .i64 (x1.toNat : Int)), fun v _ => v = (.int .i64 ((x1.toNat : Int) * 256)), fun v _ => v = (.int .i64 (bits .or .i64 ((x0.toNat : Int) * 65536) ((x1.toNat : Int) * 256))), fun v _ => v = (.slice (some ad) l'.length (c - k)), fun v _ => v = (.pointer (some (ad.add 2))), fun v _ => v = (.int .u8 (x2.toNat : Int)), fun v _ => v = (.int .i64 (x2.toNat : Int)), fun v _ => v = (.int .i64 (bits .or .i64 (bits .or .i64 ((x0.toNat : Int) * 65536) ((x1.toNat : Int) * 256)) (x2.toNat : Int))), fun v _ => v = (.int .i64 (bits .or .i64 (bits .or .i64 ((x0.toNat : Int) * 65536) ((x1.toNat : Int) * 256)) (x2.toNat : Int)))] [0, 1, 2, 3, 4, 5, 6, 7, 8, 9, 10, 11, 12, 13, 14, 15, 16] (true, [([], []), ([0], [0]), ([1], [1]), ([2], [2]), ([3], [3]), ([], []), ([5], [5]), ([6], [6]), ([7], [7]), ([8], [8]), ([4, 9], [4, 9]), ([], []), ([11], [11]), ([12], [12]), ([13], [13]), ([10, 14], [10, 14]), ([15, 0, 1, 2, 3, 4, 5, 6, 7, 8, 9, 10, 11, 12, 13, 14, 15], [15])]) [0, 1, 3, 7, 15, 0, 32, 96, 224, 480, 1023, 0, 2048, 6144, 14336, 32767, 65535] (by kernel_rfl) (by kernel_rfl) (by kernel_rfl) (by kernel_rfl) (by kernel_rfl) (by kernel_rfl) (by kernel_rfl) (by rfl) (by kernel_rfl) ?_ ?_ ?_
   ·exact (iP (jO _) (iP (jO _) (iP (jO _) (iP (jO _) (iP (jO _) (iP (jO _) (iP (jO _) (iP (jO _) (iP (jO _) (iP (jO _) (iP (jO _) (iP (jO _) (iP (jO _) (iP (jO _) (iP (jO _) (iP (jO _) (iP (jO _) uV)))))))))))))))))
   ·refine iI ?_ ?_
    ·intro a w' vs hB hel hd
     have e4 : a.tmps[4]? = some (.slice (some ad) l'.length (c - k)) := (hel 4 (by kernel_rfl)).trans (by rfl)
     refine ⟨_, rfl, rfl, fun K hK => ?_⟩
     refine iY (w1 := w') (v := .slice (some ad) l'.length (c - k)) (by rfl) rfl ?_ (hK _ _ (by exact rfl) (Below.refl _ _))
     ·go_simp
      (try simp only [iR, iQ])
      (try rfl)
      (try (unfold Go.RowKit.wrap64; omega))
    refine iI ?_ ?_
    ·intro a w' vs hB hel hd
     obtain ⟨f15, r15⟩ := hd 0 (by kernel_rfl)
     have e15 : a.tmps[15]? = some (.slice (some ad) l'.length (c - k)) := f15.trans (congrArg some (r15 : vs 0 = (.slice (some ad) l'.length (c - k))))
     refine ⟨_, rfl, rfl, fun K hK => ?_⟩
     refine iY (w1 := w') (v := .pointer (some (ad.add 0))) (by rfl) rfl ?_ (hK _ _ (by exact rfl) (Below.refl _ _))
     ·go_simp
      (try simp only [iR, iQ])
      (try rfl)
      (try (unfold Go.RowKit.wrap64; omega))
    refine iI ?_ ?_
    ·intro a w' vs hB hel hd
     obtain ⟨f16, r16⟩ := hd 1 (by kernel_rfl)
     have e16 : a.tmps[16]? = some (.pointer (some (ad.add 0))) := f16.trans (congrArg some (r16 : vs 1 = (.pointer (some (ad.add 0)))))
     have hy0 := yS hB hx0
     rw [NR] at hy0
     refine ⟨_, rfl, rfl, fun K hK => ?_⟩
     refine iY (w1 := w') (v := .int .u8 (x0.toNat : Int)) (by rfl) rfl ?_ (hK _ _ (by exact rfl) (Below.refl _ _))
     ·go_simp
      (try simp only [iR, iQ])
      (try rfl)
      (try (unfold Go.RowKit.wrap64; omega))
    refine iI ?_ ?_
    ·intro a w' vs hB hel hd
     obtain ⟨f17, r17⟩ := hd 2 (by kernel_rfl)
     have e17 : a.tmps[17]? = some (.int .u8 (x0.toNat : Int)) := f17.trans (congrArg some (r17 : vs 2 = (.int .u8 (x0.toNat : Int))))
     refine ⟨_, rfl, rfl, fun K hK => ?_⟩
     refine iY (w1 := w') (v := .int .i64 (x0.toNat : Int)) (by rfl) rfl ?_ (hK _ _ (by exact rfl) (Below.refl _ _))
     ·go_simp
      (try simp only [iR, iQ])
      (try rfl)
      (try (unfold Go.RowKit.wrap64; omega))
    refine iI ?_ ?_
    ·intro a w' vs hB hel hd
     obtain ⟨f18, r18⟩ := hd 3 (by kernel_rfl)
     have e18 : a.tmps[18]? = some (.int .i64 (x0.toNat : Int)) := f18.trans (congrArg some (r18 : vs 3 = (.int .i64 (x0.toNat : Int))))
     refine ⟨_, rfl, rfl, fun K hK => ?_⟩
     refine iY (w1 := w') (v := .int .i64 ((x0.toNat : Int) * 65536)) (by rfl) rfl ?_ (hK _ _ (by exact rfl) (Below.refl _ _))
     ·go_simp
      (try simp only [iR, iQ])
      (try rfl)
      (try (unfold Go.RowKit.wrap64; omega))
    refine iI ?_ ?_
    ·intro a w' vs hB hel hd
     have e4 : a.tmps[4]? = some (.slice (some ad) l'.length (c - k)) := (hel 4 (by kernel_rfl)).trans (by rfl)
     refine ⟨_, rfl, rfl, fun K hK => ?_⟩
     refine iY (w1 := w') (v := .slice (some ad) l'.length (c - k)) (by rfl) rfl ?_ (hK _ _ (by exact rfl) (Below.refl _ _))
     ·go_simp
      (try simp only [iR, iQ])
      (try rfl)
      (try (unfold Go.RowKit.wrap64; omega))
    refine iI ?_ ?_
    ·intro a w' vs hB hel hd
     obtain ⟨f20, r20⟩ := hd 5 (by kernel_rfl)
     have e20 : a.tmps[20]? = some (.slice (some ad) l'.length (c - k)) := f20.trans (congrArg some (r20 : vs 5 = (.slice (some ad) l'.length (c - k))))
     refine ⟨_, rfl, rfl, fun K hK => ?_⟩
     refine iY (w1 := w') (v := .pointer (some (ad.add 1))) (by rfl) rfl ?_ (hK _ _ (by exact rfl) (Below.refl _ _))
     ·go_simp
      (try simp only [iR, iQ])
      (try rfl)
      (try (unfold Go.RowKit.wrap64; omega))
    refine iI ?_ ?_
    ·intro a w' vs hB hel hd
     obtain ⟨f21, r21⟩ := hd 6 (by kernel_rfl)
     have e21 : a.tmps[21]? = some (.pointer (some (ad.add 1))) := f21.trans (congrArg some (r21 : vs 6 = (.pointer (some (ad.add 1)))))
     have hy0 := yS hB hx1
     rw [yU _ _ (by omega)] at hy0
     refine ⟨_, rfl, rfl, fun K hK => ?_⟩
     refine iY (w1 := w') (v := .int .u8 (x1.toNat : Int)) (by rfl) rfl ?_ (hK _ _ (by exact rfl) (Below.refl _ _))
     ·go_simp
      (try simp only [iR, iQ])
      (try rfl)
      (try (unfold Go.RowKit.wrap64; omega))
    refine iI ?_ ?_
    ·intro a w' vs hB hel hd
     obtain ⟨f22, r22⟩ := hd 7 (by kernel_rfl)
     have e22 : a.tmps[22]? = some (.int .u8 (x1.toNat : Int)) := f22.trans (congrArg some (r22 : vs 7 = (.int .u8 (x1.toNat : Int))))
     refine ⟨_, rfl, rfl, fun K hK => ?_⟩
     refine iY (w1 := w') (v := .int .i64 (x1.toNat : Int)) (by rfl) rfl ?_ (hK _ _ (by exact rfl) (Below.refl _ _))
     ·go_simp
      (try simp only [iR, iQ])
      (try rfl)
      (try (unfold Go.RowKit.wrap64; omega))
    refine iI ?_ ?_
    ·intro a w' vs hB hel hd
     obtain ⟨f23, r23⟩ := hd 8 (by kernel_rfl)
     have e23 : a.tmps[23]? = some (.int .i64 (x1.toNat : Int)) := f23.trans (congrArg some (r23 : vs 8 = (.int .i64 (x1.toNat : Int))))
     refine ⟨_, rfl, rfl, fun K hK => ?_⟩
     refine iY (w1 := w') (v := .int .i64 ((x1.toNat : Int) * 256)) (by rfl) rfl ?_ (hK _ _ (by exact rfl) (Below.refl _ _))
     ·go_simp
      (try simp only [iR, iQ])
      (try rfl)
      (try (unfold Go.RowKit.wrap64; omega))
    refine iI ?_ ?_
    ·intro a w' vs hB hel hd
     obtain ⟨f19, r19⟩ := hd 4 (by kernel_rfl)
     have e19 : a.tmps[19]? = some (.int .i64 ((x0.toNat : Int) * 65536)) := f19.trans (congrArg some (r19 : vs 4 = (.int .i64 ((x0.toNat : Int) * 65536))))
     obtain ⟨f24, r24⟩ := hd 9 (by kernel_rfl)
     have e24 : a.tmps[24]? = some (.int .i64 ((x1.toNat : Int) * 256)) := f24.trans (congrArg some (r24 : vs 9 = (.int .i64 ((x1.toNat : Int) * 256))))
     refine ⟨_, rfl, rfl, fun K hK => ?_⟩
     refine iY (w1 := w') (v := .int .i64 (bits .or .i64 ((x0.toNat : Int) * 65536) ((x1.toNat : Int) * 256))) (by rfl) rfl ?_ (hK _ _ (by exact rfl) (Below.refl _ _))
     ·go_simp
      (try simp only [iR, iQ])
      (try rfl)
      (try (unfold Go.RowKit.wrap64; omega))
    refine iI ?_ ?_
    ·intro a w' vs hB hel hd
     have e4 : a.tmps[4]? = some (.slice (some ad) l'.length (c - k)) := (hel 4 (by kernel_rfl)).trans (by rfl)
     refine ⟨_, rfl, rfl, fun K hK => ?_⟩
     refine iY (w1 := w') (v := .slice (some ad) l'.length (c - k)) (by rfl) rfl ?_ (hK _ _ (by exact rfl) (Below.refl _ _))
     ·go_simp
      (try simp only [iR, iQ])
      (try rfl)
      (try (unfold Go.RowKit.wrap64; omega))
    refine iI ?_ ?_
    ·intro a w' vs hB hel hd
     obtain ⟨f26, r26⟩ := hd 11 (by kernel_rfl)
     have e26 : a.tmps[26]? = some (.slice (some ad) l'.length (c - k)) := f26.trans (congrArg some (r26 : vs 11 = (.slice (some ad) l'.length (c - k))))
     refine ⟨_, rfl, rfl, fun K hK => ?_⟩
     refine iY (w1 := w') (v := .pointer (some (ad.add 2))) (by rfl) rfl ?_ (hK _ _ (by exact rfl) (Below.refl _ _))
     ·go_simp
      (try simp only [iR, iQ])
      (try rfl)
      (try (unfold Go.RowKit.wrap64; omega))
    refine iI ?_ ?_
    ·intro a w' vs hB hel hd
     obtain ⟨f27, r27⟩ := hd 12 (by kernel_rfl)
     have e27 : a.tmps[27]? = some (.pointer (some (ad.add 2))) := f27.trans (congrArg some (r27 : vs 12 = (.pointer (some (ad.add 2)))))
     have hy0 := yS hB hx2
     rw [yU _ _ (by omega)] at hy0
     refine ⟨_, rfl, rfl, fun K hK => ?_⟩
     refine iY (w1 := w') (v := .int .u8 (x2.toNat : Int)) (by rfl) rfl ?_ (hK _ _ (by exact rfl) (Below.refl _ _))
     ·go_simp
      (try simp only [iR, iQ])
      (try rfl)
      (try (unfold Go.RowKit.wrap64; omega))
    refine iI ?_ ?_
    ·intro a w' vs hB hel hd
     obtain ⟨f28, r28⟩ := hd 13 (by kernel_rfl)
     have e28 : a.tmps[28]? = some (.int .u8 (x2.toNat : Int)) := f28.trans (congrArg some (r28 : vs 13 = (.int .u8 (x2.toNat : Int))))
     refine ⟨_, rfl, rfl, fun K hK => ?_⟩
     refine iY (w1 := w') (v := .int .i64 (x2.toNat : Int)) (by rfl) rfl ?_ (hK _ _ (by exact rfl) (Below.refl _ _))
     ·go_simp
      (try simp only [iR, iQ])
      (try rfl)
      (try (unfold Go.RowKit.wrap64; omega))
    refine iI ?_ ?_
    ·intro a w' vs hB hel hd
     obtain ⟨f25, r25⟩ := hd 10 (by kernel_rfl)
     have e25 : a.tmps[25]? = some (.int .i64 (bits .or .i64 ((x0.toNat : Int) * 65536) ((x1.toNat : Int) * 256))) := f25.trans (congrArg some (r25 : vs 10 = (.int .i64 (bits .or .i64 ((x0.toNat : Int) * 65536) ((x1.toNat : Int) * 256)))))
     obtain ⟨f29, r29⟩ := hd 14 (by kernel_rfl)
     have e29 : a.tmps[29]? = some (.int .i64 (x2.toNat : Int)) := f29.trans (congrArg some (r29 : vs 14 = (.int .i64 (x2.toNat : Int))))
     refine ⟨_, rfl, rfl, fun K hK => ?_⟩
     refine iY (w1 := w') (v := .int .i64 (bits .or .i64 (bits .or .i64 ((x0.toNat : Int) * 65536) ((x1.toNat : Int) * 256)) (x2.toNat : Int))) (by rfl) rfl ?_ (hK _ _ (by exact rfl) (Below.refl _ _))
     ·go_simp
      (try simp only [iR, iQ])
      (try rfl)
      (try (unfold Go.RowKit.wrap64; omega))
    refine iI ?_ ?_
    ·intro a w' vs hB hel hd
     obtain ⟨f30, r30⟩ := hd 15 (by kernel_rfl)
     have e30 : a.tmps[30]? = some (.int .i64 (bits .or .i64 (bits .or .i64 ((x0.toNat : Int) * 65536) ((x1.toNat : Int) * 256)) (x2.toNat : Int))) := f30.trans (congrArg some (r30 : vs 15 = (.int .i64 (bits .or .i64 (bits .or .i64 ((x0.toNat : Int) * 65536) ((x1.toNat : Int) * 256)) (x2.toNat : Int)))))
     refine ⟨_, rfl, rfl, fun K hK => ?_⟩
     refine iY (w1 := w') (v := .int .i64 (bits .or .i64 (bits .or .i64 ((x0.toNat : Int) * 65536) ((x1.toNat : Int) * 256)) (x2.toNat : Int))) (by rfl) rfl ?_ (hK _ _ (by exact rfl) (Below.refl _ _))
     ·go_simp
      (try simp only [iR, iQ])
      (try rfl)
      (try (unfold Go.RowKit.wrap64; omega))
    exact oG
   ·intro vs w' hB hR
    have hv0_ : vs 0 = (.slice (some ad) l'.length (c - k)) := hR 0 (by kernel_rfl)
    have hv1_ : vs 1 = (.pointer (some (ad.add 0))) := hR 1 (by kernel_rfl)
    have hv2_ : vs 2 = (.int .u8 (x0.toNat : Int)) := hR 2 (by kernel_rfl)
    have hv3_ : vs 3 = (.int .i64 (x0.toNat : Int)) := hR 3 (by kernel_rfl)
    have hv4_ : vs 4 = (.int .i64 ((x0.toNat : Int) * 65536)) := hR 4 (by kernel_rfl)
    have hv5_ : vs 5 = (.slice (some ad) l'.length (c - k)) := hR 5 (by kernel_rfl)
    have hv6_ : vs 6 = (.pointer (some (ad.add 1))) := hR 6 (by kernel_rfl)
    have hv7_ : vs 7 = (.int .u8 (x1.toNat : Int)) := hR 7 (by kernel_rfl)
    have hv8_ : vs 8 = (.int .i64 (x1.toNat : Int)) := hR 8 (by kernel_rfl)
    have hv9_ : vs 9 = (.int .i64 ((x1.toNat : Int) * 256)) := hR 9 (by kernel_rfl)
    have hv10_ : vs 10 = (.int .i64 (bits .or .i64 ((x0.toNat : Int) * 65536) ((x1.toNat : Int) * 256))) := hR 10 (by kernel_rfl)
    have hv11_ : vs 11 = (.slice (some ad) l'.length (c - k)) := hR 11 (by kernel_rfl)
    have hv12_ : vs 12 = (.pointer (some (ad.add 2))) := hR 12 (by kernel_rfl)
    have hv13_ : vs 13 = (.int .u8 (x2.toNat : Int)) := hR 13 (by kernel_rfl)
    have hv14_ : vs 14 = (.int .i64 (x2.toNat : Int)) := hR 14 (by kernel_rfl)
    have hv15_ : vs 15 = (.int .i64 (bits .or .i64 (bits .or .i64 ((x0.toNat : Int) * 65536) ((x1.toNat : Int) * 256)) (x2.toNat : Int))) := hR 15 (by kernel_rfl)
    have hv16_ : vs 16 = (.int .i64 (bits .or .i64 (bits .or .i64 ((x0.toNat : Int) * 65536) ((x1.toNat : Int) * 256)) (x2.toNat : Int))) := hR 16 (by kernel_rfl)
    rw [show entries [15, 16, 17, 18, 19, 20, 21, 22, 23, 24, 25, 26, 27, 28, 29, 30, 5] vs = [(0, 15, vs 0), (1, 16, vs 1), (2, 17, vs 2), (3, 18, vs 3), (4, 19, vs 4), (5, 20, vs 5), (6, 21, vs 6), (7, 22, vs 7), (8, 23, vs 8), (9, 24, vs 9), (10, 25, vs 10), (11, 26, vs 11), (12, 27, vs 12), (13, 28, vs 13), (14, 29, vs 14), (15, 30, vs 15), (16, 5, vs 16)] from rfl]
    simp only [jV, if_true, Act.put, List.setIfInBounds_toArray, List.set_cons_zero, List.set_cons_succ, hv0_, hv1_, hv2_, hv3_, hv4_, hv5_, hv6_, hv7_, hv8_, hv9_, hv10_, hv11_, hv12_, hv13_, hv14_, hv15_, hv16_]
    clear hR hv0_ hv1_ hv2_ hv3_ hv4_ hv5_ hv6_ hv7_ hv8_ hv9_ hv10_ hv11_ hv12_ hv13_ hv14_ hv15_ hv16_
    rw [HSH.out, HN.out]
    obtain ⟨n, hne1⟩ : ∃ n, n = num3 l' := ⟨_, rfl⟩
    rw [← hne1]
    have HNE := iC.mk hne1
    clear hne1 HSH
    have hB3 : Below wr.heap.size wr w' := hB
    clear hB
    by_cases h60 : (60000 : Int) < (n : Int)
    ·have HF := iC.mk (show lC l' = none from by unfold lC; rw [if_neg (by omega), if_pos (by rw [← HNE.out]; omega)])
     have hmn : imin 60000 ((l'.length : Int) - 3 - 4) < (n : Int) := VT (.inl h60)
     gi_wp2
     refine bodyPost_ret (results_none rfl _ _ _) rfl ?_
     exact ⟨⟨_, rfl⟩, xs, ⟨by rw [HS.out, lD HF.out, List.append_nil], by rw [HK.out, HS.out, lD HF.out, List.append_nil, HE.out]⟩, hJb _ _ _ HJ.out hB3⟩
    ·by_cases hln : (l'.length : Int) - 7 < (n : Int)
     ·have HF := iC.mk (show lC l' = none from by unfold lC; rw [if_neg (by omega), if_pos (by rw [← HNE.out]; omega)])
      have hmn : imin 60000 ((l'.length : Int) - 3 - 4) < (n : Int) := VT (.inr (by omega))
      gi_wp2
      refine bodyPost_ret (results_none rfl _ _ _) rfl ?_
      exact ⟨⟨_, rfl⟩, xs, ⟨by rw [HS.out, lD HF.out, List.append_nil], by rw [HK.out, HS.out, lD HF.out, List.append_nil, HE.out]⟩, hJb _ _ _ HJ.out hB3⟩
     ·have hn1 : (n : Int) ≤ (l'.length : Int) - 7 := by omega
      have hnn : n + 7 ≤ l'.length := by omega
      have hr3 := jg7 (some ad) l'.length (c - k) (3 + n) (3 + (n : Int)) (by omega) (by omega) hcc
      have hC3 := iC.mk (Q5 HC.out (3 + n) (by omega))
      obtain ⟨A4, hr4, hC4⟩ := VG HC.out hcc (3 + n) (3 + n + 4) (3 + (n : Int)) (3 + (n : Int) + 4) (by omega) (by omega) (by omega) (by omega)
      obtain ⟨l4, hl4⟩ : ∃ z, z = (l'.take (3 + n + 4)).drop (3 + n) := ⟨_, rfl⟩
      have hll4 : l4.length = 3 + n + 4 - (3 + n) := by rw [hl4, List.length_drop, List.length_take]; omega
      rw [← hl4, ← hll4] at hC4
      rw [← hll4] at hr4
      obtain ⟨A1, hr1, hC1⟩ := VG HC.out hcc 3 (3 + n) (3 : Int) (3 + (n : Int)) rfl (by omega) (by omega) (by omega)
      obtain ⟨x, hx⟩ : ∃ z, z = (l'.take (3 + n)).drop 3 := ⟨_, rfl⟩
      have hxl : x.length = 3 + n - 3 := by rw [hx, List.length_drop, List.length_take]; omega
      rw [← hx, ← hxl] at hC1
      rw [← hxl] at hr1
      have HC4 := iC.mk hC4
      have HC1 := iC.mk hC1
      have HL4 := iC.mk hl4
      have HXX := iC.mk hx
      have HXL := iC.mk hxl
      have hx60 : x.length ≤ 140737488355327 := by omega
      have hxc : x.length ≤ c - k - 3 := by omega
      clear hC4 hC1 hl4 hx hll4 hxl
      have hmn : (n : Int) ≤ imin 60000 ((l'.length : Int) - 3 - 4) := jd0 (by omega) (by omega)
      gi_wp2
      refine wpIn_wide.2 ?_
      refine vF [40, 41, 42, 43, 44, 45, 46, 47, 48, 49, 50, 51, 52, 53] [fun v _ => v = (.slice (some ad) l'.length (c - k)), fun v _ => v = (.int .i64 (3 + (n : Int))), fun v _ => v = (.int .i64 (3 + (n : Int))), fun v _ => v = (.slice (some ad) (3 + n) (3 + n)), RLit 1 #[.slice (some ad) (3 + n) (3 + n)] 22, fun v _ => v = (.int .u32 (sumN [l'.take (3 + n)] : Int)), RSl (pV (l'.take (3 + n))), fun v _ => v = (.slice (some ad) l'.length (c - k)), fun v _ => v = (.int .i64 (3 + (n : Int))), fun v _ => v = (.int .i64 (3 + (n : Int))), fun v _ => v = (.int .i64 (3 + (n : Int) + 4)), fun v _ => v = (.slice A4 l4.length (c - k - (3 + n))), fun v _ => v = (.bool (pV (l'.take (3 + n)) == l4)), fun v _ => v = (.bool (!(pV (l'.take (3 + n)) == l4)))] [0, 1, 2, 3, 4, 5, 6, 7, 8, 9, 10, 11, 12, 13] (true, [([], []), ([], []), ([], []), ([0, 1, 2], [0, 1, 2]), ([3], [3]), ([4], [4]), ([5, 5], [5]), ([], []), ([], []), ([], []), ([9], [9]), ([7, 8, 10], [7, 8, 10]), ([6, 11, 6], [6, 11]), ([12], [12])]) [0, 0, 0, 7, 15, 31, 63, 0, 0, 0, 512, 1920, 4095, 8191] (by kernel_rfl) (by kernel_rfl) (by kernel_rfl) (by kernel_rfl) (by kernel_rfl) (by kernel_rfl) (by kernel_rfl) (by rfl) (by kernel_rfl) ?_ ?_ ?_
      ·exact (iP (jO _) (iP (jO _) (iP (jO _) (iP (jO _) (iP (jh2 _ _ _) (iP (jO _) (iP (ji0 _) (iP (jO _) (iP (jO _) (iP (jO _) (iP (jO _) (iP (jO _) (iP (jO _) (iP (jO _) uV))))))))))))))
      ·refine iI ?_ ?_
       ·intro a w' vs hB hel hd
        have e4 : a.tmps[4]? = some (.slice (some ad) l'.length (c - k)) := (hel 4 (by kernel_rfl)).trans (by rfl)
        refine ⟨_, rfl, rfl, fun K hK => ?_⟩
        refine iY (w1 := w') (v := .slice (some ad) l'.length (c - k)) (by rfl) rfl ?_ (hK _ _ (by exact rfl) (Below.refl _ _))
        ·go_simp
         (try simp only [iR, iQ])
         (try rfl)
         (try (unfold Go.RowKit.wrap64; omega))
       refine iI ?_ ?_
       ·intro a w' vs hB hel hd
        have e6 : a.tmps[6]? = some (.int .i64 (3 + (n : Int))) := (hel 6 (by kernel_rfl)).trans (by rfl)
        refine ⟨_, rfl, rfl, fun K hK => ?_⟩
        refine iY (w1 := w') (v := .int .i64 (3 + (n : Int))) (by rfl) rfl ?_ (hK _ _ (by exact rfl) (Below.refl _ _))
        ·go_simp
         (try simp only [iR, iQ])
         (try rfl)
         (try (unfold Go.RowKit.wrap64; omega))
       refine iI ?_ ?_
       ·intro a w' vs hB hel hd
        have e6 : a.tmps[6]? = some (.int .i64 (3 + (n : Int))) := (hel 6 (by kernel_rfl)).trans (by rfl)
        refine ⟨_, rfl, rfl, fun K hK => ?_⟩
        refine iY (w1 := w') (v := .int .i64 (3 + (n : Int))) (by rfl) rfl ?_ (hK _ _ (by exact rfl) (Below.refl _ _))
        ·go_simp
         (try simp only [iR, iQ])
         (try rfl)
         (try (unfold Go.RowKit.wrap64; omega))
       refine iI ?_ ?_
       ·intro a w' vs hB hel hd
        obtain ⟨f40, r40⟩ := hd 0 (by kernel_rfl)
        have e40 : a.tmps[40]? = some (.slice (some ad) l'.length (c - k)) := f40.trans (congrArg some (r40 : vs 0 = (.slice (some ad) l'.length (c - k))))
        obtain ⟨f41, r41⟩ := hd 1 (by kernel_rfl)
        have e41 : a.tmps[41]? = some (.int .i64 (3 + (n : Int))) := f41.trans (congrArg some (r41 : vs 1 = (.int .i64 (3 + (n : Int)))))
        obtain ⟨f42, r42⟩ := hd 2 (by kernel_rfl)
        have e42 : a.tmps[42]? = some (.int .i64 (3 + (n : Int))) := f42.trans (congrArg some (r42 : vs 2 = (.int .i64 (3 + (n : Int)))))
        refine ⟨_, rfl, rfl, fun K hK => ?_⟩
        refine iY (w1 := w') (v := .slice (some ad) (3 + n) (3 + n)) (by rfl) rfl ?_ (hK _ _ (by exact rfl) (Below.refl _ _))
        ·go_simp
         (try simp only [iR, iQ])
         (try rfl)
         (try (unfold Go.RowKit.wrap64; omega))
       refine iI ?_ ?_
       ·intro a w' vs hB hel hd
        obtain ⟨f43, r43⟩ := hd 3 (by kernel_rfl)
        have e43 : a.tmps[43]? = some (.slice (some ad) (3 + n) (3 + n)) := f43.trans (congrArg some (r43 : vs 3 = (.slice (some ad) (3 + n) (3 + n))))
        refine ⟨_, rfl, rfl, fun K hK => ?_⟩
        refine iY (w1 := w'.alloc (.cells #[.slice (some ad) (3 + n) (3 + n)] 22)) (v := .slice (some ⟨w'.heap.size, 0, none⟩) 1 1) (by rfl) rfl ?_ (hK _ _ (by exact ⟨w'.heap.size, rfl, iO rfl⟩) (iD (Below.refl _ _) _))
        ·go_simp
         (try rfl)
       refine iI ?_ ?_
       ·intro a w' vs hB hel hd
        obtain ⟨f44, r44⟩ := hd 4 (by kernel_rfl)
        obtain ⟨b4_, hv4_, hb4_⟩ := (r44 : (RLit 1 #[.slice (some ad) (3 + n) (3 + n)] 22) (vs 4) w')
        have e44 : a.tmps[44]? = some (.slice (some ⟨b4_, 0, none⟩) 1 1) := f44.trans (congrArg some hv4_)
        refine ⟨_, rfl, rfl, fun K hK => ?_⟩
        refine qL Tryz.func69 (by kernel_rfl) rfl #[.slice (some ⟨b4_, 0, none⟩) 1 1] (by rfl) rfl rfl (by first | (simp only [List.map_toArray, List.map_cons, List.map_nil, Act.eval, Array.getD_eq_getD_getElem?, Option.getD_some, e44]; done) | (simp only [List.map_toArray, List.map_cons, List.map_nil, Act.eval, Array.getD_eq_getD_getElem?, Option.getD_some, e44]; rfl)) ?_
        refine (UV [l'.take (3 + n)] hb4_ rfl (by simp) (Cs.cons (Kd.C_below hC3.out (by (repeat (first | exact Below.refl _ _ | apply iD | apply iW | apply iE | apply below_bytesWorld | (refine iM ?_ (by first | assumption | omega)) | refine iF ?_ (by assumption))))) (Nat.le_refl _) (Cs.nil _))).mono ?_
        rintro e_ w2_ ⟨rfl, hb2_⟩
        exact ⟨_, rfl, hK _ _ (by exact rfl) hb2_⟩
       refine iI ?_ ?_
       ·intro a w' vs hB hel hd
        obtain ⟨f45, r45⟩ := hd 5 (by kernel_rfl)
        have e45 : a.tmps[45]? = some (.int .u32 (sumN [l'.take (3 + n)] : Int)) := f45.trans (congrArg some (r45 : vs 5 = (.int .u32 (sumN [l'.take (3 + n)] : Int))))
        refine ⟨_, rfl, rfl, fun K hK => ?_⟩
        refine qL Tryz.func67 (by kernel_rfl) rfl #[.int .u32 (sumN [l'.take (3 + n)] : Int), (Value.int IntKind.i64 4)] (by rfl) rfl rfl (by first | (simp only [List.map_toArray, List.map_cons, List.map_nil, Act.eval, Array.getD_eq_getD_getElem?, Option.getD_some, e45]; done) | (simp only [List.map_toArray, List.map_cons, List.map_nil, Act.eval, Array.getD_eq_getD_getElem?, Option.getD_some, e45]; rfl)) ?_
        refine (j4_ _ _).mono ?_
        rintro e_ w2_ ⟨v_, rfl, ho_, hb2_⟩
        exact ⟨_, rfl, hK _ _ (OB.reads ho_) hb2_⟩
       refine iI ?_ ?_
       ·intro a w' vs hB hel hd
        have e4 : a.tmps[4]? = some (.slice (some ad) l'.length (c - k)) := (hel 4 (by kernel_rfl)).trans (by rfl)
        refine ⟨_, rfl, rfl, fun K hK => ?_⟩
        refine iY (w1 := w') (v := .slice (some ad) l'.length (c - k)) (by rfl) rfl ?_ (hK _ _ (by exact rfl) (Below.refl _ _))
        ·go_simp
         (try simp only [iR, iQ])
         (try rfl)
         (try (unfold Go.RowKit.wrap64; omega))
       refine iI ?_ ?_
       ·intro a w' vs hB hel hd
        have e6 : a.tmps[6]? = some (.int .i64 (3 + (n : Int))) := (hel 6 (by kernel_rfl)).trans (by rfl)
        refine ⟨_, rfl, rfl, fun K hK => ?_⟩
        refine iY (w1 := w') (v := .int .i64 (3 + (n : Int))) (by rfl) rfl ?_ (hK _ _ (by exact rfl) (Below.refl _ _))
        ·go_simp
         (try simp only [iR, iQ])
         (try rfl)
         (try (unfold Go.RowKit.wrap64; omega))
       refine iI ?_ ?_
       ·intro a w' vs hB hel hd
        have e6 : a.tmps[6]? = some (.int .i64 (3 + (n : Int))) := (hel 6 (by kernel_rfl)).trans (by rfl)
        refine ⟨_, rfl, rfl, fun K hK => ?_⟩
        refine iY (w1 := w') (v := .int .i64 (3 + (n : Int))) (by rfl) rfl ?_ (hK _ _ (by exact rfl) (Below.refl _ _))
        ·go_simp
         (try simp only [iR, iQ])
         (try rfl)
         (try (unfold Go.RowKit.wrap64; omega))
       refine iI ?_ ?_
       ·intro a w' vs hB hel hd
        obtain ⟨f49, r49⟩ := hd 9 (by kernel_rfl)
        have e49 : a.tmps[49]? = some (.int .i64 (3 + (n : Int))) := f49.trans (congrArg some (r49 : vs 9 = (.int .i64 (3 + (n : Int)))))
        refine ⟨_, rfl, rfl, fun K hK => ?_⟩
        refine iY (w1 := w') (v := .int .i64 (3 + (n : Int) + 4)) (by rfl) rfl ?_ (hK _ _ (by exact rfl) (Below.refl _ _))
        ·go_simp
         (try simp only [iR, iQ])
         (try rfl)
         (try (unfold Go.RowKit.wrap64; omega))
       refine iI ?_ ?_
       ·intro a w' vs hB hel hd
        obtain ⟨f47, r47⟩ := hd 7 (by kernel_rfl)
        have e47 : a.tmps[47]? = some (.slice (some ad) l'.length (c - k)) := f47.trans (congrArg some (r47 : vs 7 = (.slice (some ad) l'.length (c - k))))
        obtain ⟨f48, r48⟩ := hd 8 (by kernel_rfl)
        have e48 : a.tmps[48]? = some (.int .i64 (3 + (n : Int))) := f48.trans (congrArg some (r48 : vs 8 = (.int .i64 (3 + (n : Int)))))
        obtain ⟨f50, r50⟩ := hd 10 (by kernel_rfl)
        have e50 : a.tmps[50]? = some (.int .i64 (3 + (n : Int) + 4)) := f50.trans (congrArg some (r50 : vs 10 = (.int .i64 (3 + (n : Int) + 4))))
        refine ⟨_, rfl, rfl, fun K hK => ?_⟩
        refine iY (w1 := w') (v := .slice A4 l4.length (c - k - (3 + n))) (by rfl) rfl ?_ (hK _ _ (by exact rfl) (Below.refl _ _))
        ·go_simp
         (try simp only [iR, iQ])
         (try rfl)
         (try (unfold Go.RowKit.wrap64; omega))
       refine iI ?_ ?_
       ·intro a w' vs hB hel hd
        obtain ⟨f46, r46⟩ := hd 6 (by kernel_rfl)
        obtain ⟨A6_, c6_, hv6_, hc6_, hC6_⟩ := (r46 : (RSl (pV (l'.take (3 + n)))) (vs 6) w')
        have e46 : a.tmps[46]? = some (.slice A6_ (pV (l'.take (3 + n))).length c6_) := f46.trans (congrArg some hv6_)
        obtain ⟨f51, r51⟩ := hd 11 (by kernel_rfl)
        have e51 : a.tmps[51]? = some (.slice A4 l4.length (c - k - (3 + n))) := f51.trans (congrArg some (r51 : vs 11 = (.slice A4 l4.length (c - k - (3 + n)))))
        refine ⟨_, rfl, rfl, fun K hK => ?_⟩
        refine qL Tryz.func83 (by kernel_rfl) rfl #[.slice A6_ (pV (l'.take (3 + n))).length c6_, .slice A4 l4.length (c - k - (3 + n))] (by rfl) rfl rfl (by first | (simp only [List.map_toArray, List.map_cons, List.map_nil, Act.eval, Array.getD_eq_getD_getElem?, Option.getD_some, e46, e51]; done) | (simp only [List.map_toArray, List.map_cons, List.map_nil, Act.eval, Array.getD_eq_getD_getElem?, Option.getD_some, e46, e51]; rfl)) ?_
        refine (TW A6_ A4 c6_ (c - k - (3 + n)) _ _ _ _ w' hC6_ (Kd.C_below HC4.out (by (repeat (first | exact Below.refl _ _ | apply iD | apply iW | apply iE | apply below_bytesWorld | (refine iM ?_ (by first | assumption | omega)) | refine iF ?_ (by assumption)))))).mono ?_
        rintro e_ w2_ ⟨rfl, rfl⟩
        exact ⟨_, rfl, hK _ _ (by exact rfl) (Below.refl _ _)⟩
       refine iI ?_ ?_
       ·intro a w' vs hB hel hd
        obtain ⟨f52, r52⟩ := hd 12 (by kernel_rfl)
        have e52 : a.tmps[52]? = some (.bool (pV (l'.take (3 + n)) == l4)) := f52.trans (congrArg some (r52 : vs 12 = (.bool (pV (l'.take (3 + n)) == l4))))
        refine ⟨_, rfl, rfl, fun K hK => ?_⟩
        refine iY (w1 := w') (v := .bool (!(pV (l'.take (3 + n)) == l4))) (by rfl) rfl ?_ (hK _ _ (by exact rfl) (Below.refl _ _))
        ·go_simp
         (try simp only [iR, iQ])
         (try rfl)
         (try (unfold Go.RowKit.wrap64; omega))
       exact oG
      ·intro vs w' hB hR
       have hv0_ : vs 0 = (.slice (some ad) l'.length (c - k)) := hR 0 (by kernel_rfl)
       have hv1_ : vs 1 = (.int .i64 (3 + (n : Int))) := hR 1 (by kernel_rfl)
       have hv2_ : vs 2 = (.int .i64 (3 + (n : Int))) := hR 2 (by kernel_rfl)
       have hv3_ : vs 3 = (.slice (some ad) (3 + n) (3 + n)) := hR 3 (by kernel_rfl)
       obtain ⟨b4_, hv4_, hb4_⟩ := (hR 4 (by kernel_rfl) : (RLit 1 #[.slice (some ad) (3 + n) (3 + n)] 22) (vs 4) w')
       have hv5_ : vs 5 = (.int .u32 (sumN [l'.take (3 + n)] : Int)) := hR 5 (by kernel_rfl)
       obtain ⟨A6_, c6_, hv6_, hc6_, hC6_⟩ := (hR 6 (by kernel_rfl) : (RSl (pV (l'.take (3 + n)))) (vs 6) w')
       have hv7_ : vs 7 = (.slice (some ad) l'.length (c - k)) := hR 7 (by kernel_rfl)
       have hv8_ : vs 8 = (.int .i64 (3 + (n : Int))) := hR 8 (by kernel_rfl)
       have hv9_ : vs 9 = (.int .i64 (3 + (n : Int))) := hR 9 (by kernel_rfl)
       have hv10_ : vs 10 = (.int .i64 (3 + (n : Int) + 4)) := hR 10 (by kernel_rfl)
       have hv11_ : vs 11 = (.slice A4 l4.length (c - k - (3 + n))) := hR 11 (by kernel_rfl)
       have hv12_ : vs 12 = (.bool (pV (l'.take (3 + n)) == l4)) := hR 12 (by kernel_rfl)
       have hv13_ : vs 13 = (.bool (!(pV (l'.take (3 + n)) == l4))) := hR 13 (by kernel_rfl)
       rw [show entries [40, 41, 42, 43, 44, 45, 46, 47, 48, 49, 50, 51, 52, 53] vs = [(0, 40, vs 0), (1, 41, vs 1), (2, 42, vs 2), (3, 43, vs 3), (4, 44, vs 4), (5, 45, vs 5), (6, 46, vs 6), (7, 47, vs 7), (8, 48, vs 8), (9, 49, vs 9), (10, 50, vs 10), (11, 51, vs 11), (12, 52, vs 12), (13, 53, vs 13)] from rfl]
       simp only [jV, if_true, Act.put, List.setIfInBounds_toArray, List.set_cons_zero, List.set_cons_succ, hv0_, hv1_, hv2_, hv3_, hv4_, hv5_, hv6_, hv7_, hv8_, hv9_, hv10_, hv11_, hv12_, hv13_]
       clear hR hv0_ hv1_ hv2_ hv3_ hv5_ hv7_ hv8_ hv9_ hv10_ hv11_ hv12_ hv13_
       have hB6 : Below wr.heap.size wr w' := by (repeat (first | exact Below.refl _ _ | apply iD | apply iW | apply iE | apply below_bytesWorld | (refine iM ?_ (by first | assumption | omega)) | refine iF ?_ (by assumption)))
       have hfa := TS l' (by omega) (by rw [← HNE.out]; omega) (by rw [← HNE.out]; omega)
       rw [← HNE.out, ← HL4.out, ← HXX.out] at hfa
       obtain ⟨q, hq⟩ : ∃ q, q = (pV (l'.take (3 + n)) == l4) := ⟨_, rfl⟩
       rw [← hq] at hfa ⊢
       have HFA := iC.mk hfa
       clear hfa hq
       cases q with
       | false =>
        have HF := iC.mk (show lC l' = none from HFA.out)
        gi_wp2
        refine bodyPost_ret (results_none rfl _ _ _) rfl ?_
        exact ⟨⟨_, rfl⟩, xs, ⟨by rw [HS.out, lD HF.out, List.append_nil], by rw [HK.out, HS.out, lD HF.out, List.append_nil, HE.out]⟩, hJb _ _ _ HJ.out hB6⟩
       | true =>
        have HF := iC.mk (show lC l' = some x from HFA.out)
        gi_wp2
        refine ⟨trivial, (fun h => by cases h), ?_⟩
        refine (callsIn_wide.2 (JG A1 (c - k - 3) x w' (Kd.C_below HC1.out hB6) hxc hx60)).mono ?_
        rintro e_ w5 ⟨v5, rfl, ho5, hb5⟩
        obtain ⟨A5, c5, rfl, hc5, hC5⟩ := ho5.reads
        clear hC5
        have hB7 : Below wr.heap.size wr w5 := iF hB6 hb5
        have hlow : w0.heap.size ≤ w'.heap.size := Nat.le_trans hszr hB6.size
        have hszt : w0.heap.size ≤ w5.heap.size := Nat.le_trans hszr hB7.size
        have hcast : ((k + (3 + n + 4) : Nat) : Int) = (k : Int) + (3 + (n : Int) + 4) := by omega
        obtain ⟨fn, tmps, assign, body, hy, hR⟩ := hY xs (k + (3 + n + 4), .slice A5 x.length c5, x) w5 (hJb _ _ _ HJ.out hB7) (ho5.lower hlow) (by have := jf_ xs; rw [HE.out] at this; omega)
        simp only [encF, hcast] at hy
        clear ho5 hcast
        gi_wp2
        refine ⟨(fun h => by cases h), hR.mono ?_⟩
        rintro e_ W6 ⟨rfl, hJ6, hk6, hk6'⟩
        have HJ6 := iC.mk hJ6
        have hlast : jY l = frs xs ++ x :: jY (l.drop (k + (3 + n + 4))) := by
         have hxl := HXL.out
         rw [HS.out, qE HF.out, HL'.out, List.drop_drop, show x.length + 7 = 3 + n + 4 from by omega]
        have HLAST := iC.mk hlast
        have hBt : W6.heap[B]? = some (.cells #[.slice A l.length c] e fz) := hk6'.trans (iJ hB7 hBr)
        have hBW6 := iC.mk ((HB.out.trans (hB7.mono HB.out.size)).trans hk6)
        have hszu : w0.heap.size ≤ W6.heap.size := Nat.le_trans hszt hk6.size
        clear hJ6 hlast hk6 hk6'
        gi_wp2
        go_roundw
        case rel => exact ⟨k + (3 + n + 4), xs ++ [(k + (3 + n + 4), .slice A5 x.length c5, x)], by go_num, by have := HLL.out; omega, ⟨by rw [LJ, HLAST.out, List.append_assoc]; rfl⟩, ⟨by rw [LJ, qX, HE.out, rP]; show k + (x.length + 7 + 0) = _; have := HXL.out; omega⟩, ⟨JE _ _⟩, HJ6, hBW6, hszu, hBt⟩
        case measure => simp [intOf]; try omega
  ·have h7' : l'.length < 7 := by have := HLI.out; omega
   have hf : lC l' = none := by unfold lC; rw [if_pos h7']
   have HF := iC.mk hf
   clear hf h7'
   gi_wp2
   go_end0
   exact ⟨⟨_, rfl⟩, xs, ⟨by rw [HS.out, lD HF.out, List.append_nil], by rw [HK.out, HS.out, lD HF.out, List.append_nil, HE.out]⟩, HJ.out⟩
end Go.Proofs.YtgfkgppomaapiaaGreatDoor.My
end
