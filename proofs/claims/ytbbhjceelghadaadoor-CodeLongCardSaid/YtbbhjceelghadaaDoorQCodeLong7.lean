/- Parts of the proof, one behind the other: CodeD, MakeP, CodeN, Came, CameR, K2, K59, LawLong. -/
import Derived.Test.YtbbhjceelghadaaDoorQCodeLong6
import Derived.Test.YtbbhjceelghadaaDoorProg
import Derived.Below
import Derived.Deep.Draws
import Derived.Deep.AppendLies
import Derived.Maps.AppendAt
import Derived.OwnWalk
import Derived.Laws.BytesArg
import Derived.Laws.MakeOwn
import Derived.Laws.OwnMore
import Derived.Deep.OwnRows
import Derived.Tactics
import Derived.Lib.ConvBytes
import Derived.Laws.Slices
import Derived.WalkKit
import Derived.KernelRfl
import Derived.RowKit3
import Derived.Deep.LoopGhost
import Derived.Deep.QuietTactic
import Derived.BigQuiet
import Derived.WideLaws
import Derived.Deep.DeepCutAuto
import Derived.Deep.CutBlock
import Derived.Deep.RegionHeld3
import Derived.Laws.Rows
import Derived.Lib.AppendStr
import Derived.ArgAppend
import Derived.Laws.IdiomCopy
import Derived.OrdersHeld
import Derived.Laws.BitsLemmas
import Derived.RowKit
import Derived.WalkSpells
import Derived.WalkLawsBesides
import Derived.RegionTactic
import Derived.ChangeAlike
import Derived.Lib.Hide
import Derived.Lib.SlBytesConst
import Derived.Shelf.LaysM
import Derived.Shelf.Bytes.Len
import Derived.Shelf.Bytes.TryGrow
import Derived.Shelf.Bytes.GrowSliceCatch
import Derived.Shelf.Bytes.GrowSlice
import Derived.Shelf.Bytes.Bytes
import Derived.Shelf.Bytes.GrowRow0Kept
import Derived.Shelf.Bytes.GrowRowKept
import Derived.Shelf.Bytes.GrowNilKept
import Derived.Shelf.Bytes.GrowKept
import Derived.Shelf.Bytes.WriteByteKept
import Derived.Shelf.Bytes.LenAt
import Derived.Shelf.Bytes.TryGrowAt
import Derived.Shelf.Bytes.GrowRow0At
import Derived.Shelf.Bytes.GrowRowAt
import Derived.Shelf.Bytes.GrowNilAt
import Derived.Shelf.Bytes.GrowAt
import Derived.Shelf.Bytes.WriteAt
import Derived.Ground.SlbCloneProg
import Derived.Shelf.Bytes.SlClone
import Derived.Shelf.Abstract
import Derived.Laws.ResultCell
import Derived.Lib.OthersKept
import Derived.Lib.BufferKept
import Derived.Lib.BufferWrite
import Derived.Recover
import Derived.Defers
import Derived.Lib.BufferMore
import Derived.Deep.WholeRow
import Derived.Laws.Tables
import Derived.Laws.StructEq
import Derived.Test.YtbbhjceelghadaaDoorRows
import Derived.Deep.Slices
import Derived.ChangeSame
import Derived.ProofKit
import Derived.OpenShut
import Derived.ShutString
import Derived.ChangeOld
import Derived.SizedLaws
import Derived.ChangeSlices
set_option linter.unusedVariables false
set_option linter.unusedSimpArgs false
section
-- from CodeD
namespace Go.Proofs.YtbbhjceelghadaaDoor.K
open Go Go.RowKit Go.Proofs.YtbbhjceelghadaaDoorW.PrintWords Go.Proofs.YtbbhjceelghadaaDoorW.PrintLast Go.Proofs.YtbbhjceelghadaaDoorW.PrintMore Go.Proofs.YtbbhjceelghadaaDoor.My
def zeroRec : SRec := ⟨0, 0, 0, [], [], ⟨0, []⟩, 0, 0, []⟩
/-- The bytes of numbers. -/
def bytesOf (l0 : List Int) : List UInt8 := l0.map fun x => UInt8.ofNat x.toNat
def decR (l : List UInt8) : SRec × Int := if 60000 < l.length then (zeroRec, 3) else match recP l with | none => (zeroRec, 70) | some (x, _) => if encR x = (nums l, 0) then (x, 0) else (zeroRec, 70)
def flatR (r : SRec × Int) : Int × Int × Int × List Int × List SFact × Int × List SSpan × Int × Int × List SEntry × Int := (r.1.f0, r.1.f1, r.1.f2, r.1.f3, r.1.f4, r.1.f5.f0, r.1.f5.f1, r.1.f6, r.1.f7, r.1.f8, r.2)
theorem bytesOf_nums (l : List UInt8) : bytesOf (nums l) = l := by
  unfold bytesOf nums
  rw [List.map_map]
  conv => rhs; rw [← List.map_id l]
  apply List.map_congr_left
  intro b _
  simp
theorem nums_inj {l m : List UInt8} (h : nums l = nums m) : l = m := by rw [← bytesOf_nums l, h, bytesOf_nums]
theorem kb_of_ints {w : World} {A : Option Addr} {n : Nat} {l : List UInt8} (h : (Kd.int .u8).C w A n (nums l)) : kb.C w A n l := by
  refine ⟨by rw [← nums_len]; exact h.1, h.2.1, fun hn => ?_⟩
  obtain ⟨ad, e, hc⟩ := h.2.2 hn
  refine ⟨ad, e, fun j p hj => ?_⟩
  obtain ⟨c, h1, h2, h3⟩ := hc j (p.toNat : Int) (by unfold nums; rw [List.getElem?_map, hj]; rfl)
  exact ⟨c, h1, h2, h3⟩
theorem equal_nums (l m : List UInt8) : ((strOfNums (nums l)).toList == (strOfNums (nums m)).toList) = decide (l = m) := by
  unfold nums
  rw [str_of_nums, str_of_nums, bs_list, bs_list]
  by_cases h : l = m
  · subst h; simp
  · simp [h]
theorem encR_cases (x : SRec) : encR x = ([], 1) ∨ encR x = ([], 3) ∨ encR x = (nums (recE x), 0) := by
  unfold encR
  split
  · split
    · exact .inr (.inl rfl)
    · exact .inr (.inr rfl)
  · exact .inl rfl
def DecPost (w : World) (r : SRec × Int) (e : Ending) (w' : World) : Prop := ∃ v, e = .returned (.tuple #[v, .int .u16 r.2]) ∧ RecV w.heap.size r.1 v w' ∧ Below w.heap.size w w'
theorem dec_bad (w w' : World) (c : Int) (h : Below w.heap.size w w') : DecPost w (zeroRec, c) (.returned (.tuple #[.agg #[.int .u8 0, .int .u32 0, .int .u32 0, .slice none 0 0, .slice none 0 0, .int .u32 0, .slice none 0 0, .int .i64 0, .int .i64 0, .slice none 0 0], .int .u16 c])) w' :=
  ⟨_, rfl, ⟨_, _, _, _, rfl, Kd.R_nil _ _ _ _ _, Kd.R_nil _ _ _ _ _, Kd.R_nil _ _ _ _ _, Kd.R_nil _ _ _ _ _⟩, h⟩
theorem RecV_below {base : Nat} {x : SRec} {v : Value} {w w' : World} (h : RecV base x v w) (hb : Below w.heap.size w w') : RecV base x v w' := by
  obtain ⟨v3, v4, v6, v9, rfl, h3, h4, h6, h9⟩ := h
  exact ⟨v3, v4, v6, v9, rfl, Kd.R_below h3 hb, Kd.R_below h4 hb, Kd.R_below h6 hb, Kd.R_below h9 hb⟩
theorem res_dec {tmps : Array Value} {W : World} {p u : Tmp} {b : Nat} {cs : Array Value} {x : Value} (h : Tryd.f44.results = #[.cell p 57, .tmp u]) (hp : tmps.getD p undef = .pointer (some ⟨b, 0, none⟩)) (hu : tmps.getD u undef = x) (hx : W.heap[b]? = some (.cells cs 57 (0, 0))) (hs : cs.size = 10) :
    (results Tryd.f44 tmps).run Tryd.prog W = .ok (.tuple #[.agg cs, x]) W := by
  have h1 := run_loadVar_row (P := Tryd.prog) W b 57 57 cs (0, 0) _ hx Tryd.underlying57 rfl (by rw [hs]; kernel_rfl)
  rw [results_cell_tmp h, hp, hu]
  simp [asAddr, h1, Result.andThen]
theorem st_zero {w : World} {b : Nat} (h : w.heap[b]? = some (.cells #[.int .u8 0, .int .u32 0, .int .u32 0, .slice none 0 0, .slice none 0 0, .int .u32 0, .slice none 0 0, .int .i64 0, .int .i64 0, .slice none 0 0] 57 (0, 0))) : (Instr.storeAt 57 (.pointer (some ⟨b, 0, none⟩)) (.agg #[.int .u8 0, .int .u32 0, .int .u32 0, .slice none 0 0, .slice none 0 0, .int .u32 0, .slice none 0 0, .int .i64 0, .int .i64 0, .slice none 0 0])).run Tryd.prog w = .ok () (w.setRow b #[.int .u8 0, .int .u32 0, .int .u32 0, .slice none 0 0, .slice none 0 0, .int .u32 0, .slice none 0 0, .int .i64 0, .int .i64 0, .slice none 0 0]) := st_rec (a := 0) (k := 0) (i := 0) (x3 := .slice none 0 0) (x4 := .slice none 0 0) (j := 0) (x6 := .slice none 0 0) (p := 0) (q := 0) (x9 := .slice none 0 0) h rfl rfl rfl rfl
theorem bad_end (w W : World) (h : Below w.heap.size w W) (c : Int) : DecPost w (zeroRec, c) (.returned (.tuple #[.agg #[.int .u8 0, .int .u32 0, .int .u32 0, .slice none 0 0, .slice none 0 0, .int .u32 0, .slice none 0 0, .int .i64 0, .int .i64 0, .slice none 0 0], .int .u16 c])) (W.setRow w.heap.size #[.int .u8 0, .int .u32 0, .int .u32 0, .slice none 0 0, .slice none 0 0, .int .u32 0, .slice none 0 0, .int .i64 0, .int .i64 0, .slice none 0 0]) :=
  dec_bad w _ c (below_grown h (grown_row W w.heap.size _) (Nat.le_refl _) (Nat.le_refl _))
attribute [-go_sem] Instr.build Instr.storeAt Instr.loadAt
attribute [local go_sem] bu_none
set_option maxRecDepth 20000 in
set_option maxHeartbeats 8000000 in
theorem decode_any (A : Option Addr) (c : Nat) (l : List UInt8) (w : World) (hCi : (Kd.int .u8).C w A l.length (nums l)) (hc : l.length ≤ c) :
    Calls Tryd.prog 44 #[.slice A l.length c] w (DecPost w (decR l)) := by
  obtain ⟨Wa, hWa⟩ : ∃ Wa, Wa = w.alloc (.cells #[.int .u8 0, .int .u32 0, .int .u32 0, .slice none 0 0, .slice none 0 0, .int .u32 0, .slice none 0 0, .int .i64 0, .int .i64 0, .slice none 0 0] 57) := ⟨_, rfl⟩
  have HWA := Aside0.mk hWa
  have hBa : Below w.heap.size w Wa := by rw [hWa]; exact below_alloc (Below.refl _ _) _
  have HXA := Aside0.mk (show Wa.heap[w.heap.size]? = some (.cells #[.int .u8 0, .int .u32 0, .int .u32 0, .slice none 0 0, .slice none 0 0, .int .u32 0, .slice none 0 0, .int .i64 0, .int .i64 0, .slice none 0 0] 57 (0, 0)) from by rw [hWa]; exact heap_new' rfl)
  have HBA := Aside0.mk hBa
  have HLT := Aside0.mk (blk_lt HXA.out)
  have HCI := Aside0.mk (Kd.C_below hCi hBa)
  have HC := Aside0.mk (kb_of_ints HCI.out)
  clear hCi hWa hBa
  unfold decR
  by_cases hl : 60000 < l.length
  · rw [if_pos hl]
    have hst := fun (_ : True) => st_zero (show (w.alloc (.cells #[.int .u8 0, .int .u32 0, .int .u32 0, .slice none 0 0, .slice none 0 0, .int .u32 0, .slice none 0 0, .int .i64 0, .int .i64 0, .slice none 0 0] 57)).heap[w.heap.size]? = _ from heap_new' rfl)
    go_enter Tryd.func44, Tryd.ntmps44
    go_wp2
    ((try simp only [Exit.inBlock, Exit.then]); exact bodyPost_ret (res_dec rfl rfl rfl (setRow_heap _ _ _ _ _ _ (heap_new' rfl)) rfl) rfl (bad_end w _ (below_alloc (Below.refl _ _) _) 3))
  · rw [if_neg hl]
    have hcall := tried_any A c l Wa HC.out hc (by omega)
    cases hp : recP l with
    | none =>
      go_enter Tryd.func44, Tryd.ntmps44
      go_wp2_with fail
      rw [← HWA.out]
      refine hcall.mono ?_
      rintro e w1 ⟨hB, hor⟩
      rcases hor.symm with ⟨_, rfl⟩ | ⟨x, r, v, h, _⟩
      case inr => rw [hp] at h; cases h
      have HX := Aside0.mk ((hB.block _ HLT.out).trans HXA.out)
      have HB := Aside0.mk (HBA.out.trans (hB.mono HBA.out.size))
      have hst := fun (_ : True) => st_zero (show (w1.alloc (.cells #[.int .u8 0, .int .u32 0, .int .u32 0, .slice none 0 0, .slice none 0 0, .int .u32 0, .slice none 0 0, .int .i64 0, .int .i64 0, .slice none 0 0] 57)).heap[w.heap.size]? = _ from heap_old' HX.out)
      have hsx := fun (_ : True) => run_storeAt_new (P := Tryd.prog) w1 57 #[.int .u8 0, .int .u32 0, .int .u32 0, .slice none 0 0, .slice none 0 0, .int .u32 0, .slice none 0 0, .int .i64 0, .int .i64 0, .slice none 0 0] #[.int .u8 0, .int .u32 0, .int .u32 0, .slice none 0 0, .slice none 0 0, .int .u32 0, .slice none 0 0, .int .i64 0, .int .i64 0, .slice none 0 0] (by kernel_rfl) rfl (by simp [Value.oneCell'])
      clear hp hcall hB hor
      go_wp2
      ((try simp only [Exit.inBlock, Exit.then]); exact bodyPost_ret (res_dec rfl rfl rfl (setRow_heap _ _ _ _ _ _ (heap_old' HX.out)) rfl) rfl (bad_end w _ (below_alloc HB.out _) 70))
    | some y =>
      obtain ⟨x, r⟩ := y
      obtain ⟨D, hD⟩ : ∃ D : SRec × Int, D = (if encR x = (nums l, 0) then (x, 0) else (zeroRec, 70)) := ⟨_, rfl⟩
      show Calls _ _ _ _ (DecPost w (if encR x = (nums l, 0) then (x, 0) else (zeroRec, 70)))
      rw [← hD]
      have HDD := Aside0.mk hD
      clear hD
      go_enter Tryd.func44, Tryd.ntmps44
      go_wp2_with fail
      rw [← HWA.out]
      refine hcall.mono ?_
      rintro e w1 ⟨hB, hor⟩
      rcases hor.symm with ⟨h, _⟩ | ⟨x', r', v, h, rfl, hv⟩
      case inl => rw [hp] at h; cases h
      rw [hp] at h
      injection h with h
      injection h with e1 e2
      subst e1
      subst e2
      clear hp hcall hor
      have HX := Aside0.mk ((hB.block _ HLT.out).trans HXA.out)
      have HB := Aside0.mk (HBA.out.trans (hB.mono HBA.out.size))
      have HCB0 := Aside0.mk (Kd.C_below HCI.out hB)
      obtain ⟨v3, v4, v6, v9, rfl, h3, h4, h6, h9⟩ := hv
      obtain ⟨A3, d3, rfl⟩ := Kd.R_slice h3
      obtain ⟨A4, d4, rfl⟩ := Kd.R_slice h4
      obtain ⟨A6, d6, rfl⟩ := Kd.R_slice h6
      obtain ⟨A9, d9, rfl⟩ := Kd.R_slice h9
      have hbw : Below w1.heap.size w1 (w1.alloc (.cells #[.int .u8 x.f0, .int .u32 x.f1, .int .u32 x.f2, .slice A3 x.f3.length d3, .slice A4 x.f4.length d4, .int .u32 x.f5.f0, .slice A6 x.f5.f1.length d6, .int .i64 x.f6, .int .i64 x.f7, .slice A9 x.f8.length d9] 57)) := below_alloc (Below.refl _ _) _
      have HV := Aside0.mk (RecV_below (show RecV Wa.heap.size x _ w1 from ⟨_, _, _, _, rfl, h3, h4, h6, h9⟩) hbw)
      have HX0 := HX
      have HX := Aside0.mk (show (w1.alloc (.cells #[.int .u8 x.f0, .int .u32 x.f1, .int .u32 x.f2, .slice A3 x.f3.length d3, .slice A4 x.f4.length d4, .int .u32 x.f5.f0, .slice A6 x.f5.f1.length d6, .int .i64 x.f6, .int .i64 x.f7, .slice A9 x.f8.length d9] 57)).heap[w.heap.size]? = _ from heap_old' HX0.out)
      have HB := Aside0.mk (show Below w.heap.size w (w1.alloc (.cells #[.int .u8 x.f0, .int .u32 x.f1, .int .u32 x.f2, .slice A3 x.f3.length d3, .slice A4 x.f4.length d4, .int .u32 x.f5.f0, .slice A6 x.f5.f1.length d6, .int .i64 x.f6, .int .i64 x.f7, .slice A9 x.f8.length d9] 57)) from below_alloc HB.out _)
      have HCB := Aside0.mk (Kd.C_below HCB0.out hbw)
      have HXX := Aside0.mk (show (w1.alloc (.cells #[.int .u8 x.f0, .int .u32 x.f1, .int .u32 x.f2, .slice A3 x.f3.length d3, .slice A4 x.f4.length d4, .int .u32 x.f5.f0, .slice A6 x.f5.f1.length d6, .int .i64 x.f6, .int .i64 x.f7, .slice A9 x.f8.length d9] 57)).heap[w1.heap.size]? = some (.cells #[.int .u8 x.f0, .int .u32 x.f1, .int .u32 x.f2, .slice A3 x.f3.length d3, .slice A4 x.f4.length d4, .int .u32 x.f5.f0, .slice A6 x.f5.f1.length d6, .int .i64 x.f6, .int .i64 x.f7, .slice A9 x.f8.length d9] 57 (0, 0)) from heap_new' rfl)
      have h3 := Kd.R_below h3 hbw
      have h4 := Kd.R_below h4 hbw
      have h6 := Kd.R_below h6 hbw
      have h9 := Kd.R_below h9 hbw
      have hsx := fun (_ : True) => run_storeAt_new (P := Tryd.prog) w1 57 #[.int .u8 0, .int .u32 0, .int .u32 0, .slice none 0 0, .slice none 0 0, .int .u32 0, .slice none 0 0, .int .i64 0, .int .i64 0, .slice none 0 0] #[.int .u8 x.f0, .int .u32 x.f1, .int .u32 x.f2, .slice A3 x.f3.length d3, .slice A4 x.f4.length d4, .int .u32 x.f5.f0, .slice A6 x.f5.f1.length d6, .int .i64 x.f6, .int .i64 x.f7, .slice A9 x.f8.length d9] (by kernel_rfl) rfl (by simp [Value.oneCell'])
      have hlx := fun (_ : True) => ld_rec HXX.out rfl
      obtain ⟨_, q3, C3⟩ := Kd.R_reads' h3
      obtain ⟨_, q4, C4⟩ := Kd.R_reads' h4
      obtain ⟨_, q6, C6⟩ := Kd.R_reads' h6
      obtain ⟨_, q9, C9⟩ := Kd.R_reads' h9
      have hcall := fun r1 r2 (h : encR x = (r1, r2)) => code_Encode.calls x.f0 x.f1 x.f2 A3 d3 x.f3 A4 d4 x.f4 x.f5.f0 A6 d6 x.f5.f1 x.f6 x.f7 A9 d9 x.f8 r1 r2 (w1.alloc (.cells #[.int .u8 x.f0, .int .u32 x.f1, .int .u32 x.f2, .slice A3 x.f3.length d3, .slice A4 x.f4.length d4, .int .u32 x.f5.f0, .slice A6 x.f5.f1.length d6, .int .i64 x.f6, .int .i64 x.f7, .slice A9 x.f8.length d9] 57)) C3 q3 C4 q4 C6 q6 C9 q9 (congrArg some h)
      clear h3 h4 h6 h9 C3 C4 C6 C9 q3 q4 q6 q9 hB hbw HX0 HCB0
      rcases encR_cases x with he | he | he
      · have hcall := hcall _ _ he
        have HNE := Aside0.mk (show ¬ encR x = (nums l, 0) from by rw [he]; intro h; injection h with h1 h2; cases h2)
        clear he
        go_wp2_with fail
        refine hcall.mono ?_
        rintro e w2 ⟨v0, rfl, h0, hB2⟩
        have HX2 := Aside0.mk ((hB2.block _ (blk_lt HX.out)).trans HX.out)
        have HB3 := Aside0.mk (HB.out.trans (hB2.mono HB.out.size))
        have hst := fun (_ : True) => st_zero HX2.out
        clear hB2 hcall h0
        go_wp2
        ((try simp only [Exit.inBlock, Exit.then]); exact bodyPost_ret (res_dec rfl rfl rfl (setRow_heap _ _ _ _ _ _ HX2.out) rfl) rfl (by rw [HDD.out, if_neg HNE.out]; exact bad_end w _ HB3.out 70))
      · have hcall := hcall _ _ he
        have HNE := Aside0.mk (show ¬ encR x = (nums l, 0) from by rw [he]; intro h; injection h with h1 h2; cases h2)
        clear he
        go_wp2_with fail
        refine hcall.mono ?_
        rintro e w2 ⟨v0, rfl, h0, hB2⟩
        have HX2 := Aside0.mk ((hB2.block _ (blk_lt HX.out)).trans HX.out)
        have HB3 := Aside0.mk (HB.out.trans (hB2.mono HB.out.size))
        have hst := fun (_ : True) => st_zero HX2.out
        clear hB2 hcall h0
        go_wp2
        ((try simp only [Exit.inBlock, Exit.then]); exact bodyPost_ret (res_dec rfl rfl rfl (setRow_heap _ _ _ _ _ _ HX2.out) rfl) rfl (by rw [HDD.out, if_neg HNE.out]; exact bad_end w _ HB3.out 70))
      · have hcall := hcall _ _ he
        have HE := Aside0.mk he
        clear he
        go_wp2_with fail
        refine hcall.mono ?_
        rintro e w2 ⟨v0, rfl, h0, hB2⟩
        clear hcall
        obtain ⟨A0, d0, rfl⟩ := Kd.R_slice h0
        obtain ⟨_, q0, C0⟩ := Kd.R_reads' h0
        have HX2 := Aside0.mk ((hB2.block _ (blk_lt HX.out)).trans HX.out)
        have HB3 := Aside0.mk (HB.out.trans (hB2.mono HB.out.size))
        have HV2 := Aside0.mk (RecV_below HV.out hB2)
        have HXX2 := Aside0.mk ((hB2.block _ (blk_lt HXX.out)).trans HXX.out)
        have hcall := bytes_Equal.calls A0 d0 (nums (recE x)) A c (nums l) _ w2 C0 q0 (by rw [nums_len]; exact Kd.C_below HCB.out hB2) (by rw [nums_len]; exact hc) rfl
        rw [equal_nums, nums_len l] at hcall
        clear C0 h0 hB2 q0
        by_cases hq : recE x = l
        · rw [decide_eq_true hq] at hcall
          have HEQ := Aside0.mk (show encR x = (nums l, 0) from by rw [HE.out, hq])
          clear hq
          go_wp2_with fail
          refine hcall.mono ?_
          rintro e w3 ⟨rfl, hD⟩
          have HX3 := Aside0.mk ((hD.below.block _ (blk_lt HX2.out)).trans HX2.out)
          have HB4 := Aside0.mk (HB3.out.trans (hD.below.mono HB3.out.size))
          have HV3 := Aside0.mk (RecV_below HV2.out hD.below)
          have hl3 := fun (_ : True) => ld_rec ((hD.below.block _ (blk_lt HXX2.out)).trans HXX2.out) rfl
          have hst := fun (_ : True) => st_rec (a := x.f0) (k := x.f1) (i := x.f2) (x3 := .slice A3 x.f3.length d3) (x4 := .slice A4 x.f4.length d4) (j := x.f5.f0) (x6 := .slice A6 x.f5.f1.length d6) (p := x.f6) (q := x.f7) (x9 := .slice A9 x.f8.length d9) HX3.out rfl rfl rfl rfl
          clear hcall hD
          go_wp2
          (try simp only [Exit.inBlock, Exit.then])
          refine bodyPost_ret (res_dec rfl rfl rfl (setRow_heap _ _ _ _ _ _ HX3.out) rfl) rfl ?_
          rw [HDD.out, if_pos HEQ.out]
          exact ⟨_, rfl, RecV_lower (RecV_grown HV3.out (grown_row _ w.heap.size _) HLT.out) HBA.out.size, below_grown HB4.out (grown_row _ w.heap.size _) (Nat.le_refl _) (Nat.le_refl _)⟩
        · rw [decide_eq_false hq] at hcall
          have HNE := Aside0.mk (show ¬ encR x = (nums l, 0) from by rw [HE.out]; intro h; injection h with h1 h2; exact hq (nums_inj h1))
          clear hq
          go_wp2_with fail
          refine hcall.mono ?_
          rintro e w3 ⟨rfl, hD⟩
          have HX3 := Aside0.mk ((hD.below.block _ (blk_lt HX2.out)).trans HX2.out)
          have HB4 := Aside0.mk (HB3.out.trans (hD.below.mono HB3.out.size))
          have hst := fun (_ : True) => st_zero HX3.out
          clear hcall hD
          go_wp2
          ((try simp only [Exit.inBlock, Exit.then]); exact bodyPost_ret (res_dec rfl rfl rfl (setRow_heap _ _ _ _ _ _ HX3.out) rfl) rfl (by rw [HDD.out, if_neg HNE.out]; exact bad_end w _ HB4.out 70))
def code_Decode.f (l0 : List Int) : Option (Int × Int × Int × List Int × List SFact × Int × List SSpan × Int × Int × List SEntry × Int) := if nums (bytesOf l0) = l0 then some (flatR (decR (bytesOf l0))) else none
theorem code_Decode.calls (A0 : Option Addr) (c0 : Nat) (l0 : List Int) (r1 : Int) (r2 : Int) (r3 : Int) (r4 : List Int) (r5 : List SFact) (r6 : Int) (r7 : List SSpan) (r8 : Int) (r9 : Int) (r10 : List SEntry) (r11 : Int) (w : World) (hr0 : Kd.C (Kd.int .u8) w A0 l0.length l0) (hc0 : l0.length ≤ c0) (h : code_Decode.f l0 = some (r1, r2, r3, r4, r5, r6, r7, r8, r9, r10, r11)) :
    Calls Tryd.prog 44 #[.slice A0 l0.length c0] w fun e w' => ∃ v3_ v4_ v6_ v9_ : Value, e = .returned (.tuple #[.agg #[.int .u8 r1, .int .u32 r2, .int .u32 r3, v3_, v4_, .int .u32 r6, v6_, .int .i64 r8, .int .i64 r9, v9_], .int .u16 r11]) ∧ Kd.R (Kd.int .i64) 3 w' w.heap.size (fun _ => True) v3_ r4 ∧ Kd.R k76 76 w' w.heap.size (fun k_ => some k_ ≠ (v3_ : Value).ownBlock) v4_ r5 ∧ Kd.R k132 132 w' w.heap.size (fun _ => True) v6_ r7 ∧ Kd.R k124 124 w' w.heap.size (fun k_ => some k_ ≠ (v3_ : Value).ownBlock ∧ some k_ ≠ (v4_ : Value).ownBlock) v9_ r10 ∧ Below w.heap.size w w' := by
  unfold code_Decode.f at h
  split at h
  case isFalse => cases h
  rename_i hb
  have h := Option.some.inj h
  obtain ⟨l, hl⟩ : ∃ l, l = bytesOf l0 := ⟨_, rfl⟩
  rw [← hl] at h hb
  subst hb
  rw [nums_len] at hr0 hc0 ⊢
  refine (decode_any A0 c0 l w hr0 hc0).mono ?_
  rintro e w' ⟨v, rfl, ⟨v3, v4, v6, v9, rfl, h3, h4, h6, h9⟩, hB⟩
  (try rw [bytesOf_nums] at h)
  simp only [flatR, Prod.mk.injEq] at h
  obtain ⟨rfl, rfl, rfl, rfl, rfl, rfl, rfl, rfl, rfl, rfl, rfl⟩ := h
  exact ⟨v3, v4, v6, v9, rfl, h3, h4, h6, h9, hB⟩
end Go.Proofs.YtbbhjceelghadaaDoor.K
end

section
-- from MakeP
namespace Go.Proofs.YtbbhjceelghadaaDoor.K
open Go Go.RowKit Go.Proofs.YtbbhjceelghadaaDoorW.PrintWords Go.Proofs.YtbbhjceelghadaaDoorW.PrintLast Go.Proofs.YtbbhjceelghadaaDoorW.PrintMore Go.Proofs.YtbbhjceelghadaaDoor.My
theorem drop_rd' {α : Type} (d : α) (l : List α) (i : Int) (h : i.toNat < l.length) (h0 : 0 ≤ i) : l.drop i.toNat = l.getD i.toNat d :: l.drop (i + 1).toNat := by
  rw [List.drop_eq_getElem_cons h, show (i + 1).toNat = i.toNat + 1 by omega]
  congr 1
  rw [List.getD_eq_getElem?_getD, List.getElem?_eq_getElem h]
  rfl
def capV (v : Int) : Int := (mx v 0) % 10000
def mkFact (f : SFact) : SFact := ⟨(f.f0.take 4).map capV, f.f1⟩
def mkFacts (l : List SFact) : List SFact := (l.take 60).map mkFact
theorem rmkey_ev (l : List SFact) (i : Int) (h0 : 0 ≤ i) (hlt : i < l.length) (hn : l.length ≤ 9223372036854775807) (out : List SFact) (ho : out.length < 4398046511104) (v : Int) (R : List SFact)
    (hR : ∀ key : List Int, Ev (fun k => stratumlaw07_Facts.l0 k l (out ++ [⟨key, v⟩]) (i + 1)) (out ++ ⟨key, v⟩ :: R)) (d : Nat) : ∀ (j : Int) (acc : List Int), 0 ≤ j → j ≤ 4 → 4 - j = d → (acc.length : Int) ≤ j →
    Ev (fun k => stratumlaw07_Facts.l1 k l out i j acc v) (out ++ ⟨acc ++ (((rd_T76 l i).f0.take 4).drop j.toNat).map capV, v⟩ :: R) := by
  induction d with
  | zero =>
    intro j acc g0 g1 hd ha
    rw [List.drop_of_length_le (by rw [List.length_take]; omega), List.map_nil, List.append_nil]
    by_cases hj : j < ((rd_T76 l i).f0.length : Int)
    · exact Ev.step (fun k => by simp only [stratumlaw07_Facts.l1]; rw [if_pos h0, if_pos hlt, if_pos hj, if_neg (by omega), if_pos ho, show wrap64 (i + 1) = i + 1 from by unfold wrap64; omega]) (hR acc)
    · exact Ev.step (fun k => by simp only [stratumlaw07_Facts.l1]; rw [if_pos h0, if_pos hlt, if_neg hj, if_pos ho, show wrap64 (i + 1) = i + 1 from by unfold wrap64; omega]) (hR acc)
  | succ d ih =>
    intro j acc g0 g1 hd ha
    by_cases hj : j < ((rd_T76 l i).f0.length : Int)
    · have hjt : j.toNat < ((rd_T76 l i).f0.take 4).length := by rw [List.length_take]; omega
      rw [drop_rd' 0 _ j hjt g0, List.map_cons, List.append_cons acc]
      have e : ((rd_T76 l i).f0.take 4).getD j.toNat 0 = rd (rd_T76 l i).f0 j := by
        unfold rd
        rw [List.getD_eq_getElem?_getD, List.getD_eq_getElem?_getD, List.getElem?_take, if_pos (by omega)]
      rw [e]
      refine Ev.step (f := fun k => stratumlaw07_Facts.l1 k l out i (j + 1) (acc ++ [capV (rd (rd_T76 l i).f0 j)]) v) (fun k => by simp only [stratumlaw07_Facts.l1]; rw [if_pos h0, if_pos hlt, if_pos hj, if_pos (by omega), if_pos g0, if_pos (by omega), show wrap64 (j + 1) = j + 1 from by unfold wrap64; omega]; rfl) ?_
      have := ih (j + 1) (acc ++ [capV (rd (rd_T76 l i).f0 j)]) (by omega) (by omega) (by omega) (by rw [List.length_append]; simp; omega)
      exact this
    · rw [List.drop_of_length_le (by rw [List.length_take]; omega), List.map_nil, List.append_nil]
      exact Ev.step (fun k => by simp only [stratumlaw07_Facts.l1]; rw [if_pos h0, if_pos hlt, if_neg hj, if_pos ho, show wrap64 (i + 1) = i + 1 from by unfold wrap64; omega]) (hR acc)
theorem rmfacts_ev (l : List SFact) (hn : l.length ≤ 9223372036854775807) (d : Nat) : ∀ (i : Int) (out : List SFact), 0 ≤ i → i ≤ 60 → 60 - i = d → (out.length : Int) ≤ i → Ev (fun k => stratumlaw07_Facts.l0 k l out i) (out ++ ((l.take 60).drop i.toNat).map mkFact) := by
  induction d with
  | zero =>
    intro i out h0 h1 hd ho
    rw [List.drop_of_length_le (by rw [List.length_take]; omega), List.map_nil, List.append_nil]
    by_cases hlt : i < (l.length : Int)
    · exact Ev.step (fun k => by simp only [stratumlaw07_Facts.l0]; rw [if_pos hlt]) (Ev.step (f := fun _ => some out) (fun k => by simp only [stratumlaw07_Facts.j1]; rw [if_neg (by simp; omega)]) (Ev.now _))
    · exact Ev.step (fun k => by simp only [stratumlaw07_Facts.l0]; rw [if_neg hlt]) (Ev.step (f := fun _ => some out) (fun k => by simp only [stratumlaw07_Facts.j1]; rw [if_neg (by decide)]) (Ev.now _))
  | succ d ih =>
    intro i out h0 h1 hd ho
    by_cases hlt : i < (l.length : Int)
    · have hit : i.toNat < (l.take 60).length := by rw [List.length_take]; omega
      have e : (l.take 60).getD i.toNat z76 = rd_T76 l i := by
        unfold rd_T76
        rw [List.getD_eq_getElem?_getD, List.getD_eq_getElem?_getD, List.getElem?_take, if_pos (by omega)]
      rw [drop_rd' z76 _ i hit h0, List.map_cons, e]
      refine Ev.step (fun k => by simp only [stratumlaw07_Facts.l0]; rw [if_pos hlt]) (Ev.step (f := fun k => stratumlaw07_Facts.l1 k l out i 0 [] (rd_T76 l i).f1) (fun k => by simp only [stratumlaw07_Facts.j1]; rw [if_pos (by simp; omega), if_pos h0, if_pos hlt]) ?_)
      have h2 := rmkey_ev l i h0 hlt hn out (by omega) (rd_T76 l i).f1 (((l.take 60).drop (i + 1).toNat).map mkFact) (fun key => by
        have := ih (i + 1) (out ++ [⟨key, (rd_T76 l i).f1⟩]) (by omega) (by omega) (by omega) (by rw [List.length_append]; simp; omega)
        rw [List.append_assoc] at this
        exact this) 4 0 [] (by omega) (by omega) (by omega) (by simp)
      rw [List.nil_append] at h2
      exact h2
    · rw [List.drop_of_length_le (by rw [List.length_take]; omega), List.map_nil, List.append_nil]
      exact Ev.step (fun k => by simp only [stratumlaw07_Facts.l0]; rw [if_neg hlt]) (Ev.step (f := fun _ => some out) (fun k => by simp only [stratumlaw07_Facts.j1]; rw [if_neg (by decide)]) (Ev.now _))
theorem mkFacts_ev (l : List SFact) (hn : l.length ≤ 9223372036854775807) : Ev (fun k => stratumlaw07_Facts.f k l) (mkFacts l) := by
  have := rmfacts_ev l hn 60 0 [] (by omega) (by omega) (by omega) (by simp)
  rw [List.nil_append] at this
  exact this
theorem capV_ok (v : Int) : 0 ≤ capV v ∧ capV v ≤ 9999 := by unfold capV; omega
theorem mkFacts_batch (l : List SFact) : batchB (mkFacts l) = true := by
  unfold batchB mkFacts
  simp only [Bool.and_eq_true, decide_eq_true_eq, List.all_eq_true]
  refine ⟨by rw [List.length_map, List.length_take]; omega, fun f hf => ?_⟩
  obtain ⟨g, _, rfl⟩ := List.mem_map.1 hf
  unfold factB mkFact
  simp only [Bool.and_eq_true, decide_eq_true_eq, List.all_eq_true]
  refine ⟨by rw [List.length_map, List.length_take]; omega, fun v hv => ?_⟩
  obtain ⟨u, _, rfl⟩ := List.mem_map.1 hv
  have := capV_ok u
  exact ⟨this.1, this.2⟩
def bitB (m i : Int) : Bool := decide (Go.bits .and .u8 (shr .u8 m i) 1 = 1)
def nodesM (m : Int) : List Int := ([0, 1, 2, 3, 4, 5] : List Int).filter (bitB m)
theorem filter_rises (p : Int → Bool) : ∀ (l : List Int) (last : Int), risesB last l = true → risesB last (l.filter p) = true
  | [], _, _ => rfl
  | n :: l, last, h => by
    unfold risesB at h
    simp only [Bool.and_eq_true, decide_eq_true_eq] at h
    rw [List.filter_cons]
    split
    · unfold risesB
      simp only [Bool.and_eq_true, decide_eq_true_eq]
      exact ⟨⟨h.1.1, h.1.2⟩, filter_rises p l n h.2⟩
    · have key : ∀ (l : List Int) (a b : Int), a ≤ b → risesB b l = true → risesB a l = true := by
        intro l
        cases l with
        | nil => intros; rfl
        | cons x l =>
          intro a b hab hb
          unfold risesB at hb ⊢
          simp only [Bool.and_eq_true, decide_eq_true_eq] at hb ⊢
          exact ⟨⟨by omega, hb.1.2⟩, hb.2⟩
      exact filter_rises p l last (key l last n (by omega) h.2)
theorem nodesM_rises (m : Int) : risesB (-1) (nodesM m) = true := filter_rises _ _ _ (by decide)
def spansM (l : List Int) : List SSpan := (l.take 40).map fun v => ⟨Int.tmod (wrap64 v) 10000, Int.tmod (wrap64 v) 6⟩
def entM (last : Int) : List SEntry → List SEntry
  | [] => []
  | e :: l => ⟨(last + (1 + Int.tmod e.f0 1000)) % 4294967296, mkFacts e.f1⟩ :: entM ((last + (1 + Int.tmod e.f0 1000)) % 4294967296) l
def entriesM (l : List SEntry) : List SEntry := entM 0 (l.take 50)
def makeR (kind id at_ nodes : Int) (facts : List SFact) (spans : List Int) (from_ to_ : Int) (entries : List SEntry) : SRec :=
  let k := (1 + Int.tmod kind 7) % 256
  if k = 1 then ⟨k, id, 0, nodesM nodes, mkFacts facts, ⟨0, []⟩, 0, 0, []⟩
  else if k = 2 then ⟨k, id, at_, nodesM nodes, [], ⟨0, []⟩, 0, 0, []⟩
  else if k = 6 then ⟨k, 0, 0, [], [], ⟨at_, spansM spans⟩, 0, 0, []⟩
  else if k = 7 then ⟨k, id, 0, [], [], ⟨0, []⟩, Int.tmod (wrap64 from_) 10001, Int.tmod (wrap64 to_) 10001, entriesM entries⟩
  else ⟨k, id, 0, [], [], ⟨0, []⟩, 0, 0, []⟩
def flat10 (r : SRec) : Int × Int × Int × List Int × List SFact × Int × List SSpan × Int × Int × List SEntry := (r.f0, r.f1, r.f2, r.f3, r.f4, r.f5.f0, r.f5.f1, r.f6, r.f7, r.f8)
theorem rspansM_ev (l : List Int) (k0 a1 a2 a5 a7 a8 : Int) (d : Nat) : ∀ (i : Int) (acc : List SSpan), 0 ≤ i → i ≤ 40 → 40 - i = d → (acc.length : Int) ≤ i →
    Ev (fun k => stratumlaw07_Make.l1 k l i k0 a1 a2 a5 acc a7 a8) (k0, a1, a2, [], [], a5, acc ++ ((l.take 40).drop i.toNat).map (fun v => (⟨Int.tmod (wrap64 v) 10000, Int.tmod (wrap64 v) 6⟩ : SSpan)), a7, a8, []) := by
  induction d with
  | zero =>
    intro i acc h0 h1 hd ho
    rw [List.drop_of_length_le (by rw [List.length_take]; omega), List.map_nil, List.append_nil]
    by_cases hlt : i < (l.length : Int)
    · exact Ev.step (f := fun _ => some _) (fun k => by simp only [stratumlaw07_Make.l1]; rw [if_pos hlt, if_neg (by omega)]) (Ev.now _)
    · exact Ev.step (f := fun _ => some _) (fun k => by simp only [stratumlaw07_Make.l1]; rw [if_neg hlt]) (Ev.now _)
  | succ d ih =>
    intro i acc h0 h1 hd ho
    by_cases hlt : i < (l.length : Int)
    · have hit : i.toNat < (l.take 40).length := by rw [List.length_take]; omega
      have e : (l.take 40).getD i.toNat 0 = rd l i := by
        unfold rd
        rw [List.getD_eq_getElem?_getD, List.getD_eq_getElem?_getD, List.getElem?_take, if_pos (by omega)]
      rw [drop_rd' 0 _ i hit h0, List.map_cons, e, List.append_cons]
      exact Ev.step (fun k => by simp only [stratumlaw07_Make.l1]; rw [if_pos hlt, if_pos (by omega), if_pos h0, if_pos (by omega), show wrap64 (i + 1) = i + 1 from by unfold wrap64; omega]) (ih (i + 1) _ (by omega) (by omega) (by omega) (by rw [List.length_append]; simp; omega))
    · rw [List.drop_of_length_le (by rw [List.length_take]; omega), List.map_nil, List.append_nil]
      exact Ev.step (f := fun _ => some _) (fun k => by simp only [stratumlaw07_Make.l1]; rw [if_neg hlt]) (Ev.now _)
theorem rentM_ev (l : List SEntry) (hf : ∀ e ∈ l, e.f1.length ≤ 9223372036854775807) (k0 a1 a2 a5 a7 a8 : Int) (d : Nat) : ∀ (i last : Int) (acc : List SEntry), 0 ≤ i → i ≤ 50 → 50 - i = d → (acc.length : Int) ≤ i →
    Ev (fun k => stratumlaw07_Make.l2 k l last i k0 a1 a2 a5 a7 a8 acc) (k0, a1, a2, [], [], a5, [], a7, a8, acc ++ entM last ((l.take 50).drop i.toNat)) := by
  induction d with
  | zero =>
    intro i last acc h0 h1 hd ho
    rw [List.drop_of_length_le (by rw [List.length_take]; omega), entM, List.append_nil]
    by_cases hlt : i < (l.length : Int)
    · exact Ev.step (f := fun _ => some _) (fun k => by simp only [stratumlaw07_Make.l2]; rw [if_pos hlt, if_neg (by omega)]) (Ev.now _)
    · exact Ev.step (f := fun _ => some _) (fun k => by simp only [stratumlaw07_Make.l2]; rw [if_neg hlt]) (Ev.now _)
  | succ d ih =>
    intro i last acc h0 h1 hd ho
    by_cases hlt : i < (l.length : Int)
    · have hit : i.toNat < (l.take 50).length := by rw [List.length_take]; omega
      have e : (l.take 50).getD i.toNat z124 = rd_T124 l i := by
        unfold rd_T124
        rw [List.getD_eq_getElem?_getD, List.getD_eq_getElem?_getD, List.getElem?_take, if_pos (by omega)]
      have hm : rd_T124 l i ∈ l := by
        unfold rd_T124
        rw [List.getD_eq_getElem?_getD, List.getElem?_eq_getElem (show i.toNat < l.length by omega)]
        exact List.getElem_mem _
      rw [drop_rd' z124 _ i hit h0, e, entM, List.append_cons]
      refine Ev.step (f := fun k => (stratumlaw07_Facts.f k (rd_T124 l i).f1).bind _) (fun k => by simp only [stratumlaw07_Make.l2]; rw [if_pos hlt, if_pos (by omega), if_pos h0]) (Ev.bind (mkFacts_ev _ (hf _ hm)) ?_)
      exact Ev.congr (fun k => by rw [if_pos (by omega), show wrap64 (i + 1) = i + 1 from by unfold wrap64; omega]) (ih (i + 1) _ _ (by omega) (by omega) (by omega) (by rw [List.length_append]; simp; omega))
    · rw [List.drop_of_length_le (by rw [List.length_take]; omega), entM, List.append_nil]
      exact Ev.step (f := fun _ => some _) (fun k => by simp only [stratumlaw07_Make.l2]; rw [if_neg hlt]) (Ev.now _)
theorem rmake_ev (kind id at_ nodes : Int) (facts : List SFact) (spans : List Int) (from_ to_ : Int) (entries : List SEntry) (hn : facts.length ≤ 9223372036854775807) (hf : ∀ e ∈ entries, e.f1.length ≤ 9223372036854775807) (d : Nat) : ∀ (i : Int) (acc : List Int), 0 ≤ i → i ≤ 6 → 6 - i = d → (acc.length : Int) ≤ i →
    acc ++ (([0, 1, 2, 3, 4, 5] : List Int).drop i.toNat).filter (bitB nodes) = nodesM nodes →
    Ev (fun k => stratumlaw07_Make.l0 k at_ nodes facts spans from_ to_ entries acc i ((1 + Int.tmod kind 7) % 256) id 0 0 0 0) (flat10 (makeR kind id at_ nodes facts spans from_ to_ entries)) := by
  induction d with
  | zero =>
    intro i acc h0 h1 hd ho hacc
    obtain rfl : i = 6 := by omega
    have hacc : acc = nodesM nodes := by simpa using hacc
    subst hacc
    unfold makeR
    simp only
    generalize (1 + Int.tmod kind 7) % 256 = k
    by_cases h1 : k = 1
    · rw [if_pos h1]
      exact Ev.step (fun k => by simp only [stratumlaw07_Make.l0]; rw [if_neg (by omega), if_pos h1]) (Ev.bind (mkFacts_ev facts hn) (Ev.now _))
    rw [if_neg h1]
    by_cases h2 : k = 2
    · rw [if_pos h2]
      exact Ev.step (f := fun _ => some _) (fun k => by simp only [stratumlaw07_Make.l0]; rw [if_neg (by omega), if_neg h1, if_pos h2]; rfl) (Ev.now _)
    rw [if_neg h2]
    by_cases h6 : k = 6
    · rw [if_pos h6]
      have := rspansM_ev spans k 0 0 at_ 0 0 40 0 [] (by omega) (by omega) (by omega) (by simp)
      exact Ev.step (fun k => by simp only [stratumlaw07_Make.l0]; rw [if_neg (by omega), if_neg h1, if_neg h2, if_pos h6]) this
    rw [if_neg h6]
    by_cases h7 : k = 7
    · rw [if_pos h7]
      have := rentM_ev entries hf k id 0 0 (Int.tmod (wrap64 from_) 10001) (Int.tmod (wrap64 to_) 10001) 50 0 0 [] (by omega) (by omega) (by omega) (by simp)
      exact Ev.step (fun k => by simp only [stratumlaw07_Make.l0]; rw [if_neg (by omega), if_neg h1, if_neg h2, if_neg h6, if_pos h7]) this
    rw [if_neg h7]
    exact Ev.step (f := fun _ => some _) (fun k => by simp only [stratumlaw07_Make.l0]; rw [if_neg (by omega), if_neg h1, if_neg h2, if_neg h6, if_neg h7]; rfl) (Ev.now _)
  | succ d ih =>
    intro i acc h0 h1 hd ho hacc
    have hw : IntKind.u64.wrap i = i := by show i % 18446744073709551616 = i; omega
    have hit : i.toNat < ([0, 1, 2, 3, 4, 5] : List Int).length := by simp; omega
    have e : ([0, 1, 2, 3, 4, 5] : List Int).getD i.toNat 0 = i := by
      have h6 : i = 0 ∨ i = 1 ∨ i = 2 ∨ i = 3 ∨ i = 4 ∨ i = 5 := by omega
      rcases h6 with rfl | rfl | rfl | rfl | rfl | rfl <;> rfl
    rw [drop_rd' 0 _ i hit h0, e, List.filter_cons] at hacc
    have hs : wrap64 (i + 1) = i + 1 := by unfold wrap64; omega
    by_cases hb : Go.bits .and .u8 (shr .u8 nodes i) 1 = 1
    · rw [if_pos (by unfold bitB; exact decide_eq_true hb), List.append_cons] at hacc
      exact Ev.step (fun k => by simp only [stratumlaw07_Make.l0]; rw [if_pos (by omega), hw, if_pos h0, if_pos hb, if_pos (by omega), hs]) (ih (i + 1) _ (by omega) (by omega) (by omega) (by rw [List.length_append]; simp; omega) hacc)
    · rw [if_neg (by unfold bitB; rw [decide_eq_false hb]; decide)] at hacc
      exact Ev.step (fun k => by simp only [stratumlaw07_Make.l0]; rw [if_pos (by omega), hw, if_pos h0, if_neg hb, hs]) (ih (i + 1) _ (by omega) (by omega) (by omega) (by omega) hacc)
theorem make_ev (kind id at_ nodes : Int) (facts : List SFact) (spans : List Int) (from_ to_ : Int) (entries : List SEntry) (hn : facts.length ≤ 9223372036854775807) (hf : ∀ e ∈ entries, e.f1.length ≤ 9223372036854775807) :
    Ev (fun k => stratumlaw07_Make.f k kind id at_ nodes facts spans from_ to_ entries) (flat10 (makeR kind id at_ nodes facts spans from_ to_ entries)) :=
  rmake_ev kind id at_ nodes facts spans from_ to_ entries hn hf 6 0 [] (by omega) (by omega) (by omega) (by simp) rfl
theorem entM_history : ∀ (l : List SEntry) (last : Int) (p : Option Int), 0 ≤ last → last + 1000 * (l.length : Int) < 4294967296 → (∀ e ∈ l, 0 ≤ e.f0) → (∀ q, p = some q → q ≤ last) → historyF p (entM last l) = true
  | [], _, _, _, _, _, _ => rfl
  | e :: l, last, p, h0, h1, he, hp => by
    have hb := he e List.mem_cons_self
    have ht : Int.tmod e.f0 1000 = e.f0 % 1000 := Int.tmod_eq_emod_of_nonneg hb
    rw [List.length_cons] at h1
    have hm : (last + (1 + Int.tmod e.f0 1000)) % 4294967296 = last + (1 + e.f0 % 1000) := by rw [ht]; omega
    rw [entM, historyF_cons, hm]
    simp only [Bool.and_eq_true]
    refine ⟨⟨mkFacts_batch _, ?_⟩, entM_history l _ _ (by omega) (by omega) (fun x hx => he x (List.mem_cons_of_mem _ hx)) (fun q hq => by injection hq with hq; omega)⟩
    cases p with
    | none => rfl
    | some q =>
      have := hp q rfl
      unfold gapB
      simp only [decide_eq_true_eq]
      omega
theorem entM_len : ∀ (l : List SEntry) (last : Int), (entM last l).length = l.length
  | [], _ => rfl
  | e :: l, last => by rw [entM, List.length_cons, List.length_cons, entM_len]
theorem tmod_nn {a b : Int} (h : 0 ≤ a) : Int.tmod a b = a % b := Int.tmod_eq_emod_of_nonneg h
theorem spansM_ok (l : List Int) (h : ∀ v ∈ l, 0 ≤ v ∧ v < 65536) : (spansM l).all spanB = true ∧ (spansM l).length ≤ 40 := by
  refine ⟨?_, by unfold spansM; rw [List.length_map, List.length_take]; omega⟩
  rw [List.all_eq_true]
  intro s hs
  obtain ⟨v, hv, rfl⟩ := List.mem_map.1 hs
  have hb := h v (List.mem_of_mem_take hv)
  have hw : wrap64 v = v := by unfold wrap64; omega
  unfold spanB
  rw [hw, tmod_nn hb.1, tmod_nn hb.1]
  simp only [Bool.and_eq_true, decide_eq_true_eq]
  omega
/-- What Make makes is sound. -/
theorem make_sound (kind id at_ nodes : Int) (facts : List SFact) (spans : List Int) (from_ to_ : Int) (entries : List SEntry) (hk : 0 ≤ kind) (hs : ∀ v ∈ spans, 0 ≤ v ∧ v < 65536) (hfr : 0 ≤ from_ ∧ from_ < 65536) (hto : 0 ≤ to_ ∧ to_ < 65536) (he : ∀ e ∈ entries, 0 ≤ e.f0) :
    soundB (makeR kind id at_ nodes facts spans from_ to_ entries) = true := by
  have hkk : 1 ≤ (1 + Int.tmod kind 7) % 256 ∧ (1 + Int.tmod kind 7) % 256 ≤ 7 := by rw [tmod_nn hk]; omega
  unfold makeR
  simp only
  generalize (1 + Int.tmod kind 7) % 256 = k at hkk
  by_cases h1 : k = 1
  · rw [if_pos h1]
    unfold soundB
    simp only [h1, if_true, nodesM_rises, mkFacts_batch]
    rfl
  rw [if_neg h1]
  by_cases h2 : k = 2
  · rw [if_pos h2]
    unfold soundB
    simp only [h2, nodesM_rises, show ¬ (2 : Int) = 1 from by decide, if_true, if_false]
    rfl
  rw [if_neg h2]
  by_cases h6 : k = 6
  · rw [if_pos h6]
    have := spansM_ok spans hs
    unfold soundB
    simp only [h6, this.1, show ¬ (6 : Int) = 1 from by decide, show ¬ (6 : Int) = 2 from by decide, if_true, if_false, show (decide ((6 : Int) = 3) || decide ((6 : Int) = 4) || decide ((6 : Int) = 5)) = false from by decide, Bool.false_eq_true, decide_eq_true this.2]
    rfl
  rw [if_neg h6]
  by_cases h7 : k = 7
  · rw [if_pos h7]
    have hw1 : wrap64 from_ = from_ := by unfold wrap64; omega
    have hw2 : wrap64 to_ = to_ := by unfold wrap64; omega
    have hh : historyB (entriesM entries) = true := by
      unfold historyB entriesM
      exact entM_history _ 0 none (by omega) (by rw [List.length_take]; omega) (fun e hh => he e (List.mem_of_mem_take hh)) (fun q hq => by cases hq)
    have hl : (entriesM entries).length ≤ 5000 := by unfold entriesM; rw [entM_len, List.length_take]; omega
    rw [hw1, hw2, tmod_nn hfr.1, tmod_nn hto.1]
    unfold soundB
    simp only [h7, hh, show ¬ (7 : Int) = 1 from by decide, show ¬ (7 : Int) = 2 from by decide, show ¬ (7 : Int) = 6 from by decide, if_true, if_false, show (decide ((7 : Int) = 3) || decide ((7 : Int) = 4) || decide ((7 : Int) = 5)) = false from by decide, Bool.false_eq_true, decide_eq_true hl]
    simp
    omega
  rw [if_neg h7]
  have h345 : (decide (k = 3) || decide (k = 4) || decide (k = 5)) = true := by simp; omega
  unfold soundB
  simp only [h1, h2, h345, if_true, if_false]
  rfl
end Go.Proofs.YtbbhjceelghadaaDoor.K
end

section
-- from CodeN
namespace Go.Proofs.YtbbhjceelghadaaDoor.K
open Go Go.RowKit Go.Proofs.YtbbhjceelghadaaDoorW.PrintWords Go.Proofs.YtbbhjceelghadaaDoorW.PrintLast Go.Proofs.YtbbhjceelghadaaDoorW.PrintMore Go.Proofs.YtbbhjceelghadaaDoor.My
def knownRec : SRec := ⟨3, 5, 0, [], [], ⟨0, []⟩, 0, 0, []⟩
theorem known_enc : encR knownRec = (nums [3, 0, 0, 0, 5], 0) := by decide
theorem known_dec : decR [3, 0, 0, 0, 5] = (knownRec, 0) := by rfl
theorem known_nil : decR [] = (zeroRec, 70) := by rfl
def stratumlaw07_known.f : Option Bool := some true
theorem bu_known (w : World) : (Instr.build 57 #[(0, .int .u8 3), (1, .int .u32 5)]).run Tryd.prog w = .ok (.agg #[.int .u8 3, .int .u32 5, .int .u32 0, .slice none 0 0, .slice none 0 0, .int .u32 0, .slice none 0 0, .int .i64 0, .int .i64 0, .slice none 0 0]) w := run_build w _ _ _ (built_rec 3 5)
theorem ld_id {w : World} {b : Nat} {c0 c1 c2 c3 c4 c5 c6 c7 c8 c9 : Value} (h : w.heap[b]? = some (.cells #[c0, c1, c2, c3, c4, c5, c6, c7, c8, c9] 57 (0, 0))) : (Instr.loadAt 49 (.pointer (some ⟨b, 1, none⟩))).run Tryd.prog w = .ok c1 w := by
  have z0 : w.cell? ⟨b, 1, none⟩ = some c1 := (blk_cell h 1).trans rfl
  simp [go_sem, z0]
attribute [-go_sem] Instr.build Instr.storeAt Instr.loadAt
attribute [local go_sem] bu_known
set_option maxRecDepth 20000 in
set_option maxHeartbeats 4000000 in
theorem stratumlaw07_known.calls (r : Bool) (w : World) (h : stratumlaw07_known.f = some r) : Calls Tryd.prog 38 #[] w fun e w' => e = .returned (.bool r) ∧ Below w.heap.size w w' := by
  obtain rfl := Option.some.inj h
  clear h
  have henc := code_Encode.calls 3 5 0 none 0 [] none 0 [] 0 none 0 [] 0 0 none 0 [] _ _ w (Kd.C_nil _ _) (Nat.le_refl _) (Kd.C_nil _ _) (Nat.le_refl _) (Kd.C_nil _ _) (Nat.le_refl _) (Kd.C_nil _ _) (Nat.le_refl _) (congrArg some known_enc)
  go_enter Tryd.func38, Tryd.ntmps38
  go_wp2_with fail
  refine henc.mono ?_
  rintro e w1 ⟨v0, rfl, h0, hB⟩
  clear henc
  obtain ⟨A0, d0, rfl⟩ := Kd.R_slice h0
  obtain ⟨_, q0, C0⟩ := Kd.R_reads' h0
  have q0 : 5 ≤ d0 := q0
  have C0 : (Kd.int .u8).C w1 A0 5 (nums [3, 0, 0, 0, 5]) := C0
  simp only [show (nums [3, 0, 0, 0, 5]).length = 5 from rfl]
  have HB := Aside0.mk hB
  have HC := Aside0.mk C0
  have hdec : Calls Tryd.prog 44 #[.slice A0 5 d0] w1 (DecPost w1 (decR [3, 0, 0, 0, 5])) := decode_any A0 d0 [3, 0, 0, 0, 5] w1 C0 q0
  rw [known_dec] at hdec
  clear h0 hB C0
  go_wp2_with fail
  refine hdec.mono ?_
  rintro e w2 ⟨v, rfl, ⟨v3, v4, v6, v9, rfl, h3, h4, h6, h9⟩, hB⟩
  clear hdec
  obtain ⟨A3, d3, rfl⟩ := Kd.R_slice h3
  obtain ⟨A4, d4, rfl⟩ := Kd.R_slice h4
  obtain ⟨A6, d6, rfl⟩ := Kd.R_slice h6
  obtain ⟨A9, d9, rfl⟩ := Kd.R_slice h9
  have hbw : Below w2.heap.size w2 (w2.alloc (.cells #[.int .u8 3, .int .u32 5, .int .u32 0, .slice A3 0 d3, .slice A4 0 d4, .int .u32 0, .slice A6 0 d6, .int .i64 0, .int .i64 0, .slice A9 0 d9] 57)) := below_alloc (Below.refl _ _) _
  have hB2 := HB.out.trans ((hB.trans (hbw.mono hB.size)).mono HB.out.size)
  have HB2 := Aside0.mk hB2
  have HC2 := Aside0.mk (Kd.C_below HC.out (hB.trans (hbw.mono hB.size)))
  have HX := Aside0.mk (show (w2.alloc (.cells #[.int .u8 3, .int .u32 5, .int .u32 0, .slice A3 0 d3, .slice A4 0 d4, .int .u32 0, .slice A6 0 d6, .int .i64 0, .int .i64 0, .slice A9 0 d9] 57)).heap[w2.heap.size]? = some (.cells #[.int .u8 3, .int .u32 5, .int .u32 0, .slice A3 0 d3, .slice A4 0 d4, .int .u32 0, .slice A6 0 d6, .int .i64 0, .int .i64 0, .slice A9 0 d9] 57 (0, 0)) from heap_new' rfl)
  obtain ⟨_, q3, C3⟩ := Kd.R_reads' h3
  obtain ⟨_, q4, C4⟩ := Kd.R_reads' h4
  obtain ⟨_, q6, C6⟩ := Kd.R_reads' h6
  obtain ⟨_, q9, C9⟩ := Kd.R_reads' h9
  have H3 := Aside0.mk (Kd.C_below C3 hbw)
  have H4 := Aside0.mk (Kd.C_below C4 hbw)
  have H6 := Aside0.mk (Kd.C_below C6 hbw)
  have H9 := Aside0.mk (Kd.C_below C9 hbw)
  have hsx := fun (_ : True) => run_storeAt_new (P := Tryd.prog) w2 57 #[.int .u8 0, .int .u32 0, .int .u32 0, .slice none 0 0, .slice none 0 0, .int .u32 0, .slice none 0 0, .int .i64 0, .int .i64 0, .slice none 0 0] #[.int .u8 3, .int .u32 5, .int .u32 0, .slice A3 0 d3, .slice A4 0 d4, .int .u32 0, .slice A6 0 d6, .int .i64 0, .int .i64 0, .slice A9 0 d9] (by kernel_rfl) rfl (by simp [Value.oneCell'])
  have hdec := decode_any none 0 [] (w2.alloc (.cells #[.int .u8 3, .int .u32 5, .int .u32 0, .slice A3 0 d3, .slice A4 0 d4, .int .u32 0, .slice A6 0 d6, .int .i64 0, .int .i64 0, .slice A9 0 d9] 57)) (Kd.C_nil _ _) (Nat.le_refl _)
  rw [known_nil] at hdec
  clear h3 h4 h6 h9 C3 C4 C6 C9 hB hB2 hbw
  simp only [knownRec, List.length_nil]
  go_wp2_with fail
  refine hdec.mono ?_
  rintro e w3 ⟨v, rfl, ⟨v3, v4, v6, v9, rfl, h3, h4, h6, h9⟩, hB⟩
  clear hdec
  obtain ⟨B3, e3, rfl⟩ := Kd.R_slice h3
  obtain ⟨B4, e4, rfl⟩ := Kd.R_slice h4
  obtain ⟨B6, e6, rfl⟩ := Kd.R_slice h6
  obtain ⟨B9, e9, rfl⟩ := Kd.R_slice h9
  have hbw : Below w3.heap.size w3 (w3.alloc (.cells #[.int .u8 0, .int .u32 0, .int .u32 0, .slice B3 0 e3, .slice B4 0 e4, .int .u32 0, .slice B6 0 e6, .int .i64 0, .int .i64 0, .slice B9 0 e9] 57)) := below_alloc (Below.refl _ _) _
  have hB' := hB.trans (hbw.mono hB.size)
  have HB3 := Aside0.mk (HB2.out.trans (hB'.mono HB2.out.size))
  have hx3 := (hB'.block _ (blk_lt HX.out)).trans HX.out
  have hl1 := fun (_ : True) => ld_id hx3
  have hl2 := fun (_ : True) => ld_rec hx3 rfl
  have hcv := fun (_ : True) => conv_string (c := d0) (kb_of_ints (n := 5) (l := [3, 0, 0, 0, 5]) (Kd.C_below HC2.out hB'))
  have hsx := fun (_ : True) => run_storeAt_new (P := Tryd.prog) w3 57 #[.int .u8 0, .int .u32 0, .int .u32 0, .slice none 0 0, .slice none 0 0, .int .u32 0, .slice none 0 0, .int .i64 0, .int .i64 0, .slice none 0 0] #[.int .u8 0, .int .u32 0, .int .u32 0, .slice B3 0 e3, .slice B4 0 e4, .int .u32 0, .slice B6 0 e6, .int .i64 0, .int .i64 0, .slice B9 0 e9] (by kernel_rfl) rfl (by simp [Value.oneCell'])
  have hsd := code_Sound.calls 3 5 0 A3 d3 [] A4 d4 [] 0 A6 d6 [] 0 0 A9 d9 [] true _ (Kd.C_below H3.out hB') q3 (Kd.C_below H4.out hB') q4 (Kd.C_below H6.out hB') q6 (Kd.C_below H9.out hB') q9 rfl
  clear hx3 hB hB' h3 h4 h6 h9 hbw
  simp only [zeroRec, List.length_nil]
  have hbl : True → (bs [3, 0, 0, 0, 5]).toList = [3, 0, 0, 0, 5] := fun _ => bs_list _
  go_wp2_with fail
  refine hsd.mono ?_
  rintro e w4 ⟨rfl, hB⟩
  have HB4 := Aside0.mk (HB3.out.trans (hB.mono HB3.out.size))
  clear hsd hB
  go_wp2
  go_ret
  exact ⟨rfl, HB4.out⟩
end Go.Proofs.YtbbhjceelghadaaDoor.K
end

section
-- from Came
namespace Go.Proofs.YtbbhjceelghadaaDoor.My
open Go Go.RowKit Go.Deep Go.ChangeShapes Go.WideShapes Go.ChangeAt Go.Proofs.YtbbhjceelghadaaDoorW.PrintWords
/-- A value of type t that came in reads as a v of kind d, of which ok holds and which is no heavier than the datum's bulk. -/
def Came {α : Type} (d : Kd α) (t : TypeId) (ok : α → Prop) (wt : α → Nat) : Prop :=
  ∀ {H : Type} (enc : TypeId × Value → H) (w : World) (fuel : Nat) (cs : List Value) (x : DataW H × List MemPlace), DataW.trod enc Tryd.prog w 0 (fun _ => true) true fuel t cs = some x → ∃ v : α, d.K w v cs ∧ ok v ∧ wt v ≤ Rows.uptoBulk x.1
theorem came_int {k : IntKind} {t : TypeId} (ht : Tryd.prog.underlying t = some (.int k)) : Came (Kd.int k) t (fun n => (Lit.int k n).wf = true) (fun _ => 1) := by
  intro H enc w fuel cs x h
  obtain ⟨n, rfl, hx, hw⟩ := DataW.trod_int ht h
  exact ⟨n, rfl, hw, by rw [hx]; simp [Rows.uptoBulk]⟩
/-- All of a slice's weight. -/
def wtAll {α : Type} (wt : α → Nat) (l : List α) : Nat := (l.map wt).sum
theorem wtAll_cons {α : Type} (wt : α → Nat) (x : α) (l : List α) : wtAll wt (x :: l) = wt x + wtAll wt l := by simp [wtAll]
theorem pick_all {α : Type} [Inhabited α] {n : Nat} {p : Nat → α → Prop} (h : ∀ i, i < n → ∃ x, p i x) : ∃ f : Nat → α, ∀ i, i < n → p i (f i) := by
  classical
  refine ⟨fun i => if h' : i < n then Classical.choose (h i h') else default, fun i hi => ?_⟩
  simp only [dif_pos hi]
  exact Classical.choose_spec (h i hi)
theorem cells_get {w : World} {a : Addr} {n : Nat} {cs : List Value} (h : w.cells? 0 a n = some cs) (i : Nat) (v : Value) (hi : cs[i]? = some v) : w.cell? (a.add i) = some v := by
  obtain ⟨_, hl, hc⟩ := World.cells?_some h
  have hil : i < n := by have := (List.getElem?_eq_some_iff.1 hi).1; omega
  rw [hc i hil]
  exact hi
theorem came_slice {α : Type} [Inhabited α] {d : Kd α} {t e : TypeId} {ok : α → Prop} {wt : α → Nat} (ht : Tryd.prog.underlying t = some (.slice e)) (hc : Tryd.prog.cellsOf e = d.sz) (he : Came d e ok wt) :
    Came (Kd.slice e d) t (fun l => ∀ x ∈ l, ok x) (fun l => wtAll wt l + 1) := by
  intro H enc w fuel cs x h
  rcases open_slice ht h with ⟨rfl, rfl⟩ | ⟨ad, len, cap, m, n, D, Pl, rfl, _, hl, hmax, hm, rfl, hel⟩
  · exact ⟨[], ⟨none, 0, rfl, Nat.le_refl _, ⟨rfl, by simp, fun h => absurd h (Nat.lt_irrefl 0)⟩⟩, (by simp), by simp [wtAll, Rows.uptoBulk]⟩
  · have hlm : len ≤ m := by rw [hm]; simp; exact hl
    have one : ∀ i, i < len → ∃ v : α, (∃ cs', w.cells? 0 (ad.add (i * Tryd.prog.cellsOf e)) (Tryd.prog.cellsOf e) = some cs' ∧ d.K w v cs') ∧ ok v ∧ wt v ≤ Rows.uptoBulk (D i) := by
      intro i hi
      obtain ⟨cs', h1, h2⟩ := hel i (by omega)
      obtain ⟨v, h3, h4, h5⟩ := he enc w n cs' _ h2
      exact ⟨v, ⟨cs', h1, h3⟩, h4, h5⟩
    obtain ⟨L, hL⟩ := pick_all one
    have hlen : ((List.range len).map L).length = len := by simp
    refine ⟨(List.range len).map L, ⟨some ad, cap, by rw [hlen], by rw [hlen]; exact hl, ?_⟩, ?_, ?_⟩
    · rw [hlen]
      refine ⟨hlen, by unfold maxLen at hmax; omega, fun _ => ⟨ad, rfl, fun j p hj => ?_⟩⟩
      have hjl : j < len := by have := (List.getElem?_eq_some_iff.1 hj).1; simpa using this
      have hp : p = L j := by
        rw [List.getElem?_map, List.getElem?_range hjl] at hj
        simp only [Option.map_some, Option.some.injEq] at hj
        exact hj.symm
      subst hp
      obtain ⟨⟨cs', h1, h2⟩, _, _⟩ := hL j hjl
      rw [hc] at h1
      refine ⟨cs', d.K_len h2, h2, fun i u hi => ?_⟩
      have := cells_get h1 i u hi
      rwa [Go.Deep.add_add] at this
    · intro y hy
      obtain ⟨i, hi, rfl⟩ := List.mem_map.1 hy
      exact (hL i (List.mem_range.1 hi)).2.1
    · have key : ∀ is : List Nat, (∀ i ∈ is, i < len) → wtAll wt (is.map L) ≤ Rows.uptoBulkAll (is.map D) := by
        intro is
        induction is with
        | nil => intro _; simp [wtAll, Rows.uptoBulkAll]
        | cons i is ih =>
          intro hi
          have h3 := ih (fun k hk => hi k (List.mem_cons_of_mem _ hk))
          have h4 := (hL i (hi i List.mem_cons_self)).2.2
          rw [List.map_cons, List.map_cons, wtAll_cons]
          simp only [Rows.uptoBulkAll]
          omega
      have := key (List.range len) (fun i hi => List.mem_range.1 hi)
      simp only [Rows.uptoBulk]
      omega
theorem came_pair {α β : Type} {da : Kd α} {db : Kd β} {t : TypeId} {f0 f1 : Field} {oka : α → Prop} {okb : β → Prop} {wta : α → Nat} {wtb : β → Nat} (ht : Tryd.prog.underlying t = some (.struct #[f0, f1])) (ct : Tryd.prog.cellsOf t = da.sz + db.sz)
    (h0 : f0.offset = 0) (h1 : f1.offset = da.sz) (c0 : Tryd.prog.cellsOf f0.type = da.sz) (c1 : Tryd.prog.cellsOf f1.type = db.sz) (A : Came da f0.type oka wta) (B : Came db f1.type okb wtb) :
    Came (Kd.pair da db) t (fun x => oka x.1 ∧ okb x.2) (fun x => wta x.1 + wtb x.2 + 1) := by
  intro H enc w fuel cs x h
  obtain ⟨y0, y1, n, rfl, hl, e0, e1⟩ := trod_struct2 ht h
  rw [h0, c0, List.drop_zero] at e0
  rw [h1, c1] at e1
  obtain ⟨v0, k0, o0, b0⟩ := A enc w n _ _ e0
  obtain ⟨v1, k1, o1, b1⟩ := B enc w n _ _ e1
  refine ⟨(v0, v1), ⟨_, _, ?_, k0, k1⟩, ⟨o0, o1⟩, ?_⟩
  · rw [List.take_of_length_le (l := cs.drop da.sz) (by rw [List.length_drop]; omega), List.take_append_drop]
  · simp only [Rows.uptoBulk, Rows.uptoBulkAll]
    omega
theorem came_iso {α β : Type} {d : Kd α} {t : TypeId} {ok : α → Prop} {wt : α → Nat} (f : β → α) (g : α → β) (hfg : ∀ x, f (g x) = x) (h : Came d t ok wt) : Came (Kd.iso d f) t (fun y => ok (f y)) (fun y => wt (f y)) := by
  intro H enc w fuel cs x hx
  obtain ⟨v, h1, h2, h3⟩ := h enc w fuel cs x hx
  exact ⟨g v, by show d.K w (f (g v)) cs; rw [hfg]; exact h1, by show ok (f (g v)); rw [hfg]; exact h2, by show wt (f (g v)) ≤ _; rw [hfg]; exact h3⟩
theorem came_mono {α : Type} {d : Kd α} {t : TypeId} {ok ok' : α → Prop} {wt : α → Nat} (h : Came d t ok wt) (hok : ∀ x, ok x → ok' x) : Came d t ok' wt := by
  intro H enc w fuel cs x hx
  obtain ⟨v, h1, h2, h3⟩ := h enc w fuel cs x hx
  exact ⟨v, h1, hok v h2, h3⟩
/-- What a slice argument is. -/
theorem came_C {α : Type} {d : Kd α} {t e : TypeId} {ok : List α → Prop} {wt : List α → Nat} (h : Came (Kd.slice e d) t ok wt) {H : Type} (enc : TypeId × Value → H) {w : World} {fuel : Nat} {v : Value} {x : DataW H × List MemPlace} (ht : DataW.trod enc Tryd.prog w 0 (fun _ => true) true fuel t v.cells.toList = some x) :
    ∃ (A : Option Addr) (c : Nat) (l : List α), v.cells.toList = [.slice A l.length c] ∧ l.length ≤ c ∧ d.C w A l.length l ∧ ok l ∧ wt l ≤ Rows.uptoBulk x.1 := by
  obtain ⟨l, ⟨A, c, h1, h2, h3⟩, h4, h5⟩ := h enc w fuel _ x ht
  exact ⟨A, c, l, h1, h2, h3, h4, h5⟩
end Go.Proofs.YtbbhjceelghadaaDoor.My
end

section
-- from CameR
namespace Go.Proofs.YtbbhjceelghadaaDoor.K
open Go Go.RowKit Go.Deep Go.ChangeShapes Go.WideShapes Go.ChangeAt Go.Proofs.YtbbhjceelghadaaDoorW.PrintWords Go.Proofs.YtbbhjceelghadaaDoor.My
instance : Inhabited SFact := ⟨⟨[], 0⟩⟩
instance : Inhabited SEntry := ⟨⟨0, []⟩⟩
instance : Inhabited SSpan := ⟨⟨0, 0⟩⟩
/-- Numbers of their kinds. -/
def I64 (n : Int) : Prop := -9223372036854775808 ≤ n ∧ n < 9223372036854775808
def FactW (f : SFact) : Prop := (∀ v ∈ f.f0, I64 v) ∧ I64 f.f1
def wtI (_ : Int) : Nat := 1
def wtF (f : SFact) : Nat := wtAll wtI f.f0 + 1 + 1 + 1
theorem i64_of {n : Int} (h : (Lit.int .i64 n).wf = true) : I64 n := by have := wf_i64 h; unfold I64; omega
theorem came_ints : Came (Kd.slice 3 (Kd.int .i64)) 50 (fun l => ∀ v ∈ l, I64 v) (fun l => wtAll wtI l + 1) :=
  came_mono (came_slice (wt := wtI) Tryd.underlying50 (by kernel_rfl) (came_int Tryd.underlying3)) (fun _ h x hx => i64_of (h x hx))
theorem came_fact : Came k76 76 FactW wtF :=
  came_mono (came_iso (fun x : SFact => (x.f0, x.f1)) (fun p => ⟨p.1, p.2⟩) (fun _ => rfl) (came_pair Tryd.underlying76 (by kernel_rfl) rfl rfl (by kernel_rfl) (by kernel_rfl) came_ints (came_int Tryd.underlying2))) (fun _ h => ⟨h.1, i64_of h.2⟩)
theorem came_facts : Came (Kd.slice 76 k76) 51 (fun l => ∀ v ∈ l, FactW v) (fun l => wtAll wtF l + 1) :=
  came_slice Tryd.underlying51 (by kernel_rfl) came_fact
end Go.Proofs.YtbbhjceelghadaaDoor.K
end

section
-- from K2
namespace Go.Proofs.YtbbhjceelghadaaDoor.K
open Go.RowKit Go.Proofs.YtbbhjceelghadaaDoorW.PrintWords Go.Proofs.YtbbhjceelghadaaDoorW.PrintLast Go.Proofs.YtbbhjceelghadaaDoorW.PrintMore
attribute [local go_sem] max2_int min2_int max_two min_two max_three min_three max_four min_four
set_option linter.unusedVariables false
set_option linter.unusedSimpArgs false
def stratumlaw07_heavy.l0 : Nat → List (S76) → Int → Int → Option (Int)
  | 0, _, _, _ => none
  | k + 1, x0, x3, x4 => if x4 < (x0.length : Int) then (if 0 ≤ x4 then (stratumlaw07_heavy.l0 k x0 (wrap64 (x3 + (wrap64 (1 + (((rd_T76 x0 x4).f0).length : Int))))) (wrap64 (x4 + 1))) else (none)) else (some x3)
def stratumlaw07_heavy.f (k : Nat) (l0 : List (S76)) : Option (Int) := stratumlaw07_heavy.l0 k l0 0 0
theorem stratumlaw07_heavy.mono_l : ∀ k, (∀ y0 y1 y2, LeO (stratumlaw07_heavy.l0 k y0 y1 y2) (stratumlaw07_heavy.l0 (k + 1) y0 y1 y2))
  | 0 => fun _ _ _ r h => by simp [stratumlaw07_heavy.l0] at h
  | k + 1 => by
    have ih0 := stratumlaw07_heavy.mono_l k
    · intro y0 y1 y2
      unfold stratumlaw07_heavy.l0
      repeat' first
      | (with_reducible exact ih0 _ _ _)
      | (with_reducible exact LeO.refl _)
      | (with_reducible exact LeO.none _)
      | (with_reducible refine LeO.ite ?_ ?_)
      | (with_reducible refine LeO.bind ?_ (fun _ => ?_))
      | exact ih0 _ _ _
      | exact LeO.none _
      | refine LeO.ite ?_ ?_
      | refine LeO.bind ?_ (fun _ => ?_)
theorem stratumlaw07_heavy.mono : ∀ a0 k, LeO (stratumlaw07_heavy.f k a0) (stratumlaw07_heavy.f (k + 1) a0) := by
  intro a0 k
  have ih0 := stratumlaw07_heavy.mono_l k
  unfold stratumlaw07_heavy.f
  repeat' first
      | (with_reducible exact ih0 _ _ _)
      | (with_reducible exact LeO.refl _)
      | (with_reducible exact LeO.none _)
      | (with_reducible refine LeO.ite ?_ ?_)
      | (with_reducible refine LeO.bind ?_ (fun _ => ?_))
      | exact ih0 _ _ _
      | exact LeO.none _
      | refine LeO.ite ?_ ?_
      | refine LeO.bind ?_ (fun _ => ?_)
set_option maxHeartbeats 8000000 in
set_option maxRecDepth 100000 in
theorem stratumlaw07_heavy.calls (k : Nat) (A0 : Option Addr) (c0 : Nat) (l0 : List (S76)) (r : Int) (w : World) (hr0 : Kd.C k76 w A0 l0.length l0) (hc0 : l0.length ≤ c0) (h : stratumlaw07_heavy.f k l0 = some r) :
    Calls Tryd.prog 47 #[.slice A0 l0.length c0] w fun e w' => e = .returned (.int .i64 r) ∧ Drawn0 w w' := by
  have HR0 := Aside0.mk hr0
  have HC0 := Aside0.mk hc0
  clear hr0 hc0
  have H : (stratumlaw07_heavy.l0 k l0 0 0) = some r := h
  clear h
  have H' := Aside0.mk H
  clear H
  go_enter Tryd.func47, Tryd.ntmps47
  go_wp2
  go_loopg [3, 4] k (fun kq v3 v4 w' => ∃ (x3_1 : Int) (x4_1 : Int), v3 = .int .i64 x3_1 ∧ v4 = .int .i64 x4_1 ∧ Aside0 (stratumlaw07_heavy.l0 kq l0 x3_1 x4_1 = some r) ∧ Aside0 (kq ≤ k) ∧ Drawn0 w w')
  case atStart => exact ⟨(0), (0), (by first | rfl | (simp; done) | (simp [*]; done)), (by first | rfl | (simp; done) | (simp [*]; done)), H', ⟨Nat.le_refl _⟩, by repeat (first | exact Drawn0.refl _ | apply Drawn0.step)⟩
  case round =>
    clear H'
    obtain ⟨x3_1, x4_1, rfl, rfl, HA, HK1, ⟨m1, rfl⟩⟩ := hrel
    cases gk with
    | zero => exact absurd HA.out (by simp [stratumlaw07_heavy.l0])
    | succ k1 =>
      have H := HA.out
      clear HA
      simp only [stratumlaw07_heavy.l0] at H
      by_cases c2 : x4_1 < (l0.length : Int)
      · rw [if_pos c2] at H
        have c2b0 : decide (x4_1 < (l0.length : Int)) = true := decide_eq_true c2
        clear c2
        by_cases c3 : 0 ≤ x4_1
        · rw [if_pos c3] at H
          have c3b0 : decide (0 ≤ x4_1) = true := decide_eq_true c3
          clear c3
          have H' := Aside0.mk H
          clear H
          have p101 : 0 ≤ (x4_1 : Int) := of_decide_eq_true (by first | (with_reducible assumption) | assumption)
          have q101 : x4_1 < (l0.length : Int) := of_decide_eq_true (by first | (with_reducible assumption) | assumption)
          obtain ⟨ad101, A101_0, c101_0, e101, hx101_0, hx101_1, hl101_0, hi101_0⟩ := at_T76 HR0.out x4_1 p101 q101
          cases e101
          have HR101_0 := Aside0.mk hi101_0
          have HC101_0 := Aside0.mk hl101_0
          clear hi101_0 hl101_0
          replace p101 := eq_true p101
          replace q101 := eq_true q101
          go_wp2
          go_roundg k1
          case measure => have := HK1.out; omega
          case rel => exact ⟨(wrap64 (x3_1 + (wrap64 (1 + (((rd_T76 l0 x4_1).f0).length : Int))))), (wrap64 (x4_1 + 1)), (by first | rfl | (simp; done) | (simp [*]; done)), (by first | rfl | (simp; done) | (simp [*]; done)), H', ⟨by have := HK1.out; omega⟩, by repeat (first | exact Drawn0.refl _ | apply Drawn0.step)⟩
        · rw [if_neg c3] at H
          exact absurd H (by simp)
      · rw [if_neg c2] at H
        have c2b0 : decide (x4_1 < (l0.length : Int)) = false := decide_eq_false c2
        clear c2
        obtain rfl := Option.some.inj H
        go_wp2
        go_ret
        exact ⟨by first | rfl | (simp; done) | (simp [*]; done), by repeat (first | exact Drawn0.refl _ | apply Drawn0.step)⟩
end Go.Proofs.YtbbhjceelghadaaDoor.K
end

section
-- from K59
namespace Go.Proofs.YtbbhjceelghadaaDoor.K
open Go.RowKit Go.Proofs.YtbbhjceelghadaaDoorW.PrintWords Go.Proofs.YtbbhjceelghadaaDoorW.PrintLast Go.Proofs.YtbbhjceelghadaaDoorW.PrintMore
attribute [local go_sem] max2_int min2_int max_two min_two max_three min_three max_four min_four
set_option linter.unusedVariables false
set_option linter.unusedSimpArgs false
mutual
def stratumlaw07_CodeLong.j0 : Nat → Int → Int → List (S76) → Bool → Option (Bool)
  | 0, _, _, _, _ => none
  | k + 1, x0, x1, x2, x20 => if x20 = true then ((stratumlaw07_known.f).bind fun t463 => (some t463)) else ((stratumlaw07_Make.f k 0 x0 0 x1 x2 ([] : List Int) 0 0 ([] : List (S124))).bind fun bt464 => (stratumlaw07_CodeLong.l0 k x0 (wrap64 (10 + (bt464.2.2.2.1.length : Int))) 0 bt464.1 bt464.2.1 bt464.2.2.1 bt464.2.2.2.1 bt464.2.2.2.2.1 bt464.2.2.2.2.2.1 bt464.2.2.2.2.2.2.1 bt464.2.2.2.2.2.2.2.1 bt464.2.2.2.2.2.2.2.2.1 bt464.2.2.2.2.2.2.2.2.2))
def stratumlaw07_CodeLong.l0 : Nat → Int → Int → Int → Int → Int → Int → List Int → List (S76) → Int → List (S132) → Int → Int → List (S124) → Option (Bool)
  | 0, _, _, _, _, _, _, _, _, _, _, _, _, _ => none
  | k + 1, x0, x8, x9, x483000, x483001, x483002, x483003, x483004, x483005, x483006, x483007, x483008, x483009 => if x9 < (x483004.length : Int) then (if 0 ≤ x9 then (stratumlaw07_CodeLong.l0 k x0 (wrap64 (x8 + (wrap64 (9 + (wrap64 (4 * (((rd_T76 x483004 x9).f0).length : Int))))))) (wrap64 (x9 + 1)) x483000 x483001 x483002 x483003 x483004 x483005 x483006 x483007 x483008 x483009) else (none)) else ((code_Encode.f x483000 x483001 x483002 x483003 x483004 x483005 x483006 x483007 x483008 x483009).bind fun bt484 => ((code_Encode.f 4 x0 0 ([] : List Int) ([] : List (S76)) 0 ([] : List (S132)) 0 0 ([] : List (S124))).bind fun bt488 => (if bt484.2 = 0 then (if (bt484.1.length : Int) = x8 then (if bt488.2 = 0 then (some ((bt488.1.length : Int) == 5)) else (some false)) else (some false)) else (some false))))
end
def stratumlaw07_CodeLong.f (k : Nat) (a0 : Int) (a1 : Int) (l2 : List (S76)) : Option (Bool) := (stratumlaw07_heavy.f k l2).bind fun t461 => (if t461 > 2000 then (stratumlaw07_CodeLong.j0 k a0 a1 l2 true) else ((stratumlaw07_known.f).bind fun t462 => (stratumlaw07_CodeLong.j0 k a0 a1 l2 (!t462))))
theorem stratumlaw07_CodeLong.mono_l : ∀ k, (∀ y0 y1 y2 y3, LeO (stratumlaw07_CodeLong.j0 k y0 y1 y2 y3) (stratumlaw07_CodeLong.j0 (k + 1) y0 y1 y2 y3)) ∧ (∀ y0 y1 y2 y3 y4 y5 y6 y7 y8 y9 y10 y11 y12, LeO (stratumlaw07_CodeLong.l0 k y0 y1 y2 y3 y4 y5 y6 y7 y8 y9 y10 y11 y12) (stratumlaw07_CodeLong.l0 (k + 1) y0 y1 y2 y3 y4 y5 y6 y7 y8 y9 y10 y11 y12))
  | 0 => ⟨fun _ _ _ _ r h => by simp [stratumlaw07_CodeLong.j0] at h, fun _ _ _ _ _ _ _ _ _ _ _ _ _ r h => by simp [stratumlaw07_CodeLong.l0] at h⟩
  | k + 1 => by
    obtain ⟨ih0, ih1⟩ := stratumlaw07_CodeLong.mono_l k
    refine ⟨?_, ?_⟩
    · intro y0 y1 y2 y3
      unfold stratumlaw07_CodeLong.j0
      repeat' first
      | (with_reducible exact ih0 _ _ _ _)
      | (with_reducible exact ih1 _ _ _ _ _ _ _ _ _ _ _ _ _)
      | (with_reducible exact stratumlaw07_Make.mono _ _ _ _ _ _ _ _ _ _)
      | (with_reducible exact stratumlaw07_heavy.mono _ _)
      | (with_reducible exact LeO.refl _)
      | (with_reducible exact LeO.none _)
      | (with_reducible refine LeO.ite ?_ ?_)
      | (with_reducible refine LeO.bind ?_ (fun _ => ?_))
      | exact ih0 _ _ _ _
      | exact ih1 _ _ _ _ _ _ _ _ _ _ _ _ _
      | exact stratumlaw07_Make.mono _ _ _ _ _ _ _ _ _ _
      | exact stratumlaw07_heavy.mono _ _
      | exact LeO.none _
      | refine LeO.ite ?_ ?_
      | refine LeO.bind ?_ (fun _ => ?_)
    · intro y0 y1 y2 y3 y4 y5 y6 y7 y8 y9 y10 y11 y12
      unfold stratumlaw07_CodeLong.l0
      repeat' first
      | (with_reducible exact ih0 _ _ _ _)
      | (with_reducible exact ih1 _ _ _ _ _ _ _ _ _ _ _ _ _)
      | (with_reducible exact stratumlaw07_Make.mono _ _ _ _ _ _ _ _ _ _)
      | (with_reducible exact stratumlaw07_heavy.mono _ _)
      | (with_reducible exact LeO.refl _)
      | (with_reducible exact LeO.none _)
      | (with_reducible refine LeO.ite ?_ ?_)
      | (with_reducible refine LeO.bind ?_ (fun _ => ?_))
      | exact ih0 _ _ _ _
      | exact ih1 _ _ _ _ _ _ _ _ _ _ _ _ _
      | exact stratumlaw07_Make.mono _ _ _ _ _ _ _ _ _ _
      | exact stratumlaw07_heavy.mono _ _
      | exact LeO.none _
      | refine LeO.ite ?_ ?_
      | refine LeO.bind ?_ (fun _ => ?_)
theorem stratumlaw07_CodeLong.mono : ∀ a0 a1 a2 k, LeO (stratumlaw07_CodeLong.f k a0 a1 a2) (stratumlaw07_CodeLong.f (k + 1) a0 a1 a2) := by
  intro a0 a1 a2 k
  obtain ⟨ih0, ih1⟩ := stratumlaw07_CodeLong.mono_l k
  unfold stratumlaw07_CodeLong.f
  repeat' first
      | (with_reducible exact ih0 _ _ _ _)
      | (with_reducible exact ih1 _ _ _ _ _ _ _ _ _ _ _ _ _)
      | (with_reducible exact stratumlaw07_Make.mono _ _ _ _ _ _ _ _ _ _)
      | (with_reducible exact stratumlaw07_heavy.mono _ _)
      | (with_reducible exact LeO.refl _)
      | (with_reducible exact LeO.none _)
      | (with_reducible refine LeO.ite ?_ ?_)
      | (with_reducible refine LeO.bind ?_ (fun _ => ?_))
      | exact ih0 _ _ _ _
      | exact ih1 _ _ _ _ _ _ _ _ _ _ _ _ _
      | exact stratumlaw07_Make.mono _ _ _ _ _ _ _ _ _ _
      | exact stratumlaw07_heavy.mono _ _
      | exact LeO.none _
      | refine LeO.ite ?_ ?_
      | refine LeO.bind ?_ (fun _ => ?_)
set_option maxHeartbeats 8000000 in
set_option maxRecDepth 100000 in
theorem stratumlaw07_CodeLong.calls (k : Nat) (a0 : Int) (a1 : Int) (A2 : Option Addr) (c2 : Nat) (l2 : List (S76)) (r : Bool) (w : World) (hr2 : Kd.C k76 w A2 l2.length l2) (hc2 : l2.length ≤ c2) (h : stratumlaw07_CodeLong.f k a0 a1 l2 = some r) :
    Calls Tryd.prog 14 #[.int .u32 a0, .int .u8 a1, .slice A2 l2.length c2] w fun e w' => e = .returned (.bool r) ∧ Below w.heap.size w w' := by
  have hu57 := Tryd.underlying57
  have HR2 := Aside0.mk hr2
  have HC2 := Aside0.mk hc2
  clear hr2 hc2
  have HB := Aside0.mk (Below.refl w.heap.size w)
  have H : ((stratumlaw07_heavy.f k l2).bind fun t461 => (if t461 > 2000 then (stratumlaw07_CodeLong.j0 k a0 a1 l2 true) else ((stratumlaw07_known.f).bind fun t462 => (stratumlaw07_CodeLong.j0 k a0 a1 l2 (!t462))))) = some r := h
  clear h
  have HC4 := Aside0.mk H
  clear H
  go_enter Tryd.func14, Tryd.ntmps14
  go_upto_region 1 with (fail)
  go_cut [20] (fun v20 wc => ∃ (kq : Nat) (x20_3 : Bool), v20 = .bool x20_3 ∧ Aside0 (stratumlaw07_CodeLong.j0 kq a0 a1 l2 x20_3 = some r) ∧ Aside0 (kq ≤ k) ∧ Aside0 (Below w.heap.size w wc))
  case first =>
    have H := HC4.out
    clear HC4
    replace H := Option.bind_eq_some_iff.mp H
    obtain ⟨t461, A50, H⟩ := H
    replace H : (if t461 > 2000 then (stratumlaw07_CodeLong.j0 k a0 a1 l2 true) else ((stratumlaw07_known.f).bind fun t462 => (stratumlaw07_CodeLong.j0 k a0 a1 l2 (!t462)))) = some r := H
    have A5 := Aside0.mk A50
    clear A50
    by_cases c6 : t461 > 2000
    · rw [if_pos c6] at H
      have c6b0 : decide (2000 < t461) = true := decide_eq_true c6
      clear c6
      (first | rw [c6b0] | (simp only [i64_w, i32_w]; rw [c6b0]) | skip)
      have H' := Aside0.mk H
      clear H
      go_wp2_with (first | ((with_reducible refine gate_callee (f := 47) rfl ?_); refine goesL_ (some 15) rfl rfl Tryd.func47 (by kernel_rfl) rfl #[.slice A2 l2.length c2] rfl (by (try simp only [List.map_toArray, List.map_cons, List.map_nil]); first | done | rfl | (simp only [List.length_drop, List.length_take]; rfl)) ?_; (with_reducible refine (stratumlaw07_heavy.calls k _ _ l2 t461 _ ?side1 ?side2 A5.out).mono ?_); (case side1 => repeat (first | exact (Kd.C_below HR2.out HB.out) | (with_reducible refine Kd.C_alloc ?_ _) | (with_reducible refine Kd.C_drewN ?_ _) | (with_reducible refine Kd.C_drew ?_))); (case side2 => exact HC2.out); rintro e w' ⟨rfl, ⟨nd, rfl⟩⟩; refine ⟨_, rfl, ?_⟩))
      go_meet
      case rel => exact ⟨_, (true), (by first | rfl | (simp; done) | (simp [*]; done)), H', ⟨by first | omega | exact Nat.le_refl _⟩, ⟨by repeat (first | (with_reducible first | exact HB.out | apply below_alloc | apply pw_below_drewN | apply below_drew1) | exact HB.out)⟩⟩
    · rw [if_neg c6] at H
      have c6b0 : decide (2000 < t461) = false := decide_eq_false c6
      clear c6
      (first | rw [c6b0] | (simp only [i64_w, i32_w]; rw [c6b0]) | skip)
      replace H := Option.bind_eq_some_iff.mp H
      obtain ⟨t462, A70, H⟩ := H
      replace H : (stratumlaw07_CodeLong.j0 k a0 a1 l2 (!t462)) = some r := H
      have A7 := Aside0.mk A70
      clear A70
      have H' := Aside0.mk H
      clear H
      go_wp2_with (first | ((with_reducible refine gate_callee (f := 47) rfl ?_); refine goesL_ (some 15) rfl rfl Tryd.func47 (by kernel_rfl) rfl #[.slice A2 l2.length c2] rfl (by (try simp only [List.map_toArray, List.map_cons, List.map_nil]); first | done | rfl | (simp only [List.length_drop, List.length_take]; rfl)) ?_; (with_reducible refine (stratumlaw07_heavy.calls k _ _ l2 t461 _ ?side1 ?side2 A5.out).mono ?_); (case side1 => repeat (first | exact (Kd.C_below HR2.out HB.out) | (with_reducible refine Kd.C_alloc ?_ _) | (with_reducible refine Kd.C_drewN ?_ _) | (with_reducible refine Kd.C_drew ?_))); (case side2 => exact HC2.out); rintro e w' ⟨rfl, ⟨nd, rfl⟩⟩; refine ⟨_, rfl, ?_⟩) | (go_at_call 38; (with_reducible refine (stratumlaw07_known.calls  t462 _ A7.out).mono ?_); rintro e w8 ⟨rfl, hb⟩; have n0_ := Aside0.mk (below_step (by repeat (first | (with_reducible first | exact HB.out | apply below_alloc | apply pw_below_drewN | apply below_drew1) | exact HB.out)) hb); clear HB; have HB := n0_; clear n0_; (try clear hb); (try clear hb2); (try clear hk); (try clear hi)))
      go_meet
      case rel => exact ⟨_, (!t462), (by first | rfl | (simp; done) | (simp [*]; done)), H', ⟨by first | omega | exact Nat.le_refl _⟩, ⟨by repeat (first | (with_reducible first | exact HB.out | apply below_alloc | apply pw_below_drewN | apply below_drew1) | exact HB.out)⟩⟩
  case rest =>
    clear HC4
    try clear c1
    try clear c2
    try clear p2
    try clear c4
    try clear c6
    try clear c6b0
    obtain ⟨kq, x20_3, rfl, HA, HJ3, HB⟩ := hcut
    cases kq with
    | zero => exact absurd HA.out (by simp [stratumlaw07_CodeLong.j0])
    | succ kj3 =>
      have H := HA.out
      clear HA
      simp only [stratumlaw07_CodeLong.j0] at H
      by_cases c9 : x20_3 = true
      · subst c9
        have H1 : ((stratumlaw07_known.f).bind fun t463 => (some t463)) = some r := by rw [if_pos rfl] at H; exact H
        clear H
        have H := H1
        clear H1
        replace H := Option.bind_eq_some_iff.mp H
        obtain ⟨t463, A100, H⟩ := H
        replace H : (some t463) = some r := H
        have A10 := Aside0.mk A100
        clear A100
        obtain rfl := Option.some.inj H
        go_wp2_with (first | ((with_reducible refine gate_callee (f := 38) rfl ?_); refine goesL_ (some 21) rfl rfl Tryd.func38 (by kernel_rfl) rfl #[] rfl (by (try simp only [List.map_toArray, List.map_cons, List.map_nil]); first | done | rfl | (simp only [List.length_drop, List.length_take]; rfl)) ?_; (with_reducible refine (stratumlaw07_known.calls  t463 _ A10.out).mono ?_); rintro e w11 ⟨rfl, hb⟩; refine ⟨_, rfl, ?_⟩; have n0_ := Aside0.mk (below_step (by repeat (first | (with_reducible first | exact HB.out | apply below_alloc | apply pw_below_drewN | apply below_drew1) | exact HB.out)) hb); clear HB; have HB := n0_; clear n0_; (try clear hb); (try clear hb2); (try clear hk); (try clear hi)))
        go_ret
        exact ⟨by first | rfl | (simp [errW_none, errW_some] <;> rfl) | (simp [*, errW_none, errW_some] <;> rfl), by repeat (first | (with_reducible first | exact HB.out | apply below_alloc | apply pw_below_drewN | apply below_drew1) | exact HB.out)⟩
      · replace c9 := Bool.eq_false_iff.mpr c9
        subst c9
        have H1 : ((stratumlaw07_Make.f kj3 0 a0 0 a1 l2 ([] : List Int) 0 0 ([] : List (S124))).bind fun bt464 => (stratumlaw07_CodeLong.l0 kj3 a0 (wrap64 (10 + (bt464.2.2.2.1.length : Int))) 0 bt464.1 bt464.2.1 bt464.2.2.1 bt464.2.2.2.1 bt464.2.2.2.2.1 bt464.2.2.2.2.2.1 bt464.2.2.2.2.2.2.1 bt464.2.2.2.2.2.2.2.1 bt464.2.2.2.2.2.2.2.2.1 bt464.2.2.2.2.2.2.2.2.2)) = some r := by rw [if_neg (show ¬ (false = true) by decide)] at H; exact H
        clear H
        have H := H1
        clear H1
        replace H := Option.bind_eq_some_iff.mp H
        obtain ⟨⟨t464, t465, t466, t467, t470, t473, t474, t477, t478, t479⟩, A120, H⟩ := H
        replace H : (stratumlaw07_CodeLong.l0 kj3 a0 (wrap64 (10 + (t467.length : Int))) 0 t464 t465 t466 t467 t470 t473 t474 t477 t478 t479) = some r := H
        have A12 := Aside0.mk A120
        clear A120
        have H' := Aside0.mk H
        clear H
        go_wp2_with (first | ((with_reducible refine gate_callee (f := 43) rfl ?_); refine goesL_ (some 25) rfl rfl Tryd.func43 (by kernel_rfl) rfl #[.int .u8 0, .int .u32 a0, .int .u32 0, .int .u8 a1, .slice A2 l2.length c2, .slice none 0 0, .int .u16 0, .int .u16 0, .slice none 0 0] rfl (by (try simp only [List.map_toArray, List.map_cons, List.map_nil]); first | done | rfl | (simp only [List.length_drop, List.length_take]; rfl)) ?_; (refine (stratumlaw07_Make.calls kj3 0 a0 0 a1 _ _ l2 _ _ ([] : List Int) 0 0 _ _ ([] : List (S124)) t464 t465 t466 t467 t470 t473 t474 t477 t478 t479 _ ?side1 ?side2 ?side3 ?side4 ?side5 ?side6 A12.out).mono ?_); (case side1 => repeat (first | exact (Kd.C_below HR2.out HB.out) | (with_reducible refine Kd.C_alloc ?_ _) | (with_reducible refine Kd.C_drewN ?_ _) | (with_reducible refine Kd.C_drew ?_))); (case side2 => exact HC2.out); (case side3 => exact Kd.C_nil _ _); (case side4 => exact Nat.le_refl _); (case side5 => exact Kd.C_nil _ _); (case side6 => exact Nat.le_refl _); rintro e w13 ⟨v468, v471, v475, v480, rfl, ho0, ho1, ho2, ho3, hb⟩; refine ⟨_, rfl, ?_⟩; have n0_ := Aside0.mk (Kd.R_lower ho0 (below_size (by repeat (first | (with_reducible first | exact HB.out | apply below_alloc | apply pw_below_drewN | apply below_drew1) | exact HB.out)))); have n1_ := Aside0.mk (Kd.R_lower ho1 (below_size (by repeat (first | (with_reducible first | exact HB.out | apply below_alloc | apply pw_below_drewN | apply below_drew1) | exact HB.out)))); have n2_ := Aside0.mk (Kd.R_lower ho2 (below_size (by repeat (first | (with_reducible first | exact HB.out | apply below_alloc | apply pw_below_drewN | apply below_drew1) | exact HB.out)))); have n3_ := Aside0.mk (Kd.R_lower ho3 (below_size (by repeat (first | (with_reducible first | exact HB.out | apply below_alloc | apply pw_below_drewN | apply below_drew1) | exact HB.out)))); have n4_ := Aside0.mk (below_step (by repeat (first | (with_reducible first | exact HB.out | apply below_alloc | apply pw_below_drewN | apply below_drew1) | exact HB.out)) hb); clear HB; have HO469 := n0_; have HO472 := n1_; have HO476 := n2_; have HO481 := n3_; have HB := n4_; clear n0_ n1_ n2_ n3_ n4_; (try clear hb); (try clear hb2); (try clear hk); (try clear hi); (try clear ho0); (try clear ho1); (try clear ho2); (try clear ho3)) | ((with_reducible refine gate_dst (N := 7) rfl ?_); (try (refine gate_guard (by rfl) ?_; dsimp only)); refine box_event ?hg (N := 7) ?hd (cs := #[.int .u8 0, .int .u32 0, .int .u32 0, .slice none 0 0, .slice none 0 0, .int .u32 0, .slice none 0 0, .int .i64 0, .int .i64 0, .slice none 0 0]) (t := 57) ?hr ?_; (case hd => rfl); (case hg => rfl); (case hr => first | (go_simp; done) | (go_simp; rfl)); intro gb482 hg w14 hbox hb; have n0_ := Aside0.mk (Kd.R_below (by (with_reducible repeat (first | apply Kd.R_alloc | apply Kd.R_drewN | apply Kd.R_drew)); exact HO469.out) hb); have n1_ := Aside0.mk (Kd.R_below (by (with_reducible repeat (first | apply Kd.R_alloc | apply Kd.R_drewN | apply Kd.R_drew)); exact HO472.out) hb); have n2_ := Aside0.mk (Kd.R_below (by (with_reducible repeat (first | apply Kd.R_alloc | apply Kd.R_drewN | apply Kd.R_drew)); exact HO476.out) hb); have n3_ := Aside0.mk (Kd.R_below (by (with_reducible repeat (first | apply Kd.R_alloc | apply Kd.R_drewN | apply Kd.R_drew)); exact HO481.out) hb); have n4_ := Aside0.mk (below_step (by repeat (first | (with_reducible first | exact HB.out | apply below_alloc | apply pw_below_drewN | apply below_drew1) | exact HB.out)) hb); have n5_ := Aside0.mk (hbox); have n6_ := Aside0.mk ((by rw [hg]; exact (below_size (by repeat (first | (with_reducible first | exact HB.out | apply below_alloc | apply pw_below_drewN | apply below_drew1) | exact HB.out))) : w.heap.size ≤ gb482)); have n7_ := Aside0.mk ((by rw [hg]; exact (below_size (by repeat (first | (with_reducible first | exact HB.out | apply below_alloc | apply pw_below_drewN | apply below_drew1) | exact HB.out))) : w.heap.size ≤ gb482)); clear HO469; clear HO472; clear HO476; clear HO481; clear HB; have HO469 := n0_; have HO472 := n1_; have HO476 := n2_; have HO481 := n3_; have HB := n4_; have BK482 := n5_; have GW482 := n6_; have GE482 := n7_; clear n0_ n1_ n2_ n3_ n4_ n5_ n6_ n7_; clear hb hbox hg; have hcz15_0 : w14.cell? ⟨gb482, 0, none⟩ = some (.int .u8 0) := (blk_cell BK482.out 0).trans rfl; have hcz15_1 : w14.cell? ⟨gb482, 1, none⟩ = some (.int .u32 0) := (blk_cell BK482.out 1).trans rfl; have hcz15_2 : w14.cell? ⟨gb482, 2, none⟩ = some (.int .u32 0) := (blk_cell BK482.out 2).trans rfl; have hcz15_3 : w14.cell? ⟨gb482, 3, none⟩ = some (.slice none 0 0) := (blk_cell BK482.out 3).trans rfl; have hcz15_4 : w14.cell? ⟨gb482, 4, none⟩ = some (.slice none 0 0) := (blk_cell BK482.out 4).trans rfl; have hcz15_5 : w14.cell? ⟨gb482, 5, none⟩ = some (.int .u32 0) := (blk_cell BK482.out 5).trans rfl; have hcz15_6 : w14.cell? ⟨gb482, 6, none⟩ = some (.slice none 0 0) := (blk_cell BK482.out 6).trans rfl; have hcz15_7 : w14.cell? ⟨gb482, 7, none⟩ = some (.int .i64 0) := (blk_cell BK482.out 7).trans rfl; have hcz15_8 : w14.cell? ⟨gb482, 8, none⟩ = some (.int .i64 0) := (blk_cell BK482.out 8).trans rfl; have hcz15_9 : w14.cell? ⟨gb482, 9, none⟩ = some (.slice none 0 0) := (blk_cell BK482.out 9).trans rfl; have hfz15_0 := blk_frozen BK482.out 0; have hfz15_1 := blk_frozen BK482.out 1; have hfz15_2 := blk_frozen BK482.out 2; have hfz15_3 := blk_frozen BK482.out 3; have hfz15_4 := blk_frozen BK482.out 4; have hfz15_5 := blk_frozen BK482.out 5; have hfz15_6 := blk_frozen BK482.out 6; have hfz15_7 := blk_frozen BK482.out 7; have hfz15_8 := blk_frozen BK482.out 8; have hfz15_9 := blk_frozen BK482.out 9; obtain ⟨Ao16, co16, eo16⟩ := Kd.R_slice HO469.out; subst eo16; obtain ⟨Ao17, co17, eo17⟩ := Kd.R_slice HO472.out; subst eo17; obtain ⟨Ao18, co18, eo18⟩ := Kd.R_slice HO476.out; subst eo18; obtain ⟨Ao19, co19, eo19⟩ := Kd.R_slice HO481.out; subst eo19))
        go_loopg [8, 9] kj3 (fun kq v8 v9 w' => ∃ (x8_2 : Int) (x9_2 : Int), v8 = .int .i64 x8_2 ∧ v9 = .int .i64 x9_2 ∧ Aside0 (stratumlaw07_CodeLong.l0 kq a0 x8_2 x9_2 t464 t465 t466 t467 t470 t473 t474 t477 t478 t479 = some r) ∧ Aside0 (kq ≤ kj3) ∧ Aside0 (Kd.R (Kd.int .i64) 3 w' w.heap.size (fun _ => True) (.slice Ao16 t467.length co16) t467) ∧ Aside0 (Kd.R k76 76 w' w.heap.size (fun k_ => some k_ ≠ ((.slice Ao16 t467.length co16) : Value).ownBlock) (.slice Ao17 t470.length co17) t470) ∧ Aside0 (Kd.R k132 132 w' w.heap.size (fun _ => True) (.slice Ao18 t474.length co18) t474) ∧ Aside0 (Kd.R k124 124 w' w.heap.size (fun k_ => some k_ ≠ ((.slice Ao16 t467.length co16) : Value).ownBlock ∧ some k_ ≠ ((.slice Ao17 t470.length co17) : Value).ownBlock) (.slice Ao19 t479.length co19) t479) ∧ Aside0 (w'.heap[gb482]? = some (.cells #[.int .u8 t464, .int .u32 t465, .int .u32 t466, (.slice Ao16 t467.length co16), (.slice Ao17 t470.length co17), .int .u32 t473, (.slice Ao18 t474.length co18), .int .i64 t477, .int .i64 t478, (.slice Ao19 t479.length co19)] 57 (0, 0))) ∧ Aside0 (Below w.heap.size w w'))
        case atStart => exact ⟨(wrap64 (10 + (t467.length : Int))), (0), (by first | rfl | (simp; done) | (simp [*]; done)), (by first | rfl | (simp; done) | (simp [*]; done)), H', ⟨Nat.le_refl _⟩, ⟨by (with_reducible repeat (first | apply Kd.R_alloc | apply Kd.R_drewN | apply Kd.R_drew)); exact Kd.R_mono (Kd.R_far (p := ⟨gb482, 9, none⟩) (Kd.R_far (p := ⟨gb482, 8, none⟩) (Kd.R_far (p := ⟨gb482, 7, none⟩) (Kd.R_far (p := ⟨gb482, 6, none⟩) (Kd.R_far (p := ⟨gb482, 5, none⟩) (Kd.R_far (p := ⟨gb482, 4, none⟩) (Kd.R_far (p := ⟨gb482, 3, none⟩) (Kd.R_far (p := ⟨gb482, 2, none⟩) (Kd.R_far (p := ⟨gb482, 1, none⟩) (Kd.R_far (p := ⟨gb482, 0, none⟩) (Kd.R_types HO469.out BK482.out (by decide)) (fun _ hk => hk.2) (.int .u8 t464)) (fun _ hk => hk.2) (.int .u32 t465)) (fun _ hk => hk.2) (.int .u32 t466)) (fun _ hk => hk.2) (.slice Ao16 t467.length co16)) (fun _ hk => hk.2) (.slice Ao17 t470.length co17)) (fun _ hk => hk.2) (.int .u32 t473)) (fun _ hk => hk.2) (.slice Ao18 t474.length co18)) (fun _ hk => hk.2) (.int .i64 t477)) (fun _ hk => hk.2) (.int .i64 t478)) (fun _ hk => hk.2) (.slice Ao19 t479.length co19)) (fun _ hk => trivial)⟩, ⟨by (with_reducible repeat (first | apply Kd.R_alloc | apply Kd.R_drewN | apply Kd.R_drew)); exact Kd.R_mono (Kd.R_far (p := ⟨gb482, 9, none⟩) (Kd.R_far (p := ⟨gb482, 8, none⟩) (Kd.R_far (p := ⟨gb482, 7, none⟩) (Kd.R_far (p := ⟨gb482, 6, none⟩) (Kd.R_far (p := ⟨gb482, 5, none⟩) (Kd.R_far (p := ⟨gb482, 4, none⟩) (Kd.R_far (p := ⟨gb482, 3, none⟩) (Kd.R_far (p := ⟨gb482, 2, none⟩) (Kd.R_far (p := ⟨gb482, 1, none⟩) (Kd.R_far (p := ⟨gb482, 0, none⟩) (Kd.R_types HO472.out BK482.out (by decide)) (fun _ hk => hk.2) (.int .u8 t464)) (fun _ hk => hk.2) (.int .u32 t465)) (fun _ hk => hk.2) (.int .u32 t466)) (fun _ hk => hk.2) (.slice Ao16 t467.length co16)) (fun _ hk => hk.2) (.slice Ao17 t470.length co17)) (fun _ hk => hk.2) (.int .u32 t473)) (fun _ hk => hk.2) (.slice Ao18 t474.length co18)) (fun _ hk => hk.2) (.int .i64 t477)) (fun _ hk => hk.2) (.int .i64 t478)) (fun _ hk => hk.2) (.slice Ao19 t479.length co19)) (fun _ hk => hk.1)⟩, ⟨by (with_reducible repeat (first | apply Kd.R_alloc | apply Kd.R_drewN | apply Kd.R_drew)); exact Kd.R_mono (Kd.R_far (p := ⟨gb482, 9, none⟩) (Kd.R_far (p := ⟨gb482, 8, none⟩) (Kd.R_far (p := ⟨gb482, 7, none⟩) (Kd.R_far (p := ⟨gb482, 6, none⟩) (Kd.R_far (p := ⟨gb482, 5, none⟩) (Kd.R_far (p := ⟨gb482, 4, none⟩) (Kd.R_far (p := ⟨gb482, 3, none⟩) (Kd.R_far (p := ⟨gb482, 2, none⟩) (Kd.R_far (p := ⟨gb482, 1, none⟩) (Kd.R_far (p := ⟨gb482, 0, none⟩) (Kd.R_types HO476.out BK482.out (by decide)) (fun _ hk => hk.2) (.int .u8 t464)) (fun _ hk => hk.2) (.int .u32 t465)) (fun _ hk => hk.2) (.int .u32 t466)) (fun _ hk => hk.2) (.slice Ao16 t467.length co16)) (fun _ hk => hk.2) (.slice Ao17 t470.length co17)) (fun _ hk => hk.2) (.int .u32 t473)) (fun _ hk => hk.2) (.slice Ao18 t474.length co18)) (fun _ hk => hk.2) (.int .i64 t477)) (fun _ hk => hk.2) (.int .i64 t478)) (fun _ hk => hk.2) (.slice Ao19 t479.length co19)) (fun _ hk => trivial)⟩, ⟨by (with_reducible repeat (first | apply Kd.R_alloc | apply Kd.R_drewN | apply Kd.R_drew)); exact Kd.R_mono (Kd.R_far (p := ⟨gb482, 9, none⟩) (Kd.R_far (p := ⟨gb482, 8, none⟩) (Kd.R_far (p := ⟨gb482, 7, none⟩) (Kd.R_far (p := ⟨gb482, 6, none⟩) (Kd.R_far (p := ⟨gb482, 5, none⟩) (Kd.R_far (p := ⟨gb482, 4, none⟩) (Kd.R_far (p := ⟨gb482, 3, none⟩) (Kd.R_far (p := ⟨gb482, 2, none⟩) (Kd.R_far (p := ⟨gb482, 1, none⟩) (Kd.R_far (p := ⟨gb482, 0, none⟩) (Kd.R_types HO481.out BK482.out (by decide)) (fun _ hk => hk.2) (.int .u8 t464)) (fun _ hk => hk.2) (.int .u32 t465)) (fun _ hk => hk.2) (.int .u32 t466)) (fun _ hk => hk.2) (.slice Ao16 t467.length co16)) (fun _ hk => hk.2) (.slice Ao17 t470.length co17)) (fun _ hk => hk.2) (.int .u32 t473)) (fun _ hk => hk.2) (.slice Ao18 t474.length co18)) (fun _ hk => hk.2) (.int .i64 t477)) (fun _ hk => hk.2) (.int .i64 t478)) (fun _ hk => hk.2) (.slice Ao19 t479.length co19)) (fun _ hk => ⟨hk.1.1, hk.1.2⟩)⟩, ⟨by (with_reducible repeat (first | refine blk_drewN ?_ _ | refine blk_drew ?_ | refine blk_alloc ?_ _)); refine blk_put (cs := #[.int .u8 t464, .int .u32 t465, .int .u32 t466, .slice Ao16 t467.length co16, .slice Ao17 t470.length co17, .int .u32 t473, .slice Ao18 t474.length co18, .int .i64 t477, .int .i64 t478, .slice none 0 0]) ?_ 9 _ rfl; (with_reducible repeat (first | refine blk_drewN ?_ _ | refine blk_drew ?_ | refine blk_alloc ?_ _)); refine blk_put (cs := #[.int .u8 t464, .int .u32 t465, .int .u32 t466, .slice Ao16 t467.length co16, .slice Ao17 t470.length co17, .int .u32 t473, .slice Ao18 t474.length co18, .int .i64 t477, .int .i64 0, .slice none 0 0]) ?_ 8 _ rfl; (with_reducible repeat (first | refine blk_drewN ?_ _ | refine blk_drew ?_ | refine blk_alloc ?_ _)); refine blk_put (cs := #[.int .u8 t464, .int .u32 t465, .int .u32 t466, .slice Ao16 t467.length co16, .slice Ao17 t470.length co17, .int .u32 t473, .slice Ao18 t474.length co18, .int .i64 0, .int .i64 0, .slice none 0 0]) ?_ 7 _ rfl; (with_reducible repeat (first | refine blk_drewN ?_ _ | refine blk_drew ?_ | refine blk_alloc ?_ _)); refine blk_put (cs := #[.int .u8 t464, .int .u32 t465, .int .u32 t466, .slice Ao16 t467.length co16, .slice Ao17 t470.length co17, .int .u32 t473, .slice none 0 0, .int .i64 0, .int .i64 0, .slice none 0 0]) ?_ 6 _ rfl; (with_reducible repeat (first | refine blk_drewN ?_ _ | refine blk_drew ?_ | refine blk_alloc ?_ _)); refine blk_put (cs := #[.int .u8 t464, .int .u32 t465, .int .u32 t466, .slice Ao16 t467.length co16, .slice Ao17 t470.length co17, .int .u32 0, .slice none 0 0, .int .i64 0, .int .i64 0, .slice none 0 0]) ?_ 5 _ rfl; (with_reducible repeat (first | refine blk_drewN ?_ _ | refine blk_drew ?_ | refine blk_alloc ?_ _)); refine blk_put (cs := #[.int .u8 t464, .int .u32 t465, .int .u32 t466, .slice Ao16 t467.length co16, .slice none 0 0, .int .u32 0, .slice none 0 0, .int .i64 0, .int .i64 0, .slice none 0 0]) ?_ 4 _ rfl; (with_reducible repeat (first | refine blk_drewN ?_ _ | refine blk_drew ?_ | refine blk_alloc ?_ _)); refine blk_put (cs := #[.int .u8 t464, .int .u32 t465, .int .u32 t466, .slice none 0 0, .slice none 0 0, .int .u32 0, .slice none 0 0, .int .i64 0, .int .i64 0, .slice none 0 0]) ?_ 3 _ rfl; (with_reducible repeat (first | refine blk_drewN ?_ _ | refine blk_drew ?_ | refine blk_alloc ?_ _)); refine blk_put (cs := #[.int .u8 t464, .int .u32 t465, .int .u32 0, .slice none 0 0, .slice none 0 0, .int .u32 0, .slice none 0 0, .int .i64 0, .int .i64 0, .slice none 0 0]) ?_ 2 _ rfl; (with_reducible repeat (first | refine blk_drewN ?_ _ | refine blk_drew ?_ | refine blk_alloc ?_ _)); refine blk_put (cs := #[.int .u8 t464, .int .u32 0, .int .u32 0, .slice none 0 0, .slice none 0 0, .int .u32 0, .slice none 0 0, .int .i64 0, .int .i64 0, .slice none 0 0]) ?_ 1 _ rfl; (with_reducible repeat (first | refine blk_drewN ?_ _ | refine blk_drew ?_ | refine blk_alloc ?_ _)); refine blk_put (cs := #[.int .u8 0, .int .u32 0, .int .u32 0, .slice none 0 0, .slice none 0 0, .int .u32 0, .slice none 0 0, .int .i64 0, .int .i64 0, .slice none 0 0]) ?_ 0 _ rfl; (with_reducible repeat (first | refine blk_drewN ?_ _ | refine blk_drew ?_ | refine blk_alloc ?_ _)); exact BK482.out⟩, ⟨by repeat (first | (with_reducible first | exact HB.out | apply below_alloc | apply pw_below_drewN | apply below_drew1 | refine below_set ?_ GE482.out) | exact HB.out)⟩⟩
        case round =>
          clear H'
          try clear c1
          try clear c2
          try clear p2
          try clear c3
          try clear c4
          try clear c6
          try clear c6b0
          try clear p6
          try clear c9
          try clear c14
          try clear hcz15_0
          try clear hcz15_1
          try clear hcz15_2
          try clear hcz15_3
          try clear hcz15_4
          try clear hcz15_5
          try clear hcz15_6
          try clear hcz15_7
          try clear hcz15_8
          try clear hcz15_9
          try clear hfz15_0
          try clear hfz15_1
          try clear hfz15_2
          try clear hfz15_3
          try clear hfz15_4
          try clear hfz15_5
          try clear hfz15_6
          try clear hfz15_7
          try clear hfz15_8
          try clear hfz15_9
          try clear p2
          obtain ⟨x8_2, x9_2, rfl, rfl, HA, HK2, HO_483003, HO_483004, HO_483006, HO_483009, BK482, HB⟩ := hrel
          cases gk with
          | zero => exact absurd HA.out (by simp [stratumlaw07_CodeLong.l0])
          | succ k2 =>
            have H := HA.out
            clear HA
            simp only [stratumlaw07_CodeLong.l0] at H
            by_cases c20 : x9_2 < (t470.length : Int)
            · rw [if_pos c20] at H
              have c20b0 : decide (x9_2 < (t470.length : Int)) = true := decide_eq_true c20
              clear c20
              by_cases c21 : 0 ≤ x9_2
              · rw [if_pos c21] at H
                have c21b0 : decide (0 ≤ x9_2) = true := decide_eq_true c21
                clear c21
                have H' := Aside0.mk H
                clear H
                have hcz22_0 : wr.cell? ⟨gb482, 0, none⟩ = some (.int .u8 t464) := (blk_cell BK482.out 0).trans rfl
                have hcz22_1 : wr.cell? ⟨gb482, 1, none⟩ = some (.int .u32 t465) := (blk_cell BK482.out 1).trans rfl
                have hcz22_2 : wr.cell? ⟨gb482, 2, none⟩ = some (.int .u32 t466) := (blk_cell BK482.out 2).trans rfl
                have hcz22_3 : wr.cell? ⟨gb482, 3, none⟩ = some (.slice Ao16 t467.length co16) := (blk_cell BK482.out 3).trans rfl
                have hcz22_4 : wr.cell? ⟨gb482, 4, none⟩ = some (.slice Ao17 t470.length co17) := (blk_cell BK482.out 4).trans rfl
                have hcz22_5 : wr.cell? ⟨gb482, 5, none⟩ = some (.int .u32 t473) := (blk_cell BK482.out 5).trans rfl
                have hcz22_6 : wr.cell? ⟨gb482, 6, none⟩ = some (.slice Ao18 t474.length co18) := (blk_cell BK482.out 6).trans rfl
                have hcz22_7 : wr.cell? ⟨gb482, 7, none⟩ = some (.int .i64 t477) := (blk_cell BK482.out 7).trans rfl
                have hcz22_8 : wr.cell? ⟨gb482, 8, none⟩ = some (.int .i64 t478) := (blk_cell BK482.out 8).trans rfl
                have hcz22_9 : wr.cell? ⟨gb482, 9, none⟩ = some (.slice Ao19 t479.length co19) := (blk_cell BK482.out 9).trans rfl
                have hfz22_0 := blk_frozen BK482.out 0
                have hfz22_1 := blk_frozen BK482.out 1
                have hfz22_2 := blk_frozen BK482.out 2
                have hfz22_3 := blk_frozen BK482.out 3
                have hfz22_4 := blk_frozen BK482.out 4
                have hfz22_5 := blk_frozen BK482.out 5
                have hfz22_6 := blk_frozen BK482.out 6
                have hfz22_7 := blk_frozen BK482.out 7
                have hfz22_8 := blk_frozen BK482.out 8
                have hfz22_9 := blk_frozen BK482.out 9
                have p483 : 0 ≤ (x9_2 : Int) := of_decide_eq_true (by first | (with_reducible assumption) | assumption)
                have q483 : x9_2 < (t470.length : Int) := of_decide_eq_true (by first | (with_reducible assumption) | assumption)
                obtain ⟨ad483, A483_0, c483_0, e483, hx483_0, hx483_1, hl483_0, hi483_0⟩ := at_T76 (Kd.R_reads' HO_483004.out).2.2 x9_2 p483 q483
                cases e483
                obtain ⟨ce483, hce483, hMe483, hcc483⟩ := Kd.R_get HO_483004.out z76 x9_2 p483 (by first | exact q483 | exact of_decide_eq_true (by first | (with_reducible assumption) | assumption) | (have e_ := (Kd.R_reads' HO_483004.out).1; omega))
                obtain ⟨ve483_0, rfl, ge483_0⟩ := k76_openM hMe483
                have hv483_0 := hcc483 0 _ rfl
                rw [Nat.add_zero] at hv483_0
                replace hv483_0 := Option.some.inj (hv483_0.symm.trans hx483_0)
                rw [hv483_0] at ge483_0
                have HL483_0 := Aside0.mk (show Kd.R (Kd.int .i64) 3 _ _ _ _ ((rd_T76 t470 x9_2).f0) from ge483_0)
                clear hv483_0 ge483_0
                clear hcc483 hce483
                have HR483_0 := Aside0.mk hi483_0
                have HC483_0 := Aside0.mk hl483_0
                clear hi483_0 hl483_0
                replace p483 := eq_true p483
                replace q483 := eq_true q483
                go_wp2
                go_roundg k2
                case measure => have := HJ3.out; have := HK2.out; omega
                case rel => exact ⟨(wrap64 (x8_2 + (wrap64 (9 + (wrap64 (4 * (((rd_T76 t470 x9_2).f0).length : Int))))))), (wrap64 (x9_2 + 1)), (by first | rfl | (simp; done) | (simp [*]; done)), (by first | rfl | (simp; done) | (simp [*]; done)), H', ⟨by have := HJ3.out; have := HK2.out; omega⟩, ⟨by (with_reducible repeat (first | apply Kd.R_alloc | apply Kd.R_drewN | apply Kd.R_drew)); exact HO_483003.out⟩, ⟨by (with_reducible repeat (first | apply Kd.R_alloc | apply Kd.R_drewN | apply Kd.R_drew)); exact HO_483004.out⟩, ⟨by (with_reducible repeat (first | apply Kd.R_alloc | apply Kd.R_drewN | apply Kd.R_drew)); exact HO_483006.out⟩, ⟨by (with_reducible repeat (first | apply Kd.R_alloc | apply Kd.R_drewN | apply Kd.R_drew)); exact HO_483009.out⟩, ⟨by (with_reducible repeat (first | refine blk_drewN ?_ _ | refine blk_drew ?_ | refine blk_alloc ?_ _)); exact BK482.out⟩, ⟨by repeat (first | (with_reducible first | exact HB.out | apply below_alloc | apply pw_below_drewN | apply below_drew1 | refine below_set ?_ GE482.out) | exact HB.out)⟩⟩
              · rw [if_neg c21] at H
                exact absurd H (by simp)
            · rw [if_neg c20] at H
              have c20b0 : decide (x9_2 < (t470.length : Int)) = false := decide_eq_false c20
              clear c20
              replace H := Option.bind_eq_some_iff.mp H
              obtain ⟨⟨t484, t487⟩, A230, H⟩ := H
              replace H : ((code_Encode.f 4 a0 0 ([] : List Int) ([] : List (S76)) 0 ([] : List (S132)) 0 0 ([] : List (S124))).bind fun bt488 => (if t487 = 0 then (if (t484.length : Int) = x8_2 then (if bt488.2 = 0 then (some ((bt488.1.length : Int) == 5)) else (some false)) else (some false)) else (some false))) = some r := H
              have A23 := Aside0.mk A230
              clear A230
              replace H := Option.bind_eq_some_iff.mp H
              obtain ⟨⟨t488, t491⟩, A240, H⟩ := H
              replace H : (if t487 = 0 then (if (t484.length : Int) = x8_2 then (if t491 = 0 then (some ((t488.length : Int) == 5)) else (some false)) else (some false)) else (some false)) = some r := H
              have A24 := Aside0.mk A240
              clear A240
              by_cases c25 : t487 = 0
              · rw [if_pos c25] at H
                have c25b0 : (t487 == 0) = true := beq_iff_eq.mpr c25
                have c25b1 : (t487 != 0) = false := bne_eq_false_iff_eq.mpr c25
                clear c25
                by_cases c26 : (t484.length : Int) = x8_2
                · rw [if_pos c26] at H
                  have c26b0 : ((t484.length : Int) == x8_2) = true := beq_iff_eq.mpr c26
                  have c26b1 : ((t484.length : Int) != x8_2) = false := bne_eq_false_iff_eq.mpr c26
                  clear c26
                  by_cases c27 : t491 = 0
                  · rw [if_pos c27] at H
                    have c27b0 : (t491 == 0) = true := beq_iff_eq.mpr c27
                    have c27b1 : (t491 != 0) = false := bne_eq_false_iff_eq.mpr c27
                    clear c27
                    obtain rfl := Option.some.inj H
                    have hcz28_0 : wr.cell? ⟨gb482, 0, none⟩ = some (.int .u8 t464) := (blk_cell BK482.out 0).trans rfl
                    have hcz28_1 : wr.cell? ⟨gb482, 1, none⟩ = some (.int .u32 t465) := (blk_cell BK482.out 1).trans rfl
                    have hcz28_2 : wr.cell? ⟨gb482, 2, none⟩ = some (.int .u32 t466) := (blk_cell BK482.out 2).trans rfl
                    have hcz28_3 : wr.cell? ⟨gb482, 3, none⟩ = some (.slice Ao16 t467.length co16) := (blk_cell BK482.out 3).trans rfl
                    have hcz28_4 : wr.cell? ⟨gb482, 4, none⟩ = some (.slice Ao17 t470.length co17) := (blk_cell BK482.out 4).trans rfl
                    have hcz28_5 : wr.cell? ⟨gb482, 5, none⟩ = some (.int .u32 t473) := (blk_cell BK482.out 5).trans rfl
                    have hcz28_6 : wr.cell? ⟨gb482, 6, none⟩ = some (.slice Ao18 t474.length co18) := (blk_cell BK482.out 6).trans rfl
                    have hcz28_7 : wr.cell? ⟨gb482, 7, none⟩ = some (.int .i64 t477) := (blk_cell BK482.out 7).trans rfl
                    have hcz28_8 : wr.cell? ⟨gb482, 8, none⟩ = some (.int .i64 t478) := (blk_cell BK482.out 8).trans rfl
                    have hcz28_9 : wr.cell? ⟨gb482, 9, none⟩ = some (.slice Ao19 t479.length co19) := (blk_cell BK482.out 9).trans rfl
                    have hfz28_0 := blk_frozen BK482.out 0
                    have hfz28_1 := blk_frozen BK482.out 1
                    have hfz28_2 := blk_frozen BK482.out 2
                    have hfz28_3 := blk_frozen BK482.out 3
                    have hfz28_4 := blk_frozen BK482.out 4
                    have hfz28_5 := blk_frozen BK482.out 5
                    have hfz28_6 := blk_frozen BK482.out 6
                    have hfz28_7 := blk_frozen BK482.out 7
                    have hfz28_8 := blk_frozen BK482.out 8
                    have hfz28_9 := blk_frozen BK482.out 9
                    go_wp2_with (first | ((with_reducible refine gate_callee (f := 39) rfl ?_); refine goesL_ (some 50) rfl rfl Tryd.func39 (by kernel_rfl) rfl #[.agg #[.int .u8 t464, .int .u32 t465, .int .u32 t466, .slice Ao16 t467.length co16, .slice Ao17 t470.length co17, .int .u32 t473, .slice Ao18 t474.length co18, .int .i64 t477, .int .i64 t478, .slice Ao19 t479.length co19]] rfl (by (try simp only [List.map_toArray, List.map_cons, List.map_nil]); first | done | rfl | (simp only [List.length_drop, List.length_take]; rfl)) ?_; (with_reducible refine (code_Encode.calls t464 t465 t466 _ _ t467 _ _ t470 t473 _ _ t474 t477 t478 _ _ t479 t484 t487 _ ?side1 ?side2 ?side3 ?side4 ?side5 ?side6 ?side7 ?side8 A23.out).mono ?_); (case side1 => repeat (first | exact (Kd.R_reads' HO_483003.out).2.2 | (with_reducible refine Kd.C_alloc ?_ _) | (with_reducible refine Kd.C_drewN ?_ _) | (with_reducible refine Kd.C_drew ?_))); (case side2 => exact (Kd.R_reads' HO_483003.out).2.1); (case side3 => repeat (first | exact (Kd.R_reads' HO_483004.out).2.2 | (with_reducible refine Kd.C_alloc ?_ _) | (with_reducible refine Kd.C_drewN ?_ _) | (with_reducible refine Kd.C_drew ?_))); (case side4 => exact (Kd.R_reads' HO_483004.out).2.1); (case side5 => repeat (first | exact (Kd.R_reads' HO_483006.out).2.2 | (with_reducible refine Kd.C_alloc ?_ _) | (with_reducible refine Kd.C_drewN ?_ _) | (with_reducible refine Kd.C_drew ?_))); (case side6 => exact (Kd.R_reads' HO_483006.out).2.1); (case side7 => repeat (first | exact (Kd.R_reads' HO_483009.out).2.2 | (with_reducible refine Kd.C_alloc ?_ _) | (with_reducible refine Kd.C_drewN ?_ _) | (with_reducible refine Kd.C_drew ?_))); (case side8 => exact (Kd.R_reads' HO_483009.out).2.1); rintro e w29 ⟨v485, rfl, ho0, hb⟩; refine ⟨_, rfl, ?_⟩; have n0_ := Aside0.mk (Kd.R_below (by (with_reducible repeat (first | apply Kd.R_alloc | apply Kd.R_drewN | apply Kd.R_drew)); exact HO_483003.out) hb); have n1_ := Aside0.mk (Kd.R_below (by (with_reducible repeat (first | apply Kd.R_alloc | apply Kd.R_drewN | apply Kd.R_drew)); exact HO_483004.out) hb); have n2_ := Aside0.mk (Kd.R_below (by (with_reducible repeat (first | apply Kd.R_alloc | apply Kd.R_drewN | apply Kd.R_drew)); exact HO_483006.out) hb); have n3_ := Aside0.mk (Kd.R_below (by (with_reducible repeat (first | apply Kd.R_alloc | apply Kd.R_drewN | apply Kd.R_drew)); exact HO_483009.out) hb); have n4_ := Aside0.mk (Kd.R_lower ho0 (below_size (by repeat (first | (with_reducible first | exact HB.out | apply below_alloc | apply pw_below_drewN | apply below_drew1 | refine below_set ?_ GE482.out) | exact HB.out)))); have n5_ := Aside0.mk (blk_below (g := gb482) (o := .cells #[.int .u8 t464, .int .u32 t465, .int .u32 t466, .slice Ao16 t467.length co16, .slice Ao17 t470.length co17, .int .u32 t473, .slice Ao18 t474.length co18, .int .i64 t477, .int .i64 t478, .slice Ao19 t479.length co19] 57 (0, 0)) (by (with_reducible repeat (first | refine blk_drewN ?_ _ | refine blk_drew ?_ | refine blk_alloc ?_ _)); exact BK482.out) hb); have n6_ := Aside0.mk (below_step (by repeat (first | (with_reducible first | exact HB.out | apply below_alloc | apply pw_below_drewN | apply below_drew1 | refine below_set ?_ GE482.out) | exact HB.out)) hb); clear HO_483003; clear HO_483004; clear HO_483006; clear HO_483009; clear BK482; clear HB; have HO_483003 := n0_; have HO_483004 := n1_; have HO_483006 := n2_; have HO_483009 := n3_; have HO486 := n4_; have BK482 := n5_; have HB := n6_; clear n0_ n1_ n2_ n3_ n4_ n5_ n6_; (try clear hb); (try clear hb2); (try clear hk); (try clear hi); (try clear ho0)) | ((with_reducible refine gate_callee (f := 39) rfl ?_); refine goesL_ (some 56) rfl rfl Tryd.func39 (by kernel_rfl) rfl #[.agg #[.int .u8 4, .int .u32 a0, .int .u32 0, .slice none 0 0, .slice none 0 0, .int .u32 0, .slice none 0 0, .int .i64 0, .int .i64 0, .slice none 0 0]] rfl (by (try simp only [List.map_toArray, List.map_cons, List.map_nil]); first | done | rfl | (simp only [List.length_drop, List.length_take]; rfl)) ?_; (refine (code_Encode.calls 4 a0 0 _ _ ([] : List Int) _ _ ([] : List (S76)) 0 _ _ ([] : List (S132)) 0 0 _ _ ([] : List (S124)) t488 t491 _ ?side1 ?side2 ?side3 ?side4 ?side5 ?side6 ?side7 ?side8 A24.out).mono ?_); (case side1 => exact Kd.C_nil _ _); (case side2 => exact Nat.le_refl _); (case side3 => exact Kd.C_nil _ _); (case side4 => exact Nat.le_refl _); (case side5 => exact Kd.C_nil _ _); (case side6 => exact Nat.le_refl _); (case side7 => exact Kd.C_nil _ _); (case side8 => exact Nat.le_refl _); rintro e w30 ⟨v489, rfl, ho0, hb⟩; refine ⟨_, rfl, ?_⟩; have n0_ := Aside0.mk (Kd.R_below (by (with_reducible repeat (first | apply Kd.R_alloc | apply Kd.R_drewN | apply Kd.R_drew)); exact HO_483003.out) hb); have n1_ := Aside0.mk (Kd.R_below (by (with_reducible repeat (first | apply Kd.R_alloc | apply Kd.R_drewN | apply Kd.R_drew)); exact HO_483004.out) hb); have n2_ := Aside0.mk (Kd.R_below (by (with_reducible repeat (first | apply Kd.R_alloc | apply Kd.R_drewN | apply Kd.R_drew)); exact HO_483006.out) hb); have n3_ := Aside0.mk (Kd.R_below (by (with_reducible repeat (first | apply Kd.R_alloc | apply Kd.R_drewN | apply Kd.R_drew)); exact HO_483009.out) hb); have n4_ := Aside0.mk (Kd.R_elder' (by (with_reducible repeat (first | apply Kd.R_alloc | apply Kd.R_drewN | apply Kd.R_drew)); exact HO486.out) (Kd.R_base ho0) hb); have n5_ := Aside0.mk (Kd.R_lower (Kd.R_new' ho0 (Kd.R_lt (by (with_reducible repeat (first | apply Kd.R_alloc | apply Kd.R_drewN | apply Kd.R_drew)); exact HO486.out))) (below_size (by repeat (first | (with_reducible first | exact HB.out | apply below_alloc | apply pw_below_drewN | apply below_drew1 | refine below_set ?_ GE482.out) | exact HB.out)))); have n6_ := Aside0.mk (blk_below (g := gb482) (o := .cells #[.int .u8 t464, .int .u32 t465, .int .u32 t466, .slice Ao16 t467.length co16, .slice Ao17 t470.length co17, .int .u32 t473, .slice Ao18 t474.length co18, .int .i64 t477, .int .i64 t478, .slice Ao19 t479.length co19] 57 (0, 0)) (by (with_reducible repeat (first | refine blk_drewN ?_ _ | refine blk_drew ?_ | refine blk_alloc ?_ _)); exact BK482.out) hb); have n7_ := Aside0.mk (below_step (by repeat (first | (with_reducible first | exact HB.out | apply below_alloc | apply pw_below_drewN | apply below_drew1 | refine below_set ?_ GE482.out) | exact HB.out)) hb); clear HO_483003; clear HO_483004; clear HO_483006; clear HO_483009; clear HO486; clear BK482; clear HB; have HO_483003 := n0_; have HO_483004 := n1_; have HO_483006 := n2_; have HO_483009 := n3_; have HO486 := n4_; have HO490 := n5_; have BK482 := n6_; have HB := n7_; clear n0_ n1_ n2_ n3_ n4_ n5_ n6_ n7_; (try clear hb); (try clear hb2); (try clear hk); (try clear hi); (try clear ho0); obtain ⟨Ao31, co31, eo31⟩ := Kd.R_slice HO486.out; subst eo31; obtain ⟨Ao32, co32, eo32⟩ := Kd.R_slice HO490.out; subst eo32))
                    go_ret
                    exact ⟨by first | rfl | (simp [errW_none, errW_some] <;> rfl) | (simp [*, errW_none, errW_some] <;> rfl), by repeat (first | (with_reducible first | exact HB.out | apply below_alloc | apply pw_below_drewN | apply below_drew1 | refine below_set ?_ GE482.out) | exact HB.out)⟩
                  · rw [if_neg c27] at H
                    have c27b0 : (t491 == 0) = false := beq_eq_false_iff_ne.mpr c27
                    have c27b1 : (t491 != 0) = true := bne_iff_ne.mpr c27
                    obtain rfl := Option.some.inj H
                    have hcz33_0 : wr.cell? ⟨gb482, 0, none⟩ = some (.int .u8 t464) := (blk_cell BK482.out 0).trans rfl
                    have hcz33_1 : wr.cell? ⟨gb482, 1, none⟩ = some (.int .u32 t465) := (blk_cell BK482.out 1).trans rfl
                    have hcz33_2 : wr.cell? ⟨gb482, 2, none⟩ = some (.int .u32 t466) := (blk_cell BK482.out 2).trans rfl
                    have hcz33_3 : wr.cell? ⟨gb482, 3, none⟩ = some (.slice Ao16 t467.length co16) := (blk_cell BK482.out 3).trans rfl
                    have hcz33_4 : wr.cell? ⟨gb482, 4, none⟩ = some (.slice Ao17 t470.length co17) := (blk_cell BK482.out 4).trans rfl
                    have hcz33_5 : wr.cell? ⟨gb482, 5, none⟩ = some (.int .u32 t473) := (blk_cell BK482.out 5).trans rfl
                    have hcz33_6 : wr.cell? ⟨gb482, 6, none⟩ = some (.slice Ao18 t474.length co18) := (blk_cell BK482.out 6).trans rfl
                    have hcz33_7 : wr.cell? ⟨gb482, 7, none⟩ = some (.int .i64 t477) := (blk_cell BK482.out 7).trans rfl
                    have hcz33_8 : wr.cell? ⟨gb482, 8, none⟩ = some (.int .i64 t478) := (blk_cell BK482.out 8).trans rfl
                    have hcz33_9 : wr.cell? ⟨gb482, 9, none⟩ = some (.slice Ao19 t479.length co19) := (blk_cell BK482.out 9).trans rfl
                    have hfz33_0 := blk_frozen BK482.out 0
                    have hfz33_1 := blk_frozen BK482.out 1
                    have hfz33_2 := blk_frozen BK482.out 2
                    have hfz33_3 := blk_frozen BK482.out 3
                    have hfz33_4 := blk_frozen BK482.out 4
                    have hfz33_5 := blk_frozen BK482.out 5
                    have hfz33_6 := blk_frozen BK482.out 6
                    have hfz33_7 := blk_frozen BK482.out 7
                    have hfz33_8 := blk_frozen BK482.out 8
                    have hfz33_9 := blk_frozen BK482.out 9
                    go_wp2_with (first | ((with_reducible refine gate_callee (f := 39) rfl ?_); refine goesL_ (some 50) rfl rfl Tryd.func39 (by kernel_rfl) rfl #[.agg #[.int .u8 t464, .int .u32 t465, .int .u32 t466, .slice Ao16 t467.length co16, .slice Ao17 t470.length co17, .int .u32 t473, .slice Ao18 t474.length co18, .int .i64 t477, .int .i64 t478, .slice Ao19 t479.length co19]] rfl (by (try simp only [List.map_toArray, List.map_cons, List.map_nil]); first | done | rfl | (simp only [List.length_drop, List.length_take]; rfl)) ?_; (with_reducible refine (code_Encode.calls t464 t465 t466 _ _ t467 _ _ t470 t473 _ _ t474 t477 t478 _ _ t479 t484 t487 _ ?side1 ?side2 ?side3 ?side4 ?side5 ?side6 ?side7 ?side8 A23.out).mono ?_); (case side1 => repeat (first | exact (Kd.R_reads' HO_483003.out).2.2 | (with_reducible refine Kd.C_alloc ?_ _) | (with_reducible refine Kd.C_drewN ?_ _) | (with_reducible refine Kd.C_drew ?_))); (case side2 => exact (Kd.R_reads' HO_483003.out).2.1); (case side3 => repeat (first | exact (Kd.R_reads' HO_483004.out).2.2 | (with_reducible refine Kd.C_alloc ?_ _) | (with_reducible refine Kd.C_drewN ?_ _) | (with_reducible refine Kd.C_drew ?_))); (case side4 => exact (Kd.R_reads' HO_483004.out).2.1); (case side5 => repeat (first | exact (Kd.R_reads' HO_483006.out).2.2 | (with_reducible refine Kd.C_alloc ?_ _) | (with_reducible refine Kd.C_drewN ?_ _) | (with_reducible refine Kd.C_drew ?_))); (case side6 => exact (Kd.R_reads' HO_483006.out).2.1); (case side7 => repeat (first | exact (Kd.R_reads' HO_483009.out).2.2 | (with_reducible refine Kd.C_alloc ?_ _) | (with_reducible refine Kd.C_drewN ?_ _) | (with_reducible refine Kd.C_drew ?_))); (case side8 => exact (Kd.R_reads' HO_483009.out).2.1); rintro e w34 ⟨v485, rfl, ho0, hb⟩; refine ⟨_, rfl, ?_⟩; have n0_ := Aside0.mk (Kd.R_below (by (with_reducible repeat (first | apply Kd.R_alloc | apply Kd.R_drewN | apply Kd.R_drew)); exact HO_483003.out) hb); have n1_ := Aside0.mk (Kd.R_below (by (with_reducible repeat (first | apply Kd.R_alloc | apply Kd.R_drewN | apply Kd.R_drew)); exact HO_483004.out) hb); have n2_ := Aside0.mk (Kd.R_below (by (with_reducible repeat (first | apply Kd.R_alloc | apply Kd.R_drewN | apply Kd.R_drew)); exact HO_483006.out) hb); have n3_ := Aside0.mk (Kd.R_below (by (with_reducible repeat (first | apply Kd.R_alloc | apply Kd.R_drewN | apply Kd.R_drew)); exact HO_483009.out) hb); have n4_ := Aside0.mk (Kd.R_lower ho0 (below_size (by repeat (first | (with_reducible first | exact HB.out | apply below_alloc | apply pw_below_drewN | apply below_drew1 | refine below_set ?_ GE482.out) | exact HB.out)))); have n5_ := Aside0.mk (blk_below (g := gb482) (o := .cells #[.int .u8 t464, .int .u32 t465, .int .u32 t466, .slice Ao16 t467.length co16, .slice Ao17 t470.length co17, .int .u32 t473, .slice Ao18 t474.length co18, .int .i64 t477, .int .i64 t478, .slice Ao19 t479.length co19] 57 (0, 0)) (by (with_reducible repeat (first | refine blk_drewN ?_ _ | refine blk_drew ?_ | refine blk_alloc ?_ _)); exact BK482.out) hb); have n6_ := Aside0.mk (below_step (by repeat (first | (with_reducible first | exact HB.out | apply below_alloc | apply pw_below_drewN | apply below_drew1 | refine below_set ?_ GE482.out) | exact HB.out)) hb); clear HO_483003; clear HO_483004; clear HO_483006; clear HO_483009; clear BK482; clear HB; have HO_483003 := n0_; have HO_483004 := n1_; have HO_483006 := n2_; have HO_483009 := n3_; have HO486 := n4_; have BK482 := n5_; have HB := n6_; clear n0_ n1_ n2_ n3_ n4_ n5_ n6_; (try clear hb); (try clear hb2); (try clear hk); (try clear hi); (try clear ho0)) | ((with_reducible refine gate_callee (f := 39) rfl ?_); refine goesL_ (some 56) rfl rfl Tryd.func39 (by kernel_rfl) rfl #[.agg #[.int .u8 4, .int .u32 a0, .int .u32 0, .slice none 0 0, .slice none 0 0, .int .u32 0, .slice none 0 0, .int .i64 0, .int .i64 0, .slice none 0 0]] rfl (by (try simp only [List.map_toArray, List.map_cons, List.map_nil]); first | done | rfl | (simp only [List.length_drop, List.length_take]; rfl)) ?_; (refine (code_Encode.calls 4 a0 0 _ _ ([] : List Int) _ _ ([] : List (S76)) 0 _ _ ([] : List (S132)) 0 0 _ _ ([] : List (S124)) t488 t491 _ ?side1 ?side2 ?side3 ?side4 ?side5 ?side6 ?side7 ?side8 A24.out).mono ?_); (case side1 => exact Kd.C_nil _ _); (case side2 => exact Nat.le_refl _); (case side3 => exact Kd.C_nil _ _); (case side4 => exact Nat.le_refl _); (case side5 => exact Kd.C_nil _ _); (case side6 => exact Nat.le_refl _); (case side7 => exact Kd.C_nil _ _); (case side8 => exact Nat.le_refl _); rintro e w35 ⟨v489, rfl, ho0, hb⟩; refine ⟨_, rfl, ?_⟩; have n0_ := Aside0.mk (Kd.R_below (by (with_reducible repeat (first | apply Kd.R_alloc | apply Kd.R_drewN | apply Kd.R_drew)); exact HO_483003.out) hb); have n1_ := Aside0.mk (Kd.R_below (by (with_reducible repeat (first | apply Kd.R_alloc | apply Kd.R_drewN | apply Kd.R_drew)); exact HO_483004.out) hb); have n2_ := Aside0.mk (Kd.R_below (by (with_reducible repeat (first | apply Kd.R_alloc | apply Kd.R_drewN | apply Kd.R_drew)); exact HO_483006.out) hb); have n3_ := Aside0.mk (Kd.R_below (by (with_reducible repeat (first | apply Kd.R_alloc | apply Kd.R_drewN | apply Kd.R_drew)); exact HO_483009.out) hb); have n4_ := Aside0.mk (Kd.R_elder' (by (with_reducible repeat (first | apply Kd.R_alloc | apply Kd.R_drewN | apply Kd.R_drew)); exact HO486.out) (Kd.R_base ho0) hb); have n5_ := Aside0.mk (Kd.R_lower (Kd.R_new' ho0 (Kd.R_lt (by (with_reducible repeat (first | apply Kd.R_alloc | apply Kd.R_drewN | apply Kd.R_drew)); exact HO486.out))) (below_size (by repeat (first | (with_reducible first | exact HB.out | apply below_alloc | apply pw_below_drewN | apply below_drew1 | refine below_set ?_ GE482.out) | exact HB.out)))); have n6_ := Aside0.mk (blk_below (g := gb482) (o := .cells #[.int .u8 t464, .int .u32 t465, .int .u32 t466, .slice Ao16 t467.length co16, .slice Ao17 t470.length co17, .int .u32 t473, .slice Ao18 t474.length co18, .int .i64 t477, .int .i64 t478, .slice Ao19 t479.length co19] 57 (0, 0)) (by (with_reducible repeat (first | refine blk_drewN ?_ _ | refine blk_drew ?_ | refine blk_alloc ?_ _)); exact BK482.out) hb); have n7_ := Aside0.mk (below_step (by repeat (first | (with_reducible first | exact HB.out | apply below_alloc | apply pw_below_drewN | apply below_drew1 | refine below_set ?_ GE482.out) | exact HB.out)) hb); clear HO_483003; clear HO_483004; clear HO_483006; clear HO_483009; clear HO486; clear BK482; clear HB; have HO_483003 := n0_; have HO_483004 := n1_; have HO_483006 := n2_; have HO_483009 := n3_; have HO486 := n4_; have HO490 := n5_; have BK482 := n6_; have HB := n7_; clear n0_ n1_ n2_ n3_ n4_ n5_ n6_ n7_; (try clear hb); (try clear hb2); (try clear hk); (try clear hi); (try clear ho0); obtain ⟨Ao36, co36, eo36⟩ := Kd.R_slice HO486.out; subst eo36))
                    go_ret
                    exact ⟨by first | rfl | (simp [errW_none, errW_some] <;> rfl) | (simp [*, errW_none, errW_some] <;> rfl), by repeat (first | (with_reducible first | exact HB.out | apply below_alloc | apply pw_below_drewN | apply below_drew1 | refine below_set ?_ GE482.out) | exact HB.out)⟩
                · rw [if_neg c26] at H
                  have c26b0 : ((t484.length : Int) == x8_2) = false := beq_eq_false_iff_ne.mpr c26
                  have c26b1 : ((t484.length : Int) != x8_2) = true := bne_iff_ne.mpr c26
                  obtain rfl := Option.some.inj H
                  have hcz37_0 : wr.cell? ⟨gb482, 0, none⟩ = some (.int .u8 t464) := (blk_cell BK482.out 0).trans rfl
                  have hcz37_1 : wr.cell? ⟨gb482, 1, none⟩ = some (.int .u32 t465) := (blk_cell BK482.out 1).trans rfl
                  have hcz37_2 : wr.cell? ⟨gb482, 2, none⟩ = some (.int .u32 t466) := (blk_cell BK482.out 2).trans rfl
                  have hcz37_3 : wr.cell? ⟨gb482, 3, none⟩ = some (.slice Ao16 t467.length co16) := (blk_cell BK482.out 3).trans rfl
                  have hcz37_4 : wr.cell? ⟨gb482, 4, none⟩ = some (.slice Ao17 t470.length co17) := (blk_cell BK482.out 4).trans rfl
                  have hcz37_5 : wr.cell? ⟨gb482, 5, none⟩ = some (.int .u32 t473) := (blk_cell BK482.out 5).trans rfl
                  have hcz37_6 : wr.cell? ⟨gb482, 6, none⟩ = some (.slice Ao18 t474.length co18) := (blk_cell BK482.out 6).trans rfl
                  have hcz37_7 : wr.cell? ⟨gb482, 7, none⟩ = some (.int .i64 t477) := (blk_cell BK482.out 7).trans rfl
                  have hcz37_8 : wr.cell? ⟨gb482, 8, none⟩ = some (.int .i64 t478) := (blk_cell BK482.out 8).trans rfl
                  have hcz37_9 : wr.cell? ⟨gb482, 9, none⟩ = some (.slice Ao19 t479.length co19) := (blk_cell BK482.out 9).trans rfl
                  have hfz37_0 := blk_frozen BK482.out 0
                  have hfz37_1 := blk_frozen BK482.out 1
                  have hfz37_2 := blk_frozen BK482.out 2
                  have hfz37_3 := blk_frozen BK482.out 3
                  have hfz37_4 := blk_frozen BK482.out 4
                  have hfz37_5 := blk_frozen BK482.out 5
                  have hfz37_6 := blk_frozen BK482.out 6
                  have hfz37_7 := blk_frozen BK482.out 7
                  have hfz37_8 := blk_frozen BK482.out 8
                  have hfz37_9 := blk_frozen BK482.out 9
                  go_wp2_with (first | ((with_reducible refine gate_callee (f := 39) rfl ?_); refine goesL_ (some 50) rfl rfl Tryd.func39 (by kernel_rfl) rfl #[.agg #[.int .u8 t464, .int .u32 t465, .int .u32 t466, .slice Ao16 t467.length co16, .slice Ao17 t470.length co17, .int .u32 t473, .slice Ao18 t474.length co18, .int .i64 t477, .int .i64 t478, .slice Ao19 t479.length co19]] rfl (by (try simp only [List.map_toArray, List.map_cons, List.map_nil]); first | done | rfl | (simp only [List.length_drop, List.length_take]; rfl)) ?_; (with_reducible refine (code_Encode.calls t464 t465 t466 _ _ t467 _ _ t470 t473 _ _ t474 t477 t478 _ _ t479 t484 t487 _ ?side1 ?side2 ?side3 ?side4 ?side5 ?side6 ?side7 ?side8 A23.out).mono ?_); (case side1 => repeat (first | exact (Kd.R_reads' HO_483003.out).2.2 | (with_reducible refine Kd.C_alloc ?_ _) | (with_reducible refine Kd.C_drewN ?_ _) | (with_reducible refine Kd.C_drew ?_))); (case side2 => exact (Kd.R_reads' HO_483003.out).2.1); (case side3 => repeat (first | exact (Kd.R_reads' HO_483004.out).2.2 | (with_reducible refine Kd.C_alloc ?_ _) | (with_reducible refine Kd.C_drewN ?_ _) | (with_reducible refine Kd.C_drew ?_))); (case side4 => exact (Kd.R_reads' HO_483004.out).2.1); (case side5 => repeat (first | exact (Kd.R_reads' HO_483006.out).2.2 | (with_reducible refine Kd.C_alloc ?_ _) | (with_reducible refine Kd.C_drewN ?_ _) | (with_reducible refine Kd.C_drew ?_))); (case side6 => exact (Kd.R_reads' HO_483006.out).2.1); (case side7 => repeat (first | exact (Kd.R_reads' HO_483009.out).2.2 | (with_reducible refine Kd.C_alloc ?_ _) | (with_reducible refine Kd.C_drewN ?_ _) | (with_reducible refine Kd.C_drew ?_))); (case side8 => exact (Kd.R_reads' HO_483009.out).2.1); rintro e w38 ⟨v485, rfl, ho0, hb⟩; refine ⟨_, rfl, ?_⟩; have n0_ := Aside0.mk (Kd.R_below (by (with_reducible repeat (first | apply Kd.R_alloc | apply Kd.R_drewN | apply Kd.R_drew)); exact HO_483003.out) hb); have n1_ := Aside0.mk (Kd.R_below (by (with_reducible repeat (first | apply Kd.R_alloc | apply Kd.R_drewN | apply Kd.R_drew)); exact HO_483004.out) hb); have n2_ := Aside0.mk (Kd.R_below (by (with_reducible repeat (first | apply Kd.R_alloc | apply Kd.R_drewN | apply Kd.R_drew)); exact HO_483006.out) hb); have n3_ := Aside0.mk (Kd.R_below (by (with_reducible repeat (first | apply Kd.R_alloc | apply Kd.R_drewN | apply Kd.R_drew)); exact HO_483009.out) hb); have n4_ := Aside0.mk (Kd.R_lower ho0 (below_size (by repeat (first | (with_reducible first | exact HB.out | apply below_alloc | apply pw_below_drewN | apply below_drew1 | refine below_set ?_ GE482.out) | exact HB.out)))); have n5_ := Aside0.mk (blk_below (g := gb482) (o := .cells #[.int .u8 t464, .int .u32 t465, .int .u32 t466, .slice Ao16 t467.length co16, .slice Ao17 t470.length co17, .int .u32 t473, .slice Ao18 t474.length co18, .int .i64 t477, .int .i64 t478, .slice Ao19 t479.length co19] 57 (0, 0)) (by (with_reducible repeat (first | refine blk_drewN ?_ _ | refine blk_drew ?_ | refine blk_alloc ?_ _)); exact BK482.out) hb); have n6_ := Aside0.mk (below_step (by repeat (first | (with_reducible first | exact HB.out | apply below_alloc | apply pw_below_drewN | apply below_drew1 | refine below_set ?_ GE482.out) | exact HB.out)) hb); clear HO_483003; clear HO_483004; clear HO_483006; clear HO_483009; clear BK482; clear HB; have HO_483003 := n0_; have HO_483004 := n1_; have HO_483006 := n2_; have HO_483009 := n3_; have HO486 := n4_; have BK482 := n5_; have HB := n6_; clear n0_ n1_ n2_ n3_ n4_ n5_ n6_; (try clear hb); (try clear hb2); (try clear hk); (try clear hi); (try clear ho0)) | ((with_reducible refine gate_callee (f := 39) rfl ?_); refine goesL_ (some 56) rfl rfl Tryd.func39 (by kernel_rfl) rfl #[.agg #[.int .u8 4, .int .u32 a0, .int .u32 0, .slice none 0 0, .slice none 0 0, .int .u32 0, .slice none 0 0, .int .i64 0, .int .i64 0, .slice none 0 0]] rfl (by (try simp only [List.map_toArray, List.map_cons, List.map_nil]); first | done | rfl | (simp only [List.length_drop, List.length_take]; rfl)) ?_; (refine (code_Encode.calls 4 a0 0 _ _ ([] : List Int) _ _ ([] : List (S76)) 0 _ _ ([] : List (S132)) 0 0 _ _ ([] : List (S124)) t488 t491 _ ?side1 ?side2 ?side3 ?side4 ?side5 ?side6 ?side7 ?side8 A24.out).mono ?_); (case side1 => exact Kd.C_nil _ _); (case side2 => exact Nat.le_refl _); (case side3 => exact Kd.C_nil _ _); (case side4 => exact Nat.le_refl _); (case side5 => exact Kd.C_nil _ _); (case side6 => exact Nat.le_refl _); (case side7 => exact Kd.C_nil _ _); (case side8 => exact Nat.le_refl _); rintro e w39 ⟨v489, rfl, ho0, hb⟩; refine ⟨_, rfl, ?_⟩; have n0_ := Aside0.mk (Kd.R_below (by (with_reducible repeat (first | apply Kd.R_alloc | apply Kd.R_drewN | apply Kd.R_drew)); exact HO_483003.out) hb); have n1_ := Aside0.mk (Kd.R_below (by (with_reducible repeat (first | apply Kd.R_alloc | apply Kd.R_drewN | apply Kd.R_drew)); exact HO_483004.out) hb); have n2_ := Aside0.mk (Kd.R_below (by (with_reducible repeat (first | apply Kd.R_alloc | apply Kd.R_drewN | apply Kd.R_drew)); exact HO_483006.out) hb); have n3_ := Aside0.mk (Kd.R_below (by (with_reducible repeat (first | apply Kd.R_alloc | apply Kd.R_drewN | apply Kd.R_drew)); exact HO_483009.out) hb); have n4_ := Aside0.mk (Kd.R_elder' (by (with_reducible repeat (first | apply Kd.R_alloc | apply Kd.R_drewN | apply Kd.R_drew)); exact HO486.out) (Kd.R_base ho0) hb); have n5_ := Aside0.mk (Kd.R_lower (Kd.R_new' ho0 (Kd.R_lt (by (with_reducible repeat (first | apply Kd.R_alloc | apply Kd.R_drewN | apply Kd.R_drew)); exact HO486.out))) (below_size (by repeat (first | (with_reducible first | exact HB.out | apply below_alloc | apply pw_below_drewN | apply below_drew1 | refine below_set ?_ GE482.out) | exact HB.out)))); have n6_ := Aside0.mk (blk_below (g := gb482) (o := .cells #[.int .u8 t464, .int .u32 t465, .int .u32 t466, .slice Ao16 t467.length co16, .slice Ao17 t470.length co17, .int .u32 t473, .slice Ao18 t474.length co18, .int .i64 t477, .int .i64 t478, .slice Ao19 t479.length co19] 57 (0, 0)) (by (with_reducible repeat (first | refine blk_drewN ?_ _ | refine blk_drew ?_ | refine blk_alloc ?_ _)); exact BK482.out) hb); have n7_ := Aside0.mk (below_step (by repeat (first | (with_reducible first | exact HB.out | apply below_alloc | apply pw_below_drewN | apply below_drew1 | refine below_set ?_ GE482.out) | exact HB.out)) hb); clear HO_483003; clear HO_483004; clear HO_483006; clear HO_483009; clear HO486; clear BK482; clear HB; have HO_483003 := n0_; have HO_483004 := n1_; have HO_483006 := n2_; have HO_483009 := n3_; have HO486 := n4_; have HO490 := n5_; have BK482 := n6_; have HB := n7_; clear n0_ n1_ n2_ n3_ n4_ n5_ n6_ n7_; (try clear hb); (try clear hb2); (try clear hk); (try clear hi); (try clear ho0); obtain ⟨Ao40, co40, eo40⟩ := Kd.R_slice HO486.out; subst eo40))
                  go_ret
                  exact ⟨by first | rfl | (simp [errW_none, errW_some] <;> rfl) | (simp [*, errW_none, errW_some] <;> rfl), by repeat (first | (with_reducible first | exact HB.out | apply below_alloc | apply pw_below_drewN | apply below_drew1 | refine below_set ?_ GE482.out) | exact HB.out)⟩
              · rw [if_neg c25] at H
                have c25b0 : (t487 == 0) = false := beq_eq_false_iff_ne.mpr c25
                have c25b1 : (t487 != 0) = true := bne_iff_ne.mpr c25
                obtain rfl := Option.some.inj H
                have hcz41_0 : wr.cell? ⟨gb482, 0, none⟩ = some (.int .u8 t464) := (blk_cell BK482.out 0).trans rfl
                have hcz41_1 : wr.cell? ⟨gb482, 1, none⟩ = some (.int .u32 t465) := (blk_cell BK482.out 1).trans rfl
                have hcz41_2 : wr.cell? ⟨gb482, 2, none⟩ = some (.int .u32 t466) := (blk_cell BK482.out 2).trans rfl
                have hcz41_3 : wr.cell? ⟨gb482, 3, none⟩ = some (.slice Ao16 t467.length co16) := (blk_cell BK482.out 3).trans rfl
                have hcz41_4 : wr.cell? ⟨gb482, 4, none⟩ = some (.slice Ao17 t470.length co17) := (blk_cell BK482.out 4).trans rfl
                have hcz41_5 : wr.cell? ⟨gb482, 5, none⟩ = some (.int .u32 t473) := (blk_cell BK482.out 5).trans rfl
                have hcz41_6 : wr.cell? ⟨gb482, 6, none⟩ = some (.slice Ao18 t474.length co18) := (blk_cell BK482.out 6).trans rfl
                have hcz41_7 : wr.cell? ⟨gb482, 7, none⟩ = some (.int .i64 t477) := (blk_cell BK482.out 7).trans rfl
                have hcz41_8 : wr.cell? ⟨gb482, 8, none⟩ = some (.int .i64 t478) := (blk_cell BK482.out 8).trans rfl
                have hcz41_9 : wr.cell? ⟨gb482, 9, none⟩ = some (.slice Ao19 t479.length co19) := (blk_cell BK482.out 9).trans rfl
                have hfz41_0 := blk_frozen BK482.out 0
                have hfz41_1 := blk_frozen BK482.out 1
                have hfz41_2 := blk_frozen BK482.out 2
                have hfz41_3 := blk_frozen BK482.out 3
                have hfz41_4 := blk_frozen BK482.out 4
                have hfz41_5 := blk_frozen BK482.out 5
                have hfz41_6 := blk_frozen BK482.out 6
                have hfz41_7 := blk_frozen BK482.out 7
                have hfz41_8 := blk_frozen BK482.out 8
                have hfz41_9 := blk_frozen BK482.out 9
                go_wp2_with (first | ((with_reducible refine gate_callee (f := 39) rfl ?_); refine goesL_ (some 50) rfl rfl Tryd.func39 (by kernel_rfl) rfl #[.agg #[.int .u8 t464, .int .u32 t465, .int .u32 t466, .slice Ao16 t467.length co16, .slice Ao17 t470.length co17, .int .u32 t473, .slice Ao18 t474.length co18, .int .i64 t477, .int .i64 t478, .slice Ao19 t479.length co19]] rfl (by (try simp only [List.map_toArray, List.map_cons, List.map_nil]); first | done | rfl | (simp only [List.length_drop, List.length_take]; rfl)) ?_; (with_reducible refine (code_Encode.calls t464 t465 t466 _ _ t467 _ _ t470 t473 _ _ t474 t477 t478 _ _ t479 t484 t487 _ ?side1 ?side2 ?side3 ?side4 ?side5 ?side6 ?side7 ?side8 A23.out).mono ?_); (case side1 => repeat (first | exact (Kd.R_reads' HO_483003.out).2.2 | (with_reducible refine Kd.C_alloc ?_ _) | (with_reducible refine Kd.C_drewN ?_ _) | (with_reducible refine Kd.C_drew ?_))); (case side2 => exact (Kd.R_reads' HO_483003.out).2.1); (case side3 => repeat (first | exact (Kd.R_reads' HO_483004.out).2.2 | (with_reducible refine Kd.C_alloc ?_ _) | (with_reducible refine Kd.C_drewN ?_ _) | (with_reducible refine Kd.C_drew ?_))); (case side4 => exact (Kd.R_reads' HO_483004.out).2.1); (case side5 => repeat (first | exact (Kd.R_reads' HO_483006.out).2.2 | (with_reducible refine Kd.C_alloc ?_ _) | (with_reducible refine Kd.C_drewN ?_ _) | (with_reducible refine Kd.C_drew ?_))); (case side6 => exact (Kd.R_reads' HO_483006.out).2.1); (case side7 => repeat (first | exact (Kd.R_reads' HO_483009.out).2.2 | (with_reducible refine Kd.C_alloc ?_ _) | (with_reducible refine Kd.C_drewN ?_ _) | (with_reducible refine Kd.C_drew ?_))); (case side8 => exact (Kd.R_reads' HO_483009.out).2.1); rintro e w42 ⟨v485, rfl, ho0, hb⟩; refine ⟨_, rfl, ?_⟩; have n0_ := Aside0.mk (Kd.R_below (by (with_reducible repeat (first | apply Kd.R_alloc | apply Kd.R_drewN | apply Kd.R_drew)); exact HO_483003.out) hb); have n1_ := Aside0.mk (Kd.R_below (by (with_reducible repeat (first | apply Kd.R_alloc | apply Kd.R_drewN | apply Kd.R_drew)); exact HO_483004.out) hb); have n2_ := Aside0.mk (Kd.R_below (by (with_reducible repeat (first | apply Kd.R_alloc | apply Kd.R_drewN | apply Kd.R_drew)); exact HO_483006.out) hb); have n3_ := Aside0.mk (Kd.R_below (by (with_reducible repeat (first | apply Kd.R_alloc | apply Kd.R_drewN | apply Kd.R_drew)); exact HO_483009.out) hb); have n4_ := Aside0.mk (Kd.R_lower ho0 (below_size (by repeat (first | (with_reducible first | exact HB.out | apply below_alloc | apply pw_below_drewN | apply below_drew1 | refine below_set ?_ GE482.out) | exact HB.out)))); have n5_ := Aside0.mk (blk_below (g := gb482) (o := .cells #[.int .u8 t464, .int .u32 t465, .int .u32 t466, .slice Ao16 t467.length co16, .slice Ao17 t470.length co17, .int .u32 t473, .slice Ao18 t474.length co18, .int .i64 t477, .int .i64 t478, .slice Ao19 t479.length co19] 57 (0, 0)) (by (with_reducible repeat (first | refine blk_drewN ?_ _ | refine blk_drew ?_ | refine blk_alloc ?_ _)); exact BK482.out) hb); have n6_ := Aside0.mk (below_step (by repeat (first | (with_reducible first | exact HB.out | apply below_alloc | apply pw_below_drewN | apply below_drew1 | refine below_set ?_ GE482.out) | exact HB.out)) hb); clear HO_483003; clear HO_483004; clear HO_483006; clear HO_483009; clear BK482; clear HB; have HO_483003 := n0_; have HO_483004 := n1_; have HO_483006 := n2_; have HO_483009 := n3_; have HO486 := n4_; have BK482 := n5_; have HB := n6_; clear n0_ n1_ n2_ n3_ n4_ n5_ n6_; (try clear hb); (try clear hb2); (try clear hk); (try clear hi); (try clear ho0)) | ((with_reducible refine gate_callee (f := 39) rfl ?_); refine goesL_ (some 56) rfl rfl Tryd.func39 (by kernel_rfl) rfl #[.agg #[.int .u8 4, .int .u32 a0, .int .u32 0, .slice none 0 0, .slice none 0 0, .int .u32 0, .slice none 0 0, .int .i64 0, .int .i64 0, .slice none 0 0]] rfl (by (try simp only [List.map_toArray, List.map_cons, List.map_nil]); first | done | rfl | (simp only [List.length_drop, List.length_take]; rfl)) ?_; (refine (code_Encode.calls 4 a0 0 _ _ ([] : List Int) _ _ ([] : List (S76)) 0 _ _ ([] : List (S132)) 0 0 _ _ ([] : List (S124)) t488 t491 _ ?side1 ?side2 ?side3 ?side4 ?side5 ?side6 ?side7 ?side8 A24.out).mono ?_); (case side1 => exact Kd.C_nil _ _); (case side2 => exact Nat.le_refl _); (case side3 => exact Kd.C_nil _ _); (case side4 => exact Nat.le_refl _); (case side5 => exact Kd.C_nil _ _); (case side6 => exact Nat.le_refl _); (case side7 => exact Kd.C_nil _ _); (case side8 => exact Nat.le_refl _); rintro e w43 ⟨v489, rfl, ho0, hb⟩; refine ⟨_, rfl, ?_⟩; have n0_ := Aside0.mk (Kd.R_below (by (with_reducible repeat (first | apply Kd.R_alloc | apply Kd.R_drewN | apply Kd.R_drew)); exact HO_483003.out) hb); have n1_ := Aside0.mk (Kd.R_below (by (with_reducible repeat (first | apply Kd.R_alloc | apply Kd.R_drewN | apply Kd.R_drew)); exact HO_483004.out) hb); have n2_ := Aside0.mk (Kd.R_below (by (with_reducible repeat (first | apply Kd.R_alloc | apply Kd.R_drewN | apply Kd.R_drew)); exact HO_483006.out) hb); have n3_ := Aside0.mk (Kd.R_below (by (with_reducible repeat (first | apply Kd.R_alloc | apply Kd.R_drewN | apply Kd.R_drew)); exact HO_483009.out) hb); have n4_ := Aside0.mk (Kd.R_elder' (by (with_reducible repeat (first | apply Kd.R_alloc | apply Kd.R_drewN | apply Kd.R_drew)); exact HO486.out) (Kd.R_base ho0) hb); have n5_ := Aside0.mk (Kd.R_lower (Kd.R_new' ho0 (Kd.R_lt (by (with_reducible repeat (first | apply Kd.R_alloc | apply Kd.R_drewN | apply Kd.R_drew)); exact HO486.out))) (below_size (by repeat (first | (with_reducible first | exact HB.out | apply below_alloc | apply pw_below_drewN | apply below_drew1 | refine below_set ?_ GE482.out) | exact HB.out)))); have n6_ := Aside0.mk (blk_below (g := gb482) (o := .cells #[.int .u8 t464, .int .u32 t465, .int .u32 t466, .slice Ao16 t467.length co16, .slice Ao17 t470.length co17, .int .u32 t473, .slice Ao18 t474.length co18, .int .i64 t477, .int .i64 t478, .slice Ao19 t479.length co19] 57 (0, 0)) (by (with_reducible repeat (first | refine blk_drewN ?_ _ | refine blk_drew ?_ | refine blk_alloc ?_ _)); exact BK482.out) hb); have n7_ := Aside0.mk (below_step (by repeat (first | (with_reducible first | exact HB.out | apply below_alloc | apply pw_below_drewN | apply below_drew1 | refine below_set ?_ GE482.out) | exact HB.out)) hb); clear HO_483003; clear HO_483004; clear HO_483006; clear HO_483009; clear HO486; clear BK482; clear HB; have HO_483003 := n0_; have HO_483004 := n1_; have HO_483006 := n2_; have HO_483009 := n3_; have HO486 := n4_; have HO490 := n5_; have BK482 := n6_; have HB := n7_; clear n0_ n1_ n2_ n3_ n4_ n5_ n6_ n7_; (try clear hb); (try clear hb2); (try clear hk); (try clear hi); (try clear ho0)))
                go_ret
                exact ⟨by first | rfl | (simp [errW_none, errW_some] <;> rfl) | (simp [*, errW_none, errW_some] <;> rfl), by repeat (first | (with_reducible first | exact HB.out | apply below_alloc | apply pw_below_drewN | apply below_drew1 | refine below_set ?_ GE482.out) | exact HB.out)⟩
end Go.Proofs.YtbbhjceelghadaaDoor.K
end

section
-- from LawLong
namespace Go.Proofs.YtbbhjceelghadaaDoor.K
open Go Go.RowKit Go.Proofs.YtbbhjceelghadaaDoorW.PrintWords Go.Proofs.YtbbhjceelghadaaDoorW.PrintLast Go.Proofs.YtbbhjceelghadaaDoorW.PrintMore Go.Proofs.YtbbhjceelghadaaDoor.My
theorem wrap_upL {i : Int} {n : Nat} (h0 : 0 ≤ i) (h : i < (n : Int)) (hn : n ≤ 9223372036854775807) : wrap64 (i + 1) = i + 1 := by unfold wrap64; omega
theorem rheavyL_ev (l : List SFact) (hn : l.length ≤ 9223372036854775807) (d : Nat) : ∀ i x : Int, 0 ≤ i → i ≤ l.length → (l.length : Int) - i = d → ∃ v, Ev (fun k => stratumlaw07_heavy.l0 k l x i) v := by
  induction d with
  | zero =>
    intro i x h0 h1 hd
    exact ⟨x, Ev.step (f := fun _ => some x) (fun k => by simp only [stratumlaw07_heavy.l0]; rw [if_neg (by omega)]) (Ev.now _)⟩
  | succ d ih =>
    intro i x h0 h1 hd
    have hlt : i < (l.length : Int) := by omega
    obtain ⟨v, hv⟩ := ih (i + 1) (wrap64 (x + wrap64 (1 + ((rd_T76 l i).f0.length : Int)))) (by omega) (by omega) (by omega)
    exact ⟨v, Ev.step (fun k => by simp only [stratumlaw07_heavy.l0]; rw [if_pos hlt, if_pos h0, wrap_upL h0 hlt hn]) hv⟩
theorem heavyL_ev (l : List SFact) (hn : l.length ≤ 9223372036854775807) : ∃ v, Ev (fun k => stratumlaw07_heavy.f k l) v := rheavyL_ev l hn l.length 0 0 (by omega) (by omega) (by omega)
theorem mkFact_len (f : SFact) : (mkFact f).f0.length ≤ 4 := by unfold mkFact; rw [List.length_map, List.length_take]; omega
theorem mkFacts_len (l : List SFact) : (mkFacts l).length ≤ 60 ∧ ∀ f ∈ mkFacts l, f.f0.length ≤ 4 := by
  unfold mkFacts
  refine ⟨by rw [List.length_map, List.length_take]; omega, fun f hf => ?_⟩
  obtain ⟨g, _, rfl⟩ := List.mem_map.1 hf
  exact mkFact_len g
theorem flat_le (l : List SFact) (h : ∀ f ∈ l, f.f0.length ≤ 4) : (l.flatMap factE).length ≤ 25 * l.length := by
  induction l with
  | nil => simp
  | cons f l ih =>
    rw [List.flatMap_cons, List.length_append, fact_len, List.length_cons]
    have h1 := h f List.mem_cons_self
    have h2 := ih (fun g hg => h g (List.mem_cons_of_mem _ hg))
    omega
theorem rlong_ev (id nodes : Int) (fs : List SFact) (hfl : fs.length ≤ 60) (hf : ∀ f ∈ fs, f.f0.length ≤ 4) (X : List UInt8) (hX : X.length ≤ 60000) (hE : encR ⟨1, id, 0, nodesM nodes, fs, ⟨0, []⟩, 0, 0, []⟩ = (nums X, 0)) (d : Nat) :
    ∀ i acc : Int, 0 ≤ i → i ≤ fs.length → (fs.length : Int) - i = d → 0 ≤ acc → acc + ((fs.drop i.toNat).flatMap factE).length = X.length →
    Ev (fun k => stratumlaw07_CodeLong.l0 k id acc i 1 id 0 (nodesM nodes) fs 0 [] 0 0 []) true := by
  induction d with
  | zero =>
    intro i acc h0 h1 hd ha hsum
    rw [List.drop_of_length_le (by omega)] at hsum
    simp only [List.flatMap_nil, List.length_nil] at hsum
    have e4 : code_Encode.f 4 id 0 ([] : List Int) ([] : List SFact) 0 ([] : List SSpan) 0 0 ([] : List SEntry) = some (nums (recE ⟨4, id, 0, [], [], ⟨0, []⟩, 0, 0, []⟩), 0) := by
      unfold code_Encode.f encR
      rw [if_pos (show soundB ⟨4, id, 0, [], [], ⟨0, []⟩, 0, 0, []⟩ = true from rfl), if_neg (by simp [recE, bodyE, layB_len])]
    have e1 : code_Encode.f 1 id 0 (nodesM nodes) fs 0 ([] : List SSpan) 0 0 ([] : List SEntry) = some (nums X, 0) := by
      unfold code_Encode.f
      rw [hE]
    refine Ev.step (f := fun _ => some true) (fun k => by
      simp only [stratumlaw07_CodeLong.l0]
      rw [if_neg (by omega), e1, e4]
      simp only [Option.bind_some, if_true]
      rw [if_pos (by rw [nums_len]; omega)]
      rw [nums_len, recE4]
      simp [layB_len]) (Ev.now _)
  | succ d ih =>
    intro i acc h0 h1 hd ha hsum
    have hlt : i < (fs.length : Int) := by omega
    rw [drop_rd' z76 fs i (by omega) h0, List.flatMap_cons, List.length_append, fact_len, show fs.getD i.toNat z76 = rd_T76 fs i from rfl] at hsum
    have hm : rd_T76 fs i ∈ fs := by
      unfold rd_T76
      rw [List.getD_eq_getElem?_getD, List.getElem?_eq_getElem (show i.toNat < fs.length by omega)]
      exact List.getElem_mem _
    have h4 := hf _ hm
    have ew : wrap64 (acc + wrap64 (9 + wrap64 (4 * ((rd_T76 fs i).f0.length : Int)))) = acc + (9 + 4 * ((rd_T76 fs i).f0.length : Int)) := by unfold wrap64; omega
    exact Ev.step (fun k => by simp only [stratumlaw07_CodeLong.l0]; rw [if_pos hlt, if_pos h0, ew, show wrap64 (i + 1) = i + 1 from by unfold wrap64; omega]) (ih (i + 1) _ (by omega) (by omega) (by omega) (by omega) (by omega))
theorem codeLong_pure (id nodes : Int) (l : List SFact) (hn : l.length ≤ 9223372036854775807) : ∃ k, stratumlaw07_CodeLong.f k id nodes l = some true := by
  apply Ev.rounds
  obtain ⟨v, hv⟩ := heavyL_ev l hn
  unfold stratumlaw07_CodeLong.f
  refine Ev.bind hv ?_
  by_cases h2 : v > 2000
  · exact Ev.congr (fun k => by rw [if_pos h2]) (Ev.step (f := fun _ => some true) (fun k => by simp only [stratumlaw07_CodeLong.j0]; rw [if_pos True.intro]; rfl) (Ev.now _))
  refine Ev.congr (f := fun k => stratumlaw07_CodeLong.j0 k id nodes l false) (fun k => by rw [if_neg h2]; rfl) ?_
  have hM := make_ev 0 id 0 nodes l [] 0 0 [] hn (fun e he => by cases he)
  have hr : makeR 0 id 0 nodes l [] 0 0 [] = ⟨1, id, 0, nodesM nodes, mkFacts l, ⟨0, []⟩, 0, 0, []⟩ := rfl
  rw [hr] at hM
  refine Ev.step (fun k => by simp only [stratumlaw07_CodeLong.j0]; rw [if_neg (by decide)]) (Ev.bind hM ?_)
  have hs : soundB ⟨1, id, 0, nodesM nodes, mkFacts l, ⟨0, []⟩, 0, 0, []⟩ = true := by rw [← hr]; exact make_sound 0 id 0 nodes l [] 0 0 [] (by omega) (fun v hv => by cases hv) (by omega) (by omega) (fun e he => by cases he)
  have h6 := rises_len _ (nodesM_rises nodes)
  have hf := mkFacts_len l
  have hfl := flat_le (mkFacts l) hf.2
  have hlen : (recE ⟨1, id, 0, nodesM nodes, mkFacts l, ⟨0, []⟩, 0, 0, []⟩).length = 10 + (nodesM nodes).length + ((mkFacts l).flatMap factE).length := by
    rw [recE1]
    simp only [List.length_append, List.length_nil, layB_len, nodesE_len]
    unfold factsE
    rw [List.length_append, layB_len]
    omega
  have hE : encR ⟨1, id, 0, nodesM nodes, mkFacts l, ⟨0, []⟩, 0, 0, []⟩ = (nums (recE ⟨1, id, 0, nodesM nodes, mkFacts l, ⟨0, []⟩, 0, 0, []⟩), 0) := by
    unfold encR
    rw [if_pos hs, if_neg (by omega)]
  simp only [flat10]
  rw [show wrap64 (10 + ((nodesM nodes).length : Int)) = 10 + ((nodesM nodes).length : Int) from by unfold wrap64; omega]
  exact rlong_ev id nodes (mkFacts l) hf.1 hf.2 _ (by omega) hE (mkFacts l).length 0 _ (by omega) (by omega) (by omega) (by omega) (by
    rw [show (0 : Int).toNat = 0 from rfl, List.drop_zero]; omega)
theorem codeLong_walk (a0 a1 : Int) (A : Option Addr) (c : Nat) (l : List SFact) (W : World) (_ : 0 ≤ a0 ∧ a0 < 4294967296) (_ : 0 ≤ a1 ∧ a1 < 256) (hC : Kd.C k76 W A l.length l) (hc : l.length ≤ c) (_ : ∀ f ∈ l, FactW f) :
    Calls Tryd.prog 14 #[.int .u32 a0, .int .u8 a1, .slice A l.length c] W fun e w' => e = .returned (.bool true) ∧ Below W.heap.size W w' := by
  obtain ⟨k, hk⟩ := codeLong_pure a0 a1 l (C_max hC)
  exact stratumlaw07_CodeLong.calls k a0 a1 A c l true W hC hc hk
end Go.Proofs.YtbbhjceelghadaaDoor.K
end
