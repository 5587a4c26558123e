/- Parts of the proof, one behind the other: CodeS, RefB, K38, RefS, Buf, CodeL. -/
import Derived.Test.YtbbhjceelghadaaDoorQCodeOnly3
import Derived.Test.YtbbhjceelghadaaDoorProg
import Derived.Below
import Derived.Deep.Draws
import Derived.Deep.AppendLies
import Derived.Maps.AppendAt
import Derived.OwnWalk
import Derived.Laws.BytesArg
import Derived.Laws.MakeOwn
import Derived.Laws.OwnMore
import Derived.Deep.OwnRows
import Derived.Tactics
import Derived.Lib.ConvBytes
import Derived.Laws.Slices
import Derived.WalkKit
import Derived.KernelRfl
import Derived.RowKit3
import Derived.Deep.LoopGhost
import Derived.Deep.QuietTactic
import Derived.BigQuiet
import Derived.WideLaws
import Derived.Deep.DeepCutAuto
import Derived.Deep.CutBlock
import Derived.Deep.RegionHeld3
import Derived.Laws.Rows
import Derived.Lib.AppendStr
import Derived.ArgAppend
import Derived.Laws.IdiomCopy
import Derived.OrdersHeld
import Derived.Laws.BitsLemmas
import Derived.RowKit
import Derived.WalkSpells
import Derived.WalkLawsBesides
import Derived.RegionTactic
import Derived.ChangeAlike
import Derived.Lib.Hide
import Derived.Lib.SlBytesConst
import Derived.Shelf.Abstract
import Derived.Laws.StructEq
import Derived.Shelf.LaysM
import Derived.Shelf.Bytes.Len
import Derived.Shelf.Bytes.TryGrow
import Derived.Shelf.Bytes.GrowSliceCatch
import Derived.Shelf.Bytes.GrowSlice
import Derived.Shelf.Bytes.Bytes
import Derived.Shelf.Bytes.GrowRow0Kept
import Derived.Shelf.Bytes.GrowRowKept
import Derived.Shelf.Bytes.GrowNilKept
import Derived.Shelf.Bytes.GrowKept
import Derived.Shelf.Bytes.WriteByteKept
import Derived.Shelf.Bytes.LenAt
import Derived.Shelf.Bytes.TryGrowAt
import Derived.Shelf.Bytes.GrowRow0At
import Derived.Shelf.Bytes.GrowRowAt
import Derived.Shelf.Bytes.GrowNilAt
import Derived.Shelf.Bytes.GrowAt
import Derived.Shelf.Bytes.WriteAt
import Derived.Ground.SlbCloneProg
import Derived.Shelf.Bytes.SlClone
import Derived.Lib.OthersKept
import Derived.Lib.BufferKept
import Derived.Lib.BufferWrite
set_option linter.unusedVariables false
set_option linter.unusedSimpArgs false
section
-- from CodeS
namespace Go.Proofs.YtbbhjceelghadaaDoor.K
open Go Go.RowKit Go.Proofs.YtbbhjceelghadaaDoorW.PrintWords Go.Proofs.YtbbhjceelghadaaDoorW.PrintLast Go.Proofs.YtbbhjceelghadaaDoorW.PrintMore Go.Proofs.YtbbhjceelghadaaDoor.My
theorem ten {w : World} {b t : Nat} {v0 v1 v2 v3 v4 v5 v6 v7 v8 v9 : Value} (h : w.heap[b]? = some (.cells #[v0, v1, v2, v3, v4, v5, v6, v7, v8, v9] t (0, 0))) :
    w.cell? ⟨b, 0, none⟩ = some v0 ∧ w.cell? ⟨b, 1, none⟩ = some v1 ∧ w.cell? ⟨b, 2, none⟩ = some v2 ∧ w.cell? ⟨b, 3, none⟩ = some v3 ∧ w.cell? ⟨b, 4, none⟩ = some v4 ∧ w.cell? ⟨b, 5, none⟩ = some v5 ∧ w.cell? ⟨b, 6, none⟩ = some v6 ∧ w.cell? ⟨b, 7, none⟩ = some v7 ∧ w.cell? ⟨b, 8, none⟩ = some v8 ∧ w.cell? ⟨b, 9, none⟩ = some v9 ∧
    w.frozen? ⟨b, 0, none⟩ = false ∧ w.frozen? ⟨b, 1, none⟩ = false ∧ w.frozen? ⟨b, 2, none⟩ = false ∧ w.frozen? ⟨b, 3, none⟩ = false ∧ w.frozen? ⟨b, 4, none⟩ = false ∧ w.frozen? ⟨b, 5, none⟩ = false ∧ w.frozen? ⟨b, 6, none⟩ = false ∧ w.frozen? ⟨b, 7, none⟩ = false ∧ w.frozen? ⟨b, 8, none⟩ = false ∧ w.frozen? ⟨b, 9, none⟩ = false :=
  ⟨(blk_cell h 0).trans rfl, (blk_cell h 1).trans rfl, (blk_cell h 2).trans rfl, (blk_cell h 3).trans rfl, (blk_cell h 4).trans rfl, (blk_cell h 5).trans rfl, (blk_cell h 6).trans rfl, (blk_cell h 7).trans rfl, (blk_cell h 8).trans rfl, (blk_cell h 9).trans rfl,
   blk_frozen h 0, blk_frozen h 1, blk_frozen h 2, blk_frozen h 3, blk_frozen h 4, blk_frozen h 5, blk_frozen h 6, blk_frozen h 7, blk_frozen h 8, blk_frozen h 9⟩
theorem plain_any (a0 a1 a2 : Int) (A3 : Option Addr) (c3 : Nat) (l3 : List Int) (A4 : Option Addr) (c4 : Nat) (l4 : List SFact) (a5 : Int) (A6 : Option Addr) (c6 : Nat) (l6 : List SSpan) (a7 a8 : Int) (A9 : Option Addr) (c9 : Nat) (l9 : List SEntry) (w : World)
    (h3 : Kd.C (Kd.int .i64) w A3 l3.length l3) (d3 : l3.length ≤ c3) (h4 : Kd.C k76 w A4 l4.length l4) (d4 : l4.length ≤ c4) (h6 : Kd.C k132 w A6 l6.length l6) (d6 : l6.length ≤ c6) (h9 : Kd.C k124 w A9 l9.length l9) (d9 : l9.length ≤ c9) :
    Calls Tryd.prog 96 #[.agg #[.int .u8 a0, .int .u32 a1, .int .u32 a2, .slice A3 l3.length c3, .slice A4 l4.length c4, .int .u32 a5, .slice A6 l6.length c6, .int .i64 a7, .int .i64 a8, .slice A9 l9.length c9]] w fun e w' => e = .returned (.bool (plainB a0 a1 a2 l3 l4 a5 l6 a7 a8 l9)) ∧ Below w.heap.size w w' :=
  code_plain.calls a0 a1 a2 A3 c3 l3 A4 c4 l4 a5 A6 c6 l6 a7 a8 A9 c9 l9 _ w h3 d3 h4 d4 h6 d6 h9 d9 (plain_ev _ _ _ _ _ _ _ _ _ _)
def code_Sound.f (a0_0 : Int) (a0_1 : Int) (a0_2 : Int) (l0_3 : List Int) (l0_4 : List SFact) (a0_5 : Int) (l0_6 : List SSpan) (a0_7 : Int) (a0_8 : Int) (l0_9 : List SEntry) : Option Bool :=
  some (soundB ⟨a0_0, a0_1, a0_2, l0_3, l0_4, ⟨a0_5, l0_6⟩, a0_7, a0_8, l0_9⟩)
theorem sound1 (a1 a2 : Int) (l3 : List Int) (l4 : List SFact) (a5 : Int) (l6 : List SSpan) (a7 a8 : Int) (l9 : List SEntry) : soundB ⟨1, a1, a2, l3, l4, ⟨a5, l6⟩, a7, a8, l9⟩ = (risesB (-1) l3 && batchB l4 && plainB 0 0 a2 [] [] a5 l6 a7 a8 l9) := by
  simp [soundB, plainB, Bool.and_assoc]
theorem sound2 (a1 a2 : Int) (l3 : List Int) (l4 : List SFact) (a5 : Int) (l6 : List SSpan) (a7 a8 : Int) (l9 : List SEntry) : soundB ⟨2, a1, a2, l3, l4, ⟨a5, l6⟩, a7, a8, l9⟩ = (risesB (-1) l3 && plainB 0 0 0 [] l4 a5 l6 a7 a8 l9) := by
  simp [soundB, plainB, Bool.and_assoc]
theorem sound345 (a0 a1 a2 : Int) (l3 : List Int) (l4 : List SFact) (a5 : Int) (l6 : List SSpan) (a7 a8 : Int) (l9 : List SEntry) (h : a0 = 3 ∨ a0 = 4 ∨ a0 = 5) : soundB ⟨a0, a1, a2, l3, l4, ⟨a5, l6⟩, a7, a8, l9⟩ = plainB 0 0 a2 l3 l4 a5 l6 a7 a8 l9 := by
  rcases h with rfl | rfl | rfl <;> simp [soundB, plainB, Bool.and_assoc]
theorem sound6 (a1 a2 : Int) (l3 : List Int) (l4 : List SFact) (a5 : Int) (l6 : List SSpan) (a7 a8 : Int) (l9 : List SEntry) : soundB ⟨6, a1, a2, l3, l4, ⟨a5, l6⟩, a7, a8, l9⟩ = (decide (a1 = 0) && decide ((l6.length : Int) ≤ 40) && !(l6.any fun s => !spanB s) && plainB 0 0 a2 l3 l4 0 [] a7 a8 l9) := by
  have e1 : l6.all spanB = !(l6.any fun s => !spanB s) := by rw [List.any_eq_not_all_not, Bool.not_not]; congr 1; funext v; simp
  have e2 : decide (l6.length ≤ 40) = decide ((l6.length : Int) ≤ 40) := by rw [decide_eq_decide]; omega
  have e3 : (a1 == 0) = decide (a1 = 0) := by rw [Bool.eq_iff_iff]; simp
  rw [← e1, ← e2, ← e3]
  simp [soundB, plainB, Bool.and_assoc]
theorem sound7 (a1 a2 : Int) (l3 : List Int) (l4 : List SFact) (a5 : Int) (l6 : List SSpan) (a7 a8 : Int) (l9 : List SEntry) : soundB ⟨7, a1, a2, l3, l4, ⟨a5, l6⟩, a7, a8, l9⟩ = ((historyB l9 && decide ((l9.length : Int) ≤ 5000)) && decide (0 ≤ a7) && decide (a7 ≤ 10000) && decide (0 ≤ a8) && decide (a8 ≤ 10000) && plainB 0 0 a2 l3 l4 a5 l6 0 0 []) := by
  have e2 : decide (l9.length ≤ 5000) = decide ((l9.length : Int) ≤ 5000) := by rw [decide_eq_decide]; omega
  rw [← e2]
  simp [soundB, plainB, Bool.and_assoc]
theorem sound0 (a0 a1 a2 : Int) (l3 : List Int) (l4 : List SFact) (a5 : Int) (l6 : List SSpan) (a7 a8 : Int) (l9 : List SEntry) (h : a0 < 1 ∨ 7 < a0) : soundB ⟨a0, a1, a2, l3, l4, ⟨a5, l6⟩, a7, a8, l9⟩ = false := by
  unfold soundB
  simp only
  rw [if_neg (by omega), if_neg (by omega), if_neg (by simp; omega), if_neg (by omega), if_neg (by omega)]
section
variable (a0 a1 a2 : Int) (A3 : Option Addr) (c3 : Nat) (l3 : List Int) (A4 : Option Addr) (c4 : Nat) (l4 : List SFact) (a5 : Int) (A6 : Option Addr) (c6 : Nat) (l6 : List SSpan) (a7 a8 : Int) (A9 : Option Addr) (c9 : Nat) (l9 : List SEntry) (w : World)
  (h3 : Kd.C (Kd.int .i64) w A3 l3.length l3) (d3 : l3.length ≤ c3) (h4 : Kd.C k76 w A4 l4.length l4) (d4 : l4.length ≤ c4) (h6 : Kd.C k132 w A6 l6.length l6) (d6 : l6.length ≤ c6) (h9 : Kd.C k124 w A9 l9.length l9) (d9 : l9.length ≤ c9)
include h3 d3 h4 d4 h6 d6 h9 d9
set_option maxHeartbeats 4000000 in
set_option maxRecDepth 20000 in
theorem sound1_any : Calls Tryd.prog 41 #[.agg #[.int .u8 1, .int .u32 a1, .int .u32 a2, .slice A3 l3.length c3, .slice A4 l4.length c4, .int .u32 a5, .slice A6 l6.length c6, .int .i64 a7, .int .i64 a8, .slice A9 l9.length c9]] w fun e w' => e = .returned (.bool (soundB ⟨1, a1, a2, l3, l4, ⟨a5, l6⟩, a7, a8, l9⟩)) ∧ Below w.heap.size w w' := by
  have H3 := Aside0.mk h3; have H4 := Aside0.mk h4; have H6 := Aside0.mk h6; have H9 := Aside0.mk h9
  clear h3 h4 h6 h9
  rw [sound1]
  cases hr : risesB (-1) l3 with
  | false =>
    have HQ := Aside0.mk hr
    clear hr
    rw [Bool.false_and, Bool.false_and]
    go_enter Tryd.func41, Tryd.ntmps41
    go_wp2_with (go_at_call 90; refine (rises_any _ _ l3 _ (Kd.C_below H3.out (by (with_reducible (repeat (first | exact Below.refl _ _ | apply below_alloc | apply below_drew | apply pw_below_drewN | apply below_bytesWorld | (refine below_set ?_ (by first | assumption | omega)) | refine below_step ?_ (by assumption)))))) d3).mono ?_; rintro e w1 ⟨rfl, hb1⟩; rw [HQ.out]; have hbk := ten (heap_below hb1 (heap_new' rfl)); obtain ⟨z0, z1, z2, z3, z4, z5, z6, z7, z8, z9, y0, y1, y2, y3, y4, y5, y6, y7, y8, y9⟩ := hbk)
    go_ret
    exact ⟨rfl, by (with_reducible (repeat (first | exact Below.refl _ _ | apply below_alloc | apply below_drew | apply pw_below_drewN | apply below_bytesWorld | (refine below_set ?_ (by first | assumption | omega)) | refine below_step ?_ (by assumption))))⟩
  | true =>
    have HQ := Aside0.mk hr
    clear hr
    rw [Bool.true_and]
    cases hb : batchB l4 with
    | false =>
      have HQ2 := Aside0.mk hb
      clear hb
      rw [Bool.false_and]
      go_enter Tryd.func41, Tryd.ntmps41
      go_wp2_with (first | (go_at_call 90; refine (rises_any _ _ l3 _ (Kd.C_below H3.out (by (with_reducible (repeat (first | exact Below.refl _ _ | apply below_alloc | apply below_drew | apply pw_below_drewN | apply below_bytesWorld | (refine below_set ?_ (by first | assumption | omega)) | refine below_step ?_ (by assumption)))))) d3).mono ?_; rintro e w1 ⟨rfl, hb1⟩; rw [HQ.out]; have hbk := ten (heap_below hb1 (heap_new' rfl)); obtain ⟨z0, z1, z2, z3, z4, z5, z6, z7, z8, z9, y0, y1, y2, y3, y4, y5, y6, y7, y8, y9⟩ := hbk) | (go_at_call 91; refine (code_batch.calls _ _ l4 _ _ (Kd.C_below H4.out (by (with_reducible (repeat (first | exact Below.refl _ _ | apply below_alloc | apply below_drew | apply pw_below_drewN | apply below_bytesWorld | (refine below_set ?_ (by first | assumption | omega)) | refine below_step ?_ (by assumption)))))) d4 rfl).mono ?_; rintro e w2 ⟨rfl, hb2⟩; rw [HQ2.out]; have hbk1 := heap_below hb2 (heap_below hb1 (heap_new' rfl)); clear z0 z1 z2 z3 z4 z5 z6 z7 z8 z9 y0 y1 y2 y3 y4 y5 y6 y7 y8 y9; obtain ⟨z0, z1, z2, z3, z4, z5, z6, z7, z8, z9, y0, y1, y2, y3, y4, y5, y6, y7, y8, y9⟩ := ten hbk1; clear hbk1))
      go_ret
      exact ⟨rfl, by (with_reducible (repeat (first | exact Below.refl _ _ | apply below_alloc | apply below_drew | apply pw_below_drewN | apply below_bytesWorld | (refine below_set ?_ (by first | assumption | omega)) | refine below_step ?_ (by assumption))))⟩
    | true =>
      have HQ2 := Aside0.mk hb
      clear hb
      rw [Bool.true_and]
      generalize hp : plainB 0 0 a2 [] [] a5 l6 a7 a8 l9 = P
      have HP := Aside0.mk hp
      clear hp
      go_enter Tryd.func41, Tryd.ntmps41
      go_wp2_with (first | (go_at_call 90; refine (rises_any _ _ l3 _ (Kd.C_below H3.out (by (with_reducible (repeat (first | exact Below.refl _ _ | apply below_alloc | apply below_drew | apply pw_below_drewN | apply below_bytesWorld | (refine below_set ?_ (by first | assumption | omega)) | refine below_step ?_ (by assumption)))))) d3).mono ?_; rintro e w1 ⟨rfl, hb1⟩; rw [HQ.out]; have hbk := ten (heap_below hb1 (heap_new' rfl)); obtain ⟨z0, z1, z2, z3, z4, z5, z6, z7, z8, z9, y0, y1, y2, y3, y4, y5, y6, y7, y8, y9⟩ := hbk) | (go_at_call 91; refine (code_batch.calls _ _ l4 _ _ (Kd.C_below H4.out (by (with_reducible (repeat (first | exact Below.refl _ _ | apply below_alloc | apply below_drew | apply pw_below_drewN | apply below_bytesWorld | (refine below_set ?_ (by first | assumption | omega)) | refine below_step ?_ (by assumption)))))) d4 rfl).mono ?_; rintro e w2 ⟨rfl, hb2⟩; rw [HQ2.out]; have hbk1 := heap_below hb2 (heap_below hb1 (heap_new' rfl)); clear z0 z1 z2 z3 z4 z5 z6 z7 z8 z9 y0 y1 y2 y3 y4 y5 y6 y7 y8 y9; obtain ⟨z0, z1, z2, z3, z4, z5, z6, z7, z8, z9, y0, y1, y2, y3, y4, y5, y6, y7, y8, y9⟩ := ten hbk1; clear hbk1) | (go_at_call 96; refine (plain_any 0 0 a2 none 0 ([] : List Int) none 0 ([] : List SFact) a5 A6 c6 l6 a7 a8 A9 c9 l9 _ (Kd.C_nil _ _) (Nat.le_refl _) (Kd.C_nil _ _) (Nat.le_refl _) (Kd.C_below H6.out (by (with_reducible (repeat (first | exact Below.refl _ _ | apply below_alloc | apply below_drew | apply pw_below_drewN | apply below_bytesWorld | (refine below_set ?_ (by first | assumption | omega)) | refine below_step ?_ (by assumption)))))) d6 (Kd.C_below H9.out (by (with_reducible (repeat (first | exact Below.refl _ _ | apply below_alloc | apply below_drew | apply pw_below_drewN | apply below_bytesWorld | (refine below_set ?_ (by first | assumption | omega)) | refine below_step ?_ (by assumption)))))) d9).mono ?_; rintro e w9 ⟨rfl, hb9⟩))
      go_ret
      exact ⟨by rw [← HP.out]; rfl, by (with_reducible (repeat (first | exact Below.refl _ _ | apply below_alloc | apply below_drew | apply pw_below_drewN | apply below_bytesWorld | (refine below_set ?_ (by first | assumption | omega)) | refine below_step ?_ (by assumption))))⟩
set_option maxHeartbeats 4000000 in
set_option maxRecDepth 20000 in
theorem sound2_any : Calls Tryd.prog 41 #[.agg #[.int .u8 2, .int .u32 a1, .int .u32 a2, .slice A3 l3.length c3, .slice A4 l4.length c4, .int .u32 a5, .slice A6 l6.length c6, .int .i64 a7, .int .i64 a8, .slice A9 l9.length c9]] w fun e w' => e = .returned (.bool (soundB ⟨2, a1, a2, l3, l4, ⟨a5, l6⟩, a7, a8, l9⟩)) ∧ Below w.heap.size w w' := by
  have H3 := Aside0.mk h3; have H4 := Aside0.mk h4; have H6 := Aside0.mk h6; have H9 := Aside0.mk h9
  clear h3 h4 h6 h9
  rw [sound2]
  cases hr : risesB (-1) l3 with
  | false =>
    have HQ := Aside0.mk hr
    clear hr
    rw [Bool.false_and]
    go_enter Tryd.func41, Tryd.ntmps41
    go_wp2_with (go_at_call 90; refine (rises_any _ _ l3 _ (Kd.C_below H3.out (by (with_reducible (repeat (first | exact Below.refl _ _ | apply below_alloc | apply below_drew | apply pw_below_drewN | apply below_bytesWorld | (refine below_set ?_ (by first | assumption | omega)) | refine below_step ?_ (by assumption)))))) d3).mono ?_; rintro e w1 ⟨rfl, hb1⟩; rw [HQ.out]; have hbk := ten (heap_below hb1 (heap_new' rfl)); obtain ⟨z0, z1, z2, z3, z4, z5, z6, z7, z8, z9, y0, y1, y2, y3, y4, y5, y6, y7, y8, y9⟩ := hbk)
    go_ret
    exact ⟨rfl, by (with_reducible (repeat (first | exact Below.refl _ _ | apply below_alloc | apply below_drew | apply pw_below_drewN | apply below_bytesWorld | (refine below_set ?_ (by first | assumption | omega)) | refine below_step ?_ (by assumption))))⟩
  | true =>
    have HQ := Aside0.mk hr
    clear hr
    rw [Bool.true_and]
    generalize hp : plainB 0 0 0 [] l4 a5 l6 a7 a8 l9 = P
    have HP := Aside0.mk hp
    clear hp
    go_enter Tryd.func41, Tryd.ntmps41
    go_wp2_with (first | (go_at_call 90; refine (rises_any _ _ l3 _ (Kd.C_below H3.out (by (with_reducible (repeat (first | exact Below.refl _ _ | apply below_alloc | apply below_drew | apply pw_below_drewN | apply below_bytesWorld | (refine below_set ?_ (by first | assumption | omega)) | refine below_step ?_ (by assumption)))))) d3).mono ?_; rintro e w1 ⟨rfl, hb1⟩; rw [HQ.out]; have hbk := ten (heap_below hb1 (heap_new' rfl)); obtain ⟨z0, z1, z2, z3, z4, z5, z6, z7, z8, z9, y0, y1, y2, y3, y4, y5, y6, y7, y8, y9⟩ := hbk) | (go_at_call 96; refine (plain_any 0 0 0 none 0 ([] : List Int) A4 c4 l4 a5 A6 c6 l6 a7 a8 A9 c9 l9 _ (Kd.C_nil _ _) (Nat.le_refl _) (Kd.C_below H4.out (by (with_reducible (repeat (first | exact Below.refl _ _ | apply below_alloc | apply below_drew | apply pw_below_drewN | apply below_bytesWorld | (refine below_set ?_ (by first | assumption | omega)) | refine below_step ?_ (by assumption)))))) d4 (Kd.C_below H6.out (by (with_reducible (repeat (first | exact Below.refl _ _ | apply below_alloc | apply below_drew | apply pw_below_drewN | apply below_bytesWorld | (refine below_set ?_ (by first | assumption | omega)) | refine below_step ?_ (by assumption)))))) d6 (Kd.C_below H9.out (by (with_reducible (repeat (first | exact Below.refl _ _ | apply below_alloc | apply below_drew | apply pw_below_drewN | apply below_bytesWorld | (refine below_set ?_ (by first | assumption | omega)) | refine below_step ?_ (by assumption)))))) d9).mono ?_; rintro e w9 ⟨rfl, hb9⟩))
    go_ret
    exact ⟨by rw [← HP.out]; rfl, by (with_reducible (repeat (first | exact Below.refl _ _ | apply below_alloc | apply below_drew | apply pw_below_drewN | apply below_bytesWorld | (refine below_set ?_ (by first | assumption | omega)) | refine below_step ?_ (by assumption))))⟩
set_option maxHeartbeats 4000000 in
set_option maxRecDepth 20000 in
theorem sound345_any (ha : a0 = 3 ∨ a0 = 4 ∨ a0 = 5) : Calls Tryd.prog 41 #[.agg #[.int .u8 a0, .int .u32 a1, .int .u32 a2, .slice A3 l3.length c3, .slice A4 l4.length c4, .int .u32 a5, .slice A6 l6.length c6, .int .i64 a7, .int .i64 a8, .slice A9 l9.length c9]] w fun e w' => e = .returned (.bool (soundB ⟨a0, a1, a2, l3, l4, ⟨a5, l6⟩, a7, a8, l9⟩)) ∧ Below w.heap.size w w' := by
  have H3 := Aside0.mk h3; have H4 := Aside0.mk h4; have H6 := Aside0.mk h6; have H9 := Aside0.mk h9
  clear h3 h4 h6 h9
  rcases ha with rfl | rfl | rfl
  ·
    rw [sound345 _ _ _ _ _ _ _ _ _ _ (by omega)]
    generalize hp : plainB 0 0 a2 l3 l4 a5 l6 a7 a8 l9 = P
    have HP := Aside0.mk hp
    clear hp
    go_enter Tryd.func41, Tryd.ntmps41
    go_wp2_with (go_at_call 96; refine (plain_any 0 0 a2 A3 c3 l3 A4 c4 l4 a5 A6 c6 l6 a7 a8 A9 c9 l9 _ (Kd.C_below H3.out (by (with_reducible (repeat (first | exact Below.refl _ _ | apply below_alloc | apply below_drew | apply pw_below_drewN | apply below_bytesWorld | (refine below_set ?_ (by first | assumption | omega)) | refine below_step ?_ (by assumption)))))) d3 (Kd.C_below H4.out (by (with_reducible (repeat (first | exact Below.refl _ _ | apply below_alloc | apply below_drew | apply pw_below_drewN | apply below_bytesWorld | (refine below_set ?_ (by first | assumption | omega)) | refine below_step ?_ (by assumption)))))) d4 (Kd.C_below H6.out (by (with_reducible (repeat (first | exact Below.refl _ _ | apply below_alloc | apply below_drew | apply pw_below_drewN | apply below_bytesWorld | (refine below_set ?_ (by first | assumption | omega)) | refine below_step ?_ (by assumption)))))) d6 (Kd.C_below H9.out (by (with_reducible (repeat (first | exact Below.refl _ _ | apply below_alloc | apply below_drew | apply pw_below_drewN | apply below_bytesWorld | (refine below_set ?_ (by first | assumption | omega)) | refine below_step ?_ (by assumption)))))) d9).mono ?_; rintro e w9 ⟨rfl, hb9⟩)
    go_ret
    exact ⟨by rw [← HP.out]; rfl, by (with_reducible (repeat (first | exact Below.refl _ _ | apply below_alloc | apply below_drew | apply pw_below_drewN | apply below_bytesWorld | (refine below_set ?_ (by first | assumption | omega)) | refine below_step ?_ (by assumption))))⟩
  ·
    rw [sound345 _ _ _ _ _ _ _ _ _ _ (by omega)]
    generalize hp : plainB 0 0 a2 l3 l4 a5 l6 a7 a8 l9 = P
    have HP := Aside0.mk hp
    clear hp
    go_enter Tryd.func41, Tryd.ntmps41
    go_wp2_with (go_at_call 96; refine (plain_any 0 0 a2 A3 c3 l3 A4 c4 l4 a5 A6 c6 l6 a7 a8 A9 c9 l9 _ (Kd.C_below H3.out (by (with_reducible (repeat (first | exact Below.refl _ _ | apply below_alloc | apply below_drew | apply pw_below_drewN | apply below_bytesWorld | (refine below_set ?_ (by first | assumption | omega)) | refine below_step ?_ (by assumption)))))) d3 (Kd.C_below H4.out (by (with_reducible (repeat (first | exact Below.refl _ _ | apply below_alloc | apply below_drew | apply pw_below_drewN | apply below_bytesWorld | (refine below_set ?_ (by first | assumption | omega)) | refine below_step ?_ (by assumption)))))) d4 (Kd.C_below H6.out (by (with_reducible (repeat (first | exact Below.refl _ _ | apply below_alloc | apply below_drew | apply pw_below_drewN | apply below_bytesWorld | (refine below_set ?_ (by first | assumption | omega)) | refine below_step ?_ (by assumption)))))) d6 (Kd.C_below H9.out (by (with_reducible (repeat (first | exact Below.refl _ _ | apply below_alloc | apply below_drew | apply pw_below_drewN | apply below_bytesWorld | (refine below_set ?_ (by first | assumption | omega)) | refine below_step ?_ (by assumption)))))) d9).mono ?_; rintro e w9 ⟨rfl, hb9⟩)
    go_ret
    exact ⟨by rw [← HP.out]; rfl, by (with_reducible (repeat (first | exact Below.refl _ _ | apply below_alloc | apply below_drew | apply pw_below_drewN | apply below_bytesWorld | (refine below_set ?_ (by first | assumption | omega)) | refine below_step ?_ (by assumption))))⟩
  ·
    rw [sound345 _ _ _ _ _ _ _ _ _ _ (by omega)]
    generalize hp : plainB 0 0 a2 l3 l4 a5 l6 a7 a8 l9 = P
    have HP := Aside0.mk hp
    clear hp
    go_enter Tryd.func41, Tryd.ntmps41
    go_wp2_with (go_at_call 96; refine (plain_any 0 0 a2 A3 c3 l3 A4 c4 l4 a5 A6 c6 l6 a7 a8 A9 c9 l9 _ (Kd.C_below H3.out (by (with_reducible (repeat (first | exact Below.refl _ _ | apply below_alloc | apply below_drew | apply pw_below_drewN | apply below_bytesWorld | (refine below_set ?_ (by first | assumption | omega)) | refine below_step ?_ (by assumption)))))) d3 (Kd.C_below H4.out (by (with_reducible (repeat (first | exact Below.refl _ _ | apply below_alloc | apply below_drew | apply pw_below_drewN | apply below_bytesWorld | (refine below_set ?_ (by first | assumption | omega)) | refine below_step ?_ (by assumption)))))) d4 (Kd.C_below H6.out (by (with_reducible (repeat (first | exact Below.refl _ _ | apply below_alloc | apply below_drew | apply pw_below_drewN | apply below_bytesWorld | (refine below_set ?_ (by first | assumption | omega)) | refine below_step ?_ (by assumption)))))) d6 (Kd.C_below H9.out (by (with_reducible (repeat (first | exact Below.refl _ _ | apply below_alloc | apply below_drew | apply pw_below_drewN | apply below_bytesWorld | (refine below_set ?_ (by first | assumption | omega)) | refine below_step ?_ (by assumption)))))) d9).mono ?_; rintro e w9 ⟨rfl, hb9⟩)
    go_ret
    exact ⟨by rw [← HP.out]; rfl, by (with_reducible (repeat (first | exact Below.refl _ _ | apply below_alloc | apply below_drew | apply pw_below_drewN | apply below_bytesWorld | (refine below_set ?_ (by first | assumption | omega)) | refine below_step ?_ (by assumption))))⟩
set_option maxHeartbeats 4000000 in
set_option maxRecDepth 20000 in
theorem sound6_any : Calls Tryd.prog 41 #[.agg #[.int .u8 6, .int .u32 a1, .int .u32 a2, .slice A3 l3.length c3, .slice A4 l4.length c4, .int .u32 a5, .slice A6 l6.length c6, .int .i64 a7, .int .i64 a8, .slice A9 l9.length c9]] w fun e w' => e = .returned (.bool (soundB ⟨6, a1, a2, l3, l4, ⟨a5, l6⟩, a7, a8, l9⟩)) ∧ Below w.heap.size w w' := by
  have _ := d6
  have H3 := Aside0.mk h3; have H4 := Aside0.mk h4; have H6 := Aside0.mk h6; have H9 := Aside0.mk h9
  clear h3 h4 h6 h9
  rw [sound6]
  by_cases q1 : a1 = 0
  · subst q1
    by_cases q2 : (l6.length : Int) ≤ 40
    · rw [decide_eq_true (rfl : (0 : Int) = 0), decide_eq_true q2]
      cases hr : (l6.any fun s => !spanB s) with
      | true =>
        have HQ := Aside0.mk hr
        clear hr
        go_enter Tryd.func41, Tryd.ntmps41
        go_wp2_with (first | (go_at_call 92; refine (anySpan_any _ _ l6 _ (Kd.C_below H6.out (by (with_reducible (repeat (first | exact Below.refl _ _ | apply below_alloc | apply below_drew | apply pw_below_drewN | apply below_bytesWorld | (refine below_set ?_ (by first | assumption | omega)) | refine below_step ?_ (by assumption))))))).mono ?_; rintro e w1 ⟨rfl, hb1⟩; rw [HQ.out]; have hbk := ten (heap_below hb1 (heap_new' rfl)); obtain ⟨z0, z1, z2, z3, z4, z5, z6, z7, z8, z9, y0, y1, y2, y3, y4, y5, y6, y7, y8, y9⟩ := hbk) | (go_at_call 96; refine (plain_any 0 0 a2 A3 c3 l3 A4 c4 l4 0 none 0 ([] : List SSpan) a7 a8 A9 c9 l9 _ (Kd.C_below H3.out (by (with_reducible (repeat (first | exact Below.refl _ _ | apply below_alloc | apply below_drew | apply pw_below_drewN | apply below_bytesWorld | (refine below_set ?_ (by first | assumption | omega)) | refine below_step ?_ (by assumption)))))) d3 (Kd.C_below H4.out (by (with_reducible (repeat (first | exact Below.refl _ _ | apply below_alloc | apply below_drew | apply pw_below_drewN | apply below_bytesWorld | (refine below_set ?_ (by first | assumption | omega)) | refine below_step ?_ (by assumption)))))) d4 (Kd.C_nil _ _) (Nat.le_refl _) (Kd.C_below H9.out (by (with_reducible (repeat (first | exact Below.refl _ _ | apply below_alloc | apply below_drew | apply pw_below_drewN | apply below_bytesWorld | (refine below_set ?_ (by first | assumption | omega)) | refine below_step ?_ (by assumption)))))) d9).mono ?_; rintro e w9 ⟨rfl, hb9⟩))
        go_ret
        exact ⟨rfl, by (with_reducible (repeat (first | exact Below.refl _ _ | apply below_alloc | apply below_drew | apply pw_below_drewN | apply below_bytesWorld | (refine below_set ?_ (by first | assumption | omega)) | refine below_step ?_ (by assumption))))⟩
      | false =>
        have HQ := Aside0.mk hr
        clear hr
        rw [show (true && true && !false && plainB 0 0 a2 l3 l4 0 [] a7 a8 l9) = plainB 0 0 a2 l3 l4 0 [] a7 a8 l9 by simp]
        generalize hp : plainB 0 0 a2 l3 l4 0 [] a7 a8 l9 = P
        have HP := Aside0.mk hp
        clear hp
        go_enter Tryd.func41, Tryd.ntmps41
        go_wp2_with (first | (go_at_call 92; refine (anySpan_any _ _ l6 _ (Kd.C_below H6.out (by (with_reducible (repeat (first | exact Below.refl _ _ | apply below_alloc | apply below_drew | apply pw_below_drewN | apply below_bytesWorld | (refine below_set ?_ (by first | assumption | omega)) | refine below_step ?_ (by assumption))))))).mono ?_; rintro e w1 ⟨rfl, hb1⟩; rw [HQ.out]; have hbk := ten (heap_below hb1 (heap_new' rfl)); obtain ⟨z0, z1, z2, z3, z4, z5, z6, z7, z8, z9, y0, y1, y2, y3, y4, y5, y6, y7, y8, y9⟩ := hbk) | (go_at_call 96; refine (plain_any 0 0 a2 A3 c3 l3 A4 c4 l4 0 none 0 ([] : List SSpan) a7 a8 A9 c9 l9 _ (Kd.C_below H3.out (by (with_reducible (repeat (first | exact Below.refl _ _ | apply below_alloc | apply below_drew | apply pw_below_drewN | apply below_bytesWorld | (refine below_set ?_ (by first | assumption | omega)) | refine below_step ?_ (by assumption)))))) d3 (Kd.C_below H4.out (by (with_reducible (repeat (first | exact Below.refl _ _ | apply below_alloc | apply below_drew | apply pw_below_drewN | apply below_bytesWorld | (refine below_set ?_ (by first | assumption | omega)) | refine below_step ?_ (by assumption)))))) d4 (Kd.C_nil _ _) (Nat.le_refl _) (Kd.C_below H9.out (by (with_reducible (repeat (first | exact Below.refl _ _ | apply below_alloc | apply below_drew | apply pw_below_drewN | apply below_bytesWorld | (refine below_set ?_ (by first | assumption | omega)) | refine below_step ?_ (by assumption)))))) d9).mono ?_; rintro e w9 ⟨rfl, hb9⟩))
        go_ret
        exact ⟨by rw [← HP.out]; rfl, by (with_reducible (repeat (first | exact Below.refl _ _ | apply below_alloc | apply below_drew | apply pw_below_drewN | apply below_bytesWorld | (refine below_set ?_ (by first | assumption | omega)) | refine below_step ?_ (by assumption))))⟩
    · rw [decide_eq_true (rfl : (0 : Int) = 0), decide_eq_false q2]
      go_enter Tryd.func41, Tryd.ntmps41
      go_wp2_with fail
      go_ret
      exact ⟨rfl, by (with_reducible (repeat (first | exact Below.refl _ _ | apply below_alloc | apply below_drew | apply pw_below_drewN | apply below_bytesWorld | (refine below_set ?_ (by first | assumption | omega)) | refine below_step ?_ (by assumption))))⟩
  · rw [decide_eq_false q1, Bool.false_and, Bool.false_and, Bool.false_and]
    have q1' : (a1 == 0) = false := beq_eq_false_iff_ne.mpr q1
    go_enter Tryd.func41, Tryd.ntmps41
    go_wp2_with fail
    go_ret
    exact ⟨rfl, by (with_reducible (repeat (first | exact Below.refl _ _ | apply below_alloc | apply below_drew | apply pw_below_drewN | apply below_bytesWorld | (refine below_set ?_ (by first | assumption | omega)) | refine below_step ?_ (by assumption))))⟩
set_option maxHeartbeats 4000000 in
set_option maxRecDepth 20000 in
theorem sound7_any : Calls Tryd.prog 41 #[.agg #[.int .u8 7, .int .u32 a1, .int .u32 a2, .slice A3 l3.length c3, .slice A4 l4.length c4, .int .u32 a5, .slice A6 l6.length c6, .int .i64 a7, .int .i64 a8, .slice A9 l9.length c9]] w fun e w' => e = .returned (.bool (soundB ⟨7, a1, a2, l3, l4, ⟨a5, l6⟩, a7, a8, l9⟩)) ∧ Below w.heap.size w w' := by
  have H3 := Aside0.mk h3; have H4 := Aside0.mk h4; have H6 := Aside0.mk h6; have H9 := Aside0.mk h9
  clear h3 h4 h6 h9
  rw [sound7]
  cases hr : (historyB l9 && decide ((l9.length : Int) ≤ 5000)) with
  | false =>
    have HQ := Aside0.mk hr
    clear hr
    rw [Bool.false_and, Bool.false_and, Bool.false_and, Bool.false_and, Bool.false_and]
    go_enter Tryd.func41, Tryd.ntmps41
    go_wp2_with (go_at_call 95; refine (history_any _ _ l9 _ (Kd.C_below H9.out (by (with_reducible (repeat (first | exact Below.refl _ _ | apply below_alloc | apply below_drew | apply pw_below_drewN | apply below_bytesWorld | (refine below_set ?_ (by first | assumption | omega)) | refine below_step ?_ (by assumption)))))) d9).mono ?_; rintro e w1 ⟨rfl, hb1⟩; rw [HQ.out]; have hbk := ten (heap_below hb1 (heap_new' rfl)); obtain ⟨z0, z1, z2, z3, z4, z5, z6, z7, z8, z9, y0, y1, y2, y3, y4, y5, y6, y7, y8, y9⟩ := hbk)
    go_ret
    exact ⟨rfl, by (with_reducible (repeat (first | exact Below.refl _ _ | apply below_alloc | apply below_drew | apply pw_below_drewN | apply below_bytesWorld | (refine below_set ?_ (by first | assumption | omega)) | refine below_step ?_ (by assumption))))⟩
  | true =>
    have HQ := Aside0.mk hr
    clear hr
    by_cases q1 : 0 ≤ a7
    · by_cases q2 : a7 ≤ 10000
      · by_cases q3 : 0 ≤ a8
        · by_cases q4 : a8 ≤ 10000
          · rw [decide_eq_true q1, decide_eq_true q2, decide_eq_true q3, decide_eq_true q4]
            rw [show (true && true && true && true && true && plainB 0 0 a2 l3 l4 a5 l6 0 0 []) = plainB 0 0 a2 l3 l4 a5 l6 0 0 [] by simp]
            generalize hp : plainB 0 0 a2 l3 l4 a5 l6 0 0 [] = P
            have HP := Aside0.mk hp
            clear hp
            go_enter Tryd.func41, Tryd.ntmps41
            go_wp2_with (first | (go_at_call 95; refine (history_any _ _ l9 _ (Kd.C_below H9.out (by (with_reducible (repeat (first | exact Below.refl _ _ | apply below_alloc | apply below_drew | apply pw_below_drewN | apply below_bytesWorld | (refine below_set ?_ (by first | assumption | omega)) | refine below_step ?_ (by assumption)))))) d9).mono ?_; rintro e w1 ⟨rfl, hb1⟩; rw [HQ.out]; have hbk := ten (heap_below hb1 (heap_new' rfl)); obtain ⟨z0, z1, z2, z3, z4, z5, z6, z7, z8, z9, y0, y1, y2, y3, y4, y5, y6, y7, y8, y9⟩ := hbk) | (go_at_call 96; refine (plain_any 0 0 a2 A3 c3 l3 A4 c4 l4 a5 A6 c6 l6 0 0 none 0 ([] : List SEntry) _ (Kd.C_below H3.out (by (with_reducible (repeat (first | exact Below.refl _ _ | apply below_alloc | apply below_drew | apply pw_below_drewN | apply below_bytesWorld | (refine below_set ?_ (by first | assumption | omega)) | refine below_step ?_ (by assumption)))))) d3 (Kd.C_below H4.out (by (with_reducible (repeat (first | exact Below.refl _ _ | apply below_alloc | apply below_drew | apply pw_below_drewN | apply below_bytesWorld | (refine below_set ?_ (by first | assumption | omega)) | refine below_step ?_ (by assumption)))))) d4 (Kd.C_below H6.out (by (with_reducible (repeat (first | exact Below.refl _ _ | apply below_alloc | apply below_drew | apply pw_below_drewN | apply below_bytesWorld | (refine below_set ?_ (by first | assumption | omega)) | refine below_step ?_ (by assumption)))))) d6 (Kd.C_nil _ _) (Nat.le_refl _)).mono ?_; rintro e w9 ⟨rfl, hb9⟩))
            go_ret
            exact ⟨by rw [← HP.out]; rfl, by (with_reducible (repeat (first | exact Below.refl _ _ | apply below_alloc | apply below_drew | apply pw_below_drewN | apply below_bytesWorld | (refine below_set ?_ (by first | assumption | omega)) | refine below_step ?_ (by assumption))))⟩
          · rw [decide_eq_false q4, Bool.and_false, Bool.false_and]
            go_enter Tryd.func41, Tryd.ntmps41
            go_wp2_with (go_at_call 95; refine (history_any _ _ l9 _ (Kd.C_below H9.out (by (with_reducible (repeat (first | exact Below.refl _ _ | apply below_alloc | apply below_drew | apply pw_below_drewN | apply below_bytesWorld | (refine below_set ?_ (by first | assumption | omega)) | refine below_step ?_ (by assumption)))))) d9).mono ?_; rintro e w1 ⟨rfl, hb1⟩; rw [HQ.out]; have hbk := ten (heap_below hb1 (heap_new' rfl)); obtain ⟨z0, z1, z2, z3, z4, z5, z6, z7, z8, z9, y0, y1, y2, y3, y4, y5, y6, y7, y8, y9⟩ := hbk)
            go_ret
            exact ⟨rfl, by (with_reducible (repeat (first | exact Below.refl _ _ | apply below_alloc | apply below_drew | apply pw_below_drewN | apply below_bytesWorld | (refine below_set ?_ (by first | assumption | omega)) | refine below_step ?_ (by assumption))))⟩
        · rw [decide_eq_false q3, Bool.and_false, Bool.false_and, Bool.false_and]
          go_enter Tryd.func41, Tryd.ntmps41
          go_wp2_with (go_at_call 95; refine (history_any _ _ l9 _ (Kd.C_below H9.out (by (with_reducible (repeat (first | exact Below.refl _ _ | apply below_alloc | apply below_drew | apply pw_below_drewN | apply below_bytesWorld | (refine below_set ?_ (by first | assumption | omega)) | refine below_step ?_ (by assumption)))))) d9).mono ?_; rintro e w1 ⟨rfl, hb1⟩; rw [HQ.out]; have hbk := ten (heap_below hb1 (heap_new' rfl)); obtain ⟨z0, z1, z2, z3, z4, z5, z6, z7, z8, z9, y0, y1, y2, y3, y4, y5, y6, y7, y8, y9⟩ := hbk)
          go_ret
          exact ⟨rfl, by (with_reducible (repeat (first | exact Below.refl _ _ | apply below_alloc | apply below_drew | apply pw_below_drewN | apply below_bytesWorld | (refine below_set ?_ (by first | assumption | omega)) | refine below_step ?_ (by assumption))))⟩
      · rw [decide_eq_false q2, Bool.and_false, Bool.false_and, Bool.false_and, Bool.false_and]
        go_enter Tryd.func41, Tryd.ntmps41
        go_wp2_with (go_at_call 95; refine (history_any _ _ l9 _ (Kd.C_below H9.out (by (with_reducible (repeat (first | exact Below.refl _ _ | apply below_alloc | apply below_drew | apply pw_below_drewN | apply below_bytesWorld | (refine below_set ?_ (by first | assumption | omega)) | refine below_step ?_ (by assumption)))))) d9).mono ?_; rintro e w1 ⟨rfl, hb1⟩; rw [HQ.out]; have hbk := ten (heap_below hb1 (heap_new' rfl)); obtain ⟨z0, z1, z2, z3, z4, z5, z6, z7, z8, z9, y0, y1, y2, y3, y4, y5, y6, y7, y8, y9⟩ := hbk)
        go_ret
        exact ⟨rfl, by (with_reducible (repeat (first | exact Below.refl _ _ | apply below_alloc | apply below_drew | apply pw_below_drewN | apply below_bytesWorld | (refine below_set ?_ (by first | assumption | omega)) | refine below_step ?_ (by assumption))))⟩
    · rw [decide_eq_false q1, Bool.and_false, Bool.false_and, Bool.false_and, Bool.false_and, Bool.false_and]
      go_enter Tryd.func41, Tryd.ntmps41
      go_wp2_with (go_at_call 95; refine (history_any _ _ l9 _ (Kd.C_below H9.out (by (with_reducible (repeat (first | exact Below.refl _ _ | apply below_alloc | apply below_drew | apply pw_below_drewN | apply below_bytesWorld | (refine below_set ?_ (by first | assumption | omega)) | refine below_step ?_ (by assumption)))))) d9).mono ?_; rintro e w1 ⟨rfl, hb1⟩; rw [HQ.out]; have hbk := ten (heap_below hb1 (heap_new' rfl)); obtain ⟨z0, z1, z2, z3, z4, z5, z6, z7, z8, z9, y0, y1, y2, y3, y4, y5, y6, y7, y8, y9⟩ := hbk)
      go_ret
      exact ⟨rfl, by (with_reducible (repeat (first | exact Below.refl _ _ | apply below_alloc | apply below_drew | apply pw_below_drewN | apply below_bytesWorld | (refine below_set ?_ (by first | assumption | omega)) | refine below_step ?_ (by assumption))))⟩
set_option maxHeartbeats 4000000 in
set_option maxRecDepth 20000 in
theorem sound0_any (ha : a0 < 1 ∨ 7 < a0) : Calls Tryd.prog 41 #[.agg #[.int .u8 a0, .int .u32 a1, .int .u32 a2, .slice A3 l3.length c3, .slice A4 l4.length c4, .int .u32 a5, .slice A6 l6.length c6, .int .i64 a7, .int .i64 a8, .slice A9 l9.length c9]] w fun e w' => e = .returned (.bool (soundB ⟨a0, a1, a2, l3, l4, ⟨a5, l6⟩, a7, a8, l9⟩)) ∧ Below w.heap.size w w' := by
  have _ := d3; have _ := d4; have _ := d6; have _ := d9
  have H3 := Aside0.mk h3; have H4 := Aside0.mk h4; have H6 := Aside0.mk h6; have H9 := Aside0.mk h9
  clear h3 h4 h6 h9
  rw [sound0 _ _ _ _ _ _ _ _ _ _ ha]
  have q1 : (a0 == 1) = false := beq_eq_false_iff_ne.mpr (by omega)
  have q2 : (a0 == 2) = false := beq_eq_false_iff_ne.mpr (by omega)
  have q3 : (a0 == 3) = false := beq_eq_false_iff_ne.mpr (by omega)
  have q4 : (a0 == 4) = false := beq_eq_false_iff_ne.mpr (by omega)
  have q5 : (a0 == 5) = false := beq_eq_false_iff_ne.mpr (by omega)
  have q6 : (a0 == 6) = false := beq_eq_false_iff_ne.mpr (by omega)
  have q7 : (a0 == 7) = false := beq_eq_false_iff_ne.mpr (by omega)
  clear ha
  go_enter Tryd.func41, Tryd.ntmps41
  go_wp2
  go_ret
  exact ⟨rfl, by (with_reducible (repeat (first | exact Below.refl _ _ | apply below_alloc | apply below_drew | apply pw_below_drewN | apply below_bytesWorld | (refine below_set ?_ (by first | assumption | omega)) | refine below_step ?_ (by assumption))))⟩
end
theorem code_Sound.calls (a0_0 : Int) (a0_1 : Int) (a0_2 : Int) (A0_3 : Option Addr) (c0_3 : Nat) (l0_3 : List Int) (A0_4 : Option Addr) (c0_4 : Nat) (l0_4 : List SFact) (a0_5 : Int) (A0_6 : Option Addr) (c0_6 : Nat) (l0_6 : List SSpan) (a0_7 : Int) (a0_8 : Int) (A0_9 : Option Addr) (c0_9 : Nat) (l0_9 : List SEntry) (r : Bool) (w : World) (hr0_3 : Kd.C (Kd.int .i64) w A0_3 l0_3.length l0_3) (hc0_3 : l0_3.length ≤ c0_3) (hr0_4 : Kd.C k76 w A0_4 l0_4.length l0_4) (hc0_4 : l0_4.length ≤ c0_4) (hr0_6 : Kd.C k132 w A0_6 l0_6.length l0_6) (hc0_6 : l0_6.length ≤ c0_6) (hr0_9 : Kd.C k124 w A0_9 l0_9.length l0_9) (hc0_9 : l0_9.length ≤ c0_9) (h : code_Sound.f a0_0 a0_1 a0_2 l0_3 l0_4 a0_5 l0_6 a0_7 a0_8 l0_9 = some r) :
    Calls Tryd.prog 41 #[.agg #[.int .u8 a0_0, .int .u32 a0_1, .int .u32 a0_2, .slice A0_3 l0_3.length c0_3, .slice A0_4 l0_4.length c0_4, .int .u32 a0_5, .slice A0_6 l0_6.length c0_6, .int .i64 a0_7, .int .i64 a0_8, .slice A0_9 l0_9.length c0_9]] w fun e w' => e = .returned (.bool r) ∧ Below w.heap.size w w' := by
  obtain rfl := Option.some.inj h
  clear h
  by_cases h0 : a0_0 < 1 ∨ 7 < a0_0
  · exact sound0_any a0_0 a0_1 a0_2 A0_3 c0_3 l0_3 A0_4 c0_4 l0_4 a0_5 A0_6 c0_6 l0_6 a0_7 a0_8 A0_9 c0_9 l0_9 w hr0_3 hc0_3 hr0_4 hc0_4 hr0_6 hc0_6 hr0_9 hc0_9 h0
  have h7 : a0_0 = 1 ∨ a0_0 = 2 ∨ (a0_0 = 3 ∨ a0_0 = 4 ∨ a0_0 = 5) ∨ a0_0 = 6 ∨ a0_0 = 7 := by omega
  rcases h7 with rfl | rfl | h3 | rfl | rfl
  · exact sound1_any a0_1 a0_2 A0_3 c0_3 l0_3 A0_4 c0_4 l0_4 a0_5 A0_6 c0_6 l0_6 a0_7 a0_8 A0_9 c0_9 l0_9 w hr0_3 hc0_3 hr0_4 hc0_4 hr0_6 hc0_6 hr0_9 hc0_9
  · exact sound2_any a0_1 a0_2 A0_3 c0_3 l0_3 A0_4 c0_4 l0_4 a0_5 A0_6 c0_6 l0_6 a0_7 a0_8 A0_9 c0_9 l0_9 w hr0_3 hc0_3 hr0_4 hc0_4 hr0_6 hc0_6 hr0_9 hc0_9
  · exact sound345_any a0_0 a0_1 a0_2 A0_3 c0_3 l0_3 A0_4 c0_4 l0_4 a0_5 A0_6 c0_6 l0_6 a0_7 a0_8 A0_9 c0_9 l0_9 w hr0_3 hc0_3 hr0_4 hc0_4 hr0_6 hc0_6 hr0_9 hc0_9 h3
  · exact sound6_any a0_1 a0_2 A0_3 c0_3 l0_3 A0_4 c0_4 l0_4 a0_5 A0_6 c0_6 l0_6 a0_7 a0_8 A0_9 c0_9 l0_9 w hr0_3 hc0_3 hr0_4 hc0_4 hr0_6 hc0_6 hr0_9 hc0_9
  · exact sound7_any a0_1 a0_2 A0_3 c0_3 l0_3 A0_4 c0_4 l0_4 a0_5 A0_6 c0_6 l0_6 a0_7 a0_8 A0_9 c0_9 l0_9 w hr0_3 hc0_3 hr0_4 hc0_4 hr0_6 hc0_6 hr0_9 hc0_9
end Go.Proofs.YtbbhjceelghadaaDoor.K
end

section
-- from RefB
namespace Go.Proofs.YtbbhjceelghadaaDoor.K
open Go Go.RowKit Go.Proofs.YtbbhjceelghadaaDoorW.PrintWords Go.Proofs.YtbbhjceelghadaaDoorW.PrintLast Go.Proofs.YtbbhjceelghadaaDoorW.PrintMore Go.Proofs.YtbbhjceelghadaaDoor.My
/-- A flag behind so many letters. -/
def flag (b : Bool) (c : Nat) (s : List UInt8) : Bool := b || s.any fun x => x.toNat == c
theorem flag_zero (b : Bool) (c : Nat) (s : List UInt8) : flag b c (s.take 0) = b := by simp [flag]
theorem flag_succ (b : Bool) (c : Nat) (s : ByteArray) (k : Nat) (h : k < s.size) : flag b c (s.data.toList.take (k + 1)) = (flag b c (s.data.toList.take k) || (((s[k]'h).toNat : Int) == (c : Int))) := by
  have e : s.data.toList.take (k + 1) = s.data.toList.take k ++ [s[k]'h] := by
    rw [List.take_succ_eq_append_getElem (by simpa using h)]; rfl
  rw [e]
  unfold flag
  rw [List.any_append, ← Bool.or_assoc]
  congr 1
  simp only [List.any_cons, List.any_nil, Bool.or_false]
  rw [Bool.eq_iff_iff]
  simp only [beq_iff_eq]
  omega
set_option maxRecDepth 20000 in
set_option maxHeartbeats 4000000 in
theorem bare_any (a0 a1 a2 : Int) (A3 : Option Addr) (c3 n3 : Nat) (A4 : Option Addr) (c4 n4 : Nat) (a5 : Int) (A6 : Option Addr) (c6 n6 : Nat) (a7 a8 : Int) (A9 : Option Addr) (c9 n9 : Nat) (s : ByteArray) (w : World) (r : Bool) (hs : (s.size : Int) ≤ 9223372036854775807)
    (HR : Aside0 (r = (flag (a1 == 0) 73 s.data.toList && flag (a2 == 0) 65 s.data.toList && flag ((n3 : Int) == 0) 78 s.data.toList && flag ((n4 : Int) == 0) 70 s.data.toList && flag ((a5 == 0) && ((n6 : Int) == 0)) 77 s.data.toList && flag ((a7 == 0) && (a8 == 0) && ((n9 : Int) == 0)) 82 s.data.toList))) :
    Calls Tryd.prog 97 #[.agg #[.int .u8 a0, .int .u32 a1, .int .u32 a2, .slice A3 n3 c3, .slice A4 n4 c4, .int .u32 a5, .slice A6 n6 c6, .int .i64 a7, .int .i64 a8, .slice A9 n9 c9], .string s] w fun e w' => e = .returned (.bool r) ∧ Below w.heap.size w w' := by
  go_enter Tryd.func97, Tryd.ntmps97
  go_upto_region 5 with fail
  go_cut [9] (fun s9 wx => s9 = .bool ((a5 == 0) && ((n6 : Int) == 0)) ∧ wx = w.alloc (.cells #[.int .u8 a0, .int .u32 a1, .int .u32 a2, .slice A3 n3 c3, .slice A4 n4 c4, .int .u32 a5, .slice A6 n6 c6, .int .i64 a7, .int .i64 a8, .slice A9 n9 c9] 57))
  case first =>
    by_cases h5 : a5 = 0
    · subst h5
      go_wp2_with fail
      go_meet
      exact ⟨by simp, rfl⟩
    · have h5' : (a5 == 0) = false := by simpa using h5
      go_wp2_with fail
      go_meet
      exact ⟨by simp [h5'], rfl⟩
  case rest =>
    obtain ⟨rfl, rfl⟩ := hcut
    go_upto_region 6 with fail
    go_cut [10] (fun s10 wx => s10 = .bool ((a7 == 0) && (a8 == 0) && ((n9 : Int) == 0)) ∧ wx = w.alloc (.cells #[.int .u8 a0, .int .u32 a1, .int .u32 a2, .slice A3 n3 c3, .slice A4 n4 c4, .int .u32 a5, .slice A6 n6 c6, .int .i64 a7, .int .i64 a8, .slice A9 n9 c9] 57))
    case first =>
      by_cases h7 : a7 = 0
      · subst h7
        by_cases h8 : a8 = 0
        · subst h8
          go_wp2_with fail
          go_meet
          exact ⟨by simp, rfl⟩
        · have h8' : (a8 == 0) = false := by simpa using h8
          go_wp2_with fail
          go_meet
          exact ⟨by simp [h8'], rfl⟩
      · have h7' : (a7 == 0) = false := by simpa using h7
        go_wp2_with fail
        go_meet
        exact ⟨by simp [h7'], rfl⟩
    case rest =>
      obtain ⟨rfl, rfl⟩ := hcut
      generalize ((a5 == 0) && ((n6 : Int) == 0)) = i9 at HR ⊢
      generalize ((a7 == 0) && (a8 == 0) && ((n9 : Int) == 0)) = i10 at HR ⊢
      generalize (a1 == 0) = i5 at HR ⊢
      generalize (a2 == 0) = i6 at HR ⊢
      generalize ((n3 : Int) == 0) = i7 at HR ⊢
      generalize ((n4 : Int) == 0) = i8 at HR ⊢
      have HW := Aside0.mk (show Below w.heap.size w (w.alloc (.cells #[.int .u8 a0, .int .u32 a1, .int .u32 a2, .slice A3 n3 c3, .slice A4 n4 c4, .int .u32 a5, .slice A6 n6 c6, .int .i64 a7, .int .i64 a8, .slice A9 n9 c9] 57)) from below_alloc (Below.refl _ _) _)
      generalize w.alloc (.cells #[.int .u8 a0, .int .u32 a1, .int .u32 a2, .slice A3 n3 c3, .slice A4 n4 c4, .int .u32 a5, .slice A6 n6 c6, .int .i64 a7, .int .i64 a8, .slice A9 n9 c9] 57) = wb at HW ⊢
      go_wp2_with fail
      go_loopg [5, 6, 7, 8, 9, 10, 11] s.size (fun gg s5 s6 s7 s8 s9 s10 s11 wr => ∃ k : Nat, k ≤ s.size ∧ s.size - k ≤ gg ∧ s5 = .bool (flag i5 73 (s.data.toList.take k)) ∧ s6 = .bool (flag i6 65 (s.data.toList.take k)) ∧ s7 = .bool (flag i7 78 (s.data.toList.take k)) ∧ s8 = .bool (flag i8 70 (s.data.toList.take k)) ∧ s9 = .bool (flag i9 77 (s.data.toList.take k)) ∧ s10 = .bool (flag i10 82 (s.data.toList.take k)) ∧ s11 = .int .i64 k ∧ wb = wr)
      case atStart => exact ⟨0, Nat.zero_le _, by omega, by rw [flag_zero], by rw [flag_zero], by rw [flag_zero], by rw [flag_zero], by rw [flag_zero], by rw [flag_zero], rfl, rfl⟩
      case round =>
        obtain ⟨k, hk, hg, rfl, rfl, rfl, rfl, rfl, rfl, rfl, rfl⟩ := hrel
        by_cases hks : k < s.size
        · have HS := Aside0.mk (And.intro (flag_succ i5 73 s k hks) (And.intro (flag_succ i6 65 s k hks) (And.intro (flag_succ i7 78 s k hks) (And.intro (flag_succ i8 70 s k hks) (And.intro (flag_succ i9 77 s k hks) (flag_succ i10 82 s k hks))))))
          clear HR
          have hsu : wrap64 ((k : Int) + 1) = k + 1 := by unfold wrap64; omega
          generalize flag i5 73 (s.data.toList.take k) = f5 at HS ⊢
          generalize flag i6 65 (s.data.toList.take k) = f6 at HS ⊢
          generalize flag i7 78 (s.data.toList.take k) = f7 at HS ⊢
          generalize flag i8 70 (s.data.toList.take k) = f8 at HS ⊢
          generalize flag i9 77 (s.data.toList.take k) = f9 at HS ⊢
          generalize flag i10 82 (s.data.toList.take k) = f10 at HS ⊢
          go_upto_region 10 with fail
          go_cut [5] (fun x wx => x = .bool (f5 || (((s[k]'hks).toNat : Int) == 73)) ∧ wb = wx)
          case first =>
            clear HS
            cases f5
            all_goals (go_wp2_with fail; go_meet; exact ⟨by simp, rfl⟩)
          case rest =>
          obtain ⟨rfl, rfl⟩ := hcut
          generalize (f5 || (((s[k]'hks).toNat : Int) == 73)) = g5 at HS ⊢
          go_upto_region 11 with fail
          go_cut [6] (fun x wx => x = .bool (f6 || (((s[k]'hks).toNat : Int) == 65)) ∧ wb = wx)
          case first =>
            clear HS
            cases f6
            all_goals (go_wp2_with fail; go_meet; exact ⟨by simp, rfl⟩)
          case rest =>
          obtain ⟨rfl, rfl⟩ := hcut
          generalize (f6 || (((s[k]'hks).toNat : Int) == 65)) = g6 at HS ⊢
          go_upto_region 12 with fail
          go_cut [7] (fun x wx => x = .bool (f7 || (((s[k]'hks).toNat : Int) == 78)) ∧ wb = wx)
          case first =>
            clear HS
            cases f7
            all_goals (go_wp2_with fail; go_meet; exact ⟨by simp, rfl⟩)
          case rest =>
          obtain ⟨rfl, rfl⟩ := hcut
          generalize (f7 || (((s[k]'hks).toNat : Int) == 78)) = g7 at HS ⊢
          go_upto_region 13 with fail
          go_cut [8] (fun x wx => x = .bool (f8 || (((s[k]'hks).toNat : Int) == 70)) ∧ wb = wx)
          case first =>
            clear HS
            cases f8
            all_goals (go_wp2_with fail; go_meet; exact ⟨by simp, rfl⟩)
          case rest =>
          obtain ⟨rfl, rfl⟩ := hcut
          generalize (f8 || (((s[k]'hks).toNat : Int) == 70)) = g8 at HS ⊢
          go_upto_region 14 with fail
          go_cut [9] (fun x wx => x = .bool (f9 || (((s[k]'hks).toNat : Int) == 77)) ∧ wb = wx)
          case first =>
            clear HS
            cases f9
            all_goals (go_wp2_with fail; go_meet; exact ⟨by simp, rfl⟩)
          case rest =>
          obtain ⟨rfl, rfl⟩ := hcut
          generalize (f9 || (((s[k]'hks).toNat : Int) == 77)) = g9 at HS ⊢
          cases f10
          all_goals
            go_wp2_with fail
            go_roundg (s.size - (k + 1))
            case measure => omega
            case rel => exact ⟨k + 1, by omega, by omega, by rw [HS.out.1], by rw [HS.out.2.1], by rw [HS.out.2.2.1], by rw [HS.out.2.2.2.1], by rw [HS.out.2.2.2.2.1], by rw [HS.out.2.2.2.2.2]; simp, by go_num, rfl⟩
        · have : k = s.size := by omega
          subst this
          have ht : s.data.toList.take s.size = s.data.toList := List.take_of_length_le (Nat.le_refl _)
          rw [ht]
          clear ht
          generalize flag i5 73 s.data.toList = f5 at HR ⊢
          generalize flag i6 65 s.data.toList = f6 at HR ⊢
          generalize flag i7 78 s.data.toList = f7 at HR ⊢
          generalize flag i8 70 s.data.toList = f8 at HR ⊢
          generalize flag i9 77 s.data.toList = f9 at HR ⊢
          generalize flag i10 82 s.data.toList = f10 at HR ⊢
          go_wp2_with fail
          all_goals (go_ret; exact ⟨by rw [HR.out]; simp [*], HW.out⟩)
def bareB (a1 a2 : Int) (l3 : List Int) (l4 : List SFact) (a5 : Int) (l6 : List SSpan) (a7 a8 : Int) (l9 : List SEntry) (s : List UInt8) : Bool :=
  flag (a1 == 0) 73 s && flag (a2 == 0) 65 s && flag ((l3.length : Int) == 0) 78 s && flag ((l4.length : Int) == 0) 70 s && flag ((a5 == 0) && ((l6.length : Int) == 0)) 77 s && flag ((a7 == 0) && (a8 == 0) && ((l9.length : Int) == 0)) 82 s
def stratumref07_bare.f (a0_0 : Int) (a0_1 : Int) (a0_2 : Int) (l0_3 : List Int) (l0_4 : List SFact) (a0_5 : Int) (l0_6 : List SSpan) (a0_7 : Int) (a0_8 : Int) (l0_9 : List SEntry) (a1 : ByteArray) : Option Bool :=
  if (a1.size : Int) ≤ 9223372036854775807 then some (bareB a0_1 a0_2 l0_3 l0_4 a0_5 l0_6 a0_7 a0_8 l0_9 a1.data.toList) else none
theorem stratumref07_bare.calls (a0_0 : Int) (a0_1 : Int) (a0_2 : Int) (A0_3 : Option Addr) (c0_3 : Nat) (l0_3 : List Int) (A0_4 : Option Addr) (c0_4 : Nat) (l0_4 : List SFact) (a0_5 : Int) (A0_6 : Option Addr) (c0_6 : Nat) (l0_6 : List SSpan) (a0_7 : Int) (a0_8 : Int) (A0_9 : Option Addr) (c0_9 : Nat) (l0_9 : List SEntry) (a1 : ByteArray) (r : Bool) (w : World) (hr0_3 : Kd.C (Kd.int .i64) w A0_3 l0_3.length l0_3) (hc0_3 : l0_3.length ≤ c0_3) (hr0_4 : Kd.C k76 w A0_4 l0_4.length l0_4) (hc0_4 : l0_4.length ≤ c0_4) (hr0_6 : Kd.C k132 w A0_6 l0_6.length l0_6) (hc0_6 : l0_6.length ≤ c0_6) (hr0_9 : Kd.C k124 w A0_9 l0_9.length l0_9) (hc0_9 : l0_9.length ≤ c0_9) (h : stratumref07_bare.f a0_0 a0_1 a0_2 l0_3 l0_4 a0_5 l0_6 a0_7 a0_8 l0_9 a1 = some r) :
    Calls Tryd.prog 97 #[.agg #[.int .u8 a0_0, .int .u32 a0_1, .int .u32 a0_2, .slice A0_3 l0_3.length c0_3, .slice A0_4 l0_4.length c0_4, .int .u32 a0_5, .slice A0_6 l0_6.length c0_6, .int .i64 a0_7, .int .i64 a0_8, .slice A0_9 l0_9.length c0_9], .string a1] w fun e w' => e = .returned (.bool r) ∧ Below w.heap.size w w' := by
  unfold stratumref07_bare.f at h
  split at h
  case isFalse => cases h
  rename_i hs
  exact bare_any _ _ _ _ _ _ _ _ _ _ _ _ _ _ _ _ _ _ _ w r hs ⟨(Option.some.inj h).symm⟩
end Go.Proofs.YtbbhjceelghadaaDoor.K
end

section
-- from K38
namespace Go.Proofs.YtbbhjceelghadaaDoor.K
open Go.RowKit Go.Proofs.YtbbhjceelghadaaDoorW.PrintWords Go.Proofs.YtbbhjceelghadaaDoorW.PrintLast Go.Proofs.YtbbhjceelghadaaDoorW.PrintMore
attribute [local go_sem] max2_int min2_int max_two min_two max_three min_three max_four min_four
set_option linter.unusedVariables false
set_option linter.unusedSimpArgs false
def stratumref07_Sound.j0 : Nat → Int → Bool → Int → Int → Int → List Int → List (S76) → Int → List (S132) → Int → Int → List (S124) → Option (Bool)
  | 0, _, _, _, _, _, _, _, _, _, _, _, _ => none
  | k + 1, x4, x28, x136000, x136001, x136002, x136003, x136004, x136005, x136006, x136007, x136008, x136009 => if x28 = true then ((stratumref07_bare.f x136000 x136001 x136002 x136003 x136004 x136005 x136006 x136007 x136008 x136009 (⟨#[73]⟩ : ByteArray)).bind fun t141 => (some t141)) else (if x4 = 6 then ((stratumref07_bare.f x136000 x136001 x136002 x136003 x136004 x136005 x136006 x136007 x136008 x136009 (⟨#[77]⟩ : ByteArray)).bind fun t142 => (if t142 = true then ((stratumref07_spans.f k x136006).bind fun t143 => (some t143)) else (some false))) else (if x4 = 7 then ((stratumref07_bare.f x136000 x136001 x136002 x136003 x136004 x136005 x136006 x136007 x136008 x136009 (⟨#[73, 82]⟩ : ByteArray)).bind fun t144 => (if t144 = true then ((stratumref07_SoundEntries.f k x136009).bind fun t145 => (if t145 = true then (if x136007 ≥ 0 then (if x136007 ≤ 10000 then (if x136008 ≥ 0 then (some (decide (x136008 ≤ 10000))) else (some false)) else (some false)) else (some false)) else (some false))) else (some false))) else (some false)))
def stratumref07_Sound.f (k : Nat) (a0_0 : Int) (a0_1 : Int) (a0_2 : Int) (l0_3 : List Int) (l0_4 : List (S76)) (a0_5 : Int) (l0_6 : List (S132)) (a0_7 : Int) (a0_8 : Int) (l0_9 : List (S124)) : Option (Bool) := if a0_0 = 1 then ((stratumref07_bare.f a0_0 a0_1 a0_2 l0_3 l0_4 a0_5 l0_6 a0_7 a0_8 l0_9 (⟨#[73, 78, 70]⟩ : ByteArray)).bind fun t136 => (if t136 = true then ((stratumref07_SoundNodes.f k l0_3).bind fun t137 => (if t137 = true then ((stratumref07_SoundFacts.f k l0_4).bind fun t138 => (some t138)) else (some false))) else (some false))) else (if a0_0 = 2 then ((stratumref07_bare.f a0_0 a0_1 a0_2 l0_3 l0_4 a0_5 l0_6 a0_7 a0_8 l0_9 (⟨#[73, 65, 78]⟩ : ByteArray)).bind fun t139 => (if t139 = true then ((stratumref07_SoundNodes.f k l0_3).bind fun t140 => (some t140)) else (some false))) else (if a0_0 = 3 then (stratumref07_Sound.j0 k a0_0 (a0_0 == 3) a0_0 a0_1 a0_2 l0_3 l0_4 a0_5 l0_6 a0_7 a0_8 l0_9) else (if a0_0 = 4 then (stratumref07_Sound.j0 k a0_0 (a0_0 == 4) a0_0 a0_1 a0_2 l0_3 l0_4 a0_5 l0_6 a0_7 a0_8 l0_9) else (stratumref07_Sound.j0 k a0_0 (a0_0 == 5) a0_0 a0_1 a0_2 l0_3 l0_4 a0_5 l0_6 a0_7 a0_8 l0_9))))
theorem stratumref07_Sound.mono_l : ∀ k, (∀ y0 y1 y2 y3 y4 y5 y6 y7 y8 y9 y10 y11, LeO (stratumref07_Sound.j0 k y0 y1 y2 y3 y4 y5 y6 y7 y8 y9 y10 y11) (stratumref07_Sound.j0 (k + 1) y0 y1 y2 y3 y4 y5 y6 y7 y8 y9 y10 y11))
  | 0 => fun _ _ _ _ _ _ _ _ _ _ _ _ r h => by simp [stratumref07_Sound.j0] at h
  | k + 1 => by
    have ih0 := stratumref07_Sound.mono_l k
    · intro y0 y1 y2 y3 y4 y5 y6 y7 y8 y9 y10 y11
      unfold stratumref07_Sound.j0
      repeat' first
      | (with_reducible exact ih0 _ _ _ _ _ _ _ _ _ _ _ _)
      | (with_reducible exact stratumref07_SoundEntries.mono _ _)
      | (with_reducible exact stratumref07_SoundFacts.mono _ _)
      | (with_reducible exact stratumref07_SoundNodes.mono _ _)
      | (with_reducible exact stratumref07_spans.mono _ _)
      | (with_reducible exact LeO.refl _)
      | (with_reducible exact LeO.none _)
      | (with_reducible refine LeO.ite ?_ ?_)
      | (with_reducible refine LeO.bind ?_ (fun _ => ?_))
      | exact ih0 _ _ _ _ _ _ _ _ _ _ _ _
      | exact stratumref07_SoundEntries.mono _ _
      | exact stratumref07_SoundFacts.mono _ _
      | exact stratumref07_SoundNodes.mono _ _
      | exact stratumref07_spans.mono _ _
      | exact LeO.none _
      | refine LeO.ite ?_ ?_
      | refine LeO.bind ?_ (fun _ => ?_)
theorem stratumref07_Sound.mono : ∀ a0 a1 a2 a3 a4 a5 a6 a7 a8 a9 k, LeO (stratumref07_Sound.f k a0 a1 a2 a3 a4 a5 a6 a7 a8 a9) (stratumref07_Sound.f (k + 1) a0 a1 a2 a3 a4 a5 a6 a7 a8 a9) := by
  intro a0 a1 a2 a3 a4 a5 a6 a7 a8 a9 k
  have ih0 := stratumref07_Sound.mono_l k
  unfold stratumref07_Sound.f
  repeat' first
      | (with_reducible exact ih0 _ _ _ _ _ _ _ _ _ _ _ _)
      | (with_reducible exact stratumref07_SoundEntries.mono _ _)
      | (with_reducible exact stratumref07_SoundFacts.mono _ _)
      | (with_reducible exact stratumref07_SoundNodes.mono _ _)
      | (with_reducible exact stratumref07_spans.mono _ _)
      | (with_reducible exact LeO.refl _)
      | (with_reducible exact LeO.none _)
      | (with_reducible refine LeO.ite ?_ ?_)
      | (with_reducible refine LeO.bind ?_ (fun _ => ?_))
      | exact ih0 _ _ _ _ _ _ _ _ _ _ _ _
      | exact stratumref07_SoundEntries.mono _ _
      | exact stratumref07_SoundFacts.mono _ _
      | exact stratumref07_SoundNodes.mono _ _
      | exact stratumref07_spans.mono _ _
      | exact LeO.none _
      | refine LeO.ite ?_ ?_
      | refine LeO.bind ?_ (fun _ => ?_)
set_option maxHeartbeats 8000000 in
set_option maxRecDepth 100000 in
theorem stratumref07_Sound.calls (k : Nat) (a0_0 : Int) (a0_1 : Int) (a0_2 : Int) (A0_3 : Option Addr) (c0_3 : Nat) (l0_3 : List Int) (A0_4 : Option Addr) (c0_4 : Nat) (l0_4 : List (S76)) (a0_5 : Int) (A0_6 : Option Addr) (c0_6 : Nat) (l0_6 : List (S132)) (a0_7 : Int) (a0_8 : Int) (A0_9 : Option Addr) (c0_9 : Nat) (l0_9 : List (S124)) (r : Bool) (w : World) (hr0_3 : Kd.C (Kd.int .i64) w A0_3 l0_3.length l0_3) (hc0_3 : l0_3.length ≤ c0_3) (hr0_4 : Kd.C k76 w A0_4 l0_4.length l0_4) (hc0_4 : l0_4.length ≤ c0_4) (hr0_6 : Kd.C k132 w A0_6 l0_6.length l0_6) (hc0_6 : l0_6.length ≤ c0_6) (hr0_9 : Kd.C k124 w A0_9 l0_9.length l0_9) (hc0_9 : l0_9.length ≤ c0_9) (h : stratumref07_Sound.f k a0_0 a0_1 a0_2 l0_3 l0_4 a0_5 l0_6 a0_7 a0_8 l0_9 = some r) :
    Calls Tryd.prog 42 #[.agg #[.int .u8 a0_0, .int .u32 a0_1, .int .u32 a0_2, .slice A0_3 l0_3.length c0_3, .slice A0_4 l0_4.length c0_4, .int .u32 a0_5, .slice A0_6 l0_6.length c0_6, .int .i64 a0_7, .int .i64 a0_8, .slice A0_9 l0_9.length c0_9]] w fun e w' => e = .returned (.bool r) ∧ Below w.heap.size w w' := by
  have hu57 := Tryd.underlying57
  have HR0_3 := Aside0.mk hr0_3
  have HC0_3 := Aside0.mk hc0_3
  clear hr0_3 hc0_3
  have HR0_4 := Aside0.mk hr0_4
  have HC0_4 := Aside0.mk hc0_4
  clear hr0_4 hc0_4
  have HR0_6 := Aside0.mk hr0_6
  have HC0_6 := Aside0.mk hc0_6
  clear hr0_6 hc0_6
  have HR0_9 := Aside0.mk hr0_9
  have HC0_9 := Aside0.mk hc0_9
  clear hr0_9 hc0_9
  have HB := Aside0.mk (Below.refl w.heap.size w)
  have H : (if a0_0 = 1 then ((stratumref07_bare.f a0_0 a0_1 a0_2 l0_3 l0_4 a0_5 l0_6 a0_7 a0_8 l0_9 (⟨#[73, 78, 70]⟩ : ByteArray)).bind fun t136 => (if t136 = true then ((stratumref07_SoundNodes.f k l0_3).bind fun t137 => (if t137 = true then ((stratumref07_SoundFacts.f k l0_4).bind fun t138 => (some t138)) else (some false))) else (some false))) else (if a0_0 = 2 then ((stratumref07_bare.f a0_0 a0_1 a0_2 l0_3 l0_4 a0_5 l0_6 a0_7 a0_8 l0_9 (⟨#[73, 65, 78]⟩ : ByteArray)).bind fun t139 => (if t139 = true then ((stratumref07_SoundNodes.f k l0_3).bind fun t140 => (some t140)) else (some false))) else (if a0_0 = 3 then (stratumref07_Sound.j0 k a0_0 (a0_0 == 3) a0_0 a0_1 a0_2 l0_3 l0_4 a0_5 l0_6 a0_7 a0_8 l0_9) else (if a0_0 = 4 then (stratumref07_Sound.j0 k a0_0 (a0_0 == 4) a0_0 a0_1 a0_2 l0_3 l0_4 a0_5 l0_6 a0_7 a0_8 l0_9) else (stratumref07_Sound.j0 k a0_0 (a0_0 == 5) a0_0 a0_1 a0_2 l0_3 l0_4 a0_5 l0_6 a0_7 a0_8 l0_9))))) = some r := h
  clear h
  by_cases c2 : a0_0 = 1
  · rw [if_pos c2] at H
    have c2b0 : (a0_0 == 1) = true := beq_iff_eq.mpr c2
    have c2b1 : (a0_0 != 1) = false := bne_eq_false_iff_eq.mpr c2
    clear c2
    replace H := Option.bind_eq_some_iff.mp H
    obtain ⟨t136, A30, H⟩ := H
    replace H : (if t136 = true then ((stratumref07_SoundNodes.f k l0_3).bind fun t137 => (if t137 = true then ((stratumref07_SoundFacts.f k l0_4).bind fun t138 => (some t138)) else (some false))) else (some false)) = some r := H
    have A3 := Aside0.mk A30
    clear A30
    by_cases c4 : t136 = true
    · subst c4
      have H1 : ((stratumref07_SoundNodes.f k l0_3).bind fun t137 => (if t137 = true then ((stratumref07_SoundFacts.f k l0_4).bind fun t138 => (some t138)) else (some false))) = some r := by rw [if_pos rfl] at H; exact H
      clear H
      have H := H1
      clear H1
      replace H := Option.bind_eq_some_iff.mp H
      obtain ⟨t137, A50, H⟩ := H
      replace H : (if t137 = true then ((stratumref07_SoundFacts.f k l0_4).bind fun t138 => (some t138)) else (some false)) = some r := H
      have A5 := Aside0.mk A50
      clear A50
      by_cases c6 : t137 = true
      · subst c6
        have H1 : ((stratumref07_SoundFacts.f k l0_4).bind fun t138 => (some t138)) = some r := by rw [if_pos rfl] at H; exact H
        clear H
        have H := H1
        clear H1
        replace H := Option.bind_eq_some_iff.mp H
        obtain ⟨t138, A70, H⟩ := H
        replace H : (some t138) = some r := H
        have A7 := Aside0.mk A70
        clear A70
        obtain rfl := Option.some.inj H
        go_enter Tryd.func42, Tryd.ntmps42
        go_wp2_with (first | ((with_reducible refine gate_dst (N := 1) rfl ?_); refine box_event ?hg (N := 1) ?hd (cs := #[.int .u8 a0_0, .int .u32 a0_1, .int .u32 a0_2, .slice A0_3 l0_3.length c0_3, .slice A0_4 l0_4.length c0_4, .int .u32 a0_5, .slice A0_6 l0_6.length c0_6, .int .i64 a0_7, .int .i64 a0_8, .slice A0_9 l0_9.length c0_9]) (t := 57) ?hr ?_; (case hd => rfl); (case hg => rfl); (case hr => first | (go_simp; done) | (go_simp; rfl)); intro gb135 hg w8 hbox hb; have n0_ := Aside0.mk (below_step (by repeat (first | (with_reducible first | exact HB.out | apply below_alloc | apply pw_below_drewN | apply below_drew1) | exact HB.out)) hb); have n1_ := Aside0.mk (hbox); have n2_ := Aside0.mk ((by rw [hg]; exact (below_size (by repeat (first | (with_reducible first | exact HB.out | apply below_alloc | apply pw_below_drewN | apply below_drew1) | exact HB.out))) : w.heap.size ≤ gb135)); have n3_ := Aside0.mk ((by rw [hg]; exact (below_size (by repeat (first | (with_reducible first | exact HB.out | apply below_alloc | apply pw_below_drewN | apply below_drew1) | exact HB.out))) : w.heap.size ≤ gb135)); clear HB; have HB := n0_; have BK135 := n1_; have GW135 := n2_; have GE135 := n3_; clear n0_ n1_ n2_ n3_; clear hb hbox hg; have hcz9_0 : w8.cell? ⟨gb135, 0, none⟩ = some (.int .u8 a0_0) := (blk_cell BK135.out 0).trans rfl; have hcz9_1 : w8.cell? ⟨gb135, 1, none⟩ = some (.int .u32 a0_1) := (blk_cell BK135.out 1).trans rfl; have hcz9_2 : w8.cell? ⟨gb135, 2, none⟩ = some (.int .u32 a0_2) := (blk_cell BK135.out 2).trans rfl; have hcz9_3 : w8.cell? ⟨gb135, 3, none⟩ = some (.slice A0_3 l0_3.length c0_3) := (blk_cell BK135.out 3).trans rfl; have hcz9_4 : w8.cell? ⟨gb135, 4, none⟩ = some (.slice A0_4 l0_4.length c0_4) := (blk_cell BK135.out 4).trans rfl; have hcz9_5 : w8.cell? ⟨gb135, 5, none⟩ = some (.int .u32 a0_5) := (blk_cell BK135.out 5).trans rfl; have hcz9_6 : w8.cell? ⟨gb135, 6, none⟩ = some (.slice A0_6 l0_6.length c0_6) := (blk_cell BK135.out 6).trans rfl; have hcz9_7 : w8.cell? ⟨gb135, 7, none⟩ = some (.int .i64 a0_7) := (blk_cell BK135.out 7).trans rfl; have hcz9_8 : w8.cell? ⟨gb135, 8, none⟩ = some (.int .i64 a0_8) := (blk_cell BK135.out 8).trans rfl; have hcz9_9 : w8.cell? ⟨gb135, 9, none⟩ = some (.slice A0_9 l0_9.length c0_9) := (blk_cell BK135.out 9).trans rfl; have hfz9_0 := blk_frozen BK135.out 0; have hfz9_1 := blk_frozen BK135.out 1; have hfz9_2 := blk_frozen BK135.out 2; have hfz9_3 := blk_frozen BK135.out 3; have hfz9_4 := blk_frozen BK135.out 4; have hfz9_5 := blk_frozen BK135.out 5; have hfz9_6 := blk_frozen BK135.out 6; have hfz9_7 := blk_frozen BK135.out 7; have hfz9_8 := blk_frozen BK135.out 8; have hfz9_9 := blk_frozen BK135.out 9) | ((with_reducible refine gate_callee (f := 97) rfl ?_); refine goesL_ (some 8) rfl rfl Tryd.func97 (by kernel_rfl) rfl #[.agg #[.int .u8 a0_0, .int .u32 a0_1, .int .u32 a0_2, .slice A0_3 l0_3.length c0_3, .slice A0_4 l0_4.length c0_4, .int .u32 a0_5, .slice A0_6 l0_6.length c0_6, .int .i64 a0_7, .int .i64 a0_8, .slice A0_9 l0_9.length c0_9], .string (⟨#[73, 78, 70]⟩ : ByteArray)] rfl (by (try simp only [List.map_toArray, List.map_cons, List.map_nil]); first | done | rfl | (simp only [List.length_drop, List.length_take]; rfl)) ?_; (with_reducible refine (stratumref07_bare.calls a0_0 a0_1 a0_2 _ _ l0_3 _ _ l0_4 a0_5 _ _ l0_6 a0_7 a0_8 _ _ l0_9 (⟨#[73, 78, 70]⟩ : ByteArray) true _ ?side1 ?side2 ?side3 ?side4 ?side5 ?side6 ?side7 ?side8 A3.out).mono ?_); (case side1 => repeat (first | exact (Kd.C_below HR0_3.out HB.out) | (with_reducible refine Kd.C_alloc ?_ _) | (with_reducible refine Kd.C_drewN ?_ _) | (with_reducible refine Kd.C_drew ?_))); (case side2 => exact HC0_3.out); (case side3 => repeat (first | exact (Kd.C_below HR0_4.out HB.out) | (with_reducible refine Kd.C_alloc ?_ _) | (with_reducible refine Kd.C_drewN ?_ _) | (with_reducible refine Kd.C_drew ?_))); (case side4 => exact HC0_4.out); (case side5 => repeat (first | exact (Kd.C_below HR0_6.out HB.out) | (with_reducible refine Kd.C_alloc ?_ _) | (with_reducible refine Kd.C_drewN ?_ _) | (with_reducible refine Kd.C_drew ?_))); (case side6 => exact HC0_6.out); (case side7 => repeat (first | exact (Kd.C_below HR0_9.out HB.out) | (with_reducible refine Kd.C_alloc ?_ _) | (with_reducible refine Kd.C_drewN ?_ _) | (with_reducible refine Kd.C_drew ?_))); (case side8 => exact HC0_9.out); rintro e w10 ⟨rfl, hb⟩; refine ⟨_, rfl, ?_⟩; have n0_ := Aside0.mk (blk_below (g := gb135) (o := .cells #[.int .u8 a0_0, .int .u32 a0_1, .int .u32 a0_2, .slice A0_3 l0_3.length c0_3, .slice A0_4 l0_4.length c0_4, .int .u32 a0_5, .slice A0_6 l0_6.length c0_6, .int .i64 a0_7, .int .i64 a0_8, .slice A0_9 l0_9.length c0_9] 57 (0, 0)) (by (with_reducible repeat (first | refine blk_drewN ?_ _ | refine blk_drew ?_ | refine blk_alloc ?_ _)); exact BK135.out) hb); have n1_ := Aside0.mk (below_step (by repeat (first | (with_reducible first | exact HB.out | apply below_alloc | apply pw_below_drewN | apply below_drew1 | refine below_set ?_ GE135.out) | exact HB.out)) hb); clear BK135; clear HB; have BK135 := n0_; have HB := n1_; clear n0_ n1_; (try clear hb); (try clear hb2); (try clear hk); (try clear hi); have hcz11_0 : w10.cell? ⟨gb135, 0, none⟩ = some (.int .u8 a0_0) := (blk_cell BK135.out 0).trans rfl; have hcz11_1 : w10.cell? ⟨gb135, 1, none⟩ = some (.int .u32 a0_1) := (blk_cell BK135.out 1).trans rfl; have hcz11_2 : w10.cell? ⟨gb135, 2, none⟩ = some (.int .u32 a0_2) := (blk_cell BK135.out 2).trans rfl; have hcz11_3 : w10.cell? ⟨gb135, 3, none⟩ = some (.slice A0_3 l0_3.length c0_3) := (blk_cell BK135.out 3).trans rfl; have hcz11_4 : w10.cell? ⟨gb135, 4, none⟩ = some (.slice A0_4 l0_4.length c0_4) := (blk_cell BK135.out 4).trans rfl; have hcz11_5 : w10.cell? ⟨gb135, 5, none⟩ = some (.int .u32 a0_5) := (blk_cell BK135.out 5).trans rfl; have hcz11_6 : w10.cell? ⟨gb135, 6, none⟩ = some (.slice A0_6 l0_6.length c0_6) := (blk_cell BK135.out 6).trans rfl; have hcz11_7 : w10.cell? ⟨gb135, 7, none⟩ = some (.int .i64 a0_7) := (blk_cell BK135.out 7).trans rfl; have hcz11_8 : w10.cell? ⟨gb135, 8, none⟩ = some (.int .i64 a0_8) := (blk_cell BK135.out 8).trans rfl; have hcz11_9 : w10.cell? ⟨gb135, 9, none⟩ = some (.slice A0_9 l0_9.length c0_9) := (blk_cell BK135.out 9).trans rfl; have hfz11_0 := blk_frozen BK135.out 0; have hfz11_1 := blk_frozen BK135.out 1; have hfz11_2 := blk_frozen BK135.out 2; have hfz11_3 := blk_frozen BK135.out 3; have hfz11_4 := blk_frozen BK135.out 4; have hfz11_5 := blk_frozen BK135.out 5; have hfz11_6 := blk_frozen BK135.out 6; have hfz11_7 := blk_frozen BK135.out 7; have hfz11_8 := blk_frozen BK135.out 8; have hfz11_9 := blk_frozen BK135.out 9) | (go_at_call 98; (with_reducible refine (stratumref07_SoundNodes.calls k _ _ l0_3 true _ ?side1 ?side2 A5.out).mono ?_); (case side1 => repeat (first | exact (Kd.C_below HR0_3.out HB.out) | (with_reducible refine Kd.C_alloc ?_ _) | (with_reducible refine Kd.C_drewN ?_ _) | (with_reducible refine Kd.C_drew ?_))); (case side2 => exact HC0_3.out); rintro e w' ⟨rfl, ⟨nd, rfl⟩⟩) | (go_at_call 99; (with_reducible refine (stratumref07_SoundFacts.calls k _ _ l0_4 t138 _ ?side1 ?side2 A7.out).mono ?_); (case side1 => repeat (first | exact (Kd.C_below HR0_4.out (by repeat (first | (with_reducible first | exact HB.out | apply below_alloc | apply pw_below_drewN | apply below_drew1 | refine below_set ?_ GE135.out) | exact HB.out))) | (with_reducible refine Kd.C_alloc ?_ _) | (with_reducible refine Kd.C_drewN ?_ _) | (with_reducible refine Kd.C_drew ?_))); (case side2 => exact HC0_4.out); rintro e w' ⟨rfl, ⟨nd, rfl⟩⟩))
        go_ret
        exact ⟨by first | rfl | (simp [errW_none, errW_some] <;> rfl) | (simp [*, errW_none, errW_some] <;> rfl), by repeat (first | (with_reducible first | exact HB.out | apply below_alloc | apply pw_below_drewN | apply below_drew1 | refine below_set ?_ GE135.out) | exact HB.out)⟩
      · replace c6 := Bool.eq_false_iff.mpr c6
        subst c6
        have H1 : (some false) = some r := by rw [if_neg (show ¬ (false = true) by decide)] at H; exact H
        clear H
        have H := H1
        clear H1
        obtain rfl := Option.some.inj H
        go_enter Tryd.func42, Tryd.ntmps42
        go_wp2_with (first | ((with_reducible refine gate_dst (N := 1) rfl ?_); refine box_event ?hg (N := 1) ?hd (cs := #[.int .u8 a0_0, .int .u32 a0_1, .int .u32 a0_2, .slice A0_3 l0_3.length c0_3, .slice A0_4 l0_4.length c0_4, .int .u32 a0_5, .slice A0_6 l0_6.length c0_6, .int .i64 a0_7, .int .i64 a0_8, .slice A0_9 l0_9.length c0_9]) (t := 57) ?hr ?_; (case hd => rfl); (case hg => rfl); (case hr => first | (go_simp; done) | (go_simp; rfl)); intro gb135 hg w12 hbox hb; have n0_ := Aside0.mk (below_step (by repeat (first | (with_reducible first | exact HB.out | apply below_alloc | apply pw_below_drewN | apply below_drew1) | exact HB.out)) hb); have n1_ := Aside0.mk (hbox); have n2_ := Aside0.mk ((by rw [hg]; exact (below_size (by repeat (first | (with_reducible first | exact HB.out | apply below_alloc | apply pw_below_drewN | apply below_drew1) | exact HB.out))) : w.heap.size ≤ gb135)); have n3_ := Aside0.mk ((by rw [hg]; exact (below_size (by repeat (first | (with_reducible first | exact HB.out | apply below_alloc | apply pw_below_drewN | apply below_drew1) | exact HB.out))) : w.heap.size ≤ gb135)); clear HB; have HB := n0_; have BK135 := n1_; have GW135 := n2_; have GE135 := n3_; clear n0_ n1_ n2_ n3_; clear hb hbox hg; have hcz13_0 : w12.cell? ⟨gb135, 0, none⟩ = some (.int .u8 a0_0) := (blk_cell BK135.out 0).trans rfl; have hcz13_1 : w12.cell? ⟨gb135, 1, none⟩ = some (.int .u32 a0_1) := (blk_cell BK135.out 1).trans rfl; have hcz13_2 : w12.cell? ⟨gb135, 2, none⟩ = some (.int .u32 a0_2) := (blk_cell BK135.out 2).trans rfl; have hcz13_3 : w12.cell? ⟨gb135, 3, none⟩ = some (.slice A0_3 l0_3.length c0_3) := (blk_cell BK135.out 3).trans rfl; have hcz13_4 : w12.cell? ⟨gb135, 4, none⟩ = some (.slice A0_4 l0_4.length c0_4) := (blk_cell BK135.out 4).trans rfl; have hcz13_5 : w12.cell? ⟨gb135, 5, none⟩ = some (.int .u32 a0_5) := (blk_cell BK135.out 5).trans rfl; have hcz13_6 : w12.cell? ⟨gb135, 6, none⟩ = some (.slice A0_6 l0_6.length c0_6) := (blk_cell BK135.out 6).trans rfl; have hcz13_7 : w12.cell? ⟨gb135, 7, none⟩ = some (.int .i64 a0_7) := (blk_cell BK135.out 7).trans rfl; have hcz13_8 : w12.cell? ⟨gb135, 8, none⟩ = some (.int .i64 a0_8) := (blk_cell BK135.out 8).trans rfl; have hcz13_9 : w12.cell? ⟨gb135, 9, none⟩ = some (.slice A0_9 l0_9.length c0_9) := (blk_cell BK135.out 9).trans rfl; have hfz13_0 := blk_frozen BK135.out 0; have hfz13_1 := blk_frozen BK135.out 1; have hfz13_2 := blk_frozen BK135.out 2; have hfz13_3 := blk_frozen BK135.out 3; have hfz13_4 := blk_frozen BK135.out 4; have hfz13_5 := blk_frozen BK135.out 5; have hfz13_6 := blk_frozen BK135.out 6; have hfz13_7 := blk_frozen BK135.out 7; have hfz13_8 := blk_frozen BK135.out 8; have hfz13_9 := blk_frozen BK135.out 9) | ((with_reducible refine gate_callee (f := 97) rfl ?_); refine goesL_ (some 8) rfl rfl Tryd.func97 (by kernel_rfl) rfl #[.agg #[.int .u8 a0_0, .int .u32 a0_1, .int .u32 a0_2, .slice A0_3 l0_3.length c0_3, .slice A0_4 l0_4.length c0_4, .int .u32 a0_5, .slice A0_6 l0_6.length c0_6, .int .i64 a0_7, .int .i64 a0_8, .slice A0_9 l0_9.length c0_9], .string (⟨#[73, 78, 70]⟩ : ByteArray)] rfl (by (try simp only [List.map_toArray, List.map_cons, List.map_nil]); first | done | rfl | (simp only [List.length_drop, List.length_take]; rfl)) ?_; (with_reducible refine (stratumref07_bare.calls a0_0 a0_1 a0_2 _ _ l0_3 _ _ l0_4 a0_5 _ _ l0_6 a0_7 a0_8 _ _ l0_9 (⟨#[73, 78, 70]⟩ : ByteArray) true _ ?side1 ?side2 ?side3 ?side4 ?side5 ?side6 ?side7 ?side8 A3.out).mono ?_); (case side1 => repeat (first | exact (Kd.C_below HR0_3.out HB.out) | (with_reducible refine Kd.C_alloc ?_ _) | (with_reducible refine Kd.C_drewN ?_ _) | (with_reducible refine Kd.C_drew ?_))); (case side2 => exact HC0_3.out); (case side3 => repeat (first | exact (Kd.C_below HR0_4.out HB.out) | (with_reducible refine Kd.C_alloc ?_ _) | (with_reducible refine Kd.C_drewN ?_ _) | (with_reducible refine Kd.C_drew ?_))); (case side4 => exact HC0_4.out); (case side5 => repeat (first | exact (Kd.C_below HR0_6.out HB.out) | (with_reducible refine Kd.C_alloc ?_ _) | (with_reducible refine Kd.C_drewN ?_ _) | (with_reducible refine Kd.C_drew ?_))); (case side6 => exact HC0_6.out); (case side7 => repeat (first | exact (Kd.C_below HR0_9.out HB.out) | (with_reducible refine Kd.C_alloc ?_ _) | (with_reducible refine Kd.C_drewN ?_ _) | (with_reducible refine Kd.C_drew ?_))); (case side8 => exact HC0_9.out); rintro e w14 ⟨rfl, hb⟩; refine ⟨_, rfl, ?_⟩; have n0_ := Aside0.mk (blk_below (g := gb135) (o := .cells #[.int .u8 a0_0, .int .u32 a0_1, .int .u32 a0_2, .slice A0_3 l0_3.length c0_3, .slice A0_4 l0_4.length c0_4, .int .u32 a0_5, .slice A0_6 l0_6.length c0_6, .int .i64 a0_7, .int .i64 a0_8, .slice A0_9 l0_9.length c0_9] 57 (0, 0)) (by (with_reducible repeat (first | refine blk_drewN ?_ _ | refine blk_drew ?_ | refine blk_alloc ?_ _)); exact BK135.out) hb); have n1_ := Aside0.mk (below_step (by repeat (first | (with_reducible first | exact HB.out | apply below_alloc | apply pw_below_drewN | apply below_drew1 | refine below_set ?_ GE135.out) | exact HB.out)) hb); clear BK135; clear HB; have BK135 := n0_; have HB := n1_; clear n0_ n1_; (try clear hb); (try clear hb2); (try clear hk); (try clear hi); have hcz15_0 : w14.cell? ⟨gb135, 0, none⟩ = some (.int .u8 a0_0) := (blk_cell BK135.out 0).trans rfl; have hcz15_1 : w14.cell? ⟨gb135, 1, none⟩ = some (.int .u32 a0_1) := (blk_cell BK135.out 1).trans rfl; have hcz15_2 : w14.cell? ⟨gb135, 2, none⟩ = some (.int .u32 a0_2) := (blk_cell BK135.out 2).trans rfl; have hcz15_3 : w14.cell? ⟨gb135, 3, none⟩ = some (.slice A0_3 l0_3.length c0_3) := (blk_cell BK135.out 3).trans rfl; have hcz15_4 : w14.cell? ⟨gb135, 4, none⟩ = some (.slice A0_4 l0_4.length c0_4) := (blk_cell BK135.out 4).trans rfl; have hcz15_5 : w14.cell? ⟨gb135, 5, none⟩ = some (.int .u32 a0_5) := (blk_cell BK135.out 5).trans rfl; have hcz15_6 : w14.cell? ⟨gb135, 6, none⟩ = some (.slice A0_6 l0_6.length c0_6) := (blk_cell BK135.out 6).trans rfl; have hcz15_7 : w14.cell? ⟨gb135, 7, none⟩ = some (.int .i64 a0_7) := (blk_cell BK135.out 7).trans rfl; have hcz15_8 : w14.cell? ⟨gb135, 8, none⟩ = some (.int .i64 a0_8) := (blk_cell BK135.out 8).trans rfl; have hcz15_9 : w14.cell? ⟨gb135, 9, none⟩ = some (.slice A0_9 l0_9.length c0_9) := (blk_cell BK135.out 9).trans rfl; have hfz15_0 := blk_frozen BK135.out 0; have hfz15_1 := blk_frozen BK135.out 1; have hfz15_2 := blk_frozen BK135.out 2; have hfz15_3 := blk_frozen BK135.out 3; have hfz15_4 := blk_frozen BK135.out 4; have hfz15_5 := blk_frozen BK135.out 5; have hfz15_6 := blk_frozen BK135.out 6; have hfz15_7 := blk_frozen BK135.out 7; have hfz15_8 := blk_frozen BK135.out 8; have hfz15_9 := blk_frozen BK135.out 9) | (go_at_call 98; (with_reducible refine (stratumref07_SoundNodes.calls k _ _ l0_3 false _ ?side1 ?side2 A5.out).mono ?_); (case side1 => repeat (first | exact (Kd.C_below HR0_3.out HB.out) | (with_reducible refine Kd.C_alloc ?_ _) | (with_reducible refine Kd.C_drewN ?_ _) | (with_reducible refine Kd.C_drew ?_))); (case side2 => exact HC0_3.out); rintro e w' ⟨rfl, ⟨nd, rfl⟩⟩))
        go_ret
        exact ⟨by first | rfl | (simp [errW_none, errW_some] <;> rfl) | (simp [*, errW_none, errW_some] <;> rfl), by repeat (first | (with_reducible first | exact HB.out | apply below_alloc | apply pw_below_drewN | apply below_drew1 | refine below_set ?_ GE135.out) | exact HB.out)⟩
    · replace c4 := Bool.eq_false_iff.mpr c4
      subst c4
      have H1 : (some false) = some r := by rw [if_neg (show ¬ (false = true) by decide)] at H; exact H
      clear H
      have H := H1
      clear H1
      obtain rfl := Option.some.inj H
      go_enter Tryd.func42, Tryd.ntmps42
      go_wp2_with (first | ((with_reducible refine gate_dst (N := 1) rfl ?_); refine box_event ?hg (N := 1) ?hd (cs := #[.int .u8 a0_0, .int .u32 a0_1, .int .u32 a0_2, .slice A0_3 l0_3.length c0_3, .slice A0_4 l0_4.length c0_4, .int .u32 a0_5, .slice A0_6 l0_6.length c0_6, .int .i64 a0_7, .int .i64 a0_8, .slice A0_9 l0_9.length c0_9]) (t := 57) ?hr ?_; (case hd => rfl); (case hg => rfl); (case hr => first | (go_simp; done) | (go_simp; rfl)); intro gb135 hg w16 hbox hb; have n0_ := Aside0.mk (below_step (by repeat (first | (with_reducible first | exact HB.out | apply below_alloc | apply pw_below_drewN | apply below_drew1) | exact HB.out)) hb); have n1_ := Aside0.mk (hbox); have n2_ := Aside0.mk ((by rw [hg]; exact (below_size (by repeat (first | (with_reducible first | exact HB.out | apply below_alloc | apply pw_below_drewN | apply below_drew1) | exact HB.out))) : w.heap.size ≤ gb135)); have n3_ := Aside0.mk ((by rw [hg]; exact (below_size (by repeat (first | (with_reducible first | exact HB.out | apply below_alloc | apply pw_below_drewN | apply below_drew1) | exact HB.out))) : w.heap.size ≤ gb135)); clear HB; have HB := n0_; have BK135 := n1_; have GW135 := n2_; have GE135 := n3_; clear n0_ n1_ n2_ n3_; clear hb hbox hg; have hcz17_0 : w16.cell? ⟨gb135, 0, none⟩ = some (.int .u8 a0_0) := (blk_cell BK135.out 0).trans rfl; have hcz17_1 : w16.cell? ⟨gb135, 1, none⟩ = some (.int .u32 a0_1) := (blk_cell BK135.out 1).trans rfl; have hcz17_2 : w16.cell? ⟨gb135, 2, none⟩ = some (.int .u32 a0_2) := (blk_cell BK135.out 2).trans rfl; have hcz17_3 : w16.cell? ⟨gb135, 3, none⟩ = some (.slice A0_3 l0_3.length c0_3) := (blk_cell BK135.out 3).trans rfl; have hcz17_4 : w16.cell? ⟨gb135, 4, none⟩ = some (.slice A0_4 l0_4.length c0_4) := (blk_cell BK135.out 4).trans rfl; have hcz17_5 : w16.cell? ⟨gb135, 5, none⟩ = some (.int .u32 a0_5) := (blk_cell BK135.out 5).trans rfl; have hcz17_6 : w16.cell? ⟨gb135, 6, none⟩ = some (.slice A0_6 l0_6.length c0_6) := (blk_cell BK135.out 6).trans rfl; have hcz17_7 : w16.cell? ⟨gb135, 7, none⟩ = some (.int .i64 a0_7) := (blk_cell BK135.out 7).trans rfl; have hcz17_8 : w16.cell? ⟨gb135, 8, none⟩ = some (.int .i64 a0_8) := (blk_cell BK135.out 8).trans rfl; have hcz17_9 : w16.cell? ⟨gb135, 9, none⟩ = some (.slice A0_9 l0_9.length c0_9) := (blk_cell BK135.out 9).trans rfl; have hfz17_0 := blk_frozen BK135.out 0; have hfz17_1 := blk_frozen BK135.out 1; have hfz17_2 := blk_frozen BK135.out 2; have hfz17_3 := blk_frozen BK135.out 3; have hfz17_4 := blk_frozen BK135.out 4; have hfz17_5 := blk_frozen BK135.out 5; have hfz17_6 := blk_frozen BK135.out 6; have hfz17_7 := blk_frozen BK135.out 7; have hfz17_8 := blk_frozen BK135.out 8; have hfz17_9 := blk_frozen BK135.out 9) | ((with_reducible refine gate_callee (f := 97) rfl ?_); refine goesL_ (some 8) rfl rfl Tryd.func97 (by kernel_rfl) rfl #[.agg #[.int .u8 a0_0, .int .u32 a0_1, .int .u32 a0_2, .slice A0_3 l0_3.length c0_3, .slice A0_4 l0_4.length c0_4, .int .u32 a0_5, .slice A0_6 l0_6.length c0_6, .int .i64 a0_7, .int .i64 a0_8, .slice A0_9 l0_9.length c0_9], .string (⟨#[73, 78, 70]⟩ : ByteArray)] rfl (by (try simp only [List.map_toArray, List.map_cons, List.map_nil]); first | done | rfl | (simp only [List.length_drop, List.length_take]; rfl)) ?_; (with_reducible refine (stratumref07_bare.calls a0_0 a0_1 a0_2 _ _ l0_3 _ _ l0_4 a0_5 _ _ l0_6 a0_7 a0_8 _ _ l0_9 (⟨#[73, 78, 70]⟩ : ByteArray) false _ ?side1 ?side2 ?side3 ?side4 ?side5 ?side6 ?side7 ?side8 A3.out).mono ?_); (case side1 => repeat (first | exact (Kd.C_below HR0_3.out HB.out) | (with_reducible refine Kd.C_alloc ?_ _) | (with_reducible refine Kd.C_drewN ?_ _) | (with_reducible refine Kd.C_drew ?_))); (case side2 => exact HC0_3.out); (case side3 => repeat (first | exact (Kd.C_below HR0_4.out HB.out) | (with_reducible refine Kd.C_alloc ?_ _) | (with_reducible refine Kd.C_drewN ?_ _) | (with_reducible refine Kd.C_drew ?_))); (case side4 => exact HC0_4.out); (case side5 => repeat (first | exact (Kd.C_below HR0_6.out HB.out) | (with_reducible refine Kd.C_alloc ?_ _) | (with_reducible refine Kd.C_drewN ?_ _) | (with_reducible refine Kd.C_drew ?_))); (case side6 => exact HC0_6.out); (case side7 => repeat (first | exact (Kd.C_below HR0_9.out HB.out) | (with_reducible refine Kd.C_alloc ?_ _) | (with_reducible refine Kd.C_drewN ?_ _) | (with_reducible refine Kd.C_drew ?_))); (case side8 => exact HC0_9.out); rintro e w18 ⟨rfl, hb⟩; refine ⟨_, rfl, ?_⟩; have n0_ := Aside0.mk (blk_below (g := gb135) (o := .cells #[.int .u8 a0_0, .int .u32 a0_1, .int .u32 a0_2, .slice A0_3 l0_3.length c0_3, .slice A0_4 l0_4.length c0_4, .int .u32 a0_5, .slice A0_6 l0_6.length c0_6, .int .i64 a0_7, .int .i64 a0_8, .slice A0_9 l0_9.length c0_9] 57 (0, 0)) (by (with_reducible repeat (first | refine blk_drewN ?_ _ | refine blk_drew ?_ | refine blk_alloc ?_ _)); exact BK135.out) hb); have n1_ := Aside0.mk (below_step (by repeat (first | (with_reducible first | exact HB.out | apply below_alloc | apply pw_below_drewN | apply below_drew1 | refine below_set ?_ GE135.out) | exact HB.out)) hb); clear BK135; clear HB; have BK135 := n0_; have HB := n1_; clear n0_ n1_; (try clear hb); (try clear hb2); (try clear hk); (try clear hi)))
      go_ret
      exact ⟨by first | rfl | (simp [errW_none, errW_some] <;> rfl) | (simp [*, errW_none, errW_some] <;> rfl), by repeat (first | (with_reducible first | exact HB.out | apply below_alloc | apply pw_below_drewN | apply below_drew1 | refine below_set ?_ GE135.out) | exact HB.out)⟩
  · rw [if_neg c2] at H
    have c2b0 : (a0_0 == 1) = false := beq_eq_false_iff_ne.mpr c2
    have c2b1 : (a0_0 != 1) = true := bne_iff_ne.mpr c2
    by_cases c19 : a0_0 = 2
    · rw [if_pos c19] at H
      have c19b0 : (a0_0 == 2) = true := beq_iff_eq.mpr c19
      have c19b1 : (a0_0 != 2) = false := bne_eq_false_iff_eq.mpr c19
      clear c19
      replace H := Option.bind_eq_some_iff.mp H
      obtain ⟨t139, A200, H⟩ := H
      replace H : (if t139 = true then ((stratumref07_SoundNodes.f k l0_3).bind fun t140 => (some t140)) else (some false)) = some r := H
      have A20 := Aside0.mk A200
      clear A200
      by_cases c21 : t139 = true
      · subst c21
        have H1 : ((stratumref07_SoundNodes.f k l0_3).bind fun t140 => (some t140)) = some r := by rw [if_pos rfl] at H; exact H
        clear H
        have H := H1
        clear H1
        replace H := Option.bind_eq_some_iff.mp H
        obtain ⟨t140, A220, H⟩ := H
        replace H : (some t140) = some r := H
        have A22 := Aside0.mk A220
        clear A220
        obtain rfl := Option.some.inj H
        go_enter Tryd.func42, Tryd.ntmps42
        go_wp2_with (first | ((with_reducible refine gate_dst (N := 1) rfl ?_); refine box_event ?hg (N := 1) ?hd (cs := #[.int .u8 a0_0, .int .u32 a0_1, .int .u32 a0_2, .slice A0_3 l0_3.length c0_3, .slice A0_4 l0_4.length c0_4, .int .u32 a0_5, .slice A0_6 l0_6.length c0_6, .int .i64 a0_7, .int .i64 a0_8, .slice A0_9 l0_9.length c0_9]) (t := 57) ?hr ?_; (case hd => rfl); (case hg => rfl); (case hr => first | (go_simp; done) | (go_simp; rfl)); intro gb135 hg w23 hbox hb; have n0_ := Aside0.mk (below_step (by repeat (first | (with_reducible first | exact HB.out | apply below_alloc | apply pw_below_drewN | apply below_drew1) | exact HB.out)) hb); have n1_ := Aside0.mk (hbox); have n2_ := Aside0.mk ((by rw [hg]; exact (below_size (by repeat (first | (with_reducible first | exact HB.out | apply below_alloc | apply pw_below_drewN | apply below_drew1) | exact HB.out))) : w.heap.size ≤ gb135)); have n3_ := Aside0.mk ((by rw [hg]; exact (below_size (by repeat (first | (with_reducible first | exact HB.out | apply below_alloc | apply pw_below_drewN | apply below_drew1) | exact HB.out))) : w.heap.size ≤ gb135)); clear HB; have HB := n0_; have BK135 := n1_; have GW135 := n2_; have GE135 := n3_; clear n0_ n1_ n2_ n3_; clear hb hbox hg; have hcz24_0 : w23.cell? ⟨gb135, 0, none⟩ = some (.int .u8 a0_0) := (blk_cell BK135.out 0).trans rfl; have hcz24_1 : w23.cell? ⟨gb135, 1, none⟩ = some (.int .u32 a0_1) := (blk_cell BK135.out 1).trans rfl; have hcz24_2 : w23.cell? ⟨gb135, 2, none⟩ = some (.int .u32 a0_2) := (blk_cell BK135.out 2).trans rfl; have hcz24_3 : w23.cell? ⟨gb135, 3, none⟩ = some (.slice A0_3 l0_3.length c0_3) := (blk_cell BK135.out 3).trans rfl; have hcz24_4 : w23.cell? ⟨gb135, 4, none⟩ = some (.slice A0_4 l0_4.length c0_4) := (blk_cell BK135.out 4).trans rfl; have hcz24_5 : w23.cell? ⟨gb135, 5, none⟩ = some (.int .u32 a0_5) := (blk_cell BK135.out 5).trans rfl; have hcz24_6 : w23.cell? ⟨gb135, 6, none⟩ = some (.slice A0_6 l0_6.length c0_6) := (blk_cell BK135.out 6).trans rfl; have hcz24_7 : w23.cell? ⟨gb135, 7, none⟩ = some (.int .i64 a0_7) := (blk_cell BK135.out 7).trans rfl; have hcz24_8 : w23.cell? ⟨gb135, 8, none⟩ = some (.int .i64 a0_8) := (blk_cell BK135.out 8).trans rfl; have hcz24_9 : w23.cell? ⟨gb135, 9, none⟩ = some (.slice A0_9 l0_9.length c0_9) := (blk_cell BK135.out 9).trans rfl; have hfz24_0 := blk_frozen BK135.out 0; have hfz24_1 := blk_frozen BK135.out 1; have hfz24_2 := blk_frozen BK135.out 2; have hfz24_3 := blk_frozen BK135.out 3; have hfz24_4 := blk_frozen BK135.out 4; have hfz24_5 := blk_frozen BK135.out 5; have hfz24_6 := blk_frozen BK135.out 6; have hfz24_7 := blk_frozen BK135.out 7; have hfz24_8 := blk_frozen BK135.out 8; have hfz24_9 := blk_frozen BK135.out 9) | ((with_reducible refine gate_callee (f := 97) rfl ?_); refine goesL_ (some 22) rfl rfl Tryd.func97 (by kernel_rfl) rfl #[.agg #[.int .u8 a0_0, .int .u32 a0_1, .int .u32 a0_2, .slice A0_3 l0_3.length c0_3, .slice A0_4 l0_4.length c0_4, .int .u32 a0_5, .slice A0_6 l0_6.length c0_6, .int .i64 a0_7, .int .i64 a0_8, .slice A0_9 l0_9.length c0_9], .string (⟨#[73, 65, 78]⟩ : ByteArray)] rfl (by (try simp only [List.map_toArray, List.map_cons, List.map_nil]); first | done | rfl | (simp only [List.length_drop, List.length_take]; rfl)) ?_; (with_reducible refine (stratumref07_bare.calls a0_0 a0_1 a0_2 _ _ l0_3 _ _ l0_4 a0_5 _ _ l0_6 a0_7 a0_8 _ _ l0_9 (⟨#[73, 65, 78]⟩ : ByteArray) true _ ?side1 ?side2 ?side3 ?side4 ?side5 ?side6 ?side7 ?side8 A20.out).mono ?_); (case side1 => repeat (first | exact (Kd.C_below HR0_3.out HB.out) | (with_reducible refine Kd.C_alloc ?_ _) | (with_reducible refine Kd.C_drewN ?_ _) | (with_reducible refine Kd.C_drew ?_))); (case side2 => exact HC0_3.out); (case side3 => repeat (first | exact (Kd.C_below HR0_4.out HB.out) | (with_reducible refine Kd.C_alloc ?_ _) | (with_reducible refine Kd.C_drewN ?_ _) | (with_reducible refine Kd.C_drew ?_))); (case side4 => exact HC0_4.out); (case side5 => repeat (first | exact (Kd.C_below HR0_6.out HB.out) | (with_reducible refine Kd.C_alloc ?_ _) | (with_reducible refine Kd.C_drewN ?_ _) | (with_reducible refine Kd.C_drew ?_))); (case side6 => exact HC0_6.out); (case side7 => repeat (first | exact (Kd.C_below HR0_9.out HB.out) | (with_reducible refine Kd.C_alloc ?_ _) | (with_reducible refine Kd.C_drewN ?_ _) | (with_reducible refine Kd.C_drew ?_))); (case side8 => exact HC0_9.out); rintro e w25 ⟨rfl, hb⟩; refine ⟨_, rfl, ?_⟩; have n0_ := Aside0.mk (blk_below (g := gb135) (o := .cells #[.int .u8 a0_0, .int .u32 a0_1, .int .u32 a0_2, .slice A0_3 l0_3.length c0_3, .slice A0_4 l0_4.length c0_4, .int .u32 a0_5, .slice A0_6 l0_6.length c0_6, .int .i64 a0_7, .int .i64 a0_8, .slice A0_9 l0_9.length c0_9] 57 (0, 0)) (by (with_reducible repeat (first | refine blk_drewN ?_ _ | refine blk_drew ?_ | refine blk_alloc ?_ _)); exact BK135.out) hb); have n1_ := Aside0.mk (below_step (by repeat (first | (with_reducible first | exact HB.out | apply below_alloc | apply pw_below_drewN | apply below_drew1 | refine below_set ?_ GE135.out) | exact HB.out)) hb); clear BK135; clear HB; have BK135 := n0_; have HB := n1_; clear n0_ n1_; (try clear hb); (try clear hb2); (try clear hk); (try clear hi); have hcz26_0 : w25.cell? ⟨gb135, 0, none⟩ = some (.int .u8 a0_0) := (blk_cell BK135.out 0).trans rfl; have hcz26_1 : w25.cell? ⟨gb135, 1, none⟩ = some (.int .u32 a0_1) := (blk_cell BK135.out 1).trans rfl; have hcz26_2 : w25.cell? ⟨gb135, 2, none⟩ = some (.int .u32 a0_2) := (blk_cell BK135.out 2).trans rfl; have hcz26_3 : w25.cell? ⟨gb135, 3, none⟩ = some (.slice A0_3 l0_3.length c0_3) := (blk_cell BK135.out 3).trans rfl; have hcz26_4 : w25.cell? ⟨gb135, 4, none⟩ = some (.slice A0_4 l0_4.length c0_4) := (blk_cell BK135.out 4).trans rfl; have hcz26_5 : w25.cell? ⟨gb135, 5, none⟩ = some (.int .u32 a0_5) := (blk_cell BK135.out 5).trans rfl; have hcz26_6 : w25.cell? ⟨gb135, 6, none⟩ = some (.slice A0_6 l0_6.length c0_6) := (blk_cell BK135.out 6).trans rfl; have hcz26_7 : w25.cell? ⟨gb135, 7, none⟩ = some (.int .i64 a0_7) := (blk_cell BK135.out 7).trans rfl; have hcz26_8 : w25.cell? ⟨gb135, 8, none⟩ = some (.int .i64 a0_8) := (blk_cell BK135.out 8).trans rfl; have hcz26_9 : w25.cell? ⟨gb135, 9, none⟩ = some (.slice A0_9 l0_9.length c0_9) := (blk_cell BK135.out 9).trans rfl; have hfz26_0 := blk_frozen BK135.out 0; have hfz26_1 := blk_frozen BK135.out 1; have hfz26_2 := blk_frozen BK135.out 2; have hfz26_3 := blk_frozen BK135.out 3; have hfz26_4 := blk_frozen BK135.out 4; have hfz26_5 := blk_frozen BK135.out 5; have hfz26_6 := blk_frozen BK135.out 6; have hfz26_7 := blk_frozen BK135.out 7; have hfz26_8 := blk_frozen BK135.out 8; have hfz26_9 := blk_frozen BK135.out 9) | (go_at_call 98; (with_reducible refine (stratumref07_SoundNodes.calls k _ _ l0_3 t140 _ ?side1 ?side2 A22.out).mono ?_); (case side1 => repeat (first | exact (Kd.C_below HR0_3.out HB.out) | (with_reducible refine Kd.C_alloc ?_ _) | (with_reducible refine Kd.C_drewN ?_ _) | (with_reducible refine Kd.C_drew ?_))); (case side2 => exact HC0_3.out); rintro e w' ⟨rfl, ⟨nd, rfl⟩⟩))
        go_ret
        exact ⟨by first | rfl | (simp [errW_none, errW_some] <;> rfl) | (simp [*, errW_none, errW_some] <;> rfl), by repeat (first | (with_reducible first | exact HB.out | apply below_alloc | apply pw_below_drewN | apply below_drew1 | refine below_set ?_ GE135.out) | exact HB.out)⟩
      · replace c21 := Bool.eq_false_iff.mpr c21
        subst c21
        have H1 : (some false) = some r := by rw [if_neg (show ¬ (false = true) by decide)] at H; exact H
        clear H
        have H := H1
        clear H1
        obtain rfl := Option.some.inj H
        go_enter Tryd.func42, Tryd.ntmps42
        go_wp2_with (first | ((with_reducible refine gate_dst (N := 1) rfl ?_); refine box_event ?hg (N := 1) ?hd (cs := #[.int .u8 a0_0, .int .u32 a0_1, .int .u32 a0_2, .slice A0_3 l0_3.length c0_3, .slice A0_4 l0_4.length c0_4, .int .u32 a0_5, .slice A0_6 l0_6.length c0_6, .int .i64 a0_7, .int .i64 a0_8, .slice A0_9 l0_9.length c0_9]) (t := 57) ?hr ?_; (case hd => rfl); (case hg => rfl); (case hr => first | (go_simp; done) | (go_simp; rfl)); intro gb135 hg w27 hbox hb; have n0_ := Aside0.mk (below_step (by repeat (first | (with_reducible first | exact HB.out | apply below_alloc | apply pw_below_drewN | apply below_drew1) | exact HB.out)) hb); have n1_ := Aside0.mk (hbox); have n2_ := Aside0.mk ((by rw [hg]; exact (below_size (by repeat (first | (with_reducible first | exact HB.out | apply below_alloc | apply pw_below_drewN | apply below_drew1) | exact HB.out))) : w.heap.size ≤ gb135)); have n3_ := Aside0.mk ((by rw [hg]; exact (below_size (by repeat (first | (with_reducible first | exact HB.out | apply below_alloc | apply pw_below_drewN | apply below_drew1) | exact HB.out))) : w.heap.size ≤ gb135)); clear HB; have HB := n0_; have BK135 := n1_; have GW135 := n2_; have GE135 := n3_; clear n0_ n1_ n2_ n3_; clear hb hbox hg; have hcz28_0 : w27.cell? ⟨gb135, 0, none⟩ = some (.int .u8 a0_0) := (blk_cell BK135.out 0).trans rfl; have hcz28_1 : w27.cell? ⟨gb135, 1, none⟩ = some (.int .u32 a0_1) := (blk_cell BK135.out 1).trans rfl; have hcz28_2 : w27.cell? ⟨gb135, 2, none⟩ = some (.int .u32 a0_2) := (blk_cell BK135.out 2).trans rfl; have hcz28_3 : w27.cell? ⟨gb135, 3, none⟩ = some (.slice A0_3 l0_3.length c0_3) := (blk_cell BK135.out 3).trans rfl; have hcz28_4 : w27.cell? ⟨gb135, 4, none⟩ = some (.slice A0_4 l0_4.length c0_4) := (blk_cell BK135.out 4).trans rfl; have hcz28_5 : w27.cell? ⟨gb135, 5, none⟩ = some (.int .u32 a0_5) := (blk_cell BK135.out 5).trans rfl; have hcz28_6 : w27.cell? ⟨gb135, 6, none⟩ = some (.slice A0_6 l0_6.length c0_6) := (blk_cell BK135.out 6).trans rfl; have hcz28_7 : w27.cell? ⟨gb135, 7, none⟩ = some (.int .i64 a0_7) := (blk_cell BK135.out 7).trans rfl; have hcz28_8 : w27.cell? ⟨gb135, 8, none⟩ = some (.int .i64 a0_8) := (blk_cell BK135.out 8).trans rfl; have hcz28_9 : w27.cell? ⟨gb135, 9, none⟩ = some (.slice A0_9 l0_9.length c0_9) := (blk_cell BK135.out 9).trans rfl; have hfz28_0 := blk_frozen BK135.out 0; have hfz28_1 := blk_frozen BK135.out 1; have hfz28_2 := blk_frozen BK135.out 2; have hfz28_3 := blk_frozen BK135.out 3; have hfz28_4 := blk_frozen BK135.out 4; have hfz28_5 := blk_frozen BK135.out 5; have hfz28_6 := blk_frozen BK135.out 6; have hfz28_7 := blk_frozen BK135.out 7; have hfz28_8 := blk_frozen BK135.out 8; have hfz28_9 := blk_frozen BK135.out 9) | ((with_reducible refine gate_callee (f := 97) rfl ?_); refine goesL_ (some 22) rfl rfl Tryd.func97 (by kernel_rfl) rfl #[.agg #[.int .u8 a0_0, .int .u32 a0_1, .int .u32 a0_2, .slice A0_3 l0_3.length c0_3, .slice A0_4 l0_4.length c0_4, .int .u32 a0_5, .slice A0_6 l0_6.length c0_6, .int .i64 a0_7, .int .i64 a0_8, .slice A0_9 l0_9.length c0_9], .string (⟨#[73, 65, 78]⟩ : ByteArray)] rfl (by (try simp only [List.map_toArray, List.map_cons, List.map_nil]); first | done | rfl | (simp only [List.length_drop, List.length_take]; rfl)) ?_; (with_reducible refine (stratumref07_bare.calls a0_0 a0_1 a0_2 _ _ l0_3 _ _ l0_4 a0_5 _ _ l0_6 a0_7 a0_8 _ _ l0_9 (⟨#[73, 65, 78]⟩ : ByteArray) false _ ?side1 ?side2 ?side3 ?side4 ?side5 ?side6 ?side7 ?side8 A20.out).mono ?_); (case side1 => repeat (first | exact (Kd.C_below HR0_3.out HB.out) | (with_reducible refine Kd.C_alloc ?_ _) | (with_reducible refine Kd.C_drewN ?_ _) | (with_reducible refine Kd.C_drew ?_))); (case side2 => exact HC0_3.out); (case side3 => repeat (first | exact (Kd.C_below HR0_4.out HB.out) | (with_reducible refine Kd.C_alloc ?_ _) | (with_reducible refine Kd.C_drewN ?_ _) | (with_reducible refine Kd.C_drew ?_))); (case side4 => exact HC0_4.out); (case side5 => repeat (first | exact (Kd.C_below HR0_6.out HB.out) | (with_reducible refine Kd.C_alloc ?_ _) | (with_reducible refine Kd.C_drewN ?_ _) | (with_reducible refine Kd.C_drew ?_))); (case side6 => exact HC0_6.out); (case side7 => repeat (first | exact (Kd.C_below HR0_9.out HB.out) | (with_reducible refine Kd.C_alloc ?_ _) | (with_reducible refine Kd.C_drewN ?_ _) | (with_reducible refine Kd.C_drew ?_))); (case side8 => exact HC0_9.out); rintro e w29 ⟨rfl, hb⟩; refine ⟨_, rfl, ?_⟩; have n0_ := Aside0.mk (blk_below (g := gb135) (o := .cells #[.int .u8 a0_0, .int .u32 a0_1, .int .u32 a0_2, .slice A0_3 l0_3.length c0_3, .slice A0_4 l0_4.length c0_4, .int .u32 a0_5, .slice A0_6 l0_6.length c0_6, .int .i64 a0_7, .int .i64 a0_8, .slice A0_9 l0_9.length c0_9] 57 (0, 0)) (by (with_reducible repeat (first | refine blk_drewN ?_ _ | refine blk_drew ?_ | refine blk_alloc ?_ _)); exact BK135.out) hb); have n1_ := Aside0.mk (below_step (by repeat (first | (with_reducible first | exact HB.out | apply below_alloc | apply pw_below_drewN | apply below_drew1 | refine below_set ?_ GE135.out) | exact HB.out)) hb); clear BK135; clear HB; have BK135 := n0_; have HB := n1_; clear n0_ n1_; (try clear hb); (try clear hb2); (try clear hk); (try clear hi)))
        go_ret
        exact ⟨by first | rfl | (simp [errW_none, errW_some] <;> rfl) | (simp [*, errW_none, errW_some] <;> rfl), by repeat (first | (with_reducible first | exact HB.out | apply below_alloc | apply pw_below_drewN | apply below_drew1 | refine below_set ?_ GE135.out) | exact HB.out)⟩
    · rw [if_neg c19] at H
      have c19b0 : (a0_0 == 2) = false := beq_eq_false_iff_ne.mpr c19
      have c19b1 : (a0_0 != 2) = true := bne_iff_ne.mpr c19
      have HC30 := Aside0.mk H
      clear H
      go_enter Tryd.func42, Tryd.ntmps42
      go_upto_if 28 with (first | ((with_reducible refine gate_dst (N := 1) rfl ?_); refine box_event ?hg (N := 1) ?hd (cs := #[.int .u8 a0_0, .int .u32 a0_1, .int .u32 a0_2, .slice A0_3 l0_3.length c0_3, .slice A0_4 l0_4.length c0_4, .int .u32 a0_5, .slice A0_6 l0_6.length c0_6, .int .i64 a0_7, .int .i64 a0_8, .slice A0_9 l0_9.length c0_9]) (t := 57) ?hr ?_; (case hd => rfl); (case hg => rfl); (case hr => first | (go_simp; done) | (go_simp; rfl)); intro gb135 hg w31 hbox hb; have n0_ := Aside0.mk (below_step (by repeat (first | (with_reducible first | exact HB.out | apply below_alloc | apply pw_below_drewN | apply below_drew1) | exact HB.out)) hb); have n1_ := Aside0.mk (hbox); have n2_ := Aside0.mk ((by rw [hg]; exact (below_size (by repeat (first | (with_reducible first | exact HB.out | apply below_alloc | apply pw_below_drewN | apply below_drew1) | exact HB.out))) : w.heap.size ≤ gb135)); have n3_ := Aside0.mk ((by rw [hg]; exact (below_size (by repeat (first | (with_reducible first | exact HB.out | apply below_alloc | apply pw_below_drewN | apply below_drew1) | exact HB.out))) : w.heap.size ≤ gb135)); clear HB; have HB := n0_; have BK135 := n1_; have GW135 := n2_; have GE135 := n3_; clear n0_ n1_ n2_ n3_; clear hb hbox hg; have hcz32_0 : w31.cell? ⟨gb135, 0, none⟩ = some (.int .u8 a0_0) := (blk_cell BK135.out 0).trans rfl; have hcz32_1 : w31.cell? ⟨gb135, 1, none⟩ = some (.int .u32 a0_1) := (blk_cell BK135.out 1).trans rfl; have hcz32_2 : w31.cell? ⟨gb135, 2, none⟩ = some (.int .u32 a0_2) := (blk_cell BK135.out 2).trans rfl; have hcz32_3 : w31.cell? ⟨gb135, 3, none⟩ = some (.slice A0_3 l0_3.length c0_3) := (blk_cell BK135.out 3).trans rfl; have hcz32_4 : w31.cell? ⟨gb135, 4, none⟩ = some (.slice A0_4 l0_4.length c0_4) := (blk_cell BK135.out 4).trans rfl; have hcz32_5 : w31.cell? ⟨gb135, 5, none⟩ = some (.int .u32 a0_5) := (blk_cell BK135.out 5).trans rfl; have hcz32_6 : w31.cell? ⟨gb135, 6, none⟩ = some (.slice A0_6 l0_6.length c0_6) := (blk_cell BK135.out 6).trans rfl; have hcz32_7 : w31.cell? ⟨gb135, 7, none⟩ = some (.int .i64 a0_7) := (blk_cell BK135.out 7).trans rfl; have hcz32_8 : w31.cell? ⟨gb135, 8, none⟩ = some (.int .i64 a0_8) := (blk_cell BK135.out 8).trans rfl; have hcz32_9 : w31.cell? ⟨gb135, 9, none⟩ = some (.slice A0_9 l0_9.length c0_9) := (blk_cell BK135.out 9).trans rfl; have hfz32_0 := blk_frozen BK135.out 0; have hfz32_1 := blk_frozen BK135.out 1; have hfz32_2 := blk_frozen BK135.out 2; have hfz32_3 := blk_frozen BK135.out 3; have hfz32_4 := blk_frozen BK135.out 4; have hfz32_5 := blk_frozen BK135.out 5; have hfz32_6 := blk_frozen BK135.out 6; have hfz32_7 := blk_frozen BK135.out 7; have hfz32_8 := blk_frozen BK135.out 8; have hfz32_9 := blk_frozen BK135.out 9))
      (try simp only [Act.put, List.setIfInBounds_toArray, List.set_cons_zero, List.set_cons_succ])
      go_cut [28] (fun v28 wc => ∃ (kq : Nat) (x28_29 : Bool), v28 = .bool x28_29 ∧ Aside0 (stratumref07_Sound.j0 kq a0_0 x28_29 a0_0 a0_1 a0_2 l0_3 l0_4 a0_5 l0_6 a0_7 a0_8 l0_9 = some r) ∧ Aside0 (kq ≤ k) ∧ Aside0 (wc.heap[gb135]? = some (.cells #[.int .u8 a0_0, .int .u32 a0_1, .int .u32 a0_2, (.slice A0_3 l0_3.length c0_3), (.slice A0_4 l0_4.length c0_4), .int .u32 a0_5, (.slice A0_6 l0_6.length c0_6), .int .i64 a0_7, .int .i64 a0_8, (.slice A0_9 l0_9.length c0_9)] 57 (0, 0))) ∧ Aside0 (Below w.heap.size w wc))
      case first =>
        have H := HC30.out
        clear HC30
        by_cases c33 : a0_0 = 3
        · rw [if_pos c33] at H
          have c33b0 : (a0_0 == 3) = true := beq_iff_eq.mpr c33
          have c33b1 : (a0_0 != 3) = false := bne_eq_false_iff_eq.mpr c33
          clear c33
          (first | rw [c33b0] | (simp only [i64_w, i32_w]; rw [c33b0]) | skip)
          have H' := Aside0.mk H
          clear H
          go_wp2
          go_meet
          case rel => exact ⟨_, ((a0_0 == 3)), (by first | rfl | (simp; done) | (simp [*]; done)), H', ⟨by first | omega | exact Nat.le_refl _⟩, ⟨by (with_reducible repeat (first | refine blk_drewN ?_ _ | refine blk_drew ?_ | refine blk_alloc ?_ _)); exact BK135.out⟩, ⟨by repeat (first | (with_reducible first | exact HB.out | apply below_alloc | apply pw_below_drewN | apply below_drew1 | refine below_set ?_ GE135.out) | exact HB.out)⟩⟩
        · rw [if_neg c33] at H
          have c33b0 : (a0_0 == 3) = false := beq_eq_false_iff_ne.mpr c33
          have c33b1 : (a0_0 != 3) = true := bne_iff_ne.mpr c33
          (first | rw [c33b0] | (simp only [i64_w, i32_w]; rw [c33b0]) | skip)
          by_cases c34 : a0_0 = 4
          · rw [if_pos c34] at H
            have c34b0 : (a0_0 == 4) = true := beq_iff_eq.mpr c34
            have c34b1 : (a0_0 != 4) = false := bne_eq_false_iff_eq.mpr c34
            clear c34
            have H' := Aside0.mk H
            clear H
            go_wp2
            go_meet
            case rel => exact ⟨_, ((a0_0 == 4)), (by first | rfl | (simp; done) | (simp [*]; done)), H', ⟨by first | omega | exact Nat.le_refl _⟩, ⟨by (with_reducible repeat (first | refine blk_drewN ?_ _ | refine blk_drew ?_ | refine blk_alloc ?_ _)); exact BK135.out⟩, ⟨by repeat (first | (with_reducible first | exact HB.out | apply below_alloc | apply pw_below_drewN | apply below_drew1 | refine below_set ?_ GE135.out) | exact HB.out)⟩⟩
          · rw [if_neg c34] at H
            have c34b0 : (a0_0 == 4) = false := beq_eq_false_iff_ne.mpr c34
            have c34b1 : (a0_0 != 4) = true := bne_iff_ne.mpr c34
            have H' := Aside0.mk H
            clear H
            go_wp2
            go_meet
            case rel => exact ⟨_, ((a0_0 == 5)), (by first | rfl | (simp; done) | (simp [*]; done)), H', ⟨by first | omega | exact Nat.le_refl _⟩, ⟨by (with_reducible repeat (first | refine blk_drewN ?_ _ | refine blk_drew ?_ | refine blk_alloc ?_ _)); exact BK135.out⟩, ⟨by repeat (first | (with_reducible first | exact HB.out | apply below_alloc | apply pw_below_drewN | apply below_drew1 | refine below_set ?_ GE135.out) | exact HB.out)⟩⟩
      case rest =>
        clear HC30
        try clear c1
        try clear c2
        try clear c2b0
        try clear c2b1
        try clear p2
        try clear c3
        try clear c4
        try clear c6
        try clear c9
        try clear c19
        try clear c19b0
        try clear c19b1
        try clear c21
        try clear c33
        try clear c33b0
        try clear c33b1
        try clear c34
        try clear c34b0
        try clear c34b1
        try clear hcz11_0
        try clear hcz11_1
        try clear hcz11_2
        try clear hcz11_3
        try clear hcz11_4
        try clear hcz11_5
        try clear hcz11_6
        try clear hcz11_7
        try clear hcz11_8
        try clear hcz11_9
        try clear hcz13_0
        try clear hcz13_1
        try clear hcz13_2
        try clear hcz13_3
        try clear hcz13_4
        try clear hcz13_5
        try clear hcz13_6
        try clear hcz13_7
        try clear hcz13_8
        try clear hcz13_9
        try clear hcz15_0
        try clear hcz15_1
        try clear hcz15_2
        try clear hcz15_3
        try clear hcz15_4
        try clear hcz15_5
        try clear hcz15_6
        try clear hcz15_7
        try clear hcz15_8
        try clear hcz15_9
        try clear hcz17_0
        try clear hcz17_1
        try clear hcz17_2
        try clear hcz17_3
        try clear hcz17_4
        try clear hcz17_5
        try clear hcz17_6
        try clear hcz17_7
        try clear hcz17_8
        try clear hcz17_9
        try clear hcz24_0
        try clear hcz24_1
        try clear hcz24_2
        try clear hcz24_3
        try clear hcz24_4
        try clear hcz24_5
        try clear hcz24_6
        try clear hcz24_7
        try clear hcz24_8
        try clear hcz24_9
        try clear hcz26_0
        try clear hcz26_1
        try clear hcz26_2
        try clear hcz26_3
        try clear hcz26_4
        try clear hcz26_5
        try clear hcz26_6
        try clear hcz26_7
        try clear hcz26_8
        try clear hcz26_9
        try clear hcz28_0
        try clear hcz28_1
        try clear hcz28_2
        try clear hcz28_3
        try clear hcz28_4
        try clear hcz28_5
        try clear hcz28_6
        try clear hcz28_7
        try clear hcz28_8
        try clear hcz28_9
        try clear hcz32_0
        try clear hcz32_1
        try clear hcz32_2
        try clear hcz32_3
        try clear hcz32_4
        try clear hcz32_5
        try clear hcz32_6
        try clear hcz32_7
        try clear hcz32_8
        try clear hcz32_9
        try clear hcz9_0
        try clear hcz9_1
        try clear hcz9_2
        try clear hcz9_3
        try clear hcz9_4
        try clear hcz9_5
        try clear hcz9_6
        try clear hcz9_7
        try clear hcz9_8
        try clear hcz9_9
        try clear hfz11_0
        try clear hfz11_1
        try clear hfz11_2
        try clear hfz11_3
        try clear hfz11_4
        try clear hfz11_5
        try clear hfz11_6
        try clear hfz11_7
        try clear hfz11_8
        try clear hfz11_9
        try clear hfz13_0
        try clear hfz13_1
        try clear hfz13_2
        try clear hfz13_3
        try clear hfz13_4
        try clear hfz13_5
        try clear hfz13_6
        try clear hfz13_7
        try clear hfz13_8
        try clear hfz13_9
        try clear hfz15_0
        try clear hfz15_1
        try clear hfz15_2
        try clear hfz15_3
        try clear hfz15_4
        try clear hfz15_5
        try clear hfz15_6
        try clear hfz15_7
        try clear hfz15_8
        try clear hfz15_9
        try clear hfz17_0
        try clear hfz17_1
        try clear hfz17_2
        try clear hfz17_3
        try clear hfz17_4
        try clear hfz17_5
        try clear hfz17_6
        try clear hfz17_7
        try clear hfz17_8
        try clear hfz17_9
        try clear hfz24_0
        try clear hfz24_1
        try clear hfz24_2
        try clear hfz24_3
        try clear hfz24_4
        try clear hfz24_5
        try clear hfz24_6
        try clear hfz24_7
        try clear hfz24_8
        try clear hfz24_9
        try clear hfz26_0
        try clear hfz26_1
        try clear hfz26_2
        try clear hfz26_3
        try clear hfz26_4
        try clear hfz26_5
        try clear hfz26_6
        try clear hfz26_7
        try clear hfz26_8
        try clear hfz26_9
        try clear hfz28_0
        try clear hfz28_1
        try clear hfz28_2
        try clear hfz28_3
        try clear hfz28_4
        try clear hfz28_5
        try clear hfz28_6
        try clear hfz28_7
        try clear hfz28_8
        try clear hfz28_9
        try clear hfz32_0
        try clear hfz32_1
        try clear hfz32_2
        try clear hfz32_3
        try clear hfz32_4
        try clear hfz32_5
        try clear hfz32_6
        try clear hfz32_7
        try clear hfz32_8
        try clear hfz32_9
        try clear hfz9_0
        try clear hfz9_1
        try clear hfz9_2
        try clear hfz9_3
        try clear hfz9_4
        try clear hfz9_5
        try clear hfz9_6
        try clear hfz9_7
        try clear hfz9_8
        try clear hfz9_9
        obtain ⟨kq, x28_29, rfl, HA, HJ29, BK135, HB⟩ := hcut
        cases kq with
        | zero => exact absurd HA.out (by simp [stratumref07_Sound.j0])
        | succ kj29 =>
          have H := HA.out
          clear HA
          simp only [stratumref07_Sound.j0] at H
          by_cases c35 : x28_29 = true
          · subst c35
            have H1 : ((stratumref07_bare.f a0_0 a0_1 a0_2 l0_3 l0_4 a0_5 l0_6 a0_7 a0_8 l0_9 (⟨#[73]⟩ : ByteArray)).bind fun t141 => (some t141)) = some r := by rw [if_pos rfl] at H; exact H
            clear H
            have H := H1
            clear H1
            replace H := Option.bind_eq_some_iff.mp H
            obtain ⟨t141, A360, H⟩ := H
            replace H : (some t141) = some r := H
            have A36 := Aside0.mk A360
            clear A360
            obtain rfl := Option.some.inj H
            have hcz37_0 : wc.cell? ⟨gb135, 0, none⟩ = some (.int .u8 a0_0) := (blk_cell BK135.out 0).trans rfl
            have hcz37_1 : wc.cell? ⟨gb135, 1, none⟩ = some (.int .u32 a0_1) := (blk_cell BK135.out 1).trans rfl
            have hcz37_2 : wc.cell? ⟨gb135, 2, none⟩ = some (.int .u32 a0_2) := (blk_cell BK135.out 2).trans rfl
            have hcz37_3 : wc.cell? ⟨gb135, 3, none⟩ = some (.slice A0_3 l0_3.length c0_3) := (blk_cell BK135.out 3).trans rfl
            have hcz37_4 : wc.cell? ⟨gb135, 4, none⟩ = some (.slice A0_4 l0_4.length c0_4) := (blk_cell BK135.out 4).trans rfl
            have hcz37_5 : wc.cell? ⟨gb135, 5, none⟩ = some (.int .u32 a0_5) := (blk_cell BK135.out 5).trans rfl
            have hcz37_6 : wc.cell? ⟨gb135, 6, none⟩ = some (.slice A0_6 l0_6.length c0_6) := (blk_cell BK135.out 6).trans rfl
            have hcz37_7 : wc.cell? ⟨gb135, 7, none⟩ = some (.int .i64 a0_7) := (blk_cell BK135.out 7).trans rfl
            have hcz37_8 : wc.cell? ⟨gb135, 8, none⟩ = some (.int .i64 a0_8) := (blk_cell BK135.out 8).trans rfl
            have hcz37_9 : wc.cell? ⟨gb135, 9, none⟩ = some (.slice A0_9 l0_9.length c0_9) := (blk_cell BK135.out 9).trans rfl
            have hfz37_0 := blk_frozen BK135.out 0
            have hfz37_1 := blk_frozen BK135.out 1
            have hfz37_2 := blk_frozen BK135.out 2
            have hfz37_3 := blk_frozen BK135.out 3
            have hfz37_4 := blk_frozen BK135.out 4
            have hfz37_5 := blk_frozen BK135.out 5
            have hfz37_6 := blk_frozen BK135.out 6
            have hfz37_7 := blk_frozen BK135.out 7
            have hfz37_8 := blk_frozen BK135.out 8
            have hfz37_9 := blk_frozen BK135.out 9
            go_wp2_with (first | ((with_reducible refine gate_callee (f := 97) rfl ?_); refine goesL_ (some 33) rfl rfl Tryd.func97 (by kernel_rfl) rfl #[.agg #[.int .u8 a0_0, .int .u32 a0_1, .int .u32 a0_2, .slice A0_3 l0_3.length c0_3, .slice A0_4 l0_4.length c0_4, .int .u32 a0_5, .slice A0_6 l0_6.length c0_6, .int .i64 a0_7, .int .i64 a0_8, .slice A0_9 l0_9.length c0_9], .string (⟨#[73]⟩ : ByteArray)] rfl (by (try simp only [List.map_toArray, List.map_cons, List.map_nil]); first | done | rfl | (simp only [List.length_drop, List.length_take]; rfl)) ?_; (with_reducible refine (stratumref07_bare.calls a0_0 a0_1 a0_2 _ _ l0_3 _ _ l0_4 a0_5 _ _ l0_6 a0_7 a0_8 _ _ l0_9 (⟨#[73]⟩ : ByteArray) t141 _ ?side1 ?side2 ?side3 ?side4 ?side5 ?side6 ?side7 ?side8 A36.out).mono ?_); (case side1 => repeat (first | exact (Kd.C_below HR0_3.out HB.out) | (with_reducible refine Kd.C_alloc ?_ _) | (with_reducible refine Kd.C_drewN ?_ _) | (with_reducible refine Kd.C_drew ?_))); (case side2 => exact HC0_3.out); (case side3 => repeat (first | exact (Kd.C_below HR0_4.out HB.out) | (with_reducible refine Kd.C_alloc ?_ _) | (with_reducible refine Kd.C_drewN ?_ _) | (with_reducible refine Kd.C_drew ?_))); (case side4 => exact HC0_4.out); (case side5 => repeat (first | exact (Kd.C_below HR0_6.out HB.out) | (with_reducible refine Kd.C_alloc ?_ _) | (with_reducible refine Kd.C_drewN ?_ _) | (with_reducible refine Kd.C_drew ?_))); (case side6 => exact HC0_6.out); (case side7 => repeat (first | exact (Kd.C_below HR0_9.out HB.out) | (with_reducible refine Kd.C_alloc ?_ _) | (with_reducible refine Kd.C_drewN ?_ _) | (with_reducible refine Kd.C_drew ?_))); (case side8 => exact HC0_9.out); rintro e w38 ⟨rfl, hb⟩; refine ⟨_, rfl, ?_⟩; have n0_ := Aside0.mk (blk_below (g := gb135) (o := .cells #[.int .u8 a0_0, .int .u32 a0_1, .int .u32 a0_2, .slice A0_3 l0_3.length c0_3, .slice A0_4 l0_4.length c0_4, .int .u32 a0_5, .slice A0_6 l0_6.length c0_6, .int .i64 a0_7, .int .i64 a0_8, .slice A0_9 l0_9.length c0_9] 57 (0, 0)) (by (with_reducible repeat (first | refine blk_drewN ?_ _ | refine blk_drew ?_ | refine blk_alloc ?_ _)); exact BK135.out) hb); have n1_ := Aside0.mk (below_step (by repeat (first | (with_reducible first | exact HB.out | apply below_alloc | apply pw_below_drewN | apply below_drew1 | refine below_set ?_ GE135.out) | exact HB.out)) hb); clear BK135; clear HB; have BK135 := n0_; have HB := n1_; clear n0_ n1_; (try clear hb); (try clear hb2); (try clear hk); (try clear hi)))
            go_ret
            exact ⟨by first | rfl | (simp [errW_none, errW_some] <;> rfl) | (simp [*, errW_none, errW_some] <;> rfl), by repeat (first | (with_reducible first | exact HB.out | apply below_alloc | apply pw_below_drewN | apply below_drew1 | refine below_set ?_ GE135.out) | exact HB.out)⟩
          · replace c35 := Bool.eq_false_iff.mpr c35
            subst c35
            have H1 : (if a0_0 = 6 then ((stratumref07_bare.f a0_0 a0_1 a0_2 l0_3 l0_4 a0_5 l0_6 a0_7 a0_8 l0_9 (⟨#[77]⟩ : ByteArray)).bind fun t142 => (if t142 = true then ((stratumref07_spans.f kj29 l0_6).bind fun t143 => (some t143)) else (some false))) else (if a0_0 = 7 then ((stratumref07_bare.f a0_0 a0_1 a0_2 l0_3 l0_4 a0_5 l0_6 a0_7 a0_8 l0_9 (⟨#[73, 82]⟩ : ByteArray)).bind fun t144 => (if t144 = true then ((stratumref07_SoundEntries.f kj29 l0_9).bind fun t145 => (if t145 = true then (if a0_7 ≥ 0 then (if a0_7 ≤ 10000 then (if a0_8 ≥ 0 then (some (decide (a0_8 ≤ 10000))) else (some false)) else (some false)) else (some false)) else (some false))) else (some false))) else (some false))) = some r := by rw [if_neg (show ¬ (false = true) by decide)] at H; exact H
            clear H
            have H := H1
            clear H1
            by_cases c39 : a0_0 = 6
            · rw [if_pos c39] at H
              have c39b0 : (a0_0 == 6) = true := beq_iff_eq.mpr c39
              have c39b1 : (a0_0 != 6) = false := bne_eq_false_iff_eq.mpr c39
              clear c39
              replace H := Option.bind_eq_some_iff.mp H
              obtain ⟨t142, A400, H⟩ := H
              replace H : (if t142 = true then ((stratumref07_spans.f kj29 l0_6).bind fun t143 => (some t143)) else (some false)) = some r := H
              have A40 := Aside0.mk A400
              clear A400
              by_cases c41 : t142 = true
              · subst c41
                have H1 : ((stratumref07_spans.f kj29 l0_6).bind fun t143 => (some t143)) = some r := by rw [if_pos rfl] at H; exact H
                clear H
                have H := H1
                clear H1
                replace H := Option.bind_eq_some_iff.mp H
                obtain ⟨t143, A420, H⟩ := H
                replace H : (some t143) = some r := H
                have A42 := Aside0.mk A420
                clear A420
                obtain rfl := Option.some.inj H
                have hcz43_0 : wc.cell? ⟨gb135, 0, none⟩ = some (.int .u8 a0_0) := (blk_cell BK135.out 0).trans rfl
                have hcz43_1 : wc.cell? ⟨gb135, 1, none⟩ = some (.int .u32 a0_1) := (blk_cell BK135.out 1).trans rfl
                have hcz43_2 : wc.cell? ⟨gb135, 2, none⟩ = some (.int .u32 a0_2) := (blk_cell BK135.out 2).trans rfl
                have hcz43_3 : wc.cell? ⟨gb135, 3, none⟩ = some (.slice A0_3 l0_3.length c0_3) := (blk_cell BK135.out 3).trans rfl
                have hcz43_4 : wc.cell? ⟨gb135, 4, none⟩ = some (.slice A0_4 l0_4.length c0_4) := (blk_cell BK135.out 4).trans rfl
                have hcz43_5 : wc.cell? ⟨gb135, 5, none⟩ = some (.int .u32 a0_5) := (blk_cell BK135.out 5).trans rfl
                have hcz43_6 : wc.cell? ⟨gb135, 6, none⟩ = some (.slice A0_6 l0_6.length c0_6) := (blk_cell BK135.out 6).trans rfl
                have hcz43_7 : wc.cell? ⟨gb135, 7, none⟩ = some (.int .i64 a0_7) := (blk_cell BK135.out 7).trans rfl
                have hcz43_8 : wc.cell? ⟨gb135, 8, none⟩ = some (.int .i64 a0_8) := (blk_cell BK135.out 8).trans rfl
                have hcz43_9 : wc.cell? ⟨gb135, 9, none⟩ = some (.slice A0_9 l0_9.length c0_9) := (blk_cell BK135.out 9).trans rfl
                have hfz43_0 := blk_frozen BK135.out 0
                have hfz43_1 := blk_frozen BK135.out 1
                have hfz43_2 := blk_frozen BK135.out 2
                have hfz43_3 := blk_frozen BK135.out 3
                have hfz43_4 := blk_frozen BK135.out 4
                have hfz43_5 := blk_frozen BK135.out 5
                have hfz43_6 := blk_frozen BK135.out 6
                have hfz43_7 := blk_frozen BK135.out 7
                have hfz43_8 := blk_frozen BK135.out 8
                have hfz43_9 := blk_frozen BK135.out 9
                go_wp2_with (first | ((with_reducible refine gate_callee (f := 97) rfl ?_); refine goesL_ (some 37) rfl rfl Tryd.func97 (by kernel_rfl) rfl #[.agg #[.int .u8 a0_0, .int .u32 a0_1, .int .u32 a0_2, .slice A0_3 l0_3.length c0_3, .slice A0_4 l0_4.length c0_4, .int .u32 a0_5, .slice A0_6 l0_6.length c0_6, .int .i64 a0_7, .int .i64 a0_8, .slice A0_9 l0_9.length c0_9], .string (⟨#[77]⟩ : ByteArray)] rfl (by (try simp only [List.map_toArray, List.map_cons, List.map_nil]); first | done | rfl | (simp only [List.length_drop, List.length_take]; rfl)) ?_; (with_reducible refine (stratumref07_bare.calls a0_0 a0_1 a0_2 _ _ l0_3 _ _ l0_4 a0_5 _ _ l0_6 a0_7 a0_8 _ _ l0_9 (⟨#[77]⟩ : ByteArray) true _ ?side1 ?side2 ?side3 ?side4 ?side5 ?side6 ?side7 ?side8 A40.out).mono ?_); (case side1 => repeat (first | exact (Kd.C_below HR0_3.out HB.out) | (with_reducible refine Kd.C_alloc ?_ _) | (with_reducible refine Kd.C_drewN ?_ _) | (with_reducible refine Kd.C_drew ?_))); (case side2 => exact HC0_3.out); (case side3 => repeat (first | exact (Kd.C_below HR0_4.out HB.out) | (with_reducible refine Kd.C_alloc ?_ _) | (with_reducible refine Kd.C_drewN ?_ _) | (with_reducible refine Kd.C_drew ?_))); (case side4 => exact HC0_4.out); (case side5 => repeat (first | exact (Kd.C_below HR0_6.out HB.out) | (with_reducible refine Kd.C_alloc ?_ _) | (with_reducible refine Kd.C_drewN ?_ _) | (with_reducible refine Kd.C_drew ?_))); (case side6 => exact HC0_6.out); (case side7 => repeat (first | exact (Kd.C_below HR0_9.out HB.out) | (with_reducible refine Kd.C_alloc ?_ _) | (with_reducible refine Kd.C_drewN ?_ _) | (with_reducible refine Kd.C_drew ?_))); (case side8 => exact HC0_9.out); rintro e w44 ⟨rfl, hb⟩; refine ⟨_, rfl, ?_⟩; have n0_ := Aside0.mk (blk_below (g := gb135) (o := .cells #[.int .u8 a0_0, .int .u32 a0_1, .int .u32 a0_2, .slice A0_3 l0_3.length c0_3, .slice A0_4 l0_4.length c0_4, .int .u32 a0_5, .slice A0_6 l0_6.length c0_6, .int .i64 a0_7, .int .i64 a0_8, .slice A0_9 l0_9.length c0_9] 57 (0, 0)) (by (with_reducible repeat (first | refine blk_drewN ?_ _ | refine blk_drew ?_ | refine blk_alloc ?_ _)); exact BK135.out) hb); have n1_ := Aside0.mk (below_step (by repeat (first | (with_reducible first | exact HB.out | apply below_alloc | apply pw_below_drewN | apply below_drew1 | refine below_set ?_ GE135.out) | exact HB.out)) hb); clear BK135; clear HB; have BK135 := n0_; have HB := n1_; clear n0_ n1_; (try clear hb); (try clear hb2); (try clear hk); (try clear hi); have hcz45_0 : w44.cell? ⟨gb135, 0, none⟩ = some (.int .u8 a0_0) := (blk_cell BK135.out 0).trans rfl; have hcz45_1 : w44.cell? ⟨gb135, 1, none⟩ = some (.int .u32 a0_1) := (blk_cell BK135.out 1).trans rfl; have hcz45_2 : w44.cell? ⟨gb135, 2, none⟩ = some (.int .u32 a0_2) := (blk_cell BK135.out 2).trans rfl; have hcz45_3 : w44.cell? ⟨gb135, 3, none⟩ = some (.slice A0_3 l0_3.length c0_3) := (blk_cell BK135.out 3).trans rfl; have hcz45_4 : w44.cell? ⟨gb135, 4, none⟩ = some (.slice A0_4 l0_4.length c0_4) := (blk_cell BK135.out 4).trans rfl; have hcz45_5 : w44.cell? ⟨gb135, 5, none⟩ = some (.int .u32 a0_5) := (blk_cell BK135.out 5).trans rfl; have hcz45_6 : w44.cell? ⟨gb135, 6, none⟩ = some (.slice A0_6 l0_6.length c0_6) := (blk_cell BK135.out 6).trans rfl; have hcz45_7 : w44.cell? ⟨gb135, 7, none⟩ = some (.int .i64 a0_7) := (blk_cell BK135.out 7).trans rfl; have hcz45_8 : w44.cell? ⟨gb135, 8, none⟩ = some (.int .i64 a0_8) := (blk_cell BK135.out 8).trans rfl; have hcz45_9 : w44.cell? ⟨gb135, 9, none⟩ = some (.slice A0_9 l0_9.length c0_9) := (blk_cell BK135.out 9).trans rfl; have hfz45_0 := blk_frozen BK135.out 0; have hfz45_1 := blk_frozen BK135.out 1; have hfz45_2 := blk_frozen BK135.out 2; have hfz45_3 := blk_frozen BK135.out 3; have hfz45_4 := blk_frozen BK135.out 4; have hfz45_5 := blk_frozen BK135.out 5; have hfz45_6 := blk_frozen BK135.out 6; have hfz45_7 := blk_frozen BK135.out 7; have hfz45_8 := blk_frozen BK135.out 8; have hfz45_9 := blk_frozen BK135.out 9) | (go_at_call 100; (with_reducible refine (stratumref07_spans.calls kj29 _ _ l0_6 t143 _ ?side1 ?side2 A42.out).mono ?_); (case side1 => repeat (first | exact (Kd.C_below HR0_6.out HB.out) | (with_reducible refine Kd.C_alloc ?_ _) | (with_reducible refine Kd.C_drewN ?_ _) | (with_reducible refine Kd.C_drew ?_))); (case side2 => exact HC0_6.out); rintro e w' ⟨rfl, ⟨nd, rfl⟩⟩))
                go_ret
                exact ⟨by first | rfl | (simp [errW_none, errW_some] <;> rfl) | (simp [*, errW_none, errW_some] <;> rfl), by repeat (first | (with_reducible first | exact HB.out | apply below_alloc | apply pw_below_drewN | apply below_drew1 | refine below_set ?_ GE135.out) | exact HB.out)⟩
              · replace c41 := Bool.eq_false_iff.mpr c41
                subst c41
                have H1 : (some false) = some r := by rw [if_neg (show ¬ (false = true) by decide)] at H; exact H
                clear H
                have H := H1
                clear H1
                obtain rfl := Option.some.inj H
                have hcz46_0 : wc.cell? ⟨gb135, 0, none⟩ = some (.int .u8 a0_0) := (blk_cell BK135.out 0).trans rfl
                have hcz46_1 : wc.cell? ⟨gb135, 1, none⟩ = some (.int .u32 a0_1) := (blk_cell BK135.out 1).trans rfl
                have hcz46_2 : wc.cell? ⟨gb135, 2, none⟩ = some (.int .u32 a0_2) := (blk_cell BK135.out 2).trans rfl
                have hcz46_3 : wc.cell? ⟨gb135, 3, none⟩ = some (.slice A0_3 l0_3.length c0_3) := (blk_cell BK135.out 3).trans rfl
                have hcz46_4 : wc.cell? ⟨gb135, 4, none⟩ = some (.slice A0_4 l0_4.length c0_4) := (blk_cell BK135.out 4).trans rfl
                have hcz46_5 : wc.cell? ⟨gb135, 5, none⟩ = some (.int .u32 a0_5) := (blk_cell BK135.out 5).trans rfl
                have hcz46_6 : wc.cell? ⟨gb135, 6, none⟩ = some (.slice A0_6 l0_6.length c0_6) := (blk_cell BK135.out 6).trans rfl
                have hcz46_7 : wc.cell? ⟨gb135, 7, none⟩ = some (.int .i64 a0_7) := (blk_cell BK135.out 7).trans rfl
                have hcz46_8 : wc.cell? ⟨gb135, 8, none⟩ = some (.int .i64 a0_8) := (blk_cell BK135.out 8).trans rfl
                have hcz46_9 : wc.cell? ⟨gb135, 9, none⟩ = some (.slice A0_9 l0_9.length c0_9) := (blk_cell BK135.out 9).trans rfl
                have hfz46_0 := blk_frozen BK135.out 0
                have hfz46_1 := blk_frozen BK135.out 1
                have hfz46_2 := blk_frozen BK135.out 2
                have hfz46_3 := blk_frozen BK135.out 3
                have hfz46_4 := blk_frozen BK135.out 4
                have hfz46_5 := blk_frozen BK135.out 5
                have hfz46_6 := blk_frozen BK135.out 6
                have hfz46_7 := blk_frozen BK135.out 7
                have hfz46_8 := blk_frozen BK135.out 8
                have hfz46_9 := blk_frozen BK135.out 9
                go_wp2_with (first | ((with_reducible refine gate_callee (f := 97) rfl ?_); refine goesL_ (some 37) rfl rfl Tryd.func97 (by kernel_rfl) rfl #[.agg #[.int .u8 a0_0, .int .u32 a0_1, .int .u32 a0_2, .slice A0_3 l0_3.length c0_3, .slice A0_4 l0_4.length c0_4, .int .u32 a0_5, .slice A0_6 l0_6.length c0_6, .int .i64 a0_7, .int .i64 a0_8, .slice A0_9 l0_9.length c0_9], .string (⟨#[77]⟩ : ByteArray)] rfl (by (try simp only [List.map_toArray, List.map_cons, List.map_nil]); first | done | rfl | (simp only [List.length_drop, List.length_take]; rfl)) ?_; (with_reducible refine (stratumref07_bare.calls a0_0 a0_1 a0_2 _ _ l0_3 _ _ l0_4 a0_5 _ _ l0_6 a0_7 a0_8 _ _ l0_9 (⟨#[77]⟩ : ByteArray) false _ ?side1 ?side2 ?side3 ?side4 ?side5 ?side6 ?side7 ?side8 A40.out).mono ?_); (case side1 => repeat (first | exact (Kd.C_below HR0_3.out HB.out) | (with_reducible refine Kd.C_alloc ?_ _) | (with_reducible refine Kd.C_drewN ?_ _) | (with_reducible refine Kd.C_drew ?_))); (case side2 => exact HC0_3.out); (case side3 => repeat (first | exact (Kd.C_below HR0_4.out HB.out) | (with_reducible refine Kd.C_alloc ?_ _) | (with_reducible refine Kd.C_drewN ?_ _) | (with_reducible refine Kd.C_drew ?_))); (case side4 => exact HC0_4.out); (case side5 => repeat (first | exact (Kd.C_below HR0_6.out HB.out) | (with_reducible refine Kd.C_alloc ?_ _) | (with_reducible refine Kd.C_drewN ?_ _) | (with_reducible refine Kd.C_drew ?_))); (case side6 => exact HC0_6.out); (case side7 => repeat (first | exact (Kd.C_below HR0_9.out HB.out) | (with_reducible refine Kd.C_alloc ?_ _) | (with_reducible refine Kd.C_drewN ?_ _) | (with_reducible refine Kd.C_drew ?_))); (case side8 => exact HC0_9.out); rintro e w47 ⟨rfl, hb⟩; refine ⟨_, rfl, ?_⟩; have n0_ := Aside0.mk (blk_below (g := gb135) (o := .cells #[.int .u8 a0_0, .int .u32 a0_1, .int .u32 a0_2, .slice A0_3 l0_3.length c0_3, .slice A0_4 l0_4.length c0_4, .int .u32 a0_5, .slice A0_6 l0_6.length c0_6, .int .i64 a0_7, .int .i64 a0_8, .slice A0_9 l0_9.length c0_9] 57 (0, 0)) (by (with_reducible repeat (first | refine blk_drewN ?_ _ | refine blk_drew ?_ | refine blk_alloc ?_ _)); exact BK135.out) hb); have n1_ := Aside0.mk (below_step (by repeat (first | (with_reducible first | exact HB.out | apply below_alloc | apply pw_below_drewN | apply below_drew1 | refine below_set ?_ GE135.out) | exact HB.out)) hb); clear BK135; clear HB; have BK135 := n0_; have HB := n1_; clear n0_ n1_; (try clear hb); (try clear hb2); (try clear hk); (try clear hi)))
                go_ret
                exact ⟨by first | rfl | (simp [errW_none, errW_some] <;> rfl) | (simp [*, errW_none, errW_some] <;> rfl), by repeat (first | (with_reducible first | exact HB.out | apply below_alloc | apply pw_below_drewN | apply below_drew1 | refine below_set ?_ GE135.out) | exact HB.out)⟩
            · rw [if_neg c39] at H
              have c39b0 : (a0_0 == 6) = false := beq_eq_false_iff_ne.mpr c39
              have c39b1 : (a0_0 != 6) = true := bne_iff_ne.mpr c39
              by_cases c48 : a0_0 = 7
              · rw [if_pos c48] at H
                have c48b0 : (a0_0 == 7) = true := beq_iff_eq.mpr c48
                have c48b1 : (a0_0 != 7) = false := bne_eq_false_iff_eq.mpr c48
                clear c48
                replace H := Option.bind_eq_some_iff.mp H
                obtain ⟨t144, A490, H⟩ := H
                replace H : (if t144 = true then ((stratumref07_SoundEntries.f kj29 l0_9).bind fun t145 => (if t145 = true then (if a0_7 ≥ 0 then (if a0_7 ≤ 10000 then (if a0_8 ≥ 0 then (some (decide (a0_8 ≤ 10000))) else (some false)) else (some false)) else (some false)) else (some false))) else (some false)) = some r := H
                have A49 := Aside0.mk A490
                clear A490
                by_cases c50 : t144 = true
                · subst c50
                  have H1 : ((stratumref07_SoundEntries.f kj29 l0_9).bind fun t145 => (if t145 = true then (if a0_7 ≥ 0 then (if a0_7 ≤ 10000 then (if a0_8 ≥ 0 then (some (decide (a0_8 ≤ 10000))) else (some false)) else (some false)) else (some false)) else (some false))) = some r := by rw [if_pos rfl] at H; exact H
                  clear H
                  have H := H1
                  clear H1
                  replace H := Option.bind_eq_some_iff.mp H
                  obtain ⟨t145, A510, H⟩ := H
                  replace H : (if t145 = true then (if a0_7 ≥ 0 then (if a0_7 ≤ 10000 then (if a0_8 ≥ 0 then (some (decide (a0_8 ≤ 10000))) else (some false)) else (some false)) else (some false)) else (some false)) = some r := H
                  have A51 := Aside0.mk A510
                  clear A510
                  by_cases c52 : t145 = true
                  · subst c52
                    have H1 : (if a0_7 ≥ 0 then (if a0_7 ≤ 10000 then (if a0_8 ≥ 0 then (some (decide (a0_8 ≤ 10000))) else (some false)) else (some false)) else (some false)) = some r := by rw [if_pos rfl] at H; exact H
                    clear H
                    have H := H1
                    clear H1
                    by_cases c53 : a0_7 ≥ 0
                    · rw [if_pos c53] at H
                      have c53b0 : decide (0 ≤ a0_7) = true := decide_eq_true c53
                      clear c53
                      by_cases c54 : a0_7 ≤ 10000
                      · rw [if_pos c54] at H
                        have c54b0 : decide (a0_7 ≤ 10000) = true := decide_eq_true c54
                        clear c54
                        by_cases c55 : a0_8 ≥ 0
                        · rw [if_pos c55] at H
                          have c55b0 : decide (0 ≤ a0_8) = true := decide_eq_true c55
                          clear c55
                          obtain rfl := Option.some.inj H
                          have hcz56_0 : wc.cell? ⟨gb135, 0, none⟩ = some (.int .u8 a0_0) := (blk_cell BK135.out 0).trans rfl
                          have hcz56_1 : wc.cell? ⟨gb135, 1, none⟩ = some (.int .u32 a0_1) := (blk_cell BK135.out 1).trans rfl
                          have hcz56_2 : wc.cell? ⟨gb135, 2, none⟩ = some (.int .u32 a0_2) := (blk_cell BK135.out 2).trans rfl
                          have hcz56_3 : wc.cell? ⟨gb135, 3, none⟩ = some (.slice A0_3 l0_3.length c0_3) := (blk_cell BK135.out 3).trans rfl
                          have hcz56_4 : wc.cell? ⟨gb135, 4, none⟩ = some (.slice A0_4 l0_4.length c0_4) := (blk_cell BK135.out 4).trans rfl
                          have hcz56_5 : wc.cell? ⟨gb135, 5, none⟩ = some (.int .u32 a0_5) := (blk_cell BK135.out 5).trans rfl
                          have hcz56_6 : wc.cell? ⟨gb135, 6, none⟩ = some (.slice A0_6 l0_6.length c0_6) := (blk_cell BK135.out 6).trans rfl
                          have hcz56_7 : wc.cell? ⟨gb135, 7, none⟩ = some (.int .i64 a0_7) := (blk_cell BK135.out 7).trans rfl
                          have hcz56_8 : wc.cell? ⟨gb135, 8, none⟩ = some (.int .i64 a0_8) := (blk_cell BK135.out 8).trans rfl
                          have hcz56_9 : wc.cell? ⟨gb135, 9, none⟩ = some (.slice A0_9 l0_9.length c0_9) := (blk_cell BK135.out 9).trans rfl
                          have hfz56_0 := blk_frozen BK135.out 0
                          have hfz56_1 := blk_frozen BK135.out 1
                          have hfz56_2 := blk_frozen BK135.out 2
                          have hfz56_3 := blk_frozen BK135.out 3
                          have hfz56_4 := blk_frozen BK135.out 4
                          have hfz56_5 := blk_frozen BK135.out 5
                          have hfz56_6 := blk_frozen BK135.out 6
                          have hfz56_7 := blk_frozen BK135.out 7
                          have hfz56_8 := blk_frozen BK135.out 8
                          have hfz56_9 := blk_frozen BK135.out 9
                          go_wp2_with (first | ((with_reducible refine gate_callee (f := 97) rfl ?_); refine goesL_ (some 47) rfl rfl Tryd.func97 (by kernel_rfl) rfl #[.agg #[.int .u8 a0_0, .int .u32 a0_1, .int .u32 a0_2, .slice A0_3 l0_3.length c0_3, .slice A0_4 l0_4.length c0_4, .int .u32 a0_5, .slice A0_6 l0_6.length c0_6, .int .i64 a0_7, .int .i64 a0_8, .slice A0_9 l0_9.length c0_9], .string (⟨#[73, 82]⟩ : ByteArray)] rfl (by (try simp only [List.map_toArray, List.map_cons, List.map_nil]); first | done | rfl | (simp only [List.length_drop, List.length_take]; rfl)) ?_; (with_reducible refine (stratumref07_bare.calls a0_0 a0_1 a0_2 _ _ l0_3 _ _ l0_4 a0_5 _ _ l0_6 a0_7 a0_8 _ _ l0_9 (⟨#[73, 82]⟩ : ByteArray) true _ ?side1 ?side2 ?side3 ?side4 ?side5 ?side6 ?side7 ?side8 A49.out).mono ?_); (case side1 => repeat (first | exact (Kd.C_below HR0_3.out HB.out) | (with_reducible refine Kd.C_alloc ?_ _) | (with_reducible refine Kd.C_drewN ?_ _) | (with_reducible refine Kd.C_drew ?_))); (case side2 => exact HC0_3.out); (case side3 => repeat (first | exact (Kd.C_below HR0_4.out HB.out) | (with_reducible refine Kd.C_alloc ?_ _) | (with_reducible refine Kd.C_drewN ?_ _) | (with_reducible refine Kd.C_drew ?_))); (case side4 => exact HC0_4.out); (case side5 => repeat (first | exact (Kd.C_below HR0_6.out HB.out) | (with_reducible refine Kd.C_alloc ?_ _) | (with_reducible refine Kd.C_drewN ?_ _) | (with_reducible refine Kd.C_drew ?_))); (case side6 => exact HC0_6.out); (case side7 => repeat (first | exact (Kd.C_below HR0_9.out HB.out) | (with_reducible refine Kd.C_alloc ?_ _) | (with_reducible refine Kd.C_drewN ?_ _) | (with_reducible refine Kd.C_drew ?_))); (case side8 => exact HC0_9.out); rintro e w57 ⟨rfl, hb⟩; refine ⟨_, rfl, ?_⟩; have n0_ := Aside0.mk (blk_below (g := gb135) (o := .cells #[.int .u8 a0_0, .int .u32 a0_1, .int .u32 a0_2, .slice A0_3 l0_3.length c0_3, .slice A0_4 l0_4.length c0_4, .int .u32 a0_5, .slice A0_6 l0_6.length c0_6, .int .i64 a0_7, .int .i64 a0_8, .slice A0_9 l0_9.length c0_9] 57 (0, 0)) (by (with_reducible repeat (first | refine blk_drewN ?_ _ | refine blk_drew ?_ | refine blk_alloc ?_ _)); exact BK135.out) hb); have n1_ := Aside0.mk (below_step (by repeat (first | (with_reducible first | exact HB.out | apply below_alloc | apply pw_below_drewN | apply below_drew1 | refine below_set ?_ GE135.out) | exact HB.out)) hb); clear BK135; clear HB; have BK135 := n0_; have HB := n1_; clear n0_ n1_; (try clear hb); (try clear hb2); (try clear hk); (try clear hi); have hcz58_0 : w57.cell? ⟨gb135, 0, none⟩ = some (.int .u8 a0_0) := (blk_cell BK135.out 0).trans rfl; have hcz58_1 : w57.cell? ⟨gb135, 1, none⟩ = some (.int .u32 a0_1) := (blk_cell BK135.out 1).trans rfl; have hcz58_2 : w57.cell? ⟨gb135, 2, none⟩ = some (.int .u32 a0_2) := (blk_cell BK135.out 2).trans rfl; have hcz58_3 : w57.cell? ⟨gb135, 3, none⟩ = some (.slice A0_3 l0_3.length c0_3) := (blk_cell BK135.out 3).trans rfl; have hcz58_4 : w57.cell? ⟨gb135, 4, none⟩ = some (.slice A0_4 l0_4.length c0_4) := (blk_cell BK135.out 4).trans rfl; have hcz58_5 : w57.cell? ⟨gb135, 5, none⟩ = some (.int .u32 a0_5) := (blk_cell BK135.out 5).trans rfl; have hcz58_6 : w57.cell? ⟨gb135, 6, none⟩ = some (.slice A0_6 l0_6.length c0_6) := (blk_cell BK135.out 6).trans rfl; have hcz58_7 : w57.cell? ⟨gb135, 7, none⟩ = some (.int .i64 a0_7) := (blk_cell BK135.out 7).trans rfl; have hcz58_8 : w57.cell? ⟨gb135, 8, none⟩ = some (.int .i64 a0_8) := (blk_cell BK135.out 8).trans rfl; have hcz58_9 : w57.cell? ⟨gb135, 9, none⟩ = some (.slice A0_9 l0_9.length c0_9) := (blk_cell BK135.out 9).trans rfl; have hfz58_0 := blk_frozen BK135.out 0; have hfz58_1 := blk_frozen BK135.out 1; have hfz58_2 := blk_frozen BK135.out 2; have hfz58_3 := blk_frozen BK135.out 3; have hfz58_4 := blk_frozen BK135.out 4; have hfz58_5 := blk_frozen BK135.out 5; have hfz58_6 := blk_frozen BK135.out 6; have hfz58_7 := blk_frozen BK135.out 7; have hfz58_8 := blk_frozen BK135.out 8; have hfz58_9 := blk_frozen BK135.out 9) | (go_at_call 101; (with_reducible refine (stratumref07_SoundEntries.calls kj29 _ _ l0_9 true _ ?side1 ?side2 A51.out).mono ?_); (case side1 => repeat (first | exact (Kd.C_below HR0_9.out HB.out) | (with_reducible refine Kd.C_alloc ?_ _) | (with_reducible refine Kd.C_drewN ?_ _) | (with_reducible refine Kd.C_drew ?_))); (case side2 => exact HC0_9.out); rintro e w' ⟨rfl, ⟨nd, rfl⟩⟩))
                          go_ret
                          exact ⟨by first | rfl | (simp [errW_none, errW_some] <;> rfl) | (simp [*, errW_none, errW_some] <;> rfl), by repeat (first | (with_reducible first | exact HB.out | apply below_alloc | apply pw_below_drewN | apply below_drew1 | refine below_set ?_ GE135.out) | exact HB.out)⟩
                        · rw [if_neg c55] at H
                          have c55b0 : decide (0 ≤ a0_8) = false := decide_eq_false c55
                          clear c55
                          obtain rfl := Option.some.inj H
                          have hcz59_0 : wc.cell? ⟨gb135, 0, none⟩ = some (.int .u8 a0_0) := (blk_cell BK135.out 0).trans rfl
                          have hcz59_1 : wc.cell? ⟨gb135, 1, none⟩ = some (.int .u32 a0_1) := (blk_cell BK135.out 1).trans rfl
                          have hcz59_2 : wc.cell? ⟨gb135, 2, none⟩ = some (.int .u32 a0_2) := (blk_cell BK135.out 2).trans rfl
                          have hcz59_3 : wc.cell? ⟨gb135, 3, none⟩ = some (.slice A0_3 l0_3.length c0_3) := (blk_cell BK135.out 3).trans rfl
                          have hcz59_4 : wc.cell? ⟨gb135, 4, none⟩ = some (.slice A0_4 l0_4.length c0_4) := (blk_cell BK135.out 4).trans rfl
                          have hcz59_5 : wc.cell? ⟨gb135, 5, none⟩ = some (.int .u32 a0_5) := (blk_cell BK135.out 5).trans rfl
                          have hcz59_6 : wc.cell? ⟨gb135, 6, none⟩ = some (.slice A0_6 l0_6.length c0_6) := (blk_cell BK135.out 6).trans rfl
                          have hcz59_7 : wc.cell? ⟨gb135, 7, none⟩ = some (.int .i64 a0_7) := (blk_cell BK135.out 7).trans rfl
                          have hcz59_8 : wc.cell? ⟨gb135, 8, none⟩ = some (.int .i64 a0_8) := (blk_cell BK135.out 8).trans rfl
                          have hcz59_9 : wc.cell? ⟨gb135, 9, none⟩ = some (.slice A0_9 l0_9.length c0_9) := (blk_cell BK135.out 9).trans rfl
                          have hfz59_0 := blk_frozen BK135.out 0
                          have hfz59_1 := blk_frozen BK135.out 1
                          have hfz59_2 := blk_frozen BK135.out 2
                          have hfz59_3 := blk_frozen BK135.out 3
                          have hfz59_4 := blk_frozen BK135.out 4
                          have hfz59_5 := blk_frozen BK135.out 5
                          have hfz59_6 := blk_frozen BK135.out 6
                          have hfz59_7 := blk_frozen BK135.out 7
                          have hfz59_8 := blk_frozen BK135.out 8
                          have hfz59_9 := blk_frozen BK135.out 9
                          go_wp2_with (first | ((with_reducible refine gate_callee (f := 97) rfl ?_); refine goesL_ (some 47) rfl rfl Tryd.func97 (by kernel_rfl) rfl #[.agg #[.int .u8 a0_0, .int .u32 a0_1, .int .u32 a0_2, .slice A0_3 l0_3.length c0_3, .slice A0_4 l0_4.length c0_4, .int .u32 a0_5, .slice A0_6 l0_6.length c0_6, .int .i64 a0_7, .int .i64 a0_8, .slice A0_9 l0_9.length c0_9], .string (⟨#[73, 82]⟩ : ByteArray)] rfl (by (try simp only [List.map_toArray, List.map_cons, List.map_nil]); first | done | rfl | (simp only [List.length_drop, List.length_take]; rfl)) ?_; (with_reducible refine (stratumref07_bare.calls a0_0 a0_1 a0_2 _ _ l0_3 _ _ l0_4 a0_5 _ _ l0_6 a0_7 a0_8 _ _ l0_9 (⟨#[73, 82]⟩ : ByteArray) true _ ?side1 ?side2 ?side3 ?side4 ?side5 ?side6 ?side7 ?side8 A49.out).mono ?_); (case side1 => repeat (first | exact (Kd.C_below HR0_3.out HB.out) | (with_reducible refine Kd.C_alloc ?_ _) | (with_reducible refine Kd.C_drewN ?_ _) | (with_reducible refine Kd.C_drew ?_))); (case side2 => exact HC0_3.out); (case side3 => repeat (first | exact (Kd.C_below HR0_4.out HB.out) | (with_reducible refine Kd.C_alloc ?_ _) | (with_reducible refine Kd.C_drewN ?_ _) | (with_reducible refine Kd.C_drew ?_))); (case side4 => exact HC0_4.out); (case side5 => repeat (first | exact (Kd.C_below HR0_6.out HB.out) | (with_reducible refine Kd.C_alloc ?_ _) | (with_reducible refine Kd.C_drewN ?_ _) | (with_reducible refine Kd.C_drew ?_))); (case side6 => exact HC0_6.out); (case side7 => repeat (first | exact (Kd.C_below HR0_9.out HB.out) | (with_reducible refine Kd.C_alloc ?_ _) | (with_reducible refine Kd.C_drewN ?_ _) | (with_reducible refine Kd.C_drew ?_))); (case side8 => exact HC0_9.out); rintro e w60 ⟨rfl, hb⟩; refine ⟨_, rfl, ?_⟩; have n0_ := Aside0.mk (blk_below (g := gb135) (o := .cells #[.int .u8 a0_0, .int .u32 a0_1, .int .u32 a0_2, .slice A0_3 l0_3.length c0_3, .slice A0_4 l0_4.length c0_4, .int .u32 a0_5, .slice A0_6 l0_6.length c0_6, .int .i64 a0_7, .int .i64 a0_8, .slice A0_9 l0_9.length c0_9] 57 (0, 0)) (by (with_reducible repeat (first | refine blk_drewN ?_ _ | refine blk_drew ?_ | refine blk_alloc ?_ _)); exact BK135.out) hb); have n1_ := Aside0.mk (below_step (by repeat (first | (with_reducible first | exact HB.out | apply below_alloc | apply pw_below_drewN | apply below_drew1 | refine below_set ?_ GE135.out) | exact HB.out)) hb); clear BK135; clear HB; have BK135 := n0_; have HB := n1_; clear n0_ n1_; (try clear hb); (try clear hb2); (try clear hk); (try clear hi); have hcz61_0 : w60.cell? ⟨gb135, 0, none⟩ = some (.int .u8 a0_0) := (blk_cell BK135.out 0).trans rfl; have hcz61_1 : w60.cell? ⟨gb135, 1, none⟩ = some (.int .u32 a0_1) := (blk_cell BK135.out 1).trans rfl; have hcz61_2 : w60.cell? ⟨gb135, 2, none⟩ = some (.int .u32 a0_2) := (blk_cell BK135.out 2).trans rfl; have hcz61_3 : w60.cell? ⟨gb135, 3, none⟩ = some (.slice A0_3 l0_3.length c0_3) := (blk_cell BK135.out 3).trans rfl; have hcz61_4 : w60.cell? ⟨gb135, 4, none⟩ = some (.slice A0_4 l0_4.length c0_4) := (blk_cell BK135.out 4).trans rfl; have hcz61_5 : w60.cell? ⟨gb135, 5, none⟩ = some (.int .u32 a0_5) := (blk_cell BK135.out 5).trans rfl; have hcz61_6 : w60.cell? ⟨gb135, 6, none⟩ = some (.slice A0_6 l0_6.length c0_6) := (blk_cell BK135.out 6).trans rfl; have hcz61_7 : w60.cell? ⟨gb135, 7, none⟩ = some (.int .i64 a0_7) := (blk_cell BK135.out 7).trans rfl; have hcz61_8 : w60.cell? ⟨gb135, 8, none⟩ = some (.int .i64 a0_8) := (blk_cell BK135.out 8).trans rfl; have hcz61_9 : w60.cell? ⟨gb135, 9, none⟩ = some (.slice A0_9 l0_9.length c0_9) := (blk_cell BK135.out 9).trans rfl; have hfz61_0 := blk_frozen BK135.out 0; have hfz61_1 := blk_frozen BK135.out 1; have hfz61_2 := blk_frozen BK135.out 2; have hfz61_3 := blk_frozen BK135.out 3; have hfz61_4 := blk_frozen BK135.out 4; have hfz61_5 := blk_frozen BK135.out 5; have hfz61_6 := blk_frozen BK135.out 6; have hfz61_7 := blk_frozen BK135.out 7; have hfz61_8 := blk_frozen BK135.out 8; have hfz61_9 := blk_frozen BK135.out 9) | (go_at_call 101; (with_reducible refine (stratumref07_SoundEntries.calls kj29 _ _ l0_9 true _ ?side1 ?side2 A51.out).mono ?_); (case side1 => repeat (first | exact (Kd.C_below HR0_9.out HB.out) | (with_reducible refine Kd.C_alloc ?_ _) | (with_reducible refine Kd.C_drewN ?_ _) | (with_reducible refine Kd.C_drew ?_))); (case side2 => exact HC0_9.out); rintro e w' ⟨rfl, ⟨nd, rfl⟩⟩))
                          go_ret
                          exact ⟨by first | rfl | (simp [errW_none, errW_some] <;> rfl) | (simp [*, errW_none, errW_some] <;> rfl), by repeat (first | (with_reducible first | exact HB.out | apply below_alloc | apply pw_below_drewN | apply below_drew1 | refine below_set ?_ GE135.out) | exact HB.out)⟩
                      · rw [if_neg c54] at H
                        have c54b0 : decide (a0_7 ≤ 10000) = false := decide_eq_false c54
                        clear c54
                        obtain rfl := Option.some.inj H
                        have hcz62_0 : wc.cell? ⟨gb135, 0, none⟩ = some (.int .u8 a0_0) := (blk_cell BK135.out 0).trans rfl
                        have hcz62_1 : wc.cell? ⟨gb135, 1, none⟩ = some (.int .u32 a0_1) := (blk_cell BK135.out 1).trans rfl
                        have hcz62_2 : wc.cell? ⟨gb135, 2, none⟩ = some (.int .u32 a0_2) := (blk_cell BK135.out 2).trans rfl
                        have hcz62_3 : wc.cell? ⟨gb135, 3, none⟩ = some (.slice A0_3 l0_3.length c0_3) := (blk_cell BK135.out 3).trans rfl
                        have hcz62_4 : wc.cell? ⟨gb135, 4, none⟩ = some (.slice A0_4 l0_4.length c0_4) := (blk_cell BK135.out 4).trans rfl
                        have hcz62_5 : wc.cell? ⟨gb135, 5, none⟩ = some (.int .u32 a0_5) := (blk_cell BK135.out 5).trans rfl
                        have hcz62_6 : wc.cell? ⟨gb135, 6, none⟩ = some (.slice A0_6 l0_6.length c0_6) := (blk_cell BK135.out 6).trans rfl
                        have hcz62_7 : wc.cell? ⟨gb135, 7, none⟩ = some (.int .i64 a0_7) := (blk_cell BK135.out 7).trans rfl
                        have hcz62_8 : wc.cell? ⟨gb135, 8, none⟩ = some (.int .i64 a0_8) := (blk_cell BK135.out 8).trans rfl
                        have hcz62_9 : wc.cell? ⟨gb135, 9, none⟩ = some (.slice A0_9 l0_9.length c0_9) := (blk_cell BK135.out 9).trans rfl
                        have hfz62_0 := blk_frozen BK135.out 0
                        have hfz62_1 := blk_frozen BK135.out 1
                        have hfz62_2 := blk_frozen BK135.out 2
                        have hfz62_3 := blk_frozen BK135.out 3
                        have hfz62_4 := blk_frozen BK135.out 4
                        have hfz62_5 := blk_frozen BK135.out 5
                        have hfz62_6 := blk_frozen BK135.out 6
                        have hfz62_7 := blk_frozen BK135.out 7
                        have hfz62_8 := blk_frozen BK135.out 8
                        have hfz62_9 := blk_frozen BK135.out 9
                        go_wp2_with (first | ((with_reducible refine gate_callee (f := 97) rfl ?_); refine goesL_ (some 47) rfl rfl Tryd.func97 (by kernel_rfl) rfl #[.agg #[.int .u8 a0_0, .int .u32 a0_1, .int .u32 a0_2, .slice A0_3 l0_3.length c0_3, .slice A0_4 l0_4.length c0_4, .int .u32 a0_5, .slice A0_6 l0_6.length c0_6, .int .i64 a0_7, .int .i64 a0_8, .slice A0_9 l0_9.length c0_9], .string (⟨#[73, 82]⟩ : ByteArray)] rfl (by (try simp only [List.map_toArray, List.map_cons, List.map_nil]); first | done | rfl | (simp only [List.length_drop, List.length_take]; rfl)) ?_; (with_reducible refine (stratumref07_bare.calls a0_0 a0_1 a0_2 _ _ l0_3 _ _ l0_4 a0_5 _ _ l0_6 a0_7 a0_8 _ _ l0_9 (⟨#[73, 82]⟩ : ByteArray) true _ ?side1 ?side2 ?side3 ?side4 ?side5 ?side6 ?side7 ?side8 A49.out).mono ?_); (case side1 => repeat (first | exact (Kd.C_below HR0_3.out HB.out) | (with_reducible refine Kd.C_alloc ?_ _) | (with_reducible refine Kd.C_drewN ?_ _) | (with_reducible refine Kd.C_drew ?_))); (case side2 => exact HC0_3.out); (case side3 => repeat (first | exact (Kd.C_below HR0_4.out HB.out) | (with_reducible refine Kd.C_alloc ?_ _) | (with_reducible refine Kd.C_drewN ?_ _) | (with_reducible refine Kd.C_drew ?_))); (case side4 => exact HC0_4.out); (case side5 => repeat (first | exact (Kd.C_below HR0_6.out HB.out) | (with_reducible refine Kd.C_alloc ?_ _) | (with_reducible refine Kd.C_drewN ?_ _) | (with_reducible refine Kd.C_drew ?_))); (case side6 => exact HC0_6.out); (case side7 => repeat (first | exact (Kd.C_below HR0_9.out HB.out) | (with_reducible refine Kd.C_alloc ?_ _) | (with_reducible refine Kd.C_drewN ?_ _) | (with_reducible refine Kd.C_drew ?_))); (case side8 => exact HC0_9.out); rintro e w63 ⟨rfl, hb⟩; refine ⟨_, rfl, ?_⟩; have n0_ := Aside0.mk (blk_below (g := gb135) (o := .cells #[.int .u8 a0_0, .int .u32 a0_1, .int .u32 a0_2, .slice A0_3 l0_3.length c0_3, .slice A0_4 l0_4.length c0_4, .int .u32 a0_5, .slice A0_6 l0_6.length c0_6, .int .i64 a0_7, .int .i64 a0_8, .slice A0_9 l0_9.length c0_9] 57 (0, 0)) (by (with_reducible repeat (first | refine blk_drewN ?_ _ | refine blk_drew ?_ | refine blk_alloc ?_ _)); exact BK135.out) hb); have n1_ := Aside0.mk (below_step (by repeat (first | (with_reducible first | exact HB.out | apply below_alloc | apply pw_below_drewN | apply below_drew1 | refine below_set ?_ GE135.out) | exact HB.out)) hb); clear BK135; clear HB; have BK135 := n0_; have HB := n1_; clear n0_ n1_; (try clear hb); (try clear hb2); (try clear hk); (try clear hi); have hcz64_0 : w63.cell? ⟨gb135, 0, none⟩ = some (.int .u8 a0_0) := (blk_cell BK135.out 0).trans rfl; have hcz64_1 : w63.cell? ⟨gb135, 1, none⟩ = some (.int .u32 a0_1) := (blk_cell BK135.out 1).trans rfl; have hcz64_2 : w63.cell? ⟨gb135, 2, none⟩ = some (.int .u32 a0_2) := (blk_cell BK135.out 2).trans rfl; have hcz64_3 : w63.cell? ⟨gb135, 3, none⟩ = some (.slice A0_3 l0_3.length c0_3) := (blk_cell BK135.out 3).trans rfl; have hcz64_4 : w63.cell? ⟨gb135, 4, none⟩ = some (.slice A0_4 l0_4.length c0_4) := (blk_cell BK135.out 4).trans rfl; have hcz64_5 : w63.cell? ⟨gb135, 5, none⟩ = some (.int .u32 a0_5) := (blk_cell BK135.out 5).trans rfl; have hcz64_6 : w63.cell? ⟨gb135, 6, none⟩ = some (.slice A0_6 l0_6.length c0_6) := (blk_cell BK135.out 6).trans rfl; have hcz64_7 : w63.cell? ⟨gb135, 7, none⟩ = some (.int .i64 a0_7) := (blk_cell BK135.out 7).trans rfl; have hcz64_8 : w63.cell? ⟨gb135, 8, none⟩ = some (.int .i64 a0_8) := (blk_cell BK135.out 8).trans rfl; have hcz64_9 : w63.cell? ⟨gb135, 9, none⟩ = some (.slice A0_9 l0_9.length c0_9) := (blk_cell BK135.out 9).trans rfl; have hfz64_0 := blk_frozen BK135.out 0; have hfz64_1 := blk_frozen BK135.out 1; have hfz64_2 := blk_frozen BK135.out 2; have hfz64_3 := blk_frozen BK135.out 3; have hfz64_4 := blk_frozen BK135.out 4; have hfz64_5 := blk_frozen BK135.out 5; have hfz64_6 := blk_frozen BK135.out 6; have hfz64_7 := blk_frozen BK135.out 7; have hfz64_8 := blk_frozen BK135.out 8; have hfz64_9 := blk_frozen BK135.out 9) | (go_at_call 101; (with_reducible refine (stratumref07_SoundEntries.calls kj29 _ _ l0_9 true _ ?side1 ?side2 A51.out).mono ?_); (case side1 => repeat (first | exact (Kd.C_below HR0_9.out HB.out) | (with_reducible refine Kd.C_alloc ?_ _) | (with_reducible refine Kd.C_drewN ?_ _) | (with_reducible refine Kd.C_drew ?_))); (case side2 => exact HC0_9.out); rintro e w' ⟨rfl, ⟨nd, rfl⟩⟩))
                        go_ret
                        exact ⟨by first | rfl | (simp [errW_none, errW_some] <;> rfl) | (simp [*, errW_none, errW_some] <;> rfl), by repeat (first | (with_reducible first | exact HB.out | apply below_alloc | apply pw_below_drewN | apply below_drew1 | refine below_set ?_ GE135.out) | exact HB.out)⟩
                    · rw [if_neg c53] at H
                      have c53b0 : decide (0 ≤ a0_7) = false := decide_eq_false c53
                      clear c53
                      obtain rfl := Option.some.inj H
                      have hcz65_0 : wc.cell? ⟨gb135, 0, none⟩ = some (.int .u8 a0_0) := (blk_cell BK135.out 0).trans rfl
                      have hcz65_1 : wc.cell? ⟨gb135, 1, none⟩ = some (.int .u32 a0_1) := (blk_cell BK135.out 1).trans rfl
                      have hcz65_2 : wc.cell? ⟨gb135, 2, none⟩ = some (.int .u32 a0_2) := (blk_cell BK135.out 2).trans rfl
                      have hcz65_3 : wc.cell? ⟨gb135, 3, none⟩ = some (.slice A0_3 l0_3.length c0_3) := (blk_cell BK135.out 3).trans rfl
                      have hcz65_4 : wc.cell? ⟨gb135, 4, none⟩ = some (.slice A0_4 l0_4.length c0_4) := (blk_cell BK135.out 4).trans rfl
                      have hcz65_5 : wc.cell? ⟨gb135, 5, none⟩ = some (.int .u32 a0_5) := (blk_cell BK135.out 5).trans rfl
                      have hcz65_6 : wc.cell? ⟨gb135, 6, none⟩ = some (.slice A0_6 l0_6.length c0_6) := (blk_cell BK135.out 6).trans rfl
                      have hcz65_7 : wc.cell? ⟨gb135, 7, none⟩ = some (.int .i64 a0_7) := (blk_cell BK135.out 7).trans rfl
                      have hcz65_8 : wc.cell? ⟨gb135, 8, none⟩ = some (.int .i64 a0_8) := (blk_cell BK135.out 8).trans rfl
                      have hcz65_9 : wc.cell? ⟨gb135, 9, none⟩ = some (.slice A0_9 l0_9.length c0_9) := (blk_cell BK135.out 9).trans rfl
                      have hfz65_0 := blk_frozen BK135.out 0
                      have hfz65_1 := blk_frozen BK135.out 1
                      have hfz65_2 := blk_frozen BK135.out 2
                      have hfz65_3 := blk_frozen BK135.out 3
                      have hfz65_4 := blk_frozen BK135.out 4
                      have hfz65_5 := blk_frozen BK135.out 5
                      have hfz65_6 := blk_frozen BK135.out 6
                      have hfz65_7 := blk_frozen BK135.out 7
                      have hfz65_8 := blk_frozen BK135.out 8
                      have hfz65_9 := blk_frozen BK135.out 9
                      go_wp2_with (first | ((with_reducible refine gate_callee (f := 97) rfl ?_); refine goesL_ (some 47) rfl rfl Tryd.func97 (by kernel_rfl) rfl #[.agg #[.int .u8 a0_0, .int .u32 a0_1, .int .u32 a0_2, .slice A0_3 l0_3.length c0_3, .slice A0_4 l0_4.length c0_4, .int .u32 a0_5, .slice A0_6 l0_6.length c0_6, .int .i64 a0_7, .int .i64 a0_8, .slice A0_9 l0_9.length c0_9], .string (⟨#[73, 82]⟩ : ByteArray)] rfl (by (try simp only [List.map_toArray, List.map_cons, List.map_nil]); first | done | rfl | (simp only [List.length_drop, List.length_take]; rfl)) ?_; (with_reducible refine (stratumref07_bare.calls a0_0 a0_1 a0_2 _ _ l0_3 _ _ l0_4 a0_5 _ _ l0_6 a0_7 a0_8 _ _ l0_9 (⟨#[73, 82]⟩ : ByteArray) true _ ?side1 ?side2 ?side3 ?side4 ?side5 ?side6 ?side7 ?side8 A49.out).mono ?_); (case side1 => repeat (first | exact (Kd.C_below HR0_3.out HB.out) | (with_reducible refine Kd.C_alloc ?_ _) | (with_reducible refine Kd.C_drewN ?_ _) | (with_reducible refine Kd.C_drew ?_))); (case side2 => exact HC0_3.out); (case side3 => repeat (first | exact (Kd.C_below HR0_4.out HB.out) | (with_reducible refine Kd.C_alloc ?_ _) | (with_reducible refine Kd.C_drewN ?_ _) | (with_reducible refine Kd.C_drew ?_))); (case side4 => exact HC0_4.out); (case side5 => repeat (first | exact (Kd.C_below HR0_6.out HB.out) | (with_reducible refine Kd.C_alloc ?_ _) | (with_reducible refine Kd.C_drewN ?_ _) | (with_reducible refine Kd.C_drew ?_))); (case side6 => exact HC0_6.out); (case side7 => repeat (first | exact (Kd.C_below HR0_9.out HB.out) | (with_reducible refine Kd.C_alloc ?_ _) | (with_reducible refine Kd.C_drewN ?_ _) | (with_reducible refine Kd.C_drew ?_))); (case side8 => exact HC0_9.out); rintro e w66 ⟨rfl, hb⟩; refine ⟨_, rfl, ?_⟩; have n0_ := Aside0.mk (blk_below (g := gb135) (o := .cells #[.int .u8 a0_0, .int .u32 a0_1, .int .u32 a0_2, .slice A0_3 l0_3.length c0_3, .slice A0_4 l0_4.length c0_4, .int .u32 a0_5, .slice A0_6 l0_6.length c0_6, .int .i64 a0_7, .int .i64 a0_8, .slice A0_9 l0_9.length c0_9] 57 (0, 0)) (by (with_reducible repeat (first | refine blk_drewN ?_ _ | refine blk_drew ?_ | refine blk_alloc ?_ _)); exact BK135.out) hb); have n1_ := Aside0.mk (below_step (by repeat (first | (with_reducible first | exact HB.out | apply below_alloc | apply pw_below_drewN | apply below_drew1 | refine below_set ?_ GE135.out) | exact HB.out)) hb); clear BK135; clear HB; have BK135 := n0_; have HB := n1_; clear n0_ n1_; (try clear hb); (try clear hb2); (try clear hk); (try clear hi); have hcz67_0 : w66.cell? ⟨gb135, 0, none⟩ = some (.int .u8 a0_0) := (blk_cell BK135.out 0).trans rfl; have hcz67_1 : w66.cell? ⟨gb135, 1, none⟩ = some (.int .u32 a0_1) := (blk_cell BK135.out 1).trans rfl; have hcz67_2 : w66.cell? ⟨gb135, 2, none⟩ = some (.int .u32 a0_2) := (blk_cell BK135.out 2).trans rfl; have hcz67_3 : w66.cell? ⟨gb135, 3, none⟩ = some (.slice A0_3 l0_3.length c0_3) := (blk_cell BK135.out 3).trans rfl; have hcz67_4 : w66.cell? ⟨gb135, 4, none⟩ = some (.slice A0_4 l0_4.length c0_4) := (blk_cell BK135.out 4).trans rfl; have hcz67_5 : w66.cell? ⟨gb135, 5, none⟩ = some (.int .u32 a0_5) := (blk_cell BK135.out 5).trans rfl; have hcz67_6 : w66.cell? ⟨gb135, 6, none⟩ = some (.slice A0_6 l0_6.length c0_6) := (blk_cell BK135.out 6).trans rfl; have hcz67_7 : w66.cell? ⟨gb135, 7, none⟩ = some (.int .i64 a0_7) := (blk_cell BK135.out 7).trans rfl; have hcz67_8 : w66.cell? ⟨gb135, 8, none⟩ = some (.int .i64 a0_8) := (blk_cell BK135.out 8).trans rfl; have hcz67_9 : w66.cell? ⟨gb135, 9, none⟩ = some (.slice A0_9 l0_9.length c0_9) := (blk_cell BK135.out 9).trans rfl; have hfz67_0 := blk_frozen BK135.out 0; have hfz67_1 := blk_frozen BK135.out 1; have hfz67_2 := blk_frozen BK135.out 2; have hfz67_3 := blk_frozen BK135.out 3; have hfz67_4 := blk_frozen BK135.out 4; have hfz67_5 := blk_frozen BK135.out 5; have hfz67_6 := blk_frozen BK135.out 6; have hfz67_7 := blk_frozen BK135.out 7; have hfz67_8 := blk_frozen BK135.out 8; have hfz67_9 := blk_frozen BK135.out 9) | (go_at_call 101; (with_reducible refine (stratumref07_SoundEntries.calls kj29 _ _ l0_9 true _ ?side1 ?side2 A51.out).mono ?_); (case side1 => repeat (first | exact (Kd.C_below HR0_9.out HB.out) | (with_reducible refine Kd.C_alloc ?_ _) | (with_reducible refine Kd.C_drewN ?_ _) | (with_reducible refine Kd.C_drew ?_))); (case side2 => exact HC0_9.out); rintro e w' ⟨rfl, ⟨nd, rfl⟩⟩))
                      go_ret
                      exact ⟨by first | rfl | (simp [errW_none, errW_some] <;> rfl) | (simp [*, errW_none, errW_some] <;> rfl), by repeat (first | (with_reducible first | exact HB.out | apply below_alloc | apply pw_below_drewN | apply below_drew1 | refine below_set ?_ GE135.out) | exact HB.out)⟩
                  · replace c52 := Bool.eq_false_iff.mpr c52
                    subst c52
                    have H1 : (some false) = some r := by rw [if_neg (show ¬ (false = true) by decide)] at H; exact H
                    clear H
                    have H := H1
                    clear H1
                    obtain rfl := Option.some.inj H
                    have hcz68_0 : wc.cell? ⟨gb135, 0, none⟩ = some (.int .u8 a0_0) := (blk_cell BK135.out 0).trans rfl
                    have hcz68_1 : wc.cell? ⟨gb135, 1, none⟩ = some (.int .u32 a0_1) := (blk_cell BK135.out 1).trans rfl
                    have hcz68_2 : wc.cell? ⟨gb135, 2, none⟩ = some (.int .u32 a0_2) := (blk_cell BK135.out 2).trans rfl
                    have hcz68_3 : wc.cell? ⟨gb135, 3, none⟩ = some (.slice A0_3 l0_3.length c0_3) := (blk_cell BK135.out 3).trans rfl
                    have hcz68_4 : wc.cell? ⟨gb135, 4, none⟩ = some (.slice A0_4 l0_4.length c0_4) := (blk_cell BK135.out 4).trans rfl
                    have hcz68_5 : wc.cell? ⟨gb135, 5, none⟩ = some (.int .u32 a0_5) := (blk_cell BK135.out 5).trans rfl
                    have hcz68_6 : wc.cell? ⟨gb135, 6, none⟩ = some (.slice A0_6 l0_6.length c0_6) := (blk_cell BK135.out 6).trans rfl
                    have hcz68_7 : wc.cell? ⟨gb135, 7, none⟩ = some (.int .i64 a0_7) := (blk_cell BK135.out 7).trans rfl
                    have hcz68_8 : wc.cell? ⟨gb135, 8, none⟩ = some (.int .i64 a0_8) := (blk_cell BK135.out 8).trans rfl
                    have hcz68_9 : wc.cell? ⟨gb135, 9, none⟩ = some (.slice A0_9 l0_9.length c0_9) := (blk_cell BK135.out 9).trans rfl
                    have hfz68_0 := blk_frozen BK135.out 0
                    have hfz68_1 := blk_frozen BK135.out 1
                    have hfz68_2 := blk_frozen BK135.out 2
                    have hfz68_3 := blk_frozen BK135.out 3
                    have hfz68_4 := blk_frozen BK135.out 4
                    have hfz68_5 := blk_frozen BK135.out 5
                    have hfz68_6 := blk_frozen BK135.out 6
                    have hfz68_7 := blk_frozen BK135.out 7
                    have hfz68_8 := blk_frozen BK135.out 8
                    have hfz68_9 := blk_frozen BK135.out 9
                    go_wp2_with (first | ((with_reducible refine gate_callee (f := 97) rfl ?_); refine goesL_ (some 47) rfl rfl Tryd.func97 (by kernel_rfl) rfl #[.agg #[.int .u8 a0_0, .int .u32 a0_1, .int .u32 a0_2, .slice A0_3 l0_3.length c0_3, .slice A0_4 l0_4.length c0_4, .int .u32 a0_5, .slice A0_6 l0_6.length c0_6, .int .i64 a0_7, .int .i64 a0_8, .slice A0_9 l0_9.length c0_9], .string (⟨#[73, 82]⟩ : ByteArray)] rfl (by (try simp only [List.map_toArray, List.map_cons, List.map_nil]); first | done | rfl | (simp only [List.length_drop, List.length_take]; rfl)) ?_; (with_reducible refine (stratumref07_bare.calls a0_0 a0_1 a0_2 _ _ l0_3 _ _ l0_4 a0_5 _ _ l0_6 a0_7 a0_8 _ _ l0_9 (⟨#[73, 82]⟩ : ByteArray) true _ ?side1 ?side2 ?side3 ?side4 ?side5 ?side6 ?side7 ?side8 A49.out).mono ?_); (case side1 => repeat (first | exact (Kd.C_below HR0_3.out HB.out) | (with_reducible refine Kd.C_alloc ?_ _) | (with_reducible refine Kd.C_drewN ?_ _) | (with_reducible refine Kd.C_drew ?_))); (case side2 => exact HC0_3.out); (case side3 => repeat (first | exact (Kd.C_below HR0_4.out HB.out) | (with_reducible refine Kd.C_alloc ?_ _) | (with_reducible refine Kd.C_drewN ?_ _) | (with_reducible refine Kd.C_drew ?_))); (case side4 => exact HC0_4.out); (case side5 => repeat (first | exact (Kd.C_below HR0_6.out HB.out) | (with_reducible refine Kd.C_alloc ?_ _) | (with_reducible refine Kd.C_drewN ?_ _) | (with_reducible refine Kd.C_drew ?_))); (case side6 => exact HC0_6.out); (case side7 => repeat (first | exact (Kd.C_below HR0_9.out HB.out) | (with_reducible refine Kd.C_alloc ?_ _) | (with_reducible refine Kd.C_drewN ?_ _) | (with_reducible refine Kd.C_drew ?_))); (case side8 => exact HC0_9.out); rintro e w69 ⟨rfl, hb⟩; refine ⟨_, rfl, ?_⟩; have n0_ := Aside0.mk (blk_below (g := gb135) (o := .cells #[.int .u8 a0_0, .int .u32 a0_1, .int .u32 a0_2, .slice A0_3 l0_3.length c0_3, .slice A0_4 l0_4.length c0_4, .int .u32 a0_5, .slice A0_6 l0_6.length c0_6, .int .i64 a0_7, .int .i64 a0_8, .slice A0_9 l0_9.length c0_9] 57 (0, 0)) (by (with_reducible repeat (first | refine blk_drewN ?_ _ | refine blk_drew ?_ | refine blk_alloc ?_ _)); exact BK135.out) hb); have n1_ := Aside0.mk (below_step (by repeat (first | (with_reducible first | exact HB.out | apply below_alloc | apply pw_below_drewN | apply below_drew1 | refine below_set ?_ GE135.out) | exact HB.out)) hb); clear BK135; clear HB; have BK135 := n0_; have HB := n1_; clear n0_ n1_; (try clear hb); (try clear hb2); (try clear hk); (try clear hi); have hcz70_0 : w69.cell? ⟨gb135, 0, none⟩ = some (.int .u8 a0_0) := (blk_cell BK135.out 0).trans rfl; have hcz70_1 : w69.cell? ⟨gb135, 1, none⟩ = some (.int .u32 a0_1) := (blk_cell BK135.out 1).trans rfl; have hcz70_2 : w69.cell? ⟨gb135, 2, none⟩ = some (.int .u32 a0_2) := (blk_cell BK135.out 2).trans rfl; have hcz70_3 : w69.cell? ⟨gb135, 3, none⟩ = some (.slice A0_3 l0_3.length c0_3) := (blk_cell BK135.out 3).trans rfl; have hcz70_4 : w69.cell? ⟨gb135, 4, none⟩ = some (.slice A0_4 l0_4.length c0_4) := (blk_cell BK135.out 4).trans rfl; have hcz70_5 : w69.cell? ⟨gb135, 5, none⟩ = some (.int .u32 a0_5) := (blk_cell BK135.out 5).trans rfl; have hcz70_6 : w69.cell? ⟨gb135, 6, none⟩ = some (.slice A0_6 l0_6.length c0_6) := (blk_cell BK135.out 6).trans rfl; have hcz70_7 : w69.cell? ⟨gb135, 7, none⟩ = some (.int .i64 a0_7) := (blk_cell BK135.out 7).trans rfl; have hcz70_8 : w69.cell? ⟨gb135, 8, none⟩ = some (.int .i64 a0_8) := (blk_cell BK135.out 8).trans rfl; have hcz70_9 : w69.cell? ⟨gb135, 9, none⟩ = some (.slice A0_9 l0_9.length c0_9) := (blk_cell BK135.out 9).trans rfl; have hfz70_0 := blk_frozen BK135.out 0; have hfz70_1 := blk_frozen BK135.out 1; have hfz70_2 := blk_frozen BK135.out 2; have hfz70_3 := blk_frozen BK135.out 3; have hfz70_4 := blk_frozen BK135.out 4; have hfz70_5 := blk_frozen BK135.out 5; have hfz70_6 := blk_frozen BK135.out 6; have hfz70_7 := blk_frozen BK135.out 7; have hfz70_8 := blk_frozen BK135.out 8; have hfz70_9 := blk_frozen BK135.out 9) | (go_at_call 101; (with_reducible refine (stratumref07_SoundEntries.calls kj29 _ _ l0_9 false _ ?side1 ?side2 A51.out).mono ?_); (case side1 => repeat (first | exact (Kd.C_below HR0_9.out HB.out) | (with_reducible refine Kd.C_alloc ?_ _) | (with_reducible refine Kd.C_drewN ?_ _) | (with_reducible refine Kd.C_drew ?_))); (case side2 => exact HC0_9.out); rintro e w' ⟨rfl, ⟨nd, rfl⟩⟩))
                    go_ret
                    exact ⟨by first | rfl | (simp [errW_none, errW_some] <;> rfl) | (simp [*, errW_none, errW_some] <;> rfl), by repeat (first | (with_reducible first | exact HB.out | apply below_alloc | apply pw_below_drewN | apply below_drew1 | refine below_set ?_ GE135.out) | exact HB.out)⟩
                · replace c50 := Bool.eq_false_iff.mpr c50
                  subst c50
                  have H1 : (some false) = some r := by rw [if_neg (show ¬ (false = true) by decide)] at H; exact H
                  clear H
                  have H := H1
                  clear H1
                  obtain rfl := Option.some.inj H
                  have hcz71_0 : wc.cell? ⟨gb135, 0, none⟩ = some (.int .u8 a0_0) := (blk_cell BK135.out 0).trans rfl
                  have hcz71_1 : wc.cell? ⟨gb135, 1, none⟩ = some (.int .u32 a0_1) := (blk_cell BK135.out 1).trans rfl
                  have hcz71_2 : wc.cell? ⟨gb135, 2, none⟩ = some (.int .u32 a0_2) := (blk_cell BK135.out 2).trans rfl
                  have hcz71_3 : wc.cell? ⟨gb135, 3, none⟩ = some (.slice A0_3 l0_3.length c0_3) := (blk_cell BK135.out 3).trans rfl
                  have hcz71_4 : wc.cell? ⟨gb135, 4, none⟩ = some (.slice A0_4 l0_4.length c0_4) := (blk_cell BK135.out 4).trans rfl
                  have hcz71_5 : wc.cell? ⟨gb135, 5, none⟩ = some (.int .u32 a0_5) := (blk_cell BK135.out 5).trans rfl
                  have hcz71_6 : wc.cell? ⟨gb135, 6, none⟩ = some (.slice A0_6 l0_6.length c0_6) := (blk_cell BK135.out 6).trans rfl
                  have hcz71_7 : wc.cell? ⟨gb135, 7, none⟩ = some (.int .i64 a0_7) := (blk_cell BK135.out 7).trans rfl
                  have hcz71_8 : wc.cell? ⟨gb135, 8, none⟩ = some (.int .i64 a0_8) := (blk_cell BK135.out 8).trans rfl
                  have hcz71_9 : wc.cell? ⟨gb135, 9, none⟩ = some (.slice A0_9 l0_9.length c0_9) := (blk_cell BK135.out 9).trans rfl
                  have hfz71_0 := blk_frozen BK135.out 0
                  have hfz71_1 := blk_frozen BK135.out 1
                  have hfz71_2 := blk_frozen BK135.out 2
                  have hfz71_3 := blk_frozen BK135.out 3
                  have hfz71_4 := blk_frozen BK135.out 4
                  have hfz71_5 := blk_frozen BK135.out 5
                  have hfz71_6 := blk_frozen BK135.out 6
                  have hfz71_7 := blk_frozen BK135.out 7
                  have hfz71_8 := blk_frozen BK135.out 8
                  have hfz71_9 := blk_frozen BK135.out 9
                  go_wp2_with (first | ((with_reducible refine gate_callee (f := 97) rfl ?_); refine goesL_ (some 47) rfl rfl Tryd.func97 (by kernel_rfl) rfl #[.agg #[.int .u8 a0_0, .int .u32 a0_1, .int .u32 a0_2, .slice A0_3 l0_3.length c0_3, .slice A0_4 l0_4.length c0_4, .int .u32 a0_5, .slice A0_6 l0_6.length c0_6, .int .i64 a0_7, .int .i64 a0_8, .slice A0_9 l0_9.length c0_9], .string (⟨#[73, 82]⟩ : ByteArray)] rfl (by (try simp only [List.map_toArray, List.map_cons, List.map_nil]); first | done | rfl | (simp only [List.length_drop, List.length_take]; rfl)) ?_; (with_reducible refine (stratumref07_bare.calls a0_0 a0_1 a0_2 _ _ l0_3 _ _ l0_4 a0_5 _ _ l0_6 a0_7 a0_8 _ _ l0_9 (⟨#[73, 82]⟩ : ByteArray) false _ ?side1 ?side2 ?side3 ?side4 ?side5 ?side6 ?side7 ?side8 A49.out).mono ?_); (case side1 => repeat (first | exact (Kd.C_below HR0_3.out HB.out) | (with_reducible refine Kd.C_alloc ?_ _) | (with_reducible refine Kd.C_drewN ?_ _) | (with_reducible refine Kd.C_drew ?_))); (case side2 => exact HC0_3.out); (case side3 => repeat (first | exact (Kd.C_below HR0_4.out HB.out) | (with_reducible refine Kd.C_alloc ?_ _) | (with_reducible refine Kd.C_drewN ?_ _) | (with_reducible refine Kd.C_drew ?_))); (case side4 => exact HC0_4.out); (case side5 => repeat (first | exact (Kd.C_below HR0_6.out HB.out) | (with_reducible refine Kd.C_alloc ?_ _) | (with_reducible refine Kd.C_drewN ?_ _) | (with_reducible refine Kd.C_drew ?_))); (case side6 => exact HC0_6.out); (case side7 => repeat (first | exact (Kd.C_below HR0_9.out HB.out) | (with_reducible refine Kd.C_alloc ?_ _) | (with_reducible refine Kd.C_drewN ?_ _) | (with_reducible refine Kd.C_drew ?_))); (case side8 => exact HC0_9.out); rintro e w72 ⟨rfl, hb⟩; refine ⟨_, rfl, ?_⟩; have n0_ := Aside0.mk (blk_below (g := gb135) (o := .cells #[.int .u8 a0_0, .int .u32 a0_1, .int .u32 a0_2, .slice A0_3 l0_3.length c0_3, .slice A0_4 l0_4.length c0_4, .int .u32 a0_5, .slice A0_6 l0_6.length c0_6, .int .i64 a0_7, .int .i64 a0_8, .slice A0_9 l0_9.length c0_9] 57 (0, 0)) (by (with_reducible repeat (first | refine blk_drewN ?_ _ | refine blk_drew ?_ | refine blk_alloc ?_ _)); exact BK135.out) hb); have n1_ := Aside0.mk (below_step (by repeat (first | (with_reducible first | exact HB.out | apply below_alloc | apply pw_below_drewN | apply below_drew1 | refine below_set ?_ GE135.out) | exact HB.out)) hb); clear BK135; clear HB; have BK135 := n0_; have HB := n1_; clear n0_ n1_; (try clear hb); (try clear hb2); (try clear hk); (try clear hi)))
                  go_ret
                  exact ⟨by first | rfl | (simp [errW_none, errW_some] <;> rfl) | (simp [*, errW_none, errW_some] <;> rfl), by repeat (first | (with_reducible first | exact HB.out | apply below_alloc | apply pw_below_drewN | apply below_drew1 | refine below_set ?_ GE135.out) | exact HB.out)⟩
              · rw [if_neg c48] at H
                have c48b0 : (a0_0 == 7) = false := beq_eq_false_iff_ne.mpr c48
                have c48b1 : (a0_0 != 7) = true := bne_iff_ne.mpr c48
                obtain rfl := Option.some.inj H
                go_wp2
                go_ret
                exact ⟨by first | rfl | (simp [errW_none, errW_some] <;> rfl) | (simp [*, errW_none, errW_some] <;> rfl), by repeat (first | (with_reducible first | exact HB.out | apply below_alloc | apply pw_below_drewN | apply below_drew1 | refine below_set ?_ GE135.out) | exact HB.out)⟩
end Go.Proofs.YtbbhjceelghadaaDoor.K
end

section
-- from RefS
namespace Go.Proofs.YtbbhjceelghadaaDoor.K
open Go Go.RowKit Go.Proofs.YtbbhjceelghadaaDoorW.PrintWords Go.Proofs.YtbbhjceelghadaaDoorW.PrintLast Go.Proofs.YtbbhjceelghadaaDoorW.PrintMore Go.Proofs.YtbbhjceelghadaaDoor.My
theorem drop_rd {α : Type} (d : α) (l : List α) (i : Int) (h : i.toNat < l.length) (h0 : 0 ≤ i) : l.drop i.toNat = l.getD i.toNat d :: l.drop (i + 1).toNat := by
  rw [List.drop_eq_getElem_cons h, show (i + 1).toNat = i.toNat + 1 by omega]
  congr 1
  rw [List.getD_eq_getElem?_getD, List.getElem?_eq_getElem h]
  rfl
theorem drop_end {α : Type} (l : List α) (i : Int) (h : ¬ i < (l.length : Int)) : l.drop i.toNat = [] := List.drop_of_length_le (by omega)
theorem Ev_and {g : Nat → Option Bool} {b : Bool} (B : Bool) (h : Ev g b) : Ev (fun k => if B = true then g k else some false) (B && b) := by
  cases B with
  | false => exact Ev.now _
  | true => exact h
end Go.Proofs.YtbbhjceelghadaaDoor.K
end

section
-- from Buf
namespace Go.Proofs
open Go.Shelf
def Tryd.laysM181_ren : Go.Shelf.Ren := ⟨fun | 181 => 68 | n => n, fun | 130 => 125 | 3 => 3 | 0 => 0 | 93 => 111 | 37 => 23 | 91 => 109 | 5 => 5 | n => n, fun | n => n⟩
theorem Tryd.laysM181 : Go.Proofs.LaysM.n181 Tryd.prog Tryd.laysM181_ren := {
  mixed := by kernel_rfl
  f181 := Tryd.func68.trans (congrArg some (by kernel_rfl))
  t0 := Tryd.underlying0
  a0 := Tryd.isAgg0
  z0 := Tryd.sizeOf0
  v0 := Tryd.zeroValue0
  t3 := Tryd.underlying3
  a3 := Tryd.isAgg3
  z3 := Tryd.sizeOf3
  v3 := Tryd.zeroValue3
  t37 := Tryd.underlying23
  a37 := Tryd.isAgg23
  z37 := Tryd.sizeOf23
  v37 := Tryd.zeroValue23
  t93 := Tryd.underlying111
  a93 := Tryd.isAgg111
  z93 := Tryd.sizeOf111
  v93 := Tryd.zeroValue111
  t130 := Tryd.underlying125
  a130 := Tryd.isAgg125
  z130 := Tryd.sizeOf125
  v130 := Tryd.zeroValue125
  t5 := Tryd.underlying5
  a5 := Tryd.isAgg5
  z5 := Tryd.sizeOf5
  v5 := Tryd.zeroValue5
  t91 := Tryd.underlying109
  a91 := Tryd.isAgg109
  z91 := Tryd.sizeOf109
  v91 := Tryd.zeroValue109
  i0 := by kernel_rfl
  i3 := by kernel_rfl
  i5 := by kernel_rfl
  i37 := by kernel_rfl
  i91 := by kernel_rfl
  i93 := by kernel_rfl
  i130 := by kernel_rfl }
open Go.RowKit in
/-- (*bytes.Buffer).Len: "Len returns the number of bytes of the unread portion of the buffer; b.Len() == len(b.Bytes()).": the world is as it was but for the count of draws (the statement has two reads: its order is drawn). (LAID: no walk: one application.) -/
theorem Tryd.Buffer_Len (B b : Nat) (bs : List Value) (w : World) (h : Lib.IsBuffer 111 5 B b bs w) :
    Calls Tryd.prog 68 #[.pointer (some ⟨b, 0, none⟩)] w fun e w' => e = .returned (.int .i64 bs.length) ∧ ∃ n, w' = w.drewN n := Any.Buffer_Len Tryd.laysM181 B b bs w h
def Tryd.laysM183_ren : Go.Shelf.Ren := ⟨fun | 183 => 73 | n => n, fun | 130 => 125 | 37 => 23 | 0 => 0 | 93 => 111 | 3 => 3 | 5 => 5 | 91 => 109 | n => n, fun | n => n⟩
theorem Tryd.laysM183 : Go.Proofs.LaysM.n183 Tryd.prog Tryd.laysM183_ren := {
  mixed := by kernel_rfl
  f183 := Tryd.func73.trans (congrArg some (by kernel_rfl))
  t0 := Tryd.underlying0
  a0 := Tryd.isAgg0
  z0 := Tryd.sizeOf0
  v0 := Tryd.zeroValue0
  t3 := Tryd.underlying3
  a3 := Tryd.isAgg3
  z3 := Tryd.sizeOf3
  v3 := Tryd.zeroValue3
  t37 := Tryd.underlying23
  a37 := Tryd.isAgg23
  z37 := Tryd.sizeOf23
  v37 := Tryd.zeroValue23
  t93 := Tryd.underlying111
  a93 := Tryd.isAgg111
  z93 := Tryd.sizeOf111
  v93 := Tryd.zeroValue111
  t130 := Tryd.underlying125
  a130 := Tryd.isAgg125
  z130 := Tryd.sizeOf125
  v130 := Tryd.zeroValue125
  t5 := Tryd.underlying5
  a5 := Tryd.isAgg5
  z5 := Tryd.sizeOf5
  v5 := Tryd.zeroValue5
  t91 := Tryd.underlying109
  a91 := Tryd.isAgg109
  z91 := Tryd.sizeOf109
  v91 := Tryd.zeroValue109
  i0 := by kernel_rfl
  i3 := by kernel_rfl
  i5 := by kernel_rfl
  i37 := by kernel_rfl
  i91 := by kernel_rfl
  i93 := by kernel_rfl
  i130 := by kernel_rfl }
open Go.RowKit in
/-- (*bytes.Buffer).Bytes: "Bytes returns a slice of length b.Len() holding the unread portion of the buffer. .. The slice aliases the buffer content at least until the next buffer modification": A SLICE THAT OWNS THE CELLS bs ('World.ownsRow': nil where nothing was ever written). The world is as it was but for the count of draws. (LAID: no walk: one application.) -/
theorem Tryd.Buffer_Bytes (B b : Nat) (bs : List Value) (w : World) (h : Lib.IsBuffer 111 5 B b bs w) :
    Calls Tryd.prog 73 #[.pointer (some ⟨b, 0, none⟩)] w fun e w' => ∃ v, e = .returned v ∧ w'.ownsRow B 5 1 v bs.length bs ∧ ∃ n, w' = w.drewN n := Any.Buffer_Bytes Tryd.laysM183 B b bs w h
def Tryd.laysM179_ren : Go.Shelf.Ren := ⟨fun | 179 => 118 | 251 => 114 | 252 => 115 | 181 => 68 | 184 => 136 | 290 => 137 | 324 => 149 | n => n, fun | 130 => 125 | 5 => 5 | 75 => 117 | 0 => 0 | 93 => 111 | 91 => 109 | 3 => 3 | 131 => 165 | 4 => 4 | 37 => 23 | 20 => 20 | 80 => 203 | 9 => 9 | n => n, fun | 14 => 0 | n => n⟩
theorem Tryd.laysM179 : Go.Proofs.LaysM.n179 Tryd.prog Tryd.laysM179_ren := {
  mixed := by kernel_rfl
  f179 := Tryd.func118.trans (congrArg some (by kernel_rfl))
  f181 := Tryd.func68.trans (congrArg some (by kernel_rfl))
  f184 := Tryd.func136.trans (congrArg some (by kernel_rfl))
  f251 := Tryd.func114.trans (congrArg some (by kernel_rfl))
  f252 := Tryd.func115.trans (congrArg some (by kernel_rfl))
  f290 := Tryd.func137.trans (congrArg some (by kernel_rfl))
  f324 := Tryd.func149.trans (congrArg some (by kernel_rfl))
  t0 := Tryd.underlying0
  a0 := Tryd.isAgg0
  z0 := Tryd.sizeOf0
  v0 := Tryd.zeroValue0
  t3 := Tryd.underlying3
  a3 := Tryd.isAgg3
  z3 := Tryd.sizeOf3
  v3 := Tryd.zeroValue3
  t4 := Tryd.underlying4
  a4 := Tryd.isAgg4
  z4 := Tryd.sizeOf4
  v4 := Tryd.zeroValue4
  t5 := Tryd.underlying5
  a5 := Tryd.isAgg5
  z5 := Tryd.sizeOf5
  v5 := Tryd.zeroValue5
  t20 := Tryd.underlying20
  a20 := Tryd.isAgg20
  z20 := Tryd.sizeOf20
  v20 := Tryd.zeroValue20
  t37 := Tryd.underlying23
  a37 := Tryd.isAgg23
  z37 := Tryd.sizeOf23
  v37 := Tryd.zeroValue23
  t75 := Tryd.underlying117
  a75 := Tryd.isAgg117
  z75 := Tryd.sizeOf117
  v75 := Tryd.zeroValue117
  t91 := Tryd.underlying109
  a91 := Tryd.isAgg109
  z91 := Tryd.sizeOf109
  v91 := Tryd.zeroValue109
  t93 := Tryd.underlying111
  a93 := Tryd.isAgg111
  z93 := Tryd.sizeOf111
  v93 := Tryd.zeroValue111
  t130 := Tryd.underlying125
  a130 := Tryd.isAgg125
  z130 := Tryd.sizeOf125
  v130 := Tryd.zeroValue125
  t131 := Tryd.underlying165
  a131 := Tryd.isAgg165
  z131 := Tryd.sizeOf165
  v131 := Tryd.zeroValue165
  g14 := by kernel_rfl
  t9 := Tryd.underlying9
  a9 := Tryd.isAgg9
  z9 := Tryd.sizeOf9
  v9 := Tryd.zeroValue9
  t80 := Tryd.underlying203
  a80 := Tryd.isAgg203
  z80 := Tryd.sizeOf203
  v80 := Tryd.zeroValue203
  i0 := by kernel_rfl
  i3 := by kernel_rfl
  i4 := by kernel_rfl
  i5 := by kernel_rfl
  i9 := by kernel_rfl
  i20 := by kernel_rfl
  i37 := by kernel_rfl
  i75 := by kernel_rfl
  i80 := by kernel_rfl
  i91 := by kernel_rfl
  i93 := by kernel_rfl
  i130 := by kernel_rfl
  i131 := by kernel_rfl
  m14 := by kernel_rfl }
open Go.RowKit in
/-- (*bytes.Buffer).WriteByte: "WriteByte appends the byte c to the buffer, growing the buffer as needed. The returned error is always nil". (LAID: no walk: one application.) -/
theorem Tryd.Buffer_WriteByte_kept (B b : Nat) (bs : List Value) (c : Int) (w : World) (h : Lib.IsBuffer 111 5 B b bs w) (hBw : B ≤ w.heap.size) (h1 : ∀ v ∈ bs, v.oneCell' = true) (hlim : bs.length + 1 ≤ 140737488355328) :
    Calls Tryd.prog 118 #[.pointer (some ⟨b, 0, none⟩), .int .u8 c] w fun e w' => e = .returned .nilIface ∧ Lib.IsBuffer 111 5 B b (bs ++ [.int .u8 c]) w' ∧ Below B w w' ∧ Lib.OthersKept 5 (some b) w w' := Any.Buffer_WriteByte_kept Tryd.laysM179 B b bs c w h hBw h1 hlim
end Go.Proofs
end

section
-- from CodeL
namespace Go.Proofs.YtbbhjceelghadaaDoor.K
open Go Go.RowKit Go.Proofs.YtbbhjceelghadaaDoorW.PrintWords Go.Proofs.YtbbhjceelghadaaDoorW.PrintLast Go.Proofs.YtbbhjceelghadaaDoorW.PrintMore Go.Proofs.YtbbhjceelghadaaDoor.My
/-- A buffer of the call's own, that has only been written. -/
def Bf (B b : Nat) (l : List UInt8) (w : World) : Prop := Lib.IsBuffer 111 5 B b (Lib.byteCells l) w
/-- What a write leaves: all below B; all blocks but the buffer's that are no rows of bytes. -/
def Kp (B b : Nat) (w w' : World) : Prop := Below B w w' ∧ Lib.OthersKept 5 (some b) w w'
theorem Kp.refl (B b : Nat) (w : World) : Kp B b w w := ⟨Below.refl _ _, Lib.OthersKept.refl _ _ _⟩
theorem Kp.trans {B b : Nat} {w w1 w2 : World} (h : Kp B b w w1) (k : Kp B b w1 w2) : Kp B b w w2 := ⟨h.1.trans k.1, h.2.trans k.2⟩
theorem Kp.alloc {B b : Nat} {w w1 : World} (h : Kp B b w w1) (hB : B ≤ w1.heap.size) (o : Obj) : Kp B b w (w1.alloc o) := ⟨h.1.alloc hB o, h.2.alloc o⟩
theorem Kp.size {B b : Nat} {w w1 : World} (h : Kp B b w w1) : w.heap.size ≤ w1.heap.size := h.1.size
theorem Kp.block {B b : Nat} {w w1 : World} (h : Kp B b w w1) {k : Nat} {cs : Array Value} {t : TypeId} {fz : Nat × Nat} (hk : w.heap[k]? = some (.cells cs t fz)) (hne : k ≠ b) (ht : t ≠ 5) : w1.heap[k]? = some (.cells cs t fz) :=
  h.2 k _ hk (fun e => hne (by injection e)) (fun c f e => ht (by injection e))
theorem Bf.lt {B b : Nat} {l : List UInt8} {w : World} (h : Bf B b l w) : b < w.heap.size := Lib.IsBuffer.lt h
theorem Bf.alloc {B b : Nat} {l : List UInt8} {w : World} (h : Bf B b l w) (o : Obj) : Bf B b l (w.alloc o) := Lib.IsBuffer.alloc h o
theorem Bf.fresh (w : World) : Bf w.heap.size w.heap.size [] (w.alloc (.cells #[.slice none 0 0, .int .i64 0, .int .i8 0] 111)) := Lib.fresh_isBuffer _ _ _
theorem cells_snoc (l : List UInt8) (c : UInt8) : Lib.byteCells (l ++ [c]) = Lib.byteCells l ++ [.int .u8 (c.toNat : Int)] := by simp [Lib.byteCells]
theorem lay_take (x : Int) (s k : Nat) (hk : k < s) : (layB x s).take (k + 1) = (layB x s).take k ++ [UInt8.ofNat ((x / 256 ^ (s - 1 - k)) % 256).toNat] := by
  induction s generalizing k with
  | zero => omega
  | succ s ih =>
    cases k with
    | zero => simp [layB]
    | succ k =>
      have := ih k (by omega)
      simp only [layB, List.take_succ_cons, List.cons_append]
      rw [this, show s + 1 - 1 - (k + 1) = s - 1 - k by omega]
theorem byte_of (v : Int) : ((UInt8.ofNat (v % 256).toNat).toNat : Int) = v % 256 := by
  rw [UInt8.toNat_ofNat']
  omega
theorem Bf.step {B b : Nat} {l : List UInt8} {x V : Int} {s k : Nat} {w : World} (h : Lib.IsBuffer 111 5 B b (Lib.byteCells (l ++ (layB x s).take k) ++ [.int .u8 V]) w) (hk : k < s) (hV : V = x / 256 ^ (s - 1 - k) % 256) : Bf B b (l ++ (layB x s).take (k + 1)) w := by
  unfold Bf
  rw [lay_take x s k hk, ← List.append_assoc, cells_snoc, byte_of, ← hV]
  exact h
theorem cells_one (l : List UInt8) : ∀ v ∈ Lib.byteCells l, v.oneCell' = true := Lib.byteCells_one l
theorem cells_len (l : List UInt8) (x : Int) (s k : Nat) (h : l.length + s ≤ 140737488355328) (hk : k < s) : (Lib.byteCells (l ++ (layB x s).take k)).length + 1 ≤ 140737488355328 := by
  rw [Lib.byteCells_length, List.length_append, List.length_take, layB_len]
  omega
set_option maxHeartbeats 4000000 in
theorem lay_u8 (B b : Nat) (l : List UInt8) (x : Int) (w : World) (h : Bf B b l w) (hB : B ≤ w.heap.size) (hl : l.length + 1 ≤ 140737488355328) :
    Calls Tryd.prog 80 #[.pointer (some ⟨b, 0, none⟩), .int .u8 x, .int .i64 1] w fun e w' => e = .returned (.tuple #[]) ∧ Bf B b (l ++ layB x 1) w' ∧ Kp B b w w' := by
  have H0 := Aside0.mk h
  clear h
  go_enter Tryd.func80, Tryd.ntmps80
  go_wp2
  go_loopw [8] (fun i wr => ∃ k : Nat, k ≤ 1 ∧ i = .int .i64 k ∧ Aside0 (Bf B b (l ++ (layB x 1).take k) wr) ∧ Aside0 (Kp B b w wr)) (fun i _ => 1 - (intOf i).toNat)
  case atStart => exact ⟨0, Nat.zero_le _, rfl, ⟨by rw [List.take_zero, List.append_nil]; exact H0.out⟩, ⟨Kp.refl _ _ _⟩⟩
  case round =>
    obtain ⟨k, hk, rfl, HI, HK⟩ := hrel
    have h' : k = 0 ∨ k = 1 := by omega
    rcases h' with rfl | rfl
    · have hI := HI.out
      have hK := HK.out
      clear HI HK
      go_wp2_with (go_at_call 118; refine (Tryd.Buffer_WriteByte_kept B b _ _ wr hI (Nat.le_trans hB hK.size) (cells_one _) (cells_len l x 1 0 hl (by omega))).mono ?_; rintro e w1 ⟨rfl, hI1, hb1, hk1⟩; have HI1 := Aside0.mk hI1; have HK1 := Aside0.mk (hK.trans ⟨hb1, hk1⟩); clear hI1 hb1 hk1 hI hK)
      go_roundw
      case rel => exact ⟨1, by omega, by go_num, ⟨Bf.step (k := 0) HI1.out (by omega) (by first | rfl | (show _ = x / 1 % 256; rw [IntKind.wrap_u64]; omega) | (show _ = x / 1 % 256; omega))⟩, HK1⟩
      case measure => simp [intOf]
    · go_wp2
      go_end0
      refine ⟨rfl, ?_, HK.out⟩
      have := HI.out
      rwa [List.take_of_length_le (by rw [layB_len]; exact Nat.le_refl _)] at this
set_option maxHeartbeats 4000000 in
theorem lay_u32 (B b : Nat) (l : List UInt8) (x : Int) (w : World) (h : Bf B b l w) (hB : B ≤ w.heap.size) (hl : l.length + 4 ≤ 140737488355328) :
    Calls Tryd.prog 81 #[.pointer (some ⟨b, 0, none⟩), .int .u32 x, .int .i64 4] w fun e w' => e = .returned (.tuple #[]) ∧ Bf B b (l ++ layB x 4) w' ∧ Kp B b w w' := by
  have H0 := Aside0.mk h
  clear h
  go_enter Tryd.func81, Tryd.ntmps81
  go_wp2
  go_loopw [8] (fun i wr => ∃ k : Nat, k ≤ 4 ∧ i = .int .i64 k ∧ Aside0 (Bf B b (l ++ (layB x 4).take k) wr) ∧ Aside0 (Kp B b w wr)) (fun i _ => 4 - (intOf i).toNat)
  case atStart => exact ⟨0, Nat.zero_le _, rfl, ⟨by rw [List.take_zero, List.append_nil]; exact H0.out⟩, ⟨Kp.refl _ _ _⟩⟩
  case round =>
    obtain ⟨k, hk, rfl, HI, HK⟩ := hrel
    have h' : k = 0 ∨ k = 1 ∨ k = 2 ∨ k = 3 ∨ k = 4 := by omega
    rcases h' with rfl | rfl | rfl | rfl | rfl
    · have hI := HI.out
      have hK := HK.out
      clear HI HK
      go_wp2_with (go_at_call 118; refine (Tryd.Buffer_WriteByte_kept B b _ _ wr hI (Nat.le_trans hB hK.size) (cells_one _) (cells_len l x 4 0 hl (by omega))).mono ?_; rintro e w1 ⟨rfl, hI1, hb1, hk1⟩; have HI1 := Aside0.mk hI1; have HK1 := Aside0.mk (hK.trans ⟨hb1, hk1⟩); clear hI1 hb1 hk1 hI hK)
      go_roundw
      case rel => exact ⟨1, by omega, by go_num, ⟨Bf.step (k := 0) HI1.out (by omega) (by first | rfl | (show _ = x / 16777216 % 256; rw [IntKind.wrap_u64]; omega) | (show _ = x / 16777216 % 256; omega))⟩, HK1⟩
      case measure => simp [intOf]
    · have hI := HI.out
      have hK := HK.out
      clear HI HK
      go_wp2_with (go_at_call 118; refine (Tryd.Buffer_WriteByte_kept B b _ _ wr hI (Nat.le_trans hB hK.size) (cells_one _) (cells_len l x 4 1 hl (by omega))).mono ?_; rintro e w1 ⟨rfl, hI1, hb1, hk1⟩; have HI1 := Aside0.mk hI1; have HK1 := Aside0.mk (hK.trans ⟨hb1, hk1⟩); clear hI1 hb1 hk1 hI hK)
      go_roundw
      case rel => exact ⟨2, by omega, by go_num, ⟨Bf.step (k := 1) HI1.out (by omega) (by first | rfl | (show _ = x / 65536 % 256; rw [IntKind.wrap_u64]; omega) | (show _ = x / 65536 % 256; omega))⟩, HK1⟩
      case measure => simp [intOf]
    · have hI := HI.out
      have hK := HK.out
      clear HI HK
      go_wp2_with (go_at_call 118; refine (Tryd.Buffer_WriteByte_kept B b _ _ wr hI (Nat.le_trans hB hK.size) (cells_one _) (cells_len l x 4 2 hl (by omega))).mono ?_; rintro e w1 ⟨rfl, hI1, hb1, hk1⟩; have HI1 := Aside0.mk hI1; have HK1 := Aside0.mk (hK.trans ⟨hb1, hk1⟩); clear hI1 hb1 hk1 hI hK)
      go_roundw
      case rel => exact ⟨3, by omega, by go_num, ⟨Bf.step (k := 2) HI1.out (by omega) (by first | rfl | (show _ = x / 256 % 256; rw [IntKind.wrap_u64]; omega) | (show _ = x / 256 % 256; omega))⟩, HK1⟩
      case measure => simp [intOf]
    · have hI := HI.out
      have hK := HK.out
      clear HI HK
      go_wp2_with (go_at_call 118; refine (Tryd.Buffer_WriteByte_kept B b _ _ wr hI (Nat.le_trans hB hK.size) (cells_one _) (cells_len l x 4 3 hl (by omega))).mono ?_; rintro e w1 ⟨rfl, hI1, hb1, hk1⟩; have HI1 := Aside0.mk hI1; have HK1 := Aside0.mk (hK.trans ⟨hb1, hk1⟩); clear hI1 hb1 hk1 hI hK)
      go_roundw
      case rel => exact ⟨4, by omega, by go_num, ⟨Bf.step (k := 3) HI1.out (by omega) (by first | rfl | (show _ = x / 1 % 256; rw [IntKind.wrap_u64]; omega) | (show _ = x / 1 % 256; omega))⟩, HK1⟩
      case measure => simp [intOf]
    · go_wp2
      go_end0
      refine ⟨rfl, ?_, HK.out⟩
      have := HI.out
      rwa [List.take_of_length_le (by rw [layB_len]; exact Nat.le_refl _)] at this
set_option maxHeartbeats 4000000 in
theorem lay_int1 (B b : Nat) (l : List UInt8) (x : Int) (w : World) (h : Bf B b l w) (hB : B ≤ w.heap.size) (hl : l.length + 1 ≤ 140737488355328) :
    Calls Tryd.prog 84 #[.pointer (some ⟨b, 0, none⟩), .int .i64 x, .int .i64 1] w fun e w' => e = .returned (.tuple #[]) ∧ Bf B b (l ++ layB x 1) w' ∧ Kp B b w w' := by
  have H0 := Aside0.mk h
  clear h
  go_enter Tryd.func84, Tryd.ntmps84
  go_wp2
  go_loopw [8] (fun i wr => ∃ k : Nat, k ≤ 1 ∧ i = .int .i64 k ∧ Aside0 (Bf B b (l ++ (layB x 1).take k) wr) ∧ Aside0 (Kp B b w wr)) (fun i _ => 1 - (intOf i).toNat)
  case atStart => exact ⟨0, Nat.zero_le _, rfl, ⟨by rw [List.take_zero, List.append_nil]; exact H0.out⟩, ⟨Kp.refl _ _ _⟩⟩
  case round =>
    obtain ⟨k, hk, rfl, HI, HK⟩ := hrel
    have h' : k = 0 ∨ k = 1 := by omega
    rcases h' with rfl | rfl
    · have hI := HI.out
      have hK := HK.out
      clear HI HK
      go_wp2_with (go_at_call 118; refine (Tryd.Buffer_WriteByte_kept B b _ _ wr hI (Nat.le_trans hB hK.size) (cells_one _) (cells_len l x 1 0 hl (by omega))).mono ?_; rintro e w1 ⟨rfl, hI1, hb1, hk1⟩; have HI1 := Aside0.mk hI1; have HK1 := Aside0.mk (hK.trans ⟨hb1, hk1⟩); clear hI1 hb1 hk1 hI hK)
      go_roundw
      case rel => exact ⟨1, by omega, by go_num, ⟨Bf.step (k := 0) HI1.out (by omega) (by first | rfl | (show _ = x / 1 % 256; rw [IntKind.wrap_u64]; omega) | (show _ = x / 1 % 256; omega))⟩, HK1⟩
      case measure => simp [intOf]
    · go_wp2
      go_end0
      refine ⟨rfl, ?_, HK.out⟩
      have := HI.out
      rwa [List.take_of_length_le (by rw [layB_len]; exact Nat.le_refl _)] at this
set_option maxHeartbeats 4000000 in
theorem lay_int4 (B b : Nat) (l : List UInt8) (x : Int) (w : World) (h : Bf B b l w) (hB : B ≤ w.heap.size) (hl : l.length + 4 ≤ 140737488355328) :
    Calls Tryd.prog 84 #[.pointer (some ⟨b, 0, none⟩), .int .i64 x, .int .i64 4] w fun e w' => e = .returned (.tuple #[]) ∧ Bf B b (l ++ layB x 4) w' ∧ Kp B b w w' := by
  have H0 := Aside0.mk h
  clear h
  go_enter Tryd.func84, Tryd.ntmps84
  go_wp2
  go_loopw [8] (fun i wr => ∃ k : Nat, k ≤ 4 ∧ i = .int .i64 k ∧ Aside0 (Bf B b (l ++ (layB x 4).take k) wr) ∧ Aside0 (Kp B b w wr)) (fun i _ => 4 - (intOf i).toNat)
  case atStart => exact ⟨0, Nat.zero_le _, rfl, ⟨by rw [List.take_zero, List.append_nil]; exact H0.out⟩, ⟨Kp.refl _ _ _⟩⟩
  case round =>
    obtain ⟨k, hk, rfl, HI, HK⟩ := hrel
    have h' : k = 0 ∨ k = 1 ∨ k = 2 ∨ k = 3 ∨ k = 4 := by omega
    rcases h' with rfl | rfl | rfl | rfl | rfl
    · have hI := HI.out
      have hK := HK.out
      clear HI HK
      go_wp2_with (go_at_call 118; refine (Tryd.Buffer_WriteByte_kept B b _ _ wr hI (Nat.le_trans hB hK.size) (cells_one _) (cells_len l x 4 0 hl (by omega))).mono ?_; rintro e w1 ⟨rfl, hI1, hb1, hk1⟩; have HI1 := Aside0.mk hI1; have HK1 := Aside0.mk (hK.trans ⟨hb1, hk1⟩); clear hI1 hb1 hk1 hI hK)
      go_roundw
      case rel => exact ⟨1, by omega, by go_num, ⟨Bf.step (k := 0) HI1.out (by omega) (by first | rfl | (show _ = x / 16777216 % 256; rw [IntKind.wrap_u64]; omega) | (show _ = x / 16777216 % 256; omega))⟩, HK1⟩
      case measure => simp [intOf]
    · have hI := HI.out
      have hK := HK.out
      clear HI HK
      go_wp2_with (go_at_call 118; refine (Tryd.Buffer_WriteByte_kept B b _ _ wr hI (Nat.le_trans hB hK.size) (cells_one _) (cells_len l x 4 1 hl (by omega))).mono ?_; rintro e w1 ⟨rfl, hI1, hb1, hk1⟩; have HI1 := Aside0.mk hI1; have HK1 := Aside0.mk (hK.trans ⟨hb1, hk1⟩); clear hI1 hb1 hk1 hI hK)
      go_roundw
      case rel => exact ⟨2, by omega, by go_num, ⟨Bf.step (k := 1) HI1.out (by omega) (by first | rfl | (show _ = x / 65536 % 256; rw [IntKind.wrap_u64]; omega) | (show _ = x / 65536 % 256; omega))⟩, HK1⟩
      case measure => simp [intOf]
    · have hI := HI.out
      have hK := HK.out
      clear HI HK
      go_wp2_with (go_at_call 118; refine (Tryd.Buffer_WriteByte_kept B b _ _ wr hI (Nat.le_trans hB hK.size) (cells_one _) (cells_len l x 4 2 hl (by omega))).mono ?_; rintro e w1 ⟨rfl, hI1, hb1, hk1⟩; have HI1 := Aside0.mk hI1; have HK1 := Aside0.mk (hK.trans ⟨hb1, hk1⟩); clear hI1 hb1 hk1 hI hK)
      go_roundw
      case rel => exact ⟨3, by omega, by go_num, ⟨Bf.step (k := 2) HI1.out (by omega) (by first | rfl | (show _ = x / 256 % 256; rw [IntKind.wrap_u64]; omega) | (show _ = x / 256 % 256; omega))⟩, HK1⟩
      case measure => simp [intOf]
    · have hI := HI.out
      have hK := HK.out
      clear HI HK
      go_wp2_with (go_at_call 118; refine (Tryd.Buffer_WriteByte_kept B b _ _ wr hI (Nat.le_trans hB hK.size) (cells_one _) (cells_len l x 4 3 hl (by omega))).mono ?_; rintro e w1 ⟨rfl, hI1, hb1, hk1⟩; have HI1 := Aside0.mk hI1; have HK1 := Aside0.mk (hK.trans ⟨hb1, hk1⟩); clear hI1 hb1 hk1 hI hK)
      go_roundw
      case rel => exact ⟨4, by omega, by go_num, ⟨Bf.step (k := 3) HI1.out (by omega) (by first | rfl | (show _ = x / 1 % 256; rw [IntKind.wrap_u64]; omega) | (show _ = x / 1 % 256; omega))⟩, HK1⟩
      case measure => simp [intOf]
    · go_wp2
      go_end0
      refine ⟨rfl, ?_, HK.out⟩
      have := HI.out
      rwa [List.take_of_length_le (by rw [layB_len]; exact Nat.le_refl _)] at this
set_option maxHeartbeats 4000000 in
theorem lay_i64 (B b : Nat) (l : List UInt8) (x : Int) (w : World) (h : Bf B b l w) (hB : B ≤ w.heap.size) (hl : l.length + 8 ≤ 140737488355328) :
    Calls Tryd.prog 119 #[.pointer (some ⟨b, 0, none⟩), .int .i64 x, .int .i64 8] w fun e w' => e = .returned (.tuple #[]) ∧ Bf B b (l ++ layB x 8) w' ∧ Kp B b w w' := by
  have H0 := Aside0.mk h
  clear h
  go_enter Tryd.func119, Tryd.ntmps119
  go_wp2
  go_loopw [8] (fun i wr => ∃ k : Nat, k ≤ 8 ∧ i = .int .i64 k ∧ Aside0 (Bf B b (l ++ (layB x 8).take k) wr) ∧ Aside0 (Kp B b w wr)) (fun i _ => 8 - (intOf i).toNat)
  case atStart => exact ⟨0, Nat.zero_le _, rfl, ⟨by rw [List.take_zero, List.append_nil]; exact H0.out⟩, ⟨Kp.refl _ _ _⟩⟩
  case round =>
    obtain ⟨k, hk, rfl, HI, HK⟩ := hrel
    have h' : k = 0 ∨ k = 1 ∨ k = 2 ∨ k = 3 ∨ k = 4 ∨ k = 5 ∨ k = 6 ∨ k = 7 ∨ k = 8 := by omega
    rcases h' with rfl | rfl | rfl | rfl | rfl | rfl | rfl | rfl | rfl
    · have hI := HI.out
      have hK := HK.out
      clear HI HK
      go_wp2_with (go_at_call 118; refine (Tryd.Buffer_WriteByte_kept B b _ _ wr hI (Nat.le_trans hB hK.size) (cells_one _) (cells_len l x 8 0 hl (by omega))).mono ?_; rintro e w1 ⟨rfl, hI1, hb1, hk1⟩; have HI1 := Aside0.mk hI1; have HK1 := Aside0.mk (hK.trans ⟨hb1, hk1⟩); clear hI1 hb1 hk1 hI hK)
      go_roundw
      case rel => exact ⟨1, by omega, by go_num, ⟨Bf.step (k := 0) HI1.out (by omega) (by first | rfl | (show _ = x / 72057594037927936 % 256; rw [IntKind.wrap_u64]; omega) | (show _ = x / 72057594037927936 % 256; omega))⟩, HK1⟩
      case measure => simp [intOf]
    · have hI := HI.out
      have hK := HK.out
      clear HI HK
      go_wp2_with (go_at_call 118; refine (Tryd.Buffer_WriteByte_kept B b _ _ wr hI (Nat.le_trans hB hK.size) (cells_one _) (cells_len l x 8 1 hl (by omega))).mono ?_; rintro e w1 ⟨rfl, hI1, hb1, hk1⟩; have HI1 := Aside0.mk hI1; have HK1 := Aside0.mk (hK.trans ⟨hb1, hk1⟩); clear hI1 hb1 hk1 hI hK)
      go_roundw
      case rel => exact ⟨2, by omega, by go_num, ⟨Bf.step (k := 1) HI1.out (by omega) (by first | rfl | (show _ = x / 281474976710656 % 256; rw [IntKind.wrap_u64]; omega) | (show _ = x / 281474976710656 % 256; omega))⟩, HK1⟩
      case measure => simp [intOf]
    · have hI := HI.out
      have hK := HK.out
      clear HI HK
      go_wp2_with (go_at_call 118; refine (Tryd.Buffer_WriteByte_kept B b _ _ wr hI (Nat.le_trans hB hK.size) (cells_one _) (cells_len l x 8 2 hl (by omega))).mono ?_; rintro e w1 ⟨rfl, hI1, hb1, hk1⟩; have HI1 := Aside0.mk hI1; have HK1 := Aside0.mk (hK.trans ⟨hb1, hk1⟩); clear hI1 hb1 hk1 hI hK)
      go_roundw
      case rel => exact ⟨3, by omega, by go_num, ⟨Bf.step (k := 2) HI1.out (by omega) (by first | rfl | (show _ = x / 1099511627776 % 256; rw [IntKind.wrap_u64]; omega) | (show _ = x / 1099511627776 % 256; omega))⟩, HK1⟩
      case measure => simp [intOf]
    · have hI := HI.out
      have hK := HK.out
      clear HI HK
      go_wp2_with (go_at_call 118; refine (Tryd.Buffer_WriteByte_kept B b _ _ wr hI (Nat.le_trans hB hK.size) (cells_one _) (cells_len l x 8 3 hl (by omega))).mono ?_; rintro e w1 ⟨rfl, hI1, hb1, hk1⟩; have HI1 := Aside0.mk hI1; have HK1 := Aside0.mk (hK.trans ⟨hb1, hk1⟩); clear hI1 hb1 hk1 hI hK)
      go_roundw
      case rel => exact ⟨4, by omega, by go_num, ⟨Bf.step (k := 3) HI1.out (by omega) (by first | rfl | (show _ = x / 4294967296 % 256; rw [IntKind.wrap_u64]; omega) | (show _ = x / 4294967296 % 256; omega))⟩, HK1⟩
      case measure => simp [intOf]
    · have hI := HI.out
      have hK := HK.out
      clear HI HK
      go_wp2_with (go_at_call 118; refine (Tryd.Buffer_WriteByte_kept B b _ _ wr hI (Nat.le_trans hB hK.size) (cells_one _) (cells_len l x 8 4 hl (by omega))).mono ?_; rintro e w1 ⟨rfl, hI1, hb1, hk1⟩; have HI1 := Aside0.mk hI1; have HK1 := Aside0.mk (hK.trans ⟨hb1, hk1⟩); clear hI1 hb1 hk1 hI hK)
      go_roundw
      case rel => exact ⟨5, by omega, by go_num, ⟨Bf.step (k := 4) HI1.out (by omega) (by first | rfl | (show _ = x / 16777216 % 256; rw [IntKind.wrap_u64]; omega) | (show _ = x / 16777216 % 256; omega))⟩, HK1⟩
      case measure => simp [intOf]
    · have hI := HI.out
      have hK := HK.out
      clear HI HK
      go_wp2_with (go_at_call 118; refine (Tryd.Buffer_WriteByte_kept B b _ _ wr hI (Nat.le_trans hB hK.size) (cells_one _) (cells_len l x 8 5 hl (by omega))).mono ?_; rintro e w1 ⟨rfl, hI1, hb1, hk1⟩; have HI1 := Aside0.mk hI1; have HK1 := Aside0.mk (hK.trans ⟨hb1, hk1⟩); clear hI1 hb1 hk1 hI hK)
      go_roundw
      case rel => exact ⟨6, by omega, by go_num, ⟨Bf.step (k := 5) HI1.out (by omega) (by first | rfl | (show _ = x / 65536 % 256; rw [IntKind.wrap_u64]; omega) | (show _ = x / 65536 % 256; omega))⟩, HK1⟩
      case measure => simp [intOf]
    · have hI := HI.out
      have hK := HK.out
      clear HI HK
      go_wp2_with (go_at_call 118; refine (Tryd.Buffer_WriteByte_kept B b _ _ wr hI (Nat.le_trans hB hK.size) (cells_one _) (cells_len l x 8 6 hl (by omega))).mono ?_; rintro e w1 ⟨rfl, hI1, hb1, hk1⟩; have HI1 := Aside0.mk hI1; have HK1 := Aside0.mk (hK.trans ⟨hb1, hk1⟩); clear hI1 hb1 hk1 hI hK)
      go_roundw
      case rel => exact ⟨7, by omega, by go_num, ⟨Bf.step (k := 6) HI1.out (by omega) (by first | rfl | (show _ = x / 256 % 256; rw [IntKind.wrap_u64]; omega) | (show _ = x / 256 % 256; omega))⟩, HK1⟩
      case measure => simp [intOf]
    · have hI := HI.out
      have hK := HK.out
      clear HI HK
      go_wp2_with (go_at_call 118; refine (Tryd.Buffer_WriteByte_kept B b _ _ wr hI (Nat.le_trans hB hK.size) (cells_one _) (cells_len l x 8 7 hl (by omega))).mono ?_; rintro e w1 ⟨rfl, hI1, hb1, hk1⟩; have HI1 := Aside0.mk hI1; have HK1 := Aside0.mk (hK.trans ⟨hb1, hk1⟩); clear hI1 hb1 hk1 hI hK)
      go_roundw
      case rel => exact ⟨8, by omega, by go_num, ⟨Bf.step (k := 7) HI1.out (by omega) (by first | rfl | (show _ = x / 1 % 256; rw [IntKind.wrap_u64]; omega) | (show _ = x / 1 % 256; omega))⟩, HK1⟩
      case measure => simp [intOf]
    · go_wp2
      go_end0
      refine ⟨rfl, ?_, HK.out⟩
      have := HI.out
      rwa [List.take_of_length_le (by rw [layB_len]; exact Nat.le_refl _)] at this
end Go.Proofs.YtbbhjceelghadaaDoor.K
end
