/- Parts of the proof, one behind the other: ReadR, CodeT, Buf, CodeL, CodeF, CodeE, K33. -/
import Derived.Test.YtbbhjceelghadaaDoorQCodeLong5
import Derived.Test.YtbbhjceelghadaaDoorProg
import Derived.Below
import Derived.Deep.Draws
import Derived.Deep.AppendLies
import Derived.Maps.AppendAt
import Derived.OwnWalk
import Derived.Laws.BytesArg
import Derived.Laws.MakeOwn
import Derived.Laws.OwnMore
import Derived.Deep.OwnRows
import Derived.Tactics
import Derived.Lib.ConvBytes
import Derived.Laws.Slices
import Derived.WalkKit
import Derived.KernelRfl
import Derived.RowKit3
import Derived.Deep.LoopGhost
import Derived.Deep.QuietTactic
import Derived.BigQuiet
import Derived.WideLaws
import Derived.Deep.DeepCutAuto
import Derived.Deep.CutBlock
import Derived.Deep.RegionHeld3
import Derived.Laws.Rows
import Derived.Lib.AppendStr
import Derived.ArgAppend
import Derived.Laws.IdiomCopy
import Derived.OrdersHeld
import Derived.Laws.BitsLemmas
import Derived.RowKit
import Derived.WalkSpells
import Derived.WalkLawsBesides
import Derived.RegionTactic
import Derived.ChangeAlike
import Derived.Lib.Hide
import Derived.Lib.SlBytesConst
import Derived.Shelf.Abstract
import Derived.Lib.BufferMore
import Derived.Deep.WholeRow
import Derived.Laws.Tables
import Derived.Laws.StructEq
import Derived.Recover
import Derived.Defers
import Derived.Shelf.LaysM
import Derived.Shelf.Bytes.Len
import Derived.Shelf.Bytes.TryGrow
import Derived.Shelf.Bytes.GrowSliceCatch
import Derived.Shelf.Bytes.GrowSlice
import Derived.Shelf.Bytes.Bytes
import Derived.Shelf.Bytes.GrowRow0Kept
import Derived.Shelf.Bytes.GrowRowKept
import Derived.Shelf.Bytes.GrowNilKept
import Derived.Shelf.Bytes.GrowKept
import Derived.Shelf.Bytes.WriteByteKept
import Derived.Shelf.Bytes.LenAt
import Derived.Shelf.Bytes.TryGrowAt
import Derived.Shelf.Bytes.GrowRow0At
import Derived.Shelf.Bytes.GrowRowAt
import Derived.Shelf.Bytes.GrowNilAt
import Derived.Shelf.Bytes.GrowAt
import Derived.Shelf.Bytes.WriteAt
import Derived.Ground.SlbCloneProg
import Derived.Shelf.Bytes.SlClone
import Derived.Lib.OthersKept
import Derived.Lib.BufferKept
import Derived.Lib.BufferWrite
set_option linter.unusedVariables false
set_option linter.unusedSimpArgs false
section
-- from ReadR
namespace Go.Proofs.YtbbhjceelghadaaDoor.K
open Go Go.RowKit Go.Proofs.YtbbhjceelghadaaDoorW.PrintWords Go.Proofs.YtbbhjceelghadaaDoorW.PrintLast Go.Proofs.YtbbhjceelghadaaDoorW.PrintMore Go.Proofs.YtbbhjceelghadaaDoor.My
theorem num_some (s : Nat) (S : Int) (hS : S = s) (hs8 : s ≤ 8) {g : Nat} {l r : List UInt8} {x : Int} {w0 w : World} (h : Rd w0 w g l) (hb : Below w0.heap.size w0 w) (hp : intP s l = some (x, r)) :
    ∃ m : Nat, x = (m : Int) ∧ m < 256 ^ s ∧ r.length + s = l.length ∧ Calls Tryd.prog 141 #[.pointer (some ⟨g, 0, none⟩), .int .i64 S] w fun e w' => e = .returned (.int .u64 (m : Int)) ∧ Rd w0 w' g r ∧ w.grownBy w' (some g) := by
  obtain ⟨h1, h2, h3⟩ := intP_some hp
  refine ⟨numB (l.take s), h2, ?_, ?_, ?_⟩
  · have := numB_lt (l.take s)
    rwa [List.length_take, Nat.min_eq_left h1] at this
  · rw [h3, List.length_drop]; omega
  · rw [h3]; exact number_ok s S hS hs8 g l w0 w h hb h1
theorem recP_none1 {l : List UInt8} (h : intP 1 l = none) : recP l = none := by unfold recP; rw [h]; rfl
theorem recP_none2 {l r : List UInt8} {x : Int} (h : intP 1 l = some (x, r)) (h1 : intP 4 r = none) : recP l = none := by unfold recP; rw [h]; simp only [Option.bind_some]; rw [h1]; rfl
theorem recP_some {l r r1 : List UInt8} {x y : Int} (h : intP 1 l = some (x, r)) (h1 : intP 4 r = some (y, r1)) : recP l = bodyP x y r1 := by unfold recP; rw [h]; simp only [Option.bind_some]; rw [h1]; rfl
theorem short_nodes : Short nodesP := fun l x r h => by
  unfold nodesP at h
  obtain ⟨⟨n, r1⟩, h1, h⟩ := Option.bind_eq_some_iff.1 h
  have a := (many_len h1 (by omega)).1
  have b := short_rep (short_int 1) n _ _ _ h
  simp only at a b
  omega
theorem short_spans : Short spansP := fun l x r h => by
  unfold spansP at h
  obtain ⟨⟨n, r1⟩, h1, h⟩ := Option.bind_eq_some_iff.1 h
  have a := (many_len h1 (by omega)).1
  have b := short_rep (p := spanP) (fun l x r h => by
    unfold spanP at h
    obtain ⟨⟨x1, r1⟩, h1, h⟩ := Option.bind_eq_some_iff.1 h
    obtain ⟨⟨x2, r2⟩, h2, h⟩ := Option.bind_eq_some_iff.1 h
    injection h with h
    injection h with e1 e2
    subst e2
    have a := short_int 4 _ _ _ h1
    have b := short_int 1 _ _ _ h2
    exact Nat.le_trans b a) n _ _ _ h
  simp only at a b
  omega
theorem short_entries : Short entriesP := fun l x r h => by
  unfold entriesP at h
  obtain ⟨⟨n, r1⟩, h1, h⟩ := Option.bind_eq_some_iff.1 h
  have a := (many_len h1 (by omega)).1
  have b := short_rep (p := entryP) (fun l x r h => by
    unfold entryP at h
    obtain ⟨⟨x1, r1⟩, h1, h⟩ := Option.bind_eq_some_iff.1 h
    obtain ⟨⟨x2, r2⟩, h2, h⟩ := Option.bind_eq_some_iff.1 h
    injection h with h
    injection h with e1 e2
    subst e2
    have a := short_int 4 _ _ _ h1
    have b := short_facts _ _ _ h2
    exact Nat.le_trans b a) n _ _ _ h
  simp only at a b
  omega
theorem grown_row (w : World) (b : Nat) (cs : Array Value) : w.grownBy (w.setRow b cs) (some b) := ⟨rfl, rfl, rfl, by simp, fun k _ hne => setRow_other w b k cs (fun e => hne (by rw [e]))⟩
/-- What is known between two steps: the reader, what has grown, the record's block, the result's. -/
structure RInv (w0 w W : World) (g b : Nat) (r : List UInt8) (cs : Array Value) : Prop where
  rd : Rd w0 W g r
  gr : w.grownBy W (some g)
  bl : Below w0.heap.size w0 W
  x : W.heap[b]? = some (.cells cs 57 (0, 0))
  res : W.heap[w.heap.size]? = some (.cells #[.int .u8 0, .int .u32 0, .int .u32 0, .slice none 0 0, .slice none 0 0, .int .u32 0, .slice none 0 0, .int .i64 0, .int .i64 0, .slice none 0 0] 57 (0, 0))
  lt : g < w.heap.size
  le : w.heap.size < b
  small : (r.length : Int) ≤ 100000
  hg : w0.heap.size ≤ g
theorem RInv.call {w0 w W W' : World} {g b : Nat} {r r' : List UInt8} {cs : Array Value} (h : RInv w0 w W g b r cs) (hR : Rd w0 W' g r') (hG : W.grownBy W' (some g)) (hl : r'.length ≤ r.length) : RInv w0 w W' g b r' cs :=
  ⟨hR, grown_trans h.gr hG, below_grown h.bl hG h.hg (Nat.le_refl _), (hG.block b (blk_lt h.x) (fun e => by injection e with e; have := h.lt; have := h.le; omega)).trans h.x, (hG.block _ (blk_lt h.res) (fun e => by injection e with e; have := h.lt; omega)).trans h.res, h.lt, h.le, by have := h.small; omega, h.hg⟩
theorem RInv.store {w0 w W : World} {g b : Nat} {r : List UInt8} {cs : Array Value} (h : RInv w0 w W g b r cs) (cs' : Array Value) : RInv w0 w (W.setRow b cs') g b r cs' := by
  have h1 := h.lt
  have h2 := h.le
  have h3 := h.hg
  refine ⟨Rd.grown h.rd (grown_row W b cs') (fun e => by injection e with e; omega), grown_new h.gr (grown_row W b cs') (by omega), below_grown h.bl (grown_row W b cs') (by omega) (Nat.le_refl _), setRow_heap W b cs cs' _ _ h.x, ?_, h1, h2, h.small, h3⟩
  rw [setRow_other W b _ cs' (by omega)]
  exact h.res
theorem RInv.fin {w0 w W : World} {g b : Nat} {r : List UInt8} {cs : Array Value} (h : RInv w0 w W g b r cs) (cs' : Array Value) : w.grownBy (W.setRow w.heap.size cs') (some g) ∧ Rd w0 (W.setRow w.heap.size cs') g r :=
  ⟨grown_new h.gr (grown_row W _ cs') (Nat.le_refl _), Rd.grown h.rd (grown_row W _ cs') (fun e => by injection e with e; have := h.lt; omega)⟩
theorem RInv.fresh {w0 w W : World} {g b : Nat} {r : List UInt8} {cs : Array Value} (h : RInv w0 w W g b r cs) : b < W.heap.size := blk_lt h.x
/-- What a record is, read. -/
def RecV (base : Nat) (x : SRec) (v : Value) (w' : World) : Prop :=
  ∃ v3 v4 v6 v9, v = .agg #[.int .u8 x.f0, .int .u32 x.f1, .int .u32 x.f2, v3, v4, .int .u32 x.f5.f0, v6, .int .i64 x.f6, .int .i64 x.f7, v9] ∧
    Kd.R (Kd.int .i64) 3 w' base (fun _ => True) v3 x.f3 ∧ Kd.R k76 76 w' base (fun k => some k ≠ v3.ownBlock) v4 x.f4 ∧
    Kd.R k132 132 w' base (fun _ => True) v6 x.f5.f1 ∧ Kd.R k124 124 w' base (fun k => some k ≠ v3.ownBlock ∧ some k ≠ v4.ownBlock) v9 x.f8
theorem built_rec (a b : Int) : (Tryd.prog).built 57 (#[(0, .int .u8 a), (1, .int .u32 b)] : Array (Nat × Value)).toList = some #[.int .u8 a, .int .u32 b, .int .u32 0, .slice none 0 0, .slice none 0 0, .int .u32 0, .slice none 0 0, .int .i64 0, .int .i64 0, .slice none 0 0] := by kernel_rfl
section
variable {w : World} {b : Nat} {c0 c1 c2 c3 c4 c5 c6 c7 c8 c9 : Value}
theorem ld_kind (h : w.heap[b]? = some (.cells #[c0, c1, c2, c3, c4, c5, c6, c7, c8, c9] 57 (0, 0))) : (Instr.loadAt 5 (.pointer (some ⟨b, 0, none⟩))).run Tryd.prog w = .ok c0 w := by
  have z0 : w.cell? ⟨b, 0, none⟩ = some c0 := (blk_cell h 0).trans rfl
  simp [go_sem, z0]
theorem st_2 (x : Int) (h : w.heap[b]? = some (.cells #[c0, c1, c2, c3, c4, c5, c6, c7, c8, c9] 57 (0, 0))) : (Instr.storeAt 49 (.pointer (some ⟨b, 2, none⟩)) (.int .u32 x)).run Tryd.prog w = .ok () (w.setRow b #[c0, c1, .int .u32 x, c3, c4, c5, c6, c7, c8, c9]) := by
  have z : w.cell? ⟨b, 2, none⟩ = some c2 := (blk_cell h 2).trans rfl
  have y : w.frozen? ⟨b, 2, none⟩ = false := blk_frozen h 2
  rw [show w.setRow b #[c0, c1, .int .u32 x, c3, c4, c5, c6, c7, c8, c9] = w.setCell ⟨b, 2, none⟩ (.int .u32 x) from (setCell_eq_setRow w b 2 _ _ _ (.int .u32 x) h).symm]
  simp [go_sem, z, y]
theorem st_3 (A : Option Addr) (n c : Nat) (h : w.heap[b]? = some (.cells #[c0, c1, c2, c3, c4, c5, c6, c7, c8, c9] 57 (0, 0))) : (Instr.storeAt 50 (.pointer (some ⟨b, 3, none⟩)) (.slice A n c)).run Tryd.prog w = .ok () (w.setRow b #[c0, c1, c2, .slice A n c, c4, c5, c6, c7, c8, c9]) := by
  have z : w.cell? ⟨b, 3, none⟩ = some c3 := (blk_cell h 3).trans rfl
  have y : w.frozen? ⟨b, 3, none⟩ = false := blk_frozen h 3
  rw [show w.setRow b #[c0, c1, c2, .slice A n c, c4, c5, c6, c7, c8, c9] = w.setCell ⟨b, 3, none⟩ (.slice A n c) from (setCell_eq_setRow w b 3 _ _ _ (.slice A n c) h).symm]
  simp [go_sem, z, y]
theorem st_4 (A : Option Addr) (n c : Nat) (h : w.heap[b]? = some (.cells #[c0, c1, c2, c3, c4, c5, c6, c7, c8, c9] 57 (0, 0))) : (Instr.storeAt 51 (.pointer (some ⟨b, 4, none⟩)) (.slice A n c)).run Tryd.prog w = .ok () (w.setRow b #[c0, c1, c2, c3, .slice A n c, c5, c6, c7, c8, c9]) := by
  have z : w.cell? ⟨b, 4, none⟩ = some c4 := (blk_cell h 4).trans rfl
  have y : w.frozen? ⟨b, 4, none⟩ = false := blk_frozen h 4
  rw [show w.setRow b #[c0, c1, c2, c3, .slice A n c, c5, c6, c7, c8, c9] = w.setCell ⟨b, 4, none⟩ (.slice A n c) from (setCell_eq_setRow w b 4 _ _ _ (.slice A n c) h).symm]
  simp [go_sem, z, y]
theorem st_5 (x : Int) (h : w.heap[b]? = some (.cells #[c0, c1, c2, c3, c4, c5, c6, c7, c8, c9] 57 (0, 0))) : (Instr.storeAt 49 (.pointer (some ⟨b, 5, none⟩)) (.int .u32 x)).run Tryd.prog w = .ok () (w.setRow b #[c0, c1, c2, c3, c4, .int .u32 x, c6, c7, c8, c9]) := by
  have z : w.cell? ⟨b, 5, none⟩ = some c5 := (blk_cell h 5).trans rfl
  have y : w.frozen? ⟨b, 5, none⟩ = false := blk_frozen h 5
  rw [show w.setRow b #[c0, c1, c2, c3, c4, .int .u32 x, c6, c7, c8, c9] = w.setCell ⟨b, 5, none⟩ (.int .u32 x) from (setCell_eq_setRow w b 5 _ _ _ (.int .u32 x) h).symm]
  simp [go_sem, z, y]
theorem st_6 (A : Option Addr) (n c : Nat) (h : w.heap[b]? = some (.cells #[c0, c1, c2, c3, c4, c5, c6, c7, c8, c9] 57 (0, 0))) : (Instr.storeAt 52 (.pointer (some ⟨b, 6, none⟩)) (.slice A n c)).run Tryd.prog w = .ok () (w.setRow b #[c0, c1, c2, c3, c4, c5, .slice A n c, c7, c8, c9]) := by
  have z : w.cell? ⟨b, 6, none⟩ = some c6 := (blk_cell h 6).trans rfl
  have y : w.frozen? ⟨b, 6, none⟩ = false := blk_frozen h 6
  rw [show w.setRow b #[c0, c1, c2, c3, c4, c5, .slice A n c, c7, c8, c9] = w.setCell ⟨b, 6, none⟩ (.slice A n c) from (setCell_eq_setRow w b 6 _ _ _ (.slice A n c) h).symm]
  simp [go_sem, z, y]
theorem st_7 (x : Int) (h : w.heap[b]? = some (.cells #[c0, c1, c2, c3, c4, c5, c6, c7, c8, c9] 57 (0, 0))) : (Instr.storeAt 3 (.pointer (some ⟨b, 7, none⟩)) (.int .i64 x)).run Tryd.prog w = .ok () (w.setRow b #[c0, c1, c2, c3, c4, c5, c6, .int .i64 x, c8, c9]) := by
  have z : w.cell? ⟨b, 7, none⟩ = some c7 := (blk_cell h 7).trans rfl
  have y : w.frozen? ⟨b, 7, none⟩ = false := blk_frozen h 7
  rw [show w.setRow b #[c0, c1, c2, c3, c4, c5, c6, .int .i64 x, c8, c9] = w.setCell ⟨b, 7, none⟩ (.int .i64 x) from (setCell_eq_setRow w b 7 _ _ _ (.int .i64 x) h).symm]
  simp [go_sem, z, y]
theorem st_8 (x : Int) (h : w.heap[b]? = some (.cells #[c0, c1, c2, c3, c4, c5, c6, c7, c8, c9] 57 (0, 0))) : (Instr.storeAt 3 (.pointer (some ⟨b, 8, none⟩)) (.int .i64 x)).run Tryd.prog w = .ok () (w.setRow b #[c0, c1, c2, c3, c4, c5, c6, c7, .int .i64 x, c9]) := by
  have z : w.cell? ⟨b, 8, none⟩ = some c8 := (blk_cell h 8).trans rfl
  have y : w.frozen? ⟨b, 8, none⟩ = false := blk_frozen h 8
  rw [show w.setRow b #[c0, c1, c2, c3, c4, c5, c6, c7, .int .i64 x, c9] = w.setCell ⟨b, 8, none⟩ (.int .i64 x) from (setCell_eq_setRow w b 8 _ _ _ (.int .i64 x) h).symm]
  simp [go_sem, z, y]
theorem st_9 (A : Option Addr) (n c : Nat) (h : w.heap[b]? = some (.cells #[c0, c1, c2, c3, c4, c5, c6, c7, c8, c9] 57 (0, 0))) : (Instr.storeAt 55 (.pointer (some ⟨b, 9, none⟩)) (.slice A n c)).run Tryd.prog w = .ok () (w.setRow b #[c0, c1, c2, c3, c4, c5, c6, c7, c8, .slice A n c]) := by
  have z : w.cell? ⟨b, 9, none⟩ = some c9 := (blk_cell h 9).trans rfl
  have y : w.frozen? ⟨b, 9, none⟩ = false := blk_frozen h 9
  rw [show w.setRow b #[c0, c1, c2, c3, c4, c5, c6, c7, c8, .slice A n c] = w.setCell ⟨b, 9, none⟩ (.slice A n c) from (setCell_eq_setRow w b 9 _ _ _ (.slice A n c) h).symm]
  simp [go_sem, z, y]
end
theorem ld_rec {w : World} {b : Nat} {cs : Array Value} (h : w.heap[b]? = some (.cells cs 57 (0, 0))) (hs : cs.size = 10) : (Instr.loadAt 57 (.pointer (some ⟨b, 0, none⟩))).run Tryd.prog w = .ok (.agg cs) w := by
  simp only [Instr.loadAt, Instr.sureAddr, Sem.run_bind, Sem.run_pure, Result.andThen]
  exact run_loadVar_row w b 57 57 cs (0, 0) _ h Tryd.underlying57 rfl (by rw [hs]; kernel_rfl)
theorem st_rec {w : World} {b : Nat} {c0 c1 c2 c3 c4 c5 c6 c7 c8 c9 : Value} {a k i : Int} {x3 x4 x6 x9 : Value} {j p q : Int} (h : w.heap[b]? = some (.cells #[c0, c1, c2, c3, c4, c5, c6, c7, c8, c9] 57 (0, 0))) (o3 : x3.oneCell' = true) (o4 : x4.oneCell' = true) (o6 : x6.oneCell' = true) (o9 : x9.oneCell' = true) :
    (Instr.storeAt 57 (.pointer (some ⟨b, 0, none⟩)) (.agg #[.int .u8 a, .int .u32 k, .int .u32 i, x3, x4, .int .u32 j, x6, .int .i64 p, .int .i64 q, x9])).run Tryd.prog w = .ok () (w.setRow b #[.int .u8 a, .int .u32 k, .int .u32 i, x3, x4, .int .u32 j, x6, .int .i64 p, .int .i64 q, x9]) := by
  simp only [Instr.storeAt, Instr.sureAddr, Sem.run_bind, Sem.run_pure, Result.andThen]
  exact run_storeVar_row w b 57 57 _ _ h (by kernel_rfl) rfl (by simp [o3, o4, o6, o9, show ∀ k n, (Value.int k n).oneCell' = true from fun _ _ => rfl])
theorem st_new (w : World) (a k : Int) : (Instr.storeAt 57 (.pointer (some ⟨w.heap.size, 0, none⟩)) (.agg #[.int .u8 a, .int .u32 k, .int .u32 0, .slice none 0 0, .slice none 0 0, .int .u32 0, .slice none 0 0, .int .i64 0, .int .i64 0, .slice none 0 0])).run Tryd.prog (w.alloc (.cells #[.int .u8 0, .int .u32 0, .int .u32 0, .slice none 0 0, .slice none 0 0, .int .u32 0, .slice none 0 0, .int .i64 0, .int .i64 0, .slice none 0 0] 57)) = .ok () (w.alloc (.cells #[.int .u8 a, .int .u32 k, .int .u32 0, .slice none 0 0, .slice none 0 0, .int .u32 0, .slice none 0 0, .int .i64 0, .int .i64 0, .slice none 0 0] 57)) :=
  run_storeAt_new (P := Tryd.prog) w 57 #[.int .u8 0, .int .u32 0, .int .u32 0, .slice none 0 0, .slice none 0 0, .int .u32 0, .slice none 0 0, .int .i64 0, .int .i64 0, .slice none 0 0] #[.int .u8 a, .int .u32 k, .int .u32 0, .slice none 0 0, .slice none 0 0, .int .u32 0, .slice none 0 0, .int .i64 0, .int .i64 0, .slice none 0 0] (by kernel_rfl) rfl (by simp [Value.oneCell'])
theorem bu_rec (w : World) (a k : Int) : (Instr.build 57 #[(0, .int .u8 a), (1, .int .u32 k)]).run Tryd.prog w = .ok (.agg #[.int .u8 a, .int .u32 k, .int .u32 0, .slice none 0 0, .slice none 0 0, .int .u32 0, .slice none 0 0, .int .i64 0, .int .i64 0, .slice none 0 0]) w := run_build w 57 _ _ (built_rec a k)
attribute [-go_sem] Instr.build Instr.storeAt Instr.loadAt
attribute [local go_sem] bu_rec st_new
set_option maxRecDepth 20000 in
set_option maxHeartbeats 16000000 in
theorem rrec_any (g : Nat) (l : List UInt8) (w0 w : World) (h : Rd w0 w g l) (hb : Below w0.heap.size w0 w) (hg : w0.heap.size ≤ g) (hm : (l.length : Int) ≤ 100000) :
    Calls Tryd.prog 125 #[.pointer (some ⟨g, 0, none⟩)] w (PP (recP l) (fun x v w' => RecV w.heap.size x v w') w0 w g) := by
  have HR := Aside0.mk h
  have HB := Aside0.mk hb
  have hlt := h.lt
  clear h hb
  obtain ⟨W, hW⟩ : ∃ W, W = w.alloc (Obj.cells #[.int .u8 0, .int .u32 0, .int .u32 0, .slice none 0 0, .slice none 0 0, .int .u32 0, .slice none 0 0, .int .i64 0, .int .i64 0, .slice none 0 0] 57) := ⟨_, rfl⟩
  have HW := Aside0.mk hW
  have HG := Aside0.mk (show w.grownBy W (some g) from by rw [hW]; exact grown_below (below_alloc (Below.refl _ _) _))
  have HR1 := Aside0.mk (Rd.grown HR.out (row := none) (show w.grownBy W none from by rw [hW]; exact grown_below (below_alloc (Below.refl _ _) _)) (by simp))
  have HB1 := Aside0.mk (below_grown HB.out HG.out hg (Nat.le_refl _))
  have HX := Aside0.mk (show W.heap[w.heap.size]? = some (.cells #[.int .u8 0, .int .u32 0, .int .u32 0, .slice none 0 0, .slice none 0 0, .int .u32 0, .slice none 0 0, .int .i64 0, .int .i64 0, .slice none 0 0] 57 (0, 0)) from by rw [hW]; exact heap_new' rfl)
  have HG0 := Aside0.mk hg
  clear HR hW hg
  cases hp1 : intP 1 l with
  | none =>
    have hcall := number_short 1 1 rfl g l w0 W HR1.out (intP_none hp1)
    have HN := Aside0.mk (recP_none1 hp1)
    clear hp1
    go_enter Tryd.func125, Tryd.ntmps125
    go_wp2_with fail
    rw [← HW.out]
    refine hcall.mono ?_
    rintro e w1 ⟨rfl, hG⟩
    go_wp2
    exact ⟨rfl, grown_trans HG.out hG, .inr ⟨HN.out, rfl⟩⟩
  | some x =>
    obtain ⟨k, r1⟩ := x
    obtain ⟨m1, rfl, hm1, hl1, hcall1⟩ := num_some 1 1 rfl (by omega) HR1.out HB1.out hp1
    have hmm1 : (m1 : Int) < 256 := by omega
    cases hp2 : intP 4 r1 with
    | none =>
      have HN := Aside0.mk (recP_none2 hp1 hp2)
      clear hp1
      go_enter Tryd.func125, Tryd.ntmps125
      go_wp2_with fail
      rw [← HW.out]
      refine hcall1.mono ?_
      rintro e w1 ⟨rfl, hR, hG⟩
      go_wp2_with fail
      refine (number_short 4 4 rfl g r1 w0 w1 hR (intP_none hp2)).mono ?_
      rintro e w2 ⟨rfl, hG2⟩
      clear hp2
      go_wp2
      exact ⟨rfl, grown_trans (grown_trans HG.out hG) hG2, .inr ⟨HN.out, rfl⟩⟩
    | some y =>
      obtain ⟨y, r2⟩ := y
      have HN := Aside0.mk (recP_some hp1 hp2)
      clear hp1
      go_enter Tryd.func125, Tryd.ntmps125
      go_wp2_with fail
      rw [← HW.out]
      refine hcall1.mono ?_
      rintro e w1 ⟨rfl, hR, hG⟩
      obtain ⟨m2, rfl, hm2, hl2, hcall2⟩ := num_some 4 4 rfl (by omega) hR (below_grown HB1.out hG HG0.out (Nat.le_refl _)) hp2
      have hmm2 : True → (m2 : Int) % 4294967296 = (m2 : Int) := fun _ => by omega
      have hr2 := Aside0.mk (show (r2.length : Int) ≤ 100000 from by omega)
      go_wp2_with fail
      refine hcall2.mono ?_
      rintro e w2 ⟨rfl, hR2, hG2⟩
      have HI := Aside0.mk (show RInv w0 w (w2.alloc (.cells #[.int .u8 (m1 : Int), .int .u32 (m2 : Int), .int .u32 0, .slice none 0 0, .slice none 0 0, .int .u32 0, .slice none 0 0, .int .i64 0, .int .i64 0, .slice none 0 0] 57)) g w2.heap.size r2 #[.int .u8 (m1 : Int), .int .u32 (m2 : Int), .int .u32 0, .slice none 0 0, .slice none 0 0, .int .u32 0, .slice none 0 0, .int .i64 0, .int .i64 0, .slice none 0 0] from by
        have hgt := grown_trans (grown_trans HG.out hG) hG2
        have hx2 := (hG2.block _ (Nat.lt_of_lt_of_le (blk_lt HX.out) hG.size) (fun e => by injection e with e; omega)).trans ((hG.block _ (blk_lt HX.out) (fun e => by injection e with e; omega)).trans HX.out)
        refine ⟨Rd.grown hR2 (row := none) (grown_below (below_alloc (Below.refl _ _) _)) (by simp), grown_trans hgt (grown_below (below_alloc (Below.refl _ _) _)), below_grown (g := g) HB.out (grown_trans hgt (grown_below (below_alloc (Below.refl _ _) _))) HG0.out (Nat.le_refl _), heap_new' rfl, ?_, hlt, blk_lt hx2, hr2.out, HG0.out⟩
        exact heap_old' hx2)
      clear hp2 hcall1 hcall2 hR hG hR2 hG2 HW HR1 HB1 HG hm1 hm2 hm HX hl1 hl2 hr2 HB HG0 hlt
      have hfr := HI.out.fresh
      obtain ⟨b, hbd⟩ : ∃ b, b = w2.heap.size := ⟨_, rfl⟩
      have hld := fun (_ : True) => ld_kind HI.out.x
      clear hbd b hfr
      by_cases hk1 : (m1 : Int) = 1
      · have HBODY := Aside0.mk (show bodyP (m1 : Int) (m2 : Int) r2 = (nodesP r2).bind fun x => (factsP x.2).bind fun y => some (⟨(m1 : Int), (m2 : Int), 0, x.1, y.1, ⟨0, []⟩, 0, 0, []⟩, y.2) from by unfold bodyP; rw [if_pos hk1])
        have hka : (m1 : Int) ≤ 1 := by omega
        have hkb : 1 ≤ (m1 : Int) := by omega
        clear hk1
        go_wp2_with fail
        cases hq0 : nodesP r2 with
        | none =>
          have hF : recP l = none := by rw [HN.out, HBODY.out]; rw [hq0]; rfl
          have HF := Aside0.mk hF
          refine (rnodes_any g r2 w0 _ HI.out.rd HI.out.bl HI.out.hg HI.out.small).mono ?_
          intro e wx hpp
          obtain ⟨rfl, hG⟩ := hpp.short hq0
          clear hpp
          clear hF hq0
          go_wp2
          exact ⟨rfl, grown_trans HI.out.gr hG, .inr ⟨HF.out, rfl⟩⟩
        | some y =>
          obtain ⟨y0, s0⟩ := y
          have HQ0 := Aside0.mk hq0
          refine (rnodes_any g r2 w0 _ HI.out.rd HI.out.bl HI.out.hg HI.out.small).mono ?_
          intro e w3 hpp
          obtain ⟨v3, rfl, hv3, hR, hG⟩ := hpp.ok hq0
          have hv3 : Kd.R (Kd.int .i64) 3 _ _ _ _ _ := hv3
          obtain ⟨A3, d3, rfl⟩ := Kd.R_slice hv3
          have hl0 := short_nodes _ _ _ hq0
          clear hpp
          have HC0 := Aside0.mk (HI.out.call hR hG (by omega))
          have HV3 := Aside0.mk hv3
          have HB3 := Aside0.mk HI.out.fresh
          clear hv3
          have HD0 := Aside0.mk (HC0.out.store #[.int .u8 (m1 : Int), .int .u32 (m2 : Int), .int .u32 0, .slice A3 y0.length d3, .slice none 0 0, .int .u32 0, .slice none 0 0, .int .i64 0, .int .i64 0, .slice none 0 0])
          have HV3 := Aside0.mk (R_keep HV3.out (grown_row _ w2.heap.size #[.int .u8 (m1 : Int), .int .u32 (m2 : Int), .int .u32 0, .slice A3 y0.length d3, .slice none 0 0, .int .u32 0, .slice none 0 0, .int .i64 0, .int .i64 0, .slice none 0 0]) HB3.out)
          have hst0 := fun (_ : True) => st_3 A3 y0.length d3 HC0.out.x
          clear hR hG hq0 hl0
          go_wp2_with fail
          cases hq1 : factsP s0 with
          | none =>
            have hF : recP l = none := by rw [HN.out, HBODY.out]; rw [HQ0.out]; simp only [Option.bind_some]; rw [hq1]; rfl
            have HF := Aside0.mk hF
            refine (rfacts_any g s0 w0 _ HD0.out.rd HD0.out.bl HD0.out.hg HD0.out.small).mono ?_
            intro e wx hpp
            obtain ⟨rfl, hG⟩ := hpp.short hq1
            clear hpp
            clear hF hq1
            go_wp2
            exact ⟨rfl, grown_trans HD0.out.gr hG, .inr ⟨HF.out, rfl⟩⟩
          | some y =>
            obtain ⟨y1, s1⟩ := y
            have HQ1 := Aside0.mk hq1
            have HO3 := Aside0.mk (Kd.R_lt HV3.out)
            refine (rfacts_any g s0 w0 _ HD0.out.rd HD0.out.bl HD0.out.hg HD0.out.small).mono ?_
            intro e w4 hpp
            obtain ⟨v4, rfl, hv4, hR, hG⟩ := hpp.ok hq1
            obtain ⟨A4, d4, rfl⟩ := Kd.R_slice hv4
            have hl1 := short_facts _ _ _ hq1
            clear hpp
            have HC1 := Aside0.mk (HD0.out.call hR hG (by omega))
            have HV3 := Aside0.mk (R_keep HV3.out hG (by have := HC1.out.lt; have := HC1.out.le; have := HB3.out; omega))
            have HV4 := Aside0.mk hv4
            have HB4 := Aside0.mk HD0.out.fresh
            clear hv4
            have HD1 := Aside0.mk (HC1.out.store #[.int .u8 (m1 : Int), .int .u32 (m2 : Int), .int .u32 0, .slice A3 y0.length d3, .slice A4 y1.length d4, .int .u32 0, .slice none 0 0, .int .i64 0, .int .i64 0, .slice none 0 0])
            have HV3 := Aside0.mk (R_keep HV3.out (grown_row _ w2.heap.size #[.int .u8 (m1 : Int), .int .u32 (m2 : Int), .int .u32 0, .slice A3 y0.length d3, .slice A4 y1.length d4, .int .u32 0, .slice none 0 0, .int .i64 0, .int .i64 0, .slice none 0 0]) HB3.out)
            have HV4 := Aside0.mk (R_keep HV4.out (grown_row _ w2.heap.size #[.int .u8 (m1 : Int), .int .u32 (m2 : Int), .int .u32 0, .slice A3 y0.length d3, .slice A4 y1.length d4, .int .u32 0, .slice none 0 0, .int .i64 0, .int .i64 0, .slice none 0 0]) HB4.out)
            have hst1 := fun (_ : True) => st_4 A4 y1.length d4 HC1.out.x
            clear hR hG hq1 hl1
            have hlr := fun (_ : True) => ld_rec HD1.out.x rfl
            have hsr := fun (_ : True) => st_rec (a := (m1 : Int)) (k := (m2 : Int)) (i := 0) (x3 := .slice A3 y0.length d3) (x4 := .slice A4 y1.length d4) (j := 0) (x6 := .slice none 0 0) (p := 0) (q := 0) (x9 := .slice none 0 0) HD1.out.res rfl rfl rfl rfl
            have hlr2 := fun (_ : True) => ld_rec (setRow_heap (w4.setRow w2.heap.size #[.int .u8 (m1 : Int), .int .u32 (m2 : Int), .int .u32 0, .slice A3 y0.length d3, .slice A4 y1.length d4, .int .u32 0, .slice none 0 0, .int .i64 0, .int .i64 0, .slice none 0 0]) w.heap.size #[.int .u8 0, .int .u32 0, .int .u32 0, .slice none 0 0, .slice none 0 0, .int .u32 0, .slice none 0 0, .int .i64 0, .int .i64 0, .slice none 0 0] #[.int .u8 (m1 : Int), .int .u32 (m2 : Int), .int .u32 0, .slice A3 y0.length d3, .slice A4 y1.length d4, .int .u32 0, .slice none 0 0, .int .i64 0, .int .i64 0, .slice none 0 0] _ _ HD1.out.res) rfl
            go_wp2_with fail
            (try simp only [Exit.inBlock, Exit.then])
            refine bodyPost_ret (results_cell_row rfl _ _ w.heap.size 57 #[.int .u8 (m1 : Int), .int .u32 (m2 : Int), .int .u32 0, .slice A3 y0.length d3, .slice A4 y1.length d4, .int .u32 0, .slice none 0 0, .int .i64 0, .int .i64 0, .slice none 0 0] (0, 0) _ (by rfl) (setRow_heap _ _ _ _ _ _ HD1.out.res) Tryd.underlying57 rfl rfl) rfl ?_
            obtain ⟨hf1, hf2⟩ := HD1.out.fin #[.int .u8 (m1 : Int), .int .u32 (m2 : Int), .int .u32 0, .slice A3 y0.length d3, .slice A4 y1.length d4, .int .u32 0, .slice none 0 0, .int .i64 0, .int .i64 0, .slice none 0 0]
            refine ⟨hf1, .inl ⟨⟨(m1 : Int), (m2 : Int), 0, y0, y1, ⟨0, []⟩, 0, 0, []⟩, s1, _, ?_, rfl, ⟨_, _, _, _, rfl, ?_, ?_, ?_, ?_⟩, hf2⟩⟩
            · rw [HN.out, HBODY.out]; rw [HQ0.out]; simp only [Option.bind_some]; rw [HQ1.out]; rfl
            · have hh := R_keep HV3.out (grown_row _ w.heap.size #[.int .u8 (m1 : Int), .int .u32 (m2 : Int), .int .u32 0, .slice A3 y0.length d3, .slice A4 y1.length d4, .int .u32 0, .slice none 0 0, .int .i64 0, .int .i64 0, .slice none 0 0]) (by have := HD1.out.le; have := HB3.out; omega)
              have hle := Nat.le_of_lt (Nat.lt_trans HD1.out.le HB3.out)
              exact Kd.R_lower hh hle
            · have hh := R_keep HV4.out (grown_row _ w.heap.size #[.int .u8 (m1 : Int), .int .u32 (m2 : Int), .int .u32 0, .slice A3 y0.length d3, .slice A4 y1.length d4, .int .u32 0, .slice none 0 0, .int .i64 0, .int .i64 0, .slice none 0 0]) (by have := HD1.out.le; have := HB4.out; omega)
              have hle := Nat.le_of_lt (Nat.lt_trans HD1.out.le HB4.out)
              refine Kd.R_lower (Kd.R_mono (Kd.R_bound hh) (ok' := fun k => some k ≠ Value.ownBlock (.slice A3 y0.length d3)) (fun k hk e => ?_)) hle
              have h1 := HO3.out k e.symm
              have h2 := hk.2.1
              omega
            · exact Kd.R_nil _ _ _ _ _
            · exact Kd.R_nil _ _ _ _ _
      by_cases hk2 : (m1 : Int) = 2
      · have HBODY := Aside0.mk (show bodyP (m1 : Int) (m2 : Int) r2 = (intP 4 r2).bind fun x => (nodesP x.2).bind fun y => some (⟨(m1 : Int), (m2 : Int), x.1, y.1, [], ⟨0, []⟩, 0, 0, []⟩, y.2) from by unfold bodyP; rw [if_neg hk1]; rw [if_pos hk2])
        have hka : (m1 : Int) ≤ 2 := by omega
        have hkb : 2 ≤ (m1 : Int) := by omega
        clear hk2
        go_wp2_with fail
        cases hq0 : intP 4 r2 with
        | none =>
          have hF : recP l = none := by rw [HN.out, HBODY.out]; rw [hq0]; rfl
          have HF := Aside0.mk hF
          refine (number_short 4 4 rfl g r2 w0 _ HI.out.rd (intP_none hq0)).mono ?_
          rintro e wx ⟨rfl, hG⟩
          clear hF hq0
          go_wp2
          exact ⟨rfl, grown_trans HI.out.gr hG, .inr ⟨HF.out, rfl⟩⟩
        | some y =>
          obtain ⟨y0, s0⟩ := y
          obtain ⟨n0, hy, hn0, hl0, hcall⟩ := num_some 4 4 rfl (by omega) HI.out.rd HI.out.bl hq0
          subst hy
          have hnn0 : True → (n0 : Int) % 4294967296 = (n0 : Int) := fun _ => by omega
          have HQ0 := Aside0.mk hq0
          refine hcall.mono ?_
          rintro e w3 ⟨rfl, hR, hG⟩
          have HC0 := Aside0.mk (HI.out.call hR hG (by omega))
          have HD0 := Aside0.mk (HC0.out.store #[.int .u8 (m1 : Int), .int .u32 (m2 : Int), .int .u32 (n0 : Int), .slice none 0 0, .slice none 0 0, .int .u32 0, .slice none 0 0, .int .i64 0, .int .i64 0, .slice none 0 0])
          have hst0 := fun (_ : True) => st_2 (n0 : Int) HC0.out.x
          clear hR hG hq0 hl0 hn0 hcall
          go_wp2_with fail
          cases hq1 : nodesP s0 with
          | none =>
            have hF : recP l = none := by rw [HN.out, HBODY.out]; rw [HQ0.out]; simp only [Option.bind_some]; rw [hq1]; rfl
            have HF := Aside0.mk hF
            refine (rnodes_any g s0 w0 _ HD0.out.rd HD0.out.bl HD0.out.hg HD0.out.small).mono ?_
            intro e wx hpp
            obtain ⟨rfl, hG⟩ := hpp.short hq1
            clear hpp
            clear hF hq1
            go_wp2
            exact ⟨rfl, grown_trans HD0.out.gr hG, .inr ⟨HF.out, rfl⟩⟩
          | some y =>
            obtain ⟨y1, s1⟩ := y
            have HQ1 := Aside0.mk hq1
            refine (rnodes_any g s0 w0 _ HD0.out.rd HD0.out.bl HD0.out.hg HD0.out.small).mono ?_
            intro e w4 hpp
            obtain ⟨v3, rfl, hv3, hR, hG⟩ := hpp.ok hq1
            have hv3 : Kd.R (Kd.int .i64) 3 _ _ _ _ _ := hv3
            obtain ⟨A3, d3, rfl⟩ := Kd.R_slice hv3
            have hl1 := short_nodes _ _ _ hq1
            clear hpp
            have HC1 := Aside0.mk (HD0.out.call hR hG (by omega))
            have HV3 := Aside0.mk hv3
            have HB3 := Aside0.mk HD0.out.fresh
            clear hv3
            have HD1 := Aside0.mk (HC1.out.store #[.int .u8 (m1 : Int), .int .u32 (m2 : Int), .int .u32 (n0 : Int), .slice A3 y1.length d3, .slice none 0 0, .int .u32 0, .slice none 0 0, .int .i64 0, .int .i64 0, .slice none 0 0])
            have HV3 := Aside0.mk (R_keep HV3.out (grown_row _ w2.heap.size #[.int .u8 (m1 : Int), .int .u32 (m2 : Int), .int .u32 (n0 : Int), .slice A3 y1.length d3, .slice none 0 0, .int .u32 0, .slice none 0 0, .int .i64 0, .int .i64 0, .slice none 0 0]) HB3.out)
            have hst1 := fun (_ : True) => st_3 A3 y1.length d3 HC1.out.x
            clear hR hG hq1 hl1
            have hlr := fun (_ : True) => ld_rec HD1.out.x rfl
            have hsr := fun (_ : True) => st_rec (a := (m1 : Int)) (k := (m2 : Int)) (i := (n0 : Int)) (x3 := .slice A3 y1.length d3) (x4 := .slice none 0 0) (j := 0) (x6 := .slice none 0 0) (p := 0) (q := 0) (x9 := .slice none 0 0) HD1.out.res rfl rfl rfl rfl
            have hlr2 := fun (_ : True) => ld_rec (setRow_heap (w4.setRow w2.heap.size #[.int .u8 (m1 : Int), .int .u32 (m2 : Int), .int .u32 (n0 : Int), .slice A3 y1.length d3, .slice none 0 0, .int .u32 0, .slice none 0 0, .int .i64 0, .int .i64 0, .slice none 0 0]) w.heap.size #[.int .u8 0, .int .u32 0, .int .u32 0, .slice none 0 0, .slice none 0 0, .int .u32 0, .slice none 0 0, .int .i64 0, .int .i64 0, .slice none 0 0] #[.int .u8 (m1 : Int), .int .u32 (m2 : Int), .int .u32 (n0 : Int), .slice A3 y1.length d3, .slice none 0 0, .int .u32 0, .slice none 0 0, .int .i64 0, .int .i64 0, .slice none 0 0] _ _ HD1.out.res) rfl
            go_wp2_with fail
            (try simp only [Exit.inBlock, Exit.then])
            refine bodyPost_ret (results_cell_row rfl _ _ w.heap.size 57 #[.int .u8 (m1 : Int), .int .u32 (m2 : Int), .int .u32 (n0 : Int), .slice A3 y1.length d3, .slice none 0 0, .int .u32 0, .slice none 0 0, .int .i64 0, .int .i64 0, .slice none 0 0] (0, 0) _ (by rfl) (setRow_heap _ _ _ _ _ _ HD1.out.res) Tryd.underlying57 rfl rfl) rfl ?_
            obtain ⟨hf1, hf2⟩ := HD1.out.fin #[.int .u8 (m1 : Int), .int .u32 (m2 : Int), .int .u32 (n0 : Int), .slice A3 y1.length d3, .slice none 0 0, .int .u32 0, .slice none 0 0, .int .i64 0, .int .i64 0, .slice none 0 0]
            refine ⟨hf1, .inl ⟨⟨(m1 : Int), (m2 : Int), (n0 : Int), y1, [], ⟨0, []⟩, 0, 0, []⟩, s1, _, ?_, rfl, ⟨_, _, _, _, rfl, ?_, ?_, ?_, ?_⟩, hf2⟩⟩
            · rw [HN.out, HBODY.out]; rw [HQ0.out]; simp only [Option.bind_some]; rw [HQ1.out]; rfl
            · have hh := R_keep HV3.out (grown_row _ w.heap.size #[.int .u8 (m1 : Int), .int .u32 (m2 : Int), .int .u32 (n0 : Int), .slice A3 y1.length d3, .slice none 0 0, .int .u32 0, .slice none 0 0, .int .i64 0, .int .i64 0, .slice none 0 0]) (by have := HD1.out.le; have := HB3.out; omega)
              have hle := Nat.le_of_lt (Nat.lt_trans HD1.out.le HB3.out)
              exact Kd.R_lower hh hle
            · exact Kd.R_nil _ _ _ _ _
            · exact Kd.R_nil _ _ _ _ _
            · exact Kd.R_nil _ _ _ _ _
      by_cases hk6 : (m1 : Int) = 6
      · have HBODY := Aside0.mk (show bodyP (m1 : Int) (m2 : Int) r2 = (intP 4 r2).bind fun x => (spansP x.2).bind fun y => some (⟨(m1 : Int), (m2 : Int), 0, [], [], ⟨x.1, y.1⟩, 0, 0, []⟩, y.2) from by unfold bodyP; rw [if_neg hk1]; rw [if_neg hk2]; rw [if_pos hk6])
        have hka : (m1 : Int) ≤ 6 := by omega
        have hkb : 6 ≤ (m1 : Int) := by omega
        clear hk6
        go_wp2_with fail
        cases hq0 : intP 4 r2 with
        | none =>
          have hF : recP l = none := by rw [HN.out, HBODY.out]; rw [hq0]; rfl
          have HF := Aside0.mk hF
          refine (number_short 4 4 rfl g r2 w0 _ HI.out.rd (intP_none hq0)).mono ?_
          rintro e wx ⟨rfl, hG⟩
          clear hF hq0
          go_wp2
          exact ⟨rfl, grown_trans HI.out.gr hG, .inr ⟨HF.out, rfl⟩⟩
        | some y =>
          obtain ⟨y0, s0⟩ := y
          obtain ⟨n0, hy, hn0, hl0, hcall⟩ := num_some 4 4 rfl (by omega) HI.out.rd HI.out.bl hq0
          subst hy
          have hnn0 : True → (n0 : Int) % 4294967296 = (n0 : Int) := fun _ => by omega
          have HQ0 := Aside0.mk hq0
          refine hcall.mono ?_
          rintro e w3 ⟨rfl, hR, hG⟩
          have HC0 := Aside0.mk (HI.out.call hR hG (by omega))
          have HD0 := Aside0.mk (HC0.out.store #[.int .u8 (m1 : Int), .int .u32 (m2 : Int), .int .u32 0, .slice none 0 0, .slice none 0 0, .int .u32 (n0 : Int), .slice none 0 0, .int .i64 0, .int .i64 0, .slice none 0 0])
          have hst0 := fun (_ : True) => st_5 (n0 : Int) HC0.out.x
          clear hR hG hq0 hl0 hn0 hcall
          go_wp2_with fail
          cases hq1 : spansP s0 with
          | none =>
            have hF : recP l = none := by rw [HN.out, HBODY.out]; rw [HQ0.out]; simp only [Option.bind_some]; rw [hq1]; rfl
            have HF := Aside0.mk hF
            refine (rspans_any g s0 w0 _ HD0.out.rd HD0.out.bl HD0.out.hg HD0.out.small).mono ?_
            intro e wx hpp
            obtain ⟨rfl, hG⟩ := hpp.short hq1
            clear hpp
            clear hF hq1
            go_wp2
            exact ⟨rfl, grown_trans HD0.out.gr hG, .inr ⟨HF.out, rfl⟩⟩
          | some y =>
            obtain ⟨y1, s1⟩ := y
            have HQ1 := Aside0.mk hq1
            refine (rspans_any g s0 w0 _ HD0.out.rd HD0.out.bl HD0.out.hg HD0.out.small).mono ?_
            intro e w4 hpp
            obtain ⟨v6, rfl, hv6, hR, hG⟩ := hpp.ok hq1
            obtain ⟨A6, d6, rfl⟩ := Kd.R_slice hv6
            have hl1 := short_spans _ _ _ hq1
            clear hpp
            have HC1 := Aside0.mk (HD0.out.call hR hG (by omega))
            have HV6 := Aside0.mk hv6
            have HB6 := Aside0.mk HD0.out.fresh
            clear hv6
            have HD1 := Aside0.mk (HC1.out.store #[.int .u8 (m1 : Int), .int .u32 (m2 : Int), .int .u32 0, .slice none 0 0, .slice none 0 0, .int .u32 (n0 : Int), .slice A6 y1.length d6, .int .i64 0, .int .i64 0, .slice none 0 0])
            have HV6 := Aside0.mk (R_keep HV6.out (grown_row _ w2.heap.size #[.int .u8 (m1 : Int), .int .u32 (m2 : Int), .int .u32 0, .slice none 0 0, .slice none 0 0, .int .u32 (n0 : Int), .slice A6 y1.length d6, .int .i64 0, .int .i64 0, .slice none 0 0]) HB6.out)
            have hst1 := fun (_ : True) => st_6 A6 y1.length d6 HC1.out.x
            clear hR hG hq1 hl1
            have hlr := fun (_ : True) => ld_rec HD1.out.x rfl
            have hsr := fun (_ : True) => st_rec (a := (m1 : Int)) (k := (m2 : Int)) (i := 0) (x3 := .slice none 0 0) (x4 := .slice none 0 0) (j := (n0 : Int)) (x6 := .slice A6 y1.length d6) (p := 0) (q := 0) (x9 := .slice none 0 0) HD1.out.res rfl rfl rfl rfl
            have hlr2 := fun (_ : True) => ld_rec (setRow_heap (w4.setRow w2.heap.size #[.int .u8 (m1 : Int), .int .u32 (m2 : Int), .int .u32 0, .slice none 0 0, .slice none 0 0, .int .u32 (n0 : Int), .slice A6 y1.length d6, .int .i64 0, .int .i64 0, .slice none 0 0]) w.heap.size #[.int .u8 0, .int .u32 0, .int .u32 0, .slice none 0 0, .slice none 0 0, .int .u32 0, .slice none 0 0, .int .i64 0, .int .i64 0, .slice none 0 0] #[.int .u8 (m1 : Int), .int .u32 (m2 : Int), .int .u32 0, .slice none 0 0, .slice none 0 0, .int .u32 (n0 : Int), .slice A6 y1.length d6, .int .i64 0, .int .i64 0, .slice none 0 0] _ _ HD1.out.res) rfl
            go_wp2_with fail
            (try simp only [Exit.inBlock, Exit.then])
            refine bodyPost_ret (results_cell_row rfl _ _ w.heap.size 57 #[.int .u8 (m1 : Int), .int .u32 (m2 : Int), .int .u32 0, .slice none 0 0, .slice none 0 0, .int .u32 (n0 : Int), .slice A6 y1.length d6, .int .i64 0, .int .i64 0, .slice none 0 0] (0, 0) _ (by rfl) (setRow_heap _ _ _ _ _ _ HD1.out.res) Tryd.underlying57 rfl rfl) rfl ?_
            obtain ⟨hf1, hf2⟩ := HD1.out.fin #[.int .u8 (m1 : Int), .int .u32 (m2 : Int), .int .u32 0, .slice none 0 0, .slice none 0 0, .int .u32 (n0 : Int), .slice A6 y1.length d6, .int .i64 0, .int .i64 0, .slice none 0 0]
            refine ⟨hf1, .inl ⟨⟨(m1 : Int), (m2 : Int), 0, [], [], ⟨(n0 : Int), y1⟩, 0, 0, []⟩, s1, _, ?_, rfl, ⟨_, _, _, _, rfl, ?_, ?_, ?_, ?_⟩, hf2⟩⟩
            · rw [HN.out, HBODY.out]; rw [HQ0.out]; simp only [Option.bind_some]; rw [HQ1.out]; rfl
            · exact Kd.R_nil _ _ _ _ _
            · exact Kd.R_nil _ _ _ _ _
            · have hh := R_keep HV6.out (grown_row _ w.heap.size #[.int .u8 (m1 : Int), .int .u32 (m2 : Int), .int .u32 0, .slice none 0 0, .slice none 0 0, .int .u32 (n0 : Int), .slice A6 y1.length d6, .int .i64 0, .int .i64 0, .slice none 0 0]) (by have := HD1.out.le; have := HB6.out; omega)
              have hle := Nat.le_of_lt (Nat.lt_trans HD1.out.le HB6.out)
              exact Kd.R_lower hh hle
            · exact Kd.R_nil _ _ _ _ _
      by_cases hk7 : (m1 : Int) = 7
      · have HBODY := Aside0.mk (show bodyP (m1 : Int) (m2 : Int) r2 = (intP 4 r2).bind fun x => (intP 4 x.2).bind fun y => (entriesP y.2).bind fun z => some (⟨(m1 : Int), (m2 : Int), 0, [], [], ⟨0, []⟩, x.1, y.1, z.1⟩, z.2) from by unfold bodyP; rw [if_neg hk1]; rw [if_neg hk2]; rw [if_neg hk6]; rw [if_pos hk7])
        have hka : (m1 : Int) ≤ 7 := by omega
        have hkb : 7 ≤ (m1 : Int) := by omega
        clear hk7
        go_wp2_with fail
        cases hq0 : intP 4 r2 with
        | none =>
          have hF : recP l = none := by rw [HN.out, HBODY.out]; rw [hq0]; rfl
          have HF := Aside0.mk hF
          refine (number_short 4 4 rfl g r2 w0 _ HI.out.rd (intP_none hq0)).mono ?_
          rintro e wx ⟨rfl, hG⟩
          clear hF hq0
          go_wp2
          exact ⟨rfl, grown_trans HI.out.gr hG, .inr ⟨HF.out, rfl⟩⟩
        | some y =>
          obtain ⟨y0, s0⟩ := y
          obtain ⟨n0, hy, hn0, hl0, hcall⟩ := num_some 4 4 rfl (by omega) HI.out.rd HI.out.bl hq0
          subst hy
          have hnn0 : True → (n0 : Int) % 4294967296 = (n0 : Int) := fun _ => by omega
          have HQ0 := Aside0.mk hq0
          refine hcall.mono ?_
          rintro e w3 ⟨rfl, hR, hG⟩
          have hnw0 : True → wrap64 (n0 : Int) = (n0 : Int) := fun _ => u64_int n0 (by omega)
          have HC0 := Aside0.mk (HI.out.call hR hG (by omega))
          have HD0 := Aside0.mk (HC0.out.store #[.int .u8 (m1 : Int), .int .u32 (m2 : Int), .int .u32 0, .slice none 0 0, .slice none 0 0, .int .u32 0, .slice none 0 0, .int .i64 (n0 : Int), .int .i64 0, .slice none 0 0])
          have hst0 := fun (_ : True) => st_7 (n0 : Int) HC0.out.x
          clear hR hG hq0 hl0 hn0 hcall
          go_wp2_with fail
          cases hq1 : intP 4 s0 with
          | none =>
            have hF : recP l = none := by rw [HN.out, HBODY.out]; rw [HQ0.out]; simp only [Option.bind_some]; rw [hq1]; rfl
            have HF := Aside0.mk hF
            refine (number_short 4 4 rfl g s0 w0 _ HD0.out.rd (intP_none hq1)).mono ?_
            rintro e wx ⟨rfl, hG⟩
            clear hF hq1
            go_wp2
            exact ⟨rfl, grown_trans HD0.out.gr hG, .inr ⟨HF.out, rfl⟩⟩
          | some y =>
            obtain ⟨y1, s1⟩ := y
            obtain ⟨n1, hy, hn1, hl1, hcall⟩ := num_some 4 4 rfl (by omega) HD0.out.rd HD0.out.bl hq1
            subst hy
            have hnn1 : True → (n1 : Int) % 4294967296 = (n1 : Int) := fun _ => by omega
            have HQ1 := Aside0.mk hq1
            refine hcall.mono ?_
            rintro e w4 ⟨rfl, hR, hG⟩
            have hnw1 : True → wrap64 (n1 : Int) = (n1 : Int) := fun _ => u64_int n1 (by omega)
            have HC1 := Aside0.mk (HD0.out.call hR hG (by omega))
            have HD1 := Aside0.mk (HC1.out.store #[.int .u8 (m1 : Int), .int .u32 (m2 : Int), .int .u32 0, .slice none 0 0, .slice none 0 0, .int .u32 0, .slice none 0 0, .int .i64 (n0 : Int), .int .i64 (n1 : Int), .slice none 0 0])
            have hst1 := fun (_ : True) => st_8 (n1 : Int) HC1.out.x
            clear hR hG hq1 hl1 hn1 hcall
            go_wp2_with fail
            cases hq2 : entriesP s1 with
            | none =>
              have hF : recP l = none := by rw [HN.out, HBODY.out]; rw [HQ0.out]; simp only [Option.bind_some]; rw [HQ1.out]; simp only [Option.bind_some]; rw [hq2]; rfl
              have HF := Aside0.mk hF
              refine (rentries_any g s1 w0 _ HD1.out.rd HD1.out.bl HD1.out.hg HD1.out.small).mono ?_
              intro e wx hpp
              obtain ⟨rfl, hG⟩ := hpp.short hq2
              clear hpp
              clear hF hq2
              go_wp2
              exact ⟨rfl, grown_trans HD1.out.gr hG, .inr ⟨HF.out, rfl⟩⟩
            | some y =>
              obtain ⟨y2, s2⟩ := y
              have HQ2 := Aside0.mk hq2
              refine (rentries_any g s1 w0 _ HD1.out.rd HD1.out.bl HD1.out.hg HD1.out.small).mono ?_
              intro e w5 hpp
              obtain ⟨v9, rfl, hv9, hR, hG⟩ := hpp.ok hq2
              obtain ⟨A9, d9, rfl⟩ := Kd.R_slice hv9
              have hl2 := short_entries _ _ _ hq2
              clear hpp
              have HC2 := Aside0.mk (HD1.out.call hR hG (by omega))
              have HV9 := Aside0.mk hv9
              have HB9 := Aside0.mk HD1.out.fresh
              clear hv9
              have HD2 := Aside0.mk (HC2.out.store #[.int .u8 (m1 : Int), .int .u32 (m2 : Int), .int .u32 0, .slice none 0 0, .slice none 0 0, .int .u32 0, .slice none 0 0, .int .i64 (n0 : Int), .int .i64 (n1 : Int), .slice A9 y2.length d9])
              have HV9 := Aside0.mk (R_keep HV9.out (grown_row _ w2.heap.size #[.int .u8 (m1 : Int), .int .u32 (m2 : Int), .int .u32 0, .slice none 0 0, .slice none 0 0, .int .u32 0, .slice none 0 0, .int .i64 (n0 : Int), .int .i64 (n1 : Int), .slice A9 y2.length d9]) HB9.out)
              have hst2 := fun (_ : True) => st_9 A9 y2.length d9 HC2.out.x
              clear hR hG hq2 hl2
              have hlr := fun (_ : True) => ld_rec HD2.out.x rfl
              have hsr := fun (_ : True) => st_rec (a := (m1 : Int)) (k := (m2 : Int)) (i := 0) (x3 := .slice none 0 0) (x4 := .slice none 0 0) (j := 0) (x6 := .slice none 0 0) (p := (n0 : Int)) (q := (n1 : Int)) (x9 := .slice A9 y2.length d9) HD2.out.res rfl rfl rfl rfl
              have hlr2 := fun (_ : True) => ld_rec (setRow_heap (w5.setRow w2.heap.size #[.int .u8 (m1 : Int), .int .u32 (m2 : Int), .int .u32 0, .slice none 0 0, .slice none 0 0, .int .u32 0, .slice none 0 0, .int .i64 (n0 : Int), .int .i64 (n1 : Int), .slice A9 y2.length d9]) w.heap.size #[.int .u8 0, .int .u32 0, .int .u32 0, .slice none 0 0, .slice none 0 0, .int .u32 0, .slice none 0 0, .int .i64 0, .int .i64 0, .slice none 0 0] #[.int .u8 (m1 : Int), .int .u32 (m2 : Int), .int .u32 0, .slice none 0 0, .slice none 0 0, .int .u32 0, .slice none 0 0, .int .i64 (n0 : Int), .int .i64 (n1 : Int), .slice A9 y2.length d9] _ _ HD2.out.res) rfl
              go_wp2_with fail
              (try simp only [Exit.inBlock, Exit.then])
              refine bodyPost_ret (results_cell_row rfl _ _ w.heap.size 57 #[.int .u8 (m1 : Int), .int .u32 (m2 : Int), .int .u32 0, .slice none 0 0, .slice none 0 0, .int .u32 0, .slice none 0 0, .int .i64 (n0 : Int), .int .i64 (n1 : Int), .slice A9 y2.length d9] (0, 0) _ (by rfl) (setRow_heap _ _ _ _ _ _ HD2.out.res) Tryd.underlying57 rfl rfl) rfl ?_
              obtain ⟨hf1, hf2⟩ := HD2.out.fin #[.int .u8 (m1 : Int), .int .u32 (m2 : Int), .int .u32 0, .slice none 0 0, .slice none 0 0, .int .u32 0, .slice none 0 0, .int .i64 (n0 : Int), .int .i64 (n1 : Int), .slice A9 y2.length d9]
              refine ⟨hf1, .inl ⟨⟨(m1 : Int), (m2 : Int), 0, [], [], ⟨0, []⟩, (n0 : Int), (n1 : Int), y2⟩, s2, _, ?_, rfl, ⟨_, _, _, _, rfl, ?_, ?_, ?_, ?_⟩, hf2⟩⟩
              · rw [HN.out, HBODY.out]; rw [HQ0.out]; simp only [Option.bind_some]; rw [HQ1.out]; simp only [Option.bind_some]; rw [HQ2.out]; rfl
              · exact Kd.R_nil _ _ _ _ _
              · exact Kd.R_nil _ _ _ _ _
              · exact Kd.R_nil _ _ _ _ _
              · have hh := R_keep HV9.out (grown_row _ w.heap.size #[.int .u8 (m1 : Int), .int .u32 (m2 : Int), .int .u32 0, .slice none 0 0, .slice none 0 0, .int .u32 0, .slice none 0 0, .int .i64 (n0 : Int), .int .i64 (n1 : Int), .slice A9 y2.length d9]) (by have := HD2.out.le; have := HB9.out; omega)
                have hle := Nat.le_of_lt (Nat.lt_trans HD2.out.le HB9.out)
                exact Kd.R_lower (Kd.R_mono hh (fun k _ => ⟨fun e => by simp [Value.ownBlock] at e, fun e => by simp [Value.ownBlock] at e⟩)) hle
      have HBODY := Aside0.mk (show bodyP (m1 : Int) (m2 : Int) r2 = some (⟨(m1 : Int), (m2 : Int), 0, [], [], ⟨0, []⟩, 0, 0, []⟩, r2) from by unfold bodyP; rw [if_neg hk1, if_neg hk2, if_neg hk6, if_neg hk7])
      have hlr := fun (_ : True) => ld_rec HI.out.x rfl
      have hsr := fun (_ : True) => st_rec (a := (m1 : Int)) (k := (m2 : Int)) (i := 0) (x3 := .slice none 0 0) (x4 := .slice none 0 0) (j := 0) (x6 := .slice none 0 0) (p := 0) (q := 0) (x9 := .slice none 0 0) HI.out.res rfl rfl rfl rfl
      have hlr2 := fun (_ : True) => ld_rec (setRow_heap (w2.alloc (.cells #[.int .u8 (m1 : Int), .int .u32 (m2 : Int), .int .u32 0, .slice none 0 0, .slice none 0 0, .int .u32 0, .slice none 0 0, .int .i64 0, .int .i64 0, .slice none 0 0] 57)) w.heap.size #[.int .u8 0, .int .u32 0, .int .u32 0, .slice none 0 0, .slice none 0 0, .int .u32 0, .slice none 0 0, .int .i64 0, .int .i64 0, .slice none 0 0] #[.int .u8 (m1 : Int), .int .u32 (m2 : Int), .int .u32 0, .slice none 0 0, .slice none 0 0, .int .u32 0, .slice none 0 0, .int .i64 0, .int .i64 0, .slice none 0 0] _ _ HI.out.res) rfl
      go_wp2_with fail
      (try simp only [Exit.inBlock, Exit.then])
      refine bodyPost_ret (results_cell_row rfl _ _ w.heap.size 57 #[.int .u8 (m1 : Int), .int .u32 (m2 : Int), .int .u32 0, .slice none 0 0, .slice none 0 0, .int .u32 0, .slice none 0 0, .int .i64 0, .int .i64 0, .slice none 0 0] (0, 0) _ (by rfl) (setRow_heap _ _ _ _ _ _ HI.out.res) Tryd.underlying57 rfl rfl) rfl ?_
      obtain ⟨hf1, hf2⟩ := HI.out.fin #[.int .u8 (m1 : Int), .int .u32 (m2 : Int), .int .u32 0, .slice none 0 0, .slice none 0 0, .int .u32 0, .slice none 0 0, .int .i64 0, .int .i64 0, .slice none 0 0]
      refine ⟨hf1, .inl ⟨⟨(m1 : Int), (m2 : Int), 0, [], [], ⟨0, []⟩, 0, 0, []⟩, r2, _, ?_, rfl, ⟨_, _, _, _, rfl, ?_, ?_, ?_, ?_⟩, hf2⟩⟩
      · rw [HN.out, HBODY.out]; skip
      · exact Kd.R_nil _ _ _ _ _
      · exact Kd.R_nil _ _ _ _ _
      · exact Kd.R_nil _ _ _ _ _
      · exact Kd.R_nil _ _ _ _ _
end Go.Proofs.YtbbhjceelghadaaDoor.K
end

section
-- from CodeT
namespace Go.Proofs.YtbbhjceelghadaaDoor.K
open Go Go.RowKit Go.Proofs.YtbbhjceelghadaaDoorW.PrintWords Go.Proofs.YtbbhjceelghadaaDoorW.PrintLast Go.Proofs.YtbbhjceelghadaaDoorW.PrintMore Go.Proofs.YtbbhjceelghadaaDoor.My
theorem built_none : (Tryd.prog).built 57 (#[] : Array (Nat × Value)).toList = some #[.int .u8 0, .int .u32 0, .int .u32 0, .slice none 0 0, .slice none 0 0, .int .u32 0, .slice none 0 0, .int .i64 0, .int .i64 0, .slice none 0 0] := by kernel_rfl
theorem bu_none (w : World) : (Instr.build 57 #[]).run Tryd.prog w = .ok (.agg #[.int .u8 0, .int .u32 0, .int .u32 0, .slice none 0 0, .slice none 0 0, .int .u32 0, .slice none 0 0, .int .i64 0, .int .i64 0, .slice none 0 0]) w := run_build w _ _ _ built_none
theorem st_bool {w : World} {b : Nat} {c0 : Value} (x : Bool) (h : w.heap[b]? = some (.cells #[c0] 4 (0, 0))) : (Instr.storeAt 4 (.pointer (some ⟨b, 0, none⟩)) (.bool x)).run Tryd.prog w = .ok () (w.setCell ⟨b, 0, none⟩ (.bool x)) := by
  have z : w.cell? ⟨b, 0, none⟩ = some c0 := (blk_cell h 0).trans rfl
  have y : w.frozen? ⟨b, 0, none⟩ = false := blk_frozen h 0
  simp [go_sem, z, y]
theorem st_short (w : World) : (Instr.storeAt 173 (.pointer (some ⟨w.heap.size, 0, none⟩)) (.agg #[])).run Tryd.prog (w.alloc (.cells #[] 173)) = .ok () (w.alloc (.cells #[] 173)) :=
  run_storeAt_new (P := Tryd.prog) w _ #[] #[] (by kernel_rfl) rfl (by simp)
theorem ld_bool {w : World} {b : Nat} {x : Bool} (h : w.heap[b]? = some (.cells #[.bool x] 4 (0, 0))) : (Instr.loadAt 4 (.pointer (some ⟨b, 0, none⟩))).run Tryd.prog w = .ok (.bool x) w := by
  have z : w.cell? ⟨b, 0, none⟩ = some (.bool x) := (blk_cell h 0).trans rfl
  simp [go_sem, z]
theorem bu_reader (w : World) (A : Option Addr) (n c : Nat) : (Instr.build 176 #[(0, .slice A n c)]).run Tryd.prog w = .ok (.agg #[.slice A n c]) w := run_build w _ _ _ (by kernel_rfl)
theorem as_short (w : World) : (Instr.typeAssert (.iface 173 (.agg #[])) 20 173 true).run Tryd.prog w = .ok (.tuple #[.agg #[], .bool true]) w := by
  have hu : (Tryd.prog).underlying 173 = some (.struct #[]) := by kernel_rfl
  simp [Instr.typeAssert, run_underlying hu]
attribute [-go_sem] Instr.build Instr.storeAt
attribute [local go_sem] bu_none bu_reader st_short as_short
set_option maxRecDepth 20000 in
theorem catch_short (bx bi : Nat) (w : World) (hx : w.heap[bx]? = some (.cells #[.int .u8 0, .int .u32 0, .int .u32 0, .slice none 0 0, .slice none 0 0, .int .u32 0, .slice none 0 0, .int .i64 0, .int .i64 0, .slice none 0 0] 57 (0, 0))) (hi : w.heap[bi]? = some (.cells #[.bool false] 4 (0, 0))) (hne : bx ≠ bi) :
    CallsD Tryd.prog 124 #[.pointer (some ⟨bx, 0, none⟩), .pointer (some ⟨bi, 0, none⟩)] (.panicking shortE) w fun e u' w' =>
      e = .returned (.tuple #[]) ∧ u' = .panicking [{ v := .iface 173 (.agg #[]), recovered := true }] ∧ w' = ((w.alloc (.cells #[] 173)).setRow bx #[.int .u8 0, .int .u32 0, .int .u32 0, .slice none 0 0, .slice none 0 0, .int .u32 0, .slice none 0 0, .int .i64 0, .int .i64 0, .slice none 0 0]).setCell ⟨bi, 0, none⟩ (.bool false) := by
  have hx1 : (w.alloc (.cells #[] 173)).heap[bx]? = some (.cells #[.int .u8 0, .int .u32 0, .int .u32 0, .slice none 0 0, .slice none 0 0, .int .u32 0, .slice none 0 0, .int .i64 0, .int .i64 0, .slice none 0 0] 57 (0, 0)) := heap_old' hx
  have hi1 : ((w.alloc (.cells #[] 173)).setRow bx #[.int .u8 0, .int .u32 0, .int .u32 0, .slice none 0 0, .slice none 0 0, .int .u32 0, .slice none 0 0, .int .i64 0, .int .i64 0, .slice none 0 0]).heap[bi]? = some (.cells #[.bool false] 4 (0, 0)) := by rw [setRow_other _ _ _ _ (fun e => hne e.symm)]; exact heap_old' hi
  have hs1 := fun (_ : True) => st_rec (a := 0) (k := 0) (i := 0) (x3 := .slice none 0 0) (x4 := .slice none 0 0) (j := 0) (x6 := .slice none 0 0) (p := 0) (q := 0) (x9 := .slice none 0 0) hx1 rfl rfl rfl rfl
  have hs2 := fun (_ : True) => st_bool false hi1
  clear hx1 hi1 hx hi
  refine callsD_of_wpS Tryd.func124 rfl fun c₀ cs hu => ?_
  simp only [Tryd.ntmps124, List.size_toArray, List.length_cons, List.length_nil, Nat.reduceAdd, Nat.reduceSub, Array.replicate_succ,
     Array.replicate_zero, List.push_toArray, List.append_toArray, List.nil_append, List.cons_append]
  apply wpS_seq
  apply wpS_region
  simp [wpOpsS, go_sem, recoverD, hu, Exit.thenS, shortE]
  refine wpS_of_wp ?_
  go_wp2
  cases c₀
  simp_all [bodyPostS, results, Tryd.results124]
theorem catch_none (bx bi : Nat) (w : World) :
    CallsD Tryd.prog 124 #[.pointer (some ⟨bx, 0, none⟩), .pointer (some ⟨bi, 0, none⟩)] .returning w fun e u' w' =>
      e = .returned (.tuple #[]) ∧ u' = .returning ∧ w' = w := by
  refine callsD_of_wpS Tryd.func124 rfl fun c₀ cs hu => ?_
  simp only [Tryd.ntmps124, List.size_toArray, List.length_cons, List.length_nil, Nat.reduceAdd, Nat.reduceSub, Array.replicate_succ,
     Array.replicate_zero, List.push_toArray, List.append_toArray, List.nil_append, List.cons_append]
  apply wpS_seq
  apply wpS_region
  simp [wpOpsS, go_sem, recoverD, hu, Exit.thenS]
  refine wpS_of_wp ?_
  go_wp2
  cases c₀
  simp_all [bodyPostS, results, Tryd.results124]
theorem tried_end {tmps : Array Value} {W : World} {bx bi : Nat} {cs : Array Value} {x : Bool} {R : Ending → World → Prop} (hp : tmps.getD 2 undef = .pointer (some ⟨bx, 0, none⟩)) (hq : tmps.getD 3 undef = .pointer (some ⟨bi, 0, none⟩))
    (hx : W.heap[bx]? = some (.cells cs 57 (0, 0))) (hs : cs.size = 10) (hi : W.heap[bi]? = some (.cells #[.bool x] 4 (0, 0))) (hR : R (.returned (.tuple #[.agg cs, .bool x])) W) : Leaves Tryd.prog Tryd.f103 tmps R [] .returning W := by
  refine ⟨_, ?_, hR⟩
  have h : Tryd.f103.results = #[.cell 2 57, .cell 3 4] := rfl
  have hp' : tmps[2]?.getD undef = .pointer (some ⟨bx, 0, none⟩) := by simpa using hp
  have hq' : tmps[3]?.getD undef = .pointer (some ⟨bi, 0, none⟩) := by simpa using hq
  have h1 := run_loadVar_row (P := Tryd.prog) W bx 57 57 cs (0, 0) _ hx Tryd.underlying57 rfl (by rw [hs]; kernel_rfl)
  have h2 := ld_bool hi
  simp only [Instr.loadAt, Instr.sureAddr, Sem.run_bind, Sem.run_pure, Result.andThen] at h2
  simp [results, h, hp', hq', asAddr, h1, h2]
theorem RecV_grown {base : Nat} {x : SRec} {v : Value} {w w' : World} {g : Nat} (h : RecV base x v w) (hg : w.grownBy w' (some g)) (hlt : g < base) : RecV base x v w' := by
  obtain ⟨v3, v4, v6, v9, rfl, h3, h4, h6, h9⟩ := h
  exact ⟨v3, v4, v6, v9, rfl, R_keep h3 hg hlt, R_keep h4 hg hlt, R_keep h6 hg hlt, R_keep h9 hg hlt⟩
theorem RecV_lower {base base' : Nat} {x : SRec} {v : Value} {w : World} (h : RecV base x v w) (hle : base' ≤ base) : RecV base' x v w := by
  obtain ⟨v3, v4, v6, v9, rfl, h3, h4, h6, h9⟩ := h
  exact ⟨v3, v4, v6, v9, rfl, Kd.R_lower h3 hle, Kd.R_lower h4 hle, Kd.R_lower h6 hle, Kd.R_lower h9 hle⟩
theorem cell_same {w : World} {b : Nat} {c0 : Value} {t : Nat} (v : Value) (h : w.heap[b]? = some (.cells #[c0] t (0, 0))) : (w.setCell ⟨b, 0, none⟩ v).heap[b]? = some (.cells #[v] t (0, 0)) := by
  rw [setCell_eq_setRow w b 0 #[c0] t (0, 0) v h]
  exact setRow_heap w b _ _ _ _ h
theorem cell_other {w : World} {b i k : Nat} (v : Value) (hne : k ≠ b) : (w.setCell ⟨b, i, none⟩ v).heap[k]? = w.heap[k]? := Below.heap_setCell _ _ _ _ hne
set_option maxRecDepth 20000 in
theorem tried_any (A : Option Addr) (c : Nat) (l : List UInt8) (w : World) (hC : kb.C w A l.length l) (hc : l.length ≤ c) (hm : (l.length : Int) ≤ 100000) :
    Calls Tryd.prog 103 #[.slice A l.length c] w fun e w' => Below w.heap.size w w' ∧
      ((∃ x r v, recP l = some (x, r) ∧ e = .returned (.tuple #[v, .bool true]) ∧ RecV w.heap.size x v w') ∨ (recP l = none ∧ e = .returned (.tuple #[.agg #[.int .u8 0, .int .u32 0, .int .u32 0, .slice none 0 0, .slice none 0 0, .int .u32 0, .slice none 0 0, .int .i64 0, .int .i64 0, .slice none 0 0], .bool false]))) := by
  have hmf : ∀ (fn : Fn) (first cap : Array Value) (w : World), (Instr.makeFunc fn first cap).run Tryd.prog w = .ok (.func fn first cap) w := fun _ _ _ _ => rfl
  have HC := Aside0.mk hC
  obtain ⟨WR, hWR⟩ : ∃ WR, WR = ((w.alloc (.cells #[.int .u8 0, .int .u32 0, .int .u32 0, .slice none 0 0, .slice none 0 0, .int .u32 0, .slice none 0 0, .int .i64 0, .int .i64 0, .slice none 0 0] 57)).alloc (.cells #[.bool false] 4)).alloc (.cells #[.slice A l.length c] 176) := ⟨_, rfl⟩
  have HW := Aside0.mk hWR
  have hB : Below w.heap.size w WR := by rw [hWR]; exact below_alloc (below_alloc (below_alloc (Below.refl _ _) _) _) _
  have HR := Aside0.mk (show Rd w WR (w.heap.size + 2) l from ⟨A, c, by rw [hWR]; exact heap_new' (by simp), hc, hC⟩)
  have HX := Aside0.mk (show WR.heap[w.heap.size]? = some (.cells #[.int .u8 0, .int .u32 0, .int .u32 0, .slice none 0 0, .slice none 0 0, .int .u32 0, .slice none 0 0, .int .i64 0, .int .i64 0, .slice none 0 0] 57 (0, 0)) from by rw [hWR]; exact heap_old' (heap_old' (heap_new' rfl)))
  have HI := Aside0.mk (show WR.heap[w.heap.size + 1]? = some (.cells #[.bool false] 4 (0, 0)) from by rw [hWR]; exact heap_old' (heap_new' (by simp)))
  have HB := Aside0.mk hB
  have hsz : WR.heap.size = w.heap.size + 3 := by rw [hWR]; simp
  clear hC hWR hB
  go_enter_defers Tryd.func103, Tryd.ntmps103
  go_wp2_with fail
  rw [← HW.out]
  refine (rrec_any (w.heap.size + 2) l w WR HR.out HB.out (by omega) hm).mono ?_
  intro e w1 hpp
  cases hp : recP l with
  | none =>
    obtain ⟨rfl, hG⟩ := hpp.short hp
    clear hpp
    have hx1 := (hG.block _ (blk_lt HX.out) (fun e => by injection e with e; omega)).trans HX.out
    have hi1 := (hG.block _ (blk_lt HI.out) (fun e => by injection e with e; omega)).trans HI.out
    have HX1 := Aside0.mk hx1
    have HI1 := Aside0.mk hi1
    clear hx1 hi1
    go_wp2
    refine leaves_cons (f := 124) (args := #[.pointer (some ⟨w.heap.size, 0, none⟩), .pointer (some ⟨w.heap.size + 1, 0, none⟩)]) (by simp) (by simp [go_sem]) ?_
    refine (catch_short w.heap.size (w.heap.size + 1) w1 HX1.out HI1.out (by omega)).mono ?_
    rintro e u' w2 ⟨rfl, rfl, rfl⟩
    have hB2 := below_grown HB.out hG (by omega) (Nat.le_refl _)
    have hx2 := (cell_other (i := 0) (.bool false) (show w.heap.size ≠ w.heap.size + 1 by omega)).trans (setRow_heap (w1.alloc (.cells #[] 173)) w.heap.size _ #[.int .u8 0, .int .u32 0, .int .u32 0, .slice none 0 0, .slice none 0 0, .int .u32 0, .slice none 0 0, .int .i64 0, .int .i64 0, .slice none 0 0] _ _ (heap_old' HX1.out))
    have hi2 := cell_same (.bool false) ((setRow_other (w1.alloc (.cells #[] 173)) w.heap.size (w.heap.size + 1) #[.int .u8 0, .int .u32 0, .int .u32 0, .slice none 0 0, .slice none 0 0, .int .u32 0, .slice none 0 0, .int .i64 0, .int .i64 0, .slice none 0 0] (by omega)).trans (heap_old' HI1.out))
    refine tried_end rfl rfl hx2 rfl hi2 ⟨?_, .inr ⟨hp, rfl⟩⟩
    exact below_set (below_grown (below_alloc hB2 _) (grown_row _ w.heap.size _) (Nat.le_refl _) (Nat.le_refl _)) (by show _ ≤ _; simp)
  | some y =>
    obtain ⟨x, r⟩ := y
    obtain ⟨v, rfl, hv, hR, hG⟩ := hpp.ok hp
    obtain ⟨v3, v4, v6, v9, rfl, h3, h4, h6, h9⟩ := hv
    obtain ⟨A3, d3, rfl⟩ := Kd.R_slice h3
    obtain ⟨A4, d4, rfl⟩ := Kd.R_slice h4
    obtain ⟨A6, d6, rfl⟩ := Kd.R_slice h6
    obtain ⟨A9, d9, rfl⟩ := Kd.R_slice h9
    have hx1 := (hG.block _ (blk_lt HX.out) (fun e => by injection e with e; omega)).trans HX.out
    have hi1 := (hG.block _ (blk_lt HI.out) (fun e => by injection e with e; omega)).trans HI.out
    have hs1 := fun (_ : True) => st_rec (a := x.f0) (k := x.f1) (i := x.f2) (x3 := .slice A3 x.f3.length d3) (x4 := .slice A4 x.f4.length d4) (j := x.f5.f0) (x6 := .slice A6 x.f5.f1.length d6) (p := x.f6) (q := x.f7) (x9 := .slice A9 x.f8.length d9) hx1 rfl rfl rfl rfl
    have hi2 := (setRow_other w1 w.heap.size (w.heap.size + 1) #[.int .u8 x.f0, .int .u32 x.f1, .int .u32 x.f2, .slice A3 x.f3.length d3, .slice A4 x.f4.length d4, .int .u32 x.f5.f0, .slice A6 x.f5.f1.length d6, .int .i64 x.f6, .int .i64 x.f7, .slice A9 x.f8.length d9] (by omega)).trans hi1
    have hs2 := fun (_ : True) => st_bool true hi2
    have HX1 := Aside0.mk hx1
    have HI2 := Aside0.mk hi2
    clear hpp hx1 hi1 hi2
    go_wp2
    refine leaves_cons (f := 124) (args := #[.pointer (some ⟨w.heap.size, 0, none⟩), .pointer (some ⟨w.heap.size + 1, 0, none⟩)]) (by simp) (by simp [go_sem]) ?_
    refine (catch_none w.heap.size (w.heap.size + 1) _).mono ?_
    rintro e u' w2 ⟨rfl, rfl, rfl⟩
    have hB2 := below_grown HB.out hG (by omega) (Nat.le_refl _)
    have hx2 := (cell_other (i := 0) (.bool true) (show w.heap.size ≠ w.heap.size + 1 by omega)).trans (setRow_heap w1 w.heap.size _ #[.int .u8 x.f0, .int .u32 x.f1, .int .u32 x.f2, .slice A3 x.f3.length d3, .slice A4 x.f4.length d4, .int .u32 x.f5.f0, .slice A6 x.f5.f1.length d6, .int .i64 x.f6, .int .i64 x.f7, .slice A9 x.f8.length d9] _ _ HX1.out)
    have hi2 := cell_same (.bool true) HI2.out
    refine tried_end rfl rfl hx2 rfl hi2 ⟨?_, .inl ⟨x, r, _, hp, rfl, ?_⟩⟩
    · exact below_set (below_grown hB2 (grown_row _ w.heap.size _) (Nat.le_refl _) (Nat.le_refl _)) (by show _ ≤ _; simp)
    · exact RecV_lower (RecV_grown (RecV_grown ⟨_, _, _, _, rfl, h3, h4, h6, h9⟩ (grown_row w1 w.heap.size _) (by omega)) (grown_set _ (w.heap.size + 1) 0 _) (by omega)) (by omega)
end Go.Proofs.YtbbhjceelghadaaDoor.K
end

section
-- from Buf
namespace Go.Proofs
open Go.Shelf
def Tryd.laysM181_ren : Go.Shelf.Ren := ⟨fun | 181 => 68 | n => n, fun | 130 => 125 | 3 => 3 | 0 => 0 | 93 => 111 | 37 => 23 | 91 => 109 | 5 => 5 | n => n, fun | n => n⟩
theorem Tryd.laysM181 : Go.Proofs.LaysM.n181 Tryd.prog Tryd.laysM181_ren := {
  mixed := by kernel_rfl
  f181 := Tryd.func68.trans (congrArg some (by kernel_rfl))
  t0 := Tryd.underlying0
  a0 := Tryd.isAgg0
  z0 := Tryd.sizeOf0
  v0 := Tryd.zeroValue0
  t3 := Tryd.underlying3
  a3 := Tryd.isAgg3
  z3 := Tryd.sizeOf3
  v3 := Tryd.zeroValue3
  t37 := Tryd.underlying23
  a37 := Tryd.isAgg23
  z37 := Tryd.sizeOf23
  v37 := Tryd.zeroValue23
  t93 := Tryd.underlying111
  a93 := Tryd.isAgg111
  z93 := Tryd.sizeOf111
  v93 := Tryd.zeroValue111
  t130 := Tryd.underlying125
  a130 := Tryd.isAgg125
  z130 := Tryd.sizeOf125
  v130 := Tryd.zeroValue125
  t5 := Tryd.underlying5
  a5 := Tryd.isAgg5
  z5 := Tryd.sizeOf5
  v5 := Tryd.zeroValue5
  t91 := Tryd.underlying109
  a91 := Tryd.isAgg109
  z91 := Tryd.sizeOf109
  v91 := Tryd.zeroValue109
  i0 := by kernel_rfl
  i3 := by kernel_rfl
  i5 := by kernel_rfl
  i37 := by kernel_rfl
  i91 := by kernel_rfl
  i93 := by kernel_rfl
  i130 := by kernel_rfl }
open Go.RowKit in
/-- (*bytes.Buffer).Len: "Len returns the number of bytes of the unread portion of the buffer; b.Len() == len(b.Bytes()).": the world is as it was but for the count of draws (the statement has two reads: its order is drawn). (LAID: no walk: one application.) -/
theorem Tryd.Buffer_Len (B b : Nat) (bs : List Value) (w : World) (h : Lib.IsBuffer 111 5 B b bs w) :
    Calls Tryd.prog 68 #[.pointer (some ⟨b, 0, none⟩)] w fun e w' => e = .returned (.int .i64 bs.length) ∧ ∃ n, w' = w.drewN n := Any.Buffer_Len Tryd.laysM181 B b bs w h
def Tryd.laysM183_ren : Go.Shelf.Ren := ⟨fun | 183 => 73 | n => n, fun | 130 => 125 | 37 => 23 | 0 => 0 | 93 => 111 | 3 => 3 | 5 => 5 | 91 => 109 | n => n, fun | n => n⟩
theorem Tryd.laysM183 : Go.Proofs.LaysM.n183 Tryd.prog Tryd.laysM183_ren := {
  mixed := by kernel_rfl
  f183 := Tryd.func73.trans (congrArg some (by kernel_rfl))
  t0 := Tryd.underlying0
  a0 := Tryd.isAgg0
  z0 := Tryd.sizeOf0
  v0 := Tryd.zeroValue0
  t3 := Tryd.underlying3
  a3 := Tryd.isAgg3
  z3 := Tryd.sizeOf3
  v3 := Tryd.zeroValue3
  t37 := Tryd.underlying23
  a37 := Tryd.isAgg23
  z37 := Tryd.sizeOf23
  v37 := Tryd.zeroValue23
  t93 := Tryd.underlying111
  a93 := Tryd.isAgg111
  z93 := Tryd.sizeOf111
  v93 := Tryd.zeroValue111
  t130 := Tryd.underlying125
  a130 := Tryd.isAgg125
  z130 := Tryd.sizeOf125
  v130 := Tryd.zeroValue125
  t5 := Tryd.underlying5
  a5 := Tryd.isAgg5
  z5 := Tryd.sizeOf5
  v5 := Tryd.zeroValue5
  t91 := Tryd.underlying109
  a91 := Tryd.isAgg109
  z91 := Tryd.sizeOf109
  v91 := Tryd.zeroValue109
  i0 := by kernel_rfl
  i3 := by kernel_rfl
  i5 := by kernel_rfl
  i37 := by kernel_rfl
  i91 := by kernel_rfl
  i93 := by kernel_rfl
  i130 := by kernel_rfl }
open Go.RowKit in
/-- (*bytes.Buffer).Bytes: "Bytes returns a slice of length b.Len() holding the unread portion of the buffer. .. The slice aliases the buffer content at least until the next buffer modification": A SLICE THAT OWNS THE CELLS bs ('World.ownsRow': nil where nothing was ever written). The world is as it was but for the count of draws. (LAID: no walk: one application.) -/
theorem Tryd.Buffer_Bytes (B b : Nat) (bs : List Value) (w : World) (h : Lib.IsBuffer 111 5 B b bs w) :
    Calls Tryd.prog 73 #[.pointer (some ⟨b, 0, none⟩)] w fun e w' => ∃ v, e = .returned v ∧ w'.ownsRow B 5 1 v bs.length bs ∧ ∃ n, w' = w.drewN n := Any.Buffer_Bytes Tryd.laysM183 B b bs w h
def Tryd.laysM179_ren : Go.Shelf.Ren := ⟨fun | 179 => 118 | 251 => 114 | 252 => 115 | 181 => 68 | 184 => 136 | 290 => 137 | 324 => 149 | n => n, fun | 130 => 125 | 5 => 5 | 75 => 117 | 0 => 0 | 93 => 111 | 91 => 109 | 3 => 3 | 131 => 165 | 4 => 4 | 37 => 23 | 20 => 20 | 80 => 203 | 9 => 9 | n => n, fun | 14 => 0 | n => n⟩
theorem Tryd.laysM179 : Go.Proofs.LaysM.n179 Tryd.prog Tryd.laysM179_ren := {
  mixed := by kernel_rfl
  f179 := Tryd.func118.trans (congrArg some (by kernel_rfl))
  f181 := Tryd.func68.trans (congrArg some (by kernel_rfl))
  f184 := Tryd.func136.trans (congrArg some (by kernel_rfl))
  f251 := Tryd.func114.trans (congrArg some (by kernel_rfl))
  f252 := Tryd.func115.trans (congrArg some (by kernel_rfl))
  f290 := Tryd.func137.trans (congrArg some (by kernel_rfl))
  f324 := Tryd.func149.trans (congrArg some (by kernel_rfl))
  t0 := Tryd.underlying0
  a0 := Tryd.isAgg0
  z0 := Tryd.sizeOf0
  v0 := Tryd.zeroValue0
  t3 := Tryd.underlying3
  a3 := Tryd.isAgg3
  z3 := Tryd.sizeOf3
  v3 := Tryd.zeroValue3
  t4 := Tryd.underlying4
  a4 := Tryd.isAgg4
  z4 := Tryd.sizeOf4
  v4 := Tryd.zeroValue4
  t5 := Tryd.underlying5
  a5 := Tryd.isAgg5
  z5 := Tryd.sizeOf5
  v5 := Tryd.zeroValue5
  t20 := Tryd.underlying20
  a20 := Tryd.isAgg20
  z20 := Tryd.sizeOf20
  v20 := Tryd.zeroValue20
  t37 := Tryd.underlying23
  a37 := Tryd.isAgg23
  z37 := Tryd.sizeOf23
  v37 := Tryd.zeroValue23
  t75 := Tryd.underlying117
  a75 := Tryd.isAgg117
  z75 := Tryd.sizeOf117
  v75 := Tryd.zeroValue117
  t91 := Tryd.underlying109
  a91 := Tryd.isAgg109
  z91 := Tryd.sizeOf109
  v91 := Tryd.zeroValue109
  t93 := Tryd.underlying111
  a93 := Tryd.isAgg111
  z93 := Tryd.sizeOf111
  v93 := Tryd.zeroValue111
  t130 := Tryd.underlying125
  a130 := Tryd.isAgg125
  z130 := Tryd.sizeOf125
  v130 := Tryd.zeroValue125
  t131 := Tryd.underlying165
  a131 := Tryd.isAgg165
  z131 := Tryd.sizeOf165
  v131 := Tryd.zeroValue165
  g14 := by kernel_rfl
  t9 := Tryd.underlying9
  a9 := Tryd.isAgg9
  z9 := Tryd.sizeOf9
  v9 := Tryd.zeroValue9
  t80 := Tryd.underlying203
  a80 := Tryd.isAgg203
  z80 := Tryd.sizeOf203
  v80 := Tryd.zeroValue203
  i0 := by kernel_rfl
  i3 := by kernel_rfl
  i4 := by kernel_rfl
  i5 := by kernel_rfl
  i9 := by kernel_rfl
  i20 := by kernel_rfl
  i37 := by kernel_rfl
  i75 := by kernel_rfl
  i80 := by kernel_rfl
  i91 := by kernel_rfl
  i93 := by kernel_rfl
  i130 := by kernel_rfl
  i131 := by kernel_rfl
  m14 := by kernel_rfl }
open Go.RowKit in
/-- (*bytes.Buffer).WriteByte: "WriteByte appends the byte c to the buffer, growing the buffer as needed. The returned error is always nil". (LAID: no walk: one application.) -/
theorem Tryd.Buffer_WriteByte_kept (B b : Nat) (bs : List Value) (c : Int) (w : World) (h : Lib.IsBuffer 111 5 B b bs w) (hBw : B ≤ w.heap.size) (h1 : ∀ v ∈ bs, v.oneCell' = true) (hlim : bs.length + 1 ≤ 140737488355328) :
    Calls Tryd.prog 118 #[.pointer (some ⟨b, 0, none⟩), .int .u8 c] w fun e w' => e = .returned .nilIface ∧ Lib.IsBuffer 111 5 B b (bs ++ [.int .u8 c]) w' ∧ Below B w w' ∧ Lib.OthersKept 5 (some b) w w' := Any.Buffer_WriteByte_kept Tryd.laysM179 B b bs c w h hBw h1 hlim
end Go.Proofs
end

section
-- from CodeL
namespace Go.Proofs.YtbbhjceelghadaaDoor.K
open Go Go.RowKit Go.Proofs.YtbbhjceelghadaaDoorW.PrintWords Go.Proofs.YtbbhjceelghadaaDoorW.PrintLast Go.Proofs.YtbbhjceelghadaaDoorW.PrintMore Go.Proofs.YtbbhjceelghadaaDoor.My
/-- A buffer of the call's own, that has only been written. -/
def Bf (B b : Nat) (l : List UInt8) (w : World) : Prop := Lib.IsBuffer 111 5 B b (Lib.byteCells l) w
/-- What a write leaves: all below B; all blocks but the buffer's that are no rows of bytes. -/
def Kp (B b : Nat) (w w' : World) : Prop := Below B w w' ∧ Lib.OthersKept 5 (some b) w w'
theorem Kp.refl (B b : Nat) (w : World) : Kp B b w w := ⟨Below.refl _ _, Lib.OthersKept.refl _ _ _⟩
theorem Kp.trans {B b : Nat} {w w1 w2 : World} (h : Kp B b w w1) (k : Kp B b w1 w2) : Kp B b w w2 := ⟨h.1.trans k.1, h.2.trans k.2⟩
theorem Kp.alloc {B b : Nat} {w w1 : World} (h : Kp B b w w1) (hB : B ≤ w1.heap.size) (o : Obj) : Kp B b w (w1.alloc o) := ⟨h.1.alloc hB o, h.2.alloc o⟩
theorem Kp.size {B b : Nat} {w w1 : World} (h : Kp B b w w1) : w.heap.size ≤ w1.heap.size := h.1.size
theorem Kp.block {B b : Nat} {w w1 : World} (h : Kp B b w w1) {k : Nat} {cs : Array Value} {t : TypeId} {fz : Nat × Nat} (hk : w.heap[k]? = some (.cells cs t fz)) (hne : k ≠ b) (ht : t ≠ 5) : w1.heap[k]? = some (.cells cs t fz) :=
  h.2 k _ hk (fun e => hne (by injection e)) (fun c f e => ht (by injection e))
theorem Bf.lt {B b : Nat} {l : List UInt8} {w : World} (h : Bf B b l w) : b < w.heap.size := Lib.IsBuffer.lt h
theorem Bf.alloc {B b : Nat} {l : List UInt8} {w : World} (h : Bf B b l w) (o : Obj) : Bf B b l (w.alloc o) := Lib.IsBuffer.alloc h o
theorem Bf.fresh (w : World) : Bf w.heap.size w.heap.size [] (w.alloc (.cells #[.slice none 0 0, .int .i64 0, .int .i8 0] 111)) := Lib.fresh_isBuffer _ _ _
theorem cells_snoc (l : List UInt8) (c : UInt8) : Lib.byteCells (l ++ [c]) = Lib.byteCells l ++ [.int .u8 (c.toNat : Int)] := by simp [Lib.byteCells]
theorem lay_take (x : Int) (s k : Nat) (hk : k < s) : (layB x s).take (k + 1) = (layB x s).take k ++ [UInt8.ofNat ((x / 256 ^ (s - 1 - k)) % 256).toNat] := by
  induction s generalizing k with
  | zero => omega
  | succ s ih =>
    cases k with
    | zero => simp [layB]
    | succ k =>
      have := ih k (by omega)
      simp only [layB, List.take_succ_cons, List.cons_append]
      rw [this, show s + 1 - 1 - (k + 1) = s - 1 - k by omega]
theorem byte_of (v : Int) : ((UInt8.ofNat (v % 256).toNat).toNat : Int) = v % 256 := by
  rw [UInt8.toNat_ofNat']
  omega
theorem Bf.step {B b : Nat} {l : List UInt8} {x V : Int} {s k : Nat} {w : World} (h : Lib.IsBuffer 111 5 B b (Lib.byteCells (l ++ (layB x s).take k) ++ [.int .u8 V]) w) (hk : k < s) (hV : V = x / 256 ^ (s - 1 - k) % 256) : Bf B b (l ++ (layB x s).take (k + 1)) w := by
  unfold Bf
  rw [lay_take x s k hk, ← List.append_assoc, cells_snoc, byte_of, ← hV]
  exact h
theorem cells_one (l : List UInt8) : ∀ v ∈ Lib.byteCells l, v.oneCell' = true := Lib.byteCells_one l
theorem cells_len (l : List UInt8) (x : Int) (s k : Nat) (h : l.length + s ≤ 140737488355328) (hk : k < s) : (Lib.byteCells (l ++ (layB x s).take k)).length + 1 ≤ 140737488355328 := by
  rw [Lib.byteCells_length, List.length_append, List.length_take, layB_len]
  omega
set_option maxHeartbeats 4000000 in
theorem lay_u8 (B b : Nat) (l : List UInt8) (x : Int) (w : World) (h : Bf B b l w) (hB : B ≤ w.heap.size) (hl : l.length + 1 ≤ 140737488355328) :
    Calls Tryd.prog 80 #[.pointer (some ⟨b, 0, none⟩), .int .u8 x, .int .i64 1] w fun e w' => e = .returned (.tuple #[]) ∧ Bf B b (l ++ layB x 1) w' ∧ Kp B b w w' := by
  have H0 := Aside0.mk h
  clear h
  go_enter Tryd.func80, Tryd.ntmps80
  go_wp2
  go_loopw [8] (fun i wr => ∃ k : Nat, k ≤ 1 ∧ i = .int .i64 k ∧ Aside0 (Bf B b (l ++ (layB x 1).take k) wr) ∧ Aside0 (Kp B b w wr)) (fun i _ => 1 - (intOf i).toNat)
  case atStart => exact ⟨0, Nat.zero_le _, rfl, ⟨by rw [List.take_zero, List.append_nil]; exact H0.out⟩, ⟨Kp.refl _ _ _⟩⟩
  case round =>
    obtain ⟨k, hk, rfl, HI, HK⟩ := hrel
    have h' : k = 0 ∨ k = 1 := by omega
    rcases h' with rfl | rfl
    · have hI := HI.out
      have hK := HK.out
      clear HI HK
      go_wp2_with (go_at_call 118; refine (Tryd.Buffer_WriteByte_kept B b _ _ wr hI (Nat.le_trans hB hK.size) (cells_one _) (cells_len l x 1 0 hl (by omega))).mono ?_; rintro e w1 ⟨rfl, hI1, hb1, hk1⟩; have HI1 := Aside0.mk hI1; have HK1 := Aside0.mk (hK.trans ⟨hb1, hk1⟩); clear hI1 hb1 hk1 hI hK)
      go_roundw
      case rel => exact ⟨1, by omega, by go_num, ⟨Bf.step (k := 0) HI1.out (by omega) (by first | rfl | (show _ = x / 1 % 256; rw [IntKind.wrap_u64]; omega) | (show _ = x / 1 % 256; omega))⟩, HK1⟩
      case measure => simp [intOf]
    · go_wp2
      go_end0
      refine ⟨rfl, ?_, HK.out⟩
      have := HI.out
      rwa [List.take_of_length_le (by rw [layB_len]; exact Nat.le_refl _)] at this
set_option maxHeartbeats 4000000 in
theorem lay_u32 (B b : Nat) (l : List UInt8) (x : Int) (w : World) (h : Bf B b l w) (hB : B ≤ w.heap.size) (hl : l.length + 4 ≤ 140737488355328) :
    Calls Tryd.prog 81 #[.pointer (some ⟨b, 0, none⟩), .int .u32 x, .int .i64 4] w fun e w' => e = .returned (.tuple #[]) ∧ Bf B b (l ++ layB x 4) w' ∧ Kp B b w w' := by
  have H0 := Aside0.mk h
  clear h
  go_enter Tryd.func81, Tryd.ntmps81
  go_wp2
  go_loopw [8] (fun i wr => ∃ k : Nat, k ≤ 4 ∧ i = .int .i64 k ∧ Aside0 (Bf B b (l ++ (layB x 4).take k) wr) ∧ Aside0 (Kp B b w wr)) (fun i _ => 4 - (intOf i).toNat)
  case atStart => exact ⟨0, Nat.zero_le _, rfl, ⟨by rw [List.take_zero, List.append_nil]; exact H0.out⟩, ⟨Kp.refl _ _ _⟩⟩
  case round =>
    obtain ⟨k, hk, rfl, HI, HK⟩ := hrel
    have h' : k = 0 ∨ k = 1 ∨ k = 2 ∨ k = 3 ∨ k = 4 := by omega
    rcases h' with rfl | rfl | rfl | rfl | rfl
    · have hI := HI.out
      have hK := HK.out
      clear HI HK
      go_wp2_with (go_at_call 118; refine (Tryd.Buffer_WriteByte_kept B b _ _ wr hI (Nat.le_trans hB hK.size) (cells_one _) (cells_len l x 4 0 hl (by omega))).mono ?_; rintro e w1 ⟨rfl, hI1, hb1, hk1⟩; have HI1 := Aside0.mk hI1; have HK1 := Aside0.mk (hK.trans ⟨hb1, hk1⟩); clear hI1 hb1 hk1 hI hK)
      go_roundw
      case rel => exact ⟨1, by omega, by go_num, ⟨Bf.step (k := 0) HI1.out (by omega) (by first | rfl | (show _ = x / 16777216 % 256; rw [IntKind.wrap_u64]; omega) | (show _ = x / 16777216 % 256; omega))⟩, HK1⟩
      case measure => simp [intOf]
    · have hI := HI.out
      have hK := HK.out
      clear HI HK
      go_wp2_with (go_at_call 118; refine (Tryd.Buffer_WriteByte_kept B b _ _ wr hI (Nat.le_trans hB hK.size) (cells_one _) (cells_len l x 4 1 hl (by omega))).mono ?_; rintro e w1 ⟨rfl, hI1, hb1, hk1⟩; have HI1 := Aside0.mk hI1; have HK1 := Aside0.mk (hK.trans ⟨hb1, hk1⟩); clear hI1 hb1 hk1 hI hK)
      go_roundw
      case rel => exact ⟨2, by omega, by go_num, ⟨Bf.step (k := 1) HI1.out (by omega) (by first | rfl | (show _ = x / 65536 % 256; rw [IntKind.wrap_u64]; omega) | (show _ = x / 65536 % 256; omega))⟩, HK1⟩
      case measure => simp [intOf]
    · have hI := HI.out
      have hK := HK.out
      clear HI HK
      go_wp2_with (go_at_call 118; refine (Tryd.Buffer_WriteByte_kept B b _ _ wr hI (Nat.le_trans hB hK.size) (cells_one _) (cells_len l x 4 2 hl (by omega))).mono ?_; rintro e w1 ⟨rfl, hI1, hb1, hk1⟩; have HI1 := Aside0.mk hI1; have HK1 := Aside0.mk (hK.trans ⟨hb1, hk1⟩); clear hI1 hb1 hk1 hI hK)
      go_roundw
      case rel => exact ⟨3, by omega, by go_num, ⟨Bf.step (k := 2) HI1.out (by omega) (by first | rfl | (show _ = x / 256 % 256; rw [IntKind.wrap_u64]; omega) | (show _ = x / 256 % 256; omega))⟩, HK1⟩
      case measure => simp [intOf]
    · have hI := HI.out
      have hK := HK.out
      clear HI HK
      go_wp2_with (go_at_call 118; refine (Tryd.Buffer_WriteByte_kept B b _ _ wr hI (Nat.le_trans hB hK.size) (cells_one _) (cells_len l x 4 3 hl (by omega))).mono ?_; rintro e w1 ⟨rfl, hI1, hb1, hk1⟩; have HI1 := Aside0.mk hI1; have HK1 := Aside0.mk (hK.trans ⟨hb1, hk1⟩); clear hI1 hb1 hk1 hI hK)
      go_roundw
      case rel => exact ⟨4, by omega, by go_num, ⟨Bf.step (k := 3) HI1.out (by omega) (by first | rfl | (show _ = x / 1 % 256; rw [IntKind.wrap_u64]; omega) | (show _ = x / 1 % 256; omega))⟩, HK1⟩
      case measure => simp [intOf]
    · go_wp2
      go_end0
      refine ⟨rfl, ?_, HK.out⟩
      have := HI.out
      rwa [List.take_of_length_le (by rw [layB_len]; exact Nat.le_refl _)] at this
set_option maxHeartbeats 4000000 in
theorem lay_int1 (B b : Nat) (l : List UInt8) (x : Int) (w : World) (h : Bf B b l w) (hB : B ≤ w.heap.size) (hl : l.length + 1 ≤ 140737488355328) :
    Calls Tryd.prog 84 #[.pointer (some ⟨b, 0, none⟩), .int .i64 x, .int .i64 1] w fun e w' => e = .returned (.tuple #[]) ∧ Bf B b (l ++ layB x 1) w' ∧ Kp B b w w' := by
  have H0 := Aside0.mk h
  clear h
  go_enter Tryd.func84, Tryd.ntmps84
  go_wp2
  go_loopw [8] (fun i wr => ∃ k : Nat, k ≤ 1 ∧ i = .int .i64 k ∧ Aside0 (Bf B b (l ++ (layB x 1).take k) wr) ∧ Aside0 (Kp B b w wr)) (fun i _ => 1 - (intOf i).toNat)
  case atStart => exact ⟨0, Nat.zero_le _, rfl, ⟨by rw [List.take_zero, List.append_nil]; exact H0.out⟩, ⟨Kp.refl _ _ _⟩⟩
  case round =>
    obtain ⟨k, hk, rfl, HI, HK⟩ := hrel
    have h' : k = 0 ∨ k = 1 := by omega
    rcases h' with rfl | rfl
    · have hI := HI.out
      have hK := HK.out
      clear HI HK
      go_wp2_with (go_at_call 118; refine (Tryd.Buffer_WriteByte_kept B b _ _ wr hI (Nat.le_trans hB hK.size) (cells_one _) (cells_len l x 1 0 hl (by omega))).mono ?_; rintro e w1 ⟨rfl, hI1, hb1, hk1⟩; have HI1 := Aside0.mk hI1; have HK1 := Aside0.mk (hK.trans ⟨hb1, hk1⟩); clear hI1 hb1 hk1 hI hK)
      go_roundw
      case rel => exact ⟨1, by omega, by go_num, ⟨Bf.step (k := 0) HI1.out (by omega) (by first | rfl | (show _ = x / 1 % 256; rw [IntKind.wrap_u64]; omega) | (show _ = x / 1 % 256; omega))⟩, HK1⟩
      case measure => simp [intOf]
    · go_wp2
      go_end0
      refine ⟨rfl, ?_, HK.out⟩
      have := HI.out
      rwa [List.take_of_length_le (by rw [layB_len]; exact Nat.le_refl _)] at this
set_option maxHeartbeats 4000000 in
theorem lay_int4 (B b : Nat) (l : List UInt8) (x : Int) (w : World) (h : Bf B b l w) (hB : B ≤ w.heap.size) (hl : l.length + 4 ≤ 140737488355328) :
    Calls Tryd.prog 84 #[.pointer (some ⟨b, 0, none⟩), .int .i64 x, .int .i64 4] w fun e w' => e = .returned (.tuple #[]) ∧ Bf B b (l ++ layB x 4) w' ∧ Kp B b w w' := by
  have H0 := Aside0.mk h
  clear h
  go_enter Tryd.func84, Tryd.ntmps84
  go_wp2
  go_loopw [8] (fun i wr => ∃ k : Nat, k ≤ 4 ∧ i = .int .i64 k ∧ Aside0 (Bf B b (l ++ (layB x 4).take k) wr) ∧ Aside0 (Kp B b w wr)) (fun i _ => 4 - (intOf i).toNat)
  case atStart => exact ⟨0, Nat.zero_le _, rfl, ⟨by rw [List.take_zero, List.append_nil]; exact H0.out⟩, ⟨Kp.refl _ _ _⟩⟩
  case round =>
    obtain ⟨k, hk, rfl, HI, HK⟩ := hrel
    have h' : k = 0 ∨ k = 1 ∨ k = 2 ∨ k = 3 ∨ k = 4 := by omega
    rcases h' with rfl | rfl | rfl | rfl | rfl
    · have hI := HI.out
      have hK := HK.out
      clear HI HK
      go_wp2_with (go_at_call 118; refine (Tryd.Buffer_WriteByte_kept B b _ _ wr hI (Nat.le_trans hB hK.size) (cells_one _) (cells_len l x 4 0 hl (by omega))).mono ?_; rintro e w1 ⟨rfl, hI1, hb1, hk1⟩; have HI1 := Aside0.mk hI1; have HK1 := Aside0.mk (hK.trans ⟨hb1, hk1⟩); clear hI1 hb1 hk1 hI hK)
      go_roundw
      case rel => exact ⟨1, by omega, by go_num, ⟨Bf.step (k := 0) HI1.out (by omega) (by first | rfl | (show _ = x / 16777216 % 256; rw [IntKind.wrap_u64]; omega) | (show _ = x / 16777216 % 256; omega))⟩, HK1⟩
      case measure => simp [intOf]
    · have hI := HI.out
      have hK := HK.out
      clear HI HK
      go_wp2_with (go_at_call 118; refine (Tryd.Buffer_WriteByte_kept B b _ _ wr hI (Nat.le_trans hB hK.size) (cells_one _) (cells_len l x 4 1 hl (by omega))).mono ?_; rintro e w1 ⟨rfl, hI1, hb1, hk1⟩; have HI1 := Aside0.mk hI1; have HK1 := Aside0.mk (hK.trans ⟨hb1, hk1⟩); clear hI1 hb1 hk1 hI hK)
      go_roundw
      case rel => exact ⟨2, by omega, by go_num, ⟨Bf.step (k := 1) HI1.out (by omega) (by first | rfl | (show _ = x / 65536 % 256; rw [IntKind.wrap_u64]; omega) | (show _ = x / 65536 % 256; omega))⟩, HK1⟩
      case measure => simp [intOf]
    · have hI := HI.out
      have hK := HK.out
      clear HI HK
      go_wp2_with (go_at_call 118; refine (Tryd.Buffer_WriteByte_kept B b _ _ wr hI (Nat.le_trans hB hK.size) (cells_one _) (cells_len l x 4 2 hl (by omega))).mono ?_; rintro e w1 ⟨rfl, hI1, hb1, hk1⟩; have HI1 := Aside0.mk hI1; have HK1 := Aside0.mk (hK.trans ⟨hb1, hk1⟩); clear hI1 hb1 hk1 hI hK)
      go_roundw
      case rel => exact ⟨3, by omega, by go_num, ⟨Bf.step (k := 2) HI1.out (by omega) (by first | rfl | (show _ = x / 256 % 256; rw [IntKind.wrap_u64]; omega) | (show _ = x / 256 % 256; omega))⟩, HK1⟩
      case measure => simp [intOf]
    · have hI := HI.out
      have hK := HK.out
      clear HI HK
      go_wp2_with (go_at_call 118; refine (Tryd.Buffer_WriteByte_kept B b _ _ wr hI (Nat.le_trans hB hK.size) (cells_one _) (cells_len l x 4 3 hl (by omega))).mono ?_; rintro e w1 ⟨rfl, hI1, hb1, hk1⟩; have HI1 := Aside0.mk hI1; have HK1 := Aside0.mk (hK.trans ⟨hb1, hk1⟩); clear hI1 hb1 hk1 hI hK)
      go_roundw
      case rel => exact ⟨4, by omega, by go_num, ⟨Bf.step (k := 3) HI1.out (by omega) (by first | rfl | (show _ = x / 1 % 256; rw [IntKind.wrap_u64]; omega) | (show _ = x / 1 % 256; omega))⟩, HK1⟩
      case measure => simp [intOf]
    · go_wp2
      go_end0
      refine ⟨rfl, ?_, HK.out⟩
      have := HI.out
      rwa [List.take_of_length_le (by rw [layB_len]; exact Nat.le_refl _)] at this
set_option maxHeartbeats 4000000 in
theorem lay_i64 (B b : Nat) (l : List UInt8) (x : Int) (w : World) (h : Bf B b l w) (hB : B ≤ w.heap.size) (hl : l.length + 8 ≤ 140737488355328) :
    Calls Tryd.prog 119 #[.pointer (some ⟨b, 0, none⟩), .int .i64 x, .int .i64 8] w fun e w' => e = .returned (.tuple #[]) ∧ Bf B b (l ++ layB x 8) w' ∧ Kp B b w w' := by
  have H0 := Aside0.mk h
  clear h
  go_enter Tryd.func119, Tryd.ntmps119
  go_wp2
  go_loopw [8] (fun i wr => ∃ k : Nat, k ≤ 8 ∧ i = .int .i64 k ∧ Aside0 (Bf B b (l ++ (layB x 8).take k) wr) ∧ Aside0 (Kp B b w wr)) (fun i _ => 8 - (intOf i).toNat)
  case atStart => exact ⟨0, Nat.zero_le _, rfl, ⟨by rw [List.take_zero, List.append_nil]; exact H0.out⟩, ⟨Kp.refl _ _ _⟩⟩
  case round =>
    obtain ⟨k, hk, rfl, HI, HK⟩ := hrel
    have h' : k = 0 ∨ k = 1 ∨ k = 2 ∨ k = 3 ∨ k = 4 ∨ k = 5 ∨ k = 6 ∨ k = 7 ∨ k = 8 := by omega
    rcases h' with rfl | rfl | rfl | rfl | rfl | rfl | rfl | rfl | rfl
    · have hI := HI.out
      have hK := HK.out
      clear HI HK
      go_wp2_with (go_at_call 118; refine (Tryd.Buffer_WriteByte_kept B b _ _ wr hI (Nat.le_trans hB hK.size) (cells_one _) (cells_len l x 8 0 hl (by omega))).mono ?_; rintro e w1 ⟨rfl, hI1, hb1, hk1⟩; have HI1 := Aside0.mk hI1; have HK1 := Aside0.mk (hK.trans ⟨hb1, hk1⟩); clear hI1 hb1 hk1 hI hK)
      go_roundw
      case rel => exact ⟨1, by omega, by go_num, ⟨Bf.step (k := 0) HI1.out (by omega) (by first | rfl | (show _ = x / 72057594037927936 % 256; rw [IntKind.wrap_u64]; omega) | (show _ = x / 72057594037927936 % 256; omega))⟩, HK1⟩
      case measure => simp [intOf]
    · have hI := HI.out
      have hK := HK.out
      clear HI HK
      go_wp2_with (go_at_call 118; refine (Tryd.Buffer_WriteByte_kept B b _ _ wr hI (Nat.le_trans hB hK.size) (cells_one _) (cells_len l x 8 1 hl (by omega))).mono ?_; rintro e w1 ⟨rfl, hI1, hb1, hk1⟩; have HI1 := Aside0.mk hI1; have HK1 := Aside0.mk (hK.trans ⟨hb1, hk1⟩); clear hI1 hb1 hk1 hI hK)
      go_roundw
      case rel => exact ⟨2, by omega, by go_num, ⟨Bf.step (k := 1) HI1.out (by omega) (by first | rfl | (show _ = x / 281474976710656 % 256; rw [IntKind.wrap_u64]; omega) | (show _ = x / 281474976710656 % 256; omega))⟩, HK1⟩
      case measure => simp [intOf]
    · have hI := HI.out
      have hK := HK.out
      clear HI HK
      go_wp2_with (go_at_call 118; refine (Tryd.Buffer_WriteByte_kept B b _ _ wr hI (Nat.le_trans hB hK.size) (cells_one _) (cells_len l x 8 2 hl (by omega))).mono ?_; rintro e w1 ⟨rfl, hI1, hb1, hk1⟩; have HI1 := Aside0.mk hI1; have HK1 := Aside0.mk (hK.trans ⟨hb1, hk1⟩); clear hI1 hb1 hk1 hI hK)
      go_roundw
      case rel => exact ⟨3, by omega, by go_num, ⟨Bf.step (k := 2) HI1.out (by omega) (by first | rfl | (show _ = x / 1099511627776 % 256; rw [IntKind.wrap_u64]; omega) | (show _ = x / 1099511627776 % 256; omega))⟩, HK1⟩
      case measure => simp [intOf]
    · have hI := HI.out
      have hK := HK.out
      clear HI HK
      go_wp2_with (go_at_call 118; refine (Tryd.Buffer_WriteByte_kept B b _ _ wr hI (Nat.le_trans hB hK.size) (cells_one _) (cells_len l x 8 3 hl (by omega))).mono ?_; rintro e w1 ⟨rfl, hI1, hb1, hk1⟩; have HI1 := Aside0.mk hI1; have HK1 := Aside0.mk (hK.trans ⟨hb1, hk1⟩); clear hI1 hb1 hk1 hI hK)
      go_roundw
      case rel => exact ⟨4, by omega, by go_num, ⟨Bf.step (k := 3) HI1.out (by omega) (by first | rfl | (show _ = x / 4294967296 % 256; rw [IntKind.wrap_u64]; omega) | (show _ = x / 4294967296 % 256; omega))⟩, HK1⟩
      case measure => simp [intOf]
    · have hI := HI.out
      have hK := HK.out
      clear HI HK
      go_wp2_with (go_at_call 118; refine (Tryd.Buffer_WriteByte_kept B b _ _ wr hI (Nat.le_trans hB hK.size) (cells_one _) (cells_len l x 8 4 hl (by omega))).mono ?_; rintro e w1 ⟨rfl, hI1, hb1, hk1⟩; have HI1 := Aside0.mk hI1; have HK1 := Aside0.mk (hK.trans ⟨hb1, hk1⟩); clear hI1 hb1 hk1 hI hK)
      go_roundw
      case rel => exact ⟨5, by omega, by go_num, ⟨Bf.step (k := 4) HI1.out (by omega) (by first | rfl | (show _ = x / 16777216 % 256; rw [IntKind.wrap_u64]; omega) | (show _ = x / 16777216 % 256; omega))⟩, HK1⟩
      case measure => simp [intOf]
    · have hI := HI.out
      have hK := HK.out
      clear HI HK
      go_wp2_with (go_at_call 118; refine (Tryd.Buffer_WriteByte_kept B b _ _ wr hI (Nat.le_trans hB hK.size) (cells_one _) (cells_len l x 8 5 hl (by omega))).mono ?_; rintro e w1 ⟨rfl, hI1, hb1, hk1⟩; have HI1 := Aside0.mk hI1; have HK1 := Aside0.mk (hK.trans ⟨hb1, hk1⟩); clear hI1 hb1 hk1 hI hK)
      go_roundw
      case rel => exact ⟨6, by omega, by go_num, ⟨Bf.step (k := 5) HI1.out (by omega) (by first | rfl | (show _ = x / 65536 % 256; rw [IntKind.wrap_u64]; omega) | (show _ = x / 65536 % 256; omega))⟩, HK1⟩
      case measure => simp [intOf]
    · have hI := HI.out
      have hK := HK.out
      clear HI HK
      go_wp2_with (go_at_call 118; refine (Tryd.Buffer_WriteByte_kept B b _ _ wr hI (Nat.le_trans hB hK.size) (cells_one _) (cells_len l x 8 6 hl (by omega))).mono ?_; rintro e w1 ⟨rfl, hI1, hb1, hk1⟩; have HI1 := Aside0.mk hI1; have HK1 := Aside0.mk (hK.trans ⟨hb1, hk1⟩); clear hI1 hb1 hk1 hI hK)
      go_roundw
      case rel => exact ⟨7, by omega, by go_num, ⟨Bf.step (k := 6) HI1.out (by omega) (by first | rfl | (show _ = x / 256 % 256; rw [IntKind.wrap_u64]; omega) | (show _ = x / 256 % 256; omega))⟩, HK1⟩
      case measure => simp [intOf]
    · have hI := HI.out
      have hK := HK.out
      clear HI HK
      go_wp2_with (go_at_call 118; refine (Tryd.Buffer_WriteByte_kept B b _ _ wr hI (Nat.le_trans hB hK.size) (cells_one _) (cells_len l x 8 7 hl (by omega))).mono ?_; rintro e w1 ⟨rfl, hI1, hb1, hk1⟩; have HI1 := Aside0.mk hI1; have HK1 := Aside0.mk (hK.trans ⟨hb1, hk1⟩); clear hI1 hb1 hk1 hI hK)
      go_roundw
      case rel => exact ⟨8, by omega, by go_num, ⟨Bf.step (k := 7) HI1.out (by omega) (by first | rfl | (show _ = x / 1 % 256; rw [IntKind.wrap_u64]; omega) | (show _ = x / 1 % 256; omega))⟩, HK1⟩
      case measure => simp [intOf]
    · go_wp2
      go_end0
      refine ⟨rfl, ?_, HK.out⟩
      have := HI.out
      rwa [List.take_of_length_le (by rw [layB_len]; exact Nat.le_refl _)] at this
end Go.Proofs.YtbbhjceelghadaaDoor.K
end

section
-- from CodeF
namespace Go.Proofs.YtbbhjceelghadaaDoor.K
open Go Go.RowKit Go.Proofs.YtbbhjceelghadaaDoorW.PrintWords Go.Proofs.YtbbhjceelghadaaDoorW.PrintLast Go.Proofs.YtbbhjceelghadaaDoorW.PrintMore Go.Proofs.YtbbhjceelghadaaDoor.My
theorem flatMap_take_succ {α : Type} (e : α → List UInt8) (z : α) (l : List α) (k : Nat) (h : k < l.length) : (l.take (k + 1)).flatMap e = (l.take k).flatMap e ++ e (l.getD k z) := by
  rw [take_succ_getD z l k h, List.flatMap_append]
  simp
theorem flatMap_take_le {α : Type} (e : α → List UInt8) (l : List α) (k : Nat) : ((l.take k).flatMap e).length ≤ (l.flatMap e).length := by
  conv => rhs; rw [← List.take_append_drop k l, List.flatMap_append, List.length_append]
  omega
theorem ints_len (n : Nat) (l : List Int) : (l.flatMap (layB · n)).length = n * l.length := by
  induction l with
  | nil => rfl
  | cons x l ih => rw [List.flatMap_cons, List.length_append, ih, layB_len, List.length_cons, Nat.mul_add]; omega
theorem rd_nat (l : List Int) (k : Nat) : rd l (k : Int) = l.getD k 0 := by unfold rd; rw [Int.toNat_natCast]
set_option maxHeartbeats 2000000 in
theorem nodes_any (b : Nat) (l : List UInt8) (A : Option Addr) (c : Nat) (ns : List Int) (w0 w : World) (h : Bf w0.heap.size b l w) (hb : Below w0.heap.size w0 w) (hr : Kd.C (Kd.int .i64) w0 A ns.length ns) (hl : l.length + 1 + ns.length ≤ 140737488355328) :
    Calls Tryd.prog 82 #[.pointer (some ⟨b, 0, none⟩), .slice A ns.length c] w fun e w' => e = .returned (.tuple #[]) ∧ Bf w0.heap.size b (l ++ nodesE ns) w' ∧ Kp w0.heap.size b w w' := by
  have HR := Aside0.mk hr
  have H0 := Aside0.mk h
  have HB0 := Aside0.mk hb
  have hm := C_max hr
  clear hr h hb
  go_enter Tryd.func82, Tryd.ntmps82
  go_wp2_with (go_at_call 84; refine (lay_int1 _ _ l _ _ H0.out HB0.out.size (by omega)).mono ?_; rintro e w1 ⟨rfl, hI, hK⟩; have HI1 := Aside0.mk hI; have HK1 := Aside0.mk hK; clear hI hK)
  go_loopw [12] (fun i wr => ∃ k : Nat, k ≤ ns.length ∧ i = .int .i64 k ∧ Aside0 (Bf w0.heap.size b (l ++ layB ns.length 1 ++ (ns.take k).flatMap (layB · 1)) wr) ∧ Aside0 (Kp w0.heap.size b w wr)) (fun i _ => ns.length - (intOf i).toNat)
  case atStart => exact ⟨0, Nat.zero_le _, rfl, ⟨by rw [List.take_zero, List.flatMap_nil, List.append_nil]; exact HI1.out⟩, HK1⟩
  case round =>
    obtain ⟨k, hk, rfl, HI, HK⟩ := hrel
    clear HI1 HK1
    by_cases hlt : k < ns.length
    · obtain ⟨ad, rfl, hx⟩ := Kd.at_int (Kd.C_below HR.out (HB0.out.trans HK.out.1)) (k : Int) (by omega) (by omega)
      rw [rd_nat, Int.toNat_natCast] at hx
      have hts := Aside0.mk (flatMap_take_succ (layB · 1) 0 ns k hlt)
      have hlen : (l ++ layB ns.length 1 ++ (ns.take k).flatMap (layB · 1)).length + 1 ≤ 140737488355328 := by
        rw [List.length_append, List.length_append, layB_len, ints_len, List.length_take]
        omega
      have HL := Aside0.mk hlen
      clear hlen
      generalize ns.getD k 0 = v at hx hts
      go_wp2_with (go_at_call 84; refine (lay_int1 _ _ _ _ _ HI.out (HB0.out.trans HK.out.1).size HL.out).mono ?_; rintro e w1 ⟨rfl, hI, hK⟩; have HI1 := Aside0.mk hI; have HK1 := Aside0.mk (HK.out.trans hK); clear hI hK)
      go_roundw
      case rel => exact ⟨k + 1, by omega, by go_num, ⟨by rw [hts.out, ← List.append_assoc]; exact HI1.out⟩, HK1⟩
      case measure => simp [intOf]; omega
    · obtain rfl : k = ns.length := by omega
      go_wp2
      go_end0
      refine ⟨rfl, ?_, HK.out⟩
      have := HI.out
      rw [List.take_length] at this
      rw [nodesE, ← List.append_assoc]
      exact this
def zFact0 : SFact := z76
theorem rdF_nat (l : List SFact) (k : Nat) : rd_T76 l (k : Int) = l.getD k zFact0 := by unfold rd_T76 zFact0; rw [Int.toNat_natCast]
theorem fact_lenE (f : SFact) : (factE f).length = 9 + 4 * f.f0.length := fact_len f
set_option maxHeartbeats 4000000 in
theorem facts_any (b : Nat) (l : List UInt8) (A : Option Addr) (c : Nat) (fs : List SFact) (w0 w : World) (h : Bf w0.heap.size b l w) (hb : Below w0.heap.size w0 w) (hr : Kd.C k76 w0 A fs.length fs) (hl : l.length + (factsE fs).length ≤ 140737488355328) :
    Calls Tryd.prog 83 #[.pointer (some ⟨b, 0, none⟩), .slice A fs.length c] w fun e w' => e = .returned (.tuple #[]) ∧ Bf w0.heap.size b (l ++ factsE fs) w' ∧ Kp w0.heap.size b w w' := by
  have HR := Aside0.mk hr
  have H0 := Aside0.mk h
  have HB0 := Aside0.mk hb
  have hm := C_max hr
  have hl' : l.length + 4 + (fs.flatMap factE).length ≤ 140737488355328 := by
    unfold factsE at hl
    rw [List.length_append, layB_len] at hl
    omega
  clear hr h hb hl
  go_enter Tryd.func83, Tryd.ntmps83
  go_wp2_with (go_at_call 84; refine (lay_int4 _ _ l _ _ H0.out HB0.out.size (by omega)).mono ?_; rintro e w1 ⟨rfl, hI, hK⟩; have HI1 := Aside0.mk hI; have HK1 := Aside0.mk hK; clear hI hK)
  go_loopw [14] (fun i wr => ∃ k : Nat, k ≤ fs.length ∧ i = .int .i64 k ∧ Aside0 (Bf w0.heap.size b (l ++ layB fs.length 4 ++ (fs.take k).flatMap factE) wr) ∧ Aside0 (Kp w0.heap.size b w wr)) (fun i _ => fs.length - (intOf i).toNat)
  case atStart => exact ⟨0, Nat.zero_le _, rfl, ⟨by rw [List.take_zero, List.flatMap_nil, List.append_nil]; exact HI1.out⟩, HK1⟩
  case round =>
    obtain ⟨k, hk, rfl, HI, HK⟩ := hrel
    clear HI1 HK1
    by_cases hlt : k < fs.length
    · obtain ⟨ad, A1, c1, rfl, hx0, hx1, hl1, hC1⟩ := at_T76 (Kd.C_below HR.out (HB0.out.trans HK.out.1)) (k : Int) (by omega) (by omega)
      have hC0 : Kd.C (Kd.int .i64) w0 A1 (fs.getD k zFact0).f0.length (fs.getD k zFact0).f0 := by
        obtain ⟨ad2, A2, c2, e2, hy0, hy1, hl2, hC2⟩ := at_T76 HR.out (k : Int) (by omega) (by omega)
        have hz := pw_cell_below (HB0.out.trans HK.out.1) hy0
        injection e2 with e2
        subst e2
        rw [hx0] at hz
        injection hz with hz
        injection hz with hz1 hz2 hz3
        subst hz1
        rw [rdF_nat] at hC2
        exact hC2
      rw [rdF_nat] at hx0 hx1 hl1
      rw [Int.toNat_natCast] at hx0 hx1
      clear hC1
      have hts := Aside0.mk (flatMap_take_succ factE zFact0 fs k hlt)
      have hle := flatMap_take_le factE fs (k + 1)
      rw [hts.out, List.length_append, fact_lenE] at hle
      obtain ⟨f, hf⟩ : ∃ f, f = fs.getD k zFact0 := ⟨_, rfl⟩
      rw [← hf] at hx0 hx1 hl1 hC0 hts hle
      clear hf
      have HC0 := Aside0.mk hC0
      have hkm := C_max hC0
      obtain ⟨pre, hpre⟩ : ∃ p, p = l ++ layB fs.length 4 ++ (fs.take k).flatMap factE := ⟨_, rfl⟩
      have hpl : pre.length + 9 + 4 * f.f0.length ≤ 140737488355328 := by
        rw [hpre, List.length_append, List.length_append, layB_len]
        omega
      have hrest : l ++ layB fs.length 4 ++ (fs.take (k + 1)).flatMap factE = pre ++ factE f := by
        rw [hts.out, ← List.append_assoc, hpre]
      rw [← hpre] at HI
      have HREST := Aside0.mk hrest
      clear hts hpre hrest hle hC0 hl'
      obtain ⟨wo, rfl⟩ : ∃ wo : World, wo = wr := ⟨_, rfl⟩
      have HBX := Aside0.mk (Bf.alloc HI.out (.cells #[.slice A1 f.f0.length c1, .int .i64 f.f1] 76))
      have HKX := Aside0.mk (HK.out.alloc (HB0.out.trans HK.out.1).size (.cells #[.slice A1 f.f0.length c1, .int .i64 f.f1] 76))
      have hbne : w.heap.size ≤ w.heap.size := Nat.le_refl _
      have HNE := Aside0.mk (show wo.heap.size ≠ b from by have := HI.out.lt; omega)
      clear hbne
      go_wp2_with (go_at_call 84; refine (lay_int1 _ _ pre _ _ HBX.out (HB0.out.trans HKX.out.1).size (by omega)).mono ?_; rintro e w1 ⟨rfl, hI, hK⟩; have HI1 := Aside0.mk hI; have HK1 := Aside0.mk (HKX.out.trans hK); have hblk := hK.block (heap_new' rfl) HNE.out (by decide); have HBL := Aside0.mk hblk; clear hI hK; have hz0 := (blk_cell hblk 0); have hz1 := (blk_cell hblk 1); have hz0 : w1.cell? ⟨wo.heap.size, 0, none⟩ = some (.slice A1 f.f0.length c1) := hz0.trans rfl; have hz1 : w1.cell? ⟨wo.heap.size, 1, none⟩ = some (.int .i64 f.f1) := hz1.trans rfl; clear hblk)
      clear hz0 hz1
      go_loopw [26] (fun i wi => ∃ m : Nat, m ≤ f.f0.length ∧ i = .int .i64 m ∧ Aside0 (Bf w0.heap.size b (pre ++ layB f.f0.length 1 ++ (f.f0.take m).flatMap (layB · 4)) wi) ∧ Aside0 (Kp w0.heap.size b w wi) ∧ Aside0 (wi.heap[wo.heap.size]? = some (.cells #[.slice A1 f.f0.length c1, .int .i64 f.f1] 76 (0, 0)))) (fun i _ => f.f0.length - (intOf i).toNat)
      case atStart => exact ⟨0, Nat.zero_le _, rfl, ⟨by rw [List.take_zero, List.flatMap_nil, List.append_nil]; exact HI1.out⟩, HK1, HBL⟩
      case round =>
        obtain ⟨m, hmx, rfl, HIm, HKm, HBm⟩ := hrel
        clear HI1 HK1 HBL
        have hcap : (pre ++ layB f.f0.length 1 ++ (f.f0.take m).flatMap (layB · 4)).length + 8 ≤ 140737488355328 := by
          rw [List.length_append, List.length_append, layB_len, ints_len, List.length_take]
          omega
        by_cases hml : m < f.f0.length
        · have HL := Aside0.mk (show (pre ++ layB f.f0.length 1 ++ (f.f0.take m).flatMap (layB · 4)).length + 4 ≤ 140737488355328 from by omega)
          obtain ⟨ad2, rfl, hx⟩ := Kd.at_int (Kd.C_below HC0.out (HB0.out.trans HKm.out.1)) (m : Int) (by omega) (by omega)
          rw [rd_nat, Int.toNat_natCast] at hx
          have hts := Aside0.mk (flatMap_take_succ (layB · 4) 0 f.f0 m hml)
          generalize f.f0.getD m 0 = v at hx hts
          clear hcap
          go_wp2_with (go_at_call 84; refine (lay_int4 _ _ _ _ _ HIm.out (HB0.out.trans HKm.out.1).size HL.out).mono ?_; rintro e w1 ⟨rfl, hI, hK⟩; have HI1 := Aside0.mk hI; have HK1 := Aside0.mk (HKm.out.trans hK); have HB1 := Aside0.mk (hK.block HBm.out HNE.out (by decide)); clear hI hK)
          go_roundw
          case rel => exact ⟨m + 1, by omega, by go_num, ⟨by rw [hts.out, ← List.append_assoc]; exact HI1.out⟩, HK1, HB1⟩
          case measure => simp [intOf]; omega
        · obtain rfl : m = f.f0.length := by omega
          have hI' := HIm.out
          rw [List.take_length] at hI' hcap
          have HI' := Aside0.mk hI'
          have HCAP := Aside0.mk hcap
          clear hI' hcap HIm
          have hz1 : wr.cell? ⟨wo.heap.size, 1, none⟩ = some (.int .i64 f.f1) := (blk_cell HBm.out 1).trans rfl
          go_wp2_with (go_at_call 119; refine (lay_i64 _ _ _ _ _ HI'.out (HB0.out.trans HKm.out.1).size HCAP.out).mono ?_; rintro e w1 ⟨rfl, hI, hK⟩; have HI1 := Aside0.mk hI; have HK1 := Aside0.mk (HKm.out.trans hK); clear hI hK)
          go_roundw
          case rel => exact ⟨k + 1, by omega, by go_num, ⟨by rw [HREST.out, factE, ← List.append_assoc, ← List.append_assoc]; exact HI1.out⟩, HK1⟩
          case measure => simp [intOf]; omega
    · obtain rfl : k = fs.length := by omega
      go_wp2
      go_end0
      refine ⟨rfl, ?_, HK.out⟩
      have := HI.out
      rw [List.take_length] at this
      rw [factsE, ← List.append_assoc]
      exact this
def zEntry0 : SEntry := z124
theorem rdE_nat (l : List SEntry) (k : Nat) : rd_T124 l (k : Int) = l.getD k zEntry0 := by unfold rd_T124 zEntry0; rw [Int.toNat_natCast]
set_option maxHeartbeats 4000000 in
theorem entries_any (b : Nat) (l : List UInt8) (A : Option Addr) (c : Nat) (es : List SEntry) (w0 w : World) (h : Bf w0.heap.size b l w) (hb : Below w0.heap.size w0 w) (hr : Kd.C k124 w0 A es.length es) (hl : l.length + (entriesE es).length ≤ 140737488355328) :
    Calls Tryd.prog 85 #[.pointer (some ⟨b, 0, none⟩), .slice A es.length c] w fun e w' => e = .returned (.tuple #[]) ∧ Bf w0.heap.size b (l ++ entriesE es) w' ∧ Kp w0.heap.size b w w' := by
  have HR := Aside0.mk hr
  have H0 := Aside0.mk h
  have HB0 := Aside0.mk hb
  have hm := C_max hr
  have hl' : l.length + 4 + (es.flatMap entryE).length ≤ 140737488355328 := by
    unfold entriesE at hl
    rw [List.length_append, layB_len] at hl
    omega
  clear hr h hb hl
  go_enter Tryd.func85, Tryd.ntmps85
  go_wp2_with (go_at_call 84; refine (lay_int4 _ _ l _ _ H0.out HB0.out.size (by omega)).mono ?_; rintro e w1 ⟨rfl, hI, hK⟩; have HI1 := Aside0.mk hI; have HK1 := Aside0.mk hK; clear hI hK)
  go_loopw [12] (fun i wr => ∃ k : Nat, k ≤ es.length ∧ i = .int .i64 k ∧ Aside0 (Bf w0.heap.size b (l ++ layB es.length 4 ++ (es.take k).flatMap entryE) wr) ∧ Aside0 (Kp w0.heap.size b w wr)) (fun i _ => es.length - (intOf i).toNat)
  case atStart => exact ⟨0, Nat.zero_le _, rfl, ⟨by rw [List.take_zero, List.flatMap_nil, List.append_nil]; exact HI1.out⟩, HK1⟩
  case round =>
    obtain ⟨k, hk, rfl, HI, HK⟩ := hrel
    clear HI1 HK1
    by_cases hlt : k < es.length
    · obtain ⟨ad, A1, c1, rfl, hx0, hx1, hl1, hC1⟩ := at_T124 (Kd.C_below HR.out (HB0.out.trans HK.out.1)) (k : Int) (by omega) (by omega)
      have hC0 : Kd.C k76 w0 A1 (es.getD k zEntry0).f1.length (es.getD k zEntry0).f1 := by
        obtain ⟨ad2, A2, c2, e2, hy0, hy1, hl2, hC2⟩ := at_T124 HR.out (k : Int) (by omega) (by omega)
        have hz := pw_cell_below (HB0.out.trans HK.out.1) hy1
        injection e2 with e2
        subst e2
        rw [hx1] at hz
        injection hz with hz
        injection hz with hz1 hz2 hz3
        subst hz1
        rw [rdE_nat] at hC2
        exact hC2
      rw [rdE_nat] at hx0 hx1 hl1
      rw [Int.toNat_natCast] at hx0 hx1
      clear hC1
      have hts := Aside0.mk (flatMap_take_succ entryE zEntry0 es k hlt)
      have hle := flatMap_take_le entryE es (k + 1)
      rw [hts.out, List.length_append] at hle
      obtain ⟨f, hf⟩ : ∃ f, f = es.getD k zEntry0 := ⟨_, rfl⟩
      rw [← hf] at hx0 hx1 hl1 hC0 hts hle
      clear hf
      have HC0 := Aside0.mk hC0
      have hkm := C_max hC0
      obtain ⟨pre, hpre⟩ : ∃ p, p = l ++ layB es.length 4 ++ (es.take k).flatMap entryE := ⟨_, rfl⟩
      have hpl : pre.length + 4 + (factsE f.f1).length ≤ 140737488355328 := by
        rw [entryE, List.length_append, layB_len] at hle
        rw [hpre, List.length_append, List.length_append, layB_len]
        omega
      have HPL := Aside0.mk (show (pre ++ layB f.f0 4).length + (factsE f.f1).length ≤ 140737488355328 from by rw [List.length_append, layB_len]; exact hpl)
      have hpl4 : pre.length + 4 ≤ 140737488355328 := by omega
      have HPL4 := Aside0.mk hpl4
      have hrest : l ++ layB es.length 4 ++ (es.take (k + 1)).flatMap entryE = pre ++ entryE f := by
        rw [hts.out, ← List.append_assoc, hpre]
      rw [← hpre] at HI
      have HREST := Aside0.mk hrest
      clear hts hpre hrest hle hC0 hl' hpl hpl4
      obtain ⟨wo, rfl⟩ : ∃ wo : World, wo = wr := ⟨_, rfl⟩
      have HBX := Aside0.mk (Bf.alloc HI.out (.cells #[.int .u32 f.f0, .slice A1 f.f1.length c1] 124))
      have HKX := Aside0.mk (HK.out.alloc (HB0.out.trans HK.out.1).size (.cells #[.int .u32 f.f0, .slice A1 f.f1.length c1] 124))
      have HNE := Aside0.mk (show wo.heap.size ≠ b from by have := HI.out.lt; omega)
      go_wp2_with (first | (go_at_call 81; refine (lay_u32 _ _ pre _ _ HBX.out (HB0.out.trans HKX.out.1).size HPL4.out).mono ?_; rintro e w1 ⟨rfl, hI, hK⟩; have HI1 := Aside0.mk hI; have HK1 := Aside0.mk (HKX.out.trans hK); have hblk := hK.block (heap_new' rfl) HNE.out (by decide); clear hI hK; have hz1 := (blk_cell hblk 1); have hz1 : w1.cell? ⟨wo.heap.size, 1, none⟩ = some (.slice A1 f.f1.length c1) := hz1.trans rfl; clear hblk) | (go_at_call 83; refine (facts_any _ _ _ _ f.f1 w0 _ HI1.out (HB0.out.trans HK1.out.1) HC0.out HPL.out).mono ?_; rintro e w2 ⟨rfl, hI, hK⟩; have HI2 := Aside0.mk hI; have HK2 := Aside0.mk (HK1.out.trans hK); clear hI hK))
      go_roundw
      case rel => exact ⟨k + 1, by omega, by go_num, ⟨by rw [HREST.out, entryE, ← List.append_assoc]; exact HI2.out⟩, HK2⟩
      case measure => simp [intOf]; omega
    · obtain rfl : k = es.length := by omega
      go_wp2
      go_end0
      refine ⟨rfl, ?_, HK.out⟩
      have := HI.out
      rw [List.take_length] at this
      rw [entriesE, ← List.append_assoc]
      exact this
theorem batch_len (l : List SFact) (h : batchB l = true) : (factsE l).length ≤ 5004 := by
  unfold batchB at h
  simp only [Bool.and_eq_true, decide_eq_true_eq, List.all_eq_true] at h
  obtain ⟨h1, h2⟩ := h
  have : ∀ l : List SFact, (∀ f ∈ l, factB f = true) → (l.flatMap factE).length ≤ 25 * l.length := by
    intro l
    induction l with
    | nil => intro _; simp
    | cons f l ih =>
      intro hf
      have h3 := hf f List.mem_cons_self
      unfold factB at h3
      simp only [Bool.and_eq_true, decide_eq_true_eq] at h3
      have := ih (fun g hg => hf g (List.mem_cons_of_mem _ hg))
      rw [List.flatMap_cons, List.length_append, fact_len, List.length_cons]
      omega
  have := this l h2
  unfold factsE
  rw [List.length_append, layB_len]
  omega
theorem history_len (l : List SEntry) (h : historyB l = true) (h5 : l.length ≤ 5000) : (entriesE l).length ≤ 25040004 := by
  have : ∀ l : List SEntry, (∀ e ∈ l, batchB e.f1 = true) → (l.flatMap entryE).length ≤ 5008 * l.length := by
    intro l
    induction l with
    | nil => intro _; simp
    | cons e l ih =>
      intro hf
      have h3 := batch_len _ (hf e List.mem_cons_self)
      have := ih (fun g hg => hf g (List.mem_cons_of_mem _ hg))
      rw [List.flatMap_cons, List.length_append, List.length_cons, entryE, List.length_append, layB_len]
      omega
  have := this l (history_all l h)
  unfold entriesE
  rw [List.length_append, layB_len]
  omega
theorem rises_len (l : List Int) (h : risesB (-1) l = true) : l.length ≤ 6 := by
  have := (rises_bound l (-1) h (by omega)).2
  omega
end Go.Proofs.YtbbhjceelghadaaDoor.K
end

section
-- from CodeE
namespace Go.Proofs.YtbbhjceelghadaaDoor.K
open Go Go.RowKit Go.Proofs.YtbbhjceelghadaaDoorW.PrintWords Go.Proofs.YtbbhjceelghadaaDoorW.PrintLast Go.Proofs.YtbbhjceelghadaaDoorW.PrintMore Go.Proofs.YtbbhjceelghadaaDoor.My
def nums (l : List UInt8) : List Int := l.map fun c => (c.toNat : Int)
theorem nums_len (l : List UInt8) : (nums l).length = l.length := List.length_map ..
/-- What code.Encode answers. -/
def encR (r : SRec) : List Int × Int := if soundB r = true then (if 60000 < (recE r).length then ([], 3) else (nums (recE r), 0)) else ([], 1)
def code_Encode.f (a0_0 : Int) (a0_1 : Int) (a0_2 : Int) (l0_3 : List Int) (l0_4 : List SFact) (a0_5 : Int) (l0_6 : List SSpan) (a0_7 : Int) (a0_8 : Int) (l0_9 : List SEntry) : Option (List Int × Int) :=
  some (encR ⟨a0_0, a0_1, a0_2, l0_3, l0_4, ⟨a0_5, l0_6⟩, a0_7, a0_8, l0_9⟩)
theorem R_of_buf {w : World} {B base : Nat} {v : Value} {l : List UInt8} (h : w.ownsRow B 5 1 v (Lib.byteCells l).length (Lib.byteCells l)) (hb : base ≤ B) : Kd.R (Kd.int .u8) 5 w base (fun _ => True) v (nums l) := by
  refine Kd.R_lower (Kd.R_of_own ?_ (fun _ _ => trivial)) hb
  have e : Lib.byteCells l = encs (Value.int .u8) (nums l) := by simp [Lib.byteCells, encs, nums]
  have e2 : (nums l).length = (Lib.byteCells l).length := by rw [nums_len, Lib.byteCells_length]
  rw [e2, ← e]
  exact h
theorem nodesE_len (l : List Int) : (nodesE l).length = 1 + l.length := by unfold nodesE; rw [List.length_append, layB_len, ints_len]; omega
def EncPost (w : World) (r : List Int × Int) (e : Ending) (w' : World) : Prop := ∃ v0_ : Value, e = .returned (.tuple #[v0_, .int .u16 r.2]) ∧ Kd.R (Kd.int .u8) 5 w' w.heap.size (fun _ => True) v0_ r.1 ∧ Below w.heap.size w w'
theorem recE1 (a1 a2 : Int) (l3 : List Int) (l4 : List SFact) (a5 : Int) (l6 : List SSpan) (a7 a8 : Int) (l9 : List SEntry) : recE ⟨1, a1, a2, l3, l4, ⟨a5, l6⟩, a7, a8, l9⟩ = [] ++ layB 1 1 ++ layB a1 4 ++ nodesE l3 ++ factsE l4 := by
  simp [recE, bodyE]
theorem recE2 (a1 a2 : Int) (l3 : List Int) (l4 : List SFact) (a5 : Int) (l6 : List SSpan) (a7 a8 : Int) (l9 : List SEntry) : recE ⟨2, a1, a2, l3, l4, ⟨a5, l6⟩, a7, a8, l9⟩ = [] ++ layB 2 1 ++ layB a1 4 ++ layB a2 4 ++ nodesE l3 := by
  simp [recE, bodyE]
theorem recE3 (a1 a2 : Int) (l3 : List Int) (l4 : List SFact) (a5 : Int) (l6 : List SSpan) (a7 a8 : Int) (l9 : List SEntry) : recE ⟨3, a1, a2, l3, l4, ⟨a5, l6⟩, a7, a8, l9⟩ = [] ++ layB 3 1 ++ layB a1 4 := by
  simp [recE, bodyE]
theorem recE4 (a1 a2 : Int) (l3 : List Int) (l4 : List SFact) (a5 : Int) (l6 : List SSpan) (a7 a8 : Int) (l9 : List SEntry) : recE ⟨4, a1, a2, l3, l4, ⟨a5, l6⟩, a7, a8, l9⟩ = [] ++ layB 4 1 ++ layB a1 4 := by
  simp [recE, bodyE]
theorem recE5 (a1 a2 : Int) (l3 : List Int) (l4 : List SFact) (a5 : Int) (l6 : List SSpan) (a7 a8 : Int) (l9 : List SEntry) : recE ⟨5, a1, a2, l3, l4, ⟨a5, l6⟩, a7, a8, l9⟩ = [] ++ layB 5 1 ++ layB a1 4 := by
  simp [recE, bodyE]
theorem recE7 (a1 a2 : Int) (l3 : List Int) (l4 : List SFact) (a5 : Int) (l6 : List SSpan) (a7 a8 : Int) (l9 : List SEntry) : recE ⟨7, a1, a2, l3, l4, ⟨a5, l6⟩, a7, a8, l9⟩ = [] ++ layB 7 1 ++ layB a1 4 ++ layB a7 4 ++ layB a8 4 ++ entriesE l9 := by
  simp [recE, bodyE]
theorem recE6 (a1 a2 : Int) (l3 : List Int) (l4 : List SFact) (a5 : Int) (l6 : List SSpan) (a7 a8 : Int) (l9 : List SEntry) : recE ⟨6, a1, a2, l3, l4, ⟨a5, l6⟩, a7, a8, l9⟩ = [] ++ layB 6 1 ++ layB a1 4 ++ layB a5 4 ++ layB l6.length 1 ++ l6.flatMap spanE := by
  simp [recE, bodyE, spansE]
theorem spansE_len (l : List SSpan) : (l.flatMap spanE).length = 5 * l.length := by
  induction l with
  | nil => rfl
  | cons x l ih => rw [List.flatMap_cons, List.length_append, ih, spanE, List.length_append, layB_len, layB_len, List.length_cons]; omega
theorem rdS_nat (l : List SSpan) (k : Nat) : rd_T132 l (k : Int) = l.getD k zSpan := by unfold rd_T132 zSpan; rw [Int.toNat_natCast]
section
variable (a0 a1 a2 : Int) (A3 : Option Addr) (c3 : Nat) (l3 : List Int) (A4 : Option Addr) (c4 : Nat) (l4 : List SFact) (a5 : Int) (A6 : Option Addr) (c6 : Nat) (l6 : List SSpan) (a7 a8 : Int) (A9 : Option Addr) (c9 : Nat) (l9 : List SEntry) (w : World)
  (h3 : Kd.C (Kd.int .i64) w A3 l3.length l3) (d3 : l3.length ≤ c3) (h4 : Kd.C k76 w A4 l4.length l4) (d4 : l4.length ≤ c4) (h6 : Kd.C k132 w A6 l6.length l6) (d6 : l6.length ≤ c6) (h9 : Kd.C k124 w A9 l9.length l9) (d9 : l9.length ≤ c9)
include h3 d3 h4 d4 h6 d6 h9 d9
set_option maxHeartbeats 8000000 in
set_option maxRecDepth 20000 in
theorem enc1_any (hs : soundB ⟨1, a1, a2, l3, l4, ⟨a5, l6⟩, a7, a8, l9⟩ = true) : Calls Tryd.prog 39 #[.agg #[.int .u8 1, .int .u32 a1, .int .u32 a2, .slice A3 l3.length c3, .slice A4 l4.length c4, .int .u32 a5, .slice A6 l6.length c6, .int .i64 a7, .int .i64 a8, .slice A9 l9.length c9]] w (EncPost w (encR ⟨1, a1, a2, l3, l4, ⟨a5, l6⟩, a7, a8, l9⟩)) := by
  have H3 := Aside0.mk h3; have H4 := Aside0.mk h4; have H6 := Aside0.mk h6; have H9 := Aside0.mk h9
  clear h3 h4 h6 h9
  have HS := Aside0.mk hs
  have hl3 : l3.length ≤ 6 ∧ (factsE l4).length ≤ 5004 := by
    have h := HS.out
    rw [sound1, Bool.and_eq_true, Bool.and_eq_true] at h
    exact ⟨rises_len _ h.1.1, batch_len _ h.1.2⟩
  obtain ⟨q3, q4⟩ := hl3
  unfold encR
  rw [if_pos HS.out]
  have hm3 := C_max H3.out
  have hm6 := C_max H6.out
  obtain ⟨X, hX⟩ : ∃ X : List UInt8, X = recE ⟨1, a1, a2, l3, l4, ⟨a5, l6⟩, a7, a8, l9⟩ := ⟨_, rfl⟩
  rw [← hX]
  have HX := Aside0.mk hX
  have HLEN := Aside0.mk (show X.length = _ from congrArg List.length (hX.trans (recE1 _ _ _ _ _ _ _ _ _)))
  clear hs hX
  by_cases hbig : 60000 < X.length
  · rw [if_pos hbig]
    have hbigI : (60000 : Int) < (X.length : Int) := by omega
    clear hbig
    go_enter Tryd.func39, Tryd.ntmps39
    go_wp2_with (first | (go_at_call 41; refine (code_Sound.calls 1 a1 a2 A3 c3 l3 A4 c4 l4 a5 A6 c6 l6 a7 a8 A9 c9 l9 _ _ (Kd.C_below H3.out (by (with_reducible (repeat (first | exact Below.refl _ _ | apply below_alloc | apply below_drew | apply pw_below_drewN | apply below_bytesWorld | (refine below_set ?_ (by first | assumption | omega)) | refine below_step ?_ (by assumption)))))) d3 (Kd.C_below H4.out (by (with_reducible (repeat (first | exact Below.refl _ _ | apply below_alloc | apply below_drew | apply pw_below_drewN | apply below_bytesWorld | (refine below_set ?_ (by first | assumption | omega)) | refine below_step ?_ (by assumption)))))) d4 (Kd.C_below H6.out (by (with_reducible (repeat (first | exact Below.refl _ _ | apply below_alloc | apply below_drew | apply pw_below_drewN | apply below_bytesWorld | (refine below_set ?_ (by first | assumption | omega)) | refine below_step ?_ (by assumption)))))) d6 (Kd.C_below H9.out (by (with_reducible (repeat (first | exact Below.refl _ _ | apply below_alloc | apply below_drew | apply pw_below_drewN | apply below_bytesWorld | (refine below_set ?_ (by first | assumption | omega)) | refine below_step ?_ (by assumption)))))) d9 rfl).mono ?_; rintro e w1 ⟨rfl, hb1⟩; rw [HS.out]; have HBW := Aside0.mk (show Below w.heap.size w w1 from below_step (below_alloc (Below.refl _ _) _) hb1); have HBK := Aside0.mk (heap_below hb1 (heap_new' rfl)); clear hb1; have HI0 := Aside0.mk (Bf.fresh w1); have HK0 := Aside0.mk ((Kp.refl w1.heap.size w1.heap.size w1).alloc (Nat.le_refl _) (.cells #[.slice none 0 0, .int .i64 0, .int .i8 0] 111)); obtain ⟨z0, z1, z2, z3, z4, z5, z6, z7, z8, z9, y0, y1, y2, y3, y4, y5, y6, y7, y8, y9⟩ := ten (heap_old' (o := (.cells #[.slice none 0 0, .int .i64 0, .int .i8 0] 111)) HBK.out); clear y0 y1 y2 y3 y4 y5 y6 y7 y8 y9) | (go_at_call 80; refine (lay_u8 w1.heap.size w1.heap.size _ _ _ HI0.out HK0.out.1.size (by first | omega | (simp only [List.length_append, layB_len, List.length_nil, nodesE_len]; omega))).mono ?_; rintro e w2 ⟨rfl, hI, hK⟩; have HI1 := Aside0.mk hI; have HK1 := Aside0.mk (HK0.out.trans hK); clear hI hK z0 z1 z2 z3 z4 z5 z6 z7 z8 z9; obtain ⟨z0, z1, z2, z3, z4, z5, z6, z7, z8, z9, y0, y1, y2, y3, y4, y5, y6, y7, y8, y9⟩ := ten (heap_below HK1.out.1 HBK.out); clear y0 y1 y2 y3 y4 y5 y6 y7 y8 y9) | (go_at_call 81; refine (lay_u32 w1.heap.size w1.heap.size _ _ _ HI1.out HK1.out.1.size (by first | omega | (simp only [List.length_append, layB_len, List.length_nil, nodesE_len]; omega))).mono ?_; rintro e w3 ⟨rfl, hI, hK⟩; have HI2 := Aside0.mk hI; have HK2 := Aside0.mk (HK1.out.trans hK); clear hI hK z0 z1 z2 z3 z4 z5 z6 z7 z8 z9; obtain ⟨z0, z1, z2, z3, z4, z5, z6, z7, z8, z9, y0, y1, y2, y3, y4, y5, y6, y7, y8, y9⟩ := ten (heap_below HK2.out.1 HBK.out); clear y0 y1 y2 y3 y4 y5 y6 y7 y8 y9) | (go_at_call 82; refine (nodes_any w1.heap.size _ _ _ l3 w1 _ HI2.out HK2.out.1 (Kd.C_below H3.out HBW.out) (by first | omega | (simp only [List.length_append, layB_len, List.length_nil, nodesE_len]; omega))).mono ?_; rintro e w4 ⟨rfl, hI, hK⟩; have HI3 := Aside0.mk hI; have HK3 := Aside0.mk (HK2.out.trans hK); clear hI hK z0 z1 z2 z3 z4 z5 z6 z7 z8 z9; obtain ⟨z0, z1, z2, z3, z4, z5, z6, z7, z8, z9, y0, y1, y2, y3, y4, y5, y6, y7, y8, y9⟩ := ten (heap_below HK3.out.1 HBK.out); clear y0 y1 y2 y3 y4 y5 y6 y7 y8 y9) | (go_at_call 83; refine (facts_any w1.heap.size _ _ _ l4 w1 _ HI3.out HK3.out.1 (Kd.C_below H4.out HBW.out) (by first | omega | (simp only [List.length_append, layB_len, List.length_nil, nodesE_len]; omega))).mono ?_; rintro e w5 ⟨rfl, hI, hK⟩; have HI4 := Aside0.mk hI; have HK4 := Aside0.mk (HK3.out.trans hK); clear hI hK z0 z1 z2 z3 z4 z5 z6 z7 z8 z9; obtain ⟨z0, z1, z2, z3, z4, z5, z6, z7, z8, z9, y0, y1, y2, y3, y4, y5, y6, y7, y8, y9⟩ := ten (heap_below HK4.out.1 HBK.out); clear y0 y1 y2 y3 y4 y5 y6 y7 y8 y9) | (go_at_call 68; refine (Tryd.Buffer_Len w1.heap.size w1.heap.size _ _ (HI4.out)).mono ?_; rintro e wl ⟨rfl, nl, rfl⟩; rw [Lib.byteCells_length, ← HLEN.out]))
    go_ret2
    exact ⟨_, rfl, Kd.R_nil _ _ _ _ _, by have hz := HBW.out; have hy := HK4.out.1; exact pw_below_drewN (below_step hz hy) _⟩
  · rw [if_neg hbig]
    have hbigI : ¬ (60000 : Int) < (X.length : Int) := by omega
    clear hbig
    go_enter Tryd.func39, Tryd.ntmps39
    go_wp2_with (first | (go_at_call 41; refine (code_Sound.calls 1 a1 a2 A3 c3 l3 A4 c4 l4 a5 A6 c6 l6 a7 a8 A9 c9 l9 _ _ (Kd.C_below H3.out (by (with_reducible (repeat (first | exact Below.refl _ _ | apply below_alloc | apply below_drew | apply pw_below_drewN | apply below_bytesWorld | (refine below_set ?_ (by first | assumption | omega)) | refine below_step ?_ (by assumption)))))) d3 (Kd.C_below H4.out (by (with_reducible (repeat (first | exact Below.refl _ _ | apply below_alloc | apply below_drew | apply pw_below_drewN | apply below_bytesWorld | (refine below_set ?_ (by first | assumption | omega)) | refine below_step ?_ (by assumption)))))) d4 (Kd.C_below H6.out (by (with_reducible (repeat (first | exact Below.refl _ _ | apply below_alloc | apply below_drew | apply pw_below_drewN | apply below_bytesWorld | (refine below_set ?_ (by first | assumption | omega)) | refine below_step ?_ (by assumption)))))) d6 (Kd.C_below H9.out (by (with_reducible (repeat (first | exact Below.refl _ _ | apply below_alloc | apply below_drew | apply pw_below_drewN | apply below_bytesWorld | (refine below_set ?_ (by first | assumption | omega)) | refine below_step ?_ (by assumption)))))) d9 rfl).mono ?_; rintro e w1 ⟨rfl, hb1⟩; rw [HS.out]; have HBW := Aside0.mk (show Below w.heap.size w w1 from below_step (below_alloc (Below.refl _ _) _) hb1); have HBK := Aside0.mk (heap_below hb1 (heap_new' rfl)); clear hb1; have HI0 := Aside0.mk (Bf.fresh w1); have HK0 := Aside0.mk ((Kp.refl w1.heap.size w1.heap.size w1).alloc (Nat.le_refl _) (.cells #[.slice none 0 0, .int .i64 0, .int .i8 0] 111)); obtain ⟨z0, z1, z2, z3, z4, z5, z6, z7, z8, z9, y0, y1, y2, y3, y4, y5, y6, y7, y8, y9⟩ := ten (heap_old' (o := (.cells #[.slice none 0 0, .int .i64 0, .int .i8 0] 111)) HBK.out); clear y0 y1 y2 y3 y4 y5 y6 y7 y8 y9) | (go_at_call 80; refine (lay_u8 w1.heap.size w1.heap.size _ _ _ HI0.out HK0.out.1.size (by first | omega | (simp only [List.length_append, layB_len, List.length_nil, nodesE_len]; omega))).mono ?_; rintro e w2 ⟨rfl, hI, hK⟩; have HI1 := Aside0.mk hI; have HK1 := Aside0.mk (HK0.out.trans hK); clear hI hK z0 z1 z2 z3 z4 z5 z6 z7 z8 z9; obtain ⟨z0, z1, z2, z3, z4, z5, z6, z7, z8, z9, y0, y1, y2, y3, y4, y5, y6, y7, y8, y9⟩ := ten (heap_below HK1.out.1 HBK.out); clear y0 y1 y2 y3 y4 y5 y6 y7 y8 y9) | (go_at_call 81; refine (lay_u32 w1.heap.size w1.heap.size _ _ _ HI1.out HK1.out.1.size (by first | omega | (simp only [List.length_append, layB_len, List.length_nil, nodesE_len]; omega))).mono ?_; rintro e w3 ⟨rfl, hI, hK⟩; have HI2 := Aside0.mk hI; have HK2 := Aside0.mk (HK1.out.trans hK); clear hI hK z0 z1 z2 z3 z4 z5 z6 z7 z8 z9; obtain ⟨z0, z1, z2, z3, z4, z5, z6, z7, z8, z9, y0, y1, y2, y3, y4, y5, y6, y7, y8, y9⟩ := ten (heap_below HK2.out.1 HBK.out); clear y0 y1 y2 y3 y4 y5 y6 y7 y8 y9) | (go_at_call 82; refine (nodes_any w1.heap.size _ _ _ l3 w1 _ HI2.out HK2.out.1 (Kd.C_below H3.out HBW.out) (by first | omega | (simp only [List.length_append, layB_len, List.length_nil, nodesE_len]; omega))).mono ?_; rintro e w4 ⟨rfl, hI, hK⟩; have HI3 := Aside0.mk hI; have HK3 := Aside0.mk (HK2.out.trans hK); clear hI hK z0 z1 z2 z3 z4 z5 z6 z7 z8 z9; obtain ⟨z0, z1, z2, z3, z4, z5, z6, z7, z8, z9, y0, y1, y2, y3, y4, y5, y6, y7, y8, y9⟩ := ten (heap_below HK3.out.1 HBK.out); clear y0 y1 y2 y3 y4 y5 y6 y7 y8 y9) | (go_at_call 83; refine (facts_any w1.heap.size _ _ _ l4 w1 _ HI3.out HK3.out.1 (Kd.C_below H4.out HBW.out) (by first | omega | (simp only [List.length_append, layB_len, List.length_nil, nodesE_len]; omega))).mono ?_; rintro e w5 ⟨rfl, hI, hK⟩; have HI4 := Aside0.mk hI; have HK4 := Aside0.mk (HK3.out.trans hK); clear hI hK z0 z1 z2 z3 z4 z5 z6 z7 z8 z9; obtain ⟨z0, z1, z2, z3, z4, z5, z6, z7, z8, z9, y0, y1, y2, y3, y4, y5, y6, y7, y8, y9⟩ := ten (heap_below HK4.out.1 HBK.out); clear y0 y1 y2 y3 y4 y5 y6 y7 y8 y9) | (go_at_call 68; refine (Tryd.Buffer_Len w1.heap.size w1.heap.size _ _ (HI4.out)).mono ?_; rintro e wl ⟨rfl, nl, rfl⟩; rw [Lib.byteCells_length, ← HLEN.out]) | (go_at_call 73; refine (Tryd.Buffer_Bytes w1.heap.size w1.heap.size _ _ (HI4.out.drewN _)).mono ?_; rintro e wb ⟨v, rfl, hv, nb, rfl⟩; have HV := Aside0.mk hv; clear hv))
    go_ret2
    exact ⟨_, rfl, by rw [HX.out, recE1]; exact R_of_buf HV.out HBW.out.size, by have hz := HBW.out; have hy := HK4.out.1; exact pw_below_drewN (below_step hz hy) _⟩
set_option maxHeartbeats 8000000 in
set_option maxRecDepth 20000 in
theorem enc2_any (hs : soundB ⟨2, a1, a2, l3, l4, ⟨a5, l6⟩, a7, a8, l9⟩ = true) : Calls Tryd.prog 39 #[.agg #[.int .u8 2, .int .u32 a1, .int .u32 a2, .slice A3 l3.length c3, .slice A4 l4.length c4, .int .u32 a5, .slice A6 l6.length c6, .int .i64 a7, .int .i64 a8, .slice A9 l9.length c9]] w (EncPost w (encR ⟨2, a1, a2, l3, l4, ⟨a5, l6⟩, a7, a8, l9⟩)) := by
  have H3 := Aside0.mk h3; have H4 := Aside0.mk h4; have H6 := Aside0.mk h6; have H9 := Aside0.mk h9
  clear h3 h4 h6 h9
  have HS := Aside0.mk hs
  have q3 : l3.length ≤ 6 := by
    have h := HS.out
    rw [sound2, Bool.and_eq_true] at h
    exact rises_len _ h.1
  unfold encR
  rw [if_pos HS.out]
  have hm3 := C_max H3.out
  have hm6 := C_max H6.out
  obtain ⟨X, hX⟩ : ∃ X : List UInt8, X = recE ⟨2, a1, a2, l3, l4, ⟨a5, l6⟩, a7, a8, l9⟩ := ⟨_, rfl⟩
  rw [← hX]
  have HX := Aside0.mk hX
  have HLEN := Aside0.mk (show X.length = _ from congrArg List.length (hX.trans (recE2 _ _ _ _ _ _ _ _ _)))
  clear hs hX
  by_cases hbig : 60000 < X.length
  · rw [if_pos hbig]
    have hbigI : (60000 : Int) < (X.length : Int) := by omega
    clear hbig
    go_enter Tryd.func39, Tryd.ntmps39
    go_wp2_with (first | (go_at_call 41; refine (code_Sound.calls 2 a1 a2 A3 c3 l3 A4 c4 l4 a5 A6 c6 l6 a7 a8 A9 c9 l9 _ _ (Kd.C_below H3.out (by (with_reducible (repeat (first | exact Below.refl _ _ | apply below_alloc | apply below_drew | apply pw_below_drewN | apply below_bytesWorld | (refine below_set ?_ (by first | assumption | omega)) | refine below_step ?_ (by assumption)))))) d3 (Kd.C_below H4.out (by (with_reducible (repeat (first | exact Below.refl _ _ | apply below_alloc | apply below_drew | apply pw_below_drewN | apply below_bytesWorld | (refine below_set ?_ (by first | assumption | omega)) | refine below_step ?_ (by assumption)))))) d4 (Kd.C_below H6.out (by (with_reducible (repeat (first | exact Below.refl _ _ | apply below_alloc | apply below_drew | apply pw_below_drewN | apply below_bytesWorld | (refine below_set ?_ (by first | assumption | omega)) | refine below_step ?_ (by assumption)))))) d6 (Kd.C_below H9.out (by (with_reducible (repeat (first | exact Below.refl _ _ | apply below_alloc | apply below_drew | apply pw_below_drewN | apply below_bytesWorld | (refine below_set ?_ (by first | assumption | omega)) | refine below_step ?_ (by assumption)))))) d9 rfl).mono ?_; rintro e w1 ⟨rfl, hb1⟩; rw [HS.out]; have HBW := Aside0.mk (show Below w.heap.size w w1 from below_step (below_alloc (Below.refl _ _) _) hb1); have HBK := Aside0.mk (heap_below hb1 (heap_new' rfl)); clear hb1; have HI0 := Aside0.mk (Bf.fresh w1); have HK0 := Aside0.mk ((Kp.refl w1.heap.size w1.heap.size w1).alloc (Nat.le_refl _) (.cells #[.slice none 0 0, .int .i64 0, .int .i8 0] 111)); obtain ⟨z0, z1, z2, z3, z4, z5, z6, z7, z8, z9, y0, y1, y2, y3, y4, y5, y6, y7, y8, y9⟩ := ten (heap_old' (o := (.cells #[.slice none 0 0, .int .i64 0, .int .i8 0] 111)) HBK.out); clear y0 y1 y2 y3 y4 y5 y6 y7 y8 y9) | (go_at_call 80; refine (lay_u8 w1.heap.size w1.heap.size _ _ _ HI0.out HK0.out.1.size (by first | omega | (simp only [List.length_append, layB_len, List.length_nil, nodesE_len]; omega))).mono ?_; rintro e w2 ⟨rfl, hI, hK⟩; have HI1 := Aside0.mk hI; have HK1 := Aside0.mk (HK0.out.trans hK); clear hI hK z0 z1 z2 z3 z4 z5 z6 z7 z8 z9; obtain ⟨z0, z1, z2, z3, z4, z5, z6, z7, z8, z9, y0, y1, y2, y3, y4, y5, y6, y7, y8, y9⟩ := ten (heap_below HK1.out.1 HBK.out); clear y0 y1 y2 y3 y4 y5 y6 y7 y8 y9) | (go_at_call 81; refine (lay_u32 w1.heap.size w1.heap.size _ _ _ HI1.out HK1.out.1.size (by first | omega | (simp only [List.length_append, layB_len, List.length_nil, nodesE_len]; omega))).mono ?_; rintro e w3 ⟨rfl, hI, hK⟩; have HI2 := Aside0.mk hI; have HK2 := Aside0.mk (HK1.out.trans hK); clear hI hK z0 z1 z2 z3 z4 z5 z6 z7 z8 z9; obtain ⟨z0, z1, z2, z3, z4, z5, z6, z7, z8, z9, y0, y1, y2, y3, y4, y5, y6, y7, y8, y9⟩ := ten (heap_below HK2.out.1 HBK.out); clear y0 y1 y2 y3 y4 y5 y6 y7 y8 y9) | (go_at_call 81; refine (lay_u32 w1.heap.size w1.heap.size _ _ _ HI2.out HK2.out.1.size (by first | omega | (simp only [List.length_append, layB_len, List.length_nil, nodesE_len]; omega))).mono ?_; rintro e w4 ⟨rfl, hI, hK⟩; have HI3 := Aside0.mk hI; have HK3 := Aside0.mk (HK2.out.trans hK); clear hI hK z0 z1 z2 z3 z4 z5 z6 z7 z8 z9; obtain ⟨z0, z1, z2, z3, z4, z5, z6, z7, z8, z9, y0, y1, y2, y3, y4, y5, y6, y7, y8, y9⟩ := ten (heap_below HK3.out.1 HBK.out); clear y0 y1 y2 y3 y4 y5 y6 y7 y8 y9) | (go_at_call 82; refine (nodes_any w1.heap.size _ _ _ l3 w1 _ HI3.out HK3.out.1 (Kd.C_below H3.out HBW.out) (by first | omega | (simp only [List.length_append, layB_len, List.length_nil, nodesE_len]; omega))).mono ?_; rintro e w5 ⟨rfl, hI, hK⟩; have HI4 := Aside0.mk hI; have HK4 := Aside0.mk (HK3.out.trans hK); clear hI hK z0 z1 z2 z3 z4 z5 z6 z7 z8 z9; obtain ⟨z0, z1, z2, z3, z4, z5, z6, z7, z8, z9, y0, y1, y2, y3, y4, y5, y6, y7, y8, y9⟩ := ten (heap_below HK4.out.1 HBK.out); clear y0 y1 y2 y3 y4 y5 y6 y7 y8 y9) | (go_at_call 68; refine (Tryd.Buffer_Len w1.heap.size w1.heap.size _ _ (HI4.out)).mono ?_; rintro e wl ⟨rfl, nl, rfl⟩; rw [Lib.byteCells_length, ← HLEN.out]))
    go_ret2
    exact ⟨_, rfl, Kd.R_nil _ _ _ _ _, by have hz := HBW.out; have hy := HK4.out.1; exact pw_below_drewN (below_step hz hy) _⟩
  · rw [if_neg hbig]
    have hbigI : ¬ (60000 : Int) < (X.length : Int) := by omega
    clear hbig
    go_enter Tryd.func39, Tryd.ntmps39
    go_wp2_with (first | (go_at_call 41; refine (code_Sound.calls 2 a1 a2 A3 c3 l3 A4 c4 l4 a5 A6 c6 l6 a7 a8 A9 c9 l9 _ _ (Kd.C_below H3.out (by (with_reducible (repeat (first | exact Below.refl _ _ | apply below_alloc | apply below_drew | apply pw_below_drewN | apply below_bytesWorld | (refine below_set ?_ (by first | assumption | omega)) | refine below_step ?_ (by assumption)))))) d3 (Kd.C_below H4.out (by (with_reducible (repeat (first | exact Below.refl _ _ | apply below_alloc | apply below_drew | apply pw_below_drewN | apply below_bytesWorld | (refine below_set ?_ (by first | assumption | omega)) | refine below_step ?_ (by assumption)))))) d4 (Kd.C_below H6.out (by (with_reducible (repeat (first | exact Below.refl _ _ | apply below_alloc | apply below_drew | apply pw_below_drewN | apply below_bytesWorld | (refine below_set ?_ (by first | assumption | omega)) | refine below_step ?_ (by assumption)))))) d6 (Kd.C_below H9.out (by (with_reducible (repeat (first | exact Below.refl _ _ | apply below_alloc | apply below_drew | apply pw_below_drewN | apply below_bytesWorld | (refine below_set ?_ (by first | assumption | omega)) | refine below_step ?_ (by assumption)))))) d9 rfl).mono ?_; rintro e w1 ⟨rfl, hb1⟩; rw [HS.out]; have HBW := Aside0.mk (show Below w.heap.size w w1 from below_step (below_alloc (Below.refl _ _) _) hb1); have HBK := Aside0.mk (heap_below hb1 (heap_new' rfl)); clear hb1; have HI0 := Aside0.mk (Bf.fresh w1); have HK0 := Aside0.mk ((Kp.refl w1.heap.size w1.heap.size w1).alloc (Nat.le_refl _) (.cells #[.slice none 0 0, .int .i64 0, .int .i8 0] 111)); obtain ⟨z0, z1, z2, z3, z4, z5, z6, z7, z8, z9, y0, y1, y2, y3, y4, y5, y6, y7, y8, y9⟩ := ten (heap_old' (o := (.cells #[.slice none 0 0, .int .i64 0, .int .i8 0] 111)) HBK.out); clear y0 y1 y2 y3 y4 y5 y6 y7 y8 y9) | (go_at_call 80; refine (lay_u8 w1.heap.size w1.heap.size _ _ _ HI0.out HK0.out.1.size (by first | omega | (simp only [List.length_append, layB_len, List.length_nil, nodesE_len]; omega))).mono ?_; rintro e w2 ⟨rfl, hI, hK⟩; have HI1 := Aside0.mk hI; have HK1 := Aside0.mk (HK0.out.trans hK); clear hI hK z0 z1 z2 z3 z4 z5 z6 z7 z8 z9; obtain ⟨z0, z1, z2, z3, z4, z5, z6, z7, z8, z9, y0, y1, y2, y3, y4, y5, y6, y7, y8, y9⟩ := ten (heap_below HK1.out.1 HBK.out); clear y0 y1 y2 y3 y4 y5 y6 y7 y8 y9) | (go_at_call 81; refine (lay_u32 w1.heap.size w1.heap.size _ _ _ HI1.out HK1.out.1.size (by first | omega | (simp only [List.length_append, layB_len, List.length_nil, nodesE_len]; omega))).mono ?_; rintro e w3 ⟨rfl, hI, hK⟩; have HI2 := Aside0.mk hI; have HK2 := Aside0.mk (HK1.out.trans hK); clear hI hK z0 z1 z2 z3 z4 z5 z6 z7 z8 z9; obtain ⟨z0, z1, z2, z3, z4, z5, z6, z7, z8, z9, y0, y1, y2, y3, y4, y5, y6, y7, y8, y9⟩ := ten (heap_below HK2.out.1 HBK.out); clear y0 y1 y2 y3 y4 y5 y6 y7 y8 y9) | (go_at_call 81; refine (lay_u32 w1.heap.size w1.heap.size _ _ _ HI2.out HK2.out.1.size (by first | omega | (simp only [List.length_append, layB_len, List.length_nil, nodesE_len]; omega))).mono ?_; rintro e w4 ⟨rfl, hI, hK⟩; have HI3 := Aside0.mk hI; have HK3 := Aside0.mk (HK2.out.trans hK); clear hI hK z0 z1 z2 z3 z4 z5 z6 z7 z8 z9; obtain ⟨z0, z1, z2, z3, z4, z5, z6, z7, z8, z9, y0, y1, y2, y3, y4, y5, y6, y7, y8, y9⟩ := ten (heap_below HK3.out.1 HBK.out); clear y0 y1 y2 y3 y4 y5 y6 y7 y8 y9) | (go_at_call 82; refine (nodes_any w1.heap.size _ _ _ l3 w1 _ HI3.out HK3.out.1 (Kd.C_below H3.out HBW.out) (by first | omega | (simp only [List.length_append, layB_len, List.length_nil, nodesE_len]; omega))).mono ?_; rintro e w5 ⟨rfl, hI, hK⟩; have HI4 := Aside0.mk hI; have HK4 := Aside0.mk (HK3.out.trans hK); clear hI hK z0 z1 z2 z3 z4 z5 z6 z7 z8 z9; obtain ⟨z0, z1, z2, z3, z4, z5, z6, z7, z8, z9, y0, y1, y2, y3, y4, y5, y6, y7, y8, y9⟩ := ten (heap_below HK4.out.1 HBK.out); clear y0 y1 y2 y3 y4 y5 y6 y7 y8 y9) | (go_at_call 68; refine (Tryd.Buffer_Len w1.heap.size w1.heap.size _ _ (HI4.out)).mono ?_; rintro e wl ⟨rfl, nl, rfl⟩; rw [Lib.byteCells_length, ← HLEN.out]) | (go_at_call 73; refine (Tryd.Buffer_Bytes w1.heap.size w1.heap.size _ _ (HI4.out.drewN _)).mono ?_; rintro e wb ⟨v, rfl, hv, nb, rfl⟩; have HV := Aside0.mk hv; clear hv))
    go_ret2
    exact ⟨_, rfl, by rw [HX.out, recE2]; exact R_of_buf HV.out HBW.out.size, by have hz := HBW.out; have hy := HK4.out.1; exact pw_below_drewN (below_step hz hy) _⟩
set_option maxHeartbeats 8000000 in
set_option maxRecDepth 20000 in
theorem enc3_any (hs : soundB ⟨3, a1, a2, l3, l4, ⟨a5, l6⟩, a7, a8, l9⟩ = true) : Calls Tryd.prog 39 #[.agg #[.int .u8 3, .int .u32 a1, .int .u32 a2, .slice A3 l3.length c3, .slice A4 l4.length c4, .int .u32 a5, .slice A6 l6.length c6, .int .i64 a7, .int .i64 a8, .slice A9 l9.length c9]] w (EncPost w (encR ⟨3, a1, a2, l3, l4, ⟨a5, l6⟩, a7, a8, l9⟩)) := by
  have H3 := Aside0.mk h3; have H4 := Aside0.mk h4; have H6 := Aside0.mk h6; have H9 := Aside0.mk h9
  clear h3 h4 h6 h9
  have HS := Aside0.mk hs

  unfold encR
  rw [if_pos HS.out]
  have hm3 := C_max H3.out
  have hm6 := C_max H6.out
  obtain ⟨X, hX⟩ : ∃ X : List UInt8, X = recE ⟨3, a1, a2, l3, l4, ⟨a5, l6⟩, a7, a8, l9⟩ := ⟨_, rfl⟩
  rw [← hX]
  have HX := Aside0.mk hX
  have HLEN := Aside0.mk (show X.length = _ from congrArg List.length (hX.trans (recE3 _ _ _ _ _ _ _ _ _)))
  clear hs hX
  by_cases hbig : 60000 < X.length
  · rw [if_pos hbig]
    have hbigI : (60000 : Int) < (X.length : Int) := by omega
    clear hbig
    go_enter Tryd.func39, Tryd.ntmps39
    go_wp2_with (first | (go_at_call 41; refine (code_Sound.calls 3 a1 a2 A3 c3 l3 A4 c4 l4 a5 A6 c6 l6 a7 a8 A9 c9 l9 _ _ (Kd.C_below H3.out (by (with_reducible (repeat (first | exact Below.refl _ _ | apply below_alloc | apply below_drew | apply pw_below_drewN | apply below_bytesWorld | (refine below_set ?_ (by first | assumption | omega)) | refine below_step ?_ (by assumption)))))) d3 (Kd.C_below H4.out (by (with_reducible (repeat (first | exact Below.refl _ _ | apply below_alloc | apply below_drew | apply pw_below_drewN | apply below_bytesWorld | (refine below_set ?_ (by first | assumption | omega)) | refine below_step ?_ (by assumption)))))) d4 (Kd.C_below H6.out (by (with_reducible (repeat (first | exact Below.refl _ _ | apply below_alloc | apply below_drew | apply pw_below_drewN | apply below_bytesWorld | (refine below_set ?_ (by first | assumption | omega)) | refine below_step ?_ (by assumption)))))) d6 (Kd.C_below H9.out (by (with_reducible (repeat (first | exact Below.refl _ _ | apply below_alloc | apply below_drew | apply pw_below_drewN | apply below_bytesWorld | (refine below_set ?_ (by first | assumption | omega)) | refine below_step ?_ (by assumption)))))) d9 rfl).mono ?_; rintro e w1 ⟨rfl, hb1⟩; rw [HS.out]; have HBW := Aside0.mk (show Below w.heap.size w w1 from below_step (below_alloc (Below.refl _ _) _) hb1); have HBK := Aside0.mk (heap_below hb1 (heap_new' rfl)); clear hb1; have HI0 := Aside0.mk (Bf.fresh w1); have HK0 := Aside0.mk ((Kp.refl w1.heap.size w1.heap.size w1).alloc (Nat.le_refl _) (.cells #[.slice none 0 0, .int .i64 0, .int .i8 0] 111)); obtain ⟨z0, z1, z2, z3, z4, z5, z6, z7, z8, z9, y0, y1, y2, y3, y4, y5, y6, y7, y8, y9⟩ := ten (heap_old' (o := (.cells #[.slice none 0 0, .int .i64 0, .int .i8 0] 111)) HBK.out); clear y0 y1 y2 y3 y4 y5 y6 y7 y8 y9) | (go_at_call 80; refine (lay_u8 w1.heap.size w1.heap.size _ _ _ HI0.out HK0.out.1.size (by first | omega | (simp only [List.length_append, layB_len, List.length_nil, nodesE_len]; omega))).mono ?_; rintro e w2 ⟨rfl, hI, hK⟩; have HI1 := Aside0.mk hI; have HK1 := Aside0.mk (HK0.out.trans hK); clear hI hK z0 z1 z2 z3 z4 z5 z6 z7 z8 z9; obtain ⟨z0, z1, z2, z3, z4, z5, z6, z7, z8, z9, y0, y1, y2, y3, y4, y5, y6, y7, y8, y9⟩ := ten (heap_below HK1.out.1 HBK.out); clear y0 y1 y2 y3 y4 y5 y6 y7 y8 y9) | (go_at_call 81; refine (lay_u32 w1.heap.size w1.heap.size _ _ _ HI1.out HK1.out.1.size (by first | omega | (simp only [List.length_append, layB_len, List.length_nil, nodesE_len]; omega))).mono ?_; rintro e w3 ⟨rfl, hI, hK⟩; have HI2 := Aside0.mk hI; have HK2 := Aside0.mk (HK1.out.trans hK); clear hI hK z0 z1 z2 z3 z4 z5 z6 z7 z8 z9; obtain ⟨z0, z1, z2, z3, z4, z5, z6, z7, z8, z9, y0, y1, y2, y3, y4, y5, y6, y7, y8, y9⟩ := ten (heap_below HK2.out.1 HBK.out); clear y0 y1 y2 y3 y4 y5 y6 y7 y8 y9) | (go_at_call 68; refine (Tryd.Buffer_Len w1.heap.size w1.heap.size _ _ (HI2.out)).mono ?_; rintro e wl ⟨rfl, nl, rfl⟩; rw [Lib.byteCells_length, ← HLEN.out]))
    go_ret2
    exact ⟨_, rfl, Kd.R_nil _ _ _ _ _, by have hz := HBW.out; have hy := HK2.out.1; exact pw_below_drewN (below_step hz hy) _⟩
  · rw [if_neg hbig]
    have hbigI : ¬ (60000 : Int) < (X.length : Int) := by omega
    clear hbig
    go_enter Tryd.func39, Tryd.ntmps39
    go_wp2_with (first | (go_at_call 41; refine (code_Sound.calls 3 a1 a2 A3 c3 l3 A4 c4 l4 a5 A6 c6 l6 a7 a8 A9 c9 l9 _ _ (Kd.C_below H3.out (by (with_reducible (repeat (first | exact Below.refl _ _ | apply below_alloc | apply below_drew | apply pw_below_drewN | apply below_bytesWorld | (refine below_set ?_ (by first | assumption | omega)) | refine below_step ?_ (by assumption)))))) d3 (Kd.C_below H4.out (by (with_reducible (repeat (first | exact Below.refl _ _ | apply below_alloc | apply below_drew | apply pw_below_drewN | apply below_bytesWorld | (refine below_set ?_ (by first | assumption | omega)) | refine below_step ?_ (by assumption)))))) d4 (Kd.C_below H6.out (by (with_reducible (repeat (first | exact Below.refl _ _ | apply below_alloc | apply below_drew | apply pw_below_drewN | apply below_bytesWorld | (refine below_set ?_ (by first | assumption | omega)) | refine below_step ?_ (by assumption)))))) d6 (Kd.C_below H9.out (by (with_reducible (repeat (first | exact Below.refl _ _ | apply below_alloc | apply below_drew | apply pw_below_drewN | apply below_bytesWorld | (refine below_set ?_ (by first | assumption | omega)) | refine below_step ?_ (by assumption)))))) d9 rfl).mono ?_; rintro e w1 ⟨rfl, hb1⟩; rw [HS.out]; have HBW := Aside0.mk (show Below w.heap.size w w1 from below_step (below_alloc (Below.refl _ _) _) hb1); have HBK := Aside0.mk (heap_below hb1 (heap_new' rfl)); clear hb1; have HI0 := Aside0.mk (Bf.fresh w1); have HK0 := Aside0.mk ((Kp.refl w1.heap.size w1.heap.size w1).alloc (Nat.le_refl _) (.cells #[.slice none 0 0, .int .i64 0, .int .i8 0] 111)); obtain ⟨z0, z1, z2, z3, z4, z5, z6, z7, z8, z9, y0, y1, y2, y3, y4, y5, y6, y7, y8, y9⟩ := ten (heap_old' (o := (.cells #[.slice none 0 0, .int .i64 0, .int .i8 0] 111)) HBK.out); clear y0 y1 y2 y3 y4 y5 y6 y7 y8 y9) | (go_at_call 80; refine (lay_u8 w1.heap.size w1.heap.size _ _ _ HI0.out HK0.out.1.size (by first | omega | (simp only [List.length_append, layB_len, List.length_nil, nodesE_len]; omega))).mono ?_; rintro e w2 ⟨rfl, hI, hK⟩; have HI1 := Aside0.mk hI; have HK1 := Aside0.mk (HK0.out.trans hK); clear hI hK z0 z1 z2 z3 z4 z5 z6 z7 z8 z9; obtain ⟨z0, z1, z2, z3, z4, z5, z6, z7, z8, z9, y0, y1, y2, y3, y4, y5, y6, y7, y8, y9⟩ := ten (heap_below HK1.out.1 HBK.out); clear y0 y1 y2 y3 y4 y5 y6 y7 y8 y9) | (go_at_call 81; refine (lay_u32 w1.heap.size w1.heap.size _ _ _ HI1.out HK1.out.1.size (by first | omega | (simp only [List.length_append, layB_len, List.length_nil, nodesE_len]; omega))).mono ?_; rintro e w3 ⟨rfl, hI, hK⟩; have HI2 := Aside0.mk hI; have HK2 := Aside0.mk (HK1.out.trans hK); clear hI hK z0 z1 z2 z3 z4 z5 z6 z7 z8 z9; obtain ⟨z0, z1, z2, z3, z4, z5, z6, z7, z8, z9, y0, y1, y2, y3, y4, y5, y6, y7, y8, y9⟩ := ten (heap_below HK2.out.1 HBK.out); clear y0 y1 y2 y3 y4 y5 y6 y7 y8 y9) | (go_at_call 68; refine (Tryd.Buffer_Len w1.heap.size w1.heap.size _ _ (HI2.out)).mono ?_; rintro e wl ⟨rfl, nl, rfl⟩; rw [Lib.byteCells_length, ← HLEN.out]) | (go_at_call 73; refine (Tryd.Buffer_Bytes w1.heap.size w1.heap.size _ _ (HI2.out.drewN _)).mono ?_; rintro e wb ⟨v, rfl, hv, nb, rfl⟩; have HV := Aside0.mk hv; clear hv))
    go_ret2
    exact ⟨_, rfl, by rw [HX.out, recE3]; exact R_of_buf HV.out HBW.out.size, by have hz := HBW.out; have hy := HK2.out.1; exact pw_below_drewN (below_step hz hy) _⟩
set_option maxHeartbeats 8000000 in
set_option maxRecDepth 20000 in
theorem enc4_any (hs : soundB ⟨4, a1, a2, l3, l4, ⟨a5, l6⟩, a7, a8, l9⟩ = true) : Calls Tryd.prog 39 #[.agg #[.int .u8 4, .int .u32 a1, .int .u32 a2, .slice A3 l3.length c3, .slice A4 l4.length c4, .int .u32 a5, .slice A6 l6.length c6, .int .i64 a7, .int .i64 a8, .slice A9 l9.length c9]] w (EncPost w (encR ⟨4, a1, a2, l3, l4, ⟨a5, l6⟩, a7, a8, l9⟩)) := by
  have H3 := Aside0.mk h3; have H4 := Aside0.mk h4; have H6 := Aside0.mk h6; have H9 := Aside0.mk h9
  clear h3 h4 h6 h9
  have HS := Aside0.mk hs

  unfold encR
  rw [if_pos HS.out]
  have hm3 := C_max H3.out
  have hm6 := C_max H6.out
  obtain ⟨X, hX⟩ : ∃ X : List UInt8, X = recE ⟨4, a1, a2, l3, l4, ⟨a5, l6⟩, a7, a8, l9⟩ := ⟨_, rfl⟩
  rw [← hX]
  have HX := Aside0.mk hX
  have HLEN := Aside0.mk (show X.length = _ from congrArg List.length (hX.trans (recE4 _ _ _ _ _ _ _ _ _)))
  clear hs hX
  by_cases hbig : 60000 < X.length
  · rw [if_pos hbig]
    have hbigI : (60000 : Int) < (X.length : Int) := by omega
    clear hbig
    go_enter Tryd.func39, Tryd.ntmps39
    go_wp2_with (first | (go_at_call 41; refine (code_Sound.calls 4 a1 a2 A3 c3 l3 A4 c4 l4 a5 A6 c6 l6 a7 a8 A9 c9 l9 _ _ (Kd.C_below H3.out (by (with_reducible (repeat (first | exact Below.refl _ _ | apply below_alloc | apply below_drew | apply pw_below_drewN | apply below_bytesWorld | (refine below_set ?_ (by first | assumption | omega)) | refine below_step ?_ (by assumption)))))) d3 (Kd.C_below H4.out (by (with_reducible (repeat (first | exact Below.refl _ _ | apply below_alloc | apply below_drew | apply pw_below_drewN | apply below_bytesWorld | (refine below_set ?_ (by first | assumption | omega)) | refine below_step ?_ (by assumption)))))) d4 (Kd.C_below H6.out (by (with_reducible (repeat (first | exact Below.refl _ _ | apply below_alloc | apply below_drew | apply pw_below_drewN | apply below_bytesWorld | (refine below_set ?_ (by first | assumption | omega)) | refine below_step ?_ (by assumption)))))) d6 (Kd.C_below H9.out (by (with_reducible (repeat (first | exact Below.refl _ _ | apply below_alloc | apply below_drew | apply pw_below_drewN | apply below_bytesWorld | (refine below_set ?_ (by first | assumption | omega)) | refine below_step ?_ (by assumption)))))) d9 rfl).mono ?_; rintro e w1 ⟨rfl, hb1⟩; rw [HS.out]; have HBW := Aside0.mk (show Below w.heap.size w w1 from below_step (below_alloc (Below.refl _ _) _) hb1); have HBK := Aside0.mk (heap_below hb1 (heap_new' rfl)); clear hb1; have HI0 := Aside0.mk (Bf.fresh w1); have HK0 := Aside0.mk ((Kp.refl w1.heap.size w1.heap.size w1).alloc (Nat.le_refl _) (.cells #[.slice none 0 0, .int .i64 0, .int .i8 0] 111)); obtain ⟨z0, z1, z2, z3, z4, z5, z6, z7, z8, z9, y0, y1, y2, y3, y4, y5, y6, y7, y8, y9⟩ := ten (heap_old' (o := (.cells #[.slice none 0 0, .int .i64 0, .int .i8 0] 111)) HBK.out); clear y0 y1 y2 y3 y4 y5 y6 y7 y8 y9) | (go_at_call 80; refine (lay_u8 w1.heap.size w1.heap.size _ _ _ HI0.out HK0.out.1.size (by first | omega | (simp only [List.length_append, layB_len, List.length_nil, nodesE_len]; omega))).mono ?_; rintro e w2 ⟨rfl, hI, hK⟩; have HI1 := Aside0.mk hI; have HK1 := Aside0.mk (HK0.out.trans hK); clear hI hK z0 z1 z2 z3 z4 z5 z6 z7 z8 z9; obtain ⟨z0, z1, z2, z3, z4, z5, z6, z7, z8, z9, y0, y1, y2, y3, y4, y5, y6, y7, y8, y9⟩ := ten (heap_below HK1.out.1 HBK.out); clear y0 y1 y2 y3 y4 y5 y6 y7 y8 y9) | (go_at_call 81; refine (lay_u32 w1.heap.size w1.heap.size _ _ _ HI1.out HK1.out.1.size (by first | omega | (simp only [List.length_append, layB_len, List.length_nil, nodesE_len]; omega))).mono ?_; rintro e w3 ⟨rfl, hI, hK⟩; have HI2 := Aside0.mk hI; have HK2 := Aside0.mk (HK1.out.trans hK); clear hI hK z0 z1 z2 z3 z4 z5 z6 z7 z8 z9; obtain ⟨z0, z1, z2, z3, z4, z5, z6, z7, z8, z9, y0, y1, y2, y3, y4, y5, y6, y7, y8, y9⟩ := ten (heap_below HK2.out.1 HBK.out); clear y0 y1 y2 y3 y4 y5 y6 y7 y8 y9) | (go_at_call 68; refine (Tryd.Buffer_Len w1.heap.size w1.heap.size _ _ (HI2.out)).mono ?_; rintro e wl ⟨rfl, nl, rfl⟩; rw [Lib.byteCells_length, ← HLEN.out]))
    go_ret2
    exact ⟨_, rfl, Kd.R_nil _ _ _ _ _, by have hz := HBW.out; have hy := HK2.out.1; exact pw_below_drewN (below_step hz hy) _⟩
  · rw [if_neg hbig]
    have hbigI : ¬ (60000 : Int) < (X.length : Int) := by omega
    clear hbig
    go_enter Tryd.func39, Tryd.ntmps39
    go_wp2_with (first | (go_at_call 41; refine (code_Sound.calls 4 a1 a2 A3 c3 l3 A4 c4 l4 a5 A6 c6 l6 a7 a8 A9 c9 l9 _ _ (Kd.C_below H3.out (by (with_reducible (repeat (first | exact Below.refl _ _ | apply below_alloc | apply below_drew | apply pw_below_drewN | apply below_bytesWorld | (refine below_set ?_ (by first | assumption | omega)) | refine below_step ?_ (by assumption)))))) d3 (Kd.C_below H4.out (by (with_reducible (repeat (first | exact Below.refl _ _ | apply below_alloc | apply below_drew | apply pw_below_drewN | apply below_bytesWorld | (refine below_set ?_ (by first | assumption | omega)) | refine below_step ?_ (by assumption)))))) d4 (Kd.C_below H6.out (by (with_reducible (repeat (first | exact Below.refl _ _ | apply below_alloc | apply below_drew | apply pw_below_drewN | apply below_bytesWorld | (refine below_set ?_ (by first | assumption | omega)) | refine below_step ?_ (by assumption)))))) d6 (Kd.C_below H9.out (by (with_reducible (repeat (first | exact Below.refl _ _ | apply below_alloc | apply below_drew | apply pw_below_drewN | apply below_bytesWorld | (refine below_set ?_ (by first | assumption | omega)) | refine below_step ?_ (by assumption)))))) d9 rfl).mono ?_; rintro e w1 ⟨rfl, hb1⟩; rw [HS.out]; have HBW := Aside0.mk (show Below w.heap.size w w1 from below_step (below_alloc (Below.refl _ _) _) hb1); have HBK := Aside0.mk (heap_below hb1 (heap_new' rfl)); clear hb1; have HI0 := Aside0.mk (Bf.fresh w1); have HK0 := Aside0.mk ((Kp.refl w1.heap.size w1.heap.size w1).alloc (Nat.le_refl _) (.cells #[.slice none 0 0, .int .i64 0, .int .i8 0] 111)); obtain ⟨z0, z1, z2, z3, z4, z5, z6, z7, z8, z9, y0, y1, y2, y3, y4, y5, y6, y7, y8, y9⟩ := ten (heap_old' (o := (.cells #[.slice none 0 0, .int .i64 0, .int .i8 0] 111)) HBK.out); clear y0 y1 y2 y3 y4 y5 y6 y7 y8 y9) | (go_at_call 80; refine (lay_u8 w1.heap.size w1.heap.size _ _ _ HI0.out HK0.out.1.size (by first | omega | (simp only [List.length_append, layB_len, List.length_nil, nodesE_len]; omega))).mono ?_; rintro e w2 ⟨rfl, hI, hK⟩; have HI1 := Aside0.mk hI; have HK1 := Aside0.mk (HK0.out.trans hK); clear hI hK z0 z1 z2 z3 z4 z5 z6 z7 z8 z9; obtain ⟨z0, z1, z2, z3, z4, z5, z6, z7, z8, z9, y0, y1, y2, y3, y4, y5, y6, y7, y8, y9⟩ := ten (heap_below HK1.out.1 HBK.out); clear y0 y1 y2 y3 y4 y5 y6 y7 y8 y9) | (go_at_call 81; refine (lay_u32 w1.heap.size w1.heap.size _ _ _ HI1.out HK1.out.1.size (by first | omega | (simp only [List.length_append, layB_len, List.length_nil, nodesE_len]; omega))).mono ?_; rintro e w3 ⟨rfl, hI, hK⟩; have HI2 := Aside0.mk hI; have HK2 := Aside0.mk (HK1.out.trans hK); clear hI hK z0 z1 z2 z3 z4 z5 z6 z7 z8 z9; obtain ⟨z0, z1, z2, z3, z4, z5, z6, z7, z8, z9, y0, y1, y2, y3, y4, y5, y6, y7, y8, y9⟩ := ten (heap_below HK2.out.1 HBK.out); clear y0 y1 y2 y3 y4 y5 y6 y7 y8 y9) | (go_at_call 68; refine (Tryd.Buffer_Len w1.heap.size w1.heap.size _ _ (HI2.out)).mono ?_; rintro e wl ⟨rfl, nl, rfl⟩; rw [Lib.byteCells_length, ← HLEN.out]) | (go_at_call 73; refine (Tryd.Buffer_Bytes w1.heap.size w1.heap.size _ _ (HI2.out.drewN _)).mono ?_; rintro e wb ⟨v, rfl, hv, nb, rfl⟩; have HV := Aside0.mk hv; clear hv))
    go_ret2
    exact ⟨_, rfl, by rw [HX.out, recE4]; exact R_of_buf HV.out HBW.out.size, by have hz := HBW.out; have hy := HK2.out.1; exact pw_below_drewN (below_step hz hy) _⟩
set_option maxHeartbeats 8000000 in
set_option maxRecDepth 20000 in
theorem enc5_any (hs : soundB ⟨5, a1, a2, l3, l4, ⟨a5, l6⟩, a7, a8, l9⟩ = true) : Calls Tryd.prog 39 #[.agg #[.int .u8 5, .int .u32 a1, .int .u32 a2, .slice A3 l3.length c3, .slice A4 l4.length c4, .int .u32 a5, .slice A6 l6.length c6, .int .i64 a7, .int .i64 a8, .slice A9 l9.length c9]] w (EncPost w (encR ⟨5, a1, a2, l3, l4, ⟨a5, l6⟩, a7, a8, l9⟩)) := by
  have H3 := Aside0.mk h3; have H4 := Aside0.mk h4; have H6 := Aside0.mk h6; have H9 := Aside0.mk h9
  clear h3 h4 h6 h9
  have HS := Aside0.mk hs

  unfold encR
  rw [if_pos HS.out]
  have hm3 := C_max H3.out
  have hm6 := C_max H6.out
  obtain ⟨X, hX⟩ : ∃ X : List UInt8, X = recE ⟨5, a1, a2, l3, l4, ⟨a5, l6⟩, a7, a8, l9⟩ := ⟨_, rfl⟩
  rw [← hX]
  have HX := Aside0.mk hX
  have HLEN := Aside0.mk (show X.length = _ from congrArg List.length (hX.trans (recE5 _ _ _ _ _ _ _ _ _)))
  clear hs hX
  by_cases hbig : 60000 < X.length
  · rw [if_pos hbig]
    have hbigI : (60000 : Int) < (X.length : Int) := by omega
    clear hbig
    go_enter Tryd.func39, Tryd.ntmps39
    go_wp2_with (first | (go_at_call 41; refine (code_Sound.calls 5 a1 a2 A3 c3 l3 A4 c4 l4 a5 A6 c6 l6 a7 a8 A9 c9 l9 _ _ (Kd.C_below H3.out (by (with_reducible (repeat (first | exact Below.refl _ _ | apply below_alloc | apply below_drew | apply pw_below_drewN | apply below_bytesWorld | (refine below_set ?_ (by first | assumption | omega)) | refine below_step ?_ (by assumption)))))) d3 (Kd.C_below H4.out (by (with_reducible (repeat (first | exact Below.refl _ _ | apply below_alloc | apply below_drew | apply pw_below_drewN | apply below_bytesWorld | (refine below_set ?_ (by first | assumption | omega)) | refine below_step ?_ (by assumption)))))) d4 (Kd.C_below H6.out (by (with_reducible (repeat (first | exact Below.refl _ _ | apply below_alloc | apply below_drew | apply pw_below_drewN | apply below_bytesWorld | (refine below_set ?_ (by first | assumption | omega)) | refine below_step ?_ (by assumption)))))) d6 (Kd.C_below H9.out (by (with_reducible (repeat (first | exact Below.refl _ _ | apply below_alloc | apply below_drew | apply pw_below_drewN | apply below_bytesWorld | (refine below_set ?_ (by first | assumption | omega)) | refine below_step ?_ (by assumption)))))) d9 rfl).mono ?_; rintro e w1 ⟨rfl, hb1⟩; rw [HS.out]; have HBW := Aside0.mk (show Below w.heap.size w w1 from below_step (below_alloc (Below.refl _ _) _) hb1); have HBK := Aside0.mk (heap_below hb1 (heap_new' rfl)); clear hb1; have HI0 := Aside0.mk (Bf.fresh w1); have HK0 := Aside0.mk ((Kp.refl w1.heap.size w1.heap.size w1).alloc (Nat.le_refl _) (.cells #[.slice none 0 0, .int .i64 0, .int .i8 0] 111)); obtain ⟨z0, z1, z2, z3, z4, z5, z6, z7, z8, z9, y0, y1, y2, y3, y4, y5, y6, y7, y8, y9⟩ := ten (heap_old' (o := (.cells #[.slice none 0 0, .int .i64 0, .int .i8 0] 111)) HBK.out); clear y0 y1 y2 y3 y4 y5 y6 y7 y8 y9) | (go_at_call 80; refine (lay_u8 w1.heap.size w1.heap.size _ _ _ HI0.out HK0.out.1.size (by first | omega | (simp only [List.length_append, layB_len, List.length_nil, nodesE_len]; omega))).mono ?_; rintro e w2 ⟨rfl, hI, hK⟩; have HI1 := Aside0.mk hI; have HK1 := Aside0.mk (HK0.out.trans hK); clear hI hK z0 z1 z2 z3 z4 z5 z6 z7 z8 z9; obtain ⟨z0, z1, z2, z3, z4, z5, z6, z7, z8, z9, y0, y1, y2, y3, y4, y5, y6, y7, y8, y9⟩ := ten (heap_below HK1.out.1 HBK.out); clear y0 y1 y2 y3 y4 y5 y6 y7 y8 y9) | (go_at_call 81; refine (lay_u32 w1.heap.size w1.heap.size _ _ _ HI1.out HK1.out.1.size (by first | omega | (simp only [List.length_append, layB_len, List.length_nil, nodesE_len]; omega))).mono ?_; rintro e w3 ⟨rfl, hI, hK⟩; have HI2 := Aside0.mk hI; have HK2 := Aside0.mk (HK1.out.trans hK); clear hI hK z0 z1 z2 z3 z4 z5 z6 z7 z8 z9; obtain ⟨z0, z1, z2, z3, z4, z5, z6, z7, z8, z9, y0, y1, y2, y3, y4, y5, y6, y7, y8, y9⟩ := ten (heap_below HK2.out.1 HBK.out); clear y0 y1 y2 y3 y4 y5 y6 y7 y8 y9) | (go_at_call 68; refine (Tryd.Buffer_Len w1.heap.size w1.heap.size _ _ (HI2.out)).mono ?_; rintro e wl ⟨rfl, nl, rfl⟩; rw [Lib.byteCells_length, ← HLEN.out]))
    go_ret2
    exact ⟨_, rfl, Kd.R_nil _ _ _ _ _, by have hz := HBW.out; have hy := HK2.out.1; exact pw_below_drewN (below_step hz hy) _⟩
  · rw [if_neg hbig]
    have hbigI : ¬ (60000 : Int) < (X.length : Int) := by omega
    clear hbig
    go_enter Tryd.func39, Tryd.ntmps39
    go_wp2_with (first | (go_at_call 41; refine (code_Sound.calls 5 a1 a2 A3 c3 l3 A4 c4 l4 a5 A6 c6 l6 a7 a8 A9 c9 l9 _ _ (Kd.C_below H3.out (by (with_reducible (repeat (first | exact Below.refl _ _ | apply below_alloc | apply below_drew | apply pw_below_drewN | apply below_bytesWorld | (refine below_set ?_ (by first | assumption | omega)) | refine below_step ?_ (by assumption)))))) d3 (Kd.C_below H4.out (by (with_reducible (repeat (first | exact Below.refl _ _ | apply below_alloc | apply below_drew | apply pw_below_drewN | apply below_bytesWorld | (refine below_set ?_ (by first | assumption | omega)) | refine below_step ?_ (by assumption)))))) d4 (Kd.C_below H6.out (by (with_reducible (repeat (first | exact Below.refl _ _ | apply below_alloc | apply below_drew | apply pw_below_drewN | apply below_bytesWorld | (refine below_set ?_ (by first | assumption | omega)) | refine below_step ?_ (by assumption)))))) d6 (Kd.C_below H9.out (by (with_reducible (repeat (first | exact Below.refl _ _ | apply below_alloc | apply below_drew | apply pw_below_drewN | apply below_bytesWorld | (refine below_set ?_ (by first | assumption | omega)) | refine below_step ?_ (by assumption)))))) d9 rfl).mono ?_; rintro e w1 ⟨rfl, hb1⟩; rw [HS.out]; have HBW := Aside0.mk (show Below w.heap.size w w1 from below_step (below_alloc (Below.refl _ _) _) hb1); have HBK := Aside0.mk (heap_below hb1 (heap_new' rfl)); clear hb1; have HI0 := Aside0.mk (Bf.fresh w1); have HK0 := Aside0.mk ((Kp.refl w1.heap.size w1.heap.size w1).alloc (Nat.le_refl _) (.cells #[.slice none 0 0, .int .i64 0, .int .i8 0] 111)); obtain ⟨z0, z1, z2, z3, z4, z5, z6, z7, z8, z9, y0, y1, y2, y3, y4, y5, y6, y7, y8, y9⟩ := ten (heap_old' (o := (.cells #[.slice none 0 0, .int .i64 0, .int .i8 0] 111)) HBK.out); clear y0 y1 y2 y3 y4 y5 y6 y7 y8 y9) | (go_at_call 80; refine (lay_u8 w1.heap.size w1.heap.size _ _ _ HI0.out HK0.out.1.size (by first | omega | (simp only [List.length_append, layB_len, List.length_nil, nodesE_len]; omega))).mono ?_; rintro e w2 ⟨rfl, hI, hK⟩; have HI1 := Aside0.mk hI; have HK1 := Aside0.mk (HK0.out.trans hK); clear hI hK z0 z1 z2 z3 z4 z5 z6 z7 z8 z9; obtain ⟨z0, z1, z2, z3, z4, z5, z6, z7, z8, z9, y0, y1, y2, y3, y4, y5, y6, y7, y8, y9⟩ := ten (heap_below HK1.out.1 HBK.out); clear y0 y1 y2 y3 y4 y5 y6 y7 y8 y9) | (go_at_call 81; refine (lay_u32 w1.heap.size w1.heap.size _ _ _ HI1.out HK1.out.1.size (by first | omega | (simp only [List.length_append, layB_len, List.length_nil, nodesE_len]; omega))).mono ?_; rintro e w3 ⟨rfl, hI, hK⟩; have HI2 := Aside0.mk hI; have HK2 := Aside0.mk (HK1.out.trans hK); clear hI hK z0 z1 z2 z3 z4 z5 z6 z7 z8 z9; obtain ⟨z0, z1, z2, z3, z4, z5, z6, z7, z8, z9, y0, y1, y2, y3, y4, y5, y6, y7, y8, y9⟩ := ten (heap_below HK2.out.1 HBK.out); clear y0 y1 y2 y3 y4 y5 y6 y7 y8 y9) | (go_at_call 68; refine (Tryd.Buffer_Len w1.heap.size w1.heap.size _ _ (HI2.out)).mono ?_; rintro e wl ⟨rfl, nl, rfl⟩; rw [Lib.byteCells_length, ← HLEN.out]) | (go_at_call 73; refine (Tryd.Buffer_Bytes w1.heap.size w1.heap.size _ _ (HI2.out.drewN _)).mono ?_; rintro e wb ⟨v, rfl, hv, nb, rfl⟩; have HV := Aside0.mk hv; clear hv))
    go_ret2
    exact ⟨_, rfl, by rw [HX.out, recE5]; exact R_of_buf HV.out HBW.out.size, by have hz := HBW.out; have hy := HK2.out.1; exact pw_below_drewN (below_step hz hy) _⟩
set_option maxHeartbeats 8000000 in
set_option maxRecDepth 20000 in
theorem enc7_any (hs : soundB ⟨7, a1, a2, l3, l4, ⟨a5, l6⟩, a7, a8, l9⟩ = true) : Calls Tryd.prog 39 #[.agg #[.int .u8 7, .int .u32 a1, .int .u32 a2, .slice A3 l3.length c3, .slice A4 l4.length c4, .int .u32 a5, .slice A6 l6.length c6, .int .i64 a7, .int .i64 a8, .slice A9 l9.length c9]] w (EncPost w (encR ⟨7, a1, a2, l3, l4, ⟨a5, l6⟩, a7, a8, l9⟩)) := by
  have H3 := Aside0.mk h3; have H4 := Aside0.mk h4; have H6 := Aside0.mk h6; have H9 := Aside0.mk h9
  clear h3 h4 h6 h9
  have HS := Aside0.mk hs
  have q9 : (entriesE l9).length ≤ 25040004 := by
    have h := HS.out
    rw [sound7, Bool.and_eq_true, Bool.and_eq_true, Bool.and_eq_true, Bool.and_eq_true, Bool.and_eq_true, Bool.and_eq_true] at h
    exact history_len _ h.1.1.1.1.1.1 (by have := of_decide_eq_true h.1.1.1.1.1.2; omega)
  unfold encR
  rw [if_pos HS.out]
  have hm3 := C_max H3.out
  have hm6 := C_max H6.out
  obtain ⟨X, hX⟩ : ∃ X : List UInt8, X = recE ⟨7, a1, a2, l3, l4, ⟨a5, l6⟩, a7, a8, l9⟩ := ⟨_, rfl⟩
  rw [← hX]
  have HX := Aside0.mk hX
  have HLEN := Aside0.mk (show X.length = _ from congrArg List.length (hX.trans (recE7 _ _ _ _ _ _ _ _ _)))
  clear hs hX
  by_cases hbig : 60000 < X.length
  · rw [if_pos hbig]
    have hbigI : (60000 : Int) < (X.length : Int) := by omega
    clear hbig
    go_enter Tryd.func39, Tryd.ntmps39
    go_wp2_with (first | (go_at_call 41; refine (code_Sound.calls 7 a1 a2 A3 c3 l3 A4 c4 l4 a5 A6 c6 l6 a7 a8 A9 c9 l9 _ _ (Kd.C_below H3.out (by (with_reducible (repeat (first | exact Below.refl _ _ | apply below_alloc | apply below_drew | apply pw_below_drewN | apply below_bytesWorld | (refine below_set ?_ (by first | assumption | omega)) | refine below_step ?_ (by assumption)))))) d3 (Kd.C_below H4.out (by (with_reducible (repeat (first | exact Below.refl _ _ | apply below_alloc | apply below_drew | apply pw_below_drewN | apply below_bytesWorld | (refine below_set ?_ (by first | assumption | omega)) | refine below_step ?_ (by assumption)))))) d4 (Kd.C_below H6.out (by (with_reducible (repeat (first | exact Below.refl _ _ | apply below_alloc | apply below_drew | apply pw_below_drewN | apply below_bytesWorld | (refine below_set ?_ (by first | assumption | omega)) | refine below_step ?_ (by assumption)))))) d6 (Kd.C_below H9.out (by (with_reducible (repeat (first | exact Below.refl _ _ | apply below_alloc | apply below_drew | apply pw_below_drewN | apply below_bytesWorld | (refine below_set ?_ (by first | assumption | omega)) | refine below_step ?_ (by assumption)))))) d9 rfl).mono ?_; rintro e w1 ⟨rfl, hb1⟩; rw [HS.out]; have HBW := Aside0.mk (show Below w.heap.size w w1 from below_step (below_alloc (Below.refl _ _) _) hb1); have HBK := Aside0.mk (heap_below hb1 (heap_new' rfl)); clear hb1; have HI0 := Aside0.mk (Bf.fresh w1); have HK0 := Aside0.mk ((Kp.refl w1.heap.size w1.heap.size w1).alloc (Nat.le_refl _) (.cells #[.slice none 0 0, .int .i64 0, .int .i8 0] 111)); obtain ⟨z0, z1, z2, z3, z4, z5, z6, z7, z8, z9, y0, y1, y2, y3, y4, y5, y6, y7, y8, y9⟩ := ten (heap_old' (o := (.cells #[.slice none 0 0, .int .i64 0, .int .i8 0] 111)) HBK.out); clear y0 y1 y2 y3 y4 y5 y6 y7 y8 y9) | (go_at_call 80; refine (lay_u8 w1.heap.size w1.heap.size _ _ _ HI0.out HK0.out.1.size (by first | omega | (simp only [List.length_append, layB_len, List.length_nil, nodesE_len]; omega))).mono ?_; rintro e w2 ⟨rfl, hI, hK⟩; have HI1 := Aside0.mk hI; have HK1 := Aside0.mk (HK0.out.trans hK); clear hI hK z0 z1 z2 z3 z4 z5 z6 z7 z8 z9; obtain ⟨z0, z1, z2, z3, z4, z5, z6, z7, z8, z9, y0, y1, y2, y3, y4, y5, y6, y7, y8, y9⟩ := ten (heap_below HK1.out.1 HBK.out); clear y0 y1 y2 y3 y4 y5 y6 y7 y8 y9) | (go_at_call 81; refine (lay_u32 w1.heap.size w1.heap.size _ _ _ HI1.out HK1.out.1.size (by first | omega | (simp only [List.length_append, layB_len, List.length_nil, nodesE_len]; omega))).mono ?_; rintro e w3 ⟨rfl, hI, hK⟩; have HI2 := Aside0.mk hI; have HK2 := Aside0.mk (HK1.out.trans hK); clear hI hK z0 z1 z2 z3 z4 z5 z6 z7 z8 z9; obtain ⟨z0, z1, z2, z3, z4, z5, z6, z7, z8, z9, y0, y1, y2, y3, y4, y5, y6, y7, y8, y9⟩ := ten (heap_below HK2.out.1 HBK.out); clear y0 y1 y2 y3 y4 y5 y6 y7 y8 y9) | (go_at_call 84; refine (lay_int4 w1.heap.size w1.heap.size _ _ _ HI2.out HK2.out.1.size (by first | omega | (simp only [List.length_append, layB_len, List.length_nil, nodesE_len]; omega))).mono ?_; rintro e w4 ⟨rfl, hI, hK⟩; have HI3 := Aside0.mk hI; have HK3 := Aside0.mk (HK2.out.trans hK); clear hI hK z0 z1 z2 z3 z4 z5 z6 z7 z8 z9; obtain ⟨z0, z1, z2, z3, z4, z5, z6, z7, z8, z9, y0, y1, y2, y3, y4, y5, y6, y7, y8, y9⟩ := ten (heap_below HK3.out.1 HBK.out); clear y0 y1 y2 y3 y4 y5 y6 y7 y8 y9) | (go_at_call 84; refine (lay_int4 w1.heap.size w1.heap.size _ _ _ HI3.out HK3.out.1.size (by first | omega | (simp only [List.length_append, layB_len, List.length_nil, nodesE_len]; omega))).mono ?_; rintro e w5 ⟨rfl, hI, hK⟩; have HI4 := Aside0.mk hI; have HK4 := Aside0.mk (HK3.out.trans hK); clear hI hK z0 z1 z2 z3 z4 z5 z6 z7 z8 z9; obtain ⟨z0, z1, z2, z3, z4, z5, z6, z7, z8, z9, y0, y1, y2, y3, y4, y5, y6, y7, y8, y9⟩ := ten (heap_below HK4.out.1 HBK.out); clear y0 y1 y2 y3 y4 y5 y6 y7 y8 y9) | (go_at_call 85; refine (entries_any w1.heap.size _ _ _ l9 w1 _ HI4.out HK4.out.1 (Kd.C_below H9.out HBW.out) (by first | omega | (simp only [List.length_append, layB_len, List.length_nil, nodesE_len]; omega))).mono ?_; rintro e w6 ⟨rfl, hI, hK⟩; have HI5 := Aside0.mk hI; have HK5 := Aside0.mk (HK4.out.trans hK); clear hI hK z0 z1 z2 z3 z4 z5 z6 z7 z8 z9; obtain ⟨z0, z1, z2, z3, z4, z5, z6, z7, z8, z9, y0, y1, y2, y3, y4, y5, y6, y7, y8, y9⟩ := ten (heap_below HK5.out.1 HBK.out); clear y0 y1 y2 y3 y4 y5 y6 y7 y8 y9) | (go_at_call 68; refine (Tryd.Buffer_Len w1.heap.size w1.heap.size _ _ (HI5.out)).mono ?_; rintro e wl ⟨rfl, nl, rfl⟩; rw [Lib.byteCells_length, ← HLEN.out]))
    go_ret2
    exact ⟨_, rfl, Kd.R_nil _ _ _ _ _, by have hz := HBW.out; have hy := HK5.out.1; exact pw_below_drewN (below_step hz hy) _⟩
  · rw [if_neg hbig]
    have hbigI : ¬ (60000 : Int) < (X.length : Int) := by omega
    clear hbig
    go_enter Tryd.func39, Tryd.ntmps39
    go_wp2_with (first | (go_at_call 41; refine (code_Sound.calls 7 a1 a2 A3 c3 l3 A4 c4 l4 a5 A6 c6 l6 a7 a8 A9 c9 l9 _ _ (Kd.C_below H3.out (by (with_reducible (repeat (first | exact Below.refl _ _ | apply below_alloc | apply below_drew | apply pw_below_drewN | apply below_bytesWorld | (refine below_set ?_ (by first | assumption | omega)) | refine below_step ?_ (by assumption)))))) d3 (Kd.C_below H4.out (by (with_reducible (repeat (first | exact Below.refl _ _ | apply below_alloc | apply below_drew | apply pw_below_drewN | apply below_bytesWorld | (refine below_set ?_ (by first | assumption | omega)) | refine below_step ?_ (by assumption)))))) d4 (Kd.C_below H6.out (by (with_reducible (repeat (first | exact Below.refl _ _ | apply below_alloc | apply below_drew | apply pw_below_drewN | apply below_bytesWorld | (refine below_set ?_ (by first | assumption | omega)) | refine below_step ?_ (by assumption)))))) d6 (Kd.C_below H9.out (by (with_reducible (repeat (first | exact Below.refl _ _ | apply below_alloc | apply below_drew | apply pw_below_drewN | apply below_bytesWorld | (refine below_set ?_ (by first | assumption | omega)) | refine below_step ?_ (by assumption)))))) d9 rfl).mono ?_; rintro e w1 ⟨rfl, hb1⟩; rw [HS.out]; have HBW := Aside0.mk (show Below w.heap.size w w1 from below_step (below_alloc (Below.refl _ _) _) hb1); have HBK := Aside0.mk (heap_below hb1 (heap_new' rfl)); clear hb1; have HI0 := Aside0.mk (Bf.fresh w1); have HK0 := Aside0.mk ((Kp.refl w1.heap.size w1.heap.size w1).alloc (Nat.le_refl _) (.cells #[.slice none 0 0, .int .i64 0, .int .i8 0] 111)); obtain ⟨z0, z1, z2, z3, z4, z5, z6, z7, z8, z9, y0, y1, y2, y3, y4, y5, y6, y7, y8, y9⟩ := ten (heap_old' (o := (.cells #[.slice none 0 0, .int .i64 0, .int .i8 0] 111)) HBK.out); clear y0 y1 y2 y3 y4 y5 y6 y7 y8 y9) | (go_at_call 80; refine (lay_u8 w1.heap.size w1.heap.size _ _ _ HI0.out HK0.out.1.size (by first | omega | (simp only [List.length_append, layB_len, List.length_nil, nodesE_len]; omega))).mono ?_; rintro e w2 ⟨rfl, hI, hK⟩; have HI1 := Aside0.mk hI; have HK1 := Aside0.mk (HK0.out.trans hK); clear hI hK z0 z1 z2 z3 z4 z5 z6 z7 z8 z9; obtain ⟨z0, z1, z2, z3, z4, z5, z6, z7, z8, z9, y0, y1, y2, y3, y4, y5, y6, y7, y8, y9⟩ := ten (heap_below HK1.out.1 HBK.out); clear y0 y1 y2 y3 y4 y5 y6 y7 y8 y9) | (go_at_call 81; refine (lay_u32 w1.heap.size w1.heap.size _ _ _ HI1.out HK1.out.1.size (by first | omega | (simp only [List.length_append, layB_len, List.length_nil, nodesE_len]; omega))).mono ?_; rintro e w3 ⟨rfl, hI, hK⟩; have HI2 := Aside0.mk hI; have HK2 := Aside0.mk (HK1.out.trans hK); clear hI hK z0 z1 z2 z3 z4 z5 z6 z7 z8 z9; obtain ⟨z0, z1, z2, z3, z4, z5, z6, z7, z8, z9, y0, y1, y2, y3, y4, y5, y6, y7, y8, y9⟩ := ten (heap_below HK2.out.1 HBK.out); clear y0 y1 y2 y3 y4 y5 y6 y7 y8 y9) | (go_at_call 84; refine (lay_int4 w1.heap.size w1.heap.size _ _ _ HI2.out HK2.out.1.size (by first | omega | (simp only [List.length_append, layB_len, List.length_nil, nodesE_len]; omega))).mono ?_; rintro e w4 ⟨rfl, hI, hK⟩; have HI3 := Aside0.mk hI; have HK3 := Aside0.mk (HK2.out.trans hK); clear hI hK z0 z1 z2 z3 z4 z5 z6 z7 z8 z9; obtain ⟨z0, z1, z2, z3, z4, z5, z6, z7, z8, z9, y0, y1, y2, y3, y4, y5, y6, y7, y8, y9⟩ := ten (heap_below HK3.out.1 HBK.out); clear y0 y1 y2 y3 y4 y5 y6 y7 y8 y9) | (go_at_call 84; refine (lay_int4 w1.heap.size w1.heap.size _ _ _ HI3.out HK3.out.1.size (by first | omega | (simp only [List.length_append, layB_len, List.length_nil, nodesE_len]; omega))).mono ?_; rintro e w5 ⟨rfl, hI, hK⟩; have HI4 := Aside0.mk hI; have HK4 := Aside0.mk (HK3.out.trans hK); clear hI hK z0 z1 z2 z3 z4 z5 z6 z7 z8 z9; obtain ⟨z0, z1, z2, z3, z4, z5, z6, z7, z8, z9, y0, y1, y2, y3, y4, y5, y6, y7, y8, y9⟩ := ten (heap_below HK4.out.1 HBK.out); clear y0 y1 y2 y3 y4 y5 y6 y7 y8 y9) | (go_at_call 85; refine (entries_any w1.heap.size _ _ _ l9 w1 _ HI4.out HK4.out.1 (Kd.C_below H9.out HBW.out) (by first | omega | (simp only [List.length_append, layB_len, List.length_nil, nodesE_len]; omega))).mono ?_; rintro e w6 ⟨rfl, hI, hK⟩; have HI5 := Aside0.mk hI; have HK5 := Aside0.mk (HK4.out.trans hK); clear hI hK z0 z1 z2 z3 z4 z5 z6 z7 z8 z9; obtain ⟨z0, z1, z2, z3, z4, z5, z6, z7, z8, z9, y0, y1, y2, y3, y4, y5, y6, y7, y8, y9⟩ := ten (heap_below HK5.out.1 HBK.out); clear y0 y1 y2 y3 y4 y5 y6 y7 y8 y9) | (go_at_call 68; refine (Tryd.Buffer_Len w1.heap.size w1.heap.size _ _ (HI5.out)).mono ?_; rintro e wl ⟨rfl, nl, rfl⟩; rw [Lib.byteCells_length, ← HLEN.out]) | (go_at_call 73; refine (Tryd.Buffer_Bytes w1.heap.size w1.heap.size _ _ (HI5.out.drewN _)).mono ?_; rintro e wb ⟨v, rfl, hv, nb, rfl⟩; have HV := Aside0.mk hv; clear hv))
    go_ret2
    exact ⟨_, rfl, by rw [HX.out, recE7]; exact R_of_buf HV.out HBW.out.size, by have hz := HBW.out; have hy := HK5.out.1; exact pw_below_drewN (below_step hz hy) _⟩
set_option maxHeartbeats 8000000 in
set_option maxRecDepth 20000 in
theorem enc6_any (hs : soundB ⟨6, a1, a2, l3, l4, ⟨a5, l6⟩, a7, a8, l9⟩ = true) : Calls Tryd.prog 39 #[.agg #[.int .u8 6, .int .u32 a1, .int .u32 a2, .slice A3 l3.length c3, .slice A4 l4.length c4, .int .u32 a5, .slice A6 l6.length c6, .int .i64 a7, .int .i64 a8, .slice A9 l9.length c9]] w (EncPost w (encR ⟨6, a1, a2, l3, l4, ⟨a5, l6⟩, a7, a8, l9⟩)) := by
  have H3 := Aside0.mk h3; have H4 := Aside0.mk h4; have H6 := Aside0.mk h6; have H9 := Aside0.mk h9
  clear h3 h4 h6 h9
  have HS := Aside0.mk hs
  have q6 : l6.length ≤ 40 := by
    have h := HS.out
    rw [sound6, Bool.and_eq_true, Bool.and_eq_true, Bool.and_eq_true] at h
    have := of_decide_eq_true h.1.1.2
    omega
  unfold encR
  rw [if_pos HS.out]
  have hm3 := C_max H3.out
  have hm6 := C_max H6.out
  obtain ⟨X, hX⟩ : ∃ X : List UInt8, X = recE ⟨6, a1, a2, l3, l4, ⟨a5, l6⟩, a7, a8, l9⟩ := ⟨_, rfl⟩
  rw [← hX]
  have HX := Aside0.mk hX
  have HLEN := Aside0.mk (show X.length = _ from congrArg List.length (hX.trans (recE6 _ _ _ _ _ _ _ _ _)))
  clear hs hX
  by_cases hbig : 60000 < X.length
  · rw [if_pos hbig]
    have hbigI : (60000 : Int) < (X.length : Int) := by omega
    clear hbig
    go_enter Tryd.func39, Tryd.ntmps39
    go_wp2_with (first | (go_at_call 41; refine (code_Sound.calls 6 a1 a2 A3 c3 l3 A4 c4 l4 a5 A6 c6 l6 a7 a8 A9 c9 l9 _ _ (Kd.C_below H3.out (by (with_reducible (repeat (first | exact Below.refl _ _ | apply below_alloc | apply below_drew | apply pw_below_drewN | apply below_bytesWorld | (refine below_set ?_ (by first | assumption | omega)) | refine below_step ?_ (by assumption)))))) d3 (Kd.C_below H4.out (by (with_reducible (repeat (first | exact Below.refl _ _ | apply below_alloc | apply below_drew | apply pw_below_drewN | apply below_bytesWorld | (refine below_set ?_ (by first | assumption | omega)) | refine below_step ?_ (by assumption)))))) d4 (Kd.C_below H6.out (by (with_reducible (repeat (first | exact Below.refl _ _ | apply below_alloc | apply below_drew | apply pw_below_drewN | apply below_bytesWorld | (refine below_set ?_ (by first | assumption | omega)) | refine below_step ?_ (by assumption)))))) d6 (Kd.C_below H9.out (by (with_reducible (repeat (first | exact Below.refl _ _ | apply below_alloc | apply below_drew | apply pw_below_drewN | apply below_bytesWorld | (refine below_set ?_ (by first | assumption | omega)) | refine below_step ?_ (by assumption)))))) d9 rfl).mono ?_; rintro e w1 ⟨rfl, hb1⟩; rw [HS.out]; have HBW := Aside0.mk (show Below w.heap.size w w1 from below_step (below_alloc (Below.refl _ _) _) hb1); have HBK := Aside0.mk (heap_below hb1 (heap_new' rfl)); clear hb1; have HI0 := Aside0.mk (Bf.fresh w1); have HK0 := Aside0.mk ((Kp.refl w1.heap.size w1.heap.size w1).alloc (Nat.le_refl _) (.cells #[.slice none 0 0, .int .i64 0, .int .i8 0] 111)); obtain ⟨z0, z1, z2, z3, z4, z5, z6, z7, z8, z9, y0, y1, y2, y3, y4, y5, y6, y7, y8, y9⟩ := ten (heap_old' (o := (.cells #[.slice none 0 0, .int .i64 0, .int .i8 0] 111)) HBK.out); clear y0 y1 y2 y3 y4 y5 y6 y7 y8 y9) | (go_at_call 80; refine (lay_u8 w1.heap.size w1.heap.size _ _ _ HI0.out HK0.out.1.size (by first | omega | (simp only [List.length_append, layB_len, List.length_nil, nodesE_len]; omega))).mono ?_; rintro e w2 ⟨rfl, hI, hK⟩; have HI1 := Aside0.mk hI; have HK1 := Aside0.mk (HK0.out.trans hK); clear hI hK z0 z1 z2 z3 z4 z5 z6 z7 z8 z9; obtain ⟨z0, z1, z2, z3, z4, z5, z6, z7, z8, z9, y0, y1, y2, y3, y4, y5, y6, y7, y8, y9⟩ := ten (heap_below HK1.out.1 HBK.out); clear y0 y1 y2 y3 y4 y5 y6 y7 y8 y9) | (go_at_call 81; refine (lay_u32 w1.heap.size w1.heap.size _ _ _ HI1.out HK1.out.1.size (by first | omega | (simp only [List.length_append, layB_len, List.length_nil, nodesE_len]; omega))).mono ?_; rintro e w3 ⟨rfl, hI, hK⟩; have HI2 := Aside0.mk hI; have HK2 := Aside0.mk (HK1.out.trans hK); clear hI hK z0 z1 z2 z3 z4 z5 z6 z7 z8 z9; obtain ⟨z0, z1, z2, z3, z4, z5, z6, z7, z8, z9, y0, y1, y2, y3, y4, y5, y6, y7, y8, y9⟩ := ten (heap_below HK2.out.1 HBK.out); clear y0 y1 y2 y3 y4 y5 y6 y7 y8 y9) | (go_at_call 81; refine (lay_u32 w1.heap.size w1.heap.size _ _ _ HI2.out HK2.out.1.size (by first | omega | (simp only [List.length_append, layB_len, List.length_nil, nodesE_len]; omega))).mono ?_; rintro e w4 ⟨rfl, hI, hK⟩; have HI3 := Aside0.mk hI; have HK3 := Aside0.mk (HK2.out.trans hK); clear hI hK z0 z1 z2 z3 z4 z5 z6 z7 z8 z9; obtain ⟨z0, z1, z2, z3, z4, z5, z6, z7, z8, z9, y0, y1, y2, y3, y4, y5, y6, y7, y8, y9⟩ := ten (heap_below HK3.out.1 HBK.out); clear y0 y1 y2 y3 y4 y5 y6 y7 y8 y9) | (go_at_call 84; refine (lay_int1 w1.heap.size w1.heap.size _ _ _ HI3.out HK3.out.1.size (by first | omega | (simp only [List.length_append, layB_len, List.length_nil, nodesE_len]; omega))).mono ?_; rintro e w5 ⟨rfl, hI, hK⟩; have HI4 := Aside0.mk hI; have HK4 := Aside0.mk (HK3.out.trans hK); clear hI hK z0 z1 z2 z3 z4 z5 z6 z7 z8 z9; obtain ⟨z0, z1, z2, z3, z4, z5, z6, z7, z8, z9, y0, y1, y2, y3, y4, y5, y6, y7, y8, y9⟩ := ten (heap_below HK4.out.1 HBK.out); clear y0 y1 y2 y3 y4 y5 y6 y7 y8 y9))
    clear z0 z1 z2 z3 z4 z5 z6 z7 z8 z9
    go_loopw [59] (fun i wr => ∃ k : Nat, k ≤ l6.length ∧ i = .int .i64 k ∧ Aside0 (Bf w1.heap.size w1.heap.size ([] ++ layB 6 1 ++ layB a1 4 ++ layB a5 4 ++ layB l6.length 1 ++ (l6.take k).flatMap spanE) wr) ∧ Aside0 (Kp w1.heap.size w1.heap.size w1 wr)) (fun i _ => l6.length - (intOf i).toNat)
    case atStart => exact ⟨0, Nat.zero_le _, rfl, ⟨by rw [List.take_zero, List.flatMap_nil, List.append_nil]; exact HI4.out⟩, HK4⟩
    case round =>
      obtain ⟨k, hk, rfl, HI, HK⟩ := hrel
      clear HI4 HK4 HI3 HK3 HI2 HK2 HI1 HK1 HI0 HK0
      by_cases hlt : k < l6.length
      · obtain ⟨ad, rfl, hx0, hx1⟩ := at_T132 (Kd.C_below H6.out (below_step HBW.out HK.out.1)) (k : Int) (by omega) (by omega)
        rw [rdS_nat] at hx0 hx1
        rw [Int.toNat_natCast] at hx0 hx1
        have hts := Aside0.mk (flatMap_take_succ spanE zSpan l6 k hlt)
        have hpl : ([] ++ layB 6 1 ++ layB a1 4 ++ layB a5 4 ++ layB l6.length 1 ++ (l6.take k).flatMap spanE).length + 10 ≤ 140737488355328 := by
          simp only [List.length_append, layB_len, List.length_nil, spansE_len, List.length_take]
          omega
        obtain ⟨s, hs⟩ : ∃ s, s = l6.getD k zSpan := ⟨_, rfl⟩
        rw [← hs] at hx0 hx1 hts
        clear hs
        obtain ⟨pre, hpre⟩ : ∃ p, p = [] ++ layB 6 1 ++ layB a1 4 ++ layB a5 4 ++ layB l6.length 1 ++ (l6.take k).flatMap spanE := ⟨_, rfl⟩
        have hrest : [] ++ layB 6 1 ++ layB a1 4 ++ layB a5 4 ++ layB l6.length 1 ++ (l6.take (k + 1)).flatMap spanE = pre ++ spanE s := by rw [hts.out, ← List.append_assoc, hpre]
        have HREST := Aside0.mk hrest
        rw [← hpre] at HI hpl
        have HPL := Aside0.mk (show (pre ++ layB s.f0 4).length + 1 ≤ 140737488355328 from by rw [List.length_append, layB_len]; omega)
        have HPL4 := Aside0.mk (show pre.length + 4 ≤ 140737488355328 from by omega)
        clear hpre hrest hts hpl
        obtain ⟨wo, rfl⟩ : ∃ wo : World, wo = wr := ⟨_, rfl⟩
        have HBX := Aside0.mk (Bf.alloc HI.out (.cells #[.int .i64 s.f0, .int .i64 s.f1] 132))
        have HKX := Aside0.mk (HK.out.alloc HK.out.1.size (.cells #[.int .i64 s.f0, .int .i64 s.f1] 132))
        have HNE := Aside0.mk (show wo.heap.size ≠ w1.heap.size from by have := HI.out.lt; omega)
        go_wp2_with fail
        refine (lay_int4 _ _ pre _ _ HBX.out HKX.out.1.size HPL4.out).mono ?_
        rintro e w2 ⟨rfl, hI, hK⟩
        have HI1 := Aside0.mk hI
        have HK1 := Aside0.mk (HKX.out.trans hK)
        have hblk := hK.block (heap_new' rfl) HNE.out (by decide)
        clear hI hK
        have hz1 : w2.cell? ⟨wo.heap.size, 1, none⟩ = some (.int .i64 s.f1) := (blk_cell hblk 1).trans rfl
        clear hblk
        go_wp2_with fail
        refine (lay_int1 _ _ _ _ _ HI1.out HK1.out.1.size HPL.out).mono ?_
        rintro e w3 ⟨rfl, hI, hK⟩
        have HI2 := Aside0.mk hI
        have HK2 := Aside0.mk (HK1.out.trans hK)
        clear hI hK
        go_wp2
        go_roundw
        case rel => exact ⟨k + 1, by omega, by go_num, ⟨by rw [HREST.out, spanE, ← List.append_assoc]; exact HI2.out⟩, HK2⟩
        case measure => simp [intOf]; omega
      · skip
        obtain rfl : k = l6.length := by omega
        have hI' := HI.out
        rw [List.take_length] at hI'
        have HI' := Aside0.mk hI'
        clear hI'
        go_wp2_with (first | (go_at_call 68; refine (Tryd.Buffer_Len w1.heap.size w1.heap.size _ _ (HI'.out)).mono ?_; rintro e wl ⟨rfl, nl, rfl⟩; rw [Lib.byteCells_length, ← HLEN.out]))
        go_ret2
        exact ⟨_, rfl, Kd.R_nil _ _ _ _ _, by have hz := HBW.out; have hy := HK.out.1; exact pw_below_drewN (below_step hz hy) _⟩
  · rw [if_neg hbig]
    have hbigI : ¬ (60000 : Int) < (X.length : Int) := by omega
    clear hbig
    go_enter Tryd.func39, Tryd.ntmps39
    go_wp2_with (first | (go_at_call 41; refine (code_Sound.calls 6 a1 a2 A3 c3 l3 A4 c4 l4 a5 A6 c6 l6 a7 a8 A9 c9 l9 _ _ (Kd.C_below H3.out (by (with_reducible (repeat (first | exact Below.refl _ _ | apply below_alloc | apply below_drew | apply pw_below_drewN | apply below_bytesWorld | (refine below_set ?_ (by first | assumption | omega)) | refine below_step ?_ (by assumption)))))) d3 (Kd.C_below H4.out (by (with_reducible (repeat (first | exact Below.refl _ _ | apply below_alloc | apply below_drew | apply pw_below_drewN | apply below_bytesWorld | (refine below_set ?_ (by first | assumption | omega)) | refine below_step ?_ (by assumption)))))) d4 (Kd.C_below H6.out (by (with_reducible (repeat (first | exact Below.refl _ _ | apply below_alloc | apply below_drew | apply pw_below_drewN | apply below_bytesWorld | (refine below_set ?_ (by first | assumption | omega)) | refine below_step ?_ (by assumption)))))) d6 (Kd.C_below H9.out (by (with_reducible (repeat (first | exact Below.refl _ _ | apply below_alloc | apply below_drew | apply pw_below_drewN | apply below_bytesWorld | (refine below_set ?_ (by first | assumption | omega)) | refine below_step ?_ (by assumption)))))) d9 rfl).mono ?_; rintro e w1 ⟨rfl, hb1⟩; rw [HS.out]; have HBW := Aside0.mk (show Below w.heap.size w w1 from below_step (below_alloc (Below.refl _ _) _) hb1); have HBK := Aside0.mk (heap_below hb1 (heap_new' rfl)); clear hb1; have HI0 := Aside0.mk (Bf.fresh w1); have HK0 := Aside0.mk ((Kp.refl w1.heap.size w1.heap.size w1).alloc (Nat.le_refl _) (.cells #[.slice none 0 0, .int .i64 0, .int .i8 0] 111)); obtain ⟨z0, z1, z2, z3, z4, z5, z6, z7, z8, z9, y0, y1, y2, y3, y4, y5, y6, y7, y8, y9⟩ := ten (heap_old' (o := (.cells #[.slice none 0 0, .int .i64 0, .int .i8 0] 111)) HBK.out); clear y0 y1 y2 y3 y4 y5 y6 y7 y8 y9) | (go_at_call 80; refine (lay_u8 w1.heap.size w1.heap.size _ _ _ HI0.out HK0.out.1.size (by first | omega | (simp only [List.length_append, layB_len, List.length_nil, nodesE_len]; omega))).mono ?_; rintro e w2 ⟨rfl, hI, hK⟩; have HI1 := Aside0.mk hI; have HK1 := Aside0.mk (HK0.out.trans hK); clear hI hK z0 z1 z2 z3 z4 z5 z6 z7 z8 z9; obtain ⟨z0, z1, z2, z3, z4, z5, z6, z7, z8, z9, y0, y1, y2, y3, y4, y5, y6, y7, y8, y9⟩ := ten (heap_below HK1.out.1 HBK.out); clear y0 y1 y2 y3 y4 y5 y6 y7 y8 y9) | (go_at_call 81; refine (lay_u32 w1.heap.size w1.heap.size _ _ _ HI1.out HK1.out.1.size (by first | omega | (simp only [List.length_append, layB_len, List.length_nil, nodesE_len]; omega))).mono ?_; rintro e w3 ⟨rfl, hI, hK⟩; have HI2 := Aside0.mk hI; have HK2 := Aside0.mk (HK1.out.trans hK); clear hI hK z0 z1 z2 z3 z4 z5 z6 z7 z8 z9; obtain ⟨z0, z1, z2, z3, z4, z5, z6, z7, z8, z9, y0, y1, y2, y3, y4, y5, y6, y7, y8, y9⟩ := ten (heap_below HK2.out.1 HBK.out); clear y0 y1 y2 y3 y4 y5 y6 y7 y8 y9) | (go_at_call 81; refine (lay_u32 w1.heap.size w1.heap.size _ _ _ HI2.out HK2.out.1.size (by first | omega | (simp only [List.length_append, layB_len, List.length_nil, nodesE_len]; omega))).mono ?_; rintro e w4 ⟨rfl, hI, hK⟩; have HI3 := Aside0.mk hI; have HK3 := Aside0.mk (HK2.out.trans hK); clear hI hK z0 z1 z2 z3 z4 z5 z6 z7 z8 z9; obtain ⟨z0, z1, z2, z3, z4, z5, z6, z7, z8, z9, y0, y1, y2, y3, y4, y5, y6, y7, y8, y9⟩ := ten (heap_below HK3.out.1 HBK.out); clear y0 y1 y2 y3 y4 y5 y6 y7 y8 y9) | (go_at_call 84; refine (lay_int1 w1.heap.size w1.heap.size _ _ _ HI3.out HK3.out.1.size (by first | omega | (simp only [List.length_append, layB_len, List.length_nil, nodesE_len]; omega))).mono ?_; rintro e w5 ⟨rfl, hI, hK⟩; have HI4 := Aside0.mk hI; have HK4 := Aside0.mk (HK3.out.trans hK); clear hI hK z0 z1 z2 z3 z4 z5 z6 z7 z8 z9; obtain ⟨z0, z1, z2, z3, z4, z5, z6, z7, z8, z9, y0, y1, y2, y3, y4, y5, y6, y7, y8, y9⟩ := ten (heap_below HK4.out.1 HBK.out); clear y0 y1 y2 y3 y4 y5 y6 y7 y8 y9))
    clear z0 z1 z2 z3 z4 z5 z6 z7 z8 z9
    go_loopw [59] (fun i wr => ∃ k : Nat, k ≤ l6.length ∧ i = .int .i64 k ∧ Aside0 (Bf w1.heap.size w1.heap.size ([] ++ layB 6 1 ++ layB a1 4 ++ layB a5 4 ++ layB l6.length 1 ++ (l6.take k).flatMap spanE) wr) ∧ Aside0 (Kp w1.heap.size w1.heap.size w1 wr)) (fun i _ => l6.length - (intOf i).toNat)
    case atStart => exact ⟨0, Nat.zero_le _, rfl, ⟨by rw [List.take_zero, List.flatMap_nil, List.append_nil]; exact HI4.out⟩, HK4⟩
    case round =>
      obtain ⟨k, hk, rfl, HI, HK⟩ := hrel
      clear HI4 HK4 HI3 HK3 HI2 HK2 HI1 HK1 HI0 HK0
      by_cases hlt : k < l6.length
      · obtain ⟨ad, rfl, hx0, hx1⟩ := at_T132 (Kd.C_below H6.out (below_step HBW.out HK.out.1)) (k : Int) (by omega) (by omega)
        rw [rdS_nat] at hx0 hx1
        rw [Int.toNat_natCast] at hx0 hx1
        have hts := Aside0.mk (flatMap_take_succ spanE zSpan l6 k hlt)
        have hpl : ([] ++ layB 6 1 ++ layB a1 4 ++ layB a5 4 ++ layB l6.length 1 ++ (l6.take k).flatMap spanE).length + 10 ≤ 140737488355328 := by
          simp only [List.length_append, layB_len, List.length_nil, spansE_len, List.length_take]
          omega
        obtain ⟨s, hs⟩ : ∃ s, s = l6.getD k zSpan := ⟨_, rfl⟩
        rw [← hs] at hx0 hx1 hts
        clear hs
        obtain ⟨pre, hpre⟩ : ∃ p, p = [] ++ layB 6 1 ++ layB a1 4 ++ layB a5 4 ++ layB l6.length 1 ++ (l6.take k).flatMap spanE := ⟨_, rfl⟩
        have hrest : [] ++ layB 6 1 ++ layB a1 4 ++ layB a5 4 ++ layB l6.length 1 ++ (l6.take (k + 1)).flatMap spanE = pre ++ spanE s := by rw [hts.out, ← List.append_assoc, hpre]
        have HREST := Aside0.mk hrest
        rw [← hpre] at HI hpl
        have HPL := Aside0.mk (show (pre ++ layB s.f0 4).length + 1 ≤ 140737488355328 from by rw [List.length_append, layB_len]; omega)
        have HPL4 := Aside0.mk (show pre.length + 4 ≤ 140737488355328 from by omega)
        clear hpre hrest hts hpl
        obtain ⟨wo, rfl⟩ : ∃ wo : World, wo = wr := ⟨_, rfl⟩
        have HBX := Aside0.mk (Bf.alloc HI.out (.cells #[.int .i64 s.f0, .int .i64 s.f1] 132))
        have HKX := Aside0.mk (HK.out.alloc HK.out.1.size (.cells #[.int .i64 s.f0, .int .i64 s.f1] 132))
        have HNE := Aside0.mk (show wo.heap.size ≠ w1.heap.size from by have := HI.out.lt; omega)
        go_wp2_with fail
        refine (lay_int4 _ _ pre _ _ HBX.out HKX.out.1.size HPL4.out).mono ?_
        rintro e w2 ⟨rfl, hI, hK⟩
        have HI1 := Aside0.mk hI
        have HK1 := Aside0.mk (HKX.out.trans hK)
        have hblk := hK.block (heap_new' rfl) HNE.out (by decide)
        clear hI hK
        have hz1 : w2.cell? ⟨wo.heap.size, 1, none⟩ = some (.int .i64 s.f1) := (blk_cell hblk 1).trans rfl
        clear hblk
        go_wp2_with fail
        refine (lay_int1 _ _ _ _ _ HI1.out HK1.out.1.size HPL.out).mono ?_
        rintro e w3 ⟨rfl, hI, hK⟩
        have HI2 := Aside0.mk hI
        have HK2 := Aside0.mk (HK1.out.trans hK)
        clear hI hK
        go_wp2
        go_roundw
        case rel => exact ⟨k + 1, by omega, by go_num, ⟨by rw [HREST.out, spanE, ← List.append_assoc]; exact HI2.out⟩, HK2⟩
        case measure => simp [intOf]; omega
      · skip
        obtain rfl : k = l6.length := by omega
        have hI' := HI.out
        rw [List.take_length] at hI'
        have HI' := Aside0.mk hI'
        clear hI'
        go_wp2_with (first | (go_at_call 68; refine (Tryd.Buffer_Len w1.heap.size w1.heap.size _ _ (HI'.out)).mono ?_; rintro e wl ⟨rfl, nl, rfl⟩; rw [Lib.byteCells_length, ← HLEN.out]) | (go_at_call 73; refine (Tryd.Buffer_Bytes w1.heap.size w1.heap.size _ _ (HI'.out.drewN _)).mono ?_; rintro e wb ⟨v, rfl, hv, nb, rfl⟩; have HV := Aside0.mk hv; clear hv))
        go_ret2
        exact ⟨_, rfl, by rw [HX.out, recE6]; exact R_of_buf HV.out HBW.out.size, by have hz := HBW.out; have hy := HK.out.1; exact pw_below_drewN (below_step hz hy) _⟩
set_option maxHeartbeats 2000000 in
theorem enc0_any (hs : soundB ⟨a0, a1, a2, l3, l4, ⟨a5, l6⟩, a7, a8, l9⟩ = false) : Calls Tryd.prog 39 #[.agg #[.int .u8 a0, .int .u32 a1, .int .u32 a2, .slice A3 l3.length c3, .slice A4 l4.length c4, .int .u32 a5, .slice A6 l6.length c6, .int .i64 a7, .int .i64 a8, .slice A9 l9.length c9]] w (EncPost w (encR ⟨a0, a1, a2, l3, l4, ⟨a5, l6⟩, a7, a8, l9⟩)) := by
  have H3 := Aside0.mk h3; have H4 := Aside0.mk h4; have H6 := Aside0.mk h6; have H9 := Aside0.mk h9
  clear h3 h4 h6 h9
  unfold encR
  rw [if_neg (by rw [hs]; exact Bool.false_ne_true)]
  have HS := Aside0.mk hs
  clear hs
  go_enter Tryd.func39, Tryd.ntmps39
  go_wp2_with (first | (go_at_call 41; refine (code_Sound.calls a0 a1 a2 A3 c3 l3 A4 c4 l4 a5 A6 c6 l6 a7 a8 A9 c9 l9 _ _ (Kd.C_below H3.out (by (with_reducible (repeat (first | exact Below.refl _ _ | apply below_alloc | apply below_drew | apply pw_below_drewN | apply below_bytesWorld | (refine below_set ?_ (by first | assumption | omega)) | refine below_step ?_ (by assumption)))))) d3 (Kd.C_below H4.out (by (with_reducible (repeat (first | exact Below.refl _ _ | apply below_alloc | apply below_drew | apply pw_below_drewN | apply below_bytesWorld | (refine below_set ?_ (by first | assumption | omega)) | refine below_step ?_ (by assumption)))))) d4 (Kd.C_below H6.out (by (with_reducible (repeat (first | exact Below.refl _ _ | apply below_alloc | apply below_drew | apply pw_below_drewN | apply below_bytesWorld | (refine below_set ?_ (by first | assumption | omega)) | refine below_step ?_ (by assumption)))))) d6 (Kd.C_below H9.out (by (with_reducible (repeat (first | exact Below.refl _ _ | apply below_alloc | apply below_drew | apply pw_below_drewN | apply below_bytesWorld | (refine below_set ?_ (by first | assumption | omega)) | refine below_step ?_ (by assumption)))))) d9 rfl).mono ?_; rintro e w1 ⟨rfl, hb1⟩; rw [HS.out]))
  go_ret2
  exact ⟨_, rfl, Kd.R_nil _ _ _ _ _, below_step (below_alloc (Below.refl _ _) _) hb1⟩
end
theorem code_Encode.calls (a0_0 : Int) (a0_1 : Int) (a0_2 : Int) (A0_3 : Option Addr) (c0_3 : Nat) (l0_3 : List Int) (A0_4 : Option Addr) (c0_4 : Nat) (l0_4 : List SFact) (a0_5 : Int) (A0_6 : Option Addr) (c0_6 : Nat) (l0_6 : List SSpan) (a0_7 : Int) (a0_8 : Int) (A0_9 : Option Addr) (c0_9 : Nat) (l0_9 : List SEntry) (r1 : List Int) (r2 : Int) (w : World) (hr0_3 : Kd.C (Kd.int .i64) w A0_3 l0_3.length l0_3) (hc0_3 : l0_3.length ≤ c0_3) (hr0_4 : Kd.C k76 w A0_4 l0_4.length l0_4) (hc0_4 : l0_4.length ≤ c0_4) (hr0_6 : Kd.C k132 w A0_6 l0_6.length l0_6) (hc0_6 : l0_6.length ≤ c0_6) (hr0_9 : Kd.C k124 w A0_9 l0_9.length l0_9) (hc0_9 : l0_9.length ≤ c0_9) (h : code_Encode.f a0_0 a0_1 a0_2 l0_3 l0_4 a0_5 l0_6 a0_7 a0_8 l0_9 = some (r1, r2)) :
    Calls Tryd.prog 39 #[.agg #[.int .u8 a0_0, .int .u32 a0_1, .int .u32 a0_2, .slice A0_3 l0_3.length c0_3, .slice A0_4 l0_4.length c0_4, .int .u32 a0_5, .slice A0_6 l0_6.length c0_6, .int .i64 a0_7, .int .i64 a0_8, .slice A0_9 l0_9.length c0_9]] w fun e w' => ∃ v0_ : Value, e = .returned (.tuple #[v0_, .int .u16 r2]) ∧ Kd.R (Kd.int .u8) 5 w' w.heap.size (fun _ => True) v0_ r1 ∧ Below w.heap.size w w' := by
  have e := Option.some.inj h
  clear h
  have main : Calls Tryd.prog 39 #[.agg #[.int .u8 a0_0, .int .u32 a0_1, .int .u32 a0_2, .slice A0_3 l0_3.length c0_3, .slice A0_4 l0_4.length c0_4, .int .u32 a0_5, .slice A0_6 l0_6.length c0_6, .int .i64 a0_7, .int .i64 a0_8, .slice A0_9 l0_9.length c0_9]] w (EncPost w (encR ⟨a0_0, a0_1, a0_2, l0_3, l0_4, ⟨a0_5, l0_6⟩, a0_7, a0_8, l0_9⟩)) := by
    clear e
    cases hs : soundB ⟨a0_0, a0_1, a0_2, l0_3, l0_4, ⟨a0_5, l0_6⟩, a0_7, a0_8, l0_9⟩ with
    | false => exact enc0_any a0_0 a0_1 a0_2 A0_3 c0_3 l0_3 A0_4 c0_4 l0_4 a0_5 A0_6 c0_6 l0_6 a0_7 a0_8 A0_9 c0_9 l0_9 w hr0_3 hc0_3 hr0_4 hc0_4 hr0_6 hc0_6 hr0_9 hc0_9 hs
    | true =>
      by_cases h0 : a0_0 < 1 ∨ 7 < a0_0
      · rw [sound0 _ _ _ _ _ _ _ _ _ _ h0] at hs
        cases hs
      have h7 : a0_0 = 1 ∨ a0_0 = 2 ∨ a0_0 = 3 ∨ a0_0 = 4 ∨ a0_0 = 5 ∨ a0_0 = 6 ∨ a0_0 = 7 := by omega
      rcases h7 with rfl | rfl | rfl | rfl | rfl | rfl | rfl
      · exact enc1_any a0_1 a0_2 A0_3 c0_3 l0_3 A0_4 c0_4 l0_4 a0_5 A0_6 c0_6 l0_6 a0_7 a0_8 A0_9 c0_9 l0_9 w hr0_3 hc0_3 hr0_4 hc0_4 hr0_6 hc0_6 hr0_9 hc0_9 hs
      · exact enc2_any a0_1 a0_2 A0_3 c0_3 l0_3 A0_4 c0_4 l0_4 a0_5 A0_6 c0_6 l0_6 a0_7 a0_8 A0_9 c0_9 l0_9 w hr0_3 hc0_3 hr0_4 hc0_4 hr0_6 hc0_6 hr0_9 hc0_9 hs
      · exact enc3_any a0_1 a0_2 A0_3 c0_3 l0_3 A0_4 c0_4 l0_4 a0_5 A0_6 c0_6 l0_6 a0_7 a0_8 A0_9 c0_9 l0_9 w hr0_3 hc0_3 hr0_4 hc0_4 hr0_6 hc0_6 hr0_9 hc0_9 hs
      · exact enc4_any a0_1 a0_2 A0_3 c0_3 l0_3 A0_4 c0_4 l0_4 a0_5 A0_6 c0_6 l0_6 a0_7 a0_8 A0_9 c0_9 l0_9 w hr0_3 hc0_3 hr0_4 hc0_4 hr0_6 hc0_6 hr0_9 hc0_9 hs
      · exact enc5_any a0_1 a0_2 A0_3 c0_3 l0_3 A0_4 c0_4 l0_4 a0_5 A0_6 c0_6 l0_6 a0_7 a0_8 A0_9 c0_9 l0_9 w hr0_3 hc0_3 hr0_4 hc0_4 hr0_6 hc0_6 hr0_9 hc0_9 hs
      · exact enc6_any a0_1 a0_2 A0_3 c0_3 l0_3 A0_4 c0_4 l0_4 a0_5 A0_6 c0_6 l0_6 a0_7 a0_8 A0_9 c0_9 l0_9 w hr0_3 hc0_3 hr0_4 hc0_4 hr0_6 hc0_6 hr0_9 hc0_9 hs
      · exact enc7_any a0_1 a0_2 A0_3 c0_3 l0_3 A0_4 c0_4 l0_4 a0_5 A0_6 c0_6 l0_6 a0_7 a0_8 A0_9 c0_9 l0_9 w hr0_3 hc0_3 hr0_4 hc0_4 hr0_6 hc0_6 hr0_9 hc0_9 hs
  rw [e] at main
  exact main
end Go.Proofs.YtbbhjceelghadaaDoor.K
end

section
-- from K33
namespace Go.Proofs.YtbbhjceelghadaaDoor.K
open Go.RowKit Go.Proofs.YtbbhjceelghadaaDoorW.PrintWords Go.Proofs.YtbbhjceelghadaaDoorW.PrintLast Go.Proofs.YtbbhjceelghadaaDoorW.PrintMore
attribute [local go_sem] max2_int min2_int max_two min_two max_three min_three max_four min_four
set_option linter.unusedVariables false
set_option linter.unusedSimpArgs false
def bytes_Equal.f (l0 : List Int) (l1 : List Int) : Option (Bool) := some ((strOfNums l0).toList == (strOfNums l1).toList)
set_option maxHeartbeats 8000000 in
set_option maxRecDepth 100000 in
theorem bytes_Equal.calls (A0 : Option Addr) (c0 : Nat) (l0 : List Int) (A1 : Option Addr) (c1 : Nat) (l1 : List Int) (r : Bool) (w : World) (hr0 : Kd.C (Kd.int .u8) w A0 l0.length l0) (hc0 : l0.length ≤ c0) (hr1 : Kd.C (Kd.int .u8) w A1 l1.length l1) (hc1 : l1.length ≤ c1) (h : bytes_Equal.f l0 l1 = some r) :
    Calls Tryd.prog 104 #[.slice A0 l0.length c0, .slice A1 l1.length c1] w fun e w' => e = .returned (.bool r) ∧ Drawn0 w w' := by
  have HR0 := Aside0.mk hr0
  have HC0 := Aside0.mk hc0
  clear hr0 hc0
  have HR1 := Aside0.mk hr1
  have HC1 := Aside0.mk hc1
  clear hr1 hc1
  have H : (some ((strOfNums l0).toList == (strOfNums l1).toList)) = some r := h
  clear h
  obtain rfl := Option.some.inj H
  have hcv3 := Kd.C_string (P := Tryd.prog) (A := A0) (c := c0) Tryd.underlying23 Tryd.underlying5 Tryd.underlying9 HR0.out
  have hcv4 := Kd.C_string (P := Tryd.prog) (A := A1) (c := c1) Tryd.underlying23 Tryd.underlying5 Tryd.underlying9 HR1.out
  go_enter Tryd.func104, Tryd.ntmps104
  go_wp2
  go_ret
  exact ⟨by first | rfl | (simp; done) | (simp [*]; done), by repeat (first | exact Drawn0.refl _ | apply Drawn0.step)⟩
end Go.Proofs.YtbbhjceelghadaaDoor.K
end
