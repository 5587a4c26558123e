/- Parts of the proof, one behind the other: ReadR, CodeT, K33, CodeD, CodeN, K57. -/
import Derived.Test.YtbbhjceelghadaaDoorQCodeOnly6
import Derived.Test.YtbbhjceelghadaaDoorProg
import Derived.Below
import Derived.Deep.Draws
import Derived.Deep.AppendLies
import Derived.Maps.AppendAt
import Derived.OwnWalk
import Derived.Laws.BytesArg
import Derived.Laws.MakeOwn
import Derived.Laws.OwnMore
import Derived.Deep.OwnRows
import Derived.Tactics
import Derived.Lib.ConvBytes
import Derived.Laws.Slices
import Derived.WalkKit
import Derived.KernelRfl
import Derived.RowKit3
import Derived.Deep.LoopGhost
import Derived.Deep.QuietTactic
import Derived.BigQuiet
import Derived.WideLaws
import Derived.Deep.DeepCutAuto
import Derived.Deep.CutBlock
import Derived.Deep.RegionHeld3
import Derived.Laws.Rows
import Derived.Lib.AppendStr
import Derived.ArgAppend
import Derived.Laws.IdiomCopy
import Derived.OrdersHeld
import Derived.Laws.BitsLemmas
import Derived.RowKit
import Derived.WalkSpells
import Derived.WalkLawsBesides
import Derived.RegionTactic
import Derived.ChangeAlike
import Derived.Lib.Hide
import Derived.Lib.SlBytesConst
import Derived.Shelf.Abstract
import Derived.Lib.BufferMore
import Derived.Deep.WholeRow
import Derived.Laws.Tables
import Derived.Laws.StructEq
import Derived.Recover
import Derived.Defers
import Derived.Shelf.LaysM
import Derived.Shelf.Bytes.Len
import Derived.Shelf.Bytes.TryGrow
import Derived.Shelf.Bytes.GrowSliceCatch
import Derived.Shelf.Bytes.GrowSlice
import Derived.Shelf.Bytes.Bytes
import Derived.Shelf.Bytes.GrowRow0Kept
import Derived.Shelf.Bytes.GrowRowKept
import Derived.Shelf.Bytes.GrowNilKept
import Derived.Shelf.Bytes.GrowKept
import Derived.Shelf.Bytes.WriteByteKept
import Derived.Shelf.Bytes.LenAt
import Derived.Shelf.Bytes.TryGrowAt
import Derived.Shelf.Bytes.GrowRow0At
import Derived.Shelf.Bytes.GrowRowAt
import Derived.Shelf.Bytes.GrowNilAt
import Derived.Shelf.Bytes.GrowAt
import Derived.Shelf.Bytes.WriteAt
import Derived.Ground.SlbCloneProg
import Derived.Shelf.Bytes.SlClone
import Derived.Laws.ResultCell
import Derived.Lib.OthersKept
import Derived.Lib.BufferKept
import Derived.Lib.BufferWrite
set_option linter.unusedVariables false
set_option linter.unusedSimpArgs false
section
-- from ReadR
namespace Go.Proofs.YtbbhjceelghadaaDoor.K
open Go Go.RowKit Go.Proofs.YtbbhjceelghadaaDoorW.PrintWords Go.Proofs.YtbbhjceelghadaaDoorW.PrintLast Go.Proofs.YtbbhjceelghadaaDoorW.PrintMore Go.Proofs.YtbbhjceelghadaaDoor.My
theorem num_some (s : Nat) (S : Int) (hS : S = s) (hs8 : s ≤ 8) {g : Nat} {l r : List UInt8} {x : Int} {w0 w : World} (h : Rd w0 w g l) (hb : Below w0.heap.size w0 w) (hp : intP s l = some (x, r)) :
    ∃ m : Nat, x = (m : Int) ∧ m < 256 ^ s ∧ r.length + s = l.length ∧ Calls Tryd.prog 141 #[.pointer (some ⟨g, 0, none⟩), .int .i64 S] w fun e w' => e = .returned (.int .u64 (m : Int)) ∧ Rd w0 w' g r ∧ w.grownBy w' (some g) := by
  obtain ⟨h1, h2, h3⟩ := intP_some hp
  refine ⟨numB (l.take s), h2, ?_, ?_, ?_⟩
  · have := numB_lt (l.take s)
    rwa [List.length_take, Nat.min_eq_left h1] at this
  · rw [h3, List.length_drop]; omega
  · rw [h3]; exact number_ok s S hS hs8 g l w0 w h hb h1
theorem recP_none1 {l : List UInt8} (h : intP 1 l = none) : recP l = none := by unfold recP; rw [h]; rfl
theorem recP_none2 {l r : List UInt8} {x : Int} (h : intP 1 l = some (x, r)) (h1 : intP 4 r = none) : recP l = none := by unfold recP; rw [h]; simp only [Option.bind_some]; rw [h1]; rfl
theorem recP_some {l r r1 : List UInt8} {x y : Int} (h : intP 1 l = some (x, r)) (h1 : intP 4 r = some (y, r1)) : recP l = bodyP x y r1 := by unfold recP; rw [h]; simp only [Option.bind_some]; rw [h1]; rfl
theorem short_nodes : Short nodesP := fun l x r h => by
  unfold nodesP at h
  obtain ⟨⟨n, r1⟩, h1, h⟩ := Option.bind_eq_some_iff.1 h
  have a := (many_len h1 (by omega)).1
  have b := short_rep (short_int 1) n _ _ _ h
  simp only at a b
  omega
theorem short_spans : Short spansP := fun l x r h => by
  unfold spansP at h
  obtain ⟨⟨n, r1⟩, h1, h⟩ := Option.bind_eq_some_iff.1 h
  have a := (many_len h1 (by omega)).1
  have b := short_rep (p := spanP) (fun l x r h => by
    unfold spanP at h
    obtain ⟨⟨x1, r1⟩, h1, h⟩ := Option.bind_eq_some_iff.1 h
    obtain ⟨⟨x2, r2⟩, h2, h⟩ := Option.bind_eq_some_iff.1 h
    injection h with h
    injection h with e1 e2
    subst e2
    have a := short_int 4 _ _ _ h1
    have b := short_int 1 _ _ _ h2
    exact Nat.le_trans b a) n _ _ _ h
  simp only at a b
  omega
theorem short_entries : Short entriesP := fun l x r h => by
  unfold entriesP at h
  obtain ⟨⟨n, r1⟩, h1, h⟩ := Option.bind_eq_some_iff.1 h
  have a := (many_len h1 (by omega)).1
  have b := short_rep (p := entryP) (fun l x r h => by
    unfold entryP at h
    obtain ⟨⟨x1, r1⟩, h1, h⟩ := Option.bind_eq_some_iff.1 h
    obtain ⟨⟨x2, r2⟩, h2, h⟩ := Option.bind_eq_some_iff.1 h
    injection h with h
    injection h with e1 e2
    subst e2
    have a := short_int 4 _ _ _ h1
    have b := short_facts _ _ _ h2
    exact Nat.le_trans b a) n _ _ _ h
  simp only at a b
  omega
theorem grown_row (w : World) (b : Nat) (cs : Array Value) : w.grownBy (w.setRow b cs) (some b) := ⟨rfl, rfl, rfl, by simp, fun k _ hne => setRow_other w b k cs (fun e => hne (by rw [e]))⟩
/-- What is known between two steps: the reader, what has grown, the record's block, the result's. -/
structure RInv (w0 w W : World) (g b : Nat) (r : List UInt8) (cs : Array Value) : Prop where
  rd : Rd w0 W g r
  gr : w.grownBy W (some g)
  bl : Below w0.heap.size w0 W
  x : W.heap[b]? = some (.cells cs 57 (0, 0))
  res : W.heap[w.heap.size]? = some (.cells #[.int .u8 0, .int .u32 0, .int .u32 0, .slice none 0 0, .slice none 0 0, .int .u32 0, .slice none 0 0, .int .i64 0, .int .i64 0, .slice none 0 0] 57 (0, 0))
  lt : g < w.heap.size
  le : w.heap.size < b
  small : (r.length : Int) ≤ 100000
  hg : w0.heap.size ≤ g
theorem RInv.call {w0 w W W' : World} {g b : Nat} {r r' : List UInt8} {cs : Array Value} (h : RInv w0 w W g b r cs) (hR : Rd w0 W' g r') (hG : W.grownBy W' (some g)) (hl : r'.length ≤ r.length) : RInv w0 w W' g b r' cs :=
  ⟨hR, grown_trans h.gr hG, below_grown h.bl hG h.hg (Nat.le_refl _), (hG.block b (blk_lt h.x) (fun e => by injection e with e; have := h.lt; have := h.le; omega)).trans h.x, (hG.block _ (blk_lt h.res) (fun e => by injection e with e; have := h.lt; omega)).trans h.res, h.lt, h.le, by have := h.small; omega, h.hg⟩
theorem RInv.store {w0 w W : World} {g b : Nat} {r : List UInt8} {cs : Array Value} (h : RInv w0 w W g b r cs) (cs' : Array Value) : RInv w0 w (W.setRow b cs') g b r cs' := by
  have h1 := h.lt
  have h2 := h.le
  have h3 := h.hg
  refine ⟨Rd.grown h.rd (grown_row W b cs') (fun e => by injection e with e; omega), grown_new h.gr (grown_row W b cs') (by omega), below_grown h.bl (grown_row W b cs') (by omega) (Nat.le_refl _), setRow_heap W b cs cs' _ _ h.x, ?_, h1, h2, h.small, h3⟩
  rw [setRow_other W b _ cs' (by omega)]
  exact h.res
theorem RInv.fin {w0 w W : World} {g b : Nat} {r : List UInt8} {cs : Array Value} (h : RInv w0 w W g b r cs) (cs' : Array Value) : w.grownBy (W.setRow w.heap.size cs') (some g) ∧ Rd w0 (W.setRow w.heap.size cs') g r :=
  ⟨grown_new h.gr (grown_row W _ cs') (Nat.le_refl _), Rd.grown h.rd (grown_row W _ cs') (fun e => by injection e with e; have := h.lt; omega)⟩
theorem RInv.fresh {w0 w W : World} {g b : Nat} {r : List UInt8} {cs : Array Value} (h : RInv w0 w W g b r cs) : b < W.heap.size := blk_lt h.x
/-- What a record is, read. -/
def RecV (base : Nat) (x : SRec) (v : Value) (w' : World) : Prop :=
  ∃ v3 v4 v6 v9, v = .agg #[.int .u8 x.f0, .int .u32 x.f1, .int .u32 x.f2, v3, v4, .int .u32 x.f5.f0, v6, .int .i64 x.f6, .int .i64 x.f7, v9] ∧
    Kd.R (Kd.int .i64) 3 w' base (fun _ => True) v3 x.f3 ∧ Kd.R k76 76 w' base (fun k => some k ≠ v3.ownBlock) v4 x.f4 ∧
    Kd.R k132 132 w' base (fun _ => True) v6 x.f5.f1 ∧ Kd.R k124 124 w' base (fun k => some k ≠ v3.ownBlock ∧ some k ≠ v4.ownBlock) v9 x.f8
theorem built_rec (a b : Int) : (Tryd.prog).built 57 (#[(0, .int .u8 a), (1, .int .u32 b)] : Array (Nat × Value)).toList = some #[.int .u8 a, .int .u32 b, .int .u32 0, .slice none 0 0, .slice none 0 0, .int .u32 0, .slice none 0 0, .int .i64 0, .int .i64 0, .slice none 0 0] := by kernel_rfl
section
variable {w : World} {b : Nat} {c0 c1 c2 c3 c4 c5 c6 c7 c8 c9 : Value}
theorem ld_kind (h : w.heap[b]? = some (.cells #[c0, c1, c2, c3, c4, c5, c6, c7, c8, c9] 57 (0, 0))) : (Instr.loadAt 5 (.pointer (some ⟨b, 0, none⟩))).run Tryd.prog w = .ok c0 w := by
  have z0 : w.cell? ⟨b, 0, none⟩ = some c0 := (blk_cell h 0).trans rfl
  simp [go_sem, z0]
theorem st_2 (x : Int) (h : w.heap[b]? = some (.cells #[c0, c1, c2, c3, c4, c5, c6, c7, c8, c9] 57 (0, 0))) : (Instr.storeAt 49 (.pointer (some ⟨b, 2, none⟩)) (.int .u32 x)).run Tryd.prog w = .ok () (w.setRow b #[c0, c1, .int .u32 x, c3, c4, c5, c6, c7, c8, c9]) := by
  have z : w.cell? ⟨b, 2, none⟩ = some c2 := (blk_cell h 2).trans rfl
  have y : w.frozen? ⟨b, 2, none⟩ = false := blk_frozen h 2
  rw [show w.setRow b #[c0, c1, .int .u32 x, c3, c4, c5, c6, c7, c8, c9] = w.setCell ⟨b, 2, none⟩ (.int .u32 x) from (setCell_eq_setRow w b 2 _ _ _ (.int .u32 x) h).symm]
  simp [go_sem, z, y]
theorem st_3 (A : Option Addr) (n c : Nat) (h : w.heap[b]? = some (.cells #[c0, c1, c2, c3, c4, c5, c6, c7, c8, c9] 57 (0, 0))) : (Instr.storeAt 50 (.pointer (some ⟨b, 3, none⟩)) (.slice A n c)).run Tryd.prog w = .ok () (w.setRow b #[c0, c1, c2, .slice A n c, c4, c5, c6, c7, c8, c9]) := by
  have z : w.cell? ⟨b, 3, none⟩ = some c3 := (blk_cell h 3).trans rfl
  have y : w.frozen? ⟨b, 3, none⟩ = false := blk_frozen h 3
  rw [show w.setRow b #[c0, c1, c2, .slice A n c, c4, c5, c6, c7, c8, c9] = w.setCell ⟨b, 3, none⟩ (.slice A n c) from (setCell_eq_setRow w b 3 _ _ _ (.slice A n c) h).symm]
  simp [go_sem, z, y]
theorem st_4 (A : Option Addr) (n c : Nat) (h : w.heap[b]? = some (.cells #[c0, c1, c2, c3, c4, c5, c6, c7, c8, c9] 57 (0, 0))) : (Instr.storeAt 51 (.pointer (some ⟨b, 4, none⟩)) (.slice A n c)).run Tryd.prog w = .ok () (w.setRow b #[c0, c1, c2, c3, .slice A n c, c5, c6, c7, c8, c9]) := by
  have z : w.cell? ⟨b, 4, none⟩ = some c4 := (blk_cell h 4).trans rfl
  have y : w.frozen? ⟨b, 4, none⟩ = false := blk_frozen h 4
  rw [show w.setRow b #[c0, c1, c2, c3, .slice A n c, c5, c6, c7, c8, c9] = w.setCell ⟨b, 4, none⟩ (.slice A n c) from (setCell_eq_setRow w b 4 _ _ _ (.slice A n c) h).symm]
  simp [go_sem, z, y]
theorem st_5 (x : Int) (h : w.heap[b]? = some (.cells #[c0, c1, c2, c3, c4, c5, c6, c7, c8, c9] 57 (0, 0))) : (Instr.storeAt 49 (.pointer (some ⟨b, 5, none⟩)) (.int .u32 x)).run Tryd.prog w = .ok () (w.setRow b #[c0, c1, c2, c3, c4, .int .u32 x, c6, c7, c8, c9]) := by
  have z : w.cell? ⟨b, 5, none⟩ = some c5 := (blk_cell h 5).trans rfl
  have y : w.frozen? ⟨b, 5, none⟩ = false := blk_frozen h 5
  rw [show w.setRow b #[c0, c1, c2, c3, c4, .int .u32 x, c6, c7, c8, c9] = w.setCell ⟨b, 5, none⟩ (.int .u32 x) from (setCell_eq_setRow w b 5 _ _ _ (.int .u32 x) h).symm]
  simp [go_sem, z, y]
theorem st_6 (A : Option Addr) (n c : Nat) (h : w.heap[b]? = some (.cells #[c0, c1, c2, c3, c4, c5, c6, c7, c8, c9] 57 (0, 0))) : (Instr.storeAt 52 (.pointer (some ⟨b, 6, none⟩)) (.slice A n c)).run Tryd.prog w = .ok () (w.setRow b #[c0, c1, c2, c3, c4, c5, .slice A n c, c7, c8, c9]) := by
  have z : w.cell? ⟨b, 6, none⟩ = some c6 := (blk_cell h 6).trans rfl
  have y : w.frozen? ⟨b, 6, none⟩ = false := blk_frozen h 6
  rw [show w.setRow b #[c0, c1, c2, c3, c4, c5, .slice A n c, c7, c8, c9] = w.setCell ⟨b, 6, none⟩ (.slice A n c) from (setCell_eq_setRow w b 6 _ _ _ (.slice A n c) h).symm]
  simp [go_sem, z, y]
theorem st_7 (x : Int) (h : w.heap[b]? = some (.cells #[c0, c1, c2, c3, c4, c5, c6, c7, c8, c9] 57 (0, 0))) : (Instr.storeAt 3 (.pointer (some ⟨b, 7, none⟩)) (.int .i64 x)).run Tryd.prog w = .ok () (w.setRow b #[c0, c1, c2, c3, c4, c5, c6, .int .i64 x, c8, c9]) := by
  have z : w.cell? ⟨b, 7, none⟩ = some c7 := (blk_cell h 7).trans rfl
  have y : w.frozen? ⟨b, 7, none⟩ = false := blk_frozen h 7
  rw [show w.setRow b #[c0, c1, c2, c3, c4, c5, c6, .int .i64 x, c8, c9] = w.setCell ⟨b, 7, none⟩ (.int .i64 x) from (setCell_eq_setRow w b 7 _ _ _ (.int .i64 x) h).symm]
  simp [go_sem, z, y]
theorem st_8 (x : Int) (h : w.heap[b]? = some (.cells #[c0, c1, c2, c3, c4, c5, c6, c7, c8, c9] 57 (0, 0))) : (Instr.storeAt 3 (.pointer (some ⟨b, 8, none⟩)) (.int .i64 x)).run Tryd.prog w = .ok () (w.setRow b #[c0, c1, c2, c3, c4, c5, c6, c7, .int .i64 x, c9]) := by
  have z : w.cell? ⟨b, 8, none⟩ = some c8 := (blk_cell h 8).trans rfl
  have y : w.frozen? ⟨b, 8, none⟩ = false := blk_frozen h 8
  rw [show w.setRow b #[c0, c1, c2, c3, c4, c5, c6, c7, .int .i64 x, c9] = w.setCell ⟨b, 8, none⟩ (.int .i64 x) from (setCell_eq_setRow w b 8 _ _ _ (.int .i64 x) h).symm]
  simp [go_sem, z, y]
theorem st_9 (A : Option Addr) (n c : Nat) (h : w.heap[b]? = some (.cells #[c0, c1, c2, c3, c4, c5, c6, c7, c8, c9] 57 (0, 0))) : (Instr.storeAt 55 (.pointer (some ⟨b, 9, none⟩)) (.slice A n c)).run Tryd.prog w = .ok () (w.setRow b #[c0, c1, c2, c3, c4, c5, c6, c7, c8, .slice A n c]) := by
  have z : w.cell? ⟨b, 9, none⟩ = some c9 := (blk_cell h 9).trans rfl
  have y : w.frozen? ⟨b, 9, none⟩ = false := blk_frozen h 9
  rw [show w.setRow b #[c0, c1, c2, c3, c4, c5, c6, c7, c8, .slice A n c] = w.setCell ⟨b, 9, none⟩ (.slice A n c) from (setCell_eq_setRow w b 9 _ _ _ (.slice A n c) h).symm]
  simp [go_sem, z, y]
end
theorem ld_rec {w : World} {b : Nat} {cs : Array Value} (h : w.heap[b]? = some (.cells cs 57 (0, 0))) (hs : cs.size = 10) : (Instr.loadAt 57 (.pointer (some ⟨b, 0, none⟩))).run Tryd.prog w = .ok (.agg cs) w := by
  simp only [Instr.loadAt, Instr.sureAddr, Sem.run_bind, Sem.run_pure, Result.andThen]
  exact run_loadVar_row w b 57 57 cs (0, 0) _ h Tryd.underlying57 rfl (by rw [hs]; kernel_rfl)
theorem st_rec {w : World} {b : Nat} {c0 c1 c2 c3 c4 c5 c6 c7 c8 c9 : Value} {a k i : Int} {x3 x4 x6 x9 : Value} {j p q : Int} (h : w.heap[b]? = some (.cells #[c0, c1, c2, c3, c4, c5, c6, c7, c8, c9] 57 (0, 0))) (o3 : x3.oneCell' = true) (o4 : x4.oneCell' = true) (o6 : x6.oneCell' = true) (o9 : x9.oneCell' = true) :
    (Instr.storeAt 57 (.pointer (some ⟨b, 0, none⟩)) (.agg #[.int .u8 a, .int .u32 k, .int .u32 i, x3, x4, .int .u32 j, x6, .int .i64 p, .int .i64 q, x9])).run Tryd.prog w = .ok () (w.setRow b #[.int .u8 a, .int .u32 k, .int .u32 i, x3, x4, .int .u32 j, x6, .int .i64 p, .int .i64 q, x9]) := by
  simp only [Instr.storeAt, Instr.sureAddr, Sem.run_bind, Sem.run_pure, Result.andThen]
  exact run_storeVar_row w b 57 57 _ _ h (by kernel_rfl) rfl (by simp [o3, o4, o6, o9, show ∀ k n, (Value.int k n).oneCell' = true from fun _ _ => rfl])
theorem st_new (w : World) (a k : Int) : (Instr.storeAt 57 (.pointer (some ⟨w.heap.size, 0, none⟩)) (.agg #[.int .u8 a, .int .u32 k, .int .u32 0, .slice none 0 0, .slice none 0 0, .int .u32 0, .slice none 0 0, .int .i64 0, .int .i64 0, .slice none 0 0])).run Tryd.prog (w.alloc (.cells #[.int .u8 0, .int .u32 0, .int .u32 0, .slice none 0 0, .slice none 0 0, .int .u32 0, .slice none 0 0, .int .i64 0, .int .i64 0, .slice none 0 0] 57)) = .ok () (w.alloc (.cells #[.int .u8 a, .int .u32 k, .int .u32 0, .slice none 0 0, .slice none 0 0, .int .u32 0, .slice none 0 0, .int .i64 0, .int .i64 0, .slice none 0 0] 57)) :=
  run_storeAt_new (P := Tryd.prog) w 57 #[.int .u8 0, .int .u32 0, .int .u32 0, .slice none 0 0, .slice none 0 0, .int .u32 0, .slice none 0 0, .int .i64 0, .int .i64 0, .slice none 0 0] #[.int .u8 a, .int .u32 k, .int .u32 0, .slice none 0 0, .slice none 0 0, .int .u32 0, .slice none 0 0, .int .i64 0, .int .i64 0, .slice none 0 0] (by kernel_rfl) rfl (by simp [Value.oneCell'])
theorem bu_rec (w : World) (a k : Int) : (Instr.build 57 #[(0, .int .u8 a), (1, .int .u32 k)]).run Tryd.prog w = .ok (.agg #[.int .u8 a, .int .u32 k, .int .u32 0, .slice none 0 0, .slice none 0 0, .int .u32 0, .slice none 0 0, .int .i64 0, .int .i64 0, .slice none 0 0]) w := run_build w 57 _ _ (built_rec a k)
attribute [-go_sem] Instr.build Instr.storeAt Instr.loadAt
attribute [local go_sem] bu_rec st_new
set_option maxRecDepth 20000 in
set_option maxHeartbeats 16000000 in
theorem rrec_any (g : Nat) (l : List UInt8) (w0 w : World) (h : Rd w0 w g l) (hb : Below w0.heap.size w0 w) (hg : w0.heap.size ≤ g) (hm : (l.length : Int) ≤ 100000) :
    Calls Tryd.prog 125 #[.pointer (some ⟨g, 0, none⟩)] w (PP (recP l) (fun x v w' => RecV w.heap.size x v w') w0 w g) := by
  have HR := Aside0.mk h
  have HB := Aside0.mk hb
  have hlt := h.lt
  clear h hb
  obtain ⟨W, hW⟩ : ∃ W, W = w.alloc (Obj.cells #[.int .u8 0, .int .u32 0, .int .u32 0, .slice none 0 0, .slice none 0 0, .int .u32 0, .slice none 0 0, .int .i64 0, .int .i64 0, .slice none 0 0] 57) := ⟨_, rfl⟩
  have HW := Aside0.mk hW
  have HG := Aside0.mk (show w.grownBy W (some g) from by rw [hW]; exact grown_below (below_alloc (Below.refl _ _) _))
  have HR1 := Aside0.mk (Rd.grown HR.out (row := none) (show w.grownBy W none from by rw [hW]; exact grown_below (below_alloc (Below.refl _ _) _)) (by simp))
  have HB1 := Aside0.mk (below_grown HB.out HG.out hg (Nat.le_refl _))
  have HX := Aside0.mk (show W.heap[w.heap.size]? = some (.cells #[.int .u8 0, .int .u32 0, .int .u32 0, .slice none 0 0, .slice none 0 0, .int .u32 0, .slice none 0 0, .int .i64 0, .int .i64 0, .slice none 0 0] 57 (0, 0)) from by rw [hW]; exact heap_new' rfl)
  have HG0 := Aside0.mk hg
  clear HR hW hg
  cases hp1 : intP 1 l with
  | none =>
    have hcall := number_short 1 1 rfl g l w0 W HR1.out (intP_none hp1)
    have HN := Aside0.mk (recP_none1 hp1)
    clear hp1
    go_enter Tryd.func125, Tryd.ntmps125
    go_wp2_with fail
    rw [← HW.out]
    refine hcall.mono ?_
    rintro e w1 ⟨rfl, hG⟩
    go_wp2
    exact ⟨rfl, grown_trans HG.out hG, .inr ⟨HN.out, rfl⟩⟩
  | some x =>
    obtain ⟨k, r1⟩ := x
    obtain ⟨m1, rfl, hm1, hl1, hcall1⟩ := num_some 1 1 rfl (by omega) HR1.out HB1.out hp1
    have hmm1 : (m1 : Int) < 256 := by omega
    cases hp2 : intP 4 r1 with
    | none =>
      have HN := Aside0.mk (recP_none2 hp1 hp2)
      clear hp1
      go_enter Tryd.func125, Tryd.ntmps125
      go_wp2_with fail
      rw [← HW.out]
      refine hcall1.mono ?_
      rintro e w1 ⟨rfl, hR, hG⟩
      go_wp2_with fail
      refine (number_short 4 4 rfl g r1 w0 w1 hR (intP_none hp2)).mono ?_
      rintro e w2 ⟨rfl, hG2⟩
      clear hp2
      go_wp2
      exact ⟨rfl, grown_trans (grown_trans HG.out hG) hG2, .inr ⟨HN.out, rfl⟩⟩
    | some y =>
      obtain ⟨y, r2⟩ := y
      have HN := Aside0.mk (recP_some hp1 hp2)
      clear hp1
      go_enter Tryd.func125, Tryd.ntmps125
      go_wp2_with fail
      rw [← HW.out]
      refine hcall1.mono ?_
      rintro e w1 ⟨rfl, hR, hG⟩
      obtain ⟨m2, rfl, hm2, hl2, hcall2⟩ := num_some 4 4 rfl (by omega) hR (below_grown HB1.out hG HG0.out (Nat.le_refl _)) hp2
      have hmm2 : True → (m2 : Int) % 4294967296 = (m2 : Int) := fun _ => by omega
      have hr2 := Aside0.mk (show (r2.length : Int) ≤ 100000 from by omega)
      go_wp2_with fail
      refine hcall2.mono ?_
      rintro e w2 ⟨rfl, hR2, hG2⟩
      have HI := Aside0.mk (show RInv w0 w (w2.alloc (.cells #[.int .u8 (m1 : Int), .int .u32 (m2 : Int), .int .u32 0, .slice none 0 0, .slice none 0 0, .int .u32 0, .slice none 0 0, .int .i64 0, .int .i64 0, .slice none 0 0] 57)) g w2.heap.size r2 #[.int .u8 (m1 : Int), .int .u32 (m2 : Int), .int .u32 0, .slice none 0 0, .slice none 0 0, .int .u32 0, .slice none 0 0, .int .i64 0, .int .i64 0, .slice none 0 0] from by
        have hgt := grown_trans (grown_trans HG.out hG) hG2
        have hx2 := (hG2.block _ (Nat.lt_of_lt_of_le (blk_lt HX.out) hG.size) (fun e => by injection e with e; omega)).trans ((hG.block _ (blk_lt HX.out) (fun e => by injection e with e; omega)).trans HX.out)
        refine ⟨Rd.grown hR2 (row := none) (grown_below (below_alloc (Below.refl _ _) _)) (by simp), grown_trans hgt (grown_below (below_alloc (Below.refl _ _) _)), below_grown (g := g) HB.out (grown_trans hgt (grown_below (below_alloc (Below.refl _ _) _))) HG0.out (Nat.le_refl _), heap_new' rfl, ?_, hlt, blk_lt hx2, hr2.out, HG0.out⟩
        exact heap_old' hx2)
      clear hp2 hcall1 hcall2 hR hG hR2 hG2 HW HR1 HB1 HG hm1 hm2 hm HX hl1 hl2 hr2 HB HG0 hlt
      have hfr := HI.out.fresh
      obtain ⟨b, hbd⟩ : ∃ b, b = w2.heap.size := ⟨_, rfl⟩
      have hld := fun (_ : True) => ld_kind HI.out.x
      clear hbd b hfr
      by_cases hk1 : (m1 : Int) = 1
      · have HBODY := Aside0.mk (show bodyP (m1 : Int) (m2 : Int) r2 = (nodesP r2).bind fun x => (factsP x.2).bind fun y => some (⟨(m1 : Int), (m2 : Int), 0, x.1, y.1, ⟨0, []⟩, 0, 0, []⟩, y.2) from by unfold bodyP; rw [if_pos hk1])
        have hka : (m1 : Int) ≤ 1 := by omega
        have hkb : 1 ≤ (m1 : Int) := by omega
        clear hk1
        go_wp2_with fail
        cases hq0 : nodesP r2 with
        | none =>
          have hF : recP l = none := by rw [HN.out, HBODY.out]; rw [hq0]; rfl
          have HF := Aside0.mk hF
          refine (rnodes_any g r2 w0 _ HI.out.rd HI.out.bl HI.out.hg HI.out.small).mono ?_
          intro e wx hpp
          obtain ⟨rfl, hG⟩ := hpp.short hq0
          clear hpp
          clear hF hq0
          go_wp2
          exact ⟨rfl, grown_trans HI.out.gr hG, .inr ⟨HF.out, rfl⟩⟩
        | some y =>
          obtain ⟨y0, s0⟩ := y
          have HQ0 := Aside0.mk hq0
          refine (rnodes_any g r2 w0 _ HI.out.rd HI.out.bl HI.out.hg HI.out.small).mono ?_
          intro e w3 hpp
          obtain ⟨v3, rfl, hv3, hR, hG⟩ := hpp.ok hq0
          have hv3 : Kd.R (Kd.int .i64) 3 _ _ _ _ _ := hv3
          obtain ⟨A3, d3, rfl⟩ := Kd.R_slice hv3
          have hl0 := short_nodes _ _ _ hq0
          clear hpp
          have HC0 := Aside0.mk (HI.out.call hR hG (by omega))
          have HV3 := Aside0.mk hv3
          have HB3 := Aside0.mk HI.out.fresh
          clear hv3
          have HD0 := Aside0.mk (HC0.out.store #[.int .u8 (m1 : Int), .int .u32 (m2 : Int), .int .u32 0, .slice A3 y0.length d3, .slice none 0 0, .int .u32 0, .slice none 0 0, .int .i64 0, .int .i64 0, .slice none 0 0])
          have HV3 := Aside0.mk (R_keep HV3.out (grown_row _ w2.heap.size #[.int .u8 (m1 : Int), .int .u32 (m2 : Int), .int .u32 0, .slice A3 y0.length d3, .slice none 0 0, .int .u32 0, .slice none 0 0, .int .i64 0, .int .i64 0, .slice none 0 0]) HB3.out)
          have hst0 := fun (_ : True) => st_3 A3 y0.length d3 HC0.out.x
          clear hR hG hq0 hl0
          go_wp2_with fail
          cases hq1 : factsP s0 with
          | none =>
            have hF : recP l = none := by rw [HN.out, HBODY.out]; rw [HQ0.out]; simp only [Option.bind_some]; rw [hq1]; rfl
            have HF := Aside0.mk hF
            refine (rfacts_any g s0 w0 _ HD0.out.rd HD0.out.bl HD0.out.hg HD0.out.small).mono ?_
            intro e wx hpp
            obtain ⟨rfl, hG⟩ := hpp.short hq1
            clear hpp
            clear hF hq1
            go_wp2
            exact ⟨rfl, grown_trans HD0.out.gr hG, .inr ⟨HF.out, rfl⟩⟩
          | some y =>
            obtain ⟨y1, s1⟩ := y
            have HQ1 := Aside0.mk hq1
            have HO3 := Aside0.mk (Kd.R_lt HV3.out)
            refine (rfacts_any g s0 w0 _ HD0.out.rd HD0.out.bl HD0.out.hg HD0.out.small).mono ?_
            intro e w4 hpp
            obtain ⟨v4, rfl, hv4, hR, hG⟩ := hpp.ok hq1
            obtain ⟨A4, d4, rfl⟩ := Kd.R_slice hv4
            have hl1 := short_facts _ _ _ hq1
            clear hpp
            have HC1 := Aside0.mk (HD0.out.call hR hG (by omega))
            have HV3 := Aside0.mk (R_keep HV3.out hG (by have := HC1.out.lt; have := HC1.out.le; have := HB3.out; omega))
            have HV4 := Aside0.mk hv4
            have HB4 := Aside0.mk HD0.out.fresh
            clear hv4
            have HD1 := Aside0.mk (HC1.out.store #[.int .u8 (m1 : Int), .int .u32 (m2 : Int), .int .u32 0, .slice A3 y0.length d3, .slice A4 y1.length d4, .int .u32 0, .slice none 0 0, .int .i64 0, .int .i64 0, .slice none 0 0])
            have HV3 := Aside0.mk (R_keep HV3.out (grown_row _ w2.heap.size #[.int .u8 (m1 : Int), .int .u32 (m2 : Int), .int .u32 0, .slice A3 y0.length d3, .slice A4 y1.length d4, .int .u32 0, .slice none 0 0, .int .i64 0, .int .i64 0, .slice none 0 0]) HB3.out)
            have HV4 := Aside0.mk (R_keep HV4.out (grown_row _ w2.heap.size #[.int .u8 (m1 : Int), .int .u32 (m2 : Int), .int .u32 0, .slice A3 y0.length d3, .slice A4 y1.length d4, .int .u32 0, .slice none 0 0, .int .i64 0, .int .i64 0, .slice none 0 0]) HB4.out)
            have hst1 := fun (_ : True) => st_4 A4 y1.length d4 HC1.out.x
            clear hR hG hq1 hl1
            have hlr := fun (_ : True) => ld_rec HD1.out.x rfl
            have hsr := fun (_ : True) => st_rec (a := (m1 : Int)) (k := (m2 : Int)) (i := 0) (x3 := .slice A3 y0.length d3) (x4 := .slice A4 y1.length d4) (j := 0) (x6 := .slice none 0 0) (p := 0) (q := 0) (x9 := .slice none 0 0) HD1.out.res rfl rfl rfl rfl
            have hlr2 := fun (_ : True) => ld_rec (setRow_heap (w4.setRow w2.heap.size #[.int .u8 (m1 : Int), .int .u32 (m2 : Int), .int .u32 0, .slice A3 y0.length d3, .slice A4 y1.length d4, .int .u32 0, .slice none 0 0, .int .i64 0, .int .i64 0, .slice none 0 0]) w.heap.size #[.int .u8 0, .int .u32 0, .int .u32 0, .slice none 0 0, .slice none 0 0, .int .u32 0, .slice none 0 0, .int .i64 0, .int .i64 0, .slice none 0 0] #[.int .u8 (m1 : Int), .int .u32 (m2 : Int), .int .u32 0, .slice A3 y0.length d3, .slice A4 y1.length d4, .int .u32 0, .slice none 0 0, .int .i64 0, .int .i64 0, .slice none 0 0] _ _ HD1.out.res) rfl
            go_wp2_with fail
            (try simp only [Exit.inBlock, Exit.then])
            refine bodyPost_ret (results_cell_row rfl _ _ w.heap.size 57 #[.int .u8 (m1 : Int), .int .u32 (m2 : Int), .int .u32 0, .slice A3 y0.length d3, .slice A4 y1.length d4, .int .u32 0, .slice none 0 0, .int .i64 0, .int .i64 0, .slice none 0 0] (0, 0) _ (by rfl) (setRow_heap _ _ _ _ _ _ HD1.out.res) Tryd.underlying57 rfl rfl) rfl ?_
            obtain ⟨hf1, hf2⟩ := HD1.out.fin #[.int .u8 (m1 : Int), .int .u32 (m2 : Int), .int .u32 0, .slice A3 y0.length d3, .slice A4 y1.length d4, .int .u32 0, .slice none 0 0, .int .i64 0, .int .i64 0, .slice none 0 0]
            refine ⟨hf1, .inl ⟨⟨(m1 : Int), (m2 : Int), 0, y0, y1, ⟨0, []⟩, 0, 0, []⟩, s1, _, ?_, rfl, ⟨_, _, _, _, rfl, ?_, ?_, ?_, ?_⟩, hf2⟩⟩
            · rw [HN.out, HBODY.out]; rw [HQ0.out]; simp only [Option.bind_some]; rw [HQ1.out]; rfl
            · have hh := R_keep HV3.out (grown_row _ w.heap.size #[.int .u8 (m1 : Int), .int .u32 (m2 : Int), .int .u32 0, .slice A3 y0.length d3, .slice A4 y1.length d4, .int .u32 0, .slice none 0 0, .int .i64 0, .int .i64 0, .slice none 0 0]) (by have := HD1.out.le; have := HB3.out; omega)
              have hle := Nat.le_of_lt (Nat.lt_trans HD1.out.le HB3.out)
              exact Kd.R_lower hh hle
            · have hh := R_keep HV4.out (grown_row _ w.heap.size #[.int .u8 (m1 : Int), .int .u32 (m2 : Int), .int .u32 0, .slice A3 y0.length d3, .slice A4 y1.length d4, .int .u32 0, .slice none 0 0, .int .i64 0, .int .i64 0, .slice none 0 0]) (by have := HD1.out.le; have := HB4.out; omega)
              have hle := Nat.le_of_lt (Nat.lt_trans HD1.out.le HB4.out)
              refine Kd.R_lower (Kd.R_mono (Kd.R_bound hh) (ok' := fun k => some k ≠ Value.ownBlock (.slice A3 y0.length d3)) (fun k hk e => ?_)) hle
              have h1 := HO3.out k e.symm
              have h2 := hk.2.1
              omega
            · exact Kd.R_nil _ _ _ _ _
            · exact Kd.R_nil _ _ _ _ _
      by_cases hk2 : (m1 : Int) = 2
      · have HBODY := Aside0.mk (show bodyP (m1 : Int) (m2 : Int) r2 = (intP 4 r2).bind fun x => (nodesP x.2).bind fun y => some (⟨(m1 : Int), (m2 : Int), x.1, y.1, [], ⟨0, []⟩, 0, 0, []⟩, y.2) from by unfold bodyP; rw [if_neg hk1]; rw [if_pos hk2])
        have hka : (m1 : Int) ≤ 2 := by omega
        have hkb : 2 ≤ (m1 : Int) := by omega
        clear hk2
        go_wp2_with fail
        cases hq0 : intP 4 r2 with
        | none =>
          have hF : recP l = none := by rw [HN.out, HBODY.out]; rw [hq0]; rfl
          have HF := Aside0.mk hF
          refine (number_short 4 4 rfl g r2 w0 _ HI.out.rd (intP_none hq0)).mono ?_
          rintro e wx ⟨rfl, hG⟩
          clear hF hq0
          go_wp2
          exact ⟨rfl, grown_trans HI.out.gr hG, .inr ⟨HF.out, rfl⟩⟩
        | some y =>
          obtain ⟨y0, s0⟩ := y
          obtain ⟨n0, hy, hn0, hl0, hcall⟩ := num_some 4 4 rfl (by omega) HI.out.rd HI.out.bl hq0
          subst hy
          have hnn0 : True → (n0 : Int) % 4294967296 = (n0 : Int) := fun _ => by omega
          have HQ0 := Aside0.mk hq0
          refine hcall.mono ?_
          rintro e w3 ⟨rfl, hR, hG⟩
          have HC0 := Aside0.mk (HI.out.call hR hG (by omega))
          have HD0 := Aside0.mk (HC0.out.store #[.int .u8 (m1 : Int), .int .u32 (m2 : Int), .int .u32 (n0 : Int), .slice none 0 0, .slice none 0 0, .int .u32 0, .slice none 0 0, .int .i64 0, .int .i64 0, .slice none 0 0])
          have hst0 := fun (_ : True) => st_2 (n0 : Int) HC0.out.x
          clear hR hG hq0 hl0 hn0 hcall
          go_wp2_with fail
          cases hq1 : nodesP s0 with
          | none =>
            have hF : recP l = none := by rw [HN.out, HBODY.out]; rw [HQ0.out]; simp only [Option.bind_some]; rw [hq1]; rfl
            have HF := Aside0.mk hF
            refine (rnodes_any g s0 w0 _ HD0.out.rd HD0.out.bl HD0.out.hg HD0.out.small).mono ?_
            intro e wx hpp
            obtain ⟨rfl, hG⟩ := hpp.short hq1
            clear hpp
            clear hF hq1
            go_wp2
            exact ⟨rfl, grown_trans HD0.out.gr hG, .inr ⟨HF.out, rfl⟩⟩
          | some y =>
            obtain ⟨y1, s1⟩ := y
            have HQ1 := Aside0.mk hq1
            refine (rnodes_any g s0 w0 _ HD0.out.rd HD0.out.bl HD0.out.hg HD0.out.small).mono ?_
            intro e w4 hpp
            obtain ⟨v3, rfl, hv3, hR, hG⟩ := hpp.ok hq1
            have hv3 : Kd.R (Kd.int .i64) 3 _ _ _ _ _ := hv3
            obtain ⟨A3, d3, rfl⟩ := Kd.R_slice hv3
            have hl1 := short_nodes _ _ _ hq1
            clear hpp
            have HC1 := Aside0.mk (HD0.out.call hR hG (by omega))
            have HV3 := Aside0.mk hv3
            have HB3 := Aside0.mk HD0.out.fresh
            clear hv3
            have HD1 := Aside0.mk (HC1.out.store #[.int .u8 (m1 : Int), .int .u32 (m2 : Int), .int .u32 (n0 : Int), .slice A3 y1.length d3, .slice none 0 0, .int .u32 0, .slice none 0 0, .int .i64 0, .int .i64 0, .slice none 0 0])
            have HV3 := Aside0.mk (R_keep HV3.out (grown_row _ w2.heap.size #[.int .u8 (m1 : Int), .int .u32 (m2 : Int), .int .u32 (n0 : Int), .slice A3 y1.length d3, .slice none 0 0, .int .u32 0, .slice none 0 0, .int .i64 0, .int .i64 0, .slice none 0 0]) HB3.out)
            have hst1 := fun (_ : True) => st_3 A3 y1.length d3 HC1.out.x
            clear hR hG hq1 hl1
            have hlr := fun (_ : True) => ld_rec HD1.out.x rfl
            have hsr := fun (_ : True) => st_rec (a := (m1 : Int)) (k := (m2 : Int)) (i := (n0 : Int)) (x3 := .slice A3 y1.length d3) (x4 := .slice none 0 0) (j := 0) (x6 := .slice none 0 0) (p := 0) (q := 0) (x9 := .slice none 0 0) HD1.out.res rfl rfl rfl rfl
            have hlr2 := fun (_ : True) => ld_rec (setRow_heap (w4.setRow w2.heap.size #[.int .u8 (m1 : Int), .int .u32 (m2 : Int), .int .u32 (n0 : Int), .slice A3 y1.length d3, .slice none 0 0, .int .u32 0, .slice none 0 0, .int .i64 0, .int .i64 0, .slice none 0 0]) w.heap.size #[.int .u8 0, .int .u32 0, .int .u32 0, .slice none 0 0, .slice none 0 0, .int .u32 0, .slice none 0 0, .int .i64 0, .int .i64 0, .slice none 0 0] #[.int .u8 (m1 : Int), .int .u32 (m2 : Int), .int .u32 (n0 : Int), .slice A3 y1.length d3, .slice none 0 0, .int .u32 0, .slice none 0 0, .int .i64 0, .int .i64 0, .slice none 0 0] _ _ HD1.out.res) rfl
            go_wp2_with fail
            (try simp only [Exit.inBlock, Exit.then])
            refine bodyPost_ret (results_cell_row rfl _ _ w.heap.size 57 #[.int .u8 (m1 : Int), .int .u32 (m2 : Int), .int .u32 (n0 : Int), .slice A3 y1.length d3, .slice none 0 0, .int .u32 0, .slice none 0 0, .int .i64 0, .int .i64 0, .slice none 0 0] (0, 0) _ (by rfl) (setRow_heap _ _ _ _ _ _ HD1.out.res) Tryd.underlying57 rfl rfl) rfl ?_
            obtain ⟨hf1, hf2⟩ := HD1.out.fin #[.int .u8 (m1 : Int), .int .u32 (m2 : Int), .int .u32 (n0 : Int), .slice A3 y1.length d3, .slice none 0 0, .int .u32 0, .slice none 0 0, .int .i64 0, .int .i64 0, .slice none 0 0]
            refine ⟨hf1, .inl ⟨⟨(m1 : Int), (m2 : Int), (n0 : Int), y1, [], ⟨0, []⟩, 0, 0, []⟩, s1, _, ?_, rfl, ⟨_, _, _, _, rfl, ?_, ?_, ?_, ?_⟩, hf2⟩⟩
            · rw [HN.out, HBODY.out]; rw [HQ0.out]; simp only [Option.bind_some]; rw [HQ1.out]; rfl
            · have hh := R_keep HV3.out (grown_row _ w.heap.size #[.int .u8 (m1 : Int), .int .u32 (m2 : Int), .int .u32 (n0 : Int), .slice A3 y1.length d3, .slice none 0 0, .int .u32 0, .slice none 0 0, .int .i64 0, .int .i64 0, .slice none 0 0]) (by have := HD1.out.le; have := HB3.out; omega)
              have hle := Nat.le_of_lt (Nat.lt_trans HD1.out.le HB3.out)
              exact Kd.R_lower hh hle
            · exact Kd.R_nil _ _ _ _ _
            · exact Kd.R_nil _ _ _ _ _
            · exact Kd.R_nil _ _ _ _ _
      by_cases hk6 : (m1 : Int) = 6
      · have HBODY := Aside0.mk (show bodyP (m1 : Int) (m2 : Int) r2 = (intP 4 r2).bind fun x => (spansP x.2).bind fun y => some (⟨(m1 : Int), (m2 : Int), 0, [], [], ⟨x.1, y.1⟩, 0, 0, []⟩, y.2) from by unfold bodyP; rw [if_neg hk1]; rw [if_neg hk2]; rw [if_pos hk6])
        have hka : (m1 : Int) ≤ 6 := by omega
        have hkb : 6 ≤ (m1 : Int) := by omega
        clear hk6
        go_wp2_with fail
        cases hq0 : intP 4 r2 with
        | none =>
          have hF : recP l = none := by rw [HN.out, HBODY.out]; rw [hq0]; rfl
          have HF := Aside0.mk hF
          refine (number_short 4 4 rfl g r2 w0 _ HI.out.rd (intP_none hq0)).mono ?_
          rintro e wx ⟨rfl, hG⟩
          clear hF hq0
          go_wp2
          exact ⟨rfl, grown_trans HI.out.gr hG, .inr ⟨HF.out, rfl⟩⟩
        | some y =>
          obtain ⟨y0, s0⟩ := y
          obtain ⟨n0, hy, hn0, hl0, hcall⟩ := num_some 4 4 rfl (by omega) HI.out.rd HI.out.bl hq0
          subst hy
          have hnn0 : True → (n0 : Int) % 4294967296 = (n0 : Int) := fun _ => by omega
          have HQ0 := Aside0.mk hq0
          refine hcall.mono ?_
          rintro e w3 ⟨rfl, hR, hG⟩
          have HC0 := Aside0.mk (HI.out.call hR hG (by omega))
          have HD0 := Aside0.mk (HC0.out.store #[.int .u8 (m1 : Int), .int .u32 (m2 : Int), .int .u32 0, .slice none 0 0, .slice none 0 0, .int .u32 (n0 : Int), .slice none 0 0, .int .i64 0, .int .i64 0, .slice none 0 0])
          have hst0 := fun (_ : True) => st_5 (n0 : Int) HC0.out.x
          clear hR hG hq0 hl0 hn0 hcall
          go_wp2_with fail
          cases hq1 : spansP s0 with
          | none =>
            have hF : recP l = none := by rw [HN.out, HBODY.out]; rw [HQ0.out]; simp only [Option.bind_some]; rw [hq1]; rfl
            have HF := Aside0.mk hF
            refine (rspans_any g s0 w0 _ HD0.out.rd HD0.out.bl HD0.out.hg HD0.out.small).mono ?_
            intro e wx hpp
            obtain ⟨rfl, hG⟩ := hpp.short hq1
            clear hpp
            clear hF hq1
            go_wp2
            exact ⟨rfl, grown_trans HD0.out.gr hG, .inr ⟨HF.out, rfl⟩⟩
          | some y =>
            obtain ⟨y1, s1⟩ := y
            have HQ1 := Aside0.mk hq1
            refine (rspans_any g s0 w0 _ HD0.out.rd HD0.out.bl HD0.out.hg HD0.out.small).mono ?_
            intro e w4 hpp
            obtain ⟨v6, rfl, hv6, hR, hG⟩ := hpp.ok hq1
            obtain ⟨A6, d6, rfl⟩ := Kd.R_slice hv6
            have hl1 := short_spans _ _ _ hq1
            clear hpp
            have HC1 := Aside0.mk (HD0.out.call hR hG (by omega))
            have HV6 := Aside0.mk hv6
            have HB6 := Aside0.mk HD0.out.fresh
            clear hv6
            have HD1 := Aside0.mk (HC1.out.store #[.int .u8 (m1 : Int), .int .u32 (m2 : Int), .int .u32 0, .slice none 0 0, .slice none 0 0, .int .u32 (n0 : Int), .slice A6 y1.length d6, .int .i64 0, .int .i64 0, .slice none 0 0])
            have HV6 := Aside0.mk (R_keep HV6.out (grown_row _ w2.heap.size #[.int .u8 (m1 : Int), .int .u32 (m2 : Int), .int .u32 0, .slice none 0 0, .slice none 0 0, .int .u32 (n0 : Int), .slice A6 y1.length d6, .int .i64 0, .int .i64 0, .slice none 0 0]) HB6.out)
            have hst1 := fun (_ : True) => st_6 A6 y1.length d6 HC1.out.x
            clear hR hG hq1 hl1
            have hlr := fun (_ : True) => ld_rec HD1.out.x rfl
            have hsr := fun (_ : True) => st_rec (a := (m1 : Int)) (k := (m2 : Int)) (i := 0) (x3 := .slice none 0 0) (x4 := .slice none 0 0) (j := (n0 : Int)) (x6 := .slice A6 y1.length d6) (p := 0) (q := 0) (x9 := .slice none 0 0) HD1.out.res rfl rfl rfl rfl
            have hlr2 := fun (_ : True) => ld_rec (setRow_heap (w4.setRow w2.heap.size #[.int .u8 (m1 : Int), .int .u32 (m2 : Int), .int .u32 0, .slice none 0 0, .slice none 0 0, .int .u32 (n0 : Int), .slice A6 y1.length d6, .int .i64 0, .int .i64 0, .slice none 0 0]) w.heap.size #[.int .u8 0, .int .u32 0, .int .u32 0, .slice none 0 0, .slice none 0 0, .int .u32 0, .slice none 0 0, .int .i64 0, .int .i64 0, .slice none 0 0] #[.int .u8 (m1 : Int), .int .u32 (m2 : Int), .int .u32 0, .slice none 0 0, .slice none 0 0, .int .u32 (n0 : Int), .slice A6 y1.length d6, .int .i64 0, .int .i64 0, .slice none 0 0] _ _ HD1.out.res) rfl
            go_wp2_with fail
            (try simp only [Exit.inBlock, Exit.then])
            refine bodyPost_ret (results_cell_row rfl _ _ w.heap.size 57 #[.int .u8 (m1 : Int), .int .u32 (m2 : Int), .int .u32 0, .slice none 0 0, .slice none 0 0, .int .u32 (n0 : Int), .slice A6 y1.length d6, .int .i64 0, .int .i64 0, .slice none 0 0] (0, 0) _ (by rfl) (setRow_heap _ _ _ _ _ _ HD1.out.res) Tryd.underlying57 rfl rfl) rfl ?_
            obtain ⟨hf1, hf2⟩ := HD1.out.fin #[.int .u8 (m1 : Int), .int .u32 (m2 : Int), .int .u32 0, .slice none 0 0, .slice none 0 0, .int .u32 (n0 : Int), .slice A6 y1.length d6, .int .i64 0, .int .i64 0, .slice none 0 0]
            refine ⟨hf1, .inl ⟨⟨(m1 : Int), (m2 : Int), 0, [], [], ⟨(n0 : Int), y1⟩, 0, 0, []⟩, s1, _, ?_, rfl, ⟨_, _, _, _, rfl, ?_, ?_, ?_, ?_⟩, hf2⟩⟩
            · rw [HN.out, HBODY.out]; rw [HQ0.out]; simp only [Option.bind_some]; rw [HQ1.out]; rfl
            · exact Kd.R_nil _ _ _ _ _
            · exact Kd.R_nil _ _ _ _ _
            · have hh := R_keep HV6.out (grown_row _ w.heap.size #[.int .u8 (m1 : Int), .int .u32 (m2 : Int), .int .u32 0, .slice none 0 0, .slice none 0 0, .int .u32 (n0 : Int), .slice A6 y1.length d6, .int .i64 0, .int .i64 0, .slice none 0 0]) (by have := HD1.out.le; have := HB6.out; omega)
              have hle := Nat.le_of_lt (Nat.lt_trans HD1.out.le HB6.out)
              exact Kd.R_lower hh hle
            · exact Kd.R_nil _ _ _ _ _
      by_cases hk7 : (m1 : Int) = 7
      · have HBODY := Aside0.mk (show bodyP (m1 : Int) (m2 : Int) r2 = (intP 4 r2).bind fun x => (intP 4 x.2).bind fun y => (entriesP y.2).bind fun z => some (⟨(m1 : Int), (m2 : Int), 0, [], [], ⟨0, []⟩, x.1, y.1, z.1⟩, z.2) from by unfold bodyP; rw [if_neg hk1]; rw [if_neg hk2]; rw [if_neg hk6]; rw [if_pos hk7])
        have hka : (m1 : Int) ≤ 7 := by omega
        have hkb : 7 ≤ (m1 : Int) := by omega
        clear hk7
        go_wp2_with fail
        cases hq0 : intP 4 r2 with
        | none =>
          have hF : recP l = none := by rw [HN.out, HBODY.out]; rw [hq0]; rfl
          have HF := Aside0.mk hF
          refine (number_short 4 4 rfl g r2 w0 _ HI.out.rd (intP_none hq0)).mono ?_
          rintro e wx ⟨rfl, hG⟩
          clear hF hq0
          go_wp2
          exact ⟨rfl, grown_trans HI.out.gr hG, .inr ⟨HF.out, rfl⟩⟩
        | some y =>
          obtain ⟨y0, s0⟩ := y
          obtain ⟨n0, hy, hn0, hl0, hcall⟩ := num_some 4 4 rfl (by omega) HI.out.rd HI.out.bl hq0
          subst hy
          have hnn0 : True → (n0 : Int) % 4294967296 = (n0 : Int) := fun _ => by omega
          have HQ0 := Aside0.mk hq0
          refine hcall.mono ?_
          rintro e w3 ⟨rfl, hR, hG⟩
          have hnw0 : True → wrap64 (n0 : Int) = (n0 : Int) := fun _ => u64_int n0 (by omega)
          have HC0 := Aside0.mk (HI.out.call hR hG (by omega))
          have HD0 := Aside0.mk (HC0.out.store #[.int .u8 (m1 : Int), .int .u32 (m2 : Int), .int .u32 0, .slice none 0 0, .slice none 0 0, .int .u32 0, .slice none 0 0, .int .i64 (n0 : Int), .int .i64 0, .slice none 0 0])
          have hst0 := fun (_ : True) => st_7 (n0 : Int) HC0.out.x
          clear hR hG hq0 hl0 hn0 hcall
          go_wp2_with fail
          cases hq1 : intP 4 s0 with
          | none =>
            have hF : recP l = none := by rw [HN.out, HBODY.out]; rw [HQ0.out]; simp only [Option.bind_some]; rw [hq1]; rfl
            have HF := Aside0.mk hF
            refine (number_short 4 4 rfl g s0 w0 _ HD0.out.rd (intP_none hq1)).mono ?_
            rintro e wx ⟨rfl, hG⟩
            clear hF hq1
            go_wp2
            exact ⟨rfl, grown_trans HD0.out.gr hG, .inr ⟨HF.out, rfl⟩⟩
          | some y =>
            obtain ⟨y1, s1⟩ := y
            obtain ⟨n1, hy, hn1, hl1, hcall⟩ := num_some 4 4 rfl (by omega) HD0.out.rd HD0.out.bl hq1
            subst hy
            have hnn1 : True → (n1 : Int) % 4294967296 = (n1 : Int) := fun _ => by omega
            have HQ1 := Aside0.mk hq1
            refine hcall.mono ?_
            rintro e w4 ⟨rfl, hR, hG⟩
            have hnw1 : True → wrap64 (n1 : Int) = (n1 : Int) := fun _ => u64_int n1 (by omega)
            have HC1 := Aside0.mk (HD0.out.call hR hG (by omega))
            have HD1 := Aside0.mk (HC1.out.store #[.int .u8 (m1 : Int), .int .u32 (m2 : Int), .int .u32 0, .slice none 0 0, .slice none 0 0, .int .u32 0, .slice none 0 0, .int .i64 (n0 : Int), .int .i64 (n1 : Int), .slice none 0 0])
            have hst1 := fun (_ : True) => st_8 (n1 : Int) HC1.out.x
            clear hR hG hq1 hl1 hn1 hcall
            go_wp2_with fail
            cases hq2 : entriesP s1 with
            | none =>
              have hF : recP l = none := by rw [HN.out, HBODY.out]; rw [HQ0.out]; simp only [Option.bind_some]; rw [HQ1.out]; simp only [Option.bind_some]; rw [hq2]; rfl
              have HF := Aside0.mk hF
              refine (rentries_any g s1 w0 _ HD1.out.rd HD1.out.bl HD1.out.hg HD1.out.small).mono ?_
              intro e wx hpp
              obtain ⟨rfl, hG⟩ := hpp.short hq2
              clear hpp
              clear hF hq2
              go_wp2
              exact ⟨rfl, grown_trans HD1.out.gr hG, .inr ⟨HF.out, rfl⟩⟩
            | some y =>
              obtain ⟨y2, s2⟩ := y
              have HQ2 := Aside0.mk hq2
              refine (rentries_any g s1 w0 _ HD1.out.rd HD1.out.bl HD1.out.hg HD1.out.small).mono ?_
              intro e w5 hpp
              obtain ⟨v9, rfl, hv9, hR, hG⟩ := hpp.ok hq2
              obtain ⟨A9, d9, rfl⟩ := Kd.R_slice hv9
              have hl2 := short_entries _ _ _ hq2
              clear hpp
              have HC2 := Aside0.mk (HD1.out.call hR hG (by omega))
              have HV9 := Aside0.mk hv9
              have HB9 := Aside0.mk HD1.out.fresh
              clear hv9
              have HD2 := Aside0.mk (HC2.out.store #[.int .u8 (m1 : Int), .int .u32 (m2 : Int), .int .u32 0, .slice none 0 0, .slice none 0 0, .int .u32 0, .slice none 0 0, .int .i64 (n0 : Int), .int .i64 (n1 : Int), .slice A9 y2.length d9])
              have HV9 := Aside0.mk (R_keep HV9.out (grown_row _ w2.heap.size #[.int .u8 (m1 : Int), .int .u32 (m2 : Int), .int .u32 0, .slice none 0 0, .slice none 0 0, .int .u32 0, .slice none 0 0, .int .i64 (n0 : Int), .int .i64 (n1 : Int), .slice A9 y2.length d9]) HB9.out)
              have hst2 := fun (_ : True) => st_9 A9 y2.length d9 HC2.out.x
              clear hR hG hq2 hl2
              have hlr := fun (_ : True) => ld_rec HD2.out.x rfl
              have hsr := fun (_ : True) => st_rec (a := (m1 : Int)) (k := (m2 : Int)) (i := 0) (x3 := .slice none 0 0) (x4 := .slice none 0 0) (j := 0) (x6 := .slice none 0 0) (p := (n0 : Int)) (q := (n1 : Int)) (x9 := .slice A9 y2.length d9) HD2.out.res rfl rfl rfl rfl
              have hlr2 := fun (_ : True) => ld_rec (setRow_heap (w5.setRow w2.heap.size #[.int .u8 (m1 : Int), .int .u32 (m2 : Int), .int .u32 0, .slice none 0 0, .slice none 0 0, .int .u32 0, .slice none 0 0, .int .i64 (n0 : Int), .int .i64 (n1 : Int), .slice A9 y2.length d9]) w.heap.size #[.int .u8 0, .int .u32 0, .int .u32 0, .slice none 0 0, .slice none 0 0, .int .u32 0, .slice none 0 0, .int .i64 0, .int .i64 0, .slice none 0 0] #[.int .u8 (m1 : Int), .int .u32 (m2 : Int), .int .u32 0, .slice none 0 0, .slice none 0 0, .int .u32 0, .slice none 0 0, .int .i64 (n0 : Int), .int .i64 (n1 : Int), .slice A9 y2.length d9] _ _ HD2.out.res) rfl
              go_wp2_with fail
              (try simp only [Exit.inBlock, Exit.then])
              refine bodyPost_ret (results_cell_row rfl _ _ w.heap.size 57 #[.int .u8 (m1 : Int), .int .u32 (m2 : Int), .int .u32 0, .slice none 0 0, .slice none 0 0, .int .u32 0, .slice none 0 0, .int .i64 (n0 : Int), .int .i64 (n1 : Int), .slice A9 y2.length d9] (0, 0) _ (by rfl) (setRow_heap _ _ _ _ _ _ HD2.out.res) Tryd.underlying57 rfl rfl) rfl ?_
              obtain ⟨hf1, hf2⟩ := HD2.out.fin #[.int .u8 (m1 : Int), .int .u32 (m2 : Int), .int .u32 0, .slice none 0 0, .slice none 0 0, .int .u32 0, .slice none 0 0, .int .i64 (n0 : Int), .int .i64 (n1 : Int), .slice A9 y2.length d9]
              refine ⟨hf1, .inl ⟨⟨(m1 : Int), (m2 : Int), 0, [], [], ⟨0, []⟩, (n0 : Int), (n1 : Int), y2⟩, s2, _, ?_, rfl, ⟨_, _, _, _, rfl, ?_, ?_, ?_, ?_⟩, hf2⟩⟩
              · rw [HN.out, HBODY.out]; rw [HQ0.out]; simp only [Option.bind_some]; rw [HQ1.out]; simp only [Option.bind_some]; rw [HQ2.out]; rfl
              · exact Kd.R_nil _ _ _ _ _
              · exact Kd.R_nil _ _ _ _ _
              · exact Kd.R_nil _ _ _ _ _
              · have hh := R_keep HV9.out (grown_row _ w.heap.size #[.int .u8 (m1 : Int), .int .u32 (m2 : Int), .int .u32 0, .slice none 0 0, .slice none 0 0, .int .u32 0, .slice none 0 0, .int .i64 (n0 : Int), .int .i64 (n1 : Int), .slice A9 y2.length d9]) (by have := HD2.out.le; have := HB9.out; omega)
                have hle := Nat.le_of_lt (Nat.lt_trans HD2.out.le HB9.out)
                exact Kd.R_lower (Kd.R_mono hh (fun k _ => ⟨fun e => by simp [Value.ownBlock] at e, fun e => by simp [Value.ownBlock] at e⟩)) hle
      have HBODY := Aside0.mk (show bodyP (m1 : Int) (m2 : Int) r2 = some (⟨(m1 : Int), (m2 : Int), 0, [], [], ⟨0, []⟩, 0, 0, []⟩, r2) from by unfold bodyP; rw [if_neg hk1, if_neg hk2, if_neg hk6, if_neg hk7])
      have hlr := fun (_ : True) => ld_rec HI.out.x rfl
      have hsr := fun (_ : True) => st_rec (a := (m1 : Int)) (k := (m2 : Int)) (i := 0) (x3 := .slice none 0 0) (x4 := .slice none 0 0) (j := 0) (x6 := .slice none 0 0) (p := 0) (q := 0) (x9 := .slice none 0 0) HI.out.res rfl rfl rfl rfl
      have hlr2 := fun (_ : True) => ld_rec (setRow_heap (w2.alloc (.cells #[.int .u8 (m1 : Int), .int .u32 (m2 : Int), .int .u32 0, .slice none 0 0, .slice none 0 0, .int .u32 0, .slice none 0 0, .int .i64 0, .int .i64 0, .slice none 0 0] 57)) w.heap.size #[.int .u8 0, .int .u32 0, .int .u32 0, .slice none 0 0, .slice none 0 0, .int .u32 0, .slice none 0 0, .int .i64 0, .int .i64 0, .slice none 0 0] #[.int .u8 (m1 : Int), .int .u32 (m2 : Int), .int .u32 0, .slice none 0 0, .slice none 0 0, .int .u32 0, .slice none 0 0, .int .i64 0, .int .i64 0, .slice none 0 0] _ _ HI.out.res) rfl
      go_wp2_with fail
      (try simp only [Exit.inBlock, Exit.then])
      refine bodyPost_ret (results_cell_row rfl _ _ w.heap.size 57 #[.int .u8 (m1 : Int), .int .u32 (m2 : Int), .int .u32 0, .slice none 0 0, .slice none 0 0, .int .u32 0, .slice none 0 0, .int .i64 0, .int .i64 0, .slice none 0 0] (0, 0) _ (by rfl) (setRow_heap _ _ _ _ _ _ HI.out.res) Tryd.underlying57 rfl rfl) rfl ?_
      obtain ⟨hf1, hf2⟩ := HI.out.fin #[.int .u8 (m1 : Int), .int .u32 (m2 : Int), .int .u32 0, .slice none 0 0, .slice none 0 0, .int .u32 0, .slice none 0 0, .int .i64 0, .int .i64 0, .slice none 0 0]
      refine ⟨hf1, .inl ⟨⟨(m1 : Int), (m2 : Int), 0, [], [], ⟨0, []⟩, 0, 0, []⟩, r2, _, ?_, rfl, ⟨_, _, _, _, rfl, ?_, ?_, ?_, ?_⟩, hf2⟩⟩
      · rw [HN.out, HBODY.out]; skip
      · exact Kd.R_nil _ _ _ _ _
      · exact Kd.R_nil _ _ _ _ _
      · exact Kd.R_nil _ _ _ _ _
      · exact Kd.R_nil _ _ _ _ _
end Go.Proofs.YtbbhjceelghadaaDoor.K
end

section
-- from CodeT
namespace Go.Proofs.YtbbhjceelghadaaDoor.K
open Go Go.RowKit Go.Proofs.YtbbhjceelghadaaDoorW.PrintWords Go.Proofs.YtbbhjceelghadaaDoorW.PrintLast Go.Proofs.YtbbhjceelghadaaDoorW.PrintMore Go.Proofs.YtbbhjceelghadaaDoor.My
theorem built_none : (Tryd.prog).built 57 (#[] : Array (Nat × Value)).toList = some #[.int .u8 0, .int .u32 0, .int .u32 0, .slice none 0 0, .slice none 0 0, .int .u32 0, .slice none 0 0, .int .i64 0, .int .i64 0, .slice none 0 0] := by kernel_rfl
theorem bu_none (w : World) : (Instr.build 57 #[]).run Tryd.prog w = .ok (.agg #[.int .u8 0, .int .u32 0, .int .u32 0, .slice none 0 0, .slice none 0 0, .int .u32 0, .slice none 0 0, .int .i64 0, .int .i64 0, .slice none 0 0]) w := run_build w _ _ _ built_none
theorem st_bool {w : World} {b : Nat} {c0 : Value} (x : Bool) (h : w.heap[b]? = some (.cells #[c0] 4 (0, 0))) : (Instr.storeAt 4 (.pointer (some ⟨b, 0, none⟩)) (.bool x)).run Tryd.prog w = .ok () (w.setCell ⟨b, 0, none⟩ (.bool x)) := by
  have z : w.cell? ⟨b, 0, none⟩ = some c0 := (blk_cell h 0).trans rfl
  have y : w.frozen? ⟨b, 0, none⟩ = false := blk_frozen h 0
  simp [go_sem, z, y]
theorem st_short (w : World) : (Instr.storeAt 173 (.pointer (some ⟨w.heap.size, 0, none⟩)) (.agg #[])).run Tryd.prog (w.alloc (.cells #[] 173)) = .ok () (w.alloc (.cells #[] 173)) :=
  run_storeAt_new (P := Tryd.prog) w _ #[] #[] (by kernel_rfl) rfl (by simp)
theorem ld_bool {w : World} {b : Nat} {x : Bool} (h : w.heap[b]? = some (.cells #[.bool x] 4 (0, 0))) : (Instr.loadAt 4 (.pointer (some ⟨b, 0, none⟩))).run Tryd.prog w = .ok (.bool x) w := by
  have z : w.cell? ⟨b, 0, none⟩ = some (.bool x) := (blk_cell h 0).trans rfl
  simp [go_sem, z]
theorem bu_reader (w : World) (A : Option Addr) (n c : Nat) : (Instr.build 176 #[(0, .slice A n c)]).run Tryd.prog w = .ok (.agg #[.slice A n c]) w := run_build w _ _ _ (by kernel_rfl)
theorem as_short (w : World) : (Instr.typeAssert (.iface 173 (.agg #[])) 20 173 true).run Tryd.prog w = .ok (.tuple #[.agg #[], .bool true]) w := by
  have hu : (Tryd.prog).underlying 173 = some (.struct #[]) := by kernel_rfl
  simp [Instr.typeAssert, run_underlying hu]
attribute [-go_sem] Instr.build Instr.storeAt
attribute [local go_sem] bu_none bu_reader st_short as_short
set_option maxRecDepth 20000 in
theorem catch_short (bx bi : Nat) (w : World) (hx : w.heap[bx]? = some (.cells #[.int .u8 0, .int .u32 0, .int .u32 0, .slice none 0 0, .slice none 0 0, .int .u32 0, .slice none 0 0, .int .i64 0, .int .i64 0, .slice none 0 0] 57 (0, 0))) (hi : w.heap[bi]? = some (.cells #[.bool false] 4 (0, 0))) (hne : bx ≠ bi) :
    CallsD Tryd.prog 124 #[.pointer (some ⟨bx, 0, none⟩), .pointer (some ⟨bi, 0, none⟩)] (.panicking shortE) w fun e u' w' =>
      e = .returned (.tuple #[]) ∧ u' = .panicking [{ v := .iface 173 (.agg #[]), recovered := true }] ∧ w' = ((w.alloc (.cells #[] 173)).setRow bx #[.int .u8 0, .int .u32 0, .int .u32 0, .slice none 0 0, .slice none 0 0, .int .u32 0, .slice none 0 0, .int .i64 0, .int .i64 0, .slice none 0 0]).setCell ⟨bi, 0, none⟩ (.bool false) := by
  have hx1 : (w.alloc (.cells #[] 173)).heap[bx]? = some (.cells #[.int .u8 0, .int .u32 0, .int .u32 0, .slice none 0 0, .slice none 0 0, .int .u32 0, .slice none 0 0, .int .i64 0, .int .i64 0, .slice none 0 0] 57 (0, 0)) := heap_old' hx
  have hi1 : ((w.alloc (.cells #[] 173)).setRow bx #[.int .u8 0, .int .u32 0, .int .u32 0, .slice none 0 0, .slice none 0 0, .int .u32 0, .slice none 0 0, .int .i64 0, .int .i64 0, .slice none 0 0]).heap[bi]? = some (.cells #[.bool false] 4 (0, 0)) := by rw [setRow_other _ _ _ _ (fun e => hne e.symm)]; exact heap_old' hi
  have hs1 := fun (_ : True) => st_rec (a := 0) (k := 0) (i := 0) (x3 := .slice none 0 0) (x4 := .slice none 0 0) (j := 0) (x6 := .slice none 0 0) (p := 0) (q := 0) (x9 := .slice none 0 0) hx1 rfl rfl rfl rfl
  have hs2 := fun (_ : True) => st_bool false hi1
  clear hx1 hi1 hx hi
  refine callsD_of_wpS Tryd.func124 rfl fun c₀ cs hu => ?_
  simp only [Tryd.ntmps124, List.size_toArray, List.length_cons, List.length_nil, Nat.reduceAdd, Nat.reduceSub, Array.replicate_succ,
     Array.replicate_zero, List.push_toArray, List.append_toArray, List.nil_append, List.cons_append]
  apply wpS_seq
  apply wpS_region
  simp [wpOpsS, go_sem, recoverD, hu, Exit.thenS, shortE]
  refine wpS_of_wp ?_
  go_wp2
  cases c₀
  simp_all [bodyPostS, results, Tryd.results124]
theorem catch_none (bx bi : Nat) (w : World) :
    CallsD Tryd.prog 124 #[.pointer (some ⟨bx, 0, none⟩), .pointer (some ⟨bi, 0, none⟩)] .returning w fun e u' w' =>
      e = .returned (.tuple #[]) ∧ u' = .returning ∧ w' = w := by
  refine callsD_of_wpS Tryd.func124 rfl fun c₀ cs hu => ?_
  simp only [Tryd.ntmps124, List.size_toArray, List.length_cons, List.length_nil, Nat.reduceAdd, Nat.reduceSub, Array.replicate_succ,
     Array.replicate_zero, List.push_toArray, List.append_toArray, List.nil_append, List.cons_append]
  apply wpS_seq
  apply wpS_region
  simp [wpOpsS, go_sem, recoverD, hu, Exit.thenS]
  refine wpS_of_wp ?_
  go_wp2
  cases c₀
  simp_all [bodyPostS, results, Tryd.results124]
theorem tried_end {tmps : Array Value} {W : World} {bx bi : Nat} {cs : Array Value} {x : Bool} {R : Ending → World → Prop} (hp : tmps.getD 2 undef = .pointer (some ⟨bx, 0, none⟩)) (hq : tmps.getD 3 undef = .pointer (some ⟨bi, 0, none⟩))
    (hx : W.heap[bx]? = some (.cells cs 57 (0, 0))) (hs : cs.size = 10) (hi : W.heap[bi]? = some (.cells #[.bool x] 4 (0, 0))) (hR : R (.returned (.tuple #[.agg cs, .bool x])) W) : Leaves Tryd.prog Tryd.f103 tmps R [] .returning W := by
  refine ⟨_, ?_, hR⟩
  have h : Tryd.f103.results = #[.cell 2 57, .cell 3 4] := rfl
  have hp' : tmps[2]?.getD undef = .pointer (some ⟨bx, 0, none⟩) := by simpa using hp
  have hq' : tmps[3]?.getD undef = .pointer (some ⟨bi, 0, none⟩) := by simpa using hq
  have h1 := run_loadVar_row (P := Tryd.prog) W bx 57 57 cs (0, 0) _ hx Tryd.underlying57 rfl (by rw [hs]; kernel_rfl)
  have h2 := ld_bool hi
  simp only [Instr.loadAt, Instr.sureAddr, Sem.run_bind, Sem.run_pure, Result.andThen] at h2
  simp [results, h, hp', hq', asAddr, h1, h2]
theorem RecV_grown {base : Nat} {x : SRec} {v : Value} {w w' : World} {g : Nat} (h : RecV base x v w) (hg : w.grownBy w' (some g)) (hlt : g < base) : RecV base x v w' := by
  obtain ⟨v3, v4, v6, v9, rfl, h3, h4, h6, h9⟩ := h
  exact ⟨v3, v4, v6, v9, rfl, R_keep h3 hg hlt, R_keep h4 hg hlt, R_keep h6 hg hlt, R_keep h9 hg hlt⟩
theorem RecV_lower {base base' : Nat} {x : SRec} {v : Value} {w : World} (h : RecV base x v w) (hle : base' ≤ base) : RecV base' x v w := by
  obtain ⟨v3, v4, v6, v9, rfl, h3, h4, h6, h9⟩ := h
  exact ⟨v3, v4, v6, v9, rfl, Kd.R_lower h3 hle, Kd.R_lower h4 hle, Kd.R_lower h6 hle, Kd.R_lower h9 hle⟩
theorem cell_same {w : World} {b : Nat} {c0 : Value} {t : Nat} (v : Value) (h : w.heap[b]? = some (.cells #[c0] t (0, 0))) : (w.setCell ⟨b, 0, none⟩ v).heap[b]? = some (.cells #[v] t (0, 0)) := by
  rw [setCell_eq_setRow w b 0 #[c0] t (0, 0) v h]
  exact setRow_heap w b _ _ _ _ h
theorem cell_other {w : World} {b i k : Nat} (v : Value) (hne : k ≠ b) : (w.setCell ⟨b, i, none⟩ v).heap[k]? = w.heap[k]? := Below.heap_setCell _ _ _ _ hne
set_option maxRecDepth 20000 in
theorem tried_any (A : Option Addr) (c : Nat) (l : List UInt8) (w : World) (hC : kb.C w A l.length l) (hc : l.length ≤ c) (hm : (l.length : Int) ≤ 100000) :
    Calls Tryd.prog 103 #[.slice A l.length c] w fun e w' => Below w.heap.size w w' ∧
      ((∃ x r v, recP l = some (x, r) ∧ e = .returned (.tuple #[v, .bool true]) ∧ RecV w.heap.size x v w') ∨ (recP l = none ∧ e = .returned (.tuple #[.agg #[.int .u8 0, .int .u32 0, .int .u32 0, .slice none 0 0, .slice none 0 0, .int .u32 0, .slice none 0 0, .int .i64 0, .int .i64 0, .slice none 0 0], .bool false]))) := by
  have hmf : ∀ (fn : Fn) (first cap : Array Value) (w : World), (Instr.makeFunc fn first cap).run Tryd.prog w = .ok (.func fn first cap) w := fun _ _ _ _ => rfl
  have HC := Aside0.mk hC
  obtain ⟨WR, hWR⟩ : ∃ WR, WR = ((w.alloc (.cells #[.int .u8 0, .int .u32 0, .int .u32 0, .slice none 0 0, .slice none 0 0, .int .u32 0, .slice none 0 0, .int .i64 0, .int .i64 0, .slice none 0 0] 57)).alloc (.cells #[.bool false] 4)).alloc (.cells #[.slice A l.length c] 176) := ⟨_, rfl⟩
  have HW := Aside0.mk hWR
  have hB : Below w.heap.size w WR := by rw [hWR]; exact below_alloc (below_alloc (below_alloc (Below.refl _ _) _) _) _
  have HR := Aside0.mk (show Rd w WR (w.heap.size + 2) l from ⟨A, c, by rw [hWR]; exact heap_new' (by simp), hc, hC⟩)
  have HX := Aside0.mk (show WR.heap[w.heap.size]? = some (.cells #[.int .u8 0, .int .u32 0, .int .u32 0, .slice none 0 0, .slice none 0 0, .int .u32 0, .slice none 0 0, .int .i64 0, .int .i64 0, .slice none 0 0] 57 (0, 0)) from by rw [hWR]; exact heap_old' (heap_old' (heap_new' rfl)))
  have HI := Aside0.mk (show WR.heap[w.heap.size + 1]? = some (.cells #[.bool false] 4 (0, 0)) from by rw [hWR]; exact heap_old' (heap_new' (by simp)))
  have HB := Aside0.mk hB
  have hsz : WR.heap.size = w.heap.size + 3 := by rw [hWR]; simp
  clear hC hWR hB
  go_enter_defers Tryd.func103, Tryd.ntmps103
  go_wp2_with fail
  rw [← HW.out]
  refine (rrec_any (w.heap.size + 2) l w WR HR.out HB.out (by omega) hm).mono ?_
  intro e w1 hpp
  cases hp : recP l with
  | none =>
    obtain ⟨rfl, hG⟩ := hpp.short hp
    clear hpp
    have hx1 := (hG.block _ (blk_lt HX.out) (fun e => by injection e with e; omega)).trans HX.out
    have hi1 := (hG.block _ (blk_lt HI.out) (fun e => by injection e with e; omega)).trans HI.out
    have HX1 := Aside0.mk hx1
    have HI1 := Aside0.mk hi1
    clear hx1 hi1
    go_wp2
    refine leaves_cons (f := 124) (args := #[.pointer (some ⟨w.heap.size, 0, none⟩), .pointer (some ⟨w.heap.size + 1, 0, none⟩)]) (by simp) (by simp [go_sem]) ?_
    refine (catch_short w.heap.size (w.heap.size + 1) w1 HX1.out HI1.out (by omega)).mono ?_
    rintro e u' w2 ⟨rfl, rfl, rfl⟩
    have hB2 := below_grown HB.out hG (by omega) (Nat.le_refl _)
    have hx2 := (cell_other (i := 0) (.bool false) (show w.heap.size ≠ w.heap.size + 1 by omega)).trans (setRow_heap (w1.alloc (.cells #[] 173)) w.heap.size _ #[.int .u8 0, .int .u32 0, .int .u32 0, .slice none 0 0, .slice none 0 0, .int .u32 0, .slice none 0 0, .int .i64 0, .int .i64 0, .slice none 0 0] _ _ (heap_old' HX1.out))
    have hi2 := cell_same (.bool false) ((setRow_other (w1.alloc (.cells #[] 173)) w.heap.size (w.heap.size + 1) #[.int .u8 0, .int .u32 0, .int .u32 0, .slice none 0 0, .slice none 0 0, .int .u32 0, .slice none 0 0, .int .i64 0, .int .i64 0, .slice none 0 0] (by omega)).trans (heap_old' HI1.out))
    refine tried_end rfl rfl hx2 rfl hi2 ⟨?_, .inr ⟨hp, rfl⟩⟩
    exact below_set (below_grown (below_alloc hB2 _) (grown_row _ w.heap.size _) (Nat.le_refl _) (Nat.le_refl _)) (by show _ ≤ _; simp)
  | some y =>
    obtain ⟨x, r⟩ := y
    obtain ⟨v, rfl, hv, hR, hG⟩ := hpp.ok hp
    obtain ⟨v3, v4, v6, v9, rfl, h3, h4, h6, h9⟩ := hv
    obtain ⟨A3, d3, rfl⟩ := Kd.R_slice h3
    obtain ⟨A4, d4, rfl⟩ := Kd.R_slice h4
    obtain ⟨A6, d6, rfl⟩ := Kd.R_slice h6
    obtain ⟨A9, d9, rfl⟩ := Kd.R_slice h9
    have hx1 := (hG.block _ (blk_lt HX.out) (fun e => by injection e with e; omega)).trans HX.out
    have hi1 := (hG.block _ (blk_lt HI.out) (fun e => by injection e with e; omega)).trans HI.out
    have hs1 := fun (_ : True) => st_rec (a := x.f0) (k := x.f1) (i := x.f2) (x3 := .slice A3 x.f3.length d3) (x4 := .slice A4 x.f4.length d4) (j := x.f5.f0) (x6 := .slice A6 x.f5.f1.length d6) (p := x.f6) (q := x.f7) (x9 := .slice A9 x.f8.length d9) hx1 rfl rfl rfl rfl
    have hi2 := (setRow_other w1 w.heap.size (w.heap.size + 1) #[.int .u8 x.f0, .int .u32 x.f1, .int .u32 x.f2, .slice A3 x.f3.length d3, .slice A4 x.f4.length d4, .int .u32 x.f5.f0, .slice A6 x.f5.f1.length d6, .int .i64 x.f6, .int .i64 x.f7, .slice A9 x.f8.length d9] (by omega)).trans hi1
    have hs2 := fun (_ : True) => st_bool true hi2
    have HX1 := Aside0.mk hx1
    have HI2 := Aside0.mk hi2
    clear hpp hx1 hi1 hi2
    go_wp2
    refine leaves_cons (f := 124) (args := #[.pointer (some ⟨w.heap.size, 0, none⟩), .pointer (some ⟨w.heap.size + 1, 0, none⟩)]) (by simp) (by simp [go_sem]) ?_
    refine (catch_none w.heap.size (w.heap.size + 1) _).mono ?_
    rintro e u' w2 ⟨rfl, rfl, rfl⟩
    have hB2 := below_grown HB.out hG (by omega) (Nat.le_refl _)
    have hx2 := (cell_other (i := 0) (.bool true) (show w.heap.size ≠ w.heap.size + 1 by omega)).trans (setRow_heap w1 w.heap.size _ #[.int .u8 x.f0, .int .u32 x.f1, .int .u32 x.f2, .slice A3 x.f3.length d3, .slice A4 x.f4.length d4, .int .u32 x.f5.f0, .slice A6 x.f5.f1.length d6, .int .i64 x.f6, .int .i64 x.f7, .slice A9 x.f8.length d9] _ _ HX1.out)
    have hi2 := cell_same (.bool true) HI2.out
    refine tried_end rfl rfl hx2 rfl hi2 ⟨?_, .inl ⟨x, r, _, hp, rfl, ?_⟩⟩
    · exact below_set (below_grown hB2 (grown_row _ w.heap.size _) (Nat.le_refl _) (Nat.le_refl _)) (by show _ ≤ _; simp)
    · exact RecV_lower (RecV_grown (RecV_grown ⟨_, _, _, _, rfl, h3, h4, h6, h9⟩ (grown_row w1 w.heap.size _) (by omega)) (grown_set _ (w.heap.size + 1) 0 _) (by omega)) (by omega)
end Go.Proofs.YtbbhjceelghadaaDoor.K
end

section
-- from K33
namespace Go.Proofs.YtbbhjceelghadaaDoor.K
open Go.RowKit Go.Proofs.YtbbhjceelghadaaDoorW.PrintWords Go.Proofs.YtbbhjceelghadaaDoorW.PrintLast Go.Proofs.YtbbhjceelghadaaDoorW.PrintMore
attribute [local go_sem] max2_int min2_int max_two min_two max_three min_three max_four min_four
set_option linter.unusedVariables false
set_option linter.unusedSimpArgs false
def bytes_Equal.f (l0 : List Int) (l1 : List Int) : Option (Bool) := some ((strOfNums l0).toList == (strOfNums l1).toList)
set_option maxHeartbeats 8000000 in
set_option maxRecDepth 100000 in
theorem bytes_Equal.calls (A0 : Option Addr) (c0 : Nat) (l0 : List Int) (A1 : Option Addr) (c1 : Nat) (l1 : List Int) (r : Bool) (w : World) (hr0 : Kd.C (Kd.int .u8) w A0 l0.length l0) (hc0 : l0.length ≤ c0) (hr1 : Kd.C (Kd.int .u8) w A1 l1.length l1) (hc1 : l1.length ≤ c1) (h : bytes_Equal.f l0 l1 = some r) :
    Calls Tryd.prog 104 #[.slice A0 l0.length c0, .slice A1 l1.length c1] w fun e w' => e = .returned (.bool r) ∧ Drawn0 w w' := by
  have HR0 := Aside0.mk hr0
  have HC0 := Aside0.mk hc0
  clear hr0 hc0
  have HR1 := Aside0.mk hr1
  have HC1 := Aside0.mk hc1
  clear hr1 hc1
  have H : (some ((strOfNums l0).toList == (strOfNums l1).toList)) = some r := h
  clear h
  obtain rfl := Option.some.inj H
  have hcv3 := Kd.C_string (P := Tryd.prog) (A := A0) (c := c0) Tryd.underlying23 Tryd.underlying5 Tryd.underlying9 HR0.out
  have hcv4 := Kd.C_string (P := Tryd.prog) (A := A1) (c := c1) Tryd.underlying23 Tryd.underlying5 Tryd.underlying9 HR1.out
  go_enter Tryd.func104, Tryd.ntmps104
  go_wp2
  go_ret
  exact ⟨by first | rfl | (simp; done) | (simp [*]; done), by repeat (first | exact Drawn0.refl _ | apply Drawn0.step)⟩
end Go.Proofs.YtbbhjceelghadaaDoor.K
end

section
-- from CodeD
namespace Go.Proofs.YtbbhjceelghadaaDoor.K
open Go Go.RowKit Go.Proofs.YtbbhjceelghadaaDoorW.PrintWords Go.Proofs.YtbbhjceelghadaaDoorW.PrintLast Go.Proofs.YtbbhjceelghadaaDoorW.PrintMore Go.Proofs.YtbbhjceelghadaaDoor.My
def zeroRec : SRec := ⟨0, 0, 0, [], [], ⟨0, []⟩, 0, 0, []⟩
/-- The bytes of numbers. -/
def bytesOf (l0 : List Int) : List UInt8 := l0.map fun x => UInt8.ofNat x.toNat
def decR (l : List UInt8) : SRec × Int := if 60000 < l.length then (zeroRec, 3) else match recP l with | none => (zeroRec, 70) | some (x, _) => if encR x = (nums l, 0) then (x, 0) else (zeroRec, 70)
def flatR (r : SRec × Int) : Int × Int × Int × List Int × List SFact × Int × List SSpan × Int × Int × List SEntry × Int := (r.1.f0, r.1.f1, r.1.f2, r.1.f3, r.1.f4, r.1.f5.f0, r.1.f5.f1, r.1.f6, r.1.f7, r.1.f8, r.2)
theorem bytesOf_nums (l : List UInt8) : bytesOf (nums l) = l := by
  unfold bytesOf nums
  rw [List.map_map]
  conv => rhs; rw [← List.map_id l]
  apply List.map_congr_left
  intro b _
  simp
theorem nums_inj {l m : List UInt8} (h : nums l = nums m) : l = m := by rw [← bytesOf_nums l, h, bytesOf_nums]
theorem kb_of_ints {w : World} {A : Option Addr} {n : Nat} {l : List UInt8} (h : (Kd.int .u8).C w A n (nums l)) : kb.C w A n l := by
  refine ⟨by rw [← nums_len]; exact h.1, h.2.1, fun hn => ?_⟩
  obtain ⟨ad, e, hc⟩ := h.2.2 hn
  refine ⟨ad, e, fun j p hj => ?_⟩
  obtain ⟨c, h1, h2, h3⟩ := hc j (p.toNat : Int) (by unfold nums; rw [List.getElem?_map, hj]; rfl)
  exact ⟨c, h1, h2, h3⟩
theorem equal_nums (l m : List UInt8) : ((strOfNums (nums l)).toList == (strOfNums (nums m)).toList) = decide (l = m) := by
  unfold nums
  rw [str_of_nums, str_of_nums, bs_list, bs_list]
  by_cases h : l = m
  · subst h; simp
  · simp [h]
theorem encR_cases (x : SRec) : encR x = ([], 1) ∨ encR x = ([], 3) ∨ encR x = (nums (recE x), 0) := by
  unfold encR
  split
  · split
    · exact .inr (.inl rfl)
    · exact .inr (.inr rfl)
  · exact .inl rfl
def DecPost (w : World) (r : SRec × Int) (e : Ending) (w' : World) : Prop := ∃ v, e = .returned (.tuple #[v, .int .u16 r.2]) ∧ RecV w.heap.size r.1 v w' ∧ Below w.heap.size w w'
theorem dec_bad (w w' : World) (c : Int) (h : Below w.heap.size w w') : DecPost w (zeroRec, c) (.returned (.tuple #[.agg #[.int .u8 0, .int .u32 0, .int .u32 0, .slice none 0 0, .slice none 0 0, .int .u32 0, .slice none 0 0, .int .i64 0, .int .i64 0, .slice none 0 0], .int .u16 c])) w' :=
  ⟨_, rfl, ⟨_, _, _, _, rfl, Kd.R_nil _ _ _ _ _, Kd.R_nil _ _ _ _ _, Kd.R_nil _ _ _ _ _, Kd.R_nil _ _ _ _ _⟩, h⟩
theorem RecV_below {base : Nat} {x : SRec} {v : Value} {w w' : World} (h : RecV base x v w) (hb : Below w.heap.size w w') : RecV base x v w' := by
  obtain ⟨v3, v4, v6, v9, rfl, h3, h4, h6, h9⟩ := h
  exact ⟨v3, v4, v6, v9, rfl, Kd.R_below h3 hb, Kd.R_below h4 hb, Kd.R_below h6 hb, Kd.R_below h9 hb⟩
theorem res_dec {tmps : Array Value} {W : World} {p u : Tmp} {b : Nat} {cs : Array Value} {x : Value} (h : Tryd.f44.results = #[.cell p 57, .tmp u]) (hp : tmps.getD p undef = .pointer (some ⟨b, 0, none⟩)) (hu : tmps.getD u undef = x) (hx : W.heap[b]? = some (.cells cs 57 (0, 0))) (hs : cs.size = 10) :
    (results Tryd.f44 tmps).run Tryd.prog W = .ok (.tuple #[.agg cs, x]) W := by
  have h1 := run_loadVar_row (P := Tryd.prog) W b 57 57 cs (0, 0) _ hx Tryd.underlying57 rfl (by rw [hs]; kernel_rfl)
  rw [results_cell_tmp h, hp, hu]
  simp [asAddr, h1, Result.andThen]
theorem st_zero {w : World} {b : Nat} (h : w.heap[b]? = some (.cells #[.int .u8 0, .int .u32 0, .int .u32 0, .slice none 0 0, .slice none 0 0, .int .u32 0, .slice none 0 0, .int .i64 0, .int .i64 0, .slice none 0 0] 57 (0, 0))) : (Instr.storeAt 57 (.pointer (some ⟨b, 0, none⟩)) (.agg #[.int .u8 0, .int .u32 0, .int .u32 0, .slice none 0 0, .slice none 0 0, .int .u32 0, .slice none 0 0, .int .i64 0, .int .i64 0, .slice none 0 0])).run Tryd.prog w = .ok () (w.setRow b #[.int .u8 0, .int .u32 0, .int .u32 0, .slice none 0 0, .slice none 0 0, .int .u32 0, .slice none 0 0, .int .i64 0, .int .i64 0, .slice none 0 0]) := st_rec (a := 0) (k := 0) (i := 0) (x3 := .slice none 0 0) (x4 := .slice none 0 0) (j := 0) (x6 := .slice none 0 0) (p := 0) (q := 0) (x9 := .slice none 0 0) h rfl rfl rfl rfl
theorem bad_end (w W : World) (h : Below w.heap.size w W) (c : Int) : DecPost w (zeroRec, c) (.returned (.tuple #[.agg #[.int .u8 0, .int .u32 0, .int .u32 0, .slice none 0 0, .slice none 0 0, .int .u32 0, .slice none 0 0, .int .i64 0, .int .i64 0, .slice none 0 0], .int .u16 c])) (W.setRow w.heap.size #[.int .u8 0, .int .u32 0, .int .u32 0, .slice none 0 0, .slice none 0 0, .int .u32 0, .slice none 0 0, .int .i64 0, .int .i64 0, .slice none 0 0]) :=
  dec_bad w _ c (below_grown h (grown_row W w.heap.size _) (Nat.le_refl _) (Nat.le_refl _))
attribute [-go_sem] Instr.build Instr.storeAt Instr.loadAt
attribute [local go_sem] bu_none
set_option maxRecDepth 20000 in
set_option maxHeartbeats 8000000 in
theorem decode_any (A : Option Addr) (c : Nat) (l : List UInt8) (w : World) (hCi : (Kd.int .u8).C w A l.length (nums l)) (hc : l.length ≤ c) :
    Calls Tryd.prog 44 #[.slice A l.length c] w (DecPost w (decR l)) := by
  obtain ⟨Wa, hWa⟩ : ∃ Wa, Wa = w.alloc (.cells #[.int .u8 0, .int .u32 0, .int .u32 0, .slice none 0 0, .slice none 0 0, .int .u32 0, .slice none 0 0, .int .i64 0, .int .i64 0, .slice none 0 0] 57) := ⟨_, rfl⟩
  have HWA := Aside0.mk hWa
  have hBa : Below w.heap.size w Wa := by rw [hWa]; exact below_alloc (Below.refl _ _) _
  have HXA := Aside0.mk (show Wa.heap[w.heap.size]? = some (.cells #[.int .u8 0, .int .u32 0, .int .u32 0, .slice none 0 0, .slice none 0 0, .int .u32 0, .slice none 0 0, .int .i64 0, .int .i64 0, .slice none 0 0] 57 (0, 0)) from by rw [hWa]; exact heap_new' rfl)
  have HBA := Aside0.mk hBa
  have HLT := Aside0.mk (blk_lt HXA.out)
  have HCI := Aside0.mk (Kd.C_below hCi hBa)
  have HC := Aside0.mk (kb_of_ints HCI.out)
  clear hCi hWa hBa
  unfold decR
  by_cases hl : 60000 < l.length
  · rw [if_pos hl]
    have hst := fun (_ : True) => st_zero (show (w.alloc (.cells #[.int .u8 0, .int .u32 0, .int .u32 0, .slice none 0 0, .slice none 0 0, .int .u32 0, .slice none 0 0, .int .i64 0, .int .i64 0, .slice none 0 0] 57)).heap[w.heap.size]? = _ from heap_new' rfl)
    go_enter Tryd.func44, Tryd.ntmps44
    go_wp2
    ((try simp only [Exit.inBlock, Exit.then]); exact bodyPost_ret (res_dec rfl rfl rfl (setRow_heap _ _ _ _ _ _ (heap_new' rfl)) rfl) rfl (bad_end w _ (below_alloc (Below.refl _ _) _) 3))
  · rw [if_neg hl]
    have hcall := tried_any A c l Wa HC.out hc (by omega)
    cases hp : recP l with
    | none =>
      go_enter Tryd.func44, Tryd.ntmps44
      go_wp2_with fail
      rw [← HWA.out]
      refine hcall.mono ?_
      rintro e w1 ⟨hB, hor⟩
      rcases hor.symm with ⟨_, rfl⟩ | ⟨x, r, v, h, _⟩
      case inr => rw [hp] at h; cases h
      have HX := Aside0.mk ((hB.block _ HLT.out).trans HXA.out)
      have HB := Aside0.mk (HBA.out.trans (hB.mono HBA.out.size))
      have hst := fun (_ : True) => st_zero (show (w1.alloc (.cells #[.int .u8 0, .int .u32 0, .int .u32 0, .slice none 0 0, .slice none 0 0, .int .u32 0, .slice none 0 0, .int .i64 0, .int .i64 0, .slice none 0 0] 57)).heap[w.heap.size]? = _ from heap_old' HX.out)
      have hsx := fun (_ : True) => run_storeAt_new (P := Tryd.prog) w1 57 #[.int .u8 0, .int .u32 0, .int .u32 0, .slice none 0 0, .slice none 0 0, .int .u32 0, .slice none 0 0, .int .i64 0, .int .i64 0, .slice none 0 0] #[.int .u8 0, .int .u32 0, .int .u32 0, .slice none 0 0, .slice none 0 0, .int .u32 0, .slice none 0 0, .int .i64 0, .int .i64 0, .slice none 0 0] (by kernel_rfl) rfl (by simp [Value.oneCell'])
      clear hp hcall hB hor
      go_wp2
      ((try simp only [Exit.inBlock, Exit.then]); exact bodyPost_ret (res_dec rfl rfl rfl (setRow_heap _ _ _ _ _ _ (heap_old' HX.out)) rfl) rfl (bad_end w _ (below_alloc HB.out _) 70))
    | some y =>
      obtain ⟨x, r⟩ := y
      obtain ⟨D, hD⟩ : ∃ D : SRec × Int, D = (if encR x = (nums l, 0) then (x, 0) else (zeroRec, 70)) := ⟨_, rfl⟩
      show Calls _ _ _ _ (DecPost w (if encR x = (nums l, 0) then (x, 0) else (zeroRec, 70)))
      rw [← hD]
      have HDD := Aside0.mk hD
      clear hD
      go_enter Tryd.func44, Tryd.ntmps44
      go_wp2_with fail
      rw [← HWA.out]
      refine hcall.mono ?_
      rintro e w1 ⟨hB, hor⟩
      rcases hor.symm with ⟨h, _⟩ | ⟨x', r', v, h, rfl, hv⟩
      case inl => rw [hp] at h; cases h
      rw [hp] at h
      injection h with h
      injection h with e1 e2
      subst e1
      subst e2
      clear hp hcall hor
      have HX := Aside0.mk ((hB.block _ HLT.out).trans HXA.out)
      have HB := Aside0.mk (HBA.out.trans (hB.mono HBA.out.size))
      have HCB0 := Aside0.mk (Kd.C_below HCI.out hB)
      obtain ⟨v3, v4, v6, v9, rfl, h3, h4, h6, h9⟩ := hv
      obtain ⟨A3, d3, rfl⟩ := Kd.R_slice h3
      obtain ⟨A4, d4, rfl⟩ := Kd.R_slice h4
      obtain ⟨A6, d6, rfl⟩ := Kd.R_slice h6
      obtain ⟨A9, d9, rfl⟩ := Kd.R_slice h9
      have hbw : Below w1.heap.size w1 (w1.alloc (.cells #[.int .u8 x.f0, .int .u32 x.f1, .int .u32 x.f2, .slice A3 x.f3.length d3, .slice A4 x.f4.length d4, .int .u32 x.f5.f0, .slice A6 x.f5.f1.length d6, .int .i64 x.f6, .int .i64 x.f7, .slice A9 x.f8.length d9] 57)) := below_alloc (Below.refl _ _) _
      have HV := Aside0.mk (RecV_below (show RecV Wa.heap.size x _ w1 from ⟨_, _, _, _, rfl, h3, h4, h6, h9⟩) hbw)
      have HX0 := HX
      have HX := Aside0.mk (show (w1.alloc (.cells #[.int .u8 x.f0, .int .u32 x.f1, .int .u32 x.f2, .slice A3 x.f3.length d3, .slice A4 x.f4.length d4, .int .u32 x.f5.f0, .slice A6 x.f5.f1.length d6, .int .i64 x.f6, .int .i64 x.f7, .slice A9 x.f8.length d9] 57)).heap[w.heap.size]? = _ from heap_old' HX0.out)
      have HB := Aside0.mk (show Below w.heap.size w (w1.alloc (.cells #[.int .u8 x.f0, .int .u32 x.f1, .int .u32 x.f2, .slice A3 x.f3.length d3, .slice A4 x.f4.length d4, .int .u32 x.f5.f0, .slice A6 x.f5.f1.length d6, .int .i64 x.f6, .int .i64 x.f7, .slice A9 x.f8.length d9] 57)) from below_alloc HB.out _)
      have HCB := Aside0.mk (Kd.C_below HCB0.out hbw)
      have HXX := Aside0.mk (show (w1.alloc (.cells #[.int .u8 x.f0, .int .u32 x.f1, .int .u32 x.f2, .slice A3 x.f3.length d3, .slice A4 x.f4.length d4, .int .u32 x.f5.f0, .slice A6 x.f5.f1.length d6, .int .i64 x.f6, .int .i64 x.f7, .slice A9 x.f8.length d9] 57)).heap[w1.heap.size]? = some (.cells #[.int .u8 x.f0, .int .u32 x.f1, .int .u32 x.f2, .slice A3 x.f3.length d3, .slice A4 x.f4.length d4, .int .u32 x.f5.f0, .slice A6 x.f5.f1.length d6, .int .i64 x.f6, .int .i64 x.f7, .slice A9 x.f8.length d9] 57 (0, 0)) from heap_new' rfl)
      have h3 := Kd.R_below h3 hbw
      have h4 := Kd.R_below h4 hbw
      have h6 := Kd.R_below h6 hbw
      have h9 := Kd.R_below h9 hbw
      have hsx := fun (_ : True) => run_storeAt_new (P := Tryd.prog) w1 57 #[.int .u8 0, .int .u32 0, .int .u32 0, .slice none 0 0, .slice none 0 0, .int .u32 0, .slice none 0 0, .int .i64 0, .int .i64 0, .slice none 0 0] #[.int .u8 x.f0, .int .u32 x.f1, .int .u32 x.f2, .slice A3 x.f3.length d3, .slice A4 x.f4.length d4, .int .u32 x.f5.f0, .slice A6 x.f5.f1.length d6, .int .i64 x.f6, .int .i64 x.f7, .slice A9 x.f8.length d9] (by kernel_rfl) rfl (by simp [Value.oneCell'])
      have hlx := fun (_ : True) => ld_rec HXX.out rfl
      obtain ⟨_, q3, C3⟩ := Kd.R_reads' h3
      obtain ⟨_, q4, C4⟩ := Kd.R_reads' h4
      obtain ⟨_, q6, C6⟩ := Kd.R_reads' h6
      obtain ⟨_, q9, C9⟩ := Kd.R_reads' h9
      have hcall := fun r1 r2 (h : encR x = (r1, r2)) => code_Encode.calls x.f0 x.f1 x.f2 A3 d3 x.f3 A4 d4 x.f4 x.f5.f0 A6 d6 x.f5.f1 x.f6 x.f7 A9 d9 x.f8 r1 r2 (w1.alloc (.cells #[.int .u8 x.f0, .int .u32 x.f1, .int .u32 x.f2, .slice A3 x.f3.length d3, .slice A4 x.f4.length d4, .int .u32 x.f5.f0, .slice A6 x.f5.f1.length d6, .int .i64 x.f6, .int .i64 x.f7, .slice A9 x.f8.length d9] 57)) C3 q3 C4 q4 C6 q6 C9 q9 (congrArg some h)
      clear h3 h4 h6 h9 C3 C4 C6 C9 q3 q4 q6 q9 hB hbw HX0 HCB0
      rcases encR_cases x with he | he | he
      · have hcall := hcall _ _ he
        have HNE := Aside0.mk (show ¬ encR x = (nums l, 0) from by rw [he]; intro h; injection h with h1 h2; cases h2)
        clear he
        go_wp2_with fail
        refine hcall.mono ?_
        rintro e w2 ⟨v0, rfl, h0, hB2⟩
        have HX2 := Aside0.mk ((hB2.block _ (blk_lt HX.out)).trans HX.out)
        have HB3 := Aside0.mk (HB.out.trans (hB2.mono HB.out.size))
        have hst := fun (_ : True) => st_zero HX2.out
        clear hB2 hcall h0
        go_wp2
        ((try simp only [Exit.inBlock, Exit.then]); exact bodyPost_ret (res_dec rfl rfl rfl (setRow_heap _ _ _ _ _ _ HX2.out) rfl) rfl (by rw [HDD.out, if_neg HNE.out]; exact bad_end w _ HB3.out 70))
      · have hcall := hcall _ _ he
        have HNE := Aside0.mk (show ¬ encR x = (nums l, 0) from by rw [he]; intro h; injection h with h1 h2; cases h2)
        clear he
        go_wp2_with fail
        refine hcall.mono ?_
        rintro e w2 ⟨v0, rfl, h0, hB2⟩
        have HX2 := Aside0.mk ((hB2.block _ (blk_lt HX.out)).trans HX.out)
        have HB3 := Aside0.mk (HB.out.trans (hB2.mono HB.out.size))
        have hst := fun (_ : True) => st_zero HX2.out
        clear hB2 hcall h0
        go_wp2
        ((try simp only [Exit.inBlock, Exit.then]); exact bodyPost_ret (res_dec rfl rfl rfl (setRow_heap _ _ _ _ _ _ HX2.out) rfl) rfl (by rw [HDD.out, if_neg HNE.out]; exact bad_end w _ HB3.out 70))
      · have hcall := hcall _ _ he
        have HE := Aside0.mk he
        clear he
        go_wp2_with fail
        refine hcall.mono ?_
        rintro e w2 ⟨v0, rfl, h0, hB2⟩
        clear hcall
        obtain ⟨A0, d0, rfl⟩ := Kd.R_slice h0
        obtain ⟨_, q0, C0⟩ := Kd.R_reads' h0
        have HX2 := Aside0.mk ((hB2.block _ (blk_lt HX.out)).trans HX.out)
        have HB3 := Aside0.mk (HB.out.trans (hB2.mono HB.out.size))
        have HV2 := Aside0.mk (RecV_below HV.out hB2)
        have HXX2 := Aside0.mk ((hB2.block _ (blk_lt HXX.out)).trans HXX.out)
        have hcall := bytes_Equal.calls A0 d0 (nums (recE x)) A c (nums l) _ w2 C0 q0 (by rw [nums_len]; exact Kd.C_below HCB.out hB2) (by rw [nums_len]; exact hc) rfl
        rw [equal_nums, nums_len l] at hcall
        clear C0 h0 hB2 q0
        by_cases hq : recE x = l
        · rw [decide_eq_true hq] at hcall
          have HEQ := Aside0.mk (show encR x = (nums l, 0) from by rw [HE.out, hq])
          clear hq
          go_wp2_with fail
          refine hcall.mono ?_
          rintro e w3 ⟨rfl, hD⟩
          have HX3 := Aside0.mk ((hD.below.block _ (blk_lt HX2.out)).trans HX2.out)
          have HB4 := Aside0.mk (HB3.out.trans (hD.below.mono HB3.out.size))
          have HV3 := Aside0.mk (RecV_below HV2.out hD.below)
          have hl3 := fun (_ : True) => ld_rec ((hD.below.block _ (blk_lt HXX2.out)).trans HXX2.out) rfl
          have hst := fun (_ : True) => st_rec (a := x.f0) (k := x.f1) (i := x.f2) (x3 := .slice A3 x.f3.length d3) (x4 := .slice A4 x.f4.length d4) (j := x.f5.f0) (x6 := .slice A6 x.f5.f1.length d6) (p := x.f6) (q := x.f7) (x9 := .slice A9 x.f8.length d9) HX3.out rfl rfl rfl rfl
          clear hcall hD
          go_wp2
          (try simp only [Exit.inBlock, Exit.then])
          refine bodyPost_ret (res_dec rfl rfl rfl (setRow_heap _ _ _ _ _ _ HX3.out) rfl) rfl ?_
          rw [HDD.out, if_pos HEQ.out]
          exact ⟨_, rfl, RecV_lower (RecV_grown HV3.out (grown_row _ w.heap.size _) HLT.out) HBA.out.size, below_grown HB4.out (grown_row _ w.heap.size _) (Nat.le_refl _) (Nat.le_refl _)⟩
        · rw [decide_eq_false hq] at hcall
          have HNE := Aside0.mk (show ¬ encR x = (nums l, 0) from by rw [HE.out]; intro h; injection h with h1 h2; exact hq (nums_inj h1))
          clear hq
          go_wp2_with fail
          refine hcall.mono ?_
          rintro e w3 ⟨rfl, hD⟩
          have HX3 := Aside0.mk ((hD.below.block _ (blk_lt HX2.out)).trans HX2.out)
          have HB4 := Aside0.mk (HB3.out.trans (hD.below.mono HB3.out.size))
          have hst := fun (_ : True) => st_zero HX3.out
          clear hcall hD
          go_wp2
          ((try simp only [Exit.inBlock, Exit.then]); exact bodyPost_ret (res_dec rfl rfl rfl (setRow_heap _ _ _ _ _ _ HX3.out) rfl) rfl (by rw [HDD.out, if_neg HNE.out]; exact bad_end w _ HB4.out 70))
def code_Decode.f (l0 : List Int) : Option (Int × Int × Int × List Int × List SFact × Int × List SSpan × Int × Int × List SEntry × Int) := if nums (bytesOf l0) = l0 then some (flatR (decR (bytesOf l0))) else none
theorem code_Decode.calls (A0 : Option Addr) (c0 : Nat) (l0 : List Int) (r1 : Int) (r2 : Int) (r3 : Int) (r4 : List Int) (r5 : List SFact) (r6 : Int) (r7 : List SSpan) (r8 : Int) (r9 : Int) (r10 : List SEntry) (r11 : Int) (w : World) (hr0 : Kd.C (Kd.int .u8) w A0 l0.length l0) (hc0 : l0.length ≤ c0) (h : code_Decode.f l0 = some (r1, r2, r3, r4, r5, r6, r7, r8, r9, r10, r11)) :
    Calls Tryd.prog 44 #[.slice A0 l0.length c0] w fun e w' => ∃ v3_ v4_ v6_ v9_ : Value, e = .returned (.tuple #[.agg #[.int .u8 r1, .int .u32 r2, .int .u32 r3, v3_, v4_, .int .u32 r6, v6_, .int .i64 r8, .int .i64 r9, v9_], .int .u16 r11]) ∧ Kd.R (Kd.int .i64) 3 w' w.heap.size (fun _ => True) v3_ r4 ∧ Kd.R k76 76 w' w.heap.size (fun k_ => some k_ ≠ (v3_ : Value).ownBlock) v4_ r5 ∧ Kd.R k132 132 w' w.heap.size (fun _ => True) v6_ r7 ∧ Kd.R k124 124 w' w.heap.size (fun k_ => some k_ ≠ (v3_ : Value).ownBlock ∧ some k_ ≠ (v4_ : Value).ownBlock) v9_ r10 ∧ Below w.heap.size w w' := by
  unfold code_Decode.f at h
  split at h
  case isFalse => cases h
  rename_i hb
  have h := Option.some.inj h
  obtain ⟨l, hl⟩ : ∃ l, l = bytesOf l0 := ⟨_, rfl⟩
  rw [← hl] at h hb
  subst hb
  rw [nums_len] at hr0 hc0 ⊢
  refine (decode_any A0 c0 l w hr0 hc0).mono ?_
  rintro e w' ⟨v, rfl, ⟨v3, v4, v6, v9, rfl, h3, h4, h6, h9⟩, hB⟩
  (try rw [bytesOf_nums] at h)
  simp only [flatR, Prod.mk.injEq] at h
  obtain ⟨rfl, rfl, rfl, rfl, rfl, rfl, rfl, rfl, rfl, rfl, rfl⟩ := h
  exact ⟨v3, v4, v6, v9, rfl, h3, h4, h6, h9, hB⟩
end Go.Proofs.YtbbhjceelghadaaDoor.K
end

section
-- from CodeN
namespace Go.Proofs.YtbbhjceelghadaaDoor.K
open Go Go.RowKit Go.Proofs.YtbbhjceelghadaaDoorW.PrintWords Go.Proofs.YtbbhjceelghadaaDoorW.PrintLast Go.Proofs.YtbbhjceelghadaaDoorW.PrintMore Go.Proofs.YtbbhjceelghadaaDoor.My
def knownRec : SRec := ⟨3, 5, 0, [], [], ⟨0, []⟩, 0, 0, []⟩
theorem known_enc : encR knownRec = (nums [3, 0, 0, 0, 5], 0) := by decide
theorem known_dec : decR [3, 0, 0, 0, 5] = (knownRec, 0) := by rfl
theorem known_nil : decR [] = (zeroRec, 70) := by rfl
def stratumlaw07_known.f : Option Bool := some true
theorem bu_known (w : World) : (Instr.build 57 #[(0, .int .u8 3), (1, .int .u32 5)]).run Tryd.prog w = .ok (.agg #[.int .u8 3, .int .u32 5, .int .u32 0, .slice none 0 0, .slice none 0 0, .int .u32 0, .slice none 0 0, .int .i64 0, .int .i64 0, .slice none 0 0]) w := run_build w _ _ _ (built_rec 3 5)
theorem ld_id {w : World} {b : Nat} {c0 c1 c2 c3 c4 c5 c6 c7 c8 c9 : Value} (h : w.heap[b]? = some (.cells #[c0, c1, c2, c3, c4, c5, c6, c7, c8, c9] 57 (0, 0))) : (Instr.loadAt 49 (.pointer (some ⟨b, 1, none⟩))).run Tryd.prog w = .ok c1 w := by
  have z0 : w.cell? ⟨b, 1, none⟩ = some c1 := (blk_cell h 1).trans rfl
  simp [go_sem, z0]
attribute [-go_sem] Instr.build Instr.storeAt Instr.loadAt
attribute [local go_sem] bu_known
set_option maxRecDepth 20000 in
set_option maxHeartbeats 4000000 in
theorem stratumlaw07_known.calls (r : Bool) (w : World) (h : stratumlaw07_known.f = some r) : Calls Tryd.prog 38 #[] w fun e w' => e = .returned (.bool r) ∧ Below w.heap.size w w' := by
  obtain rfl := Option.some.inj h
  clear h
  have henc := code_Encode.calls 3 5 0 none 0 [] none 0 [] 0 none 0 [] 0 0 none 0 [] _ _ w (Kd.C_nil _ _) (Nat.le_refl _) (Kd.C_nil _ _) (Nat.le_refl _) (Kd.C_nil _ _) (Nat.le_refl _) (Kd.C_nil _ _) (Nat.le_refl _) (congrArg some known_enc)
  go_enter Tryd.func38, Tryd.ntmps38
  go_wp2_with fail
  refine henc.mono ?_
  rintro e w1 ⟨v0, rfl, h0, hB⟩
  clear henc
  obtain ⟨A0, d0, rfl⟩ := Kd.R_slice h0
  obtain ⟨_, q0, C0⟩ := Kd.R_reads' h0
  have q0 : 5 ≤ d0 := q0
  have C0 : (Kd.int .u8).C w1 A0 5 (nums [3, 0, 0, 0, 5]) := C0
  simp only [show (nums [3, 0, 0, 0, 5]).length = 5 from rfl]
  have HB := Aside0.mk hB
  have HC := Aside0.mk C0
  have hdec : Calls Tryd.prog 44 #[.slice A0 5 d0] w1 (DecPost w1 (decR [3, 0, 0, 0, 5])) := decode_any A0 d0 [3, 0, 0, 0, 5] w1 C0 q0
  rw [known_dec] at hdec
  clear h0 hB C0
  go_wp2_with fail
  refine hdec.mono ?_
  rintro e w2 ⟨v, rfl, ⟨v3, v4, v6, v9, rfl, h3, h4, h6, h9⟩, hB⟩
  clear hdec
  obtain ⟨A3, d3, rfl⟩ := Kd.R_slice h3
  obtain ⟨A4, d4, rfl⟩ := Kd.R_slice h4
  obtain ⟨A6, d6, rfl⟩ := Kd.R_slice h6
  obtain ⟨A9, d9, rfl⟩ := Kd.R_slice h9
  have hbw : Below w2.heap.size w2 (w2.alloc (.cells #[.int .u8 3, .int .u32 5, .int .u32 0, .slice A3 0 d3, .slice A4 0 d4, .int .u32 0, .slice A6 0 d6, .int .i64 0, .int .i64 0, .slice A9 0 d9] 57)) := below_alloc (Below.refl _ _) _
  have hB2 := HB.out.trans ((hB.trans (hbw.mono hB.size)).mono HB.out.size)
  have HB2 := Aside0.mk hB2
  have HC2 := Aside0.mk (Kd.C_below HC.out (hB.trans (hbw.mono hB.size)))
  have HX := Aside0.mk (show (w2.alloc (.cells #[.int .u8 3, .int .u32 5, .int .u32 0, .slice A3 0 d3, .slice A4 0 d4, .int .u32 0, .slice A6 0 d6, .int .i64 0, .int .i64 0, .slice A9 0 d9] 57)).heap[w2.heap.size]? = some (.cells #[.int .u8 3, .int .u32 5, .int .u32 0, .slice A3 0 d3, .slice A4 0 d4, .int .u32 0, .slice A6 0 d6, .int .i64 0, .int .i64 0, .slice A9 0 d9] 57 (0, 0)) from heap_new' rfl)
  obtain ⟨_, q3, C3⟩ := Kd.R_reads' h3
  obtain ⟨_, q4, C4⟩ := Kd.R_reads' h4
  obtain ⟨_, q6, C6⟩ := Kd.R_reads' h6
  obtain ⟨_, q9, C9⟩ := Kd.R_reads' h9
  have H3 := Aside0.mk (Kd.C_below C3 hbw)
  have H4 := Aside0.mk (Kd.C_below C4 hbw)
  have H6 := Aside0.mk (Kd.C_below C6 hbw)
  have H9 := Aside0.mk (Kd.C_below C9 hbw)
  have hsx := fun (_ : True) => run_storeAt_new (P := Tryd.prog) w2 57 #[.int .u8 0, .int .u32 0, .int .u32 0, .slice none 0 0, .slice none 0 0, .int .u32 0, .slice none 0 0, .int .i64 0, .int .i64 0, .slice none 0 0] #[.int .u8 3, .int .u32 5, .int .u32 0, .slice A3 0 d3, .slice A4 0 d4, .int .u32 0, .slice A6 0 d6, .int .i64 0, .int .i64 0, .slice A9 0 d9] (by kernel_rfl) rfl (by simp [Value.oneCell'])
  have hdec := decode_any none 0 [] (w2.alloc (.cells #[.int .u8 3, .int .u32 5, .int .u32 0, .slice A3 0 d3, .slice A4 0 d4, .int .u32 0, .slice A6 0 d6, .int .i64 0, .int .i64 0, .slice A9 0 d9] 57)) (Kd.C_nil _ _) (Nat.le_refl _)
  rw [known_nil] at hdec
  clear h3 h4 h6 h9 C3 C4 C6 C9 hB hB2 hbw
  simp only [knownRec, List.length_nil]
  go_wp2_with fail
  refine hdec.mono ?_
  rintro e w3 ⟨v, rfl, ⟨v3, v4, v6, v9, rfl, h3, h4, h6, h9⟩, hB⟩
  clear hdec
  obtain ⟨B3, e3, rfl⟩ := Kd.R_slice h3
  obtain ⟨B4, e4, rfl⟩ := Kd.R_slice h4
  obtain ⟨B6, e6, rfl⟩ := Kd.R_slice h6
  obtain ⟨B9, e9, rfl⟩ := Kd.R_slice h9
  have hbw : Below w3.heap.size w3 (w3.alloc (.cells #[.int .u8 0, .int .u32 0, .int .u32 0, .slice B3 0 e3, .slice B4 0 e4, .int .u32 0, .slice B6 0 e6, .int .i64 0, .int .i64 0, .slice B9 0 e9] 57)) := below_alloc (Below.refl _ _) _
  have hB' := hB.trans (hbw.mono hB.size)
  have HB3 := Aside0.mk (HB2.out.trans (hB'.mono HB2.out.size))
  have hx3 := (hB'.block _ (blk_lt HX.out)).trans HX.out
  have hl1 := fun (_ : True) => ld_id hx3
  have hl2 := fun (_ : True) => ld_rec hx3 rfl
  have hcv := fun (_ : True) => conv_string (c := d0) (kb_of_ints (n := 5) (l := [3, 0, 0, 0, 5]) (Kd.C_below HC2.out hB'))
  have hsx := fun (_ : True) => run_storeAt_new (P := Tryd.prog) w3 57 #[.int .u8 0, .int .u32 0, .int .u32 0, .slice none 0 0, .slice none 0 0, .int .u32 0, .slice none 0 0, .int .i64 0, .int .i64 0, .slice none 0 0] #[.int .u8 0, .int .u32 0, .int .u32 0, .slice B3 0 e3, .slice B4 0 e4, .int .u32 0, .slice B6 0 e6, .int .i64 0, .int .i64 0, .slice B9 0 e9] (by kernel_rfl) rfl (by simp [Value.oneCell'])
  have hsd := code_Sound.calls 3 5 0 A3 d3 [] A4 d4 [] 0 A6 d6 [] 0 0 A9 d9 [] true _ (Kd.C_below H3.out hB') q3 (Kd.C_below H4.out hB') q4 (Kd.C_below H6.out hB') q6 (Kd.C_below H9.out hB') q9 rfl
  clear hx3 hB hB' h3 h4 h6 h9 hbw
  simp only [zeroRec, List.length_nil]
  have hbl : True → (bs [3, 0, 0, 0, 5]).toList = [3, 0, 0, 0, 5] := fun _ => bs_list _
  go_wp2_with fail
  refine hsd.mono ?_
  rintro e w4 ⟨rfl, hB⟩
  have HB4 := Aside0.mk (HB3.out.trans (hB.mono HB3.out.size))
  clear hsd hB
  go_wp2
  go_ret
  exact ⟨rfl, HB4.out⟩
end Go.Proofs.YtbbhjceelghadaaDoor.K
end

section
-- from K57
namespace Go.Proofs.YtbbhjceelghadaaDoor.K
open Go.RowKit Go.Proofs.YtbbhjceelghadaaDoorW.PrintWords Go.Proofs.YtbbhjceelghadaaDoorW.PrintLast Go.Proofs.YtbbhjceelghadaaDoorW.PrintMore
attribute [local go_sem] max2_int min2_int max_two min_two max_three min_three max_four min_four
set_option linter.unusedVariables false
set_option linter.unusedSimpArgs false
def stratumlaw07_CodeOnly.j0 : Nat → List Int → Bool → Option (Bool)
  | 0, _, _ => none
  | k + 1, x0, x13 => if x13 = true then ((stratumlaw07_known.f).bind fun t381 => (some t381)) else ((code_Decode.f x0).bind fun bt382 => (if bt382.2.2.2.2.2.2.2.2.2.2 = 0 then ((code_Encode.f bt382.1 bt382.2.1 bt382.2.2.1 bt382.2.2.2.1 bt382.2.2.2.2.1 bt382.2.2.2.2.2.1 bt382.2.2.2.2.2.2.1 bt382.2.2.2.2.2.2.2.1 bt382.2.2.2.2.2.2.2.2.1 bt382.2.2.2.2.2.2.2.2.2.1).bind fun bt402 => (if bt402.2 = 0 then (if (strOfNums bt402.1).toList = (strOfNums x0).toList then ((code_Sound.f bt382.1 bt382.2.1 bt382.2.2.1 bt382.2.2.2.1 bt382.2.2.2.2.1 bt382.2.2.2.2.2.1 bt382.2.2.2.2.2.2.1 bt382.2.2.2.2.2.2.2.1 bt382.2.2.2.2.2.2.2.2.1 bt382.2.2.2.2.2.2.2.2.2.1).bind fun t406 => (some t406)) else (some false)) else (some false))) else (if bt382.2.2.2.2.2.2.2.2.2.2 = 70 then ((stratumref07_Same.f k bt382.1 bt382.2.1 bt382.2.2.1 bt382.2.2.2.1 bt382.2.2.2.2.1 bt382.2.2.2.2.2.1 bt382.2.2.2.2.2.2.1 bt382.2.2.2.2.2.2.2.1 bt382.2.2.2.2.2.2.2.2.1 bt382.2.2.2.2.2.2.2.2.2.1 0 0 0 ([] : List Int) ([] : List (S76)) 0 ([] : List (S132)) 0 0 ([] : List (S124))).bind fun t407 => (some t407)) else (some false))))
def stratumlaw07_CodeOnly.f (k : Nat) (l0 : List Int) : Option (Bool) := if (l0.length : Int) > 3000 then (stratumlaw07_CodeOnly.j0 k l0 true) else ((stratumlaw07_known.f).bind fun t380 => (stratumlaw07_CodeOnly.j0 k l0 (!t380)))
theorem stratumlaw07_CodeOnly.mono_l : ∀ k, (∀ y0 y1, LeO (stratumlaw07_CodeOnly.j0 k y0 y1) (stratumlaw07_CodeOnly.j0 (k + 1) y0 y1))
  | 0 => fun _ _ r h => by simp [stratumlaw07_CodeOnly.j0] at h
  | k + 1 => by
    have ih0 := stratumlaw07_CodeOnly.mono_l k
    · intro y0 y1
      unfold stratumlaw07_CodeOnly.j0
      repeat' first
      | (with_reducible exact ih0 _ _)
      | (with_reducible exact stratumref07_Same.mono _ _ _ _ _ _ _ _ _ _ _ _ _ _ _ _ _ _ _ _ _)
      | (with_reducible exact LeO.refl _)
      | (with_reducible exact LeO.none _)
      | (with_reducible refine LeO.ite ?_ ?_)
      | (with_reducible refine LeO.bind ?_ (fun _ => ?_))
      | exact ih0 _ _
      | exact stratumref07_Same.mono _ _ _ _ _ _ _ _ _ _ _ _ _ _ _ _ _ _ _ _ _
      | exact LeO.none _
      | refine LeO.ite ?_ ?_
      | refine LeO.bind ?_ (fun _ => ?_)
theorem stratumlaw07_CodeOnly.mono : ∀ a0 k, LeO (stratumlaw07_CodeOnly.f k a0) (stratumlaw07_CodeOnly.f (k + 1) a0) := by
  intro a0 k
  have ih0 := stratumlaw07_CodeOnly.mono_l k
  unfold stratumlaw07_CodeOnly.f
  repeat' first
      | (with_reducible exact ih0 _ _)
      | (with_reducible exact stratumref07_Same.mono _ _ _ _ _ _ _ _ _ _ _ _ _ _ _ _ _ _ _ _ _)
      | (with_reducible exact LeO.refl _)
      | (with_reducible exact LeO.none _)
      | (with_reducible refine LeO.ite ?_ ?_)
      | (with_reducible refine LeO.bind ?_ (fun _ => ?_))
      | exact ih0 _ _
      | exact stratumref07_Same.mono _ _ _ _ _ _ _ _ _ _ _ _ _ _ _ _ _ _ _ _ _
      | exact LeO.none _
      | refine LeO.ite ?_ ?_
      | refine LeO.bind ?_ (fun _ => ?_)
set_option maxHeartbeats 8000000 in
set_option maxRecDepth 100000 in
theorem stratumlaw07_CodeOnly.calls (k : Nat) (A0 : Option Addr) (c0 : Nat) (l0 : List Int) (r : Bool) (w : World) (hr0 : Kd.C (Kd.int .u8) w A0 l0.length l0) (hc0 : l0.length ≤ c0) (h : stratumlaw07_CodeOnly.f k l0 = some r) :
    Calls Tryd.prog 12 #[.slice A0 l0.length c0] w fun e w' => e = .returned (.bool r) ∧ Below w.heap.size w w' := by
  have hu57 := Tryd.underlying57
  have HR0 := Aside0.mk hr0
  have HC0 := Aside0.mk hc0
  clear hr0 hc0
  have HB := Aside0.mk (Below.refl w.heap.size w)
  have H : (if (l0.length : Int) > 3000 then (stratumlaw07_CodeOnly.j0 k l0 true) else ((stratumlaw07_known.f).bind fun t380 => (stratumlaw07_CodeOnly.j0 k l0 (!t380)))) = some r := h
  clear h
  have HC2 := Aside0.mk H
  clear H
  go_enter Tryd.func12, Tryd.ntmps12
  go_upto_region 1 with (fail)
  go_cut [13] (fun v13 wc => ∃ (kq : Nat) (x13_1 : Bool), v13 = .bool x13_1 ∧ Aside0 (stratumlaw07_CodeOnly.j0 kq l0 x13_1 = some r) ∧ Aside0 (kq ≤ k) ∧ Aside0 (Below w.heap.size w wc))
  case first =>
    have H := HC2.out
    clear HC2
    by_cases c3 : (l0.length : Int) > 3000
    · rw [if_pos c3] at H
      have c3b0 : decide (3000 < (l0.length : Int)) = true := decide_eq_true c3
      have c3b1 : decide (3000 < l0.length) = true := decide_eq_true (by omega)
      clear c3
      (first | rw [c3b0] | (simp only [i64_w, i32_w]; rw [c3b0]) | skip)
      have H' := Aside0.mk H
      clear H
      go_wp2
      go_meet
      case rel => exact ⟨_, (true), (by first | rfl | (simp; done) | (simp [*]; done)), H', ⟨by first | omega | exact Nat.le_refl _⟩, ⟨by repeat (first | (with_reducible first | exact HB.out | apply below_alloc | apply pw_below_drewN | apply below_drew1) | exact HB.out)⟩⟩
    · rw [if_neg c3] at H
      have c3b0 : decide (3000 < (l0.length : Int)) = false := decide_eq_false c3
      have c3b1 : decide (3000 < l0.length) = false := decide_eq_false (by omega)
      clear c3
      (first | rw [c3b0] | (simp only [i64_w, i32_w]; rw [c3b0]) | skip)
      replace H := Option.bind_eq_some_iff.mp H
      obtain ⟨t380, A40, H⟩ := H
      replace H : (stratumlaw07_CodeOnly.j0 k l0 (!t380)) = some r := H
      have A4 := Aside0.mk A40
      clear A40
      have H' := Aside0.mk H
      clear H
      go_wp2_with (first | (go_at_call 38; (with_reducible refine (stratumlaw07_known.calls  t380 _ A4.out).mono ?_); rintro e w5 ⟨rfl, hb⟩; have n0_ := Aside0.mk (below_step (by repeat (first | (with_reducible first | exact HB.out | apply below_alloc | apply pw_below_drewN | apply below_drew1) | exact HB.out)) hb); clear HB; have HB := n0_; clear n0_; (try clear hb); (try clear hb2); (try clear hk); (try clear hi)))
      go_meet
      case rel => exact ⟨_, (!t380), (by first | rfl | (simp; done) | (simp [*]; done)), H', ⟨by first | omega | exact Nat.le_refl _⟩, ⟨by repeat (first | (with_reducible first | exact HB.out | apply below_alloc | apply pw_below_drewN | apply below_drew1) | exact HB.out)⟩⟩
  case rest =>
    clear HC2
    try clear c1
    try clear p2
    try clear c3
    try clear c3b0
    try clear c3b1
    obtain ⟨kq, x13_1, rfl, HA, HJ1, HB⟩ := hcut
    cases kq with
    | zero => exact absurd HA.out (by simp [stratumlaw07_CodeOnly.j0])
    | succ kj1 =>
      have H := HA.out
      clear HA
      simp only [stratumlaw07_CodeOnly.j0] at H
      by_cases c6 : x13_1 = true
      · subst c6
        have H1 : ((stratumlaw07_known.f).bind fun t381 => (some t381)) = some r := by rw [if_pos rfl] at H; exact H
        clear H
        have H := H1
        clear H1
        replace H := Option.bind_eq_some_iff.mp H
        obtain ⟨t381, A70, H⟩ := H
        replace H : (some t381) = some r := H
        have A7 := Aside0.mk A70
        clear A70
        obtain rfl := Option.some.inj H
        go_wp2_with (first | ((with_reducible refine gate_callee (f := 38) rfl ?_); refine goesL_ (some 14) rfl rfl Tryd.func38 (by kernel_rfl) rfl #[] rfl (by (try simp only [List.map_toArray, List.map_cons, List.map_nil]); first | done | rfl | (simp only [List.length_drop, List.length_take]; rfl)) ?_; (with_reducible refine (stratumlaw07_known.calls  t381 _ A7.out).mono ?_); rintro e w8 ⟨rfl, hb⟩; refine ⟨_, rfl, ?_⟩; have n0_ := Aside0.mk (below_step (by repeat (first | (with_reducible first | exact HB.out | apply below_alloc | apply pw_below_drewN | apply below_drew1) | exact HB.out)) hb); clear HB; have HB := n0_; clear n0_; (try clear hb); (try clear hb2); (try clear hk); (try clear hi)))
        go_ret
        exact ⟨by first | rfl | (simp [errW_none, errW_some] <;> rfl) | (simp [*, errW_none, errW_some] <;> rfl), by repeat (first | (with_reducible first | exact HB.out | apply below_alloc | apply pw_below_drewN | apply below_drew1) | exact HB.out)⟩
      · replace c6 := Bool.eq_false_iff.mpr c6
        subst c6
        have H1 : ((code_Decode.f l0).bind fun bt382 => (if bt382.2.2.2.2.2.2.2.2.2.2 = 0 then ((code_Encode.f bt382.1 bt382.2.1 bt382.2.2.1 bt382.2.2.2.1 bt382.2.2.2.2.1 bt382.2.2.2.2.2.1 bt382.2.2.2.2.2.2.1 bt382.2.2.2.2.2.2.2.1 bt382.2.2.2.2.2.2.2.2.1 bt382.2.2.2.2.2.2.2.2.2.1).bind fun bt402 => (if bt402.2 = 0 then (if (strOfNums bt402.1).toList = (strOfNums l0).toList then ((code_Sound.f bt382.1 bt382.2.1 bt382.2.2.1 bt382.2.2.2.1 bt382.2.2.2.2.1 bt382.2.2.2.2.2.1 bt382.2.2.2.2.2.2.1 bt382.2.2.2.2.2.2.2.1 bt382.2.2.2.2.2.2.2.2.1 bt382.2.2.2.2.2.2.2.2.2.1).bind fun t406 => (some t406)) else (some false)) else (some false))) else (if bt382.2.2.2.2.2.2.2.2.2.2 = 70 then ((stratumref07_Same.f kj1 bt382.1 bt382.2.1 bt382.2.2.1 bt382.2.2.2.1 bt382.2.2.2.2.1 bt382.2.2.2.2.2.1 bt382.2.2.2.2.2.2.1 bt382.2.2.2.2.2.2.2.1 bt382.2.2.2.2.2.2.2.2.1 bt382.2.2.2.2.2.2.2.2.2.1 0 0 0 ([] : List Int) ([] : List (S76)) 0 ([] : List (S132)) 0 0 ([] : List (S124))).bind fun t407 => (some t407)) else (some false)))) = some r := by rw [if_neg (show ¬ (false = true) by decide)] at H; exact H
        clear H
        have H := H1
        clear H1
        replace H := Option.bind_eq_some_iff.mp H
        obtain ⟨⟨t382, t383, t384, t385, t388, t391, t392, t395, t396, t397, t400⟩, A90, H⟩ := H
        replace H : (if t400 = 0 then ((code_Encode.f t382 t383 t384 t385 t388 t391 t392 t395 t396 t397).bind fun bt402 => (if bt402.2 = 0 then (if (strOfNums bt402.1).toList = (strOfNums l0).toList then ((code_Sound.f t382 t383 t384 t385 t388 t391 t392 t395 t396 t397).bind fun t406 => (some t406)) else (some false)) else (some false))) else (if t400 = 70 then ((stratumref07_Same.f kj1 t382 t383 t384 t385 t388 t391 t392 t395 t396 t397 0 0 0 ([] : List Int) ([] : List (S76)) 0 ([] : List (S132)) 0 0 ([] : List (S124))).bind fun t407 => (some t407)) else (some false))) = some r := H
        have A9 := Aside0.mk A90
        clear A90
        by_cases c10 : t400 = 0
        · rw [if_pos c10] at H
          have c10b0 : (t400 == 0) = true := beq_iff_eq.mpr c10
          have c10b1 : (t400 != 0) = false := bne_eq_false_iff_eq.mpr c10
          clear c10
          replace H := Option.bind_eq_some_iff.mp H
          obtain ⟨⟨t402, t405⟩, A110, H⟩ := H
          replace H : (if t405 = 0 then (if (strOfNums t402).toList = (strOfNums l0).toList then ((code_Sound.f t382 t383 t384 t385 t388 t391 t392 t395 t396 t397).bind fun t406 => (some t406)) else (some false)) else (some false)) = some r := H
          have A11 := Aside0.mk A110
          clear A110
          by_cases c12 : t405 = 0
          · rw [if_pos c12] at H
            have c12b0 : (t405 == 0) = true := beq_iff_eq.mpr c12
            have c12b1 : (t405 != 0) = false := bne_eq_false_iff_eq.mpr c12
            clear c12
            by_cases c13 : (strOfNums t402).toList = (strOfNums l0).toList
            · rw [if_pos c13] at H
              have c13b0 : ((strOfNums t402).toList == (strOfNums l0).toList) = true := beq_iff_eq.mpr c13
              have c13b1 : ((strOfNums t402).toList != (strOfNums l0).toList) = false := bne_eq_false_iff_eq.mpr c13
              clear c13
              replace H := Option.bind_eq_some_iff.mp H
              obtain ⟨t406, A140, H⟩ := H
              replace H : (some t406) = some r := H
              have A14 := Aside0.mk A140
              clear A140
              obtain rfl := Option.some.inj H
              go_wp2_with (first | ((with_reducible refine gate_callee (f := 44) rfl ?_); refine goesL_ (some 17) rfl rfl Tryd.func44 (by kernel_rfl) rfl #[.slice A0 l0.length c0] rfl (by (try simp only [List.map_toArray, List.map_cons, List.map_nil]); first | done | rfl | (simp only [List.length_drop, List.length_take]; rfl)) ?_; (with_reducible refine (code_Decode.calls _ _ l0 t382 t383 t384 t385 t388 t391 t392 t395 t396 t397 t400 _ ?side1 ?side2 A9.out).mono ?_); (case side1 => repeat (first | exact (Kd.C_below HR0.out HB.out) | (with_reducible refine Kd.C_alloc ?_ _) | (with_reducible refine Kd.C_drewN ?_ _) | (with_reducible refine Kd.C_drew ?_))); (case side2 => exact HC0.out); rintro e w15 ⟨v386, v389, v393, v398, rfl, ho0, ho1, ho2, ho3, hb⟩; refine ⟨_, rfl, ?_⟩; have n0_ := Aside0.mk (Kd.R_lower ho0 (below_size (by repeat (first | (with_reducible first | exact HB.out | apply below_alloc | apply pw_below_drewN | apply below_drew1) | exact HB.out)))); have n1_ := Aside0.mk (Kd.R_lower ho1 (below_size (by repeat (first | (with_reducible first | exact HB.out | apply below_alloc | apply pw_below_drewN | apply below_drew1) | exact HB.out)))); have n2_ := Aside0.mk (Kd.R_lower ho2 (below_size (by repeat (first | (with_reducible first | exact HB.out | apply below_alloc | apply pw_below_drewN | apply below_drew1) | exact HB.out)))); have n3_ := Aside0.mk (Kd.R_lower ho3 (below_size (by repeat (first | (with_reducible first | exact HB.out | apply below_alloc | apply pw_below_drewN | apply below_drew1) | exact HB.out)))); have n4_ := Aside0.mk (below_step (by repeat (first | (with_reducible first | exact HB.out | apply below_alloc | apply pw_below_drewN | apply below_drew1) | exact HB.out)) hb); clear HB; have HO387 := n0_; have HO390 := n1_; have HO394 := n2_; have HO399 := n3_; have HB := n4_; clear n0_ n1_ n2_ n3_ n4_; (try clear hb); (try clear hb2); (try clear hk); (try clear hi); (try clear ho0); (try clear ho1); (try clear ho2); (try clear ho3)) | ((with_reducible refine gate_dst (N := 3) rfl ?_); refine box_event ?hg (N := 3) ?hd (cs := #[.int .u8 0, .int .u32 0, .int .u32 0, .slice none 0 0, .slice none 0 0, .int .u32 0, .slice none 0 0, .int .i64 0, .int .i64 0, .slice none 0 0]) (t := 57) ?hr ?_; (case hd => rfl); (case hg => rfl); (case hr => first | (go_simp; done) | (go_simp; rfl)); intro gb401 hg w16 hbox hb; have n0_ := Aside0.mk (Kd.R_below (by (with_reducible repeat (first | apply Kd.R_alloc | apply Kd.R_drewN | apply Kd.R_drew)); exact HO387.out) hb); have n1_ := Aside0.mk (Kd.R_below (by (with_reducible repeat (first | apply Kd.R_alloc | apply Kd.R_drewN | apply Kd.R_drew)); exact HO390.out) hb); have n2_ := Aside0.mk (Kd.R_below (by (with_reducible repeat (first | apply Kd.R_alloc | apply Kd.R_drewN | apply Kd.R_drew)); exact HO394.out) hb); have n3_ := Aside0.mk (Kd.R_below (by (with_reducible repeat (first | apply Kd.R_alloc | apply Kd.R_drewN | apply Kd.R_drew)); exact HO399.out) hb); have n4_ := Aside0.mk (below_step (by repeat (first | (with_reducible first | exact HB.out | apply below_alloc | apply pw_below_drewN | apply below_drew1) | exact HB.out)) hb); have n5_ := Aside0.mk (hbox); have n6_ := Aside0.mk ((by rw [hg]; exact (below_size (by repeat (first | (with_reducible first | exact HB.out | apply below_alloc | apply pw_below_drewN | apply below_drew1) | exact HB.out))) : w.heap.size ≤ gb401)); have n7_ := Aside0.mk ((by rw [hg]; exact (below_size (by repeat (first | (with_reducible first | exact HB.out | apply below_alloc | apply pw_below_drewN | apply below_drew1) | exact HB.out))) : w.heap.size ≤ gb401)); clear HO387; clear HO390; clear HO394; clear HO399; clear HB; have HO387 := n0_; have HO390 := n1_; have HO394 := n2_; have HO399 := n3_; have HB := n4_; have BK401 := n5_; have GW401 := n6_; have GE401 := n7_; clear n0_ n1_ n2_ n3_ n4_ n5_ n6_ n7_; clear hb hbox hg; have hcz17_0 : w16.cell? ⟨gb401, 0, none⟩ = some (.int .u8 0) := (blk_cell BK401.out 0).trans rfl; have hcz17_1 : w16.cell? ⟨gb401, 1, none⟩ = some (.int .u32 0) := (blk_cell BK401.out 1).trans rfl; have hcz17_2 : w16.cell? ⟨gb401, 2, none⟩ = some (.int .u32 0) := (blk_cell BK401.out 2).trans rfl; have hcz17_3 : w16.cell? ⟨gb401, 3, none⟩ = some (.slice none 0 0) := (blk_cell BK401.out 3).trans rfl; have hcz17_4 : w16.cell? ⟨gb401, 4, none⟩ = some (.slice none 0 0) := (blk_cell BK401.out 4).trans rfl; have hcz17_5 : w16.cell? ⟨gb401, 5, none⟩ = some (.int .u32 0) := (blk_cell BK401.out 5).trans rfl; have hcz17_6 : w16.cell? ⟨gb401, 6, none⟩ = some (.slice none 0 0) := (blk_cell BK401.out 6).trans rfl; have hcz17_7 : w16.cell? ⟨gb401, 7, none⟩ = some (.int .i64 0) := (blk_cell BK401.out 7).trans rfl; have hcz17_8 : w16.cell? ⟨gb401, 8, none⟩ = some (.int .i64 0) := (blk_cell BK401.out 8).trans rfl; have hcz17_9 : w16.cell? ⟨gb401, 9, none⟩ = some (.slice none 0 0) := (blk_cell BK401.out 9).trans rfl; have hfz17_0 := blk_frozen BK401.out 0; have hfz17_1 := blk_frozen BK401.out 1; have hfz17_2 := blk_frozen BK401.out 2; have hfz17_3 := blk_frozen BK401.out 3; have hfz17_4 := blk_frozen BK401.out 4; have hfz17_5 := blk_frozen BK401.out 5; have hfz17_6 := blk_frozen BK401.out 6; have hfz17_7 := blk_frozen BK401.out 7; have hfz17_8 := blk_frozen BK401.out 8; have hfz17_9 := blk_frozen BK401.out 9; obtain ⟨Ao18, co18, eo18⟩ := Kd.R_slice HO387.out; subst eo18; obtain ⟨Ao19, co19, eo19⟩ := Kd.R_slice HO390.out; subst eo19; obtain ⟨Ao20, co20, eo20⟩ := Kd.R_slice HO394.out; subst eo20; obtain ⟨Ao21, co21, eo21⟩ := Kd.R_slice HO399.out; subst eo21) | ((with_reducible refine gate_callee (f := 39) rfl ?_); refine goesL_ (some 31) rfl rfl Tryd.func39 (by kernel_rfl) rfl #[.agg #[.int .u8 t382, .int .u32 t383, .int .u32 t384, .slice Ao18 t385.length co18, .slice Ao19 t388.length co19, .int .u32 t391, .slice Ao20 t392.length co20, .int .i64 t395, .int .i64 t396, .slice Ao21 t397.length co21]] rfl (by (try simp only [List.map_toArray, List.map_cons, List.map_nil]); first | done | rfl | (simp only [List.length_drop, List.length_take]; rfl)) ?_; (with_reducible refine (code_Encode.calls t382 t383 t384 _ _ t385 _ _ t388 t391 _ _ t392 t395 t396 _ _ t397 t402 t405 _ ?side1 ?side2 ?side3 ?side4 ?side5 ?side6 ?side7 ?side8 A11.out).mono ?_); (case side1 => refine (Kd.R_reads' (e := 3) (base := w.heap.size) (ok := fun k_ => True) (n := t385.length) (c := co18) ?_).2.2; exact (by (with_reducible repeat (first | apply Kd.R_alloc | apply Kd.R_drewN | apply Kd.R_drew)); exact (Kd.R_mono (Kd.R_far (p := ⟨gb401, 9, none⟩) (Kd.R_far (p := ⟨gb401, 8, none⟩) (Kd.R_far (p := ⟨gb401, 7, none⟩) (Kd.R_far (p := ⟨gb401, 6, none⟩) (Kd.R_far (p := ⟨gb401, 5, none⟩) (Kd.R_far (p := ⟨gb401, 4, none⟩) (Kd.R_far (p := ⟨gb401, 3, none⟩) (Kd.R_far (p := ⟨gb401, 2, none⟩) (Kd.R_far (p := ⟨gb401, 1, none⟩) (Kd.R_far (p := ⟨gb401, 0, none⟩) (Kd.R_types HO387.out BK401.out (by decide)) (fun _ hk => hk.2) (.int .u8 t382)) (fun _ hk => hk.2) (.int .u32 t383)) (fun _ hk => hk.2) (.int .u32 t384)) (fun _ hk => hk.2) (.slice Ao18 t385.length co18)) (fun _ hk => hk.2) (.slice Ao19 t388.length co19)) (fun _ hk => hk.2) (.int .u32 t391)) (fun _ hk => hk.2) (.slice Ao20 t392.length co20)) (fun _ hk => hk.2) (.int .i64 t395)) (fun _ hk => hk.2) (.int .i64 t396)) (fun _ hk => hk.2) (.slice Ao21 t397.length co21)) (fun _ h_ => h_.1)))); (case side2 => exact (Kd.R_reads' HO387.out).2.1); (case side3 => refine (Kd.R_reads' (e := 76) (base := w.heap.size) (ok := fun k_ => some k_ ≠ (.slice Ao18 t385.length co18 : Value).ownBlock) (n := t388.length) (c := co19) ?_).2.2; exact (by (with_reducible repeat (first | apply Kd.R_alloc | apply Kd.R_drewN | apply Kd.R_drew)); exact (Kd.R_mono (Kd.R_far (p := ⟨gb401, 9, none⟩) (Kd.R_far (p := ⟨gb401, 8, none⟩) (Kd.R_far (p := ⟨gb401, 7, none⟩) (Kd.R_far (p := ⟨gb401, 6, none⟩) (Kd.R_far (p := ⟨gb401, 5, none⟩) (Kd.R_far (p := ⟨gb401, 4, none⟩) (Kd.R_far (p := ⟨gb401, 3, none⟩) (Kd.R_far (p := ⟨gb401, 2, none⟩) (Kd.R_far (p := ⟨gb401, 1, none⟩) (Kd.R_far (p := ⟨gb401, 0, none⟩) (Kd.R_types HO390.out BK401.out (by decide)) (fun _ hk => hk.2) (.int .u8 t382)) (fun _ hk => hk.2) (.int .u32 t383)) (fun _ hk => hk.2) (.int .u32 t384)) (fun _ hk => hk.2) (.slice Ao18 t385.length co18)) (fun _ hk => hk.2) (.slice Ao19 t388.length co19)) (fun _ hk => hk.2) (.int .u32 t391)) (fun _ hk => hk.2) (.slice Ao20 t392.length co20)) (fun _ hk => hk.2) (.int .i64 t395)) (fun _ hk => hk.2) (.int .i64 t396)) (fun _ hk => hk.2) (.slice Ao21 t397.length co21)) (fun _ h_ => h_.1)))); (case side4 => exact (Kd.R_reads' HO390.out).2.1); (case side5 => refine (Kd.R_reads' (e := 132) (base := w.heap.size) (ok := fun k_ => True) (n := t392.length) (c := co20) ?_).2.2; exact (by (with_reducible repeat (first | apply Kd.R_alloc | apply Kd.R_drewN | apply Kd.R_drew)); exact (Kd.R_mono (Kd.R_far (p := ⟨gb401, 9, none⟩) (Kd.R_far (p := ⟨gb401, 8, none⟩) (Kd.R_far (p := ⟨gb401, 7, none⟩) (Kd.R_far (p := ⟨gb401, 6, none⟩) (Kd.R_far (p := ⟨gb401, 5, none⟩) (Kd.R_far (p := ⟨gb401, 4, none⟩) (Kd.R_far (p := ⟨gb401, 3, none⟩) (Kd.R_far (p := ⟨gb401, 2, none⟩) (Kd.R_far (p := ⟨gb401, 1, none⟩) (Kd.R_far (p := ⟨gb401, 0, none⟩) (Kd.R_types HO394.out BK401.out (by decide)) (fun _ hk => hk.2) (.int .u8 t382)) (fun _ hk => hk.2) (.int .u32 t383)) (fun _ hk => hk.2) (.int .u32 t384)) (fun _ hk => hk.2) (.slice Ao18 t385.length co18)) (fun _ hk => hk.2) (.slice Ao19 t388.length co19)) (fun _ hk => hk.2) (.int .u32 t391)) (fun _ hk => hk.2) (.slice Ao20 t392.length co20)) (fun _ hk => hk.2) (.int .i64 t395)) (fun _ hk => hk.2) (.int .i64 t396)) (fun _ hk => hk.2) (.slice Ao21 t397.length co21)) (fun _ h_ => h_.1)))); (case side6 => exact (Kd.R_reads' HO394.out).2.1); (case side7 => refine (Kd.R_reads' (e := 124) (base := w.heap.size) (ok := fun k_ => (some k_ ≠ (.slice Ao18 t385.length co18 : Value).ownBlock ∧ some k_ ≠ (.slice Ao19 t388.length co19 : Value).ownBlock)) (n := t397.length) (c := co21) ?_).2.2; exact (by (with_reducible repeat (first | apply Kd.R_alloc | apply Kd.R_drewN | apply Kd.R_drew)); exact (Kd.R_mono (Kd.R_far (p := ⟨gb401, 9, none⟩) (Kd.R_far (p := ⟨gb401, 8, none⟩) (Kd.R_far (p := ⟨gb401, 7, none⟩) (Kd.R_far (p := ⟨gb401, 6, none⟩) (Kd.R_far (p := ⟨gb401, 5, none⟩) (Kd.R_far (p := ⟨gb401, 4, none⟩) (Kd.R_far (p := ⟨gb401, 3, none⟩) (Kd.R_far (p := ⟨gb401, 2, none⟩) (Kd.R_far (p := ⟨gb401, 1, none⟩) (Kd.R_far (p := ⟨gb401, 0, none⟩) (Kd.R_types HO399.out BK401.out (by decide)) (fun _ hk => hk.2) (.int .u8 t382)) (fun _ hk => hk.2) (.int .u32 t383)) (fun _ hk => hk.2) (.int .u32 t384)) (fun _ hk => hk.2) (.slice Ao18 t385.length co18)) (fun _ hk => hk.2) (.slice Ao19 t388.length co19)) (fun _ hk => hk.2) (.int .u32 t391)) (fun _ hk => hk.2) (.slice Ao20 t392.length co20)) (fun _ hk => hk.2) (.int .i64 t395)) (fun _ hk => hk.2) (.int .i64 t396)) (fun _ hk => hk.2) (.slice Ao21 t397.length co21)) (fun _ h_ => h_.1)))); (case side8 => exact (Kd.R_reads' HO399.out).2.1); rintro e w22 ⟨v403, rfl, ho0, hb⟩; refine ⟨_, rfl, ?_⟩; have n0_ := Aside0.mk (Kd.R_below (by (with_reducible repeat (first | apply Kd.R_alloc | apply Kd.R_drewN | apply Kd.R_drew)); exact (Kd.R_mono (Kd.R_far (p := ⟨gb401, 9, none⟩) (Kd.R_far (p := ⟨gb401, 8, none⟩) (Kd.R_far (p := ⟨gb401, 7, none⟩) (Kd.R_far (p := ⟨gb401, 6, none⟩) (Kd.R_far (p := ⟨gb401, 5, none⟩) (Kd.R_far (p := ⟨gb401, 4, none⟩) (Kd.R_far (p := ⟨gb401, 3, none⟩) (Kd.R_far (p := ⟨gb401, 2, none⟩) (Kd.R_far (p := ⟨gb401, 1, none⟩) (Kd.R_far (p := ⟨gb401, 0, none⟩) (Kd.R_types HO387.out BK401.out (by decide)) (fun _ hk => hk.2) (.int .u8 t382)) (fun _ hk => hk.2) (.int .u32 t383)) (fun _ hk => hk.2) (.int .u32 t384)) (fun _ hk => hk.2) (.slice Ao18 t385.length co18)) (fun _ hk => hk.2) (.slice Ao19 t388.length co19)) (fun _ hk => hk.2) (.int .u32 t391)) (fun _ hk => hk.2) (.slice Ao20 t392.length co20)) (fun _ hk => hk.2) (.int .i64 t395)) (fun _ hk => hk.2) (.int .i64 t396)) (fun _ hk => hk.2) (.slice Ao21 t397.length co21)) (fun _ h_ => h_.1))) hb); have n1_ := Aside0.mk (Kd.R_below (by (with_reducible repeat (first | apply Kd.R_alloc | apply Kd.R_drewN | apply Kd.R_drew)); exact (Kd.R_mono (Kd.R_far (p := ⟨gb401, 9, none⟩) (Kd.R_far (p := ⟨gb401, 8, none⟩) (Kd.R_far (p := ⟨gb401, 7, none⟩) (Kd.R_far (p := ⟨gb401, 6, none⟩) (Kd.R_far (p := ⟨gb401, 5, none⟩) (Kd.R_far (p := ⟨gb401, 4, none⟩) (Kd.R_far (p := ⟨gb401, 3, none⟩) (Kd.R_far (p := ⟨gb401, 2, none⟩) (Kd.R_far (p := ⟨gb401, 1, none⟩) (Kd.R_far (p := ⟨gb401, 0, none⟩) (Kd.R_types HO390.out BK401.out (by decide)) (fun _ hk => hk.2) (.int .u8 t382)) (fun _ hk => hk.2) (.int .u32 t383)) (fun _ hk => hk.2) (.int .u32 t384)) (fun _ hk => hk.2) (.slice Ao18 t385.length co18)) (fun _ hk => hk.2) (.slice Ao19 t388.length co19)) (fun _ hk => hk.2) (.int .u32 t391)) (fun _ hk => hk.2) (.slice Ao20 t392.length co20)) (fun _ hk => hk.2) (.int .i64 t395)) (fun _ hk => hk.2) (.int .i64 t396)) (fun _ hk => hk.2) (.slice Ao21 t397.length co21)) (fun _ h_ => h_.1))) hb); have n2_ := Aside0.mk (Kd.R_below (by (with_reducible repeat (first | apply Kd.R_alloc | apply Kd.R_drewN | apply Kd.R_drew)); exact (Kd.R_mono (Kd.R_far (p := ⟨gb401, 9, none⟩) (Kd.R_far (p := ⟨gb401, 8, none⟩) (Kd.R_far (p := ⟨gb401, 7, none⟩) (Kd.R_far (p := ⟨gb401, 6, none⟩) (Kd.R_far (p := ⟨gb401, 5, none⟩) (Kd.R_far (p := ⟨gb401, 4, none⟩) (Kd.R_far (p := ⟨gb401, 3, none⟩) (Kd.R_far (p := ⟨gb401, 2, none⟩) (Kd.R_far (p := ⟨gb401, 1, none⟩) (Kd.R_far (p := ⟨gb401, 0, none⟩) (Kd.R_types HO394.out BK401.out (by decide)) (fun _ hk => hk.2) (.int .u8 t382)) (fun _ hk => hk.2) (.int .u32 t383)) (fun _ hk => hk.2) (.int .u32 t384)) (fun _ hk => hk.2) (.slice Ao18 t385.length co18)) (fun _ hk => hk.2) (.slice Ao19 t388.length co19)) (fun _ hk => hk.2) (.int .u32 t391)) (fun _ hk => hk.2) (.slice Ao20 t392.length co20)) (fun _ hk => hk.2) (.int .i64 t395)) (fun _ hk => hk.2) (.int .i64 t396)) (fun _ hk => hk.2) (.slice Ao21 t397.length co21)) (fun _ h_ => h_.1))) hb); have n3_ := Aside0.mk (Kd.R_below (by (with_reducible repeat (first | apply Kd.R_alloc | apply Kd.R_drewN | apply Kd.R_drew)); exact (Kd.R_mono (Kd.R_far (p := ⟨gb401, 9, none⟩) (Kd.R_far (p := ⟨gb401, 8, none⟩) (Kd.R_far (p := ⟨gb401, 7, none⟩) (Kd.R_far (p := ⟨gb401, 6, none⟩) (Kd.R_far (p := ⟨gb401, 5, none⟩) (Kd.R_far (p := ⟨gb401, 4, none⟩) (Kd.R_far (p := ⟨gb401, 3, none⟩) (Kd.R_far (p := ⟨gb401, 2, none⟩) (Kd.R_far (p := ⟨gb401, 1, none⟩) (Kd.R_far (p := ⟨gb401, 0, none⟩) (Kd.R_types HO399.out BK401.out (by decide)) (fun _ hk => hk.2) (.int .u8 t382)) (fun _ hk => hk.2) (.int .u32 t383)) (fun _ hk => hk.2) (.int .u32 t384)) (fun _ hk => hk.2) (.slice Ao18 t385.length co18)) (fun _ hk => hk.2) (.slice Ao19 t388.length co19)) (fun _ hk => hk.2) (.int .u32 t391)) (fun _ hk => hk.2) (.slice Ao20 t392.length co20)) (fun _ hk => hk.2) (.int .i64 t395)) (fun _ hk => hk.2) (.int .i64 t396)) (fun _ hk => hk.2) (.slice Ao21 t397.length co21)) (fun _ h_ => h_.1))) hb); have n4_ := Aside0.mk (Kd.R_lower ho0 (below_size (by repeat (first | (with_reducible first | exact HB.out | apply below_alloc | apply pw_below_drewN | apply below_drew1 | refine below_set ?_ GE401.out) | exact HB.out)))); have n5_ := Aside0.mk (blk_below (g := gb401) (o := .cells #[.int .u8 t382, .int .u32 t383, .int .u32 t384, .slice Ao18 t385.length co18, .slice Ao19 t388.length co19, .int .u32 t391, .slice Ao20 t392.length co20, .int .i64 t395, .int .i64 t396, .slice Ao21 t397.length co21] 57 (0, 0)) (by (with_reducible repeat (first | refine blk_drewN ?_ _ | refine blk_drew ?_ | refine blk_alloc ?_ _)); refine blk_put (cs := #[.int .u8 t382, .int .u32 t383, .int .u32 t384, .slice Ao18 t385.length co18, .slice Ao19 t388.length co19, .int .u32 t391, .slice Ao20 t392.length co20, .int .i64 t395, .int .i64 t396, .slice none 0 0]) ?_ 9 _ rfl; (with_reducible repeat (first | refine blk_drewN ?_ _ | refine blk_drew ?_ | refine blk_alloc ?_ _)); refine blk_put (cs := #[.int .u8 t382, .int .u32 t383, .int .u32 t384, .slice Ao18 t385.length co18, .slice Ao19 t388.length co19, .int .u32 t391, .slice Ao20 t392.length co20, .int .i64 t395, .int .i64 0, .slice none 0 0]) ?_ 8 _ rfl; (with_reducible repeat (first | refine blk_drewN ?_ _ | refine blk_drew ?_ | refine blk_alloc ?_ _)); refine blk_put (cs := #[.int .u8 t382, .int .u32 t383, .int .u32 t384, .slice Ao18 t385.length co18, .slice Ao19 t388.length co19, .int .u32 t391, .slice Ao20 t392.length co20, .int .i64 0, .int .i64 0, .slice none 0 0]) ?_ 7 _ rfl; (with_reducible repeat (first | refine blk_drewN ?_ _ | refine blk_drew ?_ | refine blk_alloc ?_ _)); refine blk_put (cs := #[.int .u8 t382, .int .u32 t383, .int .u32 t384, .slice Ao18 t385.length co18, .slice Ao19 t388.length co19, .int .u32 t391, .slice none 0 0, .int .i64 0, .int .i64 0, .slice none 0 0]) ?_ 6 _ rfl; (with_reducible repeat (first | refine blk_drewN ?_ _ | refine blk_drew ?_ | refine blk_alloc ?_ _)); refine blk_put (cs := #[.int .u8 t382, .int .u32 t383, .int .u32 t384, .slice Ao18 t385.length co18, .slice Ao19 t388.length co19, .int .u32 0, .slice none 0 0, .int .i64 0, .int .i64 0, .slice none 0 0]) ?_ 5 _ rfl; (with_reducible repeat (first | refine blk_drewN ?_ _ | refine blk_drew ?_ | refine blk_alloc ?_ _)); refine blk_put (cs := #[.int .u8 t382, .int .u32 t383, .int .u32 t384, .slice Ao18 t385.length co18, .slice none 0 0, .int .u32 0, .slice none 0 0, .int .i64 0, .int .i64 0, .slice none 0 0]) ?_ 4 _ rfl; (with_reducible repeat (first | refine blk_drewN ?_ _ | refine blk_drew ?_ | refine blk_alloc ?_ _)); refine blk_put (cs := #[.int .u8 t382, .int .u32 t383, .int .u32 t384, .slice none 0 0, .slice none 0 0, .int .u32 0, .slice none 0 0, .int .i64 0, .int .i64 0, .slice none 0 0]) ?_ 3 _ rfl; (with_reducible repeat (first | refine blk_drewN ?_ _ | refine blk_drew ?_ | refine blk_alloc ?_ _)); refine blk_put (cs := #[.int .u8 t382, .int .u32 t383, .int .u32 0, .slice none 0 0, .slice none 0 0, .int .u32 0, .slice none 0 0, .int .i64 0, .int .i64 0, .slice none 0 0]) ?_ 2 _ rfl; (with_reducible repeat (first | refine blk_drewN ?_ _ | refine blk_drew ?_ | refine blk_alloc ?_ _)); refine blk_put (cs := #[.int .u8 t382, .int .u32 0, .int .u32 0, .slice none 0 0, .slice none 0 0, .int .u32 0, .slice none 0 0, .int .i64 0, .int .i64 0, .slice none 0 0]) ?_ 1 _ rfl; (with_reducible repeat (first | refine blk_drewN ?_ _ | refine blk_drew ?_ | refine blk_alloc ?_ _)); refine blk_put (cs := #[.int .u8 0, .int .u32 0, .int .u32 0, .slice none 0 0, .slice none 0 0, .int .u32 0, .slice none 0 0, .int .i64 0, .int .i64 0, .slice none 0 0]) ?_ 0 _ rfl; (with_reducible repeat (first | refine blk_drewN ?_ _ | refine blk_drew ?_ | refine blk_alloc ?_ _)); exact BK401.out) hb); have n6_ := Aside0.mk (below_step (by repeat (first | (with_reducible first | exact HB.out | apply below_alloc | apply pw_below_drewN | apply below_drew1 | refine below_set ?_ GE401.out) | exact HB.out)) hb); clear HO387; clear HO390; clear HO394; clear HO399; clear BK401; clear HB; have HO387 := n0_; have HO390 := n1_; have HO394 := n2_; have HO399 := n3_; have HO404 := n4_; have BK401 := n5_; have HB := n6_; clear n0_ n1_ n2_ n3_ n4_ n5_ n6_; (try clear hb); (try clear hb2); (try clear hk); (try clear hi); (try clear ho0); have hcv23 := own_string (P := Tryd.prog) Tryd.underlying23 Tryd.underlying5 Tryd.underlying9 (Kd.own_of_R HO404.out); have hcv24 := Kd.C_string (P := Tryd.prog) (A := A0) (c := c0) Tryd.underlying23 Tryd.underlying5 Tryd.underlying9 (Kd.C_below HR0.out HB.out); have hcz25_0 : w22.cell? ⟨gb401, 0, none⟩ = some (.int .u8 t382) := (blk_cell BK401.out 0).trans rfl; have hcz25_1 : w22.cell? ⟨gb401, 1, none⟩ = some (.int .u32 t383) := (blk_cell BK401.out 1).trans rfl; have hcz25_2 : w22.cell? ⟨gb401, 2, none⟩ = some (.int .u32 t384) := (blk_cell BK401.out 2).trans rfl; have hcz25_3 : w22.cell? ⟨gb401, 3, none⟩ = some (.slice Ao18 t385.length co18) := (blk_cell BK401.out 3).trans rfl; have hcz25_4 : w22.cell? ⟨gb401, 4, none⟩ = some (.slice Ao19 t388.length co19) := (blk_cell BK401.out 4).trans rfl; have hcz25_5 : w22.cell? ⟨gb401, 5, none⟩ = some (.int .u32 t391) := (blk_cell BK401.out 5).trans rfl; have hcz25_6 : w22.cell? ⟨gb401, 6, none⟩ = some (.slice Ao20 t392.length co20) := (blk_cell BK401.out 6).trans rfl; have hcz25_7 : w22.cell? ⟨gb401, 7, none⟩ = some (.int .i64 t395) := (blk_cell BK401.out 7).trans rfl; have hcz25_8 : w22.cell? ⟨gb401, 8, none⟩ = some (.int .i64 t396) := (blk_cell BK401.out 8).trans rfl; have hcz25_9 : w22.cell? ⟨gb401, 9, none⟩ = some (.slice Ao21 t397.length co21) := (blk_cell BK401.out 9).trans rfl; have hfz25_0 := blk_frozen BK401.out 0; have hfz25_1 := blk_frozen BK401.out 1; have hfz25_2 := blk_frozen BK401.out 2; have hfz25_3 := blk_frozen BK401.out 3; have hfz25_4 := blk_frozen BK401.out 4; have hfz25_5 := blk_frozen BK401.out 5; have hfz25_6 := blk_frozen BK401.out 6; have hfz25_7 := blk_frozen BK401.out 7; have hfz25_8 := blk_frozen BK401.out 8; have hfz25_9 := blk_frozen BK401.out 9) | (go_at_call 41; (with_reducible refine (code_Sound.calls t382 t383 t384 _ _ t385 _ _ t388 t391 _ _ t392 t395 t396 _ _ t397 t406 _ ?side1 ?side2 ?side3 ?side4 ?side5 ?side6 ?side7 ?side8 A14.out).mono ?_); (case side1 => repeat (first | exact (Kd.R_reads' HO387.out).2.2 | (with_reducible refine Kd.C_alloc ?_ _) | (with_reducible refine Kd.C_drewN ?_ _) | (with_reducible refine Kd.C_drew ?_))); (case side2 => exact (Kd.R_reads' HO387.out).2.1); (case side3 => repeat (first | exact (Kd.R_reads' HO390.out).2.2 | (with_reducible refine Kd.C_alloc ?_ _) | (with_reducible refine Kd.C_drewN ?_ _) | (with_reducible refine Kd.C_drew ?_))); (case side4 => exact (Kd.R_reads' HO390.out).2.1); (case side5 => repeat (first | exact (Kd.R_reads' HO394.out).2.2 | (with_reducible refine Kd.C_alloc ?_ _) | (with_reducible refine Kd.C_drewN ?_ _) | (with_reducible refine Kd.C_drew ?_))); (case side6 => exact (Kd.R_reads' HO394.out).2.1); (case side7 => repeat (first | exact (Kd.R_reads' HO399.out).2.2 | (with_reducible refine Kd.C_alloc ?_ _) | (with_reducible refine Kd.C_drewN ?_ _) | (with_reducible refine Kd.C_drew ?_))); (case side8 => exact (Kd.R_reads' HO399.out).2.1); rintro e w26 ⟨rfl, hb⟩; have n0_ := Aside0.mk (Kd.R_below (by (with_reducible repeat (first | apply Kd.R_alloc | apply Kd.R_drewN | apply Kd.R_drew)); exact HO387.out) hb); have n1_ := Aside0.mk (Kd.R_below (by (with_reducible repeat (first | apply Kd.R_alloc | apply Kd.R_drewN | apply Kd.R_drew)); exact HO390.out) hb); have n2_ := Aside0.mk (Kd.R_below (by (with_reducible repeat (first | apply Kd.R_alloc | apply Kd.R_drewN | apply Kd.R_drew)); exact HO394.out) hb); have n3_ := Aside0.mk (Kd.R_below (by (with_reducible repeat (first | apply Kd.R_alloc | apply Kd.R_drewN | apply Kd.R_drew)); exact HO399.out) hb); have n4_ := Aside0.mk (Kd.R_below (by (with_reducible repeat (first | apply Kd.R_alloc | apply Kd.R_drewN | apply Kd.R_drew)); exact HO404.out) hb); have n5_ := Aside0.mk (blk_below (g := gb401) (o := .cells #[.int .u8 t382, .int .u32 t383, .int .u32 t384, .slice Ao18 t385.length co18, .slice Ao19 t388.length co19, .int .u32 t391, .slice Ao20 t392.length co20, .int .i64 t395, .int .i64 t396, .slice Ao21 t397.length co21] 57 (0, 0)) (by (with_reducible repeat (first | refine blk_drewN ?_ _ | refine blk_drew ?_ | refine blk_alloc ?_ _)); exact BK401.out) hb); have n6_ := Aside0.mk (below_step (by repeat (first | (with_reducible first | exact HB.out | apply below_alloc | apply pw_below_drewN | apply below_drew1 | refine below_set ?_ GE401.out) | exact HB.out)) hb); clear HO387; clear HO390; clear HO394; clear HO399; clear HO404; clear BK401; clear HB; have HO387 := n0_; have HO390 := n1_; have HO394 := n2_; have HO399 := n3_; have HO404 := n4_; have BK401 := n5_; have HB := n6_; clear n0_ n1_ n2_ n3_ n4_ n5_ n6_; (try clear hb); (try clear hb2); (try clear hk); (try clear hi)))
              go_ret
              exact ⟨by first | rfl | (simp [errW_none, errW_some] <;> rfl) | (simp [*, errW_none, errW_some] <;> rfl), by repeat (first | (with_reducible first | exact HB.out | apply below_alloc | apply pw_below_drewN | apply below_drew1 | refine below_set ?_ GE401.out) | exact HB.out)⟩
            · rw [if_neg c13] at H
              have c13b0 : ((strOfNums t402).toList == (strOfNums l0).toList) = false := beq_eq_false_iff_ne.mpr c13
              have c13b1 : ((strOfNums t402).toList != (strOfNums l0).toList) = true := bne_iff_ne.mpr c13
              obtain rfl := Option.some.inj H
              go_wp2_with (first | ((with_reducible refine gate_callee (f := 44) rfl ?_); refine goesL_ (some 17) rfl rfl Tryd.func44 (by kernel_rfl) rfl #[.slice A0 l0.length c0] rfl (by (try simp only [List.map_toArray, List.map_cons, List.map_nil]); first | done | rfl | (simp only [List.length_drop, List.length_take]; rfl)) ?_; (with_reducible refine (code_Decode.calls _ _ l0 t382 t383 t384 t385 t388 t391 t392 t395 t396 t397 t400 _ ?side1 ?side2 A9.out).mono ?_); (case side1 => repeat (first | exact (Kd.C_below HR0.out HB.out) | (with_reducible refine Kd.C_alloc ?_ _) | (with_reducible refine Kd.C_drewN ?_ _) | (with_reducible refine Kd.C_drew ?_))); (case side2 => exact HC0.out); rintro e w27 ⟨v386, v389, v393, v398, rfl, ho0, ho1, ho2, ho3, hb⟩; refine ⟨_, rfl, ?_⟩; have n0_ := Aside0.mk (Kd.R_lower ho0 (below_size (by repeat (first | (with_reducible first | exact HB.out | apply below_alloc | apply pw_below_drewN | apply below_drew1) | exact HB.out)))); have n1_ := Aside0.mk (Kd.R_lower ho1 (below_size (by repeat (first | (with_reducible first | exact HB.out | apply below_alloc | apply pw_below_drewN | apply below_drew1) | exact HB.out)))); have n2_ := Aside0.mk (Kd.R_lower ho2 (below_size (by repeat (first | (with_reducible first | exact HB.out | apply below_alloc | apply pw_below_drewN | apply below_drew1) | exact HB.out)))); have n3_ := Aside0.mk (Kd.R_lower ho3 (below_size (by repeat (first | (with_reducible first | exact HB.out | apply below_alloc | apply pw_below_drewN | apply below_drew1) | exact HB.out)))); have n4_ := Aside0.mk (below_step (by repeat (first | (with_reducible first | exact HB.out | apply below_alloc | apply pw_below_drewN | apply below_drew1) | exact HB.out)) hb); clear HB; have HO387 := n0_; have HO390 := n1_; have HO394 := n2_; have HO399 := n3_; have HB := n4_; clear n0_ n1_ n2_ n3_ n4_; (try clear hb); (try clear hb2); (try clear hk); (try clear hi); (try clear ho0); (try clear ho1); (try clear ho2); (try clear ho3)) | ((with_reducible refine gate_dst (N := 3) rfl ?_); refine box_event ?hg (N := 3) ?hd (cs := #[.int .u8 0, .int .u32 0, .int .u32 0, .slice none 0 0, .slice none 0 0, .int .u32 0, .slice none 0 0, .int .i64 0, .int .i64 0, .slice none 0 0]) (t := 57) ?hr ?_; (case hd => rfl); (case hg => rfl); (case hr => first | (go_simp; done) | (go_simp; rfl)); intro gb401 hg w28 hbox hb; have n0_ := Aside0.mk (Kd.R_below (by (with_reducible repeat (first | apply Kd.R_alloc | apply Kd.R_drewN | apply Kd.R_drew)); exact HO387.out) hb); have n1_ := Aside0.mk (Kd.R_below (by (with_reducible repeat (first | apply Kd.R_alloc | apply Kd.R_drewN | apply Kd.R_drew)); exact HO390.out) hb); have n2_ := Aside0.mk (Kd.R_below (by (with_reducible repeat (first | apply Kd.R_alloc | apply Kd.R_drewN | apply Kd.R_drew)); exact HO394.out) hb); have n3_ := Aside0.mk (Kd.R_below (by (with_reducible repeat (first | apply Kd.R_alloc | apply Kd.R_drewN | apply Kd.R_drew)); exact HO399.out) hb); have n4_ := Aside0.mk (below_step (by repeat (first | (with_reducible first | exact HB.out | apply below_alloc | apply pw_below_drewN | apply below_drew1) | exact HB.out)) hb); have n5_ := Aside0.mk (hbox); have n6_ := Aside0.mk ((by rw [hg]; exact (below_size (by repeat (first | (with_reducible first | exact HB.out | apply below_alloc | apply pw_below_drewN | apply below_drew1) | exact HB.out))) : w.heap.size ≤ gb401)); have n7_ := Aside0.mk ((by rw [hg]; exact (below_size (by repeat (first | (with_reducible first | exact HB.out | apply below_alloc | apply pw_below_drewN | apply below_drew1) | exact HB.out))) : w.heap.size ≤ gb401)); clear HO387; clear HO390; clear HO394; clear HO399; clear HB; have HO387 := n0_; have HO390 := n1_; have HO394 := n2_; have HO399 := n3_; have HB := n4_; have BK401 := n5_; have GW401 := n6_; have GE401 := n7_; clear n0_ n1_ n2_ n3_ n4_ n5_ n6_ n7_; clear hb hbox hg; have hcz29_0 : w28.cell? ⟨gb401, 0, none⟩ = some (.int .u8 0) := (blk_cell BK401.out 0).trans rfl; have hcz29_1 : w28.cell? ⟨gb401, 1, none⟩ = some (.int .u32 0) := (blk_cell BK401.out 1).trans rfl; have hcz29_2 : w28.cell? ⟨gb401, 2, none⟩ = some (.int .u32 0) := (blk_cell BK401.out 2).trans rfl; have hcz29_3 : w28.cell? ⟨gb401, 3, none⟩ = some (.slice none 0 0) := (blk_cell BK401.out 3).trans rfl; have hcz29_4 : w28.cell? ⟨gb401, 4, none⟩ = some (.slice none 0 0) := (blk_cell BK401.out 4).trans rfl; have hcz29_5 : w28.cell? ⟨gb401, 5, none⟩ = some (.int .u32 0) := (blk_cell BK401.out 5).trans rfl; have hcz29_6 : w28.cell? ⟨gb401, 6, none⟩ = some (.slice none 0 0) := (blk_cell BK401.out 6).trans rfl; have hcz29_7 : w28.cell? ⟨gb401, 7, none⟩ = some (.int .i64 0) := (blk_cell BK401.out 7).trans rfl; have hcz29_8 : w28.cell? ⟨gb401, 8, none⟩ = some (.int .i64 0) := (blk_cell BK401.out 8).trans rfl; have hcz29_9 : w28.cell? ⟨gb401, 9, none⟩ = some (.slice none 0 0) := (blk_cell BK401.out 9).trans rfl; have hfz29_0 := blk_frozen BK401.out 0; have hfz29_1 := blk_frozen BK401.out 1; have hfz29_2 := blk_frozen BK401.out 2; have hfz29_3 := blk_frozen BK401.out 3; have hfz29_4 := blk_frozen BK401.out 4; have hfz29_5 := blk_frozen BK401.out 5; have hfz29_6 := blk_frozen BK401.out 6; have hfz29_7 := blk_frozen BK401.out 7; have hfz29_8 := blk_frozen BK401.out 8; have hfz29_9 := blk_frozen BK401.out 9; obtain ⟨Ao30, co30, eo30⟩ := Kd.R_slice HO387.out; subst eo30; obtain ⟨Ao31, co31, eo31⟩ := Kd.R_slice HO390.out; subst eo31; obtain ⟨Ao32, co32, eo32⟩ := Kd.R_slice HO394.out; subst eo32; obtain ⟨Ao33, co33, eo33⟩ := Kd.R_slice HO399.out; subst eo33) | ((with_reducible refine gate_callee (f := 39) rfl ?_); refine goesL_ (some 31) rfl rfl Tryd.func39 (by kernel_rfl) rfl #[.agg #[.int .u8 t382, .int .u32 t383, .int .u32 t384, .slice Ao30 t385.length co30, .slice Ao31 t388.length co31, .int .u32 t391, .slice Ao32 t392.length co32, .int .i64 t395, .int .i64 t396, .slice Ao33 t397.length co33]] rfl (by (try simp only [List.map_toArray, List.map_cons, List.map_nil]); first | done | rfl | (simp only [List.length_drop, List.length_take]; rfl)) ?_; (with_reducible refine (code_Encode.calls t382 t383 t384 _ _ t385 _ _ t388 t391 _ _ t392 t395 t396 _ _ t397 t402 t405 _ ?side1 ?side2 ?side3 ?side4 ?side5 ?side6 ?side7 ?side8 A11.out).mono ?_); (case side1 => refine (Kd.R_reads' (e := 3) (base := w.heap.size) (ok := fun k_ => True) (n := t385.length) (c := co30) ?_).2.2; exact (by (with_reducible repeat (first | apply Kd.R_alloc | apply Kd.R_drewN | apply Kd.R_drew)); exact (Kd.R_mono (Kd.R_far (p := ⟨gb401, 9, none⟩) (Kd.R_far (p := ⟨gb401, 8, none⟩) (Kd.R_far (p := ⟨gb401, 7, none⟩) (Kd.R_far (p := ⟨gb401, 6, none⟩) (Kd.R_far (p := ⟨gb401, 5, none⟩) (Kd.R_far (p := ⟨gb401, 4, none⟩) (Kd.R_far (p := ⟨gb401, 3, none⟩) (Kd.R_far (p := ⟨gb401, 2, none⟩) (Kd.R_far (p := ⟨gb401, 1, none⟩) (Kd.R_far (p := ⟨gb401, 0, none⟩) (Kd.R_types HO387.out BK401.out (by decide)) (fun _ hk => hk.2) (.int .u8 t382)) (fun _ hk => hk.2) (.int .u32 t383)) (fun _ hk => hk.2) (.int .u32 t384)) (fun _ hk => hk.2) (.slice Ao30 t385.length co30)) (fun _ hk => hk.2) (.slice Ao31 t388.length co31)) (fun _ hk => hk.2) (.int .u32 t391)) (fun _ hk => hk.2) (.slice Ao32 t392.length co32)) (fun _ hk => hk.2) (.int .i64 t395)) (fun _ hk => hk.2) (.int .i64 t396)) (fun _ hk => hk.2) (.slice Ao33 t397.length co33)) (fun _ h_ => h_.1)))); (case side2 => exact (Kd.R_reads' HO387.out).2.1); (case side3 => refine (Kd.R_reads' (e := 76) (base := w.heap.size) (ok := fun k_ => some k_ ≠ (.slice Ao30 t385.length co30 : Value).ownBlock) (n := t388.length) (c := co31) ?_).2.2; exact (by (with_reducible repeat (first | apply Kd.R_alloc | apply Kd.R_drewN | apply Kd.R_drew)); exact (Kd.R_mono (Kd.R_far (p := ⟨gb401, 9, none⟩) (Kd.R_far (p := ⟨gb401, 8, none⟩) (Kd.R_far (p := ⟨gb401, 7, none⟩) (Kd.R_far (p := ⟨gb401, 6, none⟩) (Kd.R_far (p := ⟨gb401, 5, none⟩) (Kd.R_far (p := ⟨gb401, 4, none⟩) (Kd.R_far (p := ⟨gb401, 3, none⟩) (Kd.R_far (p := ⟨gb401, 2, none⟩) (Kd.R_far (p := ⟨gb401, 1, none⟩) (Kd.R_far (p := ⟨gb401, 0, none⟩) (Kd.R_types HO390.out BK401.out (by decide)) (fun _ hk => hk.2) (.int .u8 t382)) (fun _ hk => hk.2) (.int .u32 t383)) (fun _ hk => hk.2) (.int .u32 t384)) (fun _ hk => hk.2) (.slice Ao30 t385.length co30)) (fun _ hk => hk.2) (.slice Ao31 t388.length co31)) (fun _ hk => hk.2) (.int .u32 t391)) (fun _ hk => hk.2) (.slice Ao32 t392.length co32)) (fun _ hk => hk.2) (.int .i64 t395)) (fun _ hk => hk.2) (.int .i64 t396)) (fun _ hk => hk.2) (.slice Ao33 t397.length co33)) (fun _ h_ => h_.1)))); (case side4 => exact (Kd.R_reads' HO390.out).2.1); (case side5 => refine (Kd.R_reads' (e := 132) (base := w.heap.size) (ok := fun k_ => True) (n := t392.length) (c := co32) ?_).2.2; exact (by (with_reducible repeat (first | apply Kd.R_alloc | apply Kd.R_drewN | apply Kd.R_drew)); exact (Kd.R_mono (Kd.R_far (p := ⟨gb401, 9, none⟩) (Kd.R_far (p := ⟨gb401, 8, none⟩) (Kd.R_far (p := ⟨gb401, 7, none⟩) (Kd.R_far (p := ⟨gb401, 6, none⟩) (Kd.R_far (p := ⟨gb401, 5, none⟩) (Kd.R_far (p := ⟨gb401, 4, none⟩) (Kd.R_far (p := ⟨gb401, 3, none⟩) (Kd.R_far (p := ⟨gb401, 2, none⟩) (Kd.R_far (p := ⟨gb401, 1, none⟩) (Kd.R_far (p := ⟨gb401, 0, none⟩) (Kd.R_types HO394.out BK401.out (by decide)) (fun _ hk => hk.2) (.int .u8 t382)) (fun _ hk => hk.2) (.int .u32 t383)) (fun _ hk => hk.2) (.int .u32 t384)) (fun _ hk => hk.2) (.slice Ao30 t385.length co30)) (fun _ hk => hk.2) (.slice Ao31 t388.length co31)) (fun _ hk => hk.2) (.int .u32 t391)) (fun _ hk => hk.2) (.slice Ao32 t392.length co32)) (fun _ hk => hk.2) (.int .i64 t395)) (fun _ hk => hk.2) (.int .i64 t396)) (fun _ hk => hk.2) (.slice Ao33 t397.length co33)) (fun _ h_ => h_.1)))); (case side6 => exact (Kd.R_reads' HO394.out).2.1); (case side7 => refine (Kd.R_reads' (e := 124) (base := w.heap.size) (ok := fun k_ => (some k_ ≠ (.slice Ao30 t385.length co30 : Value).ownBlock ∧ some k_ ≠ (.slice Ao31 t388.length co31 : Value).ownBlock)) (n := t397.length) (c := co33) ?_).2.2; exact (by (with_reducible repeat (first | apply Kd.R_alloc | apply Kd.R_drewN | apply Kd.R_drew)); exact (Kd.R_mono (Kd.R_far (p := ⟨gb401, 9, none⟩) (Kd.R_far (p := ⟨gb401, 8, none⟩) (Kd.R_far (p := ⟨gb401, 7, none⟩) (Kd.R_far (p := ⟨gb401, 6, none⟩) (Kd.R_far (p := ⟨gb401, 5, none⟩) (Kd.R_far (p := ⟨gb401, 4, none⟩) (Kd.R_far (p := ⟨gb401, 3, none⟩) (Kd.R_far (p := ⟨gb401, 2, none⟩) (Kd.R_far (p := ⟨gb401, 1, none⟩) (Kd.R_far (p := ⟨gb401, 0, none⟩) (Kd.R_types HO399.out BK401.out (by decide)) (fun _ hk => hk.2) (.int .u8 t382)) (fun _ hk => hk.2) (.int .u32 t383)) (fun _ hk => hk.2) (.int .u32 t384)) (fun _ hk => hk.2) (.slice Ao30 t385.length co30)) (fun _ hk => hk.2) (.slice Ao31 t388.length co31)) (fun _ hk => hk.2) (.int .u32 t391)) (fun _ hk => hk.2) (.slice Ao32 t392.length co32)) (fun _ hk => hk.2) (.int .i64 t395)) (fun _ hk => hk.2) (.int .i64 t396)) (fun _ hk => hk.2) (.slice Ao33 t397.length co33)) (fun _ h_ => h_.1)))); (case side8 => exact (Kd.R_reads' HO399.out).2.1); rintro e w34 ⟨v403, rfl, ho0, hb⟩; refine ⟨_, rfl, ?_⟩; have n0_ := Aside0.mk (Kd.R_below (by (with_reducible repeat (first | apply Kd.R_alloc | apply Kd.R_drewN | apply Kd.R_drew)); exact (Kd.R_mono (Kd.R_far (p := ⟨gb401, 9, none⟩) (Kd.R_far (p := ⟨gb401, 8, none⟩) (Kd.R_far (p := ⟨gb401, 7, none⟩) (Kd.R_far (p := ⟨gb401, 6, none⟩) (Kd.R_far (p := ⟨gb401, 5, none⟩) (Kd.R_far (p := ⟨gb401, 4, none⟩) (Kd.R_far (p := ⟨gb401, 3, none⟩) (Kd.R_far (p := ⟨gb401, 2, none⟩) (Kd.R_far (p := ⟨gb401, 1, none⟩) (Kd.R_far (p := ⟨gb401, 0, none⟩) (Kd.R_types HO387.out BK401.out (by decide)) (fun _ hk => hk.2) (.int .u8 t382)) (fun _ hk => hk.2) (.int .u32 t383)) (fun _ hk => hk.2) (.int .u32 t384)) (fun _ hk => hk.2) (.slice Ao30 t385.length co30)) (fun _ hk => hk.2) (.slice Ao31 t388.length co31)) (fun _ hk => hk.2) (.int .u32 t391)) (fun _ hk => hk.2) (.slice Ao32 t392.length co32)) (fun _ hk => hk.2) (.int .i64 t395)) (fun _ hk => hk.2) (.int .i64 t396)) (fun _ hk => hk.2) (.slice Ao33 t397.length co33)) (fun _ h_ => h_.1))) hb); have n1_ := Aside0.mk (Kd.R_below (by (with_reducible repeat (first | apply Kd.R_alloc | apply Kd.R_drewN | apply Kd.R_drew)); exact (Kd.R_mono (Kd.R_far (p := ⟨gb401, 9, none⟩) (Kd.R_far (p := ⟨gb401, 8, none⟩) (Kd.R_far (p := ⟨gb401, 7, none⟩) (Kd.R_far (p := ⟨gb401, 6, none⟩) (Kd.R_far (p := ⟨gb401, 5, none⟩) (Kd.R_far (p := ⟨gb401, 4, none⟩) (Kd.R_far (p := ⟨gb401, 3, none⟩) (Kd.R_far (p := ⟨gb401, 2, none⟩) (Kd.R_far (p := ⟨gb401, 1, none⟩) (Kd.R_far (p := ⟨gb401, 0, none⟩) (Kd.R_types HO390.out BK401.out (by decide)) (fun _ hk => hk.2) (.int .u8 t382)) (fun _ hk => hk.2) (.int .u32 t383)) (fun _ hk => hk.2) (.int .u32 t384)) (fun _ hk => hk.2) (.slice Ao30 t385.length co30)) (fun _ hk => hk.2) (.slice Ao31 t388.length co31)) (fun _ hk => hk.2) (.int .u32 t391)) (fun _ hk => hk.2) (.slice Ao32 t392.length co32)) (fun _ hk => hk.2) (.int .i64 t395)) (fun _ hk => hk.2) (.int .i64 t396)) (fun _ hk => hk.2) (.slice Ao33 t397.length co33)) (fun _ h_ => h_.1))) hb); have n2_ := Aside0.mk (Kd.R_below (by (with_reducible repeat (first | apply Kd.R_alloc | apply Kd.R_drewN | apply Kd.R_drew)); exact (Kd.R_mono (Kd.R_far (p := ⟨gb401, 9, none⟩) (Kd.R_far (p := ⟨gb401, 8, none⟩) (Kd.R_far (p := ⟨gb401, 7, none⟩) (Kd.R_far (p := ⟨gb401, 6, none⟩) (Kd.R_far (p := ⟨gb401, 5, none⟩) (Kd.R_far (p := ⟨gb401, 4, none⟩) (Kd.R_far (p := ⟨gb401, 3, none⟩) (Kd.R_far (p := ⟨gb401, 2, none⟩) (Kd.R_far (p := ⟨gb401, 1, none⟩) (Kd.R_far (p := ⟨gb401, 0, none⟩) (Kd.R_types HO394.out BK401.out (by decide)) (fun _ hk => hk.2) (.int .u8 t382)) (fun _ hk => hk.2) (.int .u32 t383)) (fun _ hk => hk.2) (.int .u32 t384)) (fun _ hk => hk.2) (.slice Ao30 t385.length co30)) (fun _ hk => hk.2) (.slice Ao31 t388.length co31)) (fun _ hk => hk.2) (.int .u32 t391)) (fun _ hk => hk.2) (.slice Ao32 t392.length co32)) (fun _ hk => hk.2) (.int .i64 t395)) (fun _ hk => hk.2) (.int .i64 t396)) (fun _ hk => hk.2) (.slice Ao33 t397.length co33)) (fun _ h_ => h_.1))) hb); have n3_ := Aside0.mk (Kd.R_below (by (with_reducible repeat (first | apply Kd.R_alloc | apply Kd.R_drewN | apply Kd.R_drew)); exact (Kd.R_mono (Kd.R_far (p := ⟨gb401, 9, none⟩) (Kd.R_far (p := ⟨gb401, 8, none⟩) (Kd.R_far (p := ⟨gb401, 7, none⟩) (Kd.R_far (p := ⟨gb401, 6, none⟩) (Kd.R_far (p := ⟨gb401, 5, none⟩) (Kd.R_far (p := ⟨gb401, 4, none⟩) (Kd.R_far (p := ⟨gb401, 3, none⟩) (Kd.R_far (p := ⟨gb401, 2, none⟩) (Kd.R_far (p := ⟨gb401, 1, none⟩) (Kd.R_far (p := ⟨gb401, 0, none⟩) (Kd.R_types HO399.out BK401.out (by decide)) (fun _ hk => hk.2) (.int .u8 t382)) (fun _ hk => hk.2) (.int .u32 t383)) (fun _ hk => hk.2) (.int .u32 t384)) (fun _ hk => hk.2) (.slice Ao30 t385.length co30)) (fun _ hk => hk.2) (.slice Ao31 t388.length co31)) (fun _ hk => hk.2) (.int .u32 t391)) (fun _ hk => hk.2) (.slice Ao32 t392.length co32)) (fun _ hk => hk.2) (.int .i64 t395)) (fun _ hk => hk.2) (.int .i64 t396)) (fun _ hk => hk.2) (.slice Ao33 t397.length co33)) (fun _ h_ => h_.1))) hb); have n4_ := Aside0.mk (Kd.R_lower ho0 (below_size (by repeat (first | (with_reducible first | exact HB.out | apply below_alloc | apply pw_below_drewN | apply below_drew1 | refine below_set ?_ GE401.out) | exact HB.out)))); have n5_ := Aside0.mk (blk_below (g := gb401) (o := .cells #[.int .u8 t382, .int .u32 t383, .int .u32 t384, .slice Ao30 t385.length co30, .slice Ao31 t388.length co31, .int .u32 t391, .slice Ao32 t392.length co32, .int .i64 t395, .int .i64 t396, .slice Ao33 t397.length co33] 57 (0, 0)) (by (with_reducible repeat (first | refine blk_drewN ?_ _ | refine blk_drew ?_ | refine blk_alloc ?_ _)); refine blk_put (cs := #[.int .u8 t382, .int .u32 t383, .int .u32 t384, .slice Ao30 t385.length co30, .slice Ao31 t388.length co31, .int .u32 t391, .slice Ao32 t392.length co32, .int .i64 t395, .int .i64 t396, .slice none 0 0]) ?_ 9 _ rfl; (with_reducible repeat (first | refine blk_drewN ?_ _ | refine blk_drew ?_ | refine blk_alloc ?_ _)); refine blk_put (cs := #[.int .u8 t382, .int .u32 t383, .int .u32 t384, .slice Ao30 t385.length co30, .slice Ao31 t388.length co31, .int .u32 t391, .slice Ao32 t392.length co32, .int .i64 t395, .int .i64 0, .slice none 0 0]) ?_ 8 _ rfl; (with_reducible repeat (first | refine blk_drewN ?_ _ | refine blk_drew ?_ | refine blk_alloc ?_ _)); refine blk_put (cs := #[.int .u8 t382, .int .u32 t383, .int .u32 t384, .slice Ao30 t385.length co30, .slice Ao31 t388.length co31, .int .u32 t391, .slice Ao32 t392.length co32, .int .i64 0, .int .i64 0, .slice none 0 0]) ?_ 7 _ rfl; (with_reducible repeat (first | refine blk_drewN ?_ _ | refine blk_drew ?_ | refine blk_alloc ?_ _)); refine blk_put (cs := #[.int .u8 t382, .int .u32 t383, .int .u32 t384, .slice Ao30 t385.length co30, .slice Ao31 t388.length co31, .int .u32 t391, .slice none 0 0, .int .i64 0, .int .i64 0, .slice none 0 0]) ?_ 6 _ rfl; (with_reducible repeat (first | refine blk_drewN ?_ _ | refine blk_drew ?_ | refine blk_alloc ?_ _)); refine blk_put (cs := #[.int .u8 t382, .int .u32 t383, .int .u32 t384, .slice Ao30 t385.length co30, .slice Ao31 t388.length co31, .int .u32 0, .slice none 0 0, .int .i64 0, .int .i64 0, .slice none 0 0]) ?_ 5 _ rfl; (with_reducible repeat (first | refine blk_drewN ?_ _ | refine blk_drew ?_ | refine blk_alloc ?_ _)); refine blk_put (cs := #[.int .u8 t382, .int .u32 t383, .int .u32 t384, .slice Ao30 t385.length co30, .slice none 0 0, .int .u32 0, .slice none 0 0, .int .i64 0, .int .i64 0, .slice none 0 0]) ?_ 4 _ rfl; (with_reducible repeat (first | refine blk_drewN ?_ _ | refine blk_drew ?_ | refine blk_alloc ?_ _)); refine blk_put (cs := #[.int .u8 t382, .int .u32 t383, .int .u32 t384, .slice none 0 0, .slice none 0 0, .int .u32 0, .slice none 0 0, .int .i64 0, .int .i64 0, .slice none 0 0]) ?_ 3 _ rfl; (with_reducible repeat (first | refine blk_drewN ?_ _ | refine blk_drew ?_ | refine blk_alloc ?_ _)); refine blk_put (cs := #[.int .u8 t382, .int .u32 t383, .int .u32 0, .slice none 0 0, .slice none 0 0, .int .u32 0, .slice none 0 0, .int .i64 0, .int .i64 0, .slice none 0 0]) ?_ 2 _ rfl; (with_reducible repeat (first | refine blk_drewN ?_ _ | refine blk_drew ?_ | refine blk_alloc ?_ _)); refine blk_put (cs := #[.int .u8 t382, .int .u32 0, .int .u32 0, .slice none 0 0, .slice none 0 0, .int .u32 0, .slice none 0 0, .int .i64 0, .int .i64 0, .slice none 0 0]) ?_ 1 _ rfl; (with_reducible repeat (first | refine blk_drewN ?_ _ | refine blk_drew ?_ | refine blk_alloc ?_ _)); refine blk_put (cs := #[.int .u8 0, .int .u32 0, .int .u32 0, .slice none 0 0, .slice none 0 0, .int .u32 0, .slice none 0 0, .int .i64 0, .int .i64 0, .slice none 0 0]) ?_ 0 _ rfl; (with_reducible repeat (first | refine blk_drewN ?_ _ | refine blk_drew ?_ | refine blk_alloc ?_ _)); exact BK401.out) hb); have n6_ := Aside0.mk (below_step (by repeat (first | (with_reducible first | exact HB.out | apply below_alloc | apply pw_below_drewN | apply below_drew1 | refine below_set ?_ GE401.out) | exact HB.out)) hb); clear HO387; clear HO390; clear HO394; clear HO399; clear BK401; clear HB; have HO387 := n0_; have HO390 := n1_; have HO394 := n2_; have HO399 := n3_; have HO404 := n4_; have BK401 := n5_; have HB := n6_; clear n0_ n1_ n2_ n3_ n4_ n5_ n6_; (try clear hb); (try clear hb2); (try clear hk); (try clear hi); (try clear ho0); have hcv35 := own_string (P := Tryd.prog) Tryd.underlying23 Tryd.underlying5 Tryd.underlying9 (Kd.own_of_R HO404.out); have hcv36 := Kd.C_string (P := Tryd.prog) (A := A0) (c := c0) Tryd.underlying23 Tryd.underlying5 Tryd.underlying9 (Kd.C_below HR0.out HB.out)))
              go_ret
              exact ⟨by first | rfl | (simp [errW_none, errW_some] <;> rfl) | (simp [*, errW_none, errW_some] <;> rfl), by repeat (first | (with_reducible first | exact HB.out | apply below_alloc | apply pw_below_drewN | apply below_drew1 | refine below_set ?_ GE401.out) | exact HB.out)⟩
          · rw [if_neg c12] at H
            have c12b0 : (t405 == 0) = false := beq_eq_false_iff_ne.mpr c12
            have c12b1 : (t405 != 0) = true := bne_iff_ne.mpr c12
            obtain rfl := Option.some.inj H
            go_wp2_with (first | ((with_reducible refine gate_callee (f := 44) rfl ?_); refine goesL_ (some 17) rfl rfl Tryd.func44 (by kernel_rfl) rfl #[.slice A0 l0.length c0] rfl (by (try simp only [List.map_toArray, List.map_cons, List.map_nil]); first | done | rfl | (simp only [List.length_drop, List.length_take]; rfl)) ?_; (with_reducible refine (code_Decode.calls _ _ l0 t382 t383 t384 t385 t388 t391 t392 t395 t396 t397 t400 _ ?side1 ?side2 A9.out).mono ?_); (case side1 => repeat (first | exact (Kd.C_below HR0.out HB.out) | (with_reducible refine Kd.C_alloc ?_ _) | (with_reducible refine Kd.C_drewN ?_ _) | (with_reducible refine Kd.C_drew ?_))); (case side2 => exact HC0.out); rintro e w37 ⟨v386, v389, v393, v398, rfl, ho0, ho1, ho2, ho3, hb⟩; refine ⟨_, rfl, ?_⟩; have n0_ := Aside0.mk (Kd.R_lower ho0 (below_size (by repeat (first | (with_reducible first | exact HB.out | apply below_alloc | apply pw_below_drewN | apply below_drew1) | exact HB.out)))); have n1_ := Aside0.mk (Kd.R_lower ho1 (below_size (by repeat (first | (with_reducible first | exact HB.out | apply below_alloc | apply pw_below_drewN | apply below_drew1) | exact HB.out)))); have n2_ := Aside0.mk (Kd.R_lower ho2 (below_size (by repeat (first | (with_reducible first | exact HB.out | apply below_alloc | apply pw_below_drewN | apply below_drew1) | exact HB.out)))); have n3_ := Aside0.mk (Kd.R_lower ho3 (below_size (by repeat (first | (with_reducible first | exact HB.out | apply below_alloc | apply pw_below_drewN | apply below_drew1) | exact HB.out)))); have n4_ := Aside0.mk (below_step (by repeat (first | (with_reducible first | exact HB.out | apply below_alloc | apply pw_below_drewN | apply below_drew1) | exact HB.out)) hb); clear HB; have HO387 := n0_; have HO390 := n1_; have HO394 := n2_; have HO399 := n3_; have HB := n4_; clear n0_ n1_ n2_ n3_ n4_; (try clear hb); (try clear hb2); (try clear hk); (try clear hi); (try clear ho0); (try clear ho1); (try clear ho2); (try clear ho3)) | ((with_reducible refine gate_dst (N := 3) rfl ?_); refine box_event ?hg (N := 3) ?hd (cs := #[.int .u8 0, .int .u32 0, .int .u32 0, .slice none 0 0, .slice none 0 0, .int .u32 0, .slice none 0 0, .int .i64 0, .int .i64 0, .slice none 0 0]) (t := 57) ?hr ?_; (case hd => rfl); (case hg => rfl); (case hr => first | (go_simp; done) | (go_simp; rfl)); intro gb401 hg w38 hbox hb; have n0_ := Aside0.mk (Kd.R_below (by (with_reducible repeat (first | apply Kd.R_alloc | apply Kd.R_drewN | apply Kd.R_drew)); exact HO387.out) hb); have n1_ := Aside0.mk (Kd.R_below (by (with_reducible repeat (first | apply Kd.R_alloc | apply Kd.R_drewN | apply Kd.R_drew)); exact HO390.out) hb); have n2_ := Aside0.mk (Kd.R_below (by (with_reducible repeat (first | apply Kd.R_alloc | apply Kd.R_drewN | apply Kd.R_drew)); exact HO394.out) hb); have n3_ := Aside0.mk (Kd.R_below (by (with_reducible repeat (first | apply Kd.R_alloc | apply Kd.R_drewN | apply Kd.R_drew)); exact HO399.out) hb); have n4_ := Aside0.mk (below_step (by repeat (first | (with_reducible first | exact HB.out | apply below_alloc | apply pw_below_drewN | apply below_drew1) | exact HB.out)) hb); have n5_ := Aside0.mk (hbox); have n6_ := Aside0.mk ((by rw [hg]; exact (below_size (by repeat (first | (with_reducible first | exact HB.out | apply below_alloc | apply pw_below_drewN | apply below_drew1) | exact HB.out))) : w.heap.size ≤ gb401)); have n7_ := Aside0.mk ((by rw [hg]; exact (below_size (by repeat (first | (with_reducible first | exact HB.out | apply below_alloc | apply pw_below_drewN | apply below_drew1) | exact HB.out))) : w.heap.size ≤ gb401)); clear HO387; clear HO390; clear HO394; clear HO399; clear HB; have HO387 := n0_; have HO390 := n1_; have HO394 := n2_; have HO399 := n3_; have HB := n4_; have BK401 := n5_; have GW401 := n6_; have GE401 := n7_; clear n0_ n1_ n2_ n3_ n4_ n5_ n6_ n7_; clear hb hbox hg; have hcz39_0 : w38.cell? ⟨gb401, 0, none⟩ = some (.int .u8 0) := (blk_cell BK401.out 0).trans rfl; have hcz39_1 : w38.cell? ⟨gb401, 1, none⟩ = some (.int .u32 0) := (blk_cell BK401.out 1).trans rfl; have hcz39_2 : w38.cell? ⟨gb401, 2, none⟩ = some (.int .u32 0) := (blk_cell BK401.out 2).trans rfl; have hcz39_3 : w38.cell? ⟨gb401, 3, none⟩ = some (.slice none 0 0) := (blk_cell BK401.out 3).trans rfl; have hcz39_4 : w38.cell? ⟨gb401, 4, none⟩ = some (.slice none 0 0) := (blk_cell BK401.out 4).trans rfl; have hcz39_5 : w38.cell? ⟨gb401, 5, none⟩ = some (.int .u32 0) := (blk_cell BK401.out 5).trans rfl; have hcz39_6 : w38.cell? ⟨gb401, 6, none⟩ = some (.slice none 0 0) := (blk_cell BK401.out 6).trans rfl; have hcz39_7 : w38.cell? ⟨gb401, 7, none⟩ = some (.int .i64 0) := (blk_cell BK401.out 7).trans rfl; have hcz39_8 : w38.cell? ⟨gb401, 8, none⟩ = some (.int .i64 0) := (blk_cell BK401.out 8).trans rfl; have hcz39_9 : w38.cell? ⟨gb401, 9, none⟩ = some (.slice none 0 0) := (blk_cell BK401.out 9).trans rfl; have hfz39_0 := blk_frozen BK401.out 0; have hfz39_1 := blk_frozen BK401.out 1; have hfz39_2 := blk_frozen BK401.out 2; have hfz39_3 := blk_frozen BK401.out 3; have hfz39_4 := blk_frozen BK401.out 4; have hfz39_5 := blk_frozen BK401.out 5; have hfz39_6 := blk_frozen BK401.out 6; have hfz39_7 := blk_frozen BK401.out 7; have hfz39_8 := blk_frozen BK401.out 8; have hfz39_9 := blk_frozen BK401.out 9; obtain ⟨Ao40, co40, eo40⟩ := Kd.R_slice HO387.out; subst eo40; obtain ⟨Ao41, co41, eo41⟩ := Kd.R_slice HO390.out; subst eo41; obtain ⟨Ao42, co42, eo42⟩ := Kd.R_slice HO394.out; subst eo42; obtain ⟨Ao43, co43, eo43⟩ := Kd.R_slice HO399.out; subst eo43) | ((with_reducible refine gate_callee (f := 39) rfl ?_); refine goesL_ (some 31) rfl rfl Tryd.func39 (by kernel_rfl) rfl #[.agg #[.int .u8 t382, .int .u32 t383, .int .u32 t384, .slice Ao40 t385.length co40, .slice Ao41 t388.length co41, .int .u32 t391, .slice Ao42 t392.length co42, .int .i64 t395, .int .i64 t396, .slice Ao43 t397.length co43]] rfl (by (try simp only [List.map_toArray, List.map_cons, List.map_nil]); first | done | rfl | (simp only [List.length_drop, List.length_take]; rfl)) ?_; (with_reducible refine (code_Encode.calls t382 t383 t384 _ _ t385 _ _ t388 t391 _ _ t392 t395 t396 _ _ t397 t402 t405 _ ?side1 ?side2 ?side3 ?side4 ?side5 ?side6 ?side7 ?side8 A11.out).mono ?_); (case side1 => refine (Kd.R_reads' (e := 3) (base := w.heap.size) (ok := fun k_ => True) (n := t385.length) (c := co40) ?_).2.2; exact (by (with_reducible repeat (first | apply Kd.R_alloc | apply Kd.R_drewN | apply Kd.R_drew)); exact (Kd.R_mono (Kd.R_far (p := ⟨gb401, 9, none⟩) (Kd.R_far (p := ⟨gb401, 8, none⟩) (Kd.R_far (p := ⟨gb401, 7, none⟩) (Kd.R_far (p := ⟨gb401, 6, none⟩) (Kd.R_far (p := ⟨gb401, 5, none⟩) (Kd.R_far (p := ⟨gb401, 4, none⟩) (Kd.R_far (p := ⟨gb401, 3, none⟩) (Kd.R_far (p := ⟨gb401, 2, none⟩) (Kd.R_far (p := ⟨gb401, 1, none⟩) (Kd.R_far (p := ⟨gb401, 0, none⟩) (Kd.R_types HO387.out BK401.out (by decide)) (fun _ hk => hk.2) (.int .u8 t382)) (fun _ hk => hk.2) (.int .u32 t383)) (fun _ hk => hk.2) (.int .u32 t384)) (fun _ hk => hk.2) (.slice Ao40 t385.length co40)) (fun _ hk => hk.2) (.slice Ao41 t388.length co41)) (fun _ hk => hk.2) (.int .u32 t391)) (fun _ hk => hk.2) (.slice Ao42 t392.length co42)) (fun _ hk => hk.2) (.int .i64 t395)) (fun _ hk => hk.2) (.int .i64 t396)) (fun _ hk => hk.2) (.slice Ao43 t397.length co43)) (fun _ h_ => h_.1)))); (case side2 => exact (Kd.R_reads' HO387.out).2.1); (case side3 => refine (Kd.R_reads' (e := 76) (base := w.heap.size) (ok := fun k_ => some k_ ≠ (.slice Ao40 t385.length co40 : Value).ownBlock) (n := t388.length) (c := co41) ?_).2.2; exact (by (with_reducible repeat (first | apply Kd.R_alloc | apply Kd.R_drewN | apply Kd.R_drew)); exact (Kd.R_mono (Kd.R_far (p := ⟨gb401, 9, none⟩) (Kd.R_far (p := ⟨gb401, 8, none⟩) (Kd.R_far (p := ⟨gb401, 7, none⟩) (Kd.R_far (p := ⟨gb401, 6, none⟩) (Kd.R_far (p := ⟨gb401, 5, none⟩) (Kd.R_far (p := ⟨gb401, 4, none⟩) (Kd.R_far (p := ⟨gb401, 3, none⟩) (Kd.R_far (p := ⟨gb401, 2, none⟩) (Kd.R_far (p := ⟨gb401, 1, none⟩) (Kd.R_far (p := ⟨gb401, 0, none⟩) (Kd.R_types HO390.out BK401.out (by decide)) (fun _ hk => hk.2) (.int .u8 t382)) (fun _ hk => hk.2) (.int .u32 t383)) (fun _ hk => hk.2) (.int .u32 t384)) (fun _ hk => hk.2) (.slice Ao40 t385.length co40)) (fun _ hk => hk.2) (.slice Ao41 t388.length co41)) (fun _ hk => hk.2) (.int .u32 t391)) (fun _ hk => hk.2) (.slice Ao42 t392.length co42)) (fun _ hk => hk.2) (.int .i64 t395)) (fun _ hk => hk.2) (.int .i64 t396)) (fun _ hk => hk.2) (.slice Ao43 t397.length co43)) (fun _ h_ => h_.1)))); (case side4 => exact (Kd.R_reads' HO390.out).2.1); (case side5 => refine (Kd.R_reads' (e := 132) (base := w.heap.size) (ok := fun k_ => True) (n := t392.length) (c := co42) ?_).2.2; exact (by (with_reducible repeat (first | apply Kd.R_alloc | apply Kd.R_drewN | apply Kd.R_drew)); exact (Kd.R_mono (Kd.R_far (p := ⟨gb401, 9, none⟩) (Kd.R_far (p := ⟨gb401, 8, none⟩) (Kd.R_far (p := ⟨gb401, 7, none⟩) (Kd.R_far (p := ⟨gb401, 6, none⟩) (Kd.R_far (p := ⟨gb401, 5, none⟩) (Kd.R_far (p := ⟨gb401, 4, none⟩) (Kd.R_far (p := ⟨gb401, 3, none⟩) (Kd.R_far (p := ⟨gb401, 2, none⟩) (Kd.R_far (p := ⟨gb401, 1, none⟩) (Kd.R_far (p := ⟨gb401, 0, none⟩) (Kd.R_types HO394.out BK401.out (by decide)) (fun _ hk => hk.2) (.int .u8 t382)) (fun _ hk => hk.2) (.int .u32 t383)) (fun _ hk => hk.2) (.int .u32 t384)) (fun _ hk => hk.2) (.slice Ao40 t385.length co40)) (fun _ hk => hk.2) (.slice Ao41 t388.length co41)) (fun _ hk => hk.2) (.int .u32 t391)) (fun _ hk => hk.2) (.slice Ao42 t392.length co42)) (fun _ hk => hk.2) (.int .i64 t395)) (fun _ hk => hk.2) (.int .i64 t396)) (fun _ hk => hk.2) (.slice Ao43 t397.length co43)) (fun _ h_ => h_.1)))); (case side6 => exact (Kd.R_reads' HO394.out).2.1); (case side7 => refine (Kd.R_reads' (e := 124) (base := w.heap.size) (ok := fun k_ => (some k_ ≠ (.slice Ao40 t385.length co40 : Value).ownBlock ∧ some k_ ≠ (.slice Ao41 t388.length co41 : Value).ownBlock)) (n := t397.length) (c := co43) ?_).2.2; exact (by (with_reducible repeat (first | apply Kd.R_alloc | apply Kd.R_drewN | apply Kd.R_drew)); exact (Kd.R_mono (Kd.R_far (p := ⟨gb401, 9, none⟩) (Kd.R_far (p := ⟨gb401, 8, none⟩) (Kd.R_far (p := ⟨gb401, 7, none⟩) (Kd.R_far (p := ⟨gb401, 6, none⟩) (Kd.R_far (p := ⟨gb401, 5, none⟩) (Kd.R_far (p := ⟨gb401, 4, none⟩) (Kd.R_far (p := ⟨gb401, 3, none⟩) (Kd.R_far (p := ⟨gb401, 2, none⟩) (Kd.R_far (p := ⟨gb401, 1, none⟩) (Kd.R_far (p := ⟨gb401, 0, none⟩) (Kd.R_types HO399.out BK401.out (by decide)) (fun _ hk => hk.2) (.int .u8 t382)) (fun _ hk => hk.2) (.int .u32 t383)) (fun _ hk => hk.2) (.int .u32 t384)) (fun _ hk => hk.2) (.slice Ao40 t385.length co40)) (fun _ hk => hk.2) (.slice Ao41 t388.length co41)) (fun _ hk => hk.2) (.int .u32 t391)) (fun _ hk => hk.2) (.slice Ao42 t392.length co42)) (fun _ hk => hk.2) (.int .i64 t395)) (fun _ hk => hk.2) (.int .i64 t396)) (fun _ hk => hk.2) (.slice Ao43 t397.length co43)) (fun _ h_ => h_.1)))); (case side8 => exact (Kd.R_reads' HO399.out).2.1); rintro e w44 ⟨v403, rfl, ho0, hb⟩; refine ⟨_, rfl, ?_⟩; have n0_ := Aside0.mk (Kd.R_below (by (with_reducible repeat (first | apply Kd.R_alloc | apply Kd.R_drewN | apply Kd.R_drew)); exact (Kd.R_mono (Kd.R_far (p := ⟨gb401, 9, none⟩) (Kd.R_far (p := ⟨gb401, 8, none⟩) (Kd.R_far (p := ⟨gb401, 7, none⟩) (Kd.R_far (p := ⟨gb401, 6, none⟩) (Kd.R_far (p := ⟨gb401, 5, none⟩) (Kd.R_far (p := ⟨gb401, 4, none⟩) (Kd.R_far (p := ⟨gb401, 3, none⟩) (Kd.R_far (p := ⟨gb401, 2, none⟩) (Kd.R_far (p := ⟨gb401, 1, none⟩) (Kd.R_far (p := ⟨gb401, 0, none⟩) (Kd.R_types HO387.out BK401.out (by decide)) (fun _ hk => hk.2) (.int .u8 t382)) (fun _ hk => hk.2) (.int .u32 t383)) (fun _ hk => hk.2) (.int .u32 t384)) (fun _ hk => hk.2) (.slice Ao40 t385.length co40)) (fun _ hk => hk.2) (.slice Ao41 t388.length co41)) (fun _ hk => hk.2) (.int .u32 t391)) (fun _ hk => hk.2) (.slice Ao42 t392.length co42)) (fun _ hk => hk.2) (.int .i64 t395)) (fun _ hk => hk.2) (.int .i64 t396)) (fun _ hk => hk.2) (.slice Ao43 t397.length co43)) (fun _ h_ => h_.1))) hb); have n1_ := Aside0.mk (Kd.R_below (by (with_reducible repeat (first | apply Kd.R_alloc | apply Kd.R_drewN | apply Kd.R_drew)); exact (Kd.R_mono (Kd.R_far (p := ⟨gb401, 9, none⟩) (Kd.R_far (p := ⟨gb401, 8, none⟩) (Kd.R_far (p := ⟨gb401, 7, none⟩) (Kd.R_far (p := ⟨gb401, 6, none⟩) (Kd.R_far (p := ⟨gb401, 5, none⟩) (Kd.R_far (p := ⟨gb401, 4, none⟩) (Kd.R_far (p := ⟨gb401, 3, none⟩) (Kd.R_far (p := ⟨gb401, 2, none⟩) (Kd.R_far (p := ⟨gb401, 1, none⟩) (Kd.R_far (p := ⟨gb401, 0, none⟩) (Kd.R_types HO390.out BK401.out (by decide)) (fun _ hk => hk.2) (.int .u8 t382)) (fun _ hk => hk.2) (.int .u32 t383)) (fun _ hk => hk.2) (.int .u32 t384)) (fun _ hk => hk.2) (.slice Ao40 t385.length co40)) (fun _ hk => hk.2) (.slice Ao41 t388.length co41)) (fun _ hk => hk.2) (.int .u32 t391)) (fun _ hk => hk.2) (.slice Ao42 t392.length co42)) (fun _ hk => hk.2) (.int .i64 t395)) (fun _ hk => hk.2) (.int .i64 t396)) (fun _ hk => hk.2) (.slice Ao43 t397.length co43)) (fun _ h_ => h_.1))) hb); have n2_ := Aside0.mk (Kd.R_below (by (with_reducible repeat (first | apply Kd.R_alloc | apply Kd.R_drewN | apply Kd.R_drew)); exact (Kd.R_mono (Kd.R_far (p := ⟨gb401, 9, none⟩) (Kd.R_far (p := ⟨gb401, 8, none⟩) (Kd.R_far (p := ⟨gb401, 7, none⟩) (Kd.R_far (p := ⟨gb401, 6, none⟩) (Kd.R_far (p := ⟨gb401, 5, none⟩) (Kd.R_far (p := ⟨gb401, 4, none⟩) (Kd.R_far (p := ⟨gb401, 3, none⟩) (Kd.R_far (p := ⟨gb401, 2, none⟩) (Kd.R_far (p := ⟨gb401, 1, none⟩) (Kd.R_far (p := ⟨gb401, 0, none⟩) (Kd.R_types HO394.out BK401.out (by decide)) (fun _ hk => hk.2) (.int .u8 t382)) (fun _ hk => hk.2) (.int .u32 t383)) (fun _ hk => hk.2) (.int .u32 t384)) (fun _ hk => hk.2) (.slice Ao40 t385.length co40)) (fun _ hk => hk.2) (.slice Ao41 t388.length co41)) (fun _ hk => hk.2) (.int .u32 t391)) (fun _ hk => hk.2) (.slice Ao42 t392.length co42)) (fun _ hk => hk.2) (.int .i64 t395)) (fun _ hk => hk.2) (.int .i64 t396)) (fun _ hk => hk.2) (.slice Ao43 t397.length co43)) (fun _ h_ => h_.1))) hb); have n3_ := Aside0.mk (Kd.R_below (by (with_reducible repeat (first | apply Kd.R_alloc | apply Kd.R_drewN | apply Kd.R_drew)); exact (Kd.R_mono (Kd.R_far (p := ⟨gb401, 9, none⟩) (Kd.R_far (p := ⟨gb401, 8, none⟩) (Kd.R_far (p := ⟨gb401, 7, none⟩) (Kd.R_far (p := ⟨gb401, 6, none⟩) (Kd.R_far (p := ⟨gb401, 5, none⟩) (Kd.R_far (p := ⟨gb401, 4, none⟩) (Kd.R_far (p := ⟨gb401, 3, none⟩) (Kd.R_far (p := ⟨gb401, 2, none⟩) (Kd.R_far (p := ⟨gb401, 1, none⟩) (Kd.R_far (p := ⟨gb401, 0, none⟩) (Kd.R_types HO399.out BK401.out (by decide)) (fun _ hk => hk.2) (.int .u8 t382)) (fun _ hk => hk.2) (.int .u32 t383)) (fun _ hk => hk.2) (.int .u32 t384)) (fun _ hk => hk.2) (.slice Ao40 t385.length co40)) (fun _ hk => hk.2) (.slice Ao41 t388.length co41)) (fun _ hk => hk.2) (.int .u32 t391)) (fun _ hk => hk.2) (.slice Ao42 t392.length co42)) (fun _ hk => hk.2) (.int .i64 t395)) (fun _ hk => hk.2) (.int .i64 t396)) (fun _ hk => hk.2) (.slice Ao43 t397.length co43)) (fun _ h_ => h_.1))) hb); have n4_ := Aside0.mk (Kd.R_lower ho0 (below_size (by repeat (first | (with_reducible first | exact HB.out | apply below_alloc | apply pw_below_drewN | apply below_drew1 | refine below_set ?_ GE401.out) | exact HB.out)))); have n5_ := Aside0.mk (blk_below (g := gb401) (o := .cells #[.int .u8 t382, .int .u32 t383, .int .u32 t384, .slice Ao40 t385.length co40, .slice Ao41 t388.length co41, .int .u32 t391, .slice Ao42 t392.length co42, .int .i64 t395, .int .i64 t396, .slice Ao43 t397.length co43] 57 (0, 0)) (by (with_reducible repeat (first | refine blk_drewN ?_ _ | refine blk_drew ?_ | refine blk_alloc ?_ _)); refine blk_put (cs := #[.int .u8 t382, .int .u32 t383, .int .u32 t384, .slice Ao40 t385.length co40, .slice Ao41 t388.length co41, .int .u32 t391, .slice Ao42 t392.length co42, .int .i64 t395, .int .i64 t396, .slice none 0 0]) ?_ 9 _ rfl; (with_reducible repeat (first | refine blk_drewN ?_ _ | refine blk_drew ?_ | refine blk_alloc ?_ _)); refine blk_put (cs := #[.int .u8 t382, .int .u32 t383, .int .u32 t384, .slice Ao40 t385.length co40, .slice Ao41 t388.length co41, .int .u32 t391, .slice Ao42 t392.length co42, .int .i64 t395, .int .i64 0, .slice none 0 0]) ?_ 8 _ rfl; (with_reducible repeat (first | refine blk_drewN ?_ _ | refine blk_drew ?_ | refine blk_alloc ?_ _)); refine blk_put (cs := #[.int .u8 t382, .int .u32 t383, .int .u32 t384, .slice Ao40 t385.length co40, .slice Ao41 t388.length co41, .int .u32 t391, .slice Ao42 t392.length co42, .int .i64 0, .int .i64 0, .slice none 0 0]) ?_ 7 _ rfl; (with_reducible repeat (first | refine blk_drewN ?_ _ | refine blk_drew ?_ | refine blk_alloc ?_ _)); refine blk_put (cs := #[.int .u8 t382, .int .u32 t383, .int .u32 t384, .slice Ao40 t385.length co40, .slice Ao41 t388.length co41, .int .u32 t391, .slice none 0 0, .int .i64 0, .int .i64 0, .slice none 0 0]) ?_ 6 _ rfl; (with_reducible repeat (first | refine blk_drewN ?_ _ | refine blk_drew ?_ | refine blk_alloc ?_ _)); refine blk_put (cs := #[.int .u8 t382, .int .u32 t383, .int .u32 t384, .slice Ao40 t385.length co40, .slice Ao41 t388.length co41, .int .u32 0, .slice none 0 0, .int .i64 0, .int .i64 0, .slice none 0 0]) ?_ 5 _ rfl; (with_reducible repeat (first | refine blk_drewN ?_ _ | refine blk_drew ?_ | refine blk_alloc ?_ _)); refine blk_put (cs := #[.int .u8 t382, .int .u32 t383, .int .u32 t384, .slice Ao40 t385.length co40, .slice none 0 0, .int .u32 0, .slice none 0 0, .int .i64 0, .int .i64 0, .slice none 0 0]) ?_ 4 _ rfl; (with_reducible repeat (first | refine blk_drewN ?_ _ | refine blk_drew ?_ | refine blk_alloc ?_ _)); refine blk_put (cs := #[.int .u8 t382, .int .u32 t383, .int .u32 t384, .slice none 0 0, .slice none 0 0, .int .u32 0, .slice none 0 0, .int .i64 0, .int .i64 0, .slice none 0 0]) ?_ 3 _ rfl; (with_reducible repeat (first | refine blk_drewN ?_ _ | refine blk_drew ?_ | refine blk_alloc ?_ _)); refine blk_put (cs := #[.int .u8 t382, .int .u32 t383, .int .u32 0, .slice none 0 0, .slice none 0 0, .int .u32 0, .slice none 0 0, .int .i64 0, .int .i64 0, .slice none 0 0]) ?_ 2 _ rfl; (with_reducible repeat (first | refine blk_drewN ?_ _ | refine blk_drew ?_ | refine blk_alloc ?_ _)); refine blk_put (cs := #[.int .u8 t382, .int .u32 0, .int .u32 0, .slice none 0 0, .slice none 0 0, .int .u32 0, .slice none 0 0, .int .i64 0, .int .i64 0, .slice none 0 0]) ?_ 1 _ rfl; (with_reducible repeat (first | refine blk_drewN ?_ _ | refine blk_drew ?_ | refine blk_alloc ?_ _)); refine blk_put (cs := #[.int .u8 0, .int .u32 0, .int .u32 0, .slice none 0 0, .slice none 0 0, .int .u32 0, .slice none 0 0, .int .i64 0, .int .i64 0, .slice none 0 0]) ?_ 0 _ rfl; (with_reducible repeat (first | refine blk_drewN ?_ _ | refine blk_drew ?_ | refine blk_alloc ?_ _)); exact BK401.out) hb); have n6_ := Aside0.mk (below_step (by repeat (first | (with_reducible first | exact HB.out | apply below_alloc | apply pw_below_drewN | apply below_drew1 | refine below_set ?_ GE401.out) | exact HB.out)) hb); clear HO387; clear HO390; clear HO394; clear HO399; clear BK401; clear HB; have HO387 := n0_; have HO390 := n1_; have HO394 := n2_; have HO399 := n3_; have HO404 := n4_; have BK401 := n5_; have HB := n6_; clear n0_ n1_ n2_ n3_ n4_ n5_ n6_; (try clear hb); (try clear hb2); (try clear hk); (try clear hi); (try clear ho0)))
            go_ret
            exact ⟨by first | rfl | (simp [errW_none, errW_some] <;> rfl) | (simp [*, errW_none, errW_some] <;> rfl), by repeat (first | (with_reducible first | exact HB.out | apply below_alloc | apply pw_below_drewN | apply below_drew1 | refine below_set ?_ GE401.out) | exact HB.out)⟩
        · rw [if_neg c10] at H
          have c10b0 : (t400 == 0) = false := beq_eq_false_iff_ne.mpr c10
          have c10b1 : (t400 != 0) = true := bne_iff_ne.mpr c10
          by_cases c45 : t400 = 70
          · rw [if_pos c45] at H
            have c45b0 : (t400 == 70) = true := beq_iff_eq.mpr c45
            have c45b1 : (t400 != 70) = false := bne_eq_false_iff_eq.mpr c45
            clear c45
            replace H := Option.bind_eq_some_iff.mp H
            obtain ⟨t407, A460, H⟩ := H
            replace H : (some t407) = some r := H
            have A46 := Aside0.mk A460
            clear A460
            obtain rfl := Option.some.inj H
            go_wp2_with (first | ((with_reducible refine gate_callee (f := 44) rfl ?_); refine goesL_ (some 17) rfl rfl Tryd.func44 (by kernel_rfl) rfl #[.slice A0 l0.length c0] rfl (by (try simp only [List.map_toArray, List.map_cons, List.map_nil]); first | done | rfl | (simp only [List.length_drop, List.length_take]; rfl)) ?_; (with_reducible refine (code_Decode.calls _ _ l0 t382 t383 t384 t385 t388 t391 t392 t395 t396 t397 t400 _ ?side1 ?side2 A9.out).mono ?_); (case side1 => repeat (first | exact (Kd.C_below HR0.out HB.out) | (with_reducible refine Kd.C_alloc ?_ _) | (with_reducible refine Kd.C_drewN ?_ _) | (with_reducible refine Kd.C_drew ?_))); (case side2 => exact HC0.out); rintro e w47 ⟨v386, v389, v393, v398, rfl, ho0, ho1, ho2, ho3, hb⟩; refine ⟨_, rfl, ?_⟩; have n0_ := Aside0.mk (Kd.R_lower ho0 (below_size (by repeat (first | (with_reducible first | exact HB.out | apply below_alloc | apply pw_below_drewN | apply below_drew1) | exact HB.out)))); have n1_ := Aside0.mk (Kd.R_lower ho1 (below_size (by repeat (first | (with_reducible first | exact HB.out | apply below_alloc | apply pw_below_drewN | apply below_drew1) | exact HB.out)))); have n2_ := Aside0.mk (Kd.R_lower ho2 (below_size (by repeat (first | (with_reducible first | exact HB.out | apply below_alloc | apply pw_below_drewN | apply below_drew1) | exact HB.out)))); have n3_ := Aside0.mk (Kd.R_lower ho3 (below_size (by repeat (first | (with_reducible first | exact HB.out | apply below_alloc | apply pw_below_drewN | apply below_drew1) | exact HB.out)))); have n4_ := Aside0.mk (below_step (by repeat (first | (with_reducible first | exact HB.out | apply below_alloc | apply pw_below_drewN | apply below_drew1) | exact HB.out)) hb); clear HB; have HO387 := n0_; have HO390 := n1_; have HO394 := n2_; have HO399 := n3_; have HB := n4_; clear n0_ n1_ n2_ n3_ n4_; (try clear hb); (try clear hb2); (try clear hk); (try clear hi); (try clear ho0); (try clear ho1); (try clear ho2); (try clear ho3)) | ((with_reducible refine gate_dst (N := 3) rfl ?_); refine box_event ?hg (N := 3) ?hd (cs := #[.int .u8 0, .int .u32 0, .int .u32 0, .slice none 0 0, .slice none 0 0, .int .u32 0, .slice none 0 0, .int .i64 0, .int .i64 0, .slice none 0 0]) (t := 57) ?hr ?_; (case hd => rfl); (case hg => rfl); (case hr => first | (go_simp; done) | (go_simp; rfl)); intro gb401 hg w48 hbox hb; have n0_ := Aside0.mk (Kd.R_below (by (with_reducible repeat (first | apply Kd.R_alloc | apply Kd.R_drewN | apply Kd.R_drew)); exact HO387.out) hb); have n1_ := Aside0.mk (Kd.R_below (by (with_reducible repeat (first | apply Kd.R_alloc | apply Kd.R_drewN | apply Kd.R_drew)); exact HO390.out) hb); have n2_ := Aside0.mk (Kd.R_below (by (with_reducible repeat (first | apply Kd.R_alloc | apply Kd.R_drewN | apply Kd.R_drew)); exact HO394.out) hb); have n3_ := Aside0.mk (Kd.R_below (by (with_reducible repeat (first | apply Kd.R_alloc | apply Kd.R_drewN | apply Kd.R_drew)); exact HO399.out) hb); have n4_ := Aside0.mk (below_step (by repeat (first | (with_reducible first | exact HB.out | apply below_alloc | apply pw_below_drewN | apply below_drew1) | exact HB.out)) hb); have n5_ := Aside0.mk (hbox); have n6_ := Aside0.mk ((by rw [hg]; exact (below_size (by repeat (first | (with_reducible first | exact HB.out | apply below_alloc | apply pw_below_drewN | apply below_drew1) | exact HB.out))) : w.heap.size ≤ gb401)); have n7_ := Aside0.mk ((by rw [hg]; exact (below_size (by repeat (first | (with_reducible first | exact HB.out | apply below_alloc | apply pw_below_drewN | apply below_drew1) | exact HB.out))) : w.heap.size ≤ gb401)); clear HO387; clear HO390; clear HO394; clear HO399; clear HB; have HO387 := n0_; have HO390 := n1_; have HO394 := n2_; have HO399 := n3_; have HB := n4_; have BK401 := n5_; have GW401 := n6_; have GE401 := n7_; clear n0_ n1_ n2_ n3_ n4_ n5_ n6_ n7_; clear hb hbox hg; have hcz49_0 : w48.cell? ⟨gb401, 0, none⟩ = some (.int .u8 0) := (blk_cell BK401.out 0).trans rfl; have hcz49_1 : w48.cell? ⟨gb401, 1, none⟩ = some (.int .u32 0) := (blk_cell BK401.out 1).trans rfl; have hcz49_2 : w48.cell? ⟨gb401, 2, none⟩ = some (.int .u32 0) := (blk_cell BK401.out 2).trans rfl; have hcz49_3 : w48.cell? ⟨gb401, 3, none⟩ = some (.slice none 0 0) := (blk_cell BK401.out 3).trans rfl; have hcz49_4 : w48.cell? ⟨gb401, 4, none⟩ = some (.slice none 0 0) := (blk_cell BK401.out 4).trans rfl; have hcz49_5 : w48.cell? ⟨gb401, 5, none⟩ = some (.int .u32 0) := (blk_cell BK401.out 5).trans rfl; have hcz49_6 : w48.cell? ⟨gb401, 6, none⟩ = some (.slice none 0 0) := (blk_cell BK401.out 6).trans rfl; have hcz49_7 : w48.cell? ⟨gb401, 7, none⟩ = some (.int .i64 0) := (blk_cell BK401.out 7).trans rfl; have hcz49_8 : w48.cell? ⟨gb401, 8, none⟩ = some (.int .i64 0) := (blk_cell BK401.out 8).trans rfl; have hcz49_9 : w48.cell? ⟨gb401, 9, none⟩ = some (.slice none 0 0) := (blk_cell BK401.out 9).trans rfl; have hfz49_0 := blk_frozen BK401.out 0; have hfz49_1 := blk_frozen BK401.out 1; have hfz49_2 := blk_frozen BK401.out 2; have hfz49_3 := blk_frozen BK401.out 3; have hfz49_4 := blk_frozen BK401.out 4; have hfz49_5 := blk_frozen BK401.out 5; have hfz49_6 := blk_frozen BK401.out 6; have hfz49_7 := blk_frozen BK401.out 7; have hfz49_8 := blk_frozen BK401.out 8; have hfz49_9 := blk_frozen BK401.out 9; obtain ⟨Ao50, co50, eo50⟩ := Kd.R_slice HO387.out; subst eo50; obtain ⟨Ao51, co51, eo51⟩ := Kd.R_slice HO390.out; subst eo51; obtain ⟨Ao52, co52, eo52⟩ := Kd.R_slice HO394.out; subst eo52; obtain ⟨Ao53, co53, eo53⟩ := Kd.R_slice HO399.out; subst eo53) | (go_at_call 45; (refine (stratumref07_Same.calls kj1 t382 t383 t384 _ _ t385 _ _ t388 t391 _ _ t392 t395 t396 _ _ t397 0 0 0 _ _ ([] : List Int) _ _ ([] : List (S76)) 0 _ _ ([] : List (S132)) 0 0 _ _ ([] : List (S124)) t407 _ ?side1 ?side2 ?side3 ?side4 ?side5 ?side6 ?side7 ?side8 ?side9 ?side10 ?side11 ?side12 ?side13 ?side14 ?side15 ?side16 A46.out).mono ?_); (case side1 => refine (Kd.R_reads' (e := 3) (base := w.heap.size) (ok := fun k_ => True) (n := t385.length) (c := co50) ?_).2.2; exact (by (with_reducible repeat (first | apply Kd.R_alloc | apply Kd.R_drewN | apply Kd.R_drew)); exact (Kd.R_mono (Kd.R_far (p := ⟨gb401, 9, none⟩) (Kd.R_far (p := ⟨gb401, 8, none⟩) (Kd.R_far (p := ⟨gb401, 7, none⟩) (Kd.R_far (p := ⟨gb401, 6, none⟩) (Kd.R_far (p := ⟨gb401, 5, none⟩) (Kd.R_far (p := ⟨gb401, 4, none⟩) (Kd.R_far (p := ⟨gb401, 3, none⟩) (Kd.R_far (p := ⟨gb401, 2, none⟩) (Kd.R_far (p := ⟨gb401, 1, none⟩) (Kd.R_far (p := ⟨gb401, 0, none⟩) (Kd.R_types HO387.out BK401.out (by decide)) (fun _ hk => hk.2) (.int .u8 t382)) (fun _ hk => hk.2) (.int .u32 t383)) (fun _ hk => hk.2) (.int .u32 t384)) (fun _ hk => hk.2) (.slice Ao50 t385.length co50)) (fun _ hk => hk.2) (.slice Ao51 t388.length co51)) (fun _ hk => hk.2) (.int .u32 t391)) (fun _ hk => hk.2) (.slice Ao52 t392.length co52)) (fun _ hk => hk.2) (.int .i64 t395)) (fun _ hk => hk.2) (.int .i64 t396)) (fun _ hk => hk.2) (.slice Ao53 t397.length co53)) (fun _ h_ => h_.1)))); (case side2 => exact (Kd.R_reads' HO387.out).2.1); (case side3 => refine (Kd.R_reads' (e := 76) (base := w.heap.size) (ok := fun k_ => some k_ ≠ (.slice Ao50 t385.length co50 : Value).ownBlock) (n := t388.length) (c := co51) ?_).2.2; exact (by (with_reducible repeat (first | apply Kd.R_alloc | apply Kd.R_drewN | apply Kd.R_drew)); exact (Kd.R_mono (Kd.R_far (p := ⟨gb401, 9, none⟩) (Kd.R_far (p := ⟨gb401, 8, none⟩) (Kd.R_far (p := ⟨gb401, 7, none⟩) (Kd.R_far (p := ⟨gb401, 6, none⟩) (Kd.R_far (p := ⟨gb401, 5, none⟩) (Kd.R_far (p := ⟨gb401, 4, none⟩) (Kd.R_far (p := ⟨gb401, 3, none⟩) (Kd.R_far (p := ⟨gb401, 2, none⟩) (Kd.R_far (p := ⟨gb401, 1, none⟩) (Kd.R_far (p := ⟨gb401, 0, none⟩) (Kd.R_types HO390.out BK401.out (by decide)) (fun _ hk => hk.2) (.int .u8 t382)) (fun _ hk => hk.2) (.int .u32 t383)) (fun _ hk => hk.2) (.int .u32 t384)) (fun _ hk => hk.2) (.slice Ao50 t385.length co50)) (fun _ hk => hk.2) (.slice Ao51 t388.length co51)) (fun _ hk => hk.2) (.int .u32 t391)) (fun _ hk => hk.2) (.slice Ao52 t392.length co52)) (fun _ hk => hk.2) (.int .i64 t395)) (fun _ hk => hk.2) (.int .i64 t396)) (fun _ hk => hk.2) (.slice Ao53 t397.length co53)) (fun _ h_ => h_.1)))); (case side4 => exact (Kd.R_reads' HO390.out).2.1); (case side5 => refine (Kd.R_reads' (e := 132) (base := w.heap.size) (ok := fun k_ => True) (n := t392.length) (c := co52) ?_).2.2; exact (by (with_reducible repeat (first | apply Kd.R_alloc | apply Kd.R_drewN | apply Kd.R_drew)); exact (Kd.R_mono (Kd.R_far (p := ⟨gb401, 9, none⟩) (Kd.R_far (p := ⟨gb401, 8, none⟩) (Kd.R_far (p := ⟨gb401, 7, none⟩) (Kd.R_far (p := ⟨gb401, 6, none⟩) (Kd.R_far (p := ⟨gb401, 5, none⟩) (Kd.R_far (p := ⟨gb401, 4, none⟩) (Kd.R_far (p := ⟨gb401, 3, none⟩) (Kd.R_far (p := ⟨gb401, 2, none⟩) (Kd.R_far (p := ⟨gb401, 1, none⟩) (Kd.R_far (p := ⟨gb401, 0, none⟩) (Kd.R_types HO394.out BK401.out (by decide)) (fun _ hk => hk.2) (.int .u8 t382)) (fun _ hk => hk.2) (.int .u32 t383)) (fun _ hk => hk.2) (.int .u32 t384)) (fun _ hk => hk.2) (.slice Ao50 t385.length co50)) (fun _ hk => hk.2) (.slice Ao51 t388.length co51)) (fun _ hk => hk.2) (.int .u32 t391)) (fun _ hk => hk.2) (.slice Ao52 t392.length co52)) (fun _ hk => hk.2) (.int .i64 t395)) (fun _ hk => hk.2) (.int .i64 t396)) (fun _ hk => hk.2) (.slice Ao53 t397.length co53)) (fun _ h_ => h_.1)))); (case side6 => exact (Kd.R_reads' HO394.out).2.1); (case side7 => refine (Kd.R_reads' (e := 124) (base := w.heap.size) (ok := fun k_ => (some k_ ≠ (.slice Ao50 t385.length co50 : Value).ownBlock ∧ some k_ ≠ (.slice Ao51 t388.length co51 : Value).ownBlock)) (n := t397.length) (c := co53) ?_).2.2; exact (by (with_reducible repeat (first | apply Kd.R_alloc | apply Kd.R_drewN | apply Kd.R_drew)); exact (Kd.R_mono (Kd.R_far (p := ⟨gb401, 9, none⟩) (Kd.R_far (p := ⟨gb401, 8, none⟩) (Kd.R_far (p := ⟨gb401, 7, none⟩) (Kd.R_far (p := ⟨gb401, 6, none⟩) (Kd.R_far (p := ⟨gb401, 5, none⟩) (Kd.R_far (p := ⟨gb401, 4, none⟩) (Kd.R_far (p := ⟨gb401, 3, none⟩) (Kd.R_far (p := ⟨gb401, 2, none⟩) (Kd.R_far (p := ⟨gb401, 1, none⟩) (Kd.R_far (p := ⟨gb401, 0, none⟩) (Kd.R_types HO399.out BK401.out (by decide)) (fun _ hk => hk.2) (.int .u8 t382)) (fun _ hk => hk.2) (.int .u32 t383)) (fun _ hk => hk.2) (.int .u32 t384)) (fun _ hk => hk.2) (.slice Ao50 t385.length co50)) (fun _ hk => hk.2) (.slice Ao51 t388.length co51)) (fun _ hk => hk.2) (.int .u32 t391)) (fun _ hk => hk.2) (.slice Ao52 t392.length co52)) (fun _ hk => hk.2) (.int .i64 t395)) (fun _ hk => hk.2) (.int .i64 t396)) (fun _ hk => hk.2) (.slice Ao53 t397.length co53)) (fun _ h_ => h_.1)))); (case side8 => exact (Kd.R_reads' HO399.out).2.1); (case side9 => exact Kd.C_nil _ _); (case side10 => exact Nat.le_refl _); (case side11 => exact Kd.C_nil _ _); (case side12 => exact Nat.le_refl _); (case side13 => exact Kd.C_nil _ _); (case side14 => exact Nat.le_refl _); (case side15 => exact Kd.C_nil _ _); (case side16 => exact Nat.le_refl _); rintro e w54 ⟨rfl, hb⟩; have n0_ := Aside0.mk (Kd.R_below (by (with_reducible repeat (first | apply Kd.R_alloc | apply Kd.R_drewN | apply Kd.R_drew)); exact (Kd.R_mono (Kd.R_far (p := ⟨gb401, 9, none⟩) (Kd.R_far (p := ⟨gb401, 8, none⟩) (Kd.R_far (p := ⟨gb401, 7, none⟩) (Kd.R_far (p := ⟨gb401, 6, none⟩) (Kd.R_far (p := ⟨gb401, 5, none⟩) (Kd.R_far (p := ⟨gb401, 4, none⟩) (Kd.R_far (p := ⟨gb401, 3, none⟩) (Kd.R_far (p := ⟨gb401, 2, none⟩) (Kd.R_far (p := ⟨gb401, 1, none⟩) (Kd.R_far (p := ⟨gb401, 0, none⟩) (Kd.R_types HO387.out BK401.out (by decide)) (fun _ hk => hk.2) (.int .u8 t382)) (fun _ hk => hk.2) (.int .u32 t383)) (fun _ hk => hk.2) (.int .u32 t384)) (fun _ hk => hk.2) (.slice Ao50 t385.length co50)) (fun _ hk => hk.2) (.slice Ao51 t388.length co51)) (fun _ hk => hk.2) (.int .u32 t391)) (fun _ hk => hk.2) (.slice Ao52 t392.length co52)) (fun _ hk => hk.2) (.int .i64 t395)) (fun _ hk => hk.2) (.int .i64 t396)) (fun _ hk => hk.2) (.slice Ao53 t397.length co53)) (fun _ h_ => h_.1))) hb); have n1_ := Aside0.mk (Kd.R_below (by (with_reducible repeat (first | apply Kd.R_alloc | apply Kd.R_drewN | apply Kd.R_drew)); exact (Kd.R_mono (Kd.R_far (p := ⟨gb401, 9, none⟩) (Kd.R_far (p := ⟨gb401, 8, none⟩) (Kd.R_far (p := ⟨gb401, 7, none⟩) (Kd.R_far (p := ⟨gb401, 6, none⟩) (Kd.R_far (p := ⟨gb401, 5, none⟩) (Kd.R_far (p := ⟨gb401, 4, none⟩) (Kd.R_far (p := ⟨gb401, 3, none⟩) (Kd.R_far (p := ⟨gb401, 2, none⟩) (Kd.R_far (p := ⟨gb401, 1, none⟩) (Kd.R_far (p := ⟨gb401, 0, none⟩) (Kd.R_types HO390.out BK401.out (by decide)) (fun _ hk => hk.2) (.int .u8 t382)) (fun _ hk => hk.2) (.int .u32 t383)) (fun _ hk => hk.2) (.int .u32 t384)) (fun _ hk => hk.2) (.slice Ao50 t385.length co50)) (fun _ hk => hk.2) (.slice Ao51 t388.length co51)) (fun _ hk => hk.2) (.int .u32 t391)) (fun _ hk => hk.2) (.slice Ao52 t392.length co52)) (fun _ hk => hk.2) (.int .i64 t395)) (fun _ hk => hk.2) (.int .i64 t396)) (fun _ hk => hk.2) (.slice Ao53 t397.length co53)) (fun _ h_ => h_.1))) hb); have n2_ := Aside0.mk (Kd.R_below (by (with_reducible repeat (first | apply Kd.R_alloc | apply Kd.R_drewN | apply Kd.R_drew)); exact (Kd.R_mono (Kd.R_far (p := ⟨gb401, 9, none⟩) (Kd.R_far (p := ⟨gb401, 8, none⟩) (Kd.R_far (p := ⟨gb401, 7, none⟩) (Kd.R_far (p := ⟨gb401, 6, none⟩) (Kd.R_far (p := ⟨gb401, 5, none⟩) (Kd.R_far (p := ⟨gb401, 4, none⟩) (Kd.R_far (p := ⟨gb401, 3, none⟩) (Kd.R_far (p := ⟨gb401, 2, none⟩) (Kd.R_far (p := ⟨gb401, 1, none⟩) (Kd.R_far (p := ⟨gb401, 0, none⟩) (Kd.R_types HO394.out BK401.out (by decide)) (fun _ hk => hk.2) (.int .u8 t382)) (fun _ hk => hk.2) (.int .u32 t383)) (fun _ hk => hk.2) (.int .u32 t384)) (fun _ hk => hk.2) (.slice Ao50 t385.length co50)) (fun _ hk => hk.2) (.slice Ao51 t388.length co51)) (fun _ hk => hk.2) (.int .u32 t391)) (fun _ hk => hk.2) (.slice Ao52 t392.length co52)) (fun _ hk => hk.2) (.int .i64 t395)) (fun _ hk => hk.2) (.int .i64 t396)) (fun _ hk => hk.2) (.slice Ao53 t397.length co53)) (fun _ h_ => h_.1))) hb); have n3_ := Aside0.mk (Kd.R_below (by (with_reducible repeat (first | apply Kd.R_alloc | apply Kd.R_drewN | apply Kd.R_drew)); exact (Kd.R_mono (Kd.R_far (p := ⟨gb401, 9, none⟩) (Kd.R_far (p := ⟨gb401, 8, none⟩) (Kd.R_far (p := ⟨gb401, 7, none⟩) (Kd.R_far (p := ⟨gb401, 6, none⟩) (Kd.R_far (p := ⟨gb401, 5, none⟩) (Kd.R_far (p := ⟨gb401, 4, none⟩) (Kd.R_far (p := ⟨gb401, 3, none⟩) (Kd.R_far (p := ⟨gb401, 2, none⟩) (Kd.R_far (p := ⟨gb401, 1, none⟩) (Kd.R_far (p := ⟨gb401, 0, none⟩) (Kd.R_types HO399.out BK401.out (by decide)) (fun _ hk => hk.2) (.int .u8 t382)) (fun _ hk => hk.2) (.int .u32 t383)) (fun _ hk => hk.2) (.int .u32 t384)) (fun _ hk => hk.2) (.slice Ao50 t385.length co50)) (fun _ hk => hk.2) (.slice Ao51 t388.length co51)) (fun _ hk => hk.2) (.int .u32 t391)) (fun _ hk => hk.2) (.slice Ao52 t392.length co52)) (fun _ hk => hk.2) (.int .i64 t395)) (fun _ hk => hk.2) (.int .i64 t396)) (fun _ hk => hk.2) (.slice Ao53 t397.length co53)) (fun _ h_ => h_.1))) hb); have n4_ := Aside0.mk (blk_below (g := gb401) (o := .cells #[.int .u8 t382, .int .u32 t383, .int .u32 t384, .slice Ao50 t385.length co50, .slice Ao51 t388.length co51, .int .u32 t391, .slice Ao52 t392.length co52, .int .i64 t395, .int .i64 t396, .slice Ao53 t397.length co53] 57 (0, 0)) (by (with_reducible repeat (first | refine blk_drewN ?_ _ | refine blk_drew ?_ | refine blk_alloc ?_ _)); refine blk_put (cs := #[.int .u8 t382, .int .u32 t383, .int .u32 t384, .slice Ao50 t385.length co50, .slice Ao51 t388.length co51, .int .u32 t391, .slice Ao52 t392.length co52, .int .i64 t395, .int .i64 t396, .slice none 0 0]) ?_ 9 _ rfl; (with_reducible repeat (first | refine blk_drewN ?_ _ | refine blk_drew ?_ | refine blk_alloc ?_ _)); refine blk_put (cs := #[.int .u8 t382, .int .u32 t383, .int .u32 t384, .slice Ao50 t385.length co50, .slice Ao51 t388.length co51, .int .u32 t391, .slice Ao52 t392.length co52, .int .i64 t395, .int .i64 0, .slice none 0 0]) ?_ 8 _ rfl; (with_reducible repeat (first | refine blk_drewN ?_ _ | refine blk_drew ?_ | refine blk_alloc ?_ _)); refine blk_put (cs := #[.int .u8 t382, .int .u32 t383, .int .u32 t384, .slice Ao50 t385.length co50, .slice Ao51 t388.length co51, .int .u32 t391, .slice Ao52 t392.length co52, .int .i64 0, .int .i64 0, .slice none 0 0]) ?_ 7 _ rfl; (with_reducible repeat (first | refine blk_drewN ?_ _ | refine blk_drew ?_ | refine blk_alloc ?_ _)); refine blk_put (cs := #[.int .u8 t382, .int .u32 t383, .int .u32 t384, .slice Ao50 t385.length co50, .slice Ao51 t388.length co51, .int .u32 t391, .slice none 0 0, .int .i64 0, .int .i64 0, .slice none 0 0]) ?_ 6 _ rfl; (with_reducible repeat (first | refine blk_drewN ?_ _ | refine blk_drew ?_ | refine blk_alloc ?_ _)); refine blk_put (cs := #[.int .u8 t382, .int .u32 t383, .int .u32 t384, .slice Ao50 t385.length co50, .slice Ao51 t388.length co51, .int .u32 0, .slice none 0 0, .int .i64 0, .int .i64 0, .slice none 0 0]) ?_ 5 _ rfl; (with_reducible repeat (first | refine blk_drewN ?_ _ | refine blk_drew ?_ | refine blk_alloc ?_ _)); refine blk_put (cs := #[.int .u8 t382, .int .u32 t383, .int .u32 t384, .slice Ao50 t385.length co50, .slice none 0 0, .int .u32 0, .slice none 0 0, .int .i64 0, .int .i64 0, .slice none 0 0]) ?_ 4 _ rfl; (with_reducible repeat (first | refine blk_drewN ?_ _ | refine blk_drew ?_ | refine blk_alloc ?_ _)); refine blk_put (cs := #[.int .u8 t382, .int .u32 t383, .int .u32 t384, .slice none 0 0, .slice none 0 0, .int .u32 0, .slice none 0 0, .int .i64 0, .int .i64 0, .slice none 0 0]) ?_ 3 _ rfl; (with_reducible repeat (first | refine blk_drewN ?_ _ | refine blk_drew ?_ | refine blk_alloc ?_ _)); refine blk_put (cs := #[.int .u8 t382, .int .u32 t383, .int .u32 0, .slice none 0 0, .slice none 0 0, .int .u32 0, .slice none 0 0, .int .i64 0, .int .i64 0, .slice none 0 0]) ?_ 2 _ rfl; (with_reducible repeat (first | refine blk_drewN ?_ _ | refine blk_drew ?_ | refine blk_alloc ?_ _)); refine blk_put (cs := #[.int .u8 t382, .int .u32 0, .int .u32 0, .slice none 0 0, .slice none 0 0, .int .u32 0, .slice none 0 0, .int .i64 0, .int .i64 0, .slice none 0 0]) ?_ 1 _ rfl; (with_reducible repeat (first | refine blk_drewN ?_ _ | refine blk_drew ?_ | refine blk_alloc ?_ _)); refine blk_put (cs := #[.int .u8 0, .int .u32 0, .int .u32 0, .slice none 0 0, .slice none 0 0, .int .u32 0, .slice none 0 0, .int .i64 0, .int .i64 0, .slice none 0 0]) ?_ 0 _ rfl; (with_reducible repeat (first | refine blk_drewN ?_ _ | refine blk_drew ?_ | refine blk_alloc ?_ _)); exact BK401.out) hb); have n5_ := Aside0.mk (below_step (by repeat (first | (with_reducible first | exact HB.out | apply below_alloc | apply pw_below_drewN | apply below_drew1 | refine below_set ?_ GE401.out) | exact HB.out)) hb); clear HO387; clear HO390; clear HO394; clear HO399; clear BK401; clear HB; have HO387 := n0_; have HO390 := n1_; have HO394 := n2_; have HO399 := n3_; have BK401 := n4_; have HB := n5_; clear n0_ n1_ n2_ n3_ n4_ n5_; (try clear hb); (try clear hb2); (try clear hk); (try clear hi)))
            go_ret
            exact ⟨by first | rfl | (simp [errW_none, errW_some] <;> rfl) | (simp [*, errW_none, errW_some] <;> rfl), by repeat (first | (with_reducible first | exact HB.out | apply below_alloc | apply pw_below_drewN | apply below_drew1 | refine below_set ?_ GE401.out) | exact HB.out)⟩
          · rw [if_neg c45] at H
            have c45b0 : (t400 == 70) = false := beq_eq_false_iff_ne.mpr c45
            have c45b1 : (t400 != 70) = true := bne_iff_ne.mpr c45
            obtain rfl := Option.some.inj H
            go_wp2_with (first | ((with_reducible refine gate_callee (f := 44) rfl ?_); refine goesL_ (some 17) rfl rfl Tryd.func44 (by kernel_rfl) rfl #[.slice A0 l0.length c0] rfl (by (try simp only [List.map_toArray, List.map_cons, List.map_nil]); first | done | rfl | (simp only [List.length_drop, List.length_take]; rfl)) ?_; (with_reducible refine (code_Decode.calls _ _ l0 t382 t383 t384 t385 t388 t391 t392 t395 t396 t397 t400 _ ?side1 ?side2 A9.out).mono ?_); (case side1 => repeat (first | exact (Kd.C_below HR0.out HB.out) | (with_reducible refine Kd.C_alloc ?_ _) | (with_reducible refine Kd.C_drewN ?_ _) | (with_reducible refine Kd.C_drew ?_))); (case side2 => exact HC0.out); rintro e w55 ⟨v386, v389, v393, v398, rfl, ho0, ho1, ho2, ho3, hb⟩; refine ⟨_, rfl, ?_⟩; have n0_ := Aside0.mk (Kd.R_lower ho0 (below_size (by repeat (first | (with_reducible first | exact HB.out | apply below_alloc | apply pw_below_drewN | apply below_drew1) | exact HB.out)))); have n1_ := Aside0.mk (Kd.R_lower ho1 (below_size (by repeat (first | (with_reducible first | exact HB.out | apply below_alloc | apply pw_below_drewN | apply below_drew1) | exact HB.out)))); have n2_ := Aside0.mk (Kd.R_lower ho2 (below_size (by repeat (first | (with_reducible first | exact HB.out | apply below_alloc | apply pw_below_drewN | apply below_drew1) | exact HB.out)))); have n3_ := Aside0.mk (Kd.R_lower ho3 (below_size (by repeat (first | (with_reducible first | exact HB.out | apply below_alloc | apply pw_below_drewN | apply below_drew1) | exact HB.out)))); have n4_ := Aside0.mk (below_step (by repeat (first | (with_reducible first | exact HB.out | apply below_alloc | apply pw_below_drewN | apply below_drew1) | exact HB.out)) hb); clear HB; have HO387 := n0_; have HO390 := n1_; have HO394 := n2_; have HO399 := n3_; have HB := n4_; clear n0_ n1_ n2_ n3_ n4_; (try clear hb); (try clear hb2); (try clear hk); (try clear hi); (try clear ho0); (try clear ho1); (try clear ho2); (try clear ho3)) | ((with_reducible refine gate_dst (N := 3) rfl ?_); refine box_event ?hg (N := 3) ?hd (cs := #[.int .u8 0, .int .u32 0, .int .u32 0, .slice none 0 0, .slice none 0 0, .int .u32 0, .slice none 0 0, .int .i64 0, .int .i64 0, .slice none 0 0]) (t := 57) ?hr ?_; (case hd => rfl); (case hg => rfl); (case hr => first | (go_simp; done) | (go_simp; rfl)); intro gb401 hg w56 hbox hb; have n0_ := Aside0.mk (Kd.R_below (by (with_reducible repeat (first | apply Kd.R_alloc | apply Kd.R_drewN | apply Kd.R_drew)); exact HO387.out) hb); have n1_ := Aside0.mk (Kd.R_below (by (with_reducible repeat (first | apply Kd.R_alloc | apply Kd.R_drewN | apply Kd.R_drew)); exact HO390.out) hb); have n2_ := Aside0.mk (Kd.R_below (by (with_reducible repeat (first | apply Kd.R_alloc | apply Kd.R_drewN | apply Kd.R_drew)); exact HO394.out) hb); have n3_ := Aside0.mk (Kd.R_below (by (with_reducible repeat (first | apply Kd.R_alloc | apply Kd.R_drewN | apply Kd.R_drew)); exact HO399.out) hb); have n4_ := Aside0.mk (below_step (by repeat (first | (with_reducible first | exact HB.out | apply below_alloc | apply pw_below_drewN | apply below_drew1) | exact HB.out)) hb); have n5_ := Aside0.mk (hbox); have n6_ := Aside0.mk ((by rw [hg]; exact (below_size (by repeat (first | (with_reducible first | exact HB.out | apply below_alloc | apply pw_below_drewN | apply below_drew1) | exact HB.out))) : w.heap.size ≤ gb401)); have n7_ := Aside0.mk ((by rw [hg]; exact (below_size (by repeat (first | (with_reducible first | exact HB.out | apply below_alloc | apply pw_below_drewN | apply below_drew1) | exact HB.out))) : w.heap.size ≤ gb401)); clear HO387; clear HO390; clear HO394; clear HO399; clear HB; have HO387 := n0_; have HO390 := n1_; have HO394 := n2_; have HO399 := n3_; have HB := n4_; have BK401 := n5_; have GW401 := n6_; have GE401 := n7_; clear n0_ n1_ n2_ n3_ n4_ n5_ n6_ n7_; clear hb hbox hg; have hcz57_0 : w56.cell? ⟨gb401, 0, none⟩ = some (.int .u8 0) := (blk_cell BK401.out 0).trans rfl; have hcz57_1 : w56.cell? ⟨gb401, 1, none⟩ = some (.int .u32 0) := (blk_cell BK401.out 1).trans rfl; have hcz57_2 : w56.cell? ⟨gb401, 2, none⟩ = some (.int .u32 0) := (blk_cell BK401.out 2).trans rfl; have hcz57_3 : w56.cell? ⟨gb401, 3, none⟩ = some (.slice none 0 0) := (blk_cell BK401.out 3).trans rfl; have hcz57_4 : w56.cell? ⟨gb401, 4, none⟩ = some (.slice none 0 0) := (blk_cell BK401.out 4).trans rfl; have hcz57_5 : w56.cell? ⟨gb401, 5, none⟩ = some (.int .u32 0) := (blk_cell BK401.out 5).trans rfl; have hcz57_6 : w56.cell? ⟨gb401, 6, none⟩ = some (.slice none 0 0) := (blk_cell BK401.out 6).trans rfl; have hcz57_7 : w56.cell? ⟨gb401, 7, none⟩ = some (.int .i64 0) := (blk_cell BK401.out 7).trans rfl; have hcz57_8 : w56.cell? ⟨gb401, 8, none⟩ = some (.int .i64 0) := (blk_cell BK401.out 8).trans rfl; have hcz57_9 : w56.cell? ⟨gb401, 9, none⟩ = some (.slice none 0 0) := (blk_cell BK401.out 9).trans rfl; have hfz57_0 := blk_frozen BK401.out 0; have hfz57_1 := blk_frozen BK401.out 1; have hfz57_2 := blk_frozen BK401.out 2; have hfz57_3 := blk_frozen BK401.out 3; have hfz57_4 := blk_frozen BK401.out 4; have hfz57_5 := blk_frozen BK401.out 5; have hfz57_6 := blk_frozen BK401.out 6; have hfz57_7 := blk_frozen BK401.out 7; have hfz57_8 := blk_frozen BK401.out 8; have hfz57_9 := blk_frozen BK401.out 9; obtain ⟨Ao58, co58, eo58⟩ := Kd.R_slice HO387.out; subst eo58; obtain ⟨Ao59, co59, eo59⟩ := Kd.R_slice HO390.out; subst eo59; obtain ⟨Ao60, co60, eo60⟩ := Kd.R_slice HO394.out; subst eo60; obtain ⟨Ao61, co61, eo61⟩ := Kd.R_slice HO399.out; subst eo61))
            go_ret
            exact ⟨by first | rfl | (simp [errW_none, errW_some] <;> rfl) | (simp [*, errW_none, errW_some] <;> rfl), by repeat (first | (with_reducible first | exact HB.out | apply below_alloc | apply pw_below_drewN | apply below_drew1 | refine below_set ?_ GE401.out) | exact HB.out)⟩
/-- THE ONE PURE STATEMENT of stratumlaw07_CodeOnly: yours. -/
def stratumlaw07_CodeOnly.Pure : Prop := ∀ (l0 : List Int), l0.length ≤ maxLen → l0.length * 1 ≤ 140737488351232 → (∀ x ∈ l0, (Lit.int .u8 x).wf = true) → ∃ k, stratumlaw07_CodeOnly.f k l0 = some true
theorem stratumlaw07_CodeOnly.walk (P : stratumlaw07_CodeOnly.Pure) (a0 : Option Addr) (len0 cap0 : Nat) (z0 : List Int) (w : World) (w0 : (a0 = none ∧ len0 = 0 ∧ cap0 = 0 ∧ z0 = []) ∨ ∃ x, a0 = some x ∧ len0 ≤ cap0 ∧ cap0 ≤ maxLen ∧ z0.length = cap0 ∧ (∀ i, i < z0.length → w.cell? (x.add i) = some (.int .u8 (z0.getD i 0))) ∧ ∀ n ∈ z0, (Lit.int .u8 n).wf = true) (y0 : len0 * 1 ≤ 140737488351232) :
    Calls Tryd.prog 12 #[.slice a0 len0 cap0] w fun e w' => e = .returned (.bool true) ∧ Below w.heap.size w w' := by
  obtain ⟨l0, rfl, hr0, hm0, hw0, hc0⟩ := ReadsInt.ofRowC w0
  obtain ⟨k, h⟩ := P l0 hm0 y0 hw0
  refine (stratumlaw07_CodeOnly.calls k _ _ l0 true w (Kd.C_of_reads (d := (0 : Int)) (h1 := fun _ => rfl) hr0) hc0 h).mono ?_
  rintro e w' ⟨rfl, hd⟩
  exact ⟨rfl, hd⟩
end Go.Proofs.YtbbhjceelghadaaDoor.K
end
