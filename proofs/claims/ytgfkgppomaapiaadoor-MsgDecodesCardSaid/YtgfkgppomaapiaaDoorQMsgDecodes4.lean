/- Parts of the proof, one behind the other: ReadR, K34, K35, K36, K37, RefB. -/
import Derived.Test.YtgfkgppomaapiaaDoorQMsgDecodes3
import Derived.Deep.WholeRow
import Derived.Laws.Tables
set_option linter.unusedVariables false
set_option linter.unusedSimpArgs false
section
namespace Go.Proofs.YtgfkgppomaapiaaDoor.K
open RowKit YtgfkgppomaapiaaDoorW.PrintWords YtgfkgppomaapiaaDoorW.PrintLast YtgfkgppomaapiaaDoorW.PrintMore My
theorem rF (s : Nat) (S : Int) (hS : S = s) (hs8 : s ≤ 8) {g : Nat} {l r : List UInt8} {x : Int} {w0 w : World} (h : Rd w0 w g l) (hb : Below w0.heap.size w0 w) (hp : intP s l = some (x, r)) :
    ∃ m : Nat, x = (m : Int) ∧ m < 256 ^ s ∧ r.length + s = l.length ∧ Calls Tryd.prog 119 #[.pointer (some ⟨g, 0, none⟩), .int .i64 S] w fun e w' => e = .returned (.int .u64 (m : Int)) ∧ Rd w0 w' g r ∧ w.grownBy w' (some g) := by
  obtain ⟨h1, h2, h3⟩ := nH hp
  refine ⟨numB (l.take s), h2, ?_, ?_, ?_⟩
  · have := yG (l.take s)
    rwa [List.length_take, Nat.min_eq_left h1] at this
  · rw [h3, List.length_drop]; omega
  · rw [h3]; exact nD s S hS hs8 g l w0 w h hb h1
theorem vH {l : List UInt8} (h : intP 1 l = none) : recP l = none := by unfold recP; rw [h]; rfl
theorem zF {l r : List UInt8} {x : Int} (h : intP 1 l = some (x, r)) (h1 : intP 4 r = none) : recP l = none := by unfold recP; rw [h]; simp only [Option.bind_some]; rw [h1]; rfl
theorem IW {l r r1 : List UInt8} {x y : Int} (h : intP 1 l = some (x, r)) (h1 : intP 4 r = some (y, r1)) : recP l = oL x y r1 := by unfold recP; rw [h]; simp only [Option.bind_some]; rw [h1]; rfl
theorem yI : Short nJ := fun l x r h => by
  unfold nJ at h
  obtain ⟨⟨n, r1⟩, h1, h⟩ := Option.bind_eq_some_iff.1 h
  have a := (lH h1 (by omega)).1
  have b := oZ (oI 1) n _ _ _ h
  simp only at a b
  omega
theorem LZ : Short qG := fun l x r h => by
  unfold qG at h
  obtain ⟨⟨n, r1⟩, h1, h⟩ := Option.bind_eq_some_iff.1 h
  have a := (lH h1 (by omega)).1
  have b := oZ (p := rX) (fun l x r h => by
    unfold rX at h
    obtain ⟨⟨x1, r1⟩, h1, h⟩ := Option.bind_eq_some_iff.1 h
    obtain ⟨⟨x2, r2⟩, h2, h⟩ := Option.bind_eq_some_iff.1 h
    injection h with h
    injection h with e1 e2
    subst e2
    have a := oI 4 _ _ _ h1
    have b := oI 1 _ _ _ h2
    exact Nat.le_trans b a) n _ _ _ h
  simp only at a b
  omega
theorem IA : Short lC := fun l x r h => by
  unfold lC at h
  obtain ⟨⟨n, r1⟩, h1, h⟩ := Option.bind_eq_some_iff.1 h
  have a := (lH h1 (by omega)).1
  have b := oZ (p := nG) (fun l x r h => by
    unfold nG at h
    obtain ⟨⟨x1, r1⟩, h1, h⟩ := Option.bind_eq_some_iff.1 h
    obtain ⟨⟨x2, r2⟩, h2, h⟩ := Option.bind_eq_some_iff.1 h
    injection h with h
    injection h with e1 e2
    subst e2
    have a := oI 4 _ _ _ h1
    have b := rZ _ _ _ h2
    exact Nat.le_trans b a) n _ _ _ h
  simp only at a b
  omega
theorem jA (w : World) (b : Nat) (cs : Array Value) : w.grownBy (w.setRow b cs) (some b) := ⟨rfl, rfl, rfl, by simp, fun k _ hne => setRow_other w b k cs (fun e => hne (by rw [e]))⟩
structure RInv (w0 w W : World) (g b : Nat) (r : List UInt8) (cs : Array Value) : Prop where
  rd : Rd w0 W g r
  gr : w.grownBy W (some g)
  bl : Below w0.heap.size w0 W
  x : W.heap[b]? = some (.cells cs 30 (0, 0))
  res : W.heap[w.heap.size]? = some (.cells #[.int .u8 0, .int .u32 0, .int .u32 0, .slice none 0 0, .slice none 0 0, .int .u32 0, .slice none 0 0, .int .i64 0, .int .i64 0, .slice none 0 0] 30 (0, 0))
  lt : g < w.heap.size
  le : w.heap.size < b
  small : (r.length : Int) ≤ 100000
  hg : w0.heap.size ≤ g
theorem RInv.call {w0 w W W' : World} {g b : Nat} {r r' : List UInt8} {cs : Array Value} (h : RInv w0 w W g b r cs) (hR : Rd w0 W' g r') (hG : W.grownBy W' (some g)) (hl : r'.length ≤ r.length) : RInv w0 w W' g b r' cs :=
  ⟨hR, iT h.gr hG, below_grown h.bl hG h.hg (Nat.le_refl _), (hG.block b (jE h.x) (fun e => by injection e with e; have := h.lt; have := h.le; omega)).trans h.x, (hG.block _ (jE h.res) (fun e => by injection e with e; have := h.lt; omega)).trans h.res, h.lt, h.le, by have := h.small; omega, h.hg⟩
theorem RInv.store {w0 w W : World} {g b : Nat} {r : List UInt8} {cs : Array Value} (h : RInv w0 w W g b r cs) (cs' : Array Value) : RInv w0 w (W.setRow b cs') g b r cs' := by
  have h1 := h.lt
  have h2 := h.le
  have h3 := h.hg
  refine ⟨Rd.grown h.rd (jA W b cs') (fun e => by injection e with e; omega), jZ h.gr (jA W b cs') (by omega), below_grown h.bl (jA W b cs') (by omega) (Nat.le_refl _), setRow_heap W b cs cs' _ _ h.x, ?_, h1, h2, h.small, h3⟩
  rw [setRow_other W b _ cs' (by omega)]
  exact h.res
theorem RInv.fin {w0 w W : World} {g b : Nat} {r : List UInt8} {cs : Array Value} (h : RInv w0 w W g b r cs) (cs' : Array Value) : w.grownBy (W.setRow w.heap.size cs') (some g) ∧ Rd w0 (W.setRow w.heap.size cs') g r :=
  ⟨jZ h.gr (jA W _ cs') (Nat.le_refl _), Rd.grown h.rd (jA W _ cs') (fun e => by injection e with e; have := h.lt; omega)⟩
theorem RInv.fresh {w0 w W : World} {g b : Nat} {r : List UInt8} {cs : Array Value} (h : RInv w0 w W g b r cs) : b < W.heap.size := jE h.x
def RecV (base : Nat) (x : SRec) (v : Value) (w' : World) : Prop :=
  ∃ v3 v4 v6 v9, v = .agg #[.int .u8 x.f0, .int .u32 x.f1, .int .u32 x.f2, v3, v4, .int .u32 x.f5.f0, v6, .int .i64 x.f6, .int .i64 x.f7, v9] ∧
    Kd.R (Kd.int .i64) 3 w' base (fun _ => True) v3 x.f3 ∧ Kd.R k139 139 w' base (fun k => some k ≠ v3.ownBlock) v4 x.f4 ∧
    Kd.R k98 98 w' base (fun _ => True) v6 x.f5.f1 ∧ Kd.R k86 86 w' base (fun k => some k ≠ v3.ownBlock ∧ some k ≠ v4.ownBlock) v9 x.f8
theorem RG (a b : Int) : (Tryd.prog).built 30 (#[(0, .int .u8 a), (1, .int .u32 b)] : Array (Nat × Value)).toList = some #[.int .u8 a, .int .u32 b, .int .u32 0, .slice none 0 0, .slice none 0 0, .int .u32 0, .slice none 0 0, .int .i64 0, .int .i64 0, .slice none 0 0] := by kernel_rfl
section
variable {w : World} {b : Nat} {c0 c1 c2 c3 c4 c5 c6 c7 c8 c9 : Value}
theorem WB (h : w.heap[b]? = some (.cells #[c0, c1, c2, c3, c4, c5, c6, c7, c8, c9] 30 (0, 0))) : (Instr.loadAt 5 (.pointer (some ⟨b, 0, none⟩))).run Tryd.prog w = .ok c0 w := by
  have z0 : w.cell? ⟨b, 0, none⟩ = some c0 := (iE h 0).trans rfl
  simp [go_sem, z0]
theorem st_2 (x : Int) (h : w.heap[b]? = some (.cells #[c0, c1, c2, c3, c4, c5, c6, c7, c8, c9] 30 (0, 0))) : (Instr.storeAt 22 (.pointer (some ⟨b, 2, none⟩)) (.int .u32 x)).run Tryd.prog w = .ok () (w.setRow b #[c0, c1, .int .u32 x, c3, c4, c5, c6, c7, c8, c9]) := by
  have z : w.cell? ⟨b, 2, none⟩ = some c2 := (iE h 2).trans rfl
  have y : w.frozen? ⟨b, 2, none⟩ = false := iD h 2
  rw [show w.setRow b #[c0, c1, .int .u32 x, c3, c4, c5, c6, c7, c8, c9] = w.setCell ⟨b, 2, none⟩ (.int .u32 x) from (setCell_eq_setRow w b 2 _ _ _ (.int .u32 x) h).symm]
  simp [go_sem, z, y]
theorem st_3 (A : Option Addr) (n c : Nat) (h : w.heap[b]? = some (.cells #[c0, c1, c2, c3, c4, c5, c6, c7, c8, c9] 30 (0, 0))) : (Instr.storeAt 23 (.pointer (some ⟨b, 3, none⟩)) (.slice A n c)).run Tryd.prog w = .ok () (w.setRow b #[c0, c1, c2, .slice A n c, c4, c5, c6, c7, c8, c9]) := by
  have z : w.cell? ⟨b, 3, none⟩ = some c3 := (iE h 3).trans rfl
  have y : w.frozen? ⟨b, 3, none⟩ = false := iD h 3
  rw [show w.setRow b #[c0, c1, c2, .slice A n c, c4, c5, c6, c7, c8, c9] = w.setCell ⟨b, 3, none⟩ (.slice A n c) from (setCell_eq_setRow w b 3 _ _ _ (.slice A n c) h).symm]
  simp [go_sem, z, y]
theorem st_4 (A : Option Addr) (n c : Nat) (h : w.heap[b]? = some (.cells #[c0, c1, c2, c3, c4, c5, c6, c7, c8, c9] 30 (0, 0))) : (Instr.storeAt 24 (.pointer (some ⟨b, 4, none⟩)) (.slice A n c)).run Tryd.prog w = .ok () (w.setRow b #[c0, c1, c2, c3, .slice A n c, c5, c6, c7, c8, c9]) := by
  have z : w.cell? ⟨b, 4, none⟩ = some c4 := (iE h 4).trans rfl
  have y : w.frozen? ⟨b, 4, none⟩ = false := iD h 4
  rw [show w.setRow b #[c0, c1, c2, c3, .slice A n c, c5, c6, c7, c8, c9] = w.setCell ⟨b, 4, none⟩ (.slice A n c) from (setCell_eq_setRow w b 4 _ _ _ (.slice A n c) h).symm]
  simp [go_sem, z, y]
theorem st_5 (x : Int) (h : w.heap[b]? = some (.cells #[c0, c1, c2, c3, c4, c5, c6, c7, c8, c9] 30 (0, 0))) : (Instr.storeAt 22 (.pointer (some ⟨b, 5, none⟩)) (.int .u32 x)).run Tryd.prog w = .ok () (w.setRow b #[c0, c1, c2, c3, c4, .int .u32 x, c6, c7, c8, c9]) := by
  have z : w.cell? ⟨b, 5, none⟩ = some c5 := (iE h 5).trans rfl
  have y : w.frozen? ⟨b, 5, none⟩ = false := iD h 5
  rw [show w.setRow b #[c0, c1, c2, c3, c4, .int .u32 x, c6, c7, c8, c9] = w.setCell ⟨b, 5, none⟩ (.int .u32 x) from (setCell_eq_setRow w b 5 _ _ _ (.int .u32 x) h).symm]
  simp [go_sem, z, y]
theorem st_6 (A : Option Addr) (n c : Nat) (h : w.heap[b]? = some (.cells #[c0, c1, c2, c3, c4, c5, c6, c7, c8, c9] 30 (0, 0))) : (Instr.storeAt 25 (.pointer (some ⟨b, 6, none⟩)) (.slice A n c)).run Tryd.prog w = .ok () (w.setRow b #[c0, c1, c2, c3, c4, c5, .slice A n c, c7, c8, c9]) := by
  have z : w.cell? ⟨b, 6, none⟩ = some c6 := (iE h 6).trans rfl
  have y : w.frozen? ⟨b, 6, none⟩ = false := iD h 6
  rw [show w.setRow b #[c0, c1, c2, c3, c4, c5, .slice A n c, c7, c8, c9] = w.setCell ⟨b, 6, none⟩ (.slice A n c) from (setCell_eq_setRow w b 6 _ _ _ (.slice A n c) h).symm]
  simp [go_sem, z, y]
theorem st_7 (x : Int) (h : w.heap[b]? = some (.cells #[c0, c1, c2, c3, c4, c5, c6, c7, c8, c9] 30 (0, 0))) : (Instr.storeAt 3 (.pointer (some ⟨b, 7, none⟩)) (.int .i64 x)).run Tryd.prog w = .ok () (w.setRow b #[c0, c1, c2, c3, c4, c5, c6, .int .i64 x, c8, c9]) := by
  have z : w.cell? ⟨b, 7, none⟩ = some c7 := (iE h 7).trans rfl
  have y : w.frozen? ⟨b, 7, none⟩ = false := iD h 7
  rw [show w.setRow b #[c0, c1, c2, c3, c4, c5, c6, .int .i64 x, c8, c9] = w.setCell ⟨b, 7, none⟩ (.int .i64 x) from (setCell_eq_setRow w b 7 _ _ _ (.int .i64 x) h).symm]
  simp [go_sem, z, y]
theorem st_8 (x : Int) (h : w.heap[b]? = some (.cells #[c0, c1, c2, c3, c4, c5, c6, c7, c8, c9] 30 (0, 0))) : (Instr.storeAt 3 (.pointer (some ⟨b, 8, none⟩)) (.int .i64 x)).run Tryd.prog w = .ok () (w.setRow b #[c0, c1, c2, c3, c4, c5, c6, c7, .int .i64 x, c9]) := by
  have z : w.cell? ⟨b, 8, none⟩ = some c8 := (iE h 8).trans rfl
  have y : w.frozen? ⟨b, 8, none⟩ = false := iD h 8
  rw [show w.setRow b #[c0, c1, c2, c3, c4, c5, c6, c7, .int .i64 x, c9] = w.setCell ⟨b, 8, none⟩ (.int .i64 x) from (setCell_eq_setRow w b 8 _ _ _ (.int .i64 x) h).symm]
  simp [go_sem, z, y]
theorem st_9 (A : Option Addr) (n c : Nat) (h : w.heap[b]? = some (.cells #[c0, c1, c2, c3, c4, c5, c6, c7, c8, c9] 30 (0, 0))) : (Instr.storeAt 28 (.pointer (some ⟨b, 9, none⟩)) (.slice A n c)).run Tryd.prog w = .ok () (w.setRow b #[c0, c1, c2, c3, c4, c5, c6, c7, c8, .slice A n c]) := by
  have z : w.cell? ⟨b, 9, none⟩ = some c9 := (iE h 9).trans rfl
  have y : w.frozen? ⟨b, 9, none⟩ = false := iD h 9
  rw [show w.setRow b #[c0, c1, c2, c3, c4, c5, c6, c7, c8, .slice A n c] = w.setCell ⟨b, 9, none⟩ (.slice A n c) from (setCell_eq_setRow w b 9 _ _ _ (.slice A n c) h).symm]
  simp [go_sem, z, y]
end
theorem mY {w : World} {b : Nat} {cs : Array Value} (h : w.heap[b]? = some (.cells cs 30 (0, 0))) (hs : cs.size = 10) : (Instr.loadAt 30 (.pointer (some ⟨b, 0, none⟩))).run Tryd.prog w = .ok (.agg cs) w := by
  simp only [Instr.loadAt, Instr.sureAddr, Sem.run_bind, Sem.run_pure, Result.andThen]
  exact run_loadVar_row w b 30 30 cs (0, 0) _ h Tryd.underlying30 rfl (by rw [hs]; kernel_rfl)
theorem lF {w : World} {b : Nat} {c0 c1 c2 c3 c4 c5 c6 c7 c8 c9 : Value} {a k i : Int} {x3 x4 x6 x9 : Value} {j p q : Int} (h : w.heap[b]? = some (.cells #[c0, c1, c2, c3, c4, c5, c6, c7, c8, c9] 30 (0, 0))) (o3 : x3.oneCell' = true) (o4 : x4.oneCell' = true) (o6 : x6.oneCell' = true) (o9 : x9.oneCell' = true) :
    (Instr.storeAt 30 (.pointer (some ⟨b, 0, none⟩)) (.agg #[.int .u8 a, .int .u32 k, .int .u32 i, x3, x4, .int .u32 j, x6, .int .i64 p, .int .i64 q, x9])).run Tryd.prog w = .ok () (w.setRow b #[.int .u8 a, .int .u32 k, .int .u32 i, x3, x4, .int .u32 j, x6, .int .i64 p, .int .i64 q, x9]) := by
  simp only [Instr.storeAt, Instr.sureAddr, Sem.run_bind, Sem.run_pure, Result.andThen]
  exact run_storeVar_row w b 30 30 _ _ h (by kernel_rfl) rfl (by simp [o3, o4, o6, o9, show ∀ k n, (Value.int k n).oneCell' = true from fun _ _ => rfl])
theorem WY (w : World) (a k : Int) : (Instr.storeAt 30 (.pointer (some ⟨w.heap.size, 0, none⟩)) (.agg #[.int .u8 a, .int .u32 k, .int .u32 0, .slice none 0 0, .slice none 0 0, .int .u32 0, .slice none 0 0, .int .i64 0, .int .i64 0, .slice none 0 0])).run Tryd.prog (w.alloc (.cells #[.int .u8 0, .int .u32 0, .int .u32 0, .slice none 0 0, .slice none 0 0, .int .u32 0, .slice none 0 0, .int .i64 0, .int .i64 0, .slice none 0 0] 30)) = .ok () (w.alloc (.cells #[.int .u8 a, .int .u32 k, .int .u32 0, .slice none 0 0, .slice none 0 0, .int .u32 0, .slice none 0 0, .int .i64 0, .int .i64 0, .slice none 0 0] 30)) :=
  run_storeAt_new (P := Tryd.prog) w 30 #[.int .u8 0, .int .u32 0, .int .u32 0, .slice none 0 0, .slice none 0 0, .int .u32 0, .slice none 0 0, .int .i64 0, .int .i64 0, .slice none 0 0] #[.int .u8 a, .int .u32 k, .int .u32 0, .slice none 0 0, .slice none 0 0, .int .u32 0, .slice none 0 0, .int .i64 0, .int .i64 0, .slice none 0 0] (by kernel_rfl) rfl (by simp [Value.oneCell'])
theorem WO (w : World) (a k : Int) : (Instr.build 30 #[(0, .int .u8 a), (1, .int .u32 k)]).run Tryd.prog w = .ok (.agg #[.int .u8 a, .int .u32 k, .int .u32 0, .slice none 0 0, .slice none 0 0, .int .u32 0, .slice none 0 0, .int .i64 0, .int .i64 0, .slice none 0 0]) w := run_build w 30 _ _ (RG a k)
attribute [-go_sem] Instr.build Instr.storeAt Instr.loadAt
attribute [local go_sem] WO WY
set_option maxRecDepth 20000 in
set_option maxHeartbeats 16000000 in
theorem U8 (g : Nat) (l : List UInt8) (w0 w : World) (h : Rd w0 w g l) (hb : Below w0.heap.size w0 w) (hg : w0.heap.size ≤ g) (hm : (l.length : Int) ≤ 100000) :
    Calls Tryd.prog 97 #[.pointer (some ⟨g, 0, none⟩)] w (PP (recP l) (fun x v w' => RecV w.heap.size x v w') w0 w g) := by
  have HR := iC.mk h
  have HB := iC.mk hb
  have hlt := h.lt
  clear h hb
  obtain ⟨W, hW⟩ : ∃ W, W = w.alloc (Obj.cells #[.int .u8 0, .int .u32 0, .int .u32 0, .slice none 0 0, .slice none 0 0, .int .u32 0, .slice none 0 0, .int .i64 0, .int .i64 0, .slice none 0 0] 30) := ⟨_, rfl⟩
  have HW := iC.mk hW
  have HG := iC.mk (show w.grownBy W (some g) from by rw [hW]; exact grown_below (iF (Below.refl _ _) _))
  have HR1 := iC.mk (Rd.grown HR.out (row := none) (show w.grownBy W none from by rw [hW]; exact grown_below (iF (Below.refl _ _) _)) (by simp))
  have HB1 := iC.mk (below_grown HB.out HG.out hg (Nat.le_refl _))
  have HX := iC.mk (show W.heap[w.heap.size]? = some (.cells #[.int .u8 0, .int .u32 0, .int .u32 0, .slice none 0 0, .slice none 0 0, .int .u32 0, .slice none 0 0, .int .i64 0, .int .i64 0, .slice none 0 0] 30 (0, 0)) from by rw [hW]; exact iM rfl)
  have HG0 := iC.mk hg
  clear HR hW hg
  cases hp1 : intP 1 l with
  | none =>
    have hcall := jY 1 1 rfl g l w0 W HR1.out (kY hp1)
    have HN := iC.mk (vH hp1)
    clear hp1
    go_enter Tryd.func97, Tryd.ntmps97
    go_wp2_with fail
    rw [← HW.out]
    refine hcall.mono ?_
    rintro e w1 ⟨rfl, hG⟩
    go_wp2
    exact ⟨rfl, iT HG.out hG, .inr ⟨HN.out, rfl⟩⟩
  | some x =>
    obtain ⟨k, r1⟩ := x
    obtain ⟨m1, rfl, hm1, hl1, hcall1⟩ := rF 1 1 rfl (by omega) HR1.out HB1.out hp1
    have hmm1 : (m1 : Int) < 256 := by omega
    cases hp2 : intP 4 r1 with
    | none =>
      have HN := iC.mk (zF hp1 hp2)
      clear hp1
      go_enter Tryd.func97, Tryd.ntmps97
      go_wp2_with fail
      rw [← HW.out]
      refine hcall1.mono ?_
      rintro e w1 ⟨rfl, hR, hG⟩
      go_wp2_with fail
      refine (jY 4 4 rfl g r1 w0 w1 hR (kY hp2)).mono ?_
      rintro e w2 ⟨rfl, hG2⟩
      clear hp2
      go_wp2
      exact ⟨rfl, iT (iT HG.out hG) hG2, .inr ⟨HN.out, rfl⟩⟩
    | some y =>
      obtain ⟨y, r2⟩ := y
      have HN := iC.mk (IW hp1 hp2)
      clear hp1
      go_enter Tryd.func97, Tryd.ntmps97
      go_wp2_with fail
      rw [← HW.out]
      refine hcall1.mono ?_
      rintro e w1 ⟨rfl, hR, hG⟩
      obtain ⟨m2, rfl, hm2, hl2, hcall2⟩ := rF 4 4 rfl (by omega) hR (below_grown HB1.out hG HG0.out (Nat.le_refl _)) hp2
      have hmm2 : True → (m2 : Int) % 4294967296 = (m2 : Int) := fun _ => by omega
      have hr2 := iC.mk (show (r2.length : Int) ≤ 100000 from by omega)
      go_wp2_with fail
      refine hcall2.mono ?_
      rintro e w2 ⟨rfl, hR2, hG2⟩
      have HI := iC.mk (show RInv w0 w (w2.alloc (.cells #[.int .u8 (m1 : Int), .int .u32 (m2 : Int), .int .u32 0, .slice none 0 0, .slice none 0 0, .int .u32 0, .slice none 0 0, .int .i64 0, .int .i64 0, .slice none 0 0] 30)) g w2.heap.size r2 #[.int .u8 (m1 : Int), .int .u32 (m2 : Int), .int .u32 0, .slice none 0 0, .slice none 0 0, .int .u32 0, .slice none 0 0, .int .i64 0, .int .i64 0, .slice none 0 0] from by
        have hgt := iT (iT HG.out hG) hG2
        have hx2 := (hG2.block _ (Nat.lt_of_lt_of_le (jE HX.out) hG.size) (fun e => by injection e with e; omega)).trans ((hG.block _ (jE HX.out) (fun e => by injection e with e; omega)).trans HX.out)
        refine ⟨Rd.grown hR2 (row := none) (grown_below (iF (Below.refl _ _) _)) (by simp), iT hgt (grown_below (iF (Below.refl _ _) _)), below_grown (g := g) HB.out (iT hgt (grown_below (iF (Below.refl _ _) _))) HG0.out (Nat.le_refl _), iM rfl, ?_, hlt, jE hx2, hr2.out, HG0.out⟩
        exact jD hx2)
      clear hp2 hcall1 hcall2 hR hG hR2 hG2 HW HR1 HB1 HG hm1 hm2 hm HX hl1 hl2 hr2 HB HG0 hlt
      have hfr := HI.out.fresh
      obtain ⟨b, hbd⟩ : ∃ b, b = w2.heap.size := ⟨_, rfl⟩
      have hld := fun (_ : True) => WB HI.out.x
      clear hbd b hfr
      by_cases hk1 : (m1 : Int) = 1
      · have HBODY := iC.mk (show oL (m1 : Int) (m2 : Int) r2 = (nJ r2).bind fun x => (nC x.2).bind fun y => some (⟨(m1 : Int), (m2 : Int), 0, x.1, y.1, ⟨0, []⟩, 0, 0, []⟩, y.2) from by unfold oL; rw [if_pos hk1])
        have hka : (m1 : Int) ≤ 1 := by omega
        have hkb : 1 ≤ (m1 : Int) := by omega
        clear hk1
        go_wp2_with fail
        cases hq0 : nJ r2 with
        | none =>
          have hF : recP l = none := by rw [HN.out, HBODY.out]; rw [hq0]; rfl
          have HF := iC.mk hF
          refine (rG g r2 w0 _ HI.out.rd HI.out.bl HI.out.hg HI.out.small).mono ?_
          intro e wx hpp
          obtain ⟨rfl, hG⟩ := hpp.short hq0
          clear hpp
          clear hF hq0
          go_wp2
          exact ⟨rfl, iT HI.out.gr hG, .inr ⟨HF.out, rfl⟩⟩
        | some y =>
          obtain ⟨y0, s0⟩ := y
          have HQ0 := iC.mk hq0
          refine (rG g r2 w0 _ HI.out.rd HI.out.bl HI.out.hg HI.out.small).mono ?_
          intro e w3 hpp
          obtain ⟨v3, rfl, hv3, hR, hG⟩ := hpp.ok hq0
          have hv3 : Kd.R (Kd.int .i64) 3 _ _ _ _ _ := hv3
          obtain ⟨A3, d3, rfl⟩ := Kd.R_slice hv3
          have hl0 := yI _ _ _ hq0
          clear hpp
          have HC0 := iC.mk (HI.out.call hR hG (by omega))
          have HV3 := iC.mk hv3
          have HB3 := iC.mk HI.out.fresh
          clear hv3
          have HD0 := iC.mk (HC0.out.store #[.int .u8 (m1 : Int), .int .u32 (m2 : Int), .int .u32 0, .slice A3 y0.length d3, .slice none 0 0, .int .u32 0, .slice none 0 0, .int .i64 0, .int .i64 0, .slice none 0 0])
          have HV3 := iC.mk (jP HV3.out (jA _ w2.heap.size #[.int .u8 (m1 : Int), .int .u32 (m2 : Int), .int .u32 0, .slice A3 y0.length d3, .slice none 0 0, .int .u32 0, .slice none 0 0, .int .i64 0, .int .i64 0, .slice none 0 0]) HB3.out)
          have hst0 := fun (_ : True) => st_3 A3 y0.length d3 HC0.out.x
          clear hR hG hq0 hl0
          go_wp2_with fail
          cases hq1 : nC s0 with
          | none =>
            have hF : recP l = none := by rw [HN.out, HBODY.out]; rw [HQ0.out]; simp only [Option.bind_some]; rw [hq1]; rfl
            have HF := iC.mk hF
            refine (vS g s0 w0 _ HD0.out.rd HD0.out.bl HD0.out.hg HD0.out.small).mono ?_
            intro e wx hpp
            obtain ⟨rfl, hG⟩ := hpp.short hq1
            clear hpp
            clear hF hq1
            go_wp2
            exact ⟨rfl, iT HD0.out.gr hG, .inr ⟨HF.out, rfl⟩⟩
          | some y =>
            obtain ⟨y1, s1⟩ := y
            have HQ1 := iC.mk hq1
            have HO3 := iC.mk (Kd.R_lt HV3.out)
            refine (vS g s0 w0 _ HD0.out.rd HD0.out.bl HD0.out.hg HD0.out.small).mono ?_
            intro e w4 hpp
            obtain ⟨v4, rfl, hv4, hR, hG⟩ := hpp.ok hq1
            obtain ⟨A4, d4, rfl⟩ := Kd.R_slice hv4
            have hl1 := rZ _ _ _ hq1
            clear hpp
            have HC1 := iC.mk (HD0.out.call hR hG (by omega))
            have HV3 := iC.mk (jP HV3.out hG (by have := HC1.out.lt; have := HC1.out.le; have := HB3.out; omega))
            have HV4 := iC.mk hv4
            have HB4 := iC.mk HD0.out.fresh
            clear hv4
            have HD1 := iC.mk (HC1.out.store #[.int .u8 (m1 : Int), .int .u32 (m2 : Int), .int .u32 0, .slice A3 y0.length d3, .slice A4 y1.length d4, .int .u32 0, .slice none 0 0, .int .i64 0, .int .i64 0, .slice none 0 0])
            have HV3 := iC.mk (jP HV3.out (jA _ w2.heap.size #[.int .u8 (m1 : Int), .int .u32 (m2 : Int), .int .u32 0, .slice A3 y0.length d3, .slice A4 y1.length d4, .int .u32 0, .slice none 0 0, .int .i64 0, .int .i64 0, .slice none 0 0]) HB3.out)
            have HV4 := iC.mk (jP HV4.out (jA _ w2.heap.size #[.int .u8 (m1 : Int), .int .u32 (m2 : Int), .int .u32 0, .slice A3 y0.length d3, .slice A4 y1.length d4, .int .u32 0, .slice none 0 0, .int .i64 0, .int .i64 0, .slice none 0 0]) HB4.out)
            have hst1 := fun (_ : True) => st_4 A4 y1.length d4 HC1.out.x
            clear hR hG hq1 hl1
            have hlr := fun (_ : True) => mY HD1.out.x rfl
            have hsr := fun (_ : True) => lF (a := (m1 : Int)) (k := (m2 : Int)) (i := 0) (x3 := .slice A3 y0.length d3) (x4 := .slice A4 y1.length d4) (j := 0) (x6 := .slice none 0 0) (p := 0) (q := 0) (x9 := .slice none 0 0) HD1.out.res rfl rfl rfl rfl
            have hlr2 := fun (_ : True) => mY (setRow_heap (w4.setRow w2.heap.size #[.int .u8 (m1 : Int), .int .u32 (m2 : Int), .int .u32 0, .slice A3 y0.length d3, .slice A4 y1.length d4, .int .u32 0, .slice none 0 0, .int .i64 0, .int .i64 0, .slice none 0 0]) w.heap.size #[.int .u8 0, .int .u32 0, .int .u32 0, .slice none 0 0, .slice none 0 0, .int .u32 0, .slice none 0 0, .int .i64 0, .int .i64 0, .slice none 0 0] #[.int .u8 (m1 : Int), .int .u32 (m2 : Int), .int .u32 0, .slice A3 y0.length d3, .slice A4 y1.length d4, .int .u32 0, .slice none 0 0, .int .i64 0, .int .i64 0, .slice none 0 0] _ _ HD1.out.res) rfl
            go_wp2_with fail
            (try simp only [Exit.inBlock, Exit.then])
            refine bodyPost_ret (results_cell_row rfl _ _ w.heap.size 30 #[.int .u8 (m1 : Int), .int .u32 (m2 : Int), .int .u32 0, .slice A3 y0.length d3, .slice A4 y1.length d4, .int .u32 0, .slice none 0 0, .int .i64 0, .int .i64 0, .slice none 0 0] (0, 0) _ (by rfl) (setRow_heap _ _ _ _ _ _ HD1.out.res) Tryd.underlying30 rfl rfl) rfl ?_
            obtain ⟨hf1, hf2⟩ := HD1.out.fin #[.int .u8 (m1 : Int), .int .u32 (m2 : Int), .int .u32 0, .slice A3 y0.length d3, .slice A4 y1.length d4, .int .u32 0, .slice none 0 0, .int .i64 0, .int .i64 0, .slice none 0 0]
            refine ⟨hf1, .inl ⟨⟨(m1 : Int), (m2 : Int), 0, y0, y1, ⟨0, []⟩, 0, 0, []⟩, s1, _, ?_, rfl, ⟨_, _, _, _, rfl, ?_, ?_, ?_, ?_⟩, hf2⟩⟩
            · rw [HN.out, HBODY.out]; rw [HQ0.out]; simp only [Option.bind_some]; rw [HQ1.out]; rfl
            · have hh := jP HV3.out (jA _ w.heap.size #[.int .u8 (m1 : Int), .int .u32 (m2 : Int), .int .u32 0, .slice A3 y0.length d3, .slice A4 y1.length d4, .int .u32 0, .slice none 0 0, .int .i64 0, .int .i64 0, .slice none 0 0]) (by have := HD1.out.le; have := HB3.out; omega)
              have hle := Nat.le_of_lt (Nat.lt_trans HD1.out.le HB3.out)
              exact Kd.R_lower hh hle
            · have hh := jP HV4.out (jA _ w.heap.size #[.int .u8 (m1 : Int), .int .u32 (m2 : Int), .int .u32 0, .slice A3 y0.length d3, .slice A4 y1.length d4, .int .u32 0, .slice none 0 0, .int .i64 0, .int .i64 0, .slice none 0 0]) (by have := HD1.out.le; have := HB4.out; omega)
              have hle := Nat.le_of_lt (Nat.lt_trans HD1.out.le HB4.out)
              refine Kd.R_lower (Kd.R_mono (Kd.R_bound hh) (ok' := fun k => some k ≠ Value.ownBlock (.slice A3 y0.length d3)) (fun k hk e => ?_)) hle
              have h1 := HO3.out k e.symm
              have h2 := hk.2.1
              omega
            · exact Kd.R_nil _ _ _ _ _
            · exact Kd.R_nil _ _ _ _ _
      by_cases hk2 : (m1 : Int) = 2
      · have HBODY := iC.mk (show oL (m1 : Int) (m2 : Int) r2 = (intP 4 r2).bind fun x => (nJ x.2).bind fun y => some (⟨(m1 : Int), (m2 : Int), x.1, y.1, [], ⟨0, []⟩, 0, 0, []⟩, y.2) from by unfold oL; rw [if_neg hk1]; rw [if_pos hk2])
        have hka : (m1 : Int) ≤ 2 := by omega
        have hkb : 2 ≤ (m1 : Int) := by omega
        clear hk2
        go_wp2_with fail
        cases hq0 : intP 4 r2 with
        | none =>
          have hF : recP l = none := by rw [HN.out, HBODY.out]; rw [hq0]; rfl
          have HF := iC.mk hF
          refine (jY 4 4 rfl g r2 w0 _ HI.out.rd (kY hq0)).mono ?_
          rintro e wx ⟨rfl, hG⟩
          clear hF hq0
          go_wp2
          exact ⟨rfl, iT HI.out.gr hG, .inr ⟨HF.out, rfl⟩⟩
        | some y =>
          obtain ⟨y0, s0⟩ := y
          obtain ⟨n0, hy, hn0, hl0, hcall⟩ := rF 4 4 rfl (by omega) HI.out.rd HI.out.bl hq0
          subst hy
          have hnn0 : True → (n0 : Int) % 4294967296 = (n0 : Int) := fun _ => by omega
          have HQ0 := iC.mk hq0
          refine hcall.mono ?_
          rintro e w3 ⟨rfl, hR, hG⟩
          have HC0 := iC.mk (HI.out.call hR hG (by omega))
          have HD0 := iC.mk (HC0.out.store #[.int .u8 (m1 : Int), .int .u32 (m2 : Int), .int .u32 (n0 : Int), .slice none 0 0, .slice none 0 0, .int .u32 0, .slice none 0 0, .int .i64 0, .int .i64 0, .slice none 0 0])
          have hst0 := fun (_ : True) => st_2 (n0 : Int) HC0.out.x
          clear hR hG hq0 hl0 hn0 hcall
          go_wp2_with fail
          cases hq1 : nJ s0 with
          | none =>
            have hF : recP l = none := by rw [HN.out, HBODY.out]; rw [HQ0.out]; simp only [Option.bind_some]; rw [hq1]; rfl
            have HF := iC.mk hF
            refine (rG g s0 w0 _ HD0.out.rd HD0.out.bl HD0.out.hg HD0.out.small).mono ?_
            intro e wx hpp
            obtain ⟨rfl, hG⟩ := hpp.short hq1
            clear hpp
            clear hF hq1
            go_wp2
            exact ⟨rfl, iT HD0.out.gr hG, .inr ⟨HF.out, rfl⟩⟩
          | some y =>
            obtain ⟨y1, s1⟩ := y
            have HQ1 := iC.mk hq1
            refine (rG g s0 w0 _ HD0.out.rd HD0.out.bl HD0.out.hg HD0.out.small).mono ?_
            intro e w4 hpp
            obtain ⟨v3, rfl, hv3, hR, hG⟩ := hpp.ok hq1
            have hv3 : Kd.R (Kd.int .i64) 3 _ _ _ _ _ := hv3
            obtain ⟨A3, d3, rfl⟩ := Kd.R_slice hv3
            have hl1 := yI _ _ _ hq1
            clear hpp
            have HC1 := iC.mk (HD0.out.call hR hG (by omega))
            have HV3 := iC.mk hv3
            have HB3 := iC.mk HD0.out.fresh
            clear hv3
            have HD1 := iC.mk (HC1.out.store #[.int .u8 (m1 : Int), .int .u32 (m2 : Int), .int .u32 (n0 : Int), .slice A3 y1.length d3, .slice none 0 0, .int .u32 0, .slice none 0 0, .int .i64 0, .int .i64 0, .slice none 0 0])
            have HV3 := iC.mk (jP HV3.out (jA _ w2.heap.size #[.int .u8 (m1 : Int), .int .u32 (m2 : Int), .int .u32 (n0 : Int), .slice A3 y1.length d3, .slice none 0 0, .int .u32 0, .slice none 0 0, .int .i64 0, .int .i64 0, .slice none 0 0]) HB3.out)
            have hst1 := fun (_ : True) => st_3 A3 y1.length d3 HC1.out.x
            clear hR hG hq1 hl1
            have hlr := fun (_ : True) => mY HD1.out.x rfl
            have hsr := fun (_ : True) => lF (a := (m1 : Int)) (k := (m2 : Int)) (i := (n0 : Int)) (x3 := .slice A3 y1.length d3) (x4 := .slice none 0 0) (j := 0) (x6 := .slice none 0 0) (p := 0) (q := 0) (x9 := .slice none 0 0) HD1.out.res rfl rfl rfl rfl
            have hlr2 := fun (_ : True) => mY (setRow_heap (w4.setRow w2.heap.size #[.int .u8 (m1 : Int), .int .u32 (m2 : Int), .int .u32 (n0 : Int), .slice A3 y1.length d3, .slice none 0 0, .int .u32 0, .slice none 0 0, .int .i64 0, .int .i64 0, .slice none 0 0]) w.heap.size #[.int .u8 0, .int .u32 0, .int .u32 0, .slice none 0 0, .slice none 0 0, .int .u32 0, .slice none 0 0, .int .i64 0, .int .i64 0, .slice none 0 0] #[.int .u8 (m1 : Int), .int .u32 (m2 : Int), .int .u32 (n0 : Int), .slice A3 y1.length d3, .slice none 0 0, .int .u32 0, .slice none 0 0, .int .i64 0, .int .i64 0, .slice none 0 0] _ _ HD1.out.res) rfl
            go_wp2_with fail
            (try simp only [Exit.inBlock, Exit.then])
            refine bodyPost_ret (results_cell_row rfl _ _ w.heap.size 30 #[.int .u8 (m1 : Int), .int .u32 (m2 : Int), .int .u32 (n0 : Int), .slice A3 y1.length d3, .slice none 0 0, .int .u32 0, .slice none 0 0, .int .i64 0, .int .i64 0, .slice none 0 0] (0, 0) _ (by rfl) (setRow_heap _ _ _ _ _ _ HD1.out.res) Tryd.underlying30 rfl rfl) rfl ?_
            obtain ⟨hf1, hf2⟩ := HD1.out.fin #[.int .u8 (m1 : Int), .int .u32 (m2 : Int), .int .u32 (n0 : Int), .slice A3 y1.length d3, .slice none 0 0, .int .u32 0, .slice none 0 0, .int .i64 0, .int .i64 0, .slice none 0 0]
            refine ⟨hf1, .inl ⟨⟨(m1 : Int), (m2 : Int), (n0 : Int), y1, [], ⟨0, []⟩, 0, 0, []⟩, s1, _, ?_, rfl, ⟨_, _, _, _, rfl, ?_, ?_, ?_, ?_⟩, hf2⟩⟩
            · rw [HN.out, HBODY.out]; rw [HQ0.out]; simp only [Option.bind_some]; rw [HQ1.out]; rfl
            · have hh := jP HV3.out (jA _ w.heap.size #[.int .u8 (m1 : Int), .int .u32 (m2 : Int), .int .u32 (n0 : Int), .slice A3 y1.length d3, .slice none 0 0, .int .u32 0, .slice none 0 0, .int .i64 0, .int .i64 0, .slice none 0 0]) (by have := HD1.out.le; have := HB3.out; omega)
              have hle := Nat.le_of_lt (Nat.lt_trans HD1.out.le HB3.out)
              exact Kd.R_lower hh hle
            · exact Kd.R_nil _ _ _ _ _
            · exact Kd.R_nil _ _ _ _ _
            · exact Kd.R_nil _ _ _ _ _
      by_cases hk6 : (m1 : Int) = 6
      · have HBODY := iC.mk (show oL (m1 : Int) (m2 : Int) r2 = (intP 4 r2).bind fun x => (qG x.2).bind fun y => some (⟨(m1 : Int), (m2 : Int), 0, [], [], ⟨x.1, y.1⟩, 0, 0, []⟩, y.2) from by unfold oL; rw [if_neg hk1]; rw [if_neg hk2]; rw [if_pos hk6])
        have hka : (m1 : Int) ≤ 6 := by omega
        have hkb : 6 ≤ (m1 : Int) := by omega
        clear hk6
        go_wp2_with fail
        cases hq0 : intP 4 r2 with
        | none =>
          have hF : recP l = none := by rw [HN.out, HBODY.out]; rw [hq0]; rfl
          have HF := iC.mk hF
          refine (jY 4 4 rfl g r2 w0 _ HI.out.rd (kY hq0)).mono ?_
          rintro e wx ⟨rfl, hG⟩
          clear hF hq0
          go_wp2
          exact ⟨rfl, iT HI.out.gr hG, .inr ⟨HF.out, rfl⟩⟩
        | some y =>
          obtain ⟨y0, s0⟩ := y
          obtain ⟨n0, hy, hn0, hl0, hcall⟩ := rF 4 4 rfl (by omega) HI.out.rd HI.out.bl hq0
          subst hy
          have hnn0 : True → (n0 : Int) % 4294967296 = (n0 : Int) := fun _ => by omega
          have HQ0 := iC.mk hq0
          refine hcall.mono ?_
          rintro e w3 ⟨rfl, hR, hG⟩
          have HC0 := iC.mk (HI.out.call hR hG (by omega))
          have HD0 := iC.mk (HC0.out.store #[.int .u8 (m1 : Int), .int .u32 (m2 : Int), .int .u32 0, .slice none 0 0, .slice none 0 0, .int .u32 (n0 : Int), .slice none 0 0, .int .i64 0, .int .i64 0, .slice none 0 0])
          have hst0 := fun (_ : True) => st_5 (n0 : Int) HC0.out.x
          clear hR hG hq0 hl0 hn0 hcall
          go_wp2_with fail
          cases hq1 : qG s0 with
          | none =>
            have hF : recP l = none := by rw [HN.out, HBODY.out]; rw [HQ0.out]; simp only [Option.bind_some]; rw [hq1]; rfl
            have HF := iC.mk hF
            refine (zG g s0 w0 _ HD0.out.rd HD0.out.bl HD0.out.hg HD0.out.small).mono ?_
            intro e wx hpp
            obtain ⟨rfl, hG⟩ := hpp.short hq1
            clear hpp
            clear hF hq1
            go_wp2
            exact ⟨rfl, iT HD0.out.gr hG, .inr ⟨HF.out, rfl⟩⟩
          | some y =>
            obtain ⟨y1, s1⟩ := y
            have HQ1 := iC.mk hq1
            refine (zG g s0 w0 _ HD0.out.rd HD0.out.bl HD0.out.hg HD0.out.small).mono ?_
            intro e w4 hpp
            obtain ⟨v6, rfl, hv6, hR, hG⟩ := hpp.ok hq1
            obtain ⟨A6, d6, rfl⟩ := Kd.R_slice hv6
            have hl1 := LZ _ _ _ hq1
            clear hpp
            have HC1 := iC.mk (HD0.out.call hR hG (by omega))
            have HV6 := iC.mk hv6
            have HB6 := iC.mk HD0.out.fresh
            clear hv6
            have HD1 := iC.mk (HC1.out.store #[.int .u8 (m1 : Int), .int .u32 (m2 : Int), .int .u32 0, .slice none 0 0, .slice none 0 0, .int .u32 (n0 : Int), .slice A6 y1.length d6, .int .i64 0, .int .i64 0, .slice none 0 0])
            have HV6 := iC.mk (jP HV6.out (jA _ w2.heap.size #[.int .u8 (m1 : Int), .int .u32 (m2 : Int), .int .u32 0, .slice none 0 0, .slice none 0 0, .int .u32 (n0 : Int), .slice A6 y1.length d6, .int .i64 0, .int .i64 0, .slice none 0 0]) HB6.out)
            have hst1 := fun (_ : True) => st_6 A6 y1.length d6 HC1.out.x
            clear hR hG hq1 hl1
            have hlr := fun (_ : True) => mY HD1.out.x rfl
            have hsr := fun (_ : True) => lF (a := (m1 : Int)) (k := (m2 : Int)) (i := 0) (x3 := .slice none 0 0) (x4 := .slice none 0 0) (j := (n0 : Int)) (x6 := .slice A6 y1.length d6) (p := 0) (q := 0) (x9 := .slice none 0 0) HD1.out.res rfl rfl rfl rfl
            have hlr2 := fun (_ : True) => mY (setRow_heap (w4.setRow w2.heap.size #[.int .u8 (m1 : Int), .int .u32 (m2 : Int), .int .u32 0, .slice none 0 0, .slice none 0 0, .int .u32 (n0 : Int), .slice A6 y1.length d6, .int .i64 0, .int .i64 0, .slice none 0 0]) w.heap.size #[.int .u8 0, .int .u32 0, .int .u32 0, .slice none 0 0, .slice none 0 0, .int .u32 0, .slice none 0 0, .int .i64 0, .int .i64 0, .slice none 0 0] #[.int .u8 (m1 : Int), .int .u32 (m2 : Int), .int .u32 0, .slice none 0 0, .slice none 0 0, .int .u32 (n0 : Int), .slice A6 y1.length d6, .int .i64 0, .int .i64 0, .slice none 0 0] _ _ HD1.out.res) rfl
            go_wp2_with fail
            (try simp only [Exit.inBlock, Exit.then])
            refine bodyPost_ret (results_cell_row rfl _ _ w.heap.size 30 #[.int .u8 (m1 : Int), .int .u32 (m2 : Int), .int .u32 0, .slice none 0 0, .slice none 0 0, .int .u32 (n0 : Int), .slice A6 y1.length d6, .int .i64 0, .int .i64 0, .slice none 0 0] (0, 0) _ (by rfl) (setRow_heap _ _ _ _ _ _ HD1.out.res) Tryd.underlying30 rfl rfl) rfl ?_
            obtain ⟨hf1, hf2⟩ := HD1.out.fin #[.int .u8 (m1 : Int), .int .u32 (m2 : Int), .int .u32 0, .slice none 0 0, .slice none 0 0, .int .u32 (n0 : Int), .slice A6 y1.length d6, .int .i64 0, .int .i64 0, .slice none 0 0]
            refine ⟨hf1, .inl ⟨⟨(m1 : Int), (m2 : Int), 0, [], [], ⟨(n0 : Int), y1⟩, 0, 0, []⟩, s1, _, ?_, rfl, ⟨_, _, _, _, rfl, ?_, ?_, ?_, ?_⟩, hf2⟩⟩
            · rw [HN.out, HBODY.out]; rw [HQ0.out]; simp only [Option.bind_some]; rw [HQ1.out]; rfl
            · exact Kd.R_nil _ _ _ _ _
            · exact Kd.R_nil _ _ _ _ _
            · have hh := jP HV6.out (jA _ w.heap.size #[.int .u8 (m1 : Int), .int .u32 (m2 : Int), .int .u32 0, .slice none 0 0, .slice none 0 0, .int .u32 (n0 : Int), .slice A6 y1.length d6, .int .i64 0, .int .i64 0, .slice none 0 0]) (by have := HD1.out.le; have := HB6.out; omega)
              have hle := Nat.le_of_lt (Nat.lt_trans HD1.out.le HB6.out)
              exact Kd.R_lower hh hle
            · exact Kd.R_nil _ _ _ _ _
      by_cases hk7 : (m1 : Int) = 7
      · have HBODY := iC.mk (show oL (m1 : Int) (m2 : Int) r2 = (intP 4 r2).bind fun x => (intP 4 x.2).bind fun y => (lC y.2).bind fun z => some (⟨(m1 : Int), (m2 : Int), 0, [], [], ⟨0, []⟩, x.1, y.1, z.1⟩, z.2) from by unfold oL; rw [if_neg hk1]; rw [if_neg hk2]; rw [if_neg hk6]; rw [if_pos hk7])
        have hka : (m1 : Int) ≤ 7 := by omega
        have hkb : 7 ≤ (m1 : Int) := by omega
        clear hk7
        go_wp2_with fail
        cases hq0 : intP 4 r2 with
        | none =>
          have hF : recP l = none := by rw [HN.out, HBODY.out]; rw [hq0]; rfl
          have HF := iC.mk hF
          refine (jY 4 4 rfl g r2 w0 _ HI.out.rd (kY hq0)).mono ?_
          rintro e wx ⟨rfl, hG⟩
          clear hF hq0
          go_wp2
          exact ⟨rfl, iT HI.out.gr hG, .inr ⟨HF.out, rfl⟩⟩
        | some y =>
          obtain ⟨y0, s0⟩ := y
          obtain ⟨n0, hy, hn0, hl0, hcall⟩ := rF 4 4 rfl (by omega) HI.out.rd HI.out.bl hq0
          subst hy
          have hnn0 : True → (n0 : Int) % 4294967296 = (n0 : Int) := fun _ => by omega
          have HQ0 := iC.mk hq0
          refine hcall.mono ?_
          rintro e w3 ⟨rfl, hR, hG⟩
          have hnw0 : True → wrap64 (n0 : Int) = (n0 : Int) := fun _ => rU n0 (by omega)
          have HC0 := iC.mk (HI.out.call hR hG (by omega))
          have HD0 := iC.mk (HC0.out.store #[.int .u8 (m1 : Int), .int .u32 (m2 : Int), .int .u32 0, .slice none 0 0, .slice none 0 0, .int .u32 0, .slice none 0 0, .int .i64 (n0 : Int), .int .i64 0, .slice none 0 0])
          have hst0 := fun (_ : True) => st_7 (n0 : Int) HC0.out.x
          clear hR hG hq0 hl0 hn0 hcall
          go_wp2_with fail
          cases hq1 : intP 4 s0 with
          | none =>
            have hF : recP l = none := by rw [HN.out, HBODY.out]; rw [HQ0.out]; simp only [Option.bind_some]; rw [hq1]; rfl
            have HF := iC.mk hF
            refine (jY 4 4 rfl g s0 w0 _ HD0.out.rd (kY hq1)).mono ?_
            rintro e wx ⟨rfl, hG⟩
            clear hF hq1
            go_wp2
            exact ⟨rfl, iT HD0.out.gr hG, .inr ⟨HF.out, rfl⟩⟩
          | some y =>
            obtain ⟨y1, s1⟩ := y
            obtain ⟨n1, hy, hn1, hl1, hcall⟩ := rF 4 4 rfl (by omega) HD0.out.rd HD0.out.bl hq1
            subst hy
            have hnn1 : True → (n1 : Int) % 4294967296 = (n1 : Int) := fun _ => by omega
            have HQ1 := iC.mk hq1
            refine hcall.mono ?_
            rintro e w4 ⟨rfl, hR, hG⟩
            have hnw1 : True → wrap64 (n1 : Int) = (n1 : Int) := fun _ => rU n1 (by omega)
            have HC1 := iC.mk (HD0.out.call hR hG (by omega))
            have HD1 := iC.mk (HC1.out.store #[.int .u8 (m1 : Int), .int .u32 (m2 : Int), .int .u32 0, .slice none 0 0, .slice none 0 0, .int .u32 0, .slice none 0 0, .int .i64 (n0 : Int), .int .i64 (n1 : Int), .slice none 0 0])
            have hst1 := fun (_ : True) => st_8 (n1 : Int) HC1.out.x
            clear hR hG hq1 hl1 hn1 hcall
            go_wp2_with fail
            cases hq2 : lC s1 with
            | none =>
              have hF : recP l = none := by rw [HN.out, HBODY.out]; rw [HQ0.out]; simp only [Option.bind_some]; rw [HQ1.out]; simp only [Option.bind_some]; rw [hq2]; rfl
              have HF := iC.mk hF
              refine (vY g s1 w0 _ HD1.out.rd HD1.out.bl HD1.out.hg HD1.out.small).mono ?_
              intro e wx hpp
              obtain ⟨rfl, hG⟩ := hpp.short hq2
              clear hpp
              clear hF hq2
              go_wp2
              exact ⟨rfl, iT HD1.out.gr hG, .inr ⟨HF.out, rfl⟩⟩
            | some y =>
              obtain ⟨y2, s2⟩ := y
              have HQ2 := iC.mk hq2
              refine (vY g s1 w0 _ HD1.out.rd HD1.out.bl HD1.out.hg HD1.out.small).mono ?_
              intro e w5 hpp
              obtain ⟨v9, rfl, hv9, hR, hG⟩ := hpp.ok hq2
              obtain ⟨A9, d9, rfl⟩ := Kd.R_slice hv9
              have hl2 := IA _ _ _ hq2
              clear hpp
              have HC2 := iC.mk (HD1.out.call hR hG (by omega))
              have HV9 := iC.mk hv9
              have HB9 := iC.mk HD1.out.fresh
              clear hv9
              have HD2 := iC.mk (HC2.out.store #[.int .u8 (m1 : Int), .int .u32 (m2 : Int), .int .u32 0, .slice none 0 0, .slice none 0 0, .int .u32 0, .slice none 0 0, .int .i64 (n0 : Int), .int .i64 (n1 : Int), .slice A9 y2.length d9])
              have HV9 := iC.mk (jP HV9.out (jA _ w2.heap.size #[.int .u8 (m1 : Int), .int .u32 (m2 : Int), .int .u32 0, .slice none 0 0, .slice none 0 0, .int .u32 0, .slice none 0 0, .int .i64 (n0 : Int), .int .i64 (n1 : Int), .slice A9 y2.length d9]) HB9.out)
              have hst2 := fun (_ : True) => st_9 A9 y2.length d9 HC2.out.x
              clear hR hG hq2 hl2
              have hlr := fun (_ : True) => mY HD2.out.x rfl
              have hsr := fun (_ : True) => lF (a := (m1 : Int)) (k := (m2 : Int)) (i := 0) (x3 := .slice none 0 0) (x4 := .slice none 0 0) (j := 0) (x6 := .slice none 0 0) (p := (n0 : Int)) (q := (n1 : Int)) (x9 := .slice A9 y2.length d9) HD2.out.res rfl rfl rfl rfl
              have hlr2 := fun (_ : True) => mY (setRow_heap (w5.setRow w2.heap.size #[.int .u8 (m1 : Int), .int .u32 (m2 : Int), .int .u32 0, .slice none 0 0, .slice none 0 0, .int .u32 0, .slice none 0 0, .int .i64 (n0 : Int), .int .i64 (n1 : Int), .slice A9 y2.length d9]) w.heap.size #[.int .u8 0, .int .u32 0, .int .u32 0, .slice none 0 0, .slice none 0 0, .int .u32 0, .slice none 0 0, .int .i64 0, .int .i64 0, .slice none 0 0] #[.int .u8 (m1 : Int), .int .u32 (m2 : Int), .int .u32 0, .slice none 0 0, .slice none 0 0, .int .u32 0, .slice none 0 0, .int .i64 (n0 : Int), .int .i64 (n1 : Int), .slice A9 y2.length d9] _ _ HD2.out.res) rfl
              go_wp2_with fail
              (try simp only [Exit.inBlock, Exit.then])
              refine bodyPost_ret (results_cell_row rfl _ _ w.heap.size 30 #[.int .u8 (m1 : Int), .int .u32 (m2 : Int), .int .u32 0, .slice none 0 0, .slice none 0 0, .int .u32 0, .slice none 0 0, .int .i64 (n0 : Int), .int .i64 (n1 : Int), .slice A9 y2.length d9] (0, 0) _ (by rfl) (setRow_heap _ _ _ _ _ _ HD2.out.res) Tryd.underlying30 rfl rfl) rfl ?_
              obtain ⟨hf1, hf2⟩ := HD2.out.fin #[.int .u8 (m1 : Int), .int .u32 (m2 : Int), .int .u32 0, .slice none 0 0, .slice none 0 0, .int .u32 0, .slice none 0 0, .int .i64 (n0 : Int), .int .i64 (n1 : Int), .slice A9 y2.length d9]
              refine ⟨hf1, .inl ⟨⟨(m1 : Int), (m2 : Int), 0, [], [], ⟨0, []⟩, (n0 : Int), (n1 : Int), y2⟩, s2, _, ?_, rfl, ⟨_, _, _, _, rfl, ?_, ?_, ?_, ?_⟩, hf2⟩⟩
              · rw [HN.out, HBODY.out]; rw [HQ0.out]; simp only [Option.bind_some]; rw [HQ1.out]; simp only [Option.bind_some]; rw [HQ2.out]; rfl
              · exact Kd.R_nil _ _ _ _ _
              · exact Kd.R_nil _ _ _ _ _
              · exact Kd.R_nil _ _ _ _ _
              · have hh := jP HV9.out (jA _ w.heap.size #[.int .u8 (m1 : Int), .int .u32 (m2 : Int), .int .u32 0, .slice none 0 0, .slice none 0 0, .int .u32 0, .slice none 0 0, .int .i64 (n0 : Int), .int .i64 (n1 : Int), .slice A9 y2.length d9]) (by have := HD2.out.le; have := HB9.out; omega)
                have hle := Nat.le_of_lt (Nat.lt_trans HD2.out.le HB9.out)
                exact Kd.R_lower (Kd.R_mono hh (fun k _ => ⟨fun e => by simp [Value.ownBlock] at e, fun e => by simp [Value.ownBlock] at e⟩)) hle
      have HBODY := iC.mk (show oL (m1 : Int) (m2 : Int) r2 = some (⟨(m1 : Int), (m2 : Int), 0, [], [], ⟨0, []⟩, 0, 0, []⟩, r2) from by unfold oL; rw [if_neg hk1, if_neg hk2, if_neg hk6, if_neg hk7])
      have hlr := fun (_ : True) => mY HI.out.x rfl
      have hsr := fun (_ : True) => lF (a := (m1 : Int)) (k := (m2 : Int)) (i := 0) (x3 := .slice none 0 0) (x4 := .slice none 0 0) (j := 0) (x6 := .slice none 0 0) (p := 0) (q := 0) (x9 := .slice none 0 0) HI.out.res rfl rfl rfl rfl
      have hlr2 := fun (_ : True) => mY (setRow_heap (w2.alloc (.cells #[.int .u8 (m1 : Int), .int .u32 (m2 : Int), .int .u32 0, .slice none 0 0, .slice none 0 0, .int .u32 0, .slice none 0 0, .int .i64 0, .int .i64 0, .slice none 0 0] 30)) w.heap.size #[.int .u8 0, .int .u32 0, .int .u32 0, .slice none 0 0, .slice none 0 0, .int .u32 0, .slice none 0 0, .int .i64 0, .int .i64 0, .slice none 0 0] #[.int .u8 (m1 : Int), .int .u32 (m2 : Int), .int .u32 0, .slice none 0 0, .slice none 0 0, .int .u32 0, .slice none 0 0, .int .i64 0, .int .i64 0, .slice none 0 0] _ _ HI.out.res) rfl
      go_wp2_with fail
      (try simp only [Exit.inBlock, Exit.then])
      refine bodyPost_ret (results_cell_row rfl _ _ w.heap.size 30 #[.int .u8 (m1 : Int), .int .u32 (m2 : Int), .int .u32 0, .slice none 0 0, .slice none 0 0, .int .u32 0, .slice none 0 0, .int .i64 0, .int .i64 0, .slice none 0 0] (0, 0) _ (by rfl) (setRow_heap _ _ _ _ _ _ HI.out.res) Tryd.underlying30 rfl rfl) rfl ?_
      obtain ⟨hf1, hf2⟩ := HI.out.fin #[.int .u8 (m1 : Int), .int .u32 (m2 : Int), .int .u32 0, .slice none 0 0, .slice none 0 0, .int .u32 0, .slice none 0 0, .int .i64 0, .int .i64 0, .slice none 0 0]
      refine ⟨hf1, .inl ⟨⟨(m1 : Int), (m2 : Int), 0, [], [], ⟨0, []⟩, 0, 0, []⟩, r2, _, ?_, rfl, ⟨_, _, _, _, rfl, ?_, ?_, ?_, ?_⟩, hf2⟩⟩
      · rw [HN.out, HBODY.out]; skip
      · exact Kd.R_nil _ _ _ _ _
      · exact Kd.R_nil _ _ _ _ _
      · exact Kd.R_nil _ _ _ _ _
      · exact Kd.R_nil _ _ _ _ _
end Go.Proofs.YtgfkgppomaapiaaDoor.K
end

section
namespace Go.Proofs.YtgfkgppomaapiaaDoor.K
open Go.RowKit Go.Proofs.YtgfkgppomaapiaaDoorW.PrintWords Go.Proofs.YtgfkgppomaapiaaDoorW.PrintLast Go.Proofs.YtgfkgppomaapiaaDoorW.PrintMore
def stratumref07_SoundNodes.l0 : Nat → List Int → Int → Option (Bool)
  | 0, _, _ => none
  | k + 1, x0, x3 => if x3 < (x0.length : Int) then (if 0 ≤ x3 then (if (rd x0 x3) < 0 then (some false) else (if (rd x0 x3) > 5 then (some false) else (if x3 > 0 then (if 0 ≤ (wrap64 (x3 - 1)) then (if (wrap64 (x3 - 1)) < (x0.length : Int) then (if (rd x0 x3) ≤ (rd x0 (wrap64 (x3 - 1))) then (some false) else (stratumref07_SoundNodes.l0 k x0 (wrap64 (x3 + 1)))) else (none)) else (none)) else (stratumref07_SoundNodes.l0 k x0 (wrap64 (x3 + 1)))))) else (none)) else (some true)
def stratumref07_SoundNodes.f (k : Nat) (l0 : List Int) : Option (Bool) := stratumref07_SoundNodes.l0 k l0 0
set_option maxHeartbeats 8000000 in
set_option maxRecDepth 100000 in
theorem stratumref07_SoundNodes.calls (k : Nat) (A0 : Option Addr) (c0 : Nat) (l0 : List Int) (r : Bool) (w : World) (hr0 : Kd.C (Kd.int .i64) w A0 l0.length l0) (hc0 : l0.length ≤ c0) (h : stratumref07_SoundNodes.f k l0 = some r) :
    Calls Tryd.prog 69 #[.slice A0 l0.length c0] w fun e w' => e = .returned (.bool r) ∧ jB w w' := by
  have HR0 := iC.mk hr0
  have HC0 := iC.mk hc0
  clear hr0 hc0
  have H : (stratumref07_SoundNodes.l0 k l0 0) = some r := h
  clear h
  have H' := iC.mk H
  clear H
  go_enter Tryd.func69, Tryd.ntmps69
  go_wp2
  repeat (go_quiet (fail); try go_wp2)
  go_loopg [3] k (fun kq v3 w' => ∃ (x3_1 : Int), v3 = .int .i64 x3_1 ∧ iC (stratumref07_SoundNodes.l0 kq l0 x3_1 = some r) ∧ iC (kq ≤ k) ∧ jB w w')
  case atStart => exact ⟨(0), (by first | rfl | (simp; done) | (simp [*]; done)), H', ⟨Nat.le_refl _⟩, by repeat (first | exact jB.refl _ | apply jB.step)⟩
  case round =>
    clear H'
    obtain ⟨x3_1, rfl, HA, HK1, ⟨m1, rfl⟩⟩ := hrel
    cases gk with
    | zero => exact absurd HA.out (by simp [stratumref07_SoundNodes.l0])
    | succ k1 =>
      have H := HA.out
      clear HA
      simp only [stratumref07_SoundNodes.l0] at H
      by_cases c2 : x3_1 < (l0.length : Int)
      · rw [if_pos c2] at H
        have c2b0 : decide (x3_1 < (l0.length : Int)) = true := decide_eq_true c2
        clear c2
        by_cases c3 : 0 ≤ x3_1
        · rw [if_pos c3] at H
          have c3b0 : decide (0 ≤ x3_1) = true := decide_eq_true c3
          clear c3
          by_cases c4 : (rd l0 x3_1) < 0
          · rw [if_pos c4] at H
            have c4b0 : decide ((rd l0 x3_1) < 0) = true := decide_eq_true c4
            clear c4
            obtain rfl := Option.some.inj H
            have p117 : 0 ≤ (x3_1 : Int) := of_decide_eq_true asm_
            have q117 : x3_1 < (l0.length : Int) := of_decide_eq_true asm_
            obtain ⟨ad117, e117, hx117_0⟩ := Kd.at_int HR0.out x3_1 p117 q117
            cases e117
            replace p117 := eq_true p117
            replace q117 := eq_true q117
            go_wp2
            repeat (go_quiet (fail); try go_wp2)
            go_ret
            exact ⟨by first | rfl | (simp; done) | (simp [*]; done), by repeat (first | exact jB.refl _ | apply jB.step)⟩
          · rw [if_neg c4] at H
            have c4b0 : decide ((rd l0 x3_1) < 0) = false := decide_eq_false c4
            clear c4
            by_cases c5 : (rd l0 x3_1) > 5
            · rw [if_pos c5] at H
              have c5b0 : decide (5 < (rd l0 x3_1)) = true := decide_eq_true c5
              clear c5
              obtain rfl := Option.some.inj H
              have p117 : 0 ≤ (x3_1 : Int) := of_decide_eq_true asm_
              have q117 : x3_1 < (l0.length : Int) := of_decide_eq_true asm_
              obtain ⟨ad117, e117, hx117_0⟩ := Kd.at_int HR0.out x3_1 p117 q117
              cases e117
              replace p117 := eq_true p117
              replace q117 := eq_true q117
              have p118 : 0 ≤ (x3_1 : Int) := of_decide_eq_true asm_
              have q118 : x3_1 < (l0.length : Int) := of_decide_eq_true asm_
              obtain ⟨ad118, e118, hx118_0⟩ := Kd.at_int HR0.out x3_1 p118 q118
              obtain rfl : ad117 = ad118 := (by injection e118)
              replace p118 := eq_true p118
              replace q118 := eq_true q118
              go_wp2
              repeat (go_quiet (fail); try go_wp2)
              go_ret
              exact ⟨by first | rfl | (simp; done) | (simp [*]; done), by repeat (first | exact jB.refl _ | apply jB.step)⟩
            · rw [if_neg c5] at H
              have c5b0 : decide (5 < (rd l0 x3_1)) = false := decide_eq_false c5
              clear c5
              by_cases c6 : x3_1 > 0
              · rw [if_pos c6] at H
                have c6b0 : decide (0 < x3_1) = true := decide_eq_true c6
                clear c6
                obtain ⟨ji7, hji7⟩ : ∃ j_ : Int, (wrap64 (x3_1 - 1)) = j_ := ⟨_, rfl⟩
                replace H : (if 0 ≤ (ji7) then (if (ji7) < (l0.length : Int) then (if (rd l0 x3_1) ≤ (rd l0 (ji7)) then (some false) else (stratumref07_SoundNodes.l0 k1 l0 (wrap64 (x3_1 + 1)))) else (none)) else (none)) = some r := by first | (rw [hji7] at H; exact H) | (simp only [hji7] at H ⊢; exact H)
                have hji7w : (IntKind.i64.wrap (x3_1 - 1)) = ji7 := (iU _).trans hji7
                by_cases c8 : 0 ≤ (ji7)
                · rw [if_pos c8] at H
                  have c8b0 : decide (0 ≤ (ji7)) = true := decide_eq_true c8
                  clear c8
                  by_cases c9 : (ji7) < (l0.length : Int)
                  · rw [if_pos c9] at H
                    have c9b0 : decide ((ji7) < (l0.length : Int)) = true := decide_eq_true c9
                    clear c9
                    by_cases c10 : (rd l0 x3_1) ≤ (rd l0 (ji7))
                    · rw [if_pos c10] at H
                      have c10b0 : decide ((rd l0 x3_1) ≤ (rd l0 (ji7))) = true := decide_eq_true c10
                      clear c10
                      obtain rfl := Option.some.inj H
                      have p117 : 0 ≤ (x3_1 : Int) := of_decide_eq_true asm_
                      have q117 : x3_1 < (l0.length : Int) := of_decide_eq_true asm_
                      obtain ⟨ad117, e117, hx117_0⟩ := Kd.at_int HR0.out x3_1 p117 q117
                      cases e117
                      replace p117 := eq_true p117
                      replace q117 := eq_true q117
                      have p118 : 0 ≤ (x3_1 : Int) := of_decide_eq_true asm_
                      have q118 : x3_1 < (l0.length : Int) := of_decide_eq_true asm_
                      obtain ⟨ad118, e118, hx118_0⟩ := Kd.at_int HR0.out x3_1 p118 q118
                      obtain rfl : ad117 = ad118 := (by injection e118)
                      replace p118 := eq_true p118
                      replace q118 := eq_true q118
                      have p119 : 0 ≤ (x3_1 : Int) := of_decide_eq_true asm_
                      have q119 : x3_1 < (l0.length : Int) := of_decide_eq_true asm_
                      obtain ⟨ad119, e119, hx119_0⟩ := Kd.at_int HR0.out x3_1 p119 q119
                      obtain rfl : ad117 = ad119 := (by injection e119)
                      replace p119 := eq_true p119
                      replace q119 := eq_true q119
                      have p120 : 0 ≤ ((ji7) : Int) := of_decide_eq_true asm_
                      have q120 : (ji7) < (l0.length : Int) := of_decide_eq_true asm_
                      obtain ⟨ad120, e120, hx120_0⟩ := Kd.at_int HR0.out (ji7) p120 q120
                      obtain rfl : ad117 = ad120 := (by injection e120)
                      replace p120 := eq_true p120
                      replace q120 := eq_true q120
                      go_wp2
                      repeat (go_quiet (fail); try go_wp2)
                      go_ret
                      exact ⟨by first | rfl | (simp; done) | (simp only [← hji7] <;> (first | rfl | simp)) | (simp [*]; done), by repeat (first | exact jB.refl _ | apply jB.step)⟩
                    · rw [if_neg c10] at H
                      have c10b0 : decide ((rd l0 x3_1) ≤ (rd l0 (ji7))) = false := decide_eq_false c10
                      clear c10
                      have H' := iC.mk H
                      clear H
                      have p117 : 0 ≤ (x3_1 : Int) := of_decide_eq_true asm_
                      have q117 : x3_1 < (l0.length : Int) := of_decide_eq_true asm_
                      obtain ⟨ad117, e117, hx117_0⟩ := Kd.at_int HR0.out x3_1 p117 q117
                      cases e117
                      replace p117 := eq_true p117
                      replace q117 := eq_true q117
                      have p118 : 0 ≤ (x3_1 : Int) := of_decide_eq_true asm_
                      have q118 : x3_1 < (l0.length : Int) := of_decide_eq_true asm_
                      obtain ⟨ad118, e118, hx118_0⟩ := Kd.at_int HR0.out x3_1 p118 q118
                      obtain rfl : ad117 = ad118 := (by injection e118)
                      replace p118 := eq_true p118
                      replace q118 := eq_true q118
                      have p119 : 0 ≤ (x3_1 : Int) := of_decide_eq_true asm_
                      have q119 : x3_1 < (l0.length : Int) := of_decide_eq_true asm_
                      obtain ⟨ad119, e119, hx119_0⟩ := Kd.at_int HR0.out x3_1 p119 q119
                      obtain rfl : ad117 = ad119 := (by injection e119)
                      replace p119 := eq_true p119
                      replace q119 := eq_true q119
                      have p120 : 0 ≤ ((ji7) : Int) := of_decide_eq_true asm_
                      have q120 : (ji7) < (l0.length : Int) := of_decide_eq_true asm_
                      obtain ⟨ad120, e120, hx120_0⟩ := Kd.at_int HR0.out (ji7) p120 q120
                      obtain rfl : ad117 = ad120 := (by injection e120)
                      replace p120 := eq_true p120
                      replace q120 := eq_true q120
                      go_wp2
                      repeat (go_quiet (fail); try go_wp2)
                      go_roundg k1
                      case measure => have := HK1.out; omega
                      case rel => exact ⟨(wrap64 (x3_1 + 1)), (by first | rfl | (simp; done) | (simp [*]; done)), H', ⟨by have := HK1.out; omega⟩, by repeat (first | exact jB.refl _ | apply jB.step)⟩
                  · rw [if_neg c9] at H
                    exact absurd H (by simp)
                · rw [if_neg c8] at H
                  exact absurd H (by simp)
              · rw [if_neg c6] at H
                have c6b0 : decide (0 < x3_1) = false := decide_eq_false c6
                clear c6
                have H' := iC.mk H
                clear H
                have p117 : 0 ≤ (x3_1 : Int) := of_decide_eq_true asm_
                have q117 : x3_1 < (l0.length : Int) := of_decide_eq_true asm_
                obtain ⟨ad117, e117, hx117_0⟩ := Kd.at_int HR0.out x3_1 p117 q117
                cases e117
                replace p117 := eq_true p117
                replace q117 := eq_true q117
                have p118 : 0 ≤ (x3_1 : Int) := of_decide_eq_true asm_
                have q118 : x3_1 < (l0.length : Int) := of_decide_eq_true asm_
                obtain ⟨ad118, e118, hx118_0⟩ := Kd.at_int HR0.out x3_1 p118 q118
                obtain rfl : ad117 = ad118 := (by injection e118)
                replace p118 := eq_true p118
                replace q118 := eq_true q118
                go_wp2
                repeat (go_quiet (fail); try go_wp2)
                go_roundg k1
                case measure => have := HK1.out; omega
                case rel => exact ⟨(wrap64 (x3_1 + 1)), (by first | rfl | (simp; done) | (simp [*]; done)), H', ⟨by have := HK1.out; omega⟩, by repeat (first | exact jB.refl _ | apply jB.step)⟩
        · rw [if_neg c3] at H
          exact absurd H (by simp)
      · rw [if_neg c2] at H
        have c2b0 : decide (x3_1 < (l0.length : Int)) = false := decide_eq_false c2
        clear c2
        obtain rfl := Option.some.inj H
        go_wp2
        repeat (go_quiet (fail); try go_wp2)
        go_ret
        exact ⟨by first | rfl | (simp; done) | (simp [*]; done), by repeat (first | exact jB.refl _ | apply jB.step)⟩
end Go.Proofs.YtgfkgppomaapiaaDoor.K
end

section
namespace Go.Proofs.YtgfkgppomaapiaaDoor.K
open Go.RowKit Go.Proofs.YtgfkgppomaapiaaDoorW.PrintWords Go.Proofs.YtgfkgppomaapiaaDoorW.PrintLast Go.Proofs.YtgfkgppomaapiaaDoorW.PrintMore
mutual
def stratumref07_SoundFacts.l0 : Nat → List (S139) → Int → Option (Bool)
  | 0, _, _ => none
  | k + 1, x0, x3 => if x3 < (x0.length : Int) then (stratumref07_SoundFacts.l1 k x0 x3 0) else (some (decide ((x0.length : Int) ≤ 200)))
def stratumref07_SoundFacts.l1 : Nat → List (S139) → Int → Int → Option (Bool)
  | 0, _, _, _ => none
  | k + 1, x0, x3, x4 => if 0 ≤ x3 then (if x3 < (x0.length : Int) then (if x4 < (((iW x0 x3).f0).length : Int) then (if 0 ≤ x4 then (if (rd ((iW x0 x3).f0) x4) < 0 then (some false) else (if (rd ((iW x0 x3).f0) x4) > 9999 then (some false) else (stratumref07_SoundFacts.l1 k x0 x3 (wrap64 (x4 + 1))))) else (none)) else (if (((iW x0 x3).f0).length : Int) > 4 then (some false) else (stratumref07_SoundFacts.l0 k x0 (wrap64 (x3 + 1))))) else (none)) else (none)
end
def stratumref07_SoundFacts.f (k : Nat) (l0 : List (S139)) : Option (Bool) := stratumref07_SoundFacts.l0 k l0 0
set_option maxHeartbeats 8000000 in
set_option maxRecDepth 100000 in
theorem stratumref07_SoundFacts.calls (k : Nat) (A0 : Option Addr) (c0 : Nat) (l0 : List (S139)) (r : Bool) (w : World) (hr0 : Kd.C k139 w A0 l0.length l0) (hc0 : l0.length ≤ c0) (h : stratumref07_SoundFacts.f k l0 = some r) :
    Calls Tryd.prog 70 #[.slice A0 l0.length c0] w fun e w' => e = .returned (.bool r) ∧ jB w w' := by
  have HR0 := iC.mk hr0
  have HC0 := iC.mk hc0
  clear hr0 hc0
  have H : (stratumref07_SoundFacts.l0 k l0 0) = some r := h
  clear h
  have H' := iC.mk H
  clear H
  go_enter Tryd.func70, Tryd.ntmps70
  go_wp2
  go_loopg [3] k (fun kq v3 w' => ∃ (x3_1 : Int), v3 = .int .i64 x3_1 ∧ iC (stratumref07_SoundFacts.l0 kq l0 x3_1 = some r) ∧ iC (kq ≤ k) ∧ jB w w')
  case atStart => exact ⟨(0), (by first | rfl | (simp; done) | (simp [*]; done)), H', ⟨Nat.le_refl _⟩, by repeat (first | exact jB.refl _ | apply jB.step)⟩
  case round =>
    clear H'
    obtain ⟨x3_1, rfl, HA, HK1, ⟨m1, rfl⟩⟩ := hrel
    cases gk with
    | zero => exact absurd HA.out (by simp [stratumref07_SoundFacts.l0])
    | succ k1 =>
      have H := HA.out
      clear HA
      simp only [stratumref07_SoundFacts.l0] at H
      by_cases c2 : x3_1 < (l0.length : Int)
      · rw [if_pos c2] at H
        have c2b0 : decide (x3_1 < (l0.length : Int)) = true := decide_eq_true c2
        clear c2
        have H' := iC.mk H
        clear H
        go_wp2
        go_loopg [4] k1 (fun kq v4 w' => ∃ (x4_2 : Int), v4 = .int .i64 x4_2 ∧ iC (stratumref07_SoundFacts.l1 kq l0 x3_1 x4_2 = some r) ∧ iC (kq ≤ k1) ∧ jB w w')
        case atStart => exact ⟨(0), (by first | rfl | (simp; done) | (simp [*]; done)), H', ⟨Nat.le_refl _⟩, by repeat (first | exact jB.refl _ | apply jB.step)⟩
        case round =>
          clear H'
          try clear c2
          try clear c2b0
          try clear p2
          obtain ⟨x4_2, rfl, HA, HK2, ⟨m2, rfl⟩⟩ := hrel
          cases gk with
          | zero => exact absurd HA.out (by simp [stratumref07_SoundFacts.l1])
          | succ k2 =>
            have H := HA.out
            clear HA
            simp only [stratumref07_SoundFacts.l1] at H
            by_cases c3 : 0 ≤ x3_1
            · rw [if_pos c3] at H
              have c3b0 : decide (0 ≤ x3_1) = true := decide_eq_true c3
              clear c3
              by_cases c4 : x3_1 < (l0.length : Int)
              · rw [if_pos c4] at H
                have c4b0 : decide (x3_1 < (l0.length : Int)) = true := decide_eq_true c4
                clear c4
                by_cases c5 : x4_2 < (((iW l0 x3_1).f0).length : Int)
                · rw [if_pos c5] at H
                  have c5b0 : decide (x4_2 < (((iW l0 x3_1).f0).length : Int)) = true := decide_eq_true c5
                  clear c5
                  by_cases c6 : 0 ≤ x4_2
                  · rw [if_pos c6] at H
                    have c6b0 : decide (0 ≤ x4_2) = true := decide_eq_true c6
                    clear c6
                    by_cases c7 : (rd ((iW l0 x3_1).f0) x4_2) < 0
                    · rw [if_pos c7] at H
                      have c7b0 : decide ((rd ((iW l0 x3_1).f0) x4_2) < 0) = true := decide_eq_true c7
                      clear c7
                      obtain rfl := Option.some.inj H
                      have p121 : 0 ≤ (x3_1 : Int) := of_decide_eq_true asm_
                      have q121 : x3_1 < (l0.length : Int) := of_decide_eq_true asm_
                      obtain ⟨ad121, A121_0, c121_0, e121, hx121_0, hx121_1, hl121_0, hi121_0⟩ := kU HR0.out x3_1 p121 q121
                      cases e121
                      have HR121_0 := iC.mk hi121_0
                      have HC121_0 := iC.mk hl121_0
                      clear hi121_0 hl121_0
                      replace p121 := eq_true p121
                      replace q121 := eq_true q121
                      have p122 : 0 ≤ (x3_1 : Int) := of_decide_eq_true asm_
                      have q122 : x3_1 < (l0.length : Int) := of_decide_eq_true asm_
                      obtain ⟨ad122, A122_0, c122_0, e122, hx122_0, hx122_1, hl122_0, hi122_0⟩ := kU HR0.out x3_1 p122 q122
                      obtain rfl : ad121 = ad122 := (by injection e122)
                      have HR122_0 := iC.mk hi122_0
                      have HC122_0 := iC.mk hl122_0
                      clear hi122_0 hl122_0
                      replace p122 := eq_true p122
                      replace q122 := eq_true q122
                      have ea_ := Option.some.inj (hx121_0.symm.trans hx122_0)
                      injection ea_ with ea_ en_ ec_
                      subst ea_
                      subst ec_
                      clear en_
                      have p123 : 0 ≤ (x4_2 : Int) := of_decide_eq_true asm_
                      have q123 : x4_2 < (((iW l0 x3_1).f0).length : Int) := of_decide_eq_true asm_
                      obtain ⟨ad123, e123, hx123_0⟩ := Kd.at_int HR122_0.out x4_2 p123 q123
                      cases e123
                      replace p123 := eq_true p123
                      replace q123 := eq_true q123
                      go_wp2
                      go_ret
                      exact ⟨by first | rfl | (simp; done) | (simp [*]; done), by repeat (first | exact jB.refl _ | apply jB.step)⟩
                    · rw [if_neg c7] at H
                      have c7b0 : decide ((rd ((iW l0 x3_1).f0) x4_2) < 0) = false := decide_eq_false c7
                      clear c7
                      by_cases c8 : (rd ((iW l0 x3_1).f0) x4_2) > 9999
                      · rw [if_pos c8] at H
                        have c8b0 : decide (9999 < (rd ((iW l0 x3_1).f0) x4_2)) = true := decide_eq_true c8
                        clear c8
                        obtain rfl := Option.some.inj H
                        have p121 : 0 ≤ (x3_1 : Int) := of_decide_eq_true asm_
                        have q121 : x3_1 < (l0.length : Int) := of_decide_eq_true asm_
                        obtain ⟨ad121, A121_0, c121_0, e121, hx121_0, hx121_1, hl121_0, hi121_0⟩ := kU HR0.out x3_1 p121 q121
                        cases e121
                        have HR121_0 := iC.mk hi121_0
                        have HC121_0 := iC.mk hl121_0
                        clear hi121_0 hl121_0
                        replace p121 := eq_true p121
                        replace q121 := eq_true q121
                        have p122 : 0 ≤ (x3_1 : Int) := of_decide_eq_true asm_
                        have q122 : x3_1 < (l0.length : Int) := of_decide_eq_true asm_
                        obtain ⟨ad122, A122_0, c122_0, e122, hx122_0, hx122_1, hl122_0, hi122_0⟩ := kU HR0.out x3_1 p122 q122
                        obtain rfl : ad121 = ad122 := (by injection e122)
                        have HR122_0 := iC.mk hi122_0
                        have HC122_0 := iC.mk hl122_0
                        clear hi122_0 hl122_0
                        replace p122 := eq_true p122
                        replace q122 := eq_true q122
                        have ea_ := Option.some.inj (hx121_0.symm.trans hx122_0)
                        injection ea_ with ea_ en_ ec_
                        subst ea_
                        subst ec_
                        clear en_
                        have p123 : 0 ≤ (x4_2 : Int) := of_decide_eq_true asm_
                        have q123 : x4_2 < (((iW l0 x3_1).f0).length : Int) := of_decide_eq_true asm_
                        obtain ⟨ad123, e123, hx123_0⟩ := Kd.at_int HR122_0.out x4_2 p123 q123
                        cases e123
                        replace p123 := eq_true p123
                        replace q123 := eq_true q123
                        have p124 : 0 ≤ (x3_1 : Int) := of_decide_eq_true asm_
                        have q124 : x3_1 < (l0.length : Int) := of_decide_eq_true asm_
                        obtain ⟨ad124, A124_0, c124_0, e124, hx124_0, hx124_1, hl124_0, hi124_0⟩ := kU HR0.out x3_1 p124 q124
                        obtain rfl : ad121 = ad124 := (by injection e124)
                        have HR124_0 := iC.mk hi124_0
                        have HC124_0 := iC.mk hl124_0
                        clear hi124_0 hl124_0
                        replace p124 := eq_true p124
                        replace q124 := eq_true q124
                        have ea_ := Option.some.inj (hx121_0.symm.trans hx124_0)
                        injection ea_ with ea_ en_ ec_
                        subst ea_
                        subst ec_
                        clear en_
                        have p125 : 0 ≤ (x4_2 : Int) := of_decide_eq_true asm_
                        have q125 : x4_2 < (((iW l0 x3_1).f0).length : Int) := of_decide_eq_true asm_
                        obtain ⟨ad125, e125, hx125_0⟩ := Kd.at_int HR124_0.out x4_2 p125 q125
                        cases e125
                        replace p125 := eq_true p125
                        replace q125 := eq_true q125
                        go_wp2
                        go_ret
                        exact ⟨by first | rfl | (simp; done) | (simp [*]; done), by repeat (first | exact jB.refl _ | apply jB.step)⟩
                      · rw [if_neg c8] at H
                        have c8b0 : decide (9999 < (rd ((iW l0 x3_1).f0) x4_2)) = false := decide_eq_false c8
                        clear c8
                        have H' := iC.mk H
                        clear H
                        have p121 : 0 ≤ (x3_1 : Int) := of_decide_eq_true asm_
                        have q121 : x3_1 < (l0.length : Int) := of_decide_eq_true asm_
                        obtain ⟨ad121, A121_0, c121_0, e121, hx121_0, hx121_1, hl121_0, hi121_0⟩ := kU HR0.out x3_1 p121 q121
                        cases e121
                        have HR121_0 := iC.mk hi121_0
                        have HC121_0 := iC.mk hl121_0
                        clear hi121_0 hl121_0
                        replace p121 := eq_true p121
                        replace q121 := eq_true q121
                        have p122 : 0 ≤ (x3_1 : Int) := of_decide_eq_true asm_
                        have q122 : x3_1 < (l0.length : Int) := of_decide_eq_true asm_
                        obtain ⟨ad122, A122_0, c122_0, e122, hx122_0, hx122_1, hl122_0, hi122_0⟩ := kU HR0.out x3_1 p122 q122
                        obtain rfl : ad121 = ad122 := (by injection e122)
                        have HR122_0 := iC.mk hi122_0
                        have HC122_0 := iC.mk hl122_0
                        clear hi122_0 hl122_0
                        replace p122 := eq_true p122
                        replace q122 := eq_true q122
                        have ea_ := Option.some.inj (hx121_0.symm.trans hx122_0)
                        injection ea_ with ea_ en_ ec_
                        subst ea_
                        subst ec_
                        clear en_
                        have p123 : 0 ≤ (x4_2 : Int) := of_decide_eq_true asm_
                        have q123 : x4_2 < (((iW l0 x3_1).f0).length : Int) := of_decide_eq_true asm_
                        obtain ⟨ad123, e123, hx123_0⟩ := Kd.at_int HR122_0.out x4_2 p123 q123
                        cases e123
                        replace p123 := eq_true p123
                        replace q123 := eq_true q123
                        have p124 : 0 ≤ (x3_1 : Int) := of_decide_eq_true asm_
                        have q124 : x3_1 < (l0.length : Int) := of_decide_eq_true asm_
                        obtain ⟨ad124, A124_0, c124_0, e124, hx124_0, hx124_1, hl124_0, hi124_0⟩ := kU HR0.out x3_1 p124 q124
                        obtain rfl : ad121 = ad124 := (by injection e124)
                        have HR124_0 := iC.mk hi124_0
                        have HC124_0 := iC.mk hl124_0
                        clear hi124_0 hl124_0
                        replace p124 := eq_true p124
                        replace q124 := eq_true q124
                        have ea_ := Option.some.inj (hx121_0.symm.trans hx124_0)
                        injection ea_ with ea_ en_ ec_
                        subst ea_
                        subst ec_
                        clear en_
                        have p125 : 0 ≤ (x4_2 : Int) := of_decide_eq_true asm_
                        have q125 : x4_2 < (((iW l0 x3_1).f0).length : Int) := of_decide_eq_true asm_
                        obtain ⟨ad125, e125, hx125_0⟩ := Kd.at_int HR124_0.out x4_2 p125 q125
                        cases e125
                        replace p125 := eq_true p125
                        replace q125 := eq_true q125
                        go_wp2
                        go_roundg k2
                        case measure => have := HK1.out; have := HK2.out; omega
                        case rel => exact ⟨(wrap64 (x4_2 + 1)), (by first | rfl | (simp; done) | (simp [*]; done)), H', ⟨by have := HK1.out; have := HK2.out; omega⟩, by repeat (first | exact jB.refl _ | apply jB.step)⟩
                  · rw [if_neg c6] at H
                    exact absurd H (by simp)
                · rw [if_neg c5] at H
                  have c5b0 : decide (x4_2 < (((iW l0 x3_1).f0).length : Int)) = false := decide_eq_false c5
                  clear c5
                  by_cases c9 : (((iW l0 x3_1).f0).length : Int) > 4
                  · rw [if_pos c9] at H
                    have c9b0 : decide (4 < (((iW l0 x3_1).f0).length : Int)) = true := decide_eq_true c9
                    have c9b1 : decide (4 < ((iW l0 x3_1).f0).length) = true := decide_eq_true (by omega)
                    clear c9
                    obtain rfl := Option.some.inj H
                    have p121 : 0 ≤ (x3_1 : Int) := of_decide_eq_true asm_
                    have q121 : x3_1 < (l0.length : Int) := of_decide_eq_true asm_
                    obtain ⟨ad121, A121_0, c121_0, e121, hx121_0, hx121_1, hl121_0, hi121_0⟩ := kU HR0.out x3_1 p121 q121
                    cases e121
                    have HR121_0 := iC.mk hi121_0
                    have HC121_0 := iC.mk hl121_0
                    clear hi121_0 hl121_0
                    replace p121 := eq_true p121
                    replace q121 := eq_true q121
                    have p126 : 0 ≤ (x3_1 : Int) := of_decide_eq_true asm_
                    have q126 : x3_1 < (l0.length : Int) := of_decide_eq_true asm_
                    obtain ⟨ad126, A126_0, c126_0, e126, hx126_0, hx126_1, hl126_0, hi126_0⟩ := kU HR0.out x3_1 p126 q126
                    obtain rfl : ad121 = ad126 := (by injection e126)
                    have HR126_0 := iC.mk hi126_0
                    have HC126_0 := iC.mk hl126_0
                    clear hi126_0 hl126_0
                    replace p126 := eq_true p126
                    replace q126 := eq_true q126
                    have ea_ := Option.some.inj (hx121_0.symm.trans hx126_0)
                    injection ea_ with ea_ en_ ec_
                    subst ea_
                    subst ec_
                    clear en_
                    go_wp2
                    go_ret
                    exact ⟨by first | rfl | (simp; done) | (simp [*]; done), by repeat (first | exact jB.refl _ | apply jB.step)⟩
                  · rw [if_neg c9] at H
                    have c9b0 : decide (4 < (((iW l0 x3_1).f0).length : Int)) = false := decide_eq_false c9
                    have c9b1 : decide (4 < ((iW l0 x3_1).f0).length) = false := decide_eq_false (by omega)
                    clear c9
                    have H' := iC.mk H
                    clear H
                    have p121 : 0 ≤ (x3_1 : Int) := of_decide_eq_true asm_
                    have q121 : x3_1 < (l0.length : Int) := of_decide_eq_true asm_
                    obtain ⟨ad121, A121_0, c121_0, e121, hx121_0, hx121_1, hl121_0, hi121_0⟩ := kU HR0.out x3_1 p121 q121
                    cases e121
                    have HR121_0 := iC.mk hi121_0
                    have HC121_0 := iC.mk hl121_0
                    clear hi121_0 hl121_0
                    replace p121 := eq_true p121
                    replace q121 := eq_true q121
                    have p126 : 0 ≤ (x3_1 : Int) := of_decide_eq_true asm_
                    have q126 : x3_1 < (l0.length : Int) := of_decide_eq_true asm_
                    obtain ⟨ad126, A126_0, c126_0, e126, hx126_0, hx126_1, hl126_0, hi126_0⟩ := kU HR0.out x3_1 p126 q126
                    obtain rfl : ad121 = ad126 := (by injection e126)
                    have HR126_0 := iC.mk hi126_0
                    have HC126_0 := iC.mk hl126_0
                    clear hi126_0 hl126_0
                    replace p126 := eq_true p126
                    replace q126 := eq_true q126
                    have ea_ := Option.some.inj (hx121_0.symm.trans hx126_0)
                    injection ea_ with ea_ en_ ec_
                    subst ea_
                    subst ec_
                    clear en_
                    go_wp2
                    go_roundg k2
                    case measure => have := HK1.out; have := HK2.out; omega
                    case rel => exact ⟨(wrap64 (x3_1 + 1)), (by first | rfl | (simp; done) | (simp [*]; done)), H', ⟨by have := HK1.out; have := HK2.out; omega⟩, by repeat (first | exact jB.refl _ | apply jB.step)⟩
              · rw [if_neg c4] at H
                exact absurd H (by simp)
            · rw [if_neg c3] at H
              exact absurd H (by simp)
      · rw [if_neg c2] at H
        have c2b0 : decide (x3_1 < (l0.length : Int)) = false := decide_eq_false c2
        clear c2
        obtain rfl := Option.some.inj H
        go_wp2
        go_ret
        exact ⟨by first | rfl | (simp; done) | (simp [*]; done), by repeat (first | exact jB.refl _ | apply jB.step)⟩
end Go.Proofs.YtgfkgppomaapiaaDoor.K
end

section
namespace Go.Proofs.YtgfkgppomaapiaaDoor.K
open Go.RowKit Go.Proofs.YtgfkgppomaapiaaDoorW.PrintWords Go.Proofs.YtgfkgppomaapiaaDoorW.PrintLast Go.Proofs.YtgfkgppomaapiaaDoorW.PrintMore
def stratumref07_spans.l0 : Nat → List (S98) → Int → Option (Bool)
  | 0, _, _ => none
  | k + 1, x0, x3 => if x3 < (x0.length : Int) then (if 0 ≤ x3 then (if ((jO x0 x3).f0) < 0 then (some false) else (if ((jO x0 x3).f0) > 9999 then (some false) else (if ((jO x0 x3).f1) < 0 then (some false) else (if ((jO x0 x3).f1) > 5 then (some false) else (stratumref07_spans.l0 k x0 (wrap64 (x3 + 1))))))) else (none)) else (some (decide ((x0.length : Int) ≤ 40)))
def stratumref07_spans.f (k : Nat) (l0 : List (S98)) : Option (Bool) := stratumref07_spans.l0 k l0 0
set_option maxHeartbeats 8000000 in
set_option maxRecDepth 100000 in
theorem stratumref07_spans.calls (k : Nat) (A0 : Option Addr) (c0 : Nat) (l0 : List (S98)) (r : Bool) (w : World) (hr0 : Kd.C k98 w A0 l0.length l0) (hc0 : l0.length ≤ c0) (h : stratumref07_spans.f k l0 = some r) :
    Calls Tryd.prog 71 #[.slice A0 l0.length c0] w fun e w' => e = .returned (.bool r) ∧ jB w w' := by
  have HR0 := iC.mk hr0
  have HC0 := iC.mk hc0
  clear hr0 hc0
  have H : (stratumref07_spans.l0 k l0 0) = some r := h
  clear h
  have H' := iC.mk H
  clear H
  go_enter Tryd.func71, Tryd.ntmps71
  go_wp2
  go_loopg [3] k (fun kq v3 w' => ∃ (x3_1 : Int), v3 = .int .i64 x3_1 ∧ iC (stratumref07_spans.l0 kq l0 x3_1 = some r) ∧ iC (kq ≤ k) ∧ jB w w')
  case atStart => exact ⟨(0), (by first | rfl | (simp; done) | (simp [*]; done)), H', ⟨Nat.le_refl _⟩, by repeat (first | exact jB.refl _ | apply jB.step)⟩
  case round =>
    clear H'
    obtain ⟨x3_1, rfl, HA, HK1, ⟨m1, rfl⟩⟩ := hrel
    cases gk with
    | zero => exact absurd HA.out (by simp [stratumref07_spans.l0])
    | succ k1 =>
      have H := HA.out
      clear HA
      simp only [stratumref07_spans.l0] at H
      by_cases c2 : x3_1 < (l0.length : Int)
      · rw [if_pos c2] at H
        have c2b0 : decide (x3_1 < (l0.length : Int)) = true := decide_eq_true c2
        clear c2
        by_cases c3 : 0 ≤ x3_1
        · rw [if_pos c3] at H
          have c3b0 : decide (0 ≤ x3_1) = true := decide_eq_true c3
          clear c3
          by_cases c4 : ((jO l0 x3_1).f0) < 0
          · rw [if_pos c4] at H
            have c4b0 : decide (((jO l0 x3_1).f0) < 0) = true := decide_eq_true c4
            clear c4
            obtain rfl := Option.some.inj H
            have p127 : 0 ≤ (x3_1 : Int) := of_decide_eq_true asm_
            have q127 : x3_1 < (l0.length : Int) := of_decide_eq_true asm_
            obtain ⟨ad127, e127, hx127_0, hx127_1⟩ := lT HR0.out x3_1 p127 q127
            cases e127
            replace p127 := eq_true p127
            replace q127 := eq_true q127
            go_wp2
            go_ret
            exact ⟨by first | rfl | (simp; done) | (simp [*]; done), by repeat (first | exact jB.refl _ | apply jB.step)⟩
          · rw [if_neg c4] at H
            have c4b0 : decide (((jO l0 x3_1).f0) < 0) = false := decide_eq_false c4
            clear c4
            by_cases c5 : ((jO l0 x3_1).f0) > 9999
            · rw [if_pos c5] at H
              have c5b0 : decide (9999 < ((jO l0 x3_1).f0)) = true := decide_eq_true c5
              clear c5
              obtain rfl := Option.some.inj H
              have p127 : 0 ≤ (x3_1 : Int) := of_decide_eq_true asm_
              have q127 : x3_1 < (l0.length : Int) := of_decide_eq_true asm_
              obtain ⟨ad127, e127, hx127_0, hx127_1⟩ := lT HR0.out x3_1 p127 q127
              cases e127
              replace p127 := eq_true p127
              replace q127 := eq_true q127
              have p128 : 0 ≤ (x3_1 : Int) := of_decide_eq_true asm_
              have q128 : x3_1 < (l0.length : Int) := of_decide_eq_true asm_
              obtain ⟨ad128, e128, hx128_0, hx128_1⟩ := lT HR0.out x3_1 p128 q128
              obtain rfl : ad127 = ad128 := (by injection e128)
              replace p128 := eq_true p128
              replace q128 := eq_true q128
              go_wp2
              go_ret
              exact ⟨by first | rfl | (simp; done) | (simp [*]; done), by repeat (first | exact jB.refl _ | apply jB.step)⟩
            · rw [if_neg c5] at H
              have c5b0 : decide (9999 < ((jO l0 x3_1).f0)) = false := decide_eq_false c5
              clear c5
              by_cases c6 : ((jO l0 x3_1).f1) < 0
              · rw [if_pos c6] at H
                have c6b0 : decide (((jO l0 x3_1).f1) < 0) = true := decide_eq_true c6
                clear c6
                obtain rfl := Option.some.inj H
                have p127 : 0 ≤ (x3_1 : Int) := of_decide_eq_true asm_
                have q127 : x3_1 < (l0.length : Int) := of_decide_eq_true asm_
                obtain ⟨ad127, e127, hx127_0, hx127_1⟩ := lT HR0.out x3_1 p127 q127
                cases e127
                replace p127 := eq_true p127
                replace q127 := eq_true q127
                have p128 : 0 ≤ (x3_1 : Int) := of_decide_eq_true asm_
                have q128 : x3_1 < (l0.length : Int) := of_decide_eq_true asm_
                obtain ⟨ad128, e128, hx128_0, hx128_1⟩ := lT HR0.out x3_1 p128 q128
                obtain rfl : ad127 = ad128 := (by injection e128)
                replace p128 := eq_true p128
                replace q128 := eq_true q128
                have p129 : 0 ≤ (x3_1 : Int) := of_decide_eq_true asm_
                have q129 : x3_1 < (l0.length : Int) := of_decide_eq_true asm_
                obtain ⟨ad129, e129, hx129_0, hx129_1⟩ := lT HR0.out x3_1 p129 q129
                obtain rfl : ad127 = ad129 := (by injection e129)
                replace p129 := eq_true p129
                replace q129 := eq_true q129
                go_wp2
                go_ret
                exact ⟨by first | rfl | (simp; done) | (simp [*]; done), by repeat (first | exact jB.refl _ | apply jB.step)⟩
              · rw [if_neg c6] at H
                have c6b0 : decide (((jO l0 x3_1).f1) < 0) = false := decide_eq_false c6
                clear c6
                by_cases c7 : ((jO l0 x3_1).f1) > 5
                · rw [if_pos c7] at H
                  have c7b0 : decide (5 < ((jO l0 x3_1).f1)) = true := decide_eq_true c7
                  clear c7
                  obtain rfl := Option.some.inj H
                  have p127 : 0 ≤ (x3_1 : Int) := of_decide_eq_true asm_
                  have q127 : x3_1 < (l0.length : Int) := of_decide_eq_true asm_
                  obtain ⟨ad127, e127, hx127_0, hx127_1⟩ := lT HR0.out x3_1 p127 q127
                  cases e127
                  replace p127 := eq_true p127
                  replace q127 := eq_true q127
                  have p128 : 0 ≤ (x3_1 : Int) := of_decide_eq_true asm_
                  have q128 : x3_1 < (l0.length : Int) := of_decide_eq_true asm_
                  obtain ⟨ad128, e128, hx128_0, hx128_1⟩ := lT HR0.out x3_1 p128 q128
                  obtain rfl : ad127 = ad128 := (by injection e128)
                  replace p128 := eq_true p128
                  replace q128 := eq_true q128
                  have p129 : 0 ≤ (x3_1 : Int) := of_decide_eq_true asm_
                  have q129 : x3_1 < (l0.length : Int) := of_decide_eq_true asm_
                  obtain ⟨ad129, e129, hx129_0, hx129_1⟩ := lT HR0.out x3_1 p129 q129
                  obtain rfl : ad127 = ad129 := (by injection e129)
                  replace p129 := eq_true p129
                  replace q129 := eq_true q129
                  have p130 : 0 ≤ (x3_1 : Int) := of_decide_eq_true asm_
                  have q130 : x3_1 < (l0.length : Int) := of_decide_eq_true asm_
                  obtain ⟨ad130, e130, hx130_0, hx130_1⟩ := lT HR0.out x3_1 p130 q130
                  obtain rfl : ad127 = ad130 := (by injection e130)
                  replace p130 := eq_true p130
                  replace q130 := eq_true q130
                  go_wp2
                  go_ret
                  exact ⟨by first | rfl | (simp; done) | (simp [*]; done), by repeat (first | exact jB.refl _ | apply jB.step)⟩
                · rw [if_neg c7] at H
                  have c7b0 : decide (5 < ((jO l0 x3_1).f1)) = false := decide_eq_false c7
                  clear c7
                  have H' := iC.mk H
                  clear H
                  have p127 : 0 ≤ (x3_1 : Int) := of_decide_eq_true asm_
                  have q127 : x3_1 < (l0.length : Int) := of_decide_eq_true asm_
                  obtain ⟨ad127, e127, hx127_0, hx127_1⟩ := lT HR0.out x3_1 p127 q127
                  cases e127
                  replace p127 := eq_true p127
                  replace q127 := eq_true q127
                  have p128 : 0 ≤ (x3_1 : Int) := of_decide_eq_true asm_
                  have q128 : x3_1 < (l0.length : Int) := of_decide_eq_true asm_
                  obtain ⟨ad128, e128, hx128_0, hx128_1⟩ := lT HR0.out x3_1 p128 q128
                  obtain rfl : ad127 = ad128 := (by injection e128)
                  replace p128 := eq_true p128
                  replace q128 := eq_true q128
                  have p129 : 0 ≤ (x3_1 : Int) := of_decide_eq_true asm_
                  have q129 : x3_1 < (l0.length : Int) := of_decide_eq_true asm_
                  obtain ⟨ad129, e129, hx129_0, hx129_1⟩ := lT HR0.out x3_1 p129 q129
                  obtain rfl : ad127 = ad129 := (by injection e129)
                  replace p129 := eq_true p129
                  replace q129 := eq_true q129
                  have p130 : 0 ≤ (x3_1 : Int) := of_decide_eq_true asm_
                  have q130 : x3_1 < (l0.length : Int) := of_decide_eq_true asm_
                  obtain ⟨ad130, e130, hx130_0, hx130_1⟩ := lT HR0.out x3_1 p130 q130
                  obtain rfl : ad127 = ad130 := (by injection e130)
                  replace p130 := eq_true p130
                  replace q130 := eq_true q130
                  go_wp2
                  go_roundg k1
                  case measure => have := HK1.out; omega
                  case rel => exact ⟨(wrap64 (x3_1 + 1)), (by first | rfl | (simp; done) | (simp [*]; done)), H', ⟨by have := HK1.out; omega⟩, by repeat (first | exact jB.refl _ | apply jB.step)⟩
        · rw [if_neg c3] at H
          exact absurd H (by simp)
      · rw [if_neg c2] at H
        have c2b0 : decide (x3_1 < (l0.length : Int)) = false := decide_eq_false c2
        clear c2
        obtain rfl := Option.some.inj H
        go_wp2
        go_ret
        exact ⟨by first | rfl | (simp; done) | (simp [*]; done), by repeat (first | exact jB.refl _ | apply jB.step)⟩
end Go.Proofs.YtgfkgppomaapiaaDoor.K
end

section
namespace Go.Proofs.YtgfkgppomaapiaaDoor.K
open Go.RowKit Go.Proofs.YtgfkgppomaapiaaDoorW.PrintWords Go.Proofs.YtgfkgppomaapiaaDoorW.PrintLast Go.Proofs.YtgfkgppomaapiaaDoorW.PrintMore
def stratumref07_SoundEntries.l0 : Nat → List (S86) → Int → Option (Bool)
  | 0, _, _ => none
  | k + 1, x0, x3 => if x3 < (x0.length : Int) then (if 0 ≤ x3 then ((stratumref07_SoundFacts.f k ((iQ x0 x3).f1)).bind fun t132 => (if t132 = true then (if x3 > 0 then (if 0 ≤ (wrap64 (x3 - 1)) then (if (wrap64 (x3 - 1)) < (x0.length : Int) then (if ((iQ x0 x3).f0) ≤ ((iQ x0 (wrap64 (x3 - 1))).f0) then (some false) else (stratumref07_SoundEntries.l0 k x0 (wrap64 (x3 + 1)))) else (none)) else (none)) else (stratumref07_SoundEntries.l0 k x0 (wrap64 (x3 + 1)))) else (some false))) else (none)) else (some (decide ((x0.length : Int) ≤ 5000)))
def stratumref07_SoundEntries.f (k : Nat) (l0 : List (S86)) : Option (Bool) := stratumref07_SoundEntries.l0 k l0 0
set_option maxHeartbeats 8000000 in
set_option maxRecDepth 100000 in
theorem stratumref07_SoundEntries.calls (k : Nat) (A0 : Option Addr) (c0 : Nat) (l0 : List (S86)) (r : Bool) (w : World) (hr0 : Kd.C k86 w A0 l0.length l0) (hc0 : l0.length ≤ c0) (h : stratumref07_SoundEntries.f k l0 = some r) :
    Calls Tryd.prog 72 #[.slice A0 l0.length c0] w fun e w' => e = .returned (.bool r) ∧ jB w w' := by
  have HR0 := iC.mk hr0
  have HC0 := iC.mk hc0
  clear hr0 hc0
  have H : (stratumref07_SoundEntries.l0 k l0 0) = some r := h
  clear h
  have H' := iC.mk H
  clear H
  go_enter Tryd.func72, Tryd.ntmps72
  go_wp2
  repeat (go_quiet (fail); try go_wp2)
  go_loopg [3] k (fun kq v3 w' => ∃ (x3_1 : Int), v3 = .int .i64 x3_1 ∧ iC (stratumref07_SoundEntries.l0 kq l0 x3_1 = some r) ∧ iC (kq ≤ k) ∧ jB w w')
  case atStart => exact ⟨(0), (by first | rfl | (simp; done) | (simp [*]; done)), H', ⟨Nat.le_refl _⟩, by repeat (first | exact jB.refl _ | apply jB.step)⟩
  case round =>
    clear H'
    obtain ⟨x3_1, rfl, HA, HK1, ⟨m1, rfl⟩⟩ := hrel
    cases gk with
    | zero => exact absurd HA.out (by simp [stratumref07_SoundEntries.l0])
    | succ k1 =>
      have H := HA.out
      clear HA
      simp only [stratumref07_SoundEntries.l0] at H
      by_cases c2 : x3_1 < (l0.length : Int)
      · rw [if_pos c2] at H
        have c2b0 : decide (x3_1 < (l0.length : Int)) = true := decide_eq_true c2
        clear c2
        by_cases c3 : 0 ≤ x3_1
        · rw [if_pos c3] at H
          have c3b0 : decide (0 ≤ x3_1) = true := decide_eq_true c3
          clear c3
          replace H := Option.bind_eq_some_iff.mp H
          obtain ⟨t132, A40, H⟩ := H
          replace H : (if t132 = true then (if x3_1 > 0 then (if 0 ≤ (wrap64 (x3_1 - 1)) then (if (wrap64 (x3_1 - 1)) < (l0.length : Int) then (if ((iQ l0 x3_1).f0) ≤ ((iQ l0 (wrap64 (x3_1 - 1))).f0) then (some false) else (stratumref07_SoundEntries.l0 k1 l0 (wrap64 (x3_1 + 1)))) else (none)) else (none)) else (stratumref07_SoundEntries.l0 k1 l0 (wrap64 (x3_1 + 1)))) else (some false)) = some r := H
          have A4 := iC.mk A40
          clear A40
          by_cases c5 : t132 = true
          · subst c5
            have H1 : (if x3_1 > 0 then (if 0 ≤ (wrap64 (x3_1 - 1)) then (if (wrap64 (x3_1 - 1)) < (l0.length : Int) then (if ((iQ l0 x3_1).f0) ≤ ((iQ l0 (wrap64 (x3_1 - 1))).f0) then (some false) else (stratumref07_SoundEntries.l0 k1 l0 (wrap64 (x3_1 + 1)))) else (none)) else (none)) else (stratumref07_SoundEntries.l0 k1 l0 (wrap64 (x3_1 + 1)))) = some r := by rw [if_pos rfl] at H; exact H
            clear H
            have H := H1
            clear H1
            by_cases c6 : x3_1 > 0
            · rw [if_pos c6] at H
              have c6b0 : decide (0 < x3_1) = true := decide_eq_true c6
              clear c6
              obtain ⟨ji7, hji7⟩ : ∃ j_ : Int, (wrap64 (x3_1 - 1)) = j_ := ⟨_, rfl⟩
              replace H : (if 0 ≤ (ji7) then (if (ji7) < (l0.length : Int) then (if ((iQ l0 x3_1).f0) ≤ ((iQ l0 (ji7)).f0) then (some false) else (stratumref07_SoundEntries.l0 k1 l0 (wrap64 (x3_1 + 1)))) else (none)) else (none)) = some r := by first | (rw [hji7] at H; exact H) | (simp only [hji7] at H ⊢; exact H)
              (try rw [hji7] at A4)
              have hji7w : (IntKind.i64.wrap (x3_1 - 1)) = ji7 := (iU _).trans hji7
              by_cases c8 : 0 ≤ (ji7)
              · rw [if_pos c8] at H
                have c8b0 : decide (0 ≤ (ji7)) = true := decide_eq_true c8
                clear c8
                by_cases c9 : (ji7) < (l0.length : Int)
                · rw [if_pos c9] at H
                  have c9b0 : decide ((ji7) < (l0.length : Int)) = true := decide_eq_true c9
                  clear c9
                  by_cases c10 : ((iQ l0 x3_1).f0) ≤ ((iQ l0 (ji7)).f0)
                  · rw [if_pos c10] at H
                    have c10b0 : decide (((iQ l0 x3_1).f0) ≤ ((iQ l0 (ji7)).f0)) = true := decide_eq_true c10
                    clear c10
                    obtain rfl := Option.some.inj H
                    have p131 : 0 ≤ (x3_1 : Int) := of_decide_eq_true asm_
                    have q131 : x3_1 < (l0.length : Int) := of_decide_eq_true asm_
                    obtain ⟨ad131, A131_1, c131_1, e131, hx131_0, hx131_1, hl131_1, hi131_1⟩ := kZ HR0.out x3_1 p131 q131
                    cases e131
                    have HR131_1 := iC.mk hi131_1
                    have HC131_1 := iC.mk hl131_1
                    clear hi131_1 hl131_1
                    replace p131 := eq_true p131
                    replace q131 := eq_true q131
                    go_wp2_with (first | (go_at_call 70; (with_reducible refine (stratumref07_SoundFacts.calls k1 _ _ ((iQ l0 x3_1).f1) true _ ?side1 ?side2 A4.out).mono ?_); (case side1 => repeat (first | exact HR131_1.out | (with_reducible refine Kd.C_alloc ?_ _) | (with_reducible refine Kd.C_drewN ?_ _) | (with_reducible refine Kd.C_drew ?_))); (case side2 => exact HC131_1.out); rintro e w' ⟨rfl, ⟨nd, rfl⟩⟩; (try first | exact ⟨rfl, _, World.drewN_drewN _ _ _⟩ | exact ⟨rfl, _, Eq.trans (World.drewN_drewN _ _ _) (congrArg (World.drewN _) (Nat.add_assoc _ _ _))⟩); have p133 : 0 ≤ (x3_1 : Int) := of_decide_eq_true asm_; have q133 : x3_1 < (l0.length : Int) := of_decide_eq_true asm_; obtain ⟨ad133, A133_1, c133_1, e133, hx133_0, hx133_1, hl133_1, hi133_1⟩ := kZ HR0.out x3_1 p133 q133; obtain rfl : ad131 = ad133 := (by injection e133); have HR133_1 := iC.mk hi133_1; have HC133_1 := iC.mk hl133_1; clear hi133_1 hl133_1; replace p133 := eq_true p133; replace q133 := eq_true q133; have ea_ := Option.some.inj (hx131_1.symm.trans hx133_1); injection ea_ with ea_ en_ ec_; subst ea_; subst ec_; clear en_; have p134 : 0 ≤ ((ji7) : Int) := of_decide_eq_true asm_; have q134 : (ji7) < (l0.length : Int) := of_decide_eq_true asm_; obtain ⟨ad134, A134_1, c134_1, e134, hx134_0, hx134_1, hl134_1, hi134_1⟩ := kZ HR0.out (ji7) p134 q134; obtain rfl : ad131 = ad134 := (by injection e134); have HR134_1 := iC.mk hi134_1; have HC134_1 := iC.mk hl134_1; clear hi134_1 hl134_1; replace p134 := eq_true p134; replace q134 := eq_true q134))
                    repeat (go_quiet (first | (go_at_call 70; (with_reducible refine (stratumref07_SoundFacts.calls k1 _ _ ((iQ l0 x3_1).f1) true _ ?side1 ?side2 A4.out).mono ?_); (case side1 => repeat (first | exact HR131_1.out | (with_reducible refine Kd.C_alloc ?_ _) | (with_reducible refine Kd.C_drewN ?_ _) | (with_reducible refine Kd.C_drew ?_))); (case side2 => exact HC131_1.out); rintro e w' ⟨rfl, ⟨nd, rfl⟩⟩; (try first | exact ⟨rfl, _, World.drewN_drewN _ _ _⟩ | exact ⟨rfl, _, Eq.trans (World.drewN_drewN _ _ _) (congrArg (World.drewN _) (Nat.add_assoc _ _ _))⟩); have p133 : 0 ≤ (x3_1 : Int) := of_decide_eq_true asm_; have q133 : x3_1 < (l0.length : Int) := of_decide_eq_true asm_; obtain ⟨ad133, A133_1, c133_1, e133, hx133_0, hx133_1, hl133_1, hi133_1⟩ := kZ HR0.out x3_1 p133 q133; obtain rfl : ad131 = ad133 := (by injection e133); have HR133_1 := iC.mk hi133_1; have HC133_1 := iC.mk hl133_1; clear hi133_1 hl133_1; replace p133 := eq_true p133; replace q133 := eq_true q133; have ea_ := Option.some.inj (hx131_1.symm.trans hx133_1); injection ea_ with ea_ en_ ec_; subst ea_; subst ec_; clear en_; have p134 : 0 ≤ ((ji7) : Int) := of_decide_eq_true asm_; have q134 : (ji7) < (l0.length : Int) := of_decide_eq_true asm_; obtain ⟨ad134, A134_1, c134_1, e134, hx134_0, hx134_1, hl134_1, hi134_1⟩ := kZ HR0.out (ji7) p134 q134; obtain rfl : ad131 = ad134 := (by injection e134); have HR134_1 := iC.mk hi134_1; have HC134_1 := iC.mk hl134_1; clear hi134_1 hl134_1; replace p134 := eq_true p134; replace q134 := eq_true q134)); try go_wp2_with (first | (go_at_call 70; (with_reducible refine (stratumref07_SoundFacts.calls k1 _ _ ((iQ l0 x3_1).f1) true _ ?side1 ?side2 A4.out).mono ?_); (case side1 => repeat (first | exact HR131_1.out | (with_reducible refine Kd.C_alloc ?_ _) | (with_reducible refine Kd.C_drewN ?_ _) | (with_reducible refine Kd.C_drew ?_))); (case side2 => exact HC131_1.out); rintro e w' ⟨rfl, ⟨nd, rfl⟩⟩; (try first | exact ⟨rfl, _, World.drewN_drewN _ _ _⟩ | exact ⟨rfl, _, Eq.trans (World.drewN_drewN _ _ _) (congrArg (World.drewN _) (Nat.add_assoc _ _ _))⟩); have p133 : 0 ≤ (x3_1 : Int) := of_decide_eq_true asm_; have q133 : x3_1 < (l0.length : Int) := of_decide_eq_true asm_; obtain ⟨ad133, A133_1, c133_1, e133, hx133_0, hx133_1, hl133_1, hi133_1⟩ := kZ HR0.out x3_1 p133 q133; obtain rfl : ad131 = ad133 := (by injection e133); have HR133_1 := iC.mk hi133_1; have HC133_1 := iC.mk hl133_1; clear hi133_1 hl133_1; replace p133 := eq_true p133; replace q133 := eq_true q133; have ea_ := Option.some.inj (hx131_1.symm.trans hx133_1); injection ea_ with ea_ en_ ec_; subst ea_; subst ec_; clear en_; have p134 : 0 ≤ ((ji7) : Int) := of_decide_eq_true asm_; have q134 : (ji7) < (l0.length : Int) := of_decide_eq_true asm_; obtain ⟨ad134, A134_1, c134_1, e134, hx134_0, hx134_1, hl134_1, hi134_1⟩ := kZ HR0.out (ji7) p134 q134; obtain rfl : ad131 = ad134 := (by injection e134); have HR134_1 := iC.mk hi134_1; have HC134_1 := iC.mk hl134_1; clear hi134_1 hl134_1; replace p134 := eq_true p134; replace q134 := eq_true q134)))
                    go_ret
                    exact ⟨by first | rfl | (simp; done) | (simp only [← hji7] <;> (first | rfl | simp)) | (simp [*]; done), by repeat (first | exact jB.refl _ | apply jB.step)⟩
                  · rw [if_neg c10] at H
                    have c10b0 : decide (((iQ l0 x3_1).f0) ≤ ((iQ l0 (ji7)).f0)) = false := decide_eq_false c10
                    clear c10
                    have H' := iC.mk H
                    clear H
                    have p131 : 0 ≤ (x3_1 : Int) := of_decide_eq_true asm_
                    have q131 : x3_1 < (l0.length : Int) := of_decide_eq_true asm_
                    obtain ⟨ad131, A131_1, c131_1, e131, hx131_0, hx131_1, hl131_1, hi131_1⟩ := kZ HR0.out x3_1 p131 q131
                    cases e131
                    have HR131_1 := iC.mk hi131_1
                    have HC131_1 := iC.mk hl131_1
                    clear hi131_1 hl131_1
                    replace p131 := eq_true p131
                    replace q131 := eq_true q131
                    go_wp2_with (first | (go_at_call 70; (with_reducible refine (stratumref07_SoundFacts.calls k1 _ _ ((iQ l0 x3_1).f1) true _ ?side1 ?side2 A4.out).mono ?_); (case side1 => repeat (first | exact HR131_1.out | (with_reducible refine Kd.C_alloc ?_ _) | (with_reducible refine Kd.C_drewN ?_ _) | (with_reducible refine Kd.C_drew ?_))); (case side2 => exact HC131_1.out); rintro e w' ⟨rfl, ⟨nd, rfl⟩⟩; (try first | exact ⟨rfl, _, World.drewN_drewN _ _ _⟩ | exact ⟨rfl, _, Eq.trans (World.drewN_drewN _ _ _) (congrArg (World.drewN _) (Nat.add_assoc _ _ _))⟩); have p133 : 0 ≤ (x3_1 : Int) := of_decide_eq_true asm_; have q133 : x3_1 < (l0.length : Int) := of_decide_eq_true asm_; obtain ⟨ad133, A133_1, c133_1, e133, hx133_0, hx133_1, hl133_1, hi133_1⟩ := kZ HR0.out x3_1 p133 q133; obtain rfl : ad131 = ad133 := (by injection e133); have HR133_1 := iC.mk hi133_1; have HC133_1 := iC.mk hl133_1; clear hi133_1 hl133_1; replace p133 := eq_true p133; replace q133 := eq_true q133; have ea_ := Option.some.inj (hx131_1.symm.trans hx133_1); injection ea_ with ea_ en_ ec_; subst ea_; subst ec_; clear en_; have p134 : 0 ≤ ((ji7) : Int) := of_decide_eq_true asm_; have q134 : (ji7) < (l0.length : Int) := of_decide_eq_true asm_; obtain ⟨ad134, A134_1, c134_1, e134, hx134_0, hx134_1, hl134_1, hi134_1⟩ := kZ HR0.out (ji7) p134 q134; obtain rfl : ad131 = ad134 := (by injection e134); have HR134_1 := iC.mk hi134_1; have HC134_1 := iC.mk hl134_1; clear hi134_1 hl134_1; replace p134 := eq_true p134; replace q134 := eq_true q134))
                    repeat (go_quiet (first | (go_at_call 70; (with_reducible refine (stratumref07_SoundFacts.calls k1 _ _ ((iQ l0 x3_1).f1) true _ ?side1 ?side2 A4.out).mono ?_); (case side1 => repeat (first | exact HR131_1.out | (with_reducible refine Kd.C_alloc ?_ _) | (with_reducible refine Kd.C_drewN ?_ _) | (with_reducible refine Kd.C_drew ?_))); (case side2 => exact HC131_1.out); rintro e w' ⟨rfl, ⟨nd, rfl⟩⟩; (try first | exact ⟨rfl, _, World.drewN_drewN _ _ _⟩ | exact ⟨rfl, _, Eq.trans (World.drewN_drewN _ _ _) (congrArg (World.drewN _) (Nat.add_assoc _ _ _))⟩); have p133 : 0 ≤ (x3_1 : Int) := of_decide_eq_true asm_; have q133 : x3_1 < (l0.length : Int) := of_decide_eq_true asm_; obtain ⟨ad133, A133_1, c133_1, e133, hx133_0, hx133_1, hl133_1, hi133_1⟩ := kZ HR0.out x3_1 p133 q133; obtain rfl : ad131 = ad133 := (by injection e133); have HR133_1 := iC.mk hi133_1; have HC133_1 := iC.mk hl133_1; clear hi133_1 hl133_1; replace p133 := eq_true p133; replace q133 := eq_true q133; have ea_ := Option.some.inj (hx131_1.symm.trans hx133_1); injection ea_ with ea_ en_ ec_; subst ea_; subst ec_; clear en_; have p134 : 0 ≤ ((ji7) : Int) := of_decide_eq_true asm_; have q134 : (ji7) < (l0.length : Int) := of_decide_eq_true asm_; obtain ⟨ad134, A134_1, c134_1, e134, hx134_0, hx134_1, hl134_1, hi134_1⟩ := kZ HR0.out (ji7) p134 q134; obtain rfl : ad131 = ad134 := (by injection e134); have HR134_1 := iC.mk hi134_1; have HC134_1 := iC.mk hl134_1; clear hi134_1 hl134_1; replace p134 := eq_true p134; replace q134 := eq_true q134)); try go_wp2_with (first | (go_at_call 70; (with_reducible refine (stratumref07_SoundFacts.calls k1 _ _ ((iQ l0 x3_1).f1) true _ ?side1 ?side2 A4.out).mono ?_); (case side1 => repeat (first | exact HR131_1.out | (with_reducible refine Kd.C_alloc ?_ _) | (with_reducible refine Kd.C_drewN ?_ _) | (with_reducible refine Kd.C_drew ?_))); (case side2 => exact HC131_1.out); rintro e w' ⟨rfl, ⟨nd, rfl⟩⟩; (try first | exact ⟨rfl, _, World.drewN_drewN _ _ _⟩ | exact ⟨rfl, _, Eq.trans (World.drewN_drewN _ _ _) (congrArg (World.drewN _) (Nat.add_assoc _ _ _))⟩); have p133 : 0 ≤ (x3_1 : Int) := of_decide_eq_true asm_; have q133 : x3_1 < (l0.length : Int) := of_decide_eq_true asm_; obtain ⟨ad133, A133_1, c133_1, e133, hx133_0, hx133_1, hl133_1, hi133_1⟩ := kZ HR0.out x3_1 p133 q133; obtain rfl : ad131 = ad133 := (by injection e133); have HR133_1 := iC.mk hi133_1; have HC133_1 := iC.mk hl133_1; clear hi133_1 hl133_1; replace p133 := eq_true p133; replace q133 := eq_true q133; have ea_ := Option.some.inj (hx131_1.symm.trans hx133_1); injection ea_ with ea_ en_ ec_; subst ea_; subst ec_; clear en_; have p134 : 0 ≤ ((ji7) : Int) := of_decide_eq_true asm_; have q134 : (ji7) < (l0.length : Int) := of_decide_eq_true asm_; obtain ⟨ad134, A134_1, c134_1, e134, hx134_0, hx134_1, hl134_1, hi134_1⟩ := kZ HR0.out (ji7) p134 q134; obtain rfl : ad131 = ad134 := (by injection e134); have HR134_1 := iC.mk hi134_1; have HC134_1 := iC.mk hl134_1; clear hi134_1 hl134_1; replace p134 := eq_true p134; replace q134 := eq_true q134)))
                    go_roundg k1
                    case measure => have := HK1.out; omega
                    case rel => exact ⟨(wrap64 (x3_1 + 1)), (by first | rfl | (simp; done) | (simp [*]; done)), H', ⟨by have := HK1.out; omega⟩, by repeat (first | exact jB.refl _ | apply jB.step)⟩
                · rw [if_neg c9] at H
                  exact absurd H (by simp)
              · rw [if_neg c8] at H
                exact absurd H (by simp)
            · rw [if_neg c6] at H
              have c6b0 : decide (0 < x3_1) = false := decide_eq_false c6
              clear c6
              have H' := iC.mk H
              clear H
              have p131 : 0 ≤ (x3_1 : Int) := of_decide_eq_true asm_
              have q131 : x3_1 < (l0.length : Int) := of_decide_eq_true asm_
              obtain ⟨ad131, A131_1, c131_1, e131, hx131_0, hx131_1, hl131_1, hi131_1⟩ := kZ HR0.out x3_1 p131 q131
              cases e131
              have HR131_1 := iC.mk hi131_1
              have HC131_1 := iC.mk hl131_1
              clear hi131_1 hl131_1
              replace p131 := eq_true p131
              replace q131 := eq_true q131
              go_wp2_with (first | (go_at_call 70; (with_reducible refine (stratumref07_SoundFacts.calls k1 _ _ ((iQ l0 x3_1).f1) true _ ?side1 ?side2 A4.out).mono ?_); (case side1 => repeat (first | exact HR131_1.out | (with_reducible refine Kd.C_alloc ?_ _) | (with_reducible refine Kd.C_drewN ?_ _) | (with_reducible refine Kd.C_drew ?_))); (case side2 => exact HC131_1.out); rintro e w' ⟨rfl, ⟨nd, rfl⟩⟩; (try first | exact ⟨rfl, _, World.drewN_drewN _ _ _⟩ | exact ⟨rfl, _, Eq.trans (World.drewN_drewN _ _ _) (congrArg (World.drewN _) (Nat.add_assoc _ _ _))⟩)))
              repeat (go_quiet (first | (go_at_call 70; (with_reducible refine (stratumref07_SoundFacts.calls k1 _ _ ((iQ l0 x3_1).f1) true _ ?side1 ?side2 A4.out).mono ?_); (case side1 => repeat (first | exact HR131_1.out | (with_reducible refine Kd.C_alloc ?_ _) | (with_reducible refine Kd.C_drewN ?_ _) | (with_reducible refine Kd.C_drew ?_))); (case side2 => exact HC131_1.out); rintro e w' ⟨rfl, ⟨nd, rfl⟩⟩; (try first | exact ⟨rfl, _, World.drewN_drewN _ _ _⟩ | exact ⟨rfl, _, Eq.trans (World.drewN_drewN _ _ _) (congrArg (World.drewN _) (Nat.add_assoc _ _ _))⟩))); try go_wp2_with (first | (go_at_call 70; (with_reducible refine (stratumref07_SoundFacts.calls k1 _ _ ((iQ l0 x3_1).f1) true _ ?side1 ?side2 A4.out).mono ?_); (case side1 => repeat (first | exact HR131_1.out | (with_reducible refine Kd.C_alloc ?_ _) | (with_reducible refine Kd.C_drewN ?_ _) | (with_reducible refine Kd.C_drew ?_))); (case side2 => exact HC131_1.out); rintro e w' ⟨rfl, ⟨nd, rfl⟩⟩; (try first | exact ⟨rfl, _, World.drewN_drewN _ _ _⟩ | exact ⟨rfl, _, Eq.trans (World.drewN_drewN _ _ _) (congrArg (World.drewN _) (Nat.add_assoc _ _ _))⟩))))
              go_roundg k1
              case measure => have := HK1.out; omega
              case rel => exact ⟨(wrap64 (x3_1 + 1)), (by first | rfl | (simp; done) | (simp [*]; done)), H', ⟨by have := HK1.out; omega⟩, by repeat (first | exact jB.refl _ | apply jB.step)⟩
          · replace c5 := Bool.eq_false_iff.mpr c5
            subst c5
            have H1 : (some false) = some r := by rw [if_neg (show ¬ (false = true) by decide)] at H; exact H
            clear H
            have H := H1
            clear H1
            obtain rfl := Option.some.inj H
            have p131 : 0 ≤ (x3_1 : Int) := of_decide_eq_true asm_
            have q131 : x3_1 < (l0.length : Int) := of_decide_eq_true asm_
            obtain ⟨ad131, A131_1, c131_1, e131, hx131_0, hx131_1, hl131_1, hi131_1⟩ := kZ HR0.out x3_1 p131 q131
            cases e131
            have HR131_1 := iC.mk hi131_1
            have HC131_1 := iC.mk hl131_1
            clear hi131_1 hl131_1
            replace p131 := eq_true p131
            replace q131 := eq_true q131
            go_wp2_with (first | (go_at_call 70; (with_reducible refine (stratumref07_SoundFacts.calls k1 _ _ ((iQ l0 x3_1).f1) false _ ?side1 ?side2 A4.out).mono ?_); (case side1 => repeat (first | exact HR131_1.out | (with_reducible refine Kd.C_alloc ?_ _) | (with_reducible refine Kd.C_drewN ?_ _) | (with_reducible refine Kd.C_drew ?_))); (case side2 => exact HC131_1.out); rintro e w' ⟨rfl, ⟨nd, rfl⟩⟩; (try first | exact ⟨rfl, _, World.drewN_drewN _ _ _⟩ | exact ⟨rfl, _, Eq.trans (World.drewN_drewN _ _ _) (congrArg (World.drewN _) (Nat.add_assoc _ _ _))⟩)))
            repeat (go_quiet (first | (go_at_call 70; (with_reducible refine (stratumref07_SoundFacts.calls k1 _ _ ((iQ l0 x3_1).f1) false _ ?side1 ?side2 A4.out).mono ?_); (case side1 => repeat (first | exact HR131_1.out | (with_reducible refine Kd.C_alloc ?_ _) | (with_reducible refine Kd.C_drewN ?_ _) | (with_reducible refine Kd.C_drew ?_))); (case side2 => exact HC131_1.out); rintro e w' ⟨rfl, ⟨nd, rfl⟩⟩; (try first | exact ⟨rfl, _, World.drewN_drewN _ _ _⟩ | exact ⟨rfl, _, Eq.trans (World.drewN_drewN _ _ _) (congrArg (World.drewN _) (Nat.add_assoc _ _ _))⟩))); try go_wp2_with (first | (go_at_call 70; (with_reducible refine (stratumref07_SoundFacts.calls k1 _ _ ((iQ l0 x3_1).f1) false _ ?side1 ?side2 A4.out).mono ?_); (case side1 => repeat (first | exact HR131_1.out | (with_reducible refine Kd.C_alloc ?_ _) | (with_reducible refine Kd.C_drewN ?_ _) | (with_reducible refine Kd.C_drew ?_))); (case side2 => exact HC131_1.out); rintro e w' ⟨rfl, ⟨nd, rfl⟩⟩; (try first | exact ⟨rfl, _, World.drewN_drewN _ _ _⟩ | exact ⟨rfl, _, Eq.trans (World.drewN_drewN _ _ _) (congrArg (World.drewN _) (Nat.add_assoc _ _ _))⟩))))
            go_ret
            exact ⟨by first | rfl | (simp; done) | (simp [*]; done), by repeat (first | exact jB.refl _ | apply jB.step)⟩
        · rw [if_neg c3] at H
          exact absurd H (by simp)
      · rw [if_neg c2] at H
        have c2b0 : decide (x3_1 < (l0.length : Int)) = false := decide_eq_false c2
        clear c2
        obtain rfl := Option.some.inj H
        go_wp2
        repeat (go_quiet (fail); try go_wp2)
        go_ret
        exact ⟨by first | rfl | (simp; done) | (simp [*]; done), by repeat (first | exact jB.refl _ | apply jB.step)⟩
end Go.Proofs.YtgfkgppomaapiaaDoor.K
end

section
namespace Go.Proofs.YtgfkgppomaapiaaDoor.K
open RowKit YtgfkgppomaapiaaDoorW.PrintWords YtgfkgppomaapiaaDoorW.PrintLast YtgfkgppomaapiaaDoorW.PrintMore My
def flag (b : Bool) (c : Nat) (s : List UInt8) : Bool := b || s.any fun x => x.toNat == c
theorem pI (b : Bool) (c : Nat) (s : List UInt8) : flag b c (s.take 0) = b := by simp [flag]
theorem pF (b : Bool) (c : Nat) (s : ByteArray) (k : Nat) (h : k < s.size) : flag b c (s.data.toList.take (k + 1)) = (flag b c (s.data.toList.take k) || (((s[k]'h).toNat : Int) == (c : Int))) := by
  have e : s.data.toList.take (k + 1) = s.data.toList.take k ++ [s[k]'h] := by
    rw [List.take_succ_eq_append_getElem (by simpa using h)]; rfl
  rw [e]
  unfold flag
  rw [List.any_append, ← Bool.or_assoc]
  congr 1
  simp only [List.any_cons, List.any_nil, Bool.or_false]
  rw [Bool.eq_iff_iff]
  simp only [beq_iff_eq]
  omega
set_option maxRecDepth 20000 in
set_option maxHeartbeats 4000000 in
theorem TU (a0 a1 a2 : Int) (A3 : Option Addr) (c3 n3 : Nat) (A4 : Option Addr) (c4 n4 : Nat) (a5 : Int) (A6 : Option Addr) (c6 n6 : Nat) (a7 a8 : Int) (A9 : Option Addr) (c9 n9 : Nat) (s : ByteArray) (w : World) (r : Bool) (hs : (s.size : Int) ≤ 9223372036854775807)
    (HR : iC (r = (flag (a1 == 0) 73 s.data.toList && flag (a2 == 0) 65 s.data.toList && flag ((n3 : Int) == 0) 78 s.data.toList && flag ((n4 : Int) == 0) 70 s.data.toList && flag ((a5 == 0) && ((n6 : Int) == 0)) 77 s.data.toList && flag ((a7 == 0) && (a8 == 0) && ((n9 : Int) == 0)) 82 s.data.toList))) :
    Calls Tryd.prog 68 #[.agg #[.int .u8 a0, .int .u32 a1, .int .u32 a2, .slice A3 n3 c3, .slice A4 n4 c4, .int .u32 a5, .slice A6 n6 c6, .int .i64 a7, .int .i64 a8, .slice A9 n9 c9], .string s] w fun e w' => e = .returned (.bool r) ∧ Below w.heap.size w w' := by
  go_enter Tryd.func68, Tryd.ntmps68
  go_upto_region 5 with fail
  go_cut [9] (fun s9 wx => s9 = .bool ((a5 == 0) && ((n6 : Int) == 0)) ∧ wx = w.alloc (.cells #[.int .u8 a0, .int .u32 a1, .int .u32 a2, .slice A3 n3 c3, .slice A4 n4 c4, .int .u32 a5, .slice A6 n6 c6, .int .i64 a7, .int .i64 a8, .slice A9 n9 c9] 30))
  case first =>
    by_cases h5 : a5 = 0
    · subst h5
      go_wp2_with fail
      go_meet
      exact ⟨by simp, rfl⟩
    · have h5' : (a5 == 0) = false := by simpa using h5
      go_wp2_with fail
      go_meet
      exact ⟨by simp [h5'], rfl⟩
  case rest =>
    obtain ⟨rfl, rfl⟩ := hcut
    go_upto_region 6 with fail
    go_cut [10] (fun s10 wx => s10 = .bool ((a7 == 0) && (a8 == 0) && ((n9 : Int) == 0)) ∧ wx = w.alloc (.cells #[.int .u8 a0, .int .u32 a1, .int .u32 a2, .slice A3 n3 c3, .slice A4 n4 c4, .int .u32 a5, .slice A6 n6 c6, .int .i64 a7, .int .i64 a8, .slice A9 n9 c9] 30))
    case first =>
      by_cases h7 : a7 = 0
      · subst h7
        by_cases h8 : a8 = 0
        · subst h8
          go_wp2_with fail
          go_meet
          exact ⟨by simp, rfl⟩
        · have h8' : (a8 == 0) = false := by simpa using h8
          go_wp2_with fail
          go_meet
          exact ⟨by simp [h8'], rfl⟩
      · have h7' : (a7 == 0) = false := by simpa using h7
        go_wp2_with fail
        go_meet
        exact ⟨by simp [h7'], rfl⟩
    case rest =>
      obtain ⟨rfl, rfl⟩ := hcut
      generalize ((a5 == 0) && ((n6 : Int) == 0)) = i9 at HR ⊢
      generalize ((a7 == 0) && (a8 == 0) && ((n9 : Int) == 0)) = i10 at HR ⊢
      generalize (a1 == 0) = i5 at HR ⊢
      generalize (a2 == 0) = i6 at HR ⊢
      generalize ((n3 : Int) == 0) = i7 at HR ⊢
      generalize ((n4 : Int) == 0) = i8 at HR ⊢
      have HW := iC.mk (show Below w.heap.size w (w.alloc (.cells #[.int .u8 a0, .int .u32 a1, .int .u32 a2, .slice A3 n3 c3, .slice A4 n4 c4, .int .u32 a5, .slice A6 n6 c6, .int .i64 a7, .int .i64 a8, .slice A9 n9 c9] 30)) from iF (Below.refl _ _) _)
      generalize w.alloc (.cells #[.int .u8 a0, .int .u32 a1, .int .u32 a2, .slice A3 n3 c3, .slice A4 n4 c4, .int .u32 a5, .slice A6 n6 c6, .int .i64 a7, .int .i64 a8, .slice A9 n9 c9] 30) = wb at HW ⊢
      go_wp2_with fail
      go_loopg [5, 6, 7, 8, 9, 10, 11] s.size (fun gg s5 s6 s7 s8 s9 s10 s11 wr => ∃ k : Nat, k ≤ s.size ∧ s.size - k ≤ gg ∧ s5 = .bool (flag i5 73 (s.data.toList.take k)) ∧ s6 = .bool (flag i6 65 (s.data.toList.take k)) ∧ s7 = .bool (flag i7 78 (s.data.toList.take k)) ∧ s8 = .bool (flag i8 70 (s.data.toList.take k)) ∧ s9 = .bool (flag i9 77 (s.data.toList.take k)) ∧ s10 = .bool (flag i10 82 (s.data.toList.take k)) ∧ s11 = .int .i64 k ∧ wb = wr)
      case atStart => exact ⟨0, Nat.zero_le _, by omega, by rw [pI], by rw [pI], by rw [pI], by rw [pI], by rw [pI], by rw [pI], rfl, rfl⟩
      case round =>
        obtain ⟨k, hk, hg, rfl, rfl, rfl, rfl, rfl, rfl, rfl, rfl⟩ := hrel
        by_cases hks : k < s.size
        · have HS := iC.mk (And.intro (pF i5 73 s k hks) (And.intro (pF i6 65 s k hks) (And.intro (pF i7 78 s k hks) (And.intro (pF i8 70 s k hks) (And.intro (pF i9 77 s k hks) (pF i10 82 s k hks))))))
          clear HR
          have hsu : wrap64 ((k : Int) + 1) = k + 1 := by unfold wrap64; omega
          generalize flag i5 73 (s.data.toList.take k) = f5 at HS ⊢
          generalize flag i6 65 (s.data.toList.take k) = f6 at HS ⊢
          generalize flag i7 78 (s.data.toList.take k) = f7 at HS ⊢
          generalize flag i8 70 (s.data.toList.take k) = f8 at HS ⊢
          generalize flag i9 77 (s.data.toList.take k) = f9 at HS ⊢
          generalize flag i10 82 (s.data.toList.take k) = f10 at HS ⊢
          go_upto_region 10 with fail
          go_cut [5] (fun x wx => x = .bool (f5 || (((s[k]'hks).toNat : Int) == 73)) ∧ wb = wx)
          case first =>
            clear HS
            cases f5
            all_goals (go_wp2_with fail; go_meet; exact ⟨by simp, rfl⟩)
          case rest =>
          obtain ⟨rfl, rfl⟩ := hcut
          generalize (f5 || (((s[k]'hks).toNat : Int) == 73)) = g5 at HS ⊢
          go_upto_region 11 with fail
          go_cut [6] (fun x wx => x = .bool (f6 || (((s[k]'hks).toNat : Int) == 65)) ∧ wb = wx)
          case first =>
            clear HS
            cases f6
            all_goals (go_wp2_with fail; go_meet; exact ⟨by simp, rfl⟩)
          case rest =>
          obtain ⟨rfl, rfl⟩ := hcut
          generalize (f6 || (((s[k]'hks).toNat : Int) == 65)) = g6 at HS ⊢
          go_upto_region 12 with fail
          go_cut [7] (fun x wx => x = .bool (f7 || (((s[k]'hks).toNat : Int) == 78)) ∧ wb = wx)
          case first =>
            clear HS
            cases f7
            all_goals (go_wp2_with fail; go_meet; exact ⟨by simp, rfl⟩)
          case rest =>
          obtain ⟨rfl, rfl⟩ := hcut
          generalize (f7 || (((s[k]'hks).toNat : Int) == 78)) = g7 at HS ⊢
          go_upto_region 13 with fail
          go_cut [8] (fun x wx => x = .bool (f8 || (((s[k]'hks).toNat : Int) == 70)) ∧ wb = wx)
          case first =>
            clear HS
            cases f8
            all_goals (go_wp2_with fail; go_meet; exact ⟨by simp, rfl⟩)
          case rest =>
          obtain ⟨rfl, rfl⟩ := hcut
          generalize (f8 || (((s[k]'hks).toNat : Int) == 70)) = g8 at HS ⊢
          go_upto_region 14 with fail
          go_cut [9] (fun x wx => x = .bool (f9 || (((s[k]'hks).toNat : Int) == 77)) ∧ wb = wx)
          case first =>
            clear HS
            cases f9
            all_goals (go_wp2_with fail; go_meet; exact ⟨by simp, rfl⟩)
          case rest =>
          obtain ⟨rfl, rfl⟩ := hcut
          generalize (f9 || (((s[k]'hks).toNat : Int) == 77)) = g9 at HS ⊢
          cases f10
          all_goals
            go_wp2_with fail
            go_roundg (s.size - (k + 1))
            case measure => omega
            case rel => exact ⟨k + 1, by omega, by omega, by rw [HS.out.1], by rw [HS.out.2.1], by rw [HS.out.2.2.1], by rw [HS.out.2.2.2.1], by rw [HS.out.2.2.2.2.1], by rw [HS.out.2.2.2.2.2]; simp, by go_num, rfl⟩
        · have : k = s.size := by omega
          subst this
          have ht : s.data.toList.take s.size = s.data.toList := List.take_of_length_le (Nat.le_refl _)
          rw [ht]
          clear ht
          generalize flag i5 73 s.data.toList = f5 at HR ⊢
          generalize flag i6 65 s.data.toList = f6 at HR ⊢
          generalize flag i7 78 s.data.toList = f7 at HR ⊢
          generalize flag i8 70 s.data.toList = f8 at HR ⊢
          generalize flag i9 77 s.data.toList = f9 at HR ⊢
          generalize flag i10 82 s.data.toList = f10 at HR ⊢
          go_wp2_with fail
          all_goals (go_ret; exact ⟨by rw [HR.out]; simp [*], HW.out⟩)
def xB (a1 a2 : Int) (l3 : List Int) (l4 : List jQ) (a5 : Int) (l6 : List kC) (a7 a8 : Int) (l9 : List jG) (s : List UInt8) : Bool :=
  flag (a1 == 0) 73 s && flag (a2 == 0) 65 s && flag ((l3.length : Int) == 0) 78 s && flag ((l4.length : Int) == 0) 70 s && flag ((a5 == 0) && ((l6.length : Int) == 0)) 77 s && flag ((a7 == 0) && (a8 == 0) && ((l9.length : Int) == 0)) 82 s
def stratumref07_bare.f (a0_0 : Int) (a0_1 : Int) (a0_2 : Int) (l0_3 : List Int) (l0_4 : List jQ) (a0_5 : Int) (l0_6 : List kC) (a0_7 : Int) (a0_8 : Int) (l0_9 : List jG) (a1 : ByteArray) : Option Bool :=
  if (a1.size : Int) ≤ 9223372036854775807 then some (xB a0_1 a0_2 l0_3 l0_4 a0_5 l0_6 a0_7 a0_8 l0_9 a1.data.toList) else none
theorem stratumref07_bare.calls (a0_0 : Int) (a0_1 : Int) (a0_2 : Int) (A0_3 : Option Addr) (c0_3 : Nat) (l0_3 : List Int) (A0_4 : Option Addr) (c0_4 : Nat) (l0_4 : List jQ) (a0_5 : Int) (A0_6 : Option Addr) (c0_6 : Nat) (l0_6 : List kC) (a0_7 : Int) (a0_8 : Int) (A0_9 : Option Addr) (c0_9 : Nat) (l0_9 : List jG) (a1 : ByteArray) (r : Bool) (w : World) (hr0_3 : Kd.C (Kd.int .i64) w A0_3 l0_3.length l0_3) (hc0_3 : l0_3.length ≤ c0_3) (hr0_4 : Kd.C k139 w A0_4 l0_4.length l0_4) (hc0_4 : l0_4.length ≤ c0_4) (hr0_6 : Kd.C k98 w A0_6 l0_6.length l0_6) (hc0_6 : l0_6.length ≤ c0_6) (hr0_9 : Kd.C k86 w A0_9 l0_9.length l0_9) (hc0_9 : l0_9.length ≤ c0_9) (h : stratumref07_bare.f a0_0 a0_1 a0_2 l0_3 l0_4 a0_5 l0_6 a0_7 a0_8 l0_9 a1 = some r) :
    Calls Tryd.prog 68 #[.agg #[.int .u8 a0_0, .int .u32 a0_1, .int .u32 a0_2, .slice A0_3 l0_3.length c0_3, .slice A0_4 l0_4.length c0_4, .int .u32 a0_5, .slice A0_6 l0_6.length c0_6, .int .i64 a0_7, .int .i64 a0_8, .slice A0_9 l0_9.length c0_9], .string a1] w fun e w' => e = .returned (.bool r) ∧ Below w.heap.size w w' := by
  unfold stratumref07_bare.f at h
  split at h
  case isFalse => cases h
  rename_i hs
  exact TU _ _ _ _ _ _ _ _ _ _ _ _ _ _ _ _ _ _ _ w r hs ⟨(Option.some.inj h).symm⟩
end Go.Proofs.YtgfkgppomaapiaaDoor.K
end
