/- Parts of the proof, one behind the other: CoN, CoL, CoV, CoR, CoZ, CoS, CoU, CoW, CoJ, CoT, CoE2. -/
import Derived.Test.YtjppookmjdaplaaQCoordEnds2
import Derived.RangeFuncFrom
import Derived.Sort.MapsRangeIn
import Derived.RegionIn
import Derived.Shelf.SlicesE.DeleteFunc
import Derived.Ground.SlgfProg
set_option linter.unusedVariables false
set_option linter.unusedSimpArgs false
section
namespace Go.Proofs.Ytjppookmjdaplaa.K
open Go Go.RowKit Go.Maps Go.Proofs.YtjppookmjdaplaaW.PrintWords Go.Proofs.YtjppookmjdaplaaW.PrintLast Go.Proofs.YtjppookmjdaplaaW.PrintMore Go.Proofs.Ytjppookmjdaplaa.My
def zRec : Array Value := #[.int .u8 0, .int .u32 0, .int .u32 0, .slice none 0 0, .slice none 0 0, .int .u32 0, .slice none 0 0, .int .i64 0, .int .i64 0, .slice none 0 0]
/-- A block of ten cells written whole. -/
theorem yO {w : World} {g t : Nat} {c0 c1 c2 c3 c4 c5 c6 c7 c8 c9 : Value} (v0 v1 v2 v3 v4 v5 v6 v7 v8 v9 : Value) (h : w.heap[g]? = some (.cells #[c0, c1, c2, c3, c4, c5, c6, c7, c8, c9] t (0, 0))) :
    ∃ W, W = (((((((((w.setCell ⟨g, 0, none⟩ v0).setCell ⟨g, 1, none⟩ v1).setCell ⟨g, 2, none⟩ v2).setCell ⟨g, 3, none⟩ v3).setCell ⟨g, 4, none⟩ v4).setCell ⟨g, 5, none⟩ v5).setCell ⟨g, 6, none⟩ v6).setCell ⟨g, 7, none⟩ v7).setCell ⟨g, 8, none⟩ v8).setCell ⟨g, 9, none⟩ v9 ∧
      W.heap[g]? = some (.cells #[v0, v1, v2, v3, v4, v5, v6, v7, v8, v9] t (0, 0)) ∧ w.grownBy W (some g) := by
  have st := fun (a b : World) (i : Nat) (v : Value) (hab : a.grownBy b (some g)) => hab.andThen (mM b g i v) (fun j hj => .inr hj)
  refine ⟨_, rfl, ?_, st _ _ 9 v9 (st _ _ 8 v8 (st _ _ 7 v7 (st _ _ 6 v6 (st _ _ 5 v5 (st _ _ 4 v4 (st _ _ 3 v3 (st _ _ 2 v2 (st _ _ 1 v1 (mM w g 0 v0)))))))))⟩
  have h0 := iO (cs := #[c0, c1, c2, c3, c4, c5, c6, c7, c8, c9]) (cs' := #[v0, c1, c2, c3, c4, c5, c6, c7, c8, c9]) h 0 v0 rfl
  have h1 := iO (cs := #[v0, c1, c2, c3, c4, c5, c6, c7, c8, c9]) (cs' := #[v0, v1, c2, c3, c4, c5, c6, c7, c8, c9]) h0 1 v1 rfl
  have h2 := iO (cs := #[v0, v1, c2, c3, c4, c5, c6, c7, c8, c9]) (cs' := #[v0, v1, v2, c3, c4, c5, c6, c7, c8, c9]) h1 2 v2 rfl
  have h3 := iO (cs := #[v0, v1, v2, c3, c4, c5, c6, c7, c8, c9]) (cs' := #[v0, v1, v2, v3, c4, c5, c6, c7, c8, c9]) h2 3 v3 rfl
  have h4 := iO (cs := #[v0, v1, v2, v3, c4, c5, c6, c7, c8, c9]) (cs' := #[v0, v1, v2, v3, v4, c5, c6, c7, c8, c9]) h3 4 v4 rfl
  have h5 := iO (cs := #[v0, v1, v2, v3, v4, c5, c6, c7, c8, c9]) (cs' := #[v0, v1, v2, v3, v4, v5, c6, c7, c8, c9]) h4 5 v5 rfl
  have h6 := iO (cs := #[v0, v1, v2, v3, v4, v5, c6, c7, c8, c9]) (cs' := #[v0, v1, v2, v3, v4, v5, v6, c7, c8, c9]) h5 6 v6 rfl
  have h7 := iO (cs := #[v0, v1, v2, v3, v4, v5, v6, c7, c8, c9]) (cs' := #[v0, v1, v2, v3, v4, v5, v6, v7, c8, c9]) h6 7 v7 rfl
  have h8 := iO (cs := #[v0, v1, v2, v3, v4, v5, v6, v7, c8, c9]) (cs' := #[v0, v1, v2, v3, v4, v5, v6, v7, v8, c9]) h7 8 v8 rfl
  have h9 := iO (cs := #[v0, v1, v2, v3, v4, v5, v6, v7, v8, c9]) (cs' := #[v0, v1, v2, v3, v4, v5, v6, v7, v8, v9]) h8 9 v9 rfl
  exact h9
/-- Is a bit of b 1? -/
def bitB (b : Int) (i : Nat) : Bool := bits BinOp.and IntKind.u8 (b / 2 ^ i) 1 == 1
/-- The numbers of the bits that are 1, of the first so many. -/
def jX (b : Int) : Nat → List Int
  | 0 => []
  | i + 1 => if bitB b i then jX b i ++ [(i : Int)] else jX b i
abbrev lD (b : Int) : List Int := jX b 6
theorem qL (b : Int) : ∀ i, (jX b i).length ≤ i
  | 0 => Nat.le_refl _
  | i + 1 => by
    have := qL b i
    unfold jX; split
    · rw [List.length_append]; simp; omega
    · omega
theorem mP (b : Int) : ∀ i, (∀ x ∈ jX b i, 0 ≤ x ∧ x < i) ∧ (jX b i).Pairwise (· < ·)
  | 0 => ⟨fun x h => (by cases h), List.Pairwise.nil⟩
  | i + 1 => by
    obtain ⟨h1, h2⟩ := mP b i
    unfold jX; split
    · refine ⟨fun x hx => ?_, List.pairwise_append.2 ⟨h2, List.pairwise_singleton _ _, fun x hx y hy => ?_⟩⟩
      · rcases List.mem_append.1 hx with hx | hx
        · have := h1 x hx; omega
        · obtain rfl := List.mem_singleton.1 hx; omega
      · obtain rfl := List.mem_singleton.1 hy; exact (h1 x hx).2
    · exact ⟨fun x hx => by have := h1 x hx; omega, h2⟩
theorem rC (b : Int) : Rt (lD b) := ⟨fun x hx => by have := (mP b 6).1 x hx; omega, (mP b 6).2⟩
set_option maxRecDepth 20000 in
set_option maxHeartbeats 8000000 in
theorem qC (b : Int) (w : World) (hb : 0 ≤ b ∧ b < 256) :
    Calls Try.prog 38 #[.int .u8 1, .int .u32 0, .int .u32 0, .int .u8 b, .slice none 0 0, .slice none 0 0, .int .u16 0, .int .u16 0, .slice none 0 0] w fun e w' => ∃ A c, e = .returned (.agg #[.int .u8 2, .int .u32 0, .int .u32 0, .slice A (lD b).length c, .slice none 0 0, .int .u32 0, .slice none 0 0, .int .i64 0, .int .i64 0, .slice none 0 0]) ∧ ki.R 3 w' w.heap.size (fun _ => True) (.slice A (lD b).length c) (lD b) ∧ Below w.heap.size w w' := by
  go_enter Try.func38, Try.ntmps38
  go_wp2
  obtain ⟨W, hW⟩ : ∃ W, W = ((w.alloc (.cells zRec 48)).alloc (.cells #[.int .u8 2, .int .u32 0, .int .u32 0, .slice none 0 0, .slice none 0 0, .int .u32 0, .slice none 0 0, .int .i64 0, .int .i64 0, .slice none 0 0] 48)) := ⟨_, rfl⟩
  have hX : W.heap[w.heap.size]? = some (.cells zRec 48 (0, 0)) := by rw [hW]; exact qM (iK rfl)
  have hY : W.heap[w.heap.size + 1]? = some (.cells #[.int .u8 2, .int .u32 0, .int .u32 0, .slice none 0 0, .slice none 0 0, .int .u32 0, .slice none 0 0, .int .i64 0, .int .i64 0, .slice none 0 0] 48 (0, 0)) := by rw [hW]; exact iK (by simp)
  have hb1 : Below w.heap.size w W := by rw [hW]; exact iD (iD (Below.refl _ _) _) _
  have HWS := iC.mk (show W.heap.size = w.heap.size + 2 from by rw [hW]; simp)
  have HX := iC.mk hX
  have HY := iC.mk hY
  have HB := iC.mk hb1
  unfold zRec at hW
  rw [← hW]
  have HBb := iC.mk hb
  clear hX hY hb1 hW hb
  go_loopw [20, 21] (fun p q wr => ∃ (i : Nat) (l : List Int), q = .int .i64 (i : Int) ∧ i ≤ 6 ∧ l.length ≤ i ∧ iC (l = jX b i) ∧ iC (ki.R 3 wr (w.heap.size + 2) (fun _ => True) p l) ∧ iC (Below (w.heap.size + 2) W wr)) (fun _ q _ => ((6 : Int) - intOf q).toNat)
  case atStart => exact ⟨0, [], rfl, by omega, by simp, ⟨rfl⟩, ⟨Kd.R_nil _ _ _ _ _⟩, ⟨Below.refl _ _⟩⟩
  case round =>
    obtain ⟨i, l, rfl, hi, hl, HLI, HR, HBr⟩ := hrel
    by_cases hlt : i < 6
    · have hw : wrap64 ((i : Int) + 1) = ((i + 1 : Nat) : Int) := by unfold wrap64; omega
      cases hbit : (bits BinOp.and IntKind.u8 (b / 2 ^ i) 1 == 1)
      · have HN := iC.mk (show l = jX b (i + 1) from by unfold jX; rw [show bitB b i = false from hbit, if_neg (by decide)]; exact HLI.out)
        go_wp2
        go_roundw
        case rel => exact ⟨i + 1, l, by first | rfl | rw [hw], by omega, by omega, HN, HR, HBr⟩
        case measure => (first | (simp [intOf, hw]; omega) | (simp [intOf]; omega))
      · have HN := iC.mk (show l ++ [(i : Int)] = jX b (i + 1) from by unfold jX; rw [show bitB b i = true from hbit, if_pos rfl, HLI.out])
        obtain ⟨A4, k4, rfl⟩ := Kd.R_slice HR.out
        go_wp2_with (at_builtin; refine Kd.R_append ki (w0 := W) (w.heap.size + 2) rfl (.tmp 40) (.tmp 42) 25 3 (.int .i64 0) 8 rfl Try.underlying25 qQ rfl (by decide) (by omega) (.slice A4 l.length k4) l (i : Int) [.int .i64 (i : Int)] (fun _ => True) (fun _ => False) rfl rfl rfl (fun _ hk => hk.elim) (fun _ _ => trivial) HR.out HBr.out (by have := HWS.out; have := HBr.out.size; omega) (by omega) ?_; intro v1 w4 ho1 hb1 hg1 hat1; have HO4 := iC.mk ho1; have HB4 := iC.mk hb1; clear ho1 hb1 hg1 hat1)
        go_roundw
        case rel => exact ⟨i + 1, _, by first | rfl | rw [hw], by omega, by rw [List.length_append]; simp; omega, HN, HO4, HB4⟩
        case measure => (first | (simp [intOf, hw]; omega) | (simp [intOf]; omega))
    · obtain rfl : i = 6 := by omega
      obtain rfl := HLI.out
      obtain ⟨A4, k4, rfl⟩ := Kd.R_slice HR.out
      have hy := (HBr.out.block _ (by omega)).trans HY.out
      have hx := (HBr.out.block _ (by omega)).trans HX.out
      obtain ⟨y0, y1, y2, y3, y5, y6⟩ := jC hy
      have y4 := (iE hy 4).trans (show _ = some (Value.slice none 0 0) from rfl)
      have y7 := (iE hy 7).trans (show _ = some (Value.int .i64 0) from rfl)
      have y8 := (iE hy 8).trans (show _ = some (Value.int .i64 0) from rfl)
      have y9 := (iE hy 9).trans (show _ = some (Value.slice none 0 0) from rfl)
      have f2 := iH hy 2
      have f3 := iH hy 3
      go_upto_region 31 with fail
      obtain ⟨W5, hW5⟩ : ∃ x, x = ((wr.setCell ⟨w.heap.size + 1, 2, none⟩ (.int .u32 0)).setCell ⟨w.heap.size + 1, 3, none⟩ (.slice A4 (jX b 6).length k4)) := ⟨_, rfl⟩
      have hy5 : W5.heap[w.heap.size + 1]? = some (.cells #[.int .u8 2, .int .u32 0, .int .u32 0, .slice A4 (jX b 6).length k4, .slice none 0 0, .int .u32 0, .slice none 0 0, .int .i64 0, .int .i64 0, .slice none 0 0] 48 (0, 0)) := by
        rw [hW5]
        exact iO (cs := #[.int .u8 2, .int .u32 0, .int .u32 0, .slice none 0 0, .slice none 0 0, .int .u32 0, .slice none 0 0, .int .i64 0, .int .i64 0, .slice none 0 0]) (iO hy 2 _ rfl) 3 _ rfl
      have hx5 : W5.heap[w.heap.size]? = some (.cells zRec 48 (0, 0)) := by
        rw [hW5]
        exact (Below.heap_setCell _ _ _ _ (by simp)).trans ((Below.heap_setCell _ _ _ _ (by simp)).trans hx)
      have hb5 : Below w.heap.size w W5 := by
        rw [hW5]
        exact iL (iL (iI HB.out (HBr.out.mono (by have := HWS.out; omega))) (Nat.le_succ _)) (Nat.le_succ _)
      have hr5 : ki.R 3 W5 w.heap.size (fun _ => True) (.slice A4 (jX b 6).length k4) (jX b 6) := by
        rw [hW5]
        exact Kd.R_lower (Kd.R_set (Kd.R_set HR.out hy (by decide) 2 _) (iO hy 2 (.int .u32 0) rfl) (by decide) 3 _) (by omega)
      rw [← hW5]
      have HX5 := iC.mk hx5
      have HB5 := iC.mk hb5
      have HR5 := iC.mk hr5
      clear y0 y1 y2 y3 y4 y5 y6 y7 y8 y9 f2 f3 hy hx hb5 hr5 hW5
      obtain ⟨y0, y1, y2, y3, y5, y6⟩ := jC hy5
      have y4 := (iE hy5 4).trans (show _ = some (Value.slice none 0 0) from rfl)
      have y7 := (iE hy5 7).trans (show _ = some (Value.int .i64 0) from rfl)
      have y8 := (iE hy5 8).trans (show _ = some (Value.int .i64 0) from rfl)
      have y9 := (iE hy5 9).trans (show _ = some (Value.slice none 0 0) from rfl)
      obtain ⟨x0, x1, x2, x3, x5, x6⟩ := jC (show W5.heap[w.heap.size]? = some (.cells #[.int .u8 0, .int .u32 0, .int .u32 0, .slice none 0 0, .slice none 0 0, .int .u32 0, .slice none 0 0, .int .i64 0, .int .i64 0, .slice none 0 0] 48 (0, 0)) from hx5)
      have x4 := (iE hx5 4).trans (show _ = some (Value.slice none 0 0) from rfl)
      have x7 := (iE hx5 7).trans (show _ = some (Value.int .i64 0) from rfl)
      have x8 := (iE hx5 8).trans (show _ = some (Value.int .i64 0) from rfl)
      have x9 := (iE hx5 9).trans (show _ = some (Value.slice none 0 0) from rfl)
      have f0 := iH hx5 0
      have f1 := iH hx5 1
      have f2 := iH hx5 2
      have f3 := iH hx5 3
      have f4 := iH hx5 4
      have f5 := iH hx5 5
      have f6 := iH hx5 6
      have f7 := iH hx5 7
      have f8 := iH hx5 8
      have f9 := iH hx5 9
      clear hy5 hx5
      go_wp2
      obtain ⟨W6, hW6, hx6, hg6⟩ := yO (.int .u8 2) (.int .u32 0) (.int .u32 0) (.slice A4 (jX b 6).length k4) (.slice none 0 0) (.int .u32 0) (.slice none 0 0) (.int .i64 0) (.int .i64 0) (.slice none 0 0) (show W5.heap[w.heap.size]? = some (.cells #[.int .u8 0, .int .u32 0, .int .u32 0, .slice none 0 0, .slice none 0 0, .int .u32 0, .slice none 0 0, .int .i64 0, .int .i64 0, .slice none 0 0] 48 (0, 0)) from HX5.out)
      rw [← hW6]
      refine bodyPost_ret (results_cell_row rfl _ _ w.heap.size 48 _ (0, 0) _ rfl hx6 Try.underlying48 rfl (by kernel_rfl)) rfl ?_
      exact ⟨A4, k4, rfl, jZ HR5.out (fun j q cs hq hj => iT hg6 hj (fun e => by subst e; rw [HX5.out] at hj; cases hj; simp [show ki.E = [] from rfl] at hq)), HB5.out.grown hg6 HB5.out.size (fun j hj => by cases hj; exact Nat.le_refl _)⟩
set_option maxRecDepth 20000 in
theorem oD (b : Int) (w : World) (hb : 0 ≤ b ∧ b < 256) :
    Calls Try.prog 11 #[.int .u8 b] w fun e w' => ∃ A c, e = .returned (.slice A (lD b).length c) ∧ ki.R 3 w' w.heap.size (fun _ => True) (.slice A (lD b).length c) (lD b) ∧ Below w.heap.size w w' := by
  have hcall := qC b w hb
  have hfd := fun (w : World) (A : Option Addr) (n c : Nat) => vS w (.int .u8 2) (.int .u32 0) (.int .u32 0) (.slice none 0 0) (.int .u32 0) (.slice none 0 0) (.int .i64 0) (.int .i64 0) (.slice none 0 0) A n c
  clear hb
  go_enter Try.func11, Try.ntmps11
  go_wp2_with (go_at_call 38; refine hcall.mono ?_; rintro e w1 ⟨A, c, rfl, hR, hB⟩)
  go_ret
  exact ⟨A, c, rfl, hR, hB⟩
end Go.Proofs.Ytjppookmjdaplaa.K
end

section
namespace Go.Proofs.Ytjppookmjdaplaa.K
open Go Go.RowKit Go.Maps Go.Proofs.YtjppookmjdaplaaW.PrintWords Go.Proofs.YtjppookmjdaplaaW.PrintLast Go.Proofs.YtjppookmjdaplaaW.PrintMore Go.Proofs.Ytjppookmjdaplaa.My
variable {Z : Nat}
/-- No number told is above the last one. -/
structure Low (s : CS) (ids : List Int) : Prop where
  key : ∀ p ∈ s.L, p.1 ≤ s.starts * 1000 + s.begun
  ids : ∀ x ∈ ids, x ≤ s.starts * 1000 + s.begun
theorem Low.none {s : CS} {ids : List Int} (h : Low s ids) : getB s.L (s.starts * 1000 + (s.begun + 1)) = none := by
  refine kM.2 (fun hm => ?_)
  obtain ⟨p, hp, e⟩ := List.mem_map.1 hm
  have := h.key p hp
  omega
theorem Low.begin_ {s : CS} {ids : List Int} (h : Low s ids) (hb : s.begun < 900) :
    s.beginId [0] = (s.starts * 1000 + (s.begun + 1), 0) ∧ (s.begin_ [0]).starts = s.starts ∧ (s.begin_ [0]).begun = s.begun + 1 ∧ Low (s.begin_ [0]) (ids ++ [s.starts * 1000 + (s.begun + 1)]) := by
  have hr : jS [0] = true := by decide
  have e : s.begin_ [0] = ⟨s.L ++ [(s.starts * 1000 + (s.begun + 1), ⟨1, 0, [0], [], false⟩)], s.last, s.starts, s.begun + 1, s.ep, s.sp⟩ := by
    unfold CS.begin_
    rw [if_neg (by simp [hr]), if_neg (by omega), h.none]; rfl
  refine ⟨?_, by rw [e], by rw [e], ?_⟩
  · unfold CS.beginId
    rw [if_neg (by simp [hr]), if_neg (by omega), h.none]; rfl
  · rw [e]
    refine ⟨fun p hp => ?_, fun x hx => ?_⟩
    · show p.1 ≤ s.starts * 1000 + (s.begun + 1)
      rcases List.mem_append.1 hp with hp | hp
      · have := h.key p hp; omega
      · obtain rfl := List.mem_singleton.1 hp; exact Int.le_refl _
    · show x ≤ s.starts * 1000 + (s.begun + 1)
      rcases List.mem_append.1 hx with hx | hx
      · have := h.ids x hx; omega
      · obtain rfl := List.mem_singleton.1 hx; exact Int.le_refl _
theorem Low.start {s : CS} {ids : List Int} (h : Low s ids) {d : Int} (h0 : 1 ≤ d) (h1 : s.starts + d ≤ 1000) (hb : s.begun ≤ 900) :
    s.startE (s.starts + d) = 0 ∧ (s.start (s.starts + d)).starts = s.starts + d ∧ (s.start (s.starts + d)).begun = 0 ∧ Low (s.start (s.starts + d)) ids := by
  have e : s.start (s.starts + d) = ⟨s.L.filter fun p => decide (p.2.st ≠ 1), s.last, s.starts + d, 0, s.ep, s.sp⟩ := by
    unfold CS.start; rw [if_neg (by omega)]
  refine ⟨by unfold CS.startE; rw [if_neg (by omega)], by rw [e], by rw [e], ?_⟩
  rw [e]
  refine ⟨fun p hp => ?_, fun x hx => ?_⟩
  · show p.1 ≤ (s.starts + d) * 1000 + 0
    have := h.key p (List.mem_filter.1 hp).1; omega
  · show x ≤ (s.starts + d) * 1000 + 0
    have := h.ids x hx; omega
theorem Low.new : Low CS.new [] := ⟨fun _ h => (by cases h), fun _ h => (by cases h)⟩
attribute [-go_sem] Instr.build
attribute [local go_sem] bu_2
end Go.Proofs.Ytjppookmjdaplaa.K
end

section
namespace Go.Proofs.Ytjppookmjdaplaa.K
open Go Go.RowKit Go.Maps Go.Proofs.YtjppookmjdaplaaW.PrintWords Go.Proofs.YtjppookmjdaplaaW.PrintLast Go.Proofs.YtjppookmjdaplaaW.PrintMore Go.Proofs.Ytjppookmjdaplaa.My
/-- A row of seven numbers of the law's own. -/
abbrev sdA (sd : List Int) : Array Value := (nums .i64 sd).toArray
theorem mk7 (W : World) : (Instr.makeSlice 25 (.int .i64 7) (.int .i64 7)).run Try.prog W = .ok (.slice (some ⟨W.heap.size, 0, none⟩) 7 7) (W.alloc (.cells (sdA [0, 0, 0, 0, 0, 0, 0]) 3)) := by
  have h := qB (P := Try.prog) 25 3 .i64 8 Try.underlying25 (by kernel_rfl) (by decide) 7 (by decide) W
  rw [show sdA [0, 0, 0, 0, 0, 0, 0] = madeCells #[.int .i64 0] 7 from by kernel_rfl]
  exact h
theorem rE {w : World} {g : Nat} {sd : List Int} (h : w.heap[g]? = some (.cells (sdA sd) 3 (0, 0))) (i : Nat) (hi : i < sd.length) : w.cell? ⟨g, i, none⟩ = some (.int .i64 (rd sd (i : Int))) := by
  rw [iE h i]
  simp [nums, rd, List.getD_eq_getElem?_getD, List.getElem?_eq_getElem hi, hi]
theorem xU {w : World} {g : Nat} {sd : List Int} (h : w.heap[g]? = some (.cells (sdA sd) 3 (0, 0))) (i : Nat) (x : Int) : (w.setCell ⟨g, i, none⟩ (.int .i64 x)).heap[g]? = some (.cells (sdA (sd.set i x)) 3 (0, 0)) :=
  iO h i _ (by simp [nums, List.map_set])
/-- What has been said, as numbers and as a list. -/
structure Sd (sd : List Int) (ns said : List Int) : Prop where
  len : sd.length = 7
  bit : ∀ i : Nat, i < 7 → rd sd (i : Int) = 0 ∨ rd sd (i : Int) = 1
  iff : ∀ x ∈ ns, x ∈ said ↔ rd sd x = 1
theorem Sd.new (ns : List Int) : Sd [0, 0, 0, 0, 0, 0, 0] ns [] := by
  have hz : ∀ i : Nat, i < 7 → rd [0, 0, 0, 0, 0, 0, 0] (i : Int) = 0 := by decide
  refine ⟨rfl, fun i hi => .inl (hz i hi), fun x _ => ⟨fun h => (by cases h), fun h => ?_⟩⟩
  exfalso
  unfold rd at h
  rw [List.getD_eq_getElem?_getD] at h
  have : ∀ j : Nat, ([0, 0, 0, 0, 0, 0, 0] : List Int)[j]?.getD 0 = 0 := fun j => by
    rcases Nat.lt_or_ge j 7 with hj | hj
    · have := hz j hj; unfold rd at this; rwa [Int.toNat_natCast, List.getD_eq_getElem?_getD] at this
    · rw [List.getElem?_eq_none (by simpa using hj)]; rfl
  rw [this] at h; cases h
theorem uQ {sd : List Int} {k : Nat} (hk : k < sd.length) (v : Int) (x : Int) (h0 : 0 ≤ x) : rd (sd.set k v) x = if x = (k : Int) then v else rd sd x := by
  obtain ⟨j, rfl⟩ := Int.eq_ofNat_of_zero_le h0
  unfold rd
  rw [Int.toNat_natCast, List.getD_eq_getElem?_getD, List.getD_eq_getElem?_getD, List.getElem?_set]
  by_cases e : k = j
  · subst e; rw [if_pos rfl, if_pos rfl]; simp [hk]
  · rw [if_neg e, if_neg (by omega)]
theorem Sd.say {sd : List Int} {b : CB} (h : Sd sd b.nodes b.said) (hrt : Rt b.nodes) {k : Nat} (hk : k < 7) : Sd (sd.set k 1) b.nodes (b.say (k : Int)).said := by
  refine ⟨by rw [List.length_set]; exact h.len, fun i hi => ?_, fun x hx => ?_⟩
  · rw [uQ (by rw [h.len]; exact hk) 1 (i : Int) (by omega)]
    split
    · exact .inr rfl
    · exact h.bit i hi
  · rw [uQ (by rw [h.len]; exact hk) 1 x (hrt.rng x hx).1]
    unfold CB.say
    split
    · rename_i hs
      simp only [List.mem_append, List.mem_singleton]
      split
      · rename_i e; simp [e]
      · rename_i e; simp [e, h.iff x hx]
    · rename_i hs
      split
      · rename_i e
        subst e
        constructor
        · exact fun _ => rfl
        · intro _
          by_cases hm : (k : Int) ∈ b.said
          · exact hm
          · exact absurd ⟨hx, hm⟩ hs
      · exact h.iff x hx
def sdP (sd : List Int) (x : Int) : Bool := rd sd x == 1
theorem Sd.lacks {sd : List Int} {b : CB} (h : Sd sd b.nodes b.said) : b.lacks = b.nodes.filter fun x => !sdP sd x := by
  unfold CB.lacks
  refine List.filter_congr (fun x hx => ?_)
  have := h.iff x hx
  unfold sdP
  by_cases e : rd sd x = 1
  · simp [e, this.2 e]
  · have hn : x ∉ b.said := fun hm => e (this.1 hm)
    have he : (rd sd x == 1) = false := by simpa using e
    rw [he]; simp [hn]
theorem Sd.all {sd : List Int} {b : CB} (h : Sd sd b.nodes b.said) : b.all = b.nodes.all (sdP sd) := by
  unfold CB.all
  rw [h.lacks]
  cases hA : b.nodes.all (sdP sd)
  · obtain ⟨x, hx, hp⟩ := List.all_eq_false.1 hA
    rw [List.isEmpty_eq_false_iff]
    intro e
    have : x ∈ b.nodes.filter fun x => !sdP sd x := List.mem_filter.2 ⟨hx, by simpa using hp⟩
    rw [e] at this; cases this
  · rw [List.isEmpty_iff]
    refine List.filter_eq_nil_iff.2 (fun x hx => ?_)
    have := List.all_eq_true.1 hA x hx
    simp [this]
theorem rY {l : List Int} {k : Nat} (hk : k < l.length) (p : Int → Bool) : (l.take (k + 1)).all p = ((l.take k).all p && p (rd l k)) := by
  rw [kE 0 l k hk, List.all_append]
  rw [show l.getD k 0 = rd l k from by simp [rd]]
  simp
attribute [-go_sem] Instr.build
attribute [local go_sem] bu_2 oU pM mk7
end Go.Proofs.Ytjppookmjdaplaa.K
end

section
namespace Go.Proofs.Ytjppookmjdaplaa.K
open Go Go.RowKit Go.Maps Go.Proofs.YtjppookmjdaplaaW.PrintWords Go.Proofs.YtjppookmjdaplaaW.PrintLast Go.Proofs.YtjppookmjdaplaaW.PrintMore Go.Proofs.Ytjppookmjdaplaa.My
attribute [local go_sem] Oper.semAt_some
abbrev encU (x : Int) : Array Value := #[.int .u32 x]
/-- What has come of a map's keys, and what is left. -/
def CU (D0 : DataW Nat) (left : Lit → Bool) (ss : List Int) : Prop := ss.Nodup ∧ ∀ x, x ∈ ss ↔ (has D0 (.int .u32 x) = true ∧ left (.int .u32 x) = false)
/-- A map's keys, each once. -/
def o6 (D0 : DataW Nat) (ss : List Int) : Prop := ss.Nodup ∧ ∀ x, x ∈ ss ↔ has D0 (.int .u32 x) = true
theorem CU.start (D0 : DataW Nat) : CU D0 (has D0) [] := ⟨List.nodup_nil, fun x => by cases has D0 (.int .u32 x) <;> simp⟩
theorem CU.step {D0 : DataW Nat} {left : Lit → Bool} {ss : List Int} (h : CU D0 left ss) {x : Int} {y : DataW Nat} (hlk : left (.int .u32 x) = true) (hat : ∀ zd, D0.atKey (.int .u32 x) zd = y) : CU D0 (fun z => left z && !z.sameKey (.int .u32 x)) (ss ++ [x]) := by
  have hhas : has D0 (.int .u32 x) = true := has_true_of_atKey hat
  have hnew : x ∉ ss := fun hx => by have := ((h.2 x).1 hx).2; rw [hlk] at this; cases this
  refine ⟨List.nodup_append.2 ⟨h.1, by simp, fun a ha b hb => by simp at hb; subst hb; exact fun e => hnew (e ▸ ha)⟩, fun y => ?_⟩
  by_cases hy : y = x
  · subst hy; simp [hhas, Lit.sameKey]
  · simp [h.2 y, hy, Lit.sameKey]
theorem CU.fin {D0 : DataW Nat} {left : Lit → Bool} {ss : List Int} (h : CU D0 left ss) (hl : ∀ kl, left kl = false) : o6 D0 ss := ⟨h.1, fun x => by rw [h.2 x, hl]; simp⟩
set_option maxRecDepth 100000 in
set_option maxHeartbeats 4000000 in
theorem yM (n : Nat) (hn : 1 ≤ n) (Bm mb nn : Nat) (D0 : DataW Nat) (w0 : World) (hBm : w0.heap[Bm]? = some (.cells #[.map (some mb)] 74 (0, 0))) (hown : UM w0 mb nn D0) :
    SeqStopsK Fence.wide n Try.prog 100 #[.pointer (some ⟨Bm, 0, none⟩)] encU KeepsWalks (o6 D0) (fun _ => True) (Maps.size D0) w0 := by
  intro lp J Jx W hW hJ hJx hY h0
  have hown' : UM W mb nn D0 := jI hown (hW.block mb hown.lt)
  have hBW := iJ hW hBm
  refine callsIn_of_wp Try.func100 rfl trivial ?_ rfl
  simp only [Try.ntmps100, List.size_toArray, List.length_cons, List.length_nil, Nat.reduceAdd, Nat.reduceSub, Array.replicate_succ, Array.replicate_zero, List.push_toArray, List.append_toArray, List.nil_append, List.cons_append]
  have hc0 : W.cell? ⟨Bm, 0, none⟩ = some (.map (some mb)) := by simp [World.cell?, hBW]
  gi_wp2_with (first
    | (gi_at_range; refine wpListIn_range_own _ rfl _ 74 rfl 28 79 kZ Try.underlying74 _ mb nn _ rfl hown' ?_; intro w1 hrg0 hg0 hs0)
    | gi_in)
  go_frame
  gi_loopw [3] (fun _ wr => ∃ (left : Lit → Bool) (cnt : Nat) (ss : List Int), wr.ranges Try.prog 28 RP mb W.heap.size nn D0 left cnt ∧ ss.length + cnt ≤ Maps.size D0 ∧ CU D0 left ss ∧ J ss wr)
    (fun _ wr => wr.rangeLeft mb W.heap.size)
  case atStart => exact ⟨_, _, [], hrg0, by simp, CU.start D0, hJ [] W w1 none h0 hg0 (fun r e => by cases e)⟩
  case round =>
    obtain ⟨left, cnt, ss, hrg, hlen, hC, hJs⟩ := hrel
    gi_wp2_with (first
      | (gi_at_next; refine wpListIn_next_ranges _ rfl _ rfl 28 kZ RP (Value.int .u32) id (fun key kl hk => by obtain ⟨x, hx, _⟩ := Maps.keyOf_int_inv Try.underlying28 hk; exact ⟨x, hx⟩) (fun v _ _ => ⟨v, rfl⟩) mb W.heap.size nn _ _ _ rfl hrg ?_ ?_)
      | gi_in)
    · intro hc0 hl0
      gi_wp2
      go_end0
      exact ⟨⟨_, rfl⟩, .inl ⟨ss, hC.fin hl0, hJs⟩⟩
    · intro x c kl yd yp w2 cnt2 hkey hlk hv hat hrg2 hlt hg2 hs2 hen
      obtain ⟨x', ex, rfl, _⟩ := Maps.keyOf_int_inv Try.underlying28 hkey
      cases ex
      have hJ2 : J ss w2 := hJ ss wr w2 (some W.heap.size) hJs hg2 (fun r e => by cases e; exact ⟨Nat.le_refl _, hrg.iter_walk⟩)
      obtain ⟨fn, tmps, assign, body, hy, hR⟩ := hY ss x w2 hJ2 (by omega)
      clear hs2
      gi_wp2
      refine hR.mono ?_
      rintro e W3 (⟨rfl, hJ3, hk3⟩ | ⟨rfl, hJx3⟩)
      · gi_wp2
        have hrg3 := hrg2.of_walks hk3
        go_roundw
        case rel => exact ⟨_, cnt2, ss ++ [x], hrg3, by simp; omega, hC.step hlk hat, hJ3⟩
        case measure => rw [hrg3.left_eq, hrg.left_eq]; exact hlt
      · gi_wp2
        refine bodyPost_ret (results_none rfl _ _ _) rfl ?_
        exact ⟨⟨_, rfl⟩, .inr ⟨_, trivial, hJx3⟩⟩
/-- append(v, x) in a fenced walk. -/
theorem rG {F : Fence} {n : Nat} {P : Program} {ops : Array Oper} {rest : List Oper} {o : Oper} {a : Act} {Q : Exit → Act → World → Prop} {α : Type} (d : Kd α) {w0 W : World} (base : Nat) (hgd : o.guard = none) (s x : Operand) (t e : TypeId) (z : Value) (bytes : Nat)
    (ho : o.op = .call { callee := .builtin .append, args := #[s, x], argTypes := #[t, t] })
    (ht : P.underlying t = some (.slice e)) (hinfo : (P.info? e).map (fun i => (i.zero, i.size, i.bytes)) = some (some z, d.sz, bytes)) (hz : z.cells.size = d.sz) (hs0 : 0 < d.sz) (hb0 : 0 < bytes)
    (v : Value) (xs : List α) (p : α) (cs : List Value) (ok okp : Nat → Prop) (hs : a.eval s = v) (hx : a.eval x = .slice (some ⟨W.heap.size, 0, none⟩) 1 1) (hp : d.M W base okp p cs) (hokp : ∀ k, okp k → ok k ∧ some k ≠ v.ownBlock) (hfresh : ∀ k, W.heap.size ≤ k → ok k)
    (HO : d.R e W base ok v xs) (HB : Below base w0 W) (hbase : base ≤ W.heap.size) (hl : (xs.length + 1) * bytes ≤ 140737488355328)
    (h : ∀ v1 w1, d.R e w1 base ok v1 (xs ++ [p]) → Below base w0 w1 → W.grownBy w1 v.ownBlock → wpListIn F n P ops Q rest (a.put o.dst v1) w1) :
    wpListIn F n P ops Q (o :: rest) a (W.alloc (.cells cs.toArray e)) := by
  obtain ⟨h0, inner, hown, hr⟩ := HO
  obtain ⟨i0, hi, hzz⟩ := Option.map_eq_some_iff.1 hinfo
  simp only [Prod.mk.injEq] at hzz
  obtain ⟨hz0, hz1, hz2⟩ := hzz
  have hlen : xs.length + 1 ≤ 140737488355328 := Nat.le_trans (Nat.le_mul_of_pos_right _ hb0) hl
  have hys := d.K_len (d.K_of_M hp)
  refine wpListIn_plain hgd fun K hK' => ?_
  obtain ⟨v', w', hrun, hown', hg, _, hat⟩ := run_append_own_at (P := P) (W.alloc (.cells cs.toArray e)) base t o.type e i0 z d.sz bytes ht hi hz0 hz1 hz2 hz hs0 v xs.length inner (hown.alloc _) ⟨W.heap.size, 0, none⟩ 1 1 cs (by rw [hys]; simp)
    (by simpa using World.news_of_block (cs := cs.toArray) (t := e) (fr := (0, 0)) (heap_alloc_new W (.cells cs.toArray e))) (d.K_one (d.K_of_M hp)) (by simp only [maxLen]; omega) hl (by simp; omega)
  unfold Oper.wpIn
  refine ⟨?_, ?_⟩
  · simp [Oper.about, ho, resolve, Target.leads, Sem.run_pure]
  · rw [Oper.semAt_plain F _ _ (by rw [ho]; intro c hc'; cases hc')]
    simp [execOp, ho, resolve, invoke, builtin, hs, hx, hrun, Result.andThen]
    have hg' : W.grownBy w' v.ownBlock := World.grownBy.trans (World.grownBy_alloc W _ _) hg
    refine hK' _ _ (h v' w' (Kd.R_appended h0 hr hp hokp hfresh hown' hg' ?_) ((HB.alloc hbase _).grown hg (by simp; omega) (own_base hown)) hg')
    rcases hat with hat | hat
    · exact .inl hat
    · exact .inr ⟨_, hat, by simp⟩
theorem uK {α : Type} {d : Kd α} {e B : Nat} {W W' : World} {v : Value} {l : List α} {row : Option Nat} (h : d.R e W B (fun _ => True) v l) (hg : W.grownBy W' row) (hr : ∀ r, row = some r → ∃ o : Obj, W.heap[r]? = some o ∧ o.isCells = false) : d.R e W' B (fun _ => True) v l :=
  jZ h (fun k q cs _ hc => hg.block k (jE hc) (fun e => by
    obtain ⟨o, ho, hn⟩ := hr k e.symm
    rw [hc] at ho; cases ho; cases hn))
abbrev kU : Kd Int := Kd.int .u32
theorem uZ : (Try.prog.info? 28).map (fun i => (i.zero, i.size, i.bytes)) = some (some (.int .u32 0), kU.sz, 4) := by kernel_rfl
set_option maxRecDepth 100000 in
set_option maxHeartbeats 4000000 in
theorem vP (Bm mb nn : Nat) (D0 : DataW Nat) (w : World) (hBm : w.heap[Bm]? = some (.cells #[.map (some mb)] 74 (0, 0))) (hown : UM w mb nn D0) (hN : Maps.size D0 ≤ 1000000) :
    Calls Try.prog 112 #[.slice none 0 0, .func (.func 100) #[] #[.pointer (some ⟨Bm, 0, none⟩)]] w fun e w' => ∃ v ss, e = .returned v ∧ o6 D0 ss ∧ kU.R 28 w' w.heap.size (fun _ => True) v ss ∧ Below w.heap.size w w' := by
  refine (callsIn_wide (n := 6)).1 ?_
  refine callsIn_of_wp_marks Try.func112 rfl trivial ?_ rfl
  simp only [Try.ntmps112, List.size_toArray, List.length_cons, List.length_nil, Nat.reduceAdd, Nat.reduceSub, Array.replicate_succ, Array.replicate_zero, List.push_toArray, List.append_toArray, List.nil_append, List.cons_append]
  obtain ⟨W0, hW0⟩ : ∃ W0, W0 = w.alloc (.cells #[.slice none 0 0] 51) := ⟨_, rfl⟩
  have hsz : W0.heap.size = w.heap.size + 1 := by rw [hW0]; simp
  have hB0 : Below w.heap.size w W0 := by rw [hW0]; exact iD (Below.refl _ _) _
  have hx1 : Boxed W0 w.heap.size 51 (.slice none 0 0) := by rw [hW0]; exact iK rfl
  gi_wp2
  rw [← hW0]
  clear hW0
  refine wpIn_rangeFunc_ownF (F := Fence.wide) rfl (by decide) (gf := 100) (lb := #[.pointer (some ⟨Bm, 0, none⟩)]) rfl trivial (enters_of Try.func100 (by kernel_rfl) rfl)
    (yM (6 - 1) (by decide) Bm mb nn D0 w hBm hown) walksK_t (fun W l o o' h1 h2 h3 h4 => walksK_b (w := W0) W l o o' h1 h2 h3 h4) hB0 (fun _ => rfl)
    (fun ss W => (∃ v, Boxed W w.heap.size 51 v ∧ kU.R 28 W (w.heap.size + 1) (fun _ => True) v ss) ∧ Below w.heap.size w W)
    (fun _ _ _ => False)
    (fun ss X Y row h hg hr => by
      obtain ⟨⟨v, h1, h2⟩, h3⟩ := h
      refine ⟨⟨v, (hg.block _ (jE h1) (fun e => ?_)).trans h1, uK h2 hg (fun r e => (hr r e).2)⟩, h3.grown hg h3.size (fun r e => by have := (hr r e).1; omega)⟩
      obtain ⟨_, o, ho, hc⟩ := hr _ e.symm
      rw [show X.heap[w.heap.size]? = _ from h1] at ho; cases ho; cases hc)
    (fun _ _ _ _ _ h _ _ => h)
    ⟨⟨_, hx1, Kd.R_nil _ _ _ _ _⟩, hB0⟩
    (fun x => { tmps := #[.slice none 0 0, .func (.func 100) #[] #[.pointer (some ⟨Bm, 0, none⟩)], .pointer (some ⟨w.heap.size, 0, none⟩), undef, .slice none 0 0, .int .u32 x, .func (.func 100) #[] #[.pointer (some ⟨Bm, 0, none⟩)], .int .u32 x, undef, undef, undef, undef, undef], defers := [] })
    ?assign ?body ?done ?stop
  case assign =>
    intro lp x W K hK
    simp only [encU]
    gi_wp2
    exact hK
  case body =>
    rintro lp pre x W ⟨⟨v, hv, hO⟩, hB⟩ hlen
    obtain ⟨Av, cv, rfl⟩ := Kd.R_slice hO
    obtain ⟨inner, hown⟩ := Kd.R_own hO
    have hne : some w.heap.size ≠ (Value.slice Av pre.length cv).ownBlock := fun e => by have := own_base hown _ e.symm; omega
    have htyp : ∀ (j : Nat) (o : Obj), (Value.slice Av pre.length cv).ownBlock = some j → W.heap[j]? = some o → o.isCells = true := fun j o hj ho => by
      obtain ⟨cells, hc⟩ := nH hown j hj
      rw [hc] at ho; cases ho; rfl
    have hlow : ∀ k, (Value.slice Av pre.length cv).ownBlock = some k → w.heap.size ≤ k := fun k hk => by have := own_base hown _ hk; omega
    have hc1 := hv.cell
    have hf1 := hv.frozen
    have hsW : w.heap.size + 1 ≤ W.heap.size := jE hv
    have hpl : pre.length ≤ 1000000 := by omega
    clear hown hsz
    gi_wp2_with (gi_at_builtin; refine rG kU (w0 := W) (w.heap.size + 1) rfl (.tmp 8) (.tmp 10) 51 28 (.int .u32 0) 4 rfl Try.underlying51 uZ rfl (by decide) (by omega) (.slice Av pre.length cv) pre x [.int .u32 x] (fun _ => True) (fun _ => False) rfl rfl rfl (fun _ h => h.elim) (fun _ _ => trivial) hO (Below.refl _ _) hsW (by omega) ?_; intro v1 w1 ho1 hb1 hg1; obtain ⟨A1, c1, rfl⟩ := Kd.R_slice ho1; have hv1 : Boxed w1 w.heap.size 51 (.slice Av pre.length cv) := (hg1.block _ hsW hne).trans hv; have hc2 := hv1.cell; have hf2 := hv1.frozen)
    rw [show (pre ++ [x]).length = pre.length + 1 from by simp] at ho1
    have hko : KeepsOthers W (w1.setCell ⟨w.heap.size, 0, none⟩ (.slice A1 (pre.length + 1) c1)) := (KeepsOthers.of_grownBy hg1 htyp).trans (KeepsOthers.setCell _ _ _)
    exact ⟨hko, hko.walks, ⟨_, hv1.set _, Kd.R_set ho1 (show w1.heap[w.heap.size]? = some (.cells #[_] _ (0, 0)) from hv1) (by decide) 0 _⟩, (hB.grown hg1 hB.size hlow).setCell (p := ⟨w.heap.size, 0, none⟩) (Nat.le_refl _) _⟩
  case done =>
    rintro D xs W hD hS ⟨⟨v, hv, hO⟩, hB⟩ hK
    obtain ⟨Av, cv, rfl⟩ := Kd.R_slice hO
    have hc1 := hv.cell
    have hf1 := hv.frozen
    have hDl : w.heap.size + 1 ≤ D := by omega
    clear hsz
    gi_wp2
    refine ⟨by simp, .inl ⟨_, _, rfl, run_takeDeferred hK, ?_⟩⟩
    refine ⟨_, results_tmp rfl _ _ _, .slice Av xs.length cv, xs, rfl, hS, Kd.R_lower (uK hO (grownBy_putObj' W D _) (fun r e => by cases e; exact ⟨_, hK, rfl⟩)) (Nat.le_succ _), hB.trans (belowK_b (w := w) (Nat.le_refl _) W D _ _ (by omega) hK rfl rfl)⟩
  case stop =>
    intro D c pre W _ _ h _
    exact h.elim
theorem rQ (mb : Option Nat) (W : World) : Calls Try.prog 88 #[.map mb] W fun e w' => e = .returned (.func (.func 100) #[] #[.pointer (some ⟨W.heap.size, 0, none⟩)]) ∧ w' = W.alloc (.cells #[.map mb] 74) := by
  go_enter Try.func88, Try.ntmps88
  go_wp2
  go_ret
  exact ⟨rfl, rfl⟩
theorem rZ (Bm mb nn : Nat) (D0 : DataW Nat) (w : World) (hBm : w.heap[Bm]? = some (.cells #[.map (some mb)] 74 (0, 0))) (hown : UM w mb nn D0) (hN : Maps.size D0 ≤ 1000000) :
    Calls Try.prog 98 #[.func (.func 100) #[] #[.pointer (some ⟨Bm, 0, none⟩)]] w fun e w' => ∃ v ss, e = .returned v ∧ o6 D0 ss ∧ kU.R 28 w' w.heap.size (fun _ => True) v ss ∧ Below w.heap.size w w' := by
  have hcall := vP Bm mb nn D0 w hBm hown hN
  clear hBm hown hN
  go_enter Try.func98, Try.ntmps98
  go_wp2_with (go_at_call 112; refine hcall.mono ?_; rintro e w1 ⟨v, ss, rfl, hS, hR, hb⟩)
  go_ret
  exact ⟨v, ss, rfl, hS, hR, hb⟩
end Go.Proofs.Ytjppookmjdaplaa.K
end

section
namespace Go.Proofs
open Go.Shelf
def Try.dfuA_ren : Go.Shelf.Ren := ⟨fun | 10 => 86 | 6 => 97 | n => n, fun | 22 => 51 | 23 => 28 | 25 => 72 | 3 => 3 | 4 => 4 | 0 => 0 | n => n, fun | n => n⟩
theorem Try.dfuA : Go.Proofs.SlLaysH.n10 Try.prog Try.dfuA_ren := {
  mixed := by kernel_rfl
  f6 := ⟨Try.f97.name, by decide, Try.func97.trans (congrArg some (by kernel_rfl))⟩
  f10 := ⟨Try.f86.name, by decide, Try.func86.trans (congrArg some (by kernel_rfl))⟩
  t0 := Try.underlying0
  a0 := Try.isAgg0
  z0 := Try.sizeOf0
  v0 := Try.zeroValue0
  t3 := Try.underlying3
  a3 := Try.isAgg3
  z3 := Try.sizeOf3
  v3 := Try.zeroValue3
  t4 := Try.underlying4
  a4 := Try.isAgg4
  z4 := Try.sizeOf4
  v4 := Try.zeroValue4
  t22 := Try.underlying51
  a22 := Try.isAgg51
  z22 := Try.sizeOf51
  v22 := Try.zeroValue51
  a23 := Try.isAgg28
  z23 := Try.sizeOf28
  t25 := Try.underlying72
  a25 := Try.isAgg72
  z25 := Try.sizeOf72
  v25 := Try.zeroValue72 }
end Go.Proofs
end

section
namespace Go.Proofs.Ytjppookmjdaplaa.K
open Go Go.RowKit Go.Maps Go.Proofs.YtjppookmjdaplaaW.PrintWords Go.Proofs.YtjppookmjdaplaaW.PrintLast Go.Proofs.YtjppookmjdaplaaW.PrintMore Go.Proofs.Ytjppookmjdaplaa.My
open Go.Sort (Holds putRow putCells mapBlock onCells)
variable {Z : Nat}
/-- A number on a batches' map. -/
abbrev UId : Type := { x : Int // 0 ≤ x ∧ x < 4294967296 }
instance : Inhabited UId := ⟨⟨0, by omega⟩⟩
def jU (x : UId) : Value := .int .u32 x.1
/-- Is it of that state, and not ended? -/
def CS.isB (s : CS) (st id : Int) : Bool := match s.inn id st with | some b => !b.ended | none => false
section
variable {w : World} {B c : Nat} {s : CS} {mb n : Nat} {D : DataW Nat} {ptr mp : Int → Nat}
set_option maxRecDepth 20000 in
theorem uD (h : CoX Z w B c s mb n D ptr mp) {b2 b3 : Nat} {st : Int} (h2 : w.heap[b2]? = some (.cells #[.pointer (some ⟨c, 0, none⟩)] 23 (0, 0))) (h3 : w.heap[b3]? = some (.cells #[.int .u8 st] 5 (0, 0))) (id : UId) :
    Calls Try.prog 85 #[jU id, .pointer (some ⟨b2, 0, none⟩), .pointer (some ⟨b3, 0, none⟩)] w fun e w' => e = .returned (.bool (s.isB st id.1)) ∧ w' = w := by
  obtain ⟨id, hid⟩ := id
  show Calls _ _ #[.int .u32 id, _, _] w _
  simp only
  have y2 := (iE h2 0).trans (show _ = some (Value.pointer (some ⟨c, 0, none⟩)) from rfl)
  have y3 := (iE h3 0).trans (show _ = some (Value.int .u8 st) from rfl)
  have hin := mD h hid (st := st)
  unfold ptrI at hin
  cases hI : s.inn id st with
  | none =>
    rw [hI] at hin
    rw [show s.isB st id = false from by unfold CS.isB; rw [hI]]
    clear h hid hI h2 h3
    go_enter Try.func85, Try.ntmps85
    go_wp2_with (go_at_call 41; refine hin.mono ?_; rintro e w1 ⟨rfl, rfl⟩)
    go_ret
    exact ⟨rfl, rfl⟩
  | some b =>
    rw [hI] at hin
    rw [show s.isB st id = !b.ended from by unfold CS.isB; rw [hI]]
    have z4 := (h.bat id b (CS.inn_get hI).1).cells.2.2.2
    clear h hid hI h2 h3
    go_enter Try.func85, Try.ntmps85
    go_wp2_with (go_at_call 41; refine hin.mono ?_; rintro e w1 ⟨rfl, rfl⟩)
    go_ret
    exact ⟨rfl, rfl⟩
set_option maxRecDepth 20000 in
theorem uI (h : CoX Z w B c s mb n D ptr mp) {b2 b3 b5 : Nat} {st : Int} (h2 : w.heap[b2]? = some (.cells #[.pointer (some ⟨c, 0, none⟩)] 23 (0, 0))) (h3 : w.heap[b3]? = some (.cells #[.int .u8 st] 5 (0, 0)))
    (h5 : w.heap[b5]? = some (.cells #[.func (.func 85) #[] #[.pointer (some ⟨b2, 0, none⟩), .pointer (some ⟨b3, 0, none⟩)]] 72 (0, 0))) (id : UId) :
    Calls Try.prog 89 #[jU id, .pointer (some ⟨b5, 0, none⟩)] w fun e w' => e = .returned (.bool (!s.isB st id.1)) ∧ w' = w := by
  have hc := uD h h2 h3 id
  have y5 := (iE h5 0).trans (show _ = some (Value.func (.func 85) #[] #[.pointer (some ⟨b2, 0, none⟩), .pointer (some ⟨b3, 0, none⟩)]) from rfl)
  obtain ⟨q, hq⟩ : ∃ q, q = s.isB st id.1 := ⟨_, rfl⟩
  rw [← hq] at hc ⊢
  unfold jU at hc ⊢
  clear h h2 h3 h5 hq
  go_enter Try.func89, Try.ntmps89
  go_wp2_with (go_at_call 85; refine hc.mono ?_; rintro e w1 ⟨rfl, rfl⟩)
  go_ret
  exact ⟨rfl, rfl⟩
end
end Go.Proofs.Ytjppookmjdaplaa.K
end

section
namespace Go.Proofs.Ytjppookmjdaplaa.K
open Go Go.RowKit Go.Maps Go.Proofs.YtjppookmjdaplaaW.PrintWords Go.Proofs.YtjppookmjdaplaaW.PrintLast Go.Proofs.YtjppookmjdaplaaW.PrintMore Go.Proofs.Ytjppookmjdaplaa.My
open Go.Sort (Holds putRow putCells mapBlock onCells grow)
variable {Z : Nat}
def jF (L : List UId) : List Int := L.map (·.1)
theorem jR (w : World) (g q : Nat) (d : Array UId) (os : Array Obj) {j : Nat} (hj : j ≠ g) (hlt : j < w.heap.size) : (sortWorld jU w g 0 q d os).heap[j]? = w.heap[j]? := by
  show ((w.heap.modify g (onCells (putCells jU 0 d))) ++ os)[j]? = _
  rw [Array.getElem?_append_left (by simpa using hlt), Array.getElem?_modify, if_neg (Ne.symm hj)]
/-- A row of numbers behind its being rewritten: a piece of it, read. -/
theorem uT {w : World} {g q B' cap k : Nat} {cur : Array Value} {os : Array Obj} (dd : List UId) (hk : k ≤ dd.length) (hd : dd.length ≤ cap) (hg : w.heap[g]? = some (.cells cur 28 (0, 0))) (hcs : cur.size = cap) (hcm : cap ≤ maxLen) (hb : B' ≤ g) :
    kU.R 28 (grow (putRow jU (Sort.ahead w q) g 0 dd.toArray) os) B' (fun _ => True) (.slice (some ⟨g, 0, none⟩) k cap) (jF (dd.take k)) := by
  have hlen : (jF (dd.take k)).length = k := by simp [jF]; omega
  have h := Kd.R_of_own (enc := Value.int .u32) (h1 := fun _ => rfl) (e := 28) (w := grow (putRow jU (Sort.ahead w q) g 0 dd.toArray) os) (base := B') (ok := fun _ => True) (v := .slice (some ⟨g, 0, none⟩) k cap) (xs := jF (dd.take k)) ?_ (fun _ _ => trivial)
  · exact h
  refine ⟨by simp [encs], .inr ⟨g, cap, putCells jU 0 dd.toArray cur, by rw [hlen], hb, ?_, by rw [hlen]; omega, hcm, by simp [putCells, hcs], ?_⟩⟩
  · have hlt := jE hg
    show ((w.heap.modify g (onCells (putCells jU 0 dd.toArray))) ++ os)[g]? = _
    rw [Array.getElem?_append_left (by simpa using hlt), Array.getElem?_modify, if_pos rfl, hg]
    rfl
  · rw [Nat.mul_one, hlen]
    refine List.ext_getElem? (fun j => ?_)
    by_cases hj : j < k
    · have hj1 : j < dd.length := by omega
      have hj2 : j < cur.size := by omega
      rw [List.getElem?_take_of_lt hj, Array.getElem?_toList]
      simp [putCells, hj1, hj2, encs, jF, List.getElem?_take_of_lt hj, jU]
    · rw [List.getElem?_take_eq_none (by omega), List.getElem?_eq_none (by simp [encs, hlen]; omega)]
theorem oG {w : World} {g q : Nat} {os : Array Obj} (d : Array UId) : w.grownBy (grow (putRow jU (Sort.ahead w q) g 0 d) os) (some g) :=
  ⟨rfl, rfl, rfl, by show w.heap.size ≤ ((w.heap.modify g _) ++ os).size; simp, fun j hlt hj => by
    show ((w.heap.modify g (onCells (putCells jU 0 d))) ++ os)[j]? = _
    rw [Array.getElem?_append_left (by simpa using hlt), Array.getElem?_modify, if_neg (fun e => hj (by rw [e]))]⟩
theorem oL (w : World) : grow w #[] = w := by unfold grow; simp
section
variable {w : World} {B c : Nat} {s : CS} {mb n : Nat} {D : DataW Nat} {ptr mp : Int → Nat}
/-- What the closures look at stays where a row of numbers is rewritten. -/
theorem CoX.sortW (h : CoX Z w B c s mb n D ptr mp) {g : Nat} {cur : Array Value} (hg : w.heap[g]? = some (.cells cur 28 (0, 0))) (q : Nat) (d : Array UId) (os : Array Obj) : CoX Z (sortWorld jU w g 0 q d os) B c s mb n D ptr mp := by
  have hc : ∀ {j : Nat} {t : TypeId} {cs : Array Value}, w.heap[j]? = some (.cells cs t (0, 0)) → t ≠ 28 → (sortWorld jU w g 0 q d os).heap[j]? = w.heap[j]? := fun hj ht => jR w g q d os (fun e => by subst e; rw [hg] at hj; cases hj; exact ht rfl) (jE hj)
  have hm : ∀ {k : TypeId} {R : Value → Option (DataW Nat × List MemPlace)} {j n : Nat} {E : DataW Nat}, w.ownsMap Try.prog k R j n E → (sortWorld jU w g 0 q d os).heap[j]? = w.heap[j]? := fun hj => jR w g q d os (fun e => by subst e; exact jK hj _ _ _ hg) hj.lt
  obtain ⟨A, k, h1, _⟩ := h.blk
  refine h.step (by show w.heap.size ≤ ((w.heap.modify g _) ++ os).size; simp) (hc h1 (by decide)) (hm h.own) (fun id b hb => ?_) (fun k t cs ht hk => hc hk (by rcases ht with rfl | rfl <;> decide))
  obtain ⟨A', k', h2, _⟩ := (h.bat id b hb).blk
  obtain ⟨E, h3, _⟩ := (h.bat id b hb).map
  exact ⟨hc h2 (by decide), hm h3⟩
/-- The numbers of a state, of those that are given. -/
def nP (s : CS) (st : Int) (L : List UId) : List UId := L.filter fun x => !(!s.isB st x.1)
theorem pX (s : CS) (st : Int) (L : List UId) : jF (nP s st L) = (jF L).filter (s.isB st) := by
  unfold jF nP
  rw [List.filter_map]
  congr 1
  refine List.filter_congr (fun x _ => ?_)
  simp
theorem idx0 (fv : Value) (A : Option Addr) (cp : Nat) (w : World) : Calls Try.prog 97 #[.slice A 0 cp, fv] w fun e w' => e = .returned (.int .i64 (-1)) ∧ w' = w := by
  go_enter Try.func97, Try.ntmps97
  go_wp2
  refine wp_loop_rounds 1 ?_
  rw [rounds_succ]
  go_wp2
  go_ret
  exact ⟨rfl, rfl⟩
theorem del0 (fv : Value) (A : Option Addr) (cp : Nat) (w : World) : Calls Try.prog 86 #[.slice A 0 cp, fv] w fun e w' => e = .returned (.slice A 0 cp) ∧ w' = w := by
  have hcall := idx0 fv A cp w
  go_enter Try.func86, Try.ntmps86
  go_wp2_with (go_at_call 97; refine hcall.mono ?_; rintro e w1 ⟨rfl, rfl⟩)
  go_ret
  exact ⟨rfl, rfl⟩
theorem delU (h : CoX Z w B c s mb n D ptr mp) {b2 b3 b5 : Nat} {st : Int} (h2 : w.heap[b2]? = some (.cells #[.pointer (some ⟨c, 0, none⟩)] 23 (0, 0))) (h3 : w.heap[b3]? = some (.cells #[.int .u8 st] 5 (0, 0)))
    (h5 : w.heap[b5]? = some (.cells #[.func (.func 85) #[] #[.pointer (some ⟨b2, 0, none⟩), .pointer (some ⟨b3, 0, none⟩)]] 72 (0, 0))) {B' : Nat} {A : Option Addr} {cp : Nat} (L : List UId) (hR : kU.R 28 w B' (fun _ => True) (.slice A L.length cp) (jF L)) :
    Calls Try.prog 86 #[.slice A L.length cp, .func (.func 89) #[] #[.pointer (some ⟨b5, 0, none⟩)]] w fun e w' => ∃ v, e = .returned v ∧ kU.R 28 w' B' (fun _ => True) v ((jF L).filter (s.isB st)) ∧ w.grownBy w' (Value.slice A L.length cp).ownBlock := by
  have hln : (jF L).length = L.length := by simp [jF]
  have ho := Kd.own_of_R hR
  rw [hln] at ho
  rcases ho.2 with ⟨hv, h0⟩ | ⟨g, cap, cur, hv, hbg, hg, hnc, hcm, hcs, htk⟩
  · have hL0 : L = [] := List.length_eq_zero_iff.1 h0
    subst hL0
    refine (del0 _ A cp w).mono ?_
    rintro e w' ⟨rfl, rfl⟩
    exact ⟨_, rfl, hR, World.grownBy.refl _ _⟩
  · simp only [Value.slice.injEq] at hv
    obtain ⟨rfl, _, rfl⟩ := hv
    rw [Nat.mul_one] at htk hcs
    have hcell : ∀ j (hj : j < L.length), cur[j]? = some (jU (L[j])) := fun j hj => by
      have : (cur.toList.take L.length)[j]? = (encs (Value.int .u32) (jF L))[j]? := by rw [htk]
      rw [List.getElem?_take_of_lt hj, Array.getElem?_toList] at this
      rw [this]
      simp [encs, jF, List.getElem?_eq_getElem hj, jU]
    have hH : Holds jU w g 0 L.toArray := fun j hj => by
      have hj' : j < L.length := by simpa using hj
      rw [Nat.zero_add]
      refine ⟨?_, iH hg j⟩
      rw [iE hg j, hcell j hj', getElem!_pos L.toArray j hj]; simp
    have hpc := fun (W : World) (x : UId) (hX : CoX Z W B c s mb n D ptr mp) (e2 : W.heap[b2]? = _) (e3 : W.heap[b3]? = _) (e5 : W.heap[b5]? = _) => (uI hX (st := st) e2 e3 e5 x).mono (R' := fun e w' => e = .returned (.bool (!s.isB st x.1)) ∧ ∃ q, w' = W.drewN q) (fun e w' hh => ⟨hh.1, 0, hh.2⟩)
    have hne : ∀ {j : Nat} {t : TypeId} {cs : Array Value}, w.heap[j]? = some (.cells cs t (0, 0)) → t ≠ 28 → j ≠ g := fun hj ht e => by subst e; rw [hg] at hj; cases hj; exact ht rfl
    have hk := AnyE.slices_DeleteFunc Try.dfuA jU (fun _ => rfl) (fun x => !s.isB st x.1) 89 #[.pointer (some ⟨b5, 0, none⟩)] (enters_of Try.func89 (by kernel_rfl) rfl) (⟨0, by omega⟩ : UId) (fun w => by kernel_rfl) g 0 cp L.toArray w
      (fun W x hb => hpc W x (h.below hb) (iJ hb h2) (iJ hb h3) (iJ hb h5))
      (fun q os dk x _ => hpc _ x (h.sortW hg q dk os) ((jR w g q dk os (hne h2 (by decide)) (jE h2)).trans h2) ((jR w g q dk os (hne h3 (by decide)) (jE h3)).trans h3) ((jR w g q dk os (hne h5 (by decide)) (jE h5)).trans h5))
      hH (by simp [maxLen] at *; omega) (by simpa using hnc)
    simp only [List.size_toArray] at hk
    refine Calls.mono hk ?_
    rintro e w' ⟨rfl, q, rfl⟩
    have hfl : (nP s st L).length ≤ L.length := List.length_filter_le _ _
    have hR2 := uT (q := q) (os := #[]) (k := (nP s st L).length) (nP s st L ++ List.replicate (L.length - (nP s st L).length) (⟨0, by omega⟩ : UId)) (by rw [List.length_append]; omega) (by rw [List.length_append, List.length_replicate]; omega) hg hcs hcm hbg
    rw [List.take_append_of_le_length (Nat.le_refl _), List.take_length, pX, oL] at hR2
    have hG := oG (w := w) (g := g) (q := q) (os := #[]) (nP s st L ++ List.replicate (L.length - (nP s st L).length) (⟨0, by omega⟩ : UId)).toArray
    rw [oL] at hG
    exact ⟨_, rfl, hR2, hG⟩
end
end Go.Proofs.Ytjppookmjdaplaa.K
end

section
namespace Go.Proofs.Ytjppookmjdaplaa.K
open Go Go.RowKit Go.Maps Go.Proofs.YtjppookmjdaplaaW.PrintWords Go.Proofs.YtjppookmjdaplaaW.PrintLast Go.Proofs.YtjppookmjdaplaaW.PrintMore Go.Proofs.Ytjppookmjdaplaa.My
open Go.Sort (Holds putRow putCells mapBlock onCells grow)
theorem xI (w : World) : Calls Try.prog 111 #[.int .u64 0] w fun e w' => ∃ x : Int, e = .returned (.int .i64 x) ∧ w' = w := by
  go_enter Try.func111, Try.ntmps111
  go_wp2
  go_ret
  exact ⟨_, rfl, rfl⟩
theorem vK (w : World) : Calls Try.prog 111 #[.int .u64 1] w fun e w' => ∃ x : Int, e = .returned (.int .i64 x) ∧ w' = w := by
  go_enter Try.func111, Try.ntmps111
  go_wp2
  go_ret
  exact ⟨_, rfl, rfl⟩
theorem xO (n : Nat) (hn : n ≤ 1) (w : World) : Calls Try.prog 92 #[.int .u64 n] w fun e w' => ∃ x : Int, e = .returned (.int .i64 x) ∧ w' = w := by
  rcases (by omega : n = 0 ∨ n = 1) with rfl | rfl
  · have hc := xI w
    go_enter Try.func92, Try.ntmps92
    go_wp2_with (go_at_call 111; refine hc.mono ?_; rintro e w1 ⟨x, rfl, rfl⟩)
    go_ret
    exact ⟨_, rfl, rfl⟩
  · have hc := vK w
    go_enter Try.func92, Try.ntmps92
    go_wp2_with (go_at_call 111; refine hc.mono ?_; rintro e w1 ⟨x, rfl, rfl⟩)
    go_ret
    exact ⟨_, rfl, rfl⟩
theorem xY (n : Nat) (hn : n ≤ 1) (A : Option Addr) (cp : Nat) (w : World) : Calls Try.prog 120 #[.slice A n cp, .int .i64 0, .int .i64 n] w fun e w' => e = .returned (.tuple #[]) ∧ w' = w := by
  rcases (by omega : n = 0 ∨ n = 1) with rfl | rfl
  · go_enter Try.func120, Try.ntmps120
    go_wp2
    refine wp_loop_rounds 1 ?_
    rw [rounds_succ]
    go_wp2
    first | go_end0 | refine bodyPost_ret (results_none rfl _ _ _) rfl ?_
    exact ⟨rfl, rfl⟩
  · go_enter Try.func120, Try.ntmps120
    go_wp2
    refine wp_loop_rounds 1 ?_
    rw [rounds_succ]
    go_wp2
    first | go_end0 | refine bodyPost_ret (results_none rfl _ _ _) rfl ?_
    exact ⟨rfl, rfl⟩
theorem yJ (n : Nat) (hn : n ≤ 1) (A : Option Addr) (cp : Nat) (lim : Int) (w : World) : Calls Try.prog 113 #[.slice A n cp, .int .i64 0, .int .i64 n, .int .i64 lim] w fun e w' => e = .returned (.tuple #[]) ∧ w' = w := by
  have hc := xY n hn A cp w
  rcases (by omega : n = 0 ∨ n = 1) with rfl | rfl
  · go_enter Try.func113, Try.ntmps113
    go_wp2
    refine wp_loop_rounds 1 ?_
    rw [rounds_succ]
    go_wp2_with (go_at_call 120; refine hc.mono ?_; rintro e w1 ⟨rfl, rfl⟩)
    first | go_end0 | refine bodyPost_ret (results_none rfl _ _ _) rfl ?_
    exact ⟨rfl, rfl⟩
  · go_enter Try.func113, Try.ntmps113
    go_wp2
    refine wp_loop_rounds 1 ?_
    rw [rounds_succ]
    go_wp2_with (go_at_call 120; refine hc.mono ?_; rintro e w1 ⟨rfl, rfl⟩)
    first | go_end0 | refine bodyPost_ret (results_none rfl _ _ _) rfl ?_
    exact ⟨rfl, rfl⟩
theorem vI (n : Nat) (hn : n ≤ 1) (A : Option Addr) (cp : Nat) (w : World) : Calls Try.prog 99 #[.slice A n cp] w fun e w' => e = .returned (.tuple #[]) ∧ w' = w := by
  have hb := xO n hn w
  have hp := fun l => yJ n hn A cp l w
  rcases (by omega : n = 0 ∨ n = 1) with rfl | rfl
  · go_enter Try.func99, Try.ntmps99
    go_wp2_with (first
      | (go_at_call 92; refine hb.mono ?_; rintro e w1 ⟨x, rfl, rfl⟩)
      | (go_at_call 113; refine (hp _).mono ?_; rintro e w1 ⟨rfl, rfl⟩))
    first | go_end0 | refine bodyPost_ret (results_none rfl _ _ _) rfl ?_
    exact ⟨rfl, rfl⟩
  · go_enter Try.func99, Try.ntmps99
    go_wp2_with (first
      | (go_at_call 92; refine hb.mono ?_; rintro e w1 ⟨x, rfl, rfl⟩)
      | (go_at_call 113; refine (hp _).mono ?_; rintro e w1 ⟨rfl, rfl⟩))
    first | go_end0 | refine bodyPost_ret (results_none rfl _ _ _) rfl ?_
    exact ⟨rfl, rfl⟩
end Go.Proofs.Ytjppookmjdaplaa.K
end

section
namespace Go.Proofs.Ytjppookmjdaplaa.K
open Go Go.RowKit Go.Maps Go.Proofs.YtjppookmjdaplaaW.PrintWords Go.Proofs.YtjppookmjdaplaaW.PrintLast Go.Proofs.YtjppookmjdaplaaW.PrintMore Go.Proofs.Ytjppookmjdaplaa.My
open Go.Sort (Holds putRow putCells mapBlock onCells grow)
variable {Z : Nat}
/-- slices.Sort of at most n numbers. -/
def oO (n : Nat) : Prop := ∀ (L : List UId) (A : Option Addr) (cp B' : Nat) (w : World), L.length ≤ n → kU.R 28 w B' (fun _ => True) (.slice A L.length cp) (jF L) →
  Calls Try.prog 99 #[.slice A L.length cp] w fun e w' => e = .returned (.tuple #[]) ∧ ∃ L' : List UId, L'.Perm L ∧ L'.Pairwise (fun x y => x.1 ≤ y.1) ∧ kU.R 28 w' B' (fun _ => True) (.slice A L.length cp) (jF L') ∧ w.grownBy w' (Value.slice A L.length cp).ownBlock
theorem pI : oO 1 := fun L A cp B' w hn hR => (vI L.length hn A cp w).mono (by
  rintro e w' ⟨rfl, rfl⟩
  refine ⟨rfl, L, .refl _, ?_, hR, World.grownBy.refl _ _⟩
  rcases L with _ | ⟨a, _ | ⟨b, r⟩⟩
  · exact .nil
  · exact List.Pairwise.cons (fun x hx => (by cases hx)) .nil
  · simp only [List.length_cons] at hn; omega)
theorem nI : ∀ (ss m : List Int), ss.Nodup → (∀ x ∈ ss, x ∈ m) → ss.length ≤ m.length
  | [], _, _, _ => Nat.zero_le _
  | a :: r, m, hn, hs => by
    have ha : a ∈ m := hs a (by simp)
    have hn' := List.nodup_cons.1 hn
    have h := nI r (m.erase a) hn'.2 (fun x hx => (List.mem_erase_of_ne (fun e => hn'.1 (by subst e; exact hx))).2 (hs x (by simp [hx])))
    rw [List.length_erase_of_mem ha] at h
    have : 0 < m.length := List.length_pos_of_mem ha
    simp only [List.length_cons]; omega
def upU (ss : List Int) (h : ∀ x ∈ ss, 0 ≤ x ∧ x < 4294967296) : List UId := ss.pmap (fun x hx => ⟨x, hx⟩) h
theorem uC (ss : List Int) (h : ∀ x ∈ ss, 0 ≤ x ∧ x < 4294967296) : jF (upU ss h) = ss := by
  unfold jF upU
  rw [List.map_pmap]
  simp
/-- slices.Sorted of a map's keys. -/
theorem xH {k : Nat} (hS : oO k) (Bm mb nn : Nat) (D0 : DataW Nat) (w : World) (hBm : w.heap[Bm]? = some (.cells #[.map (some mb)] 74 (0, 0))) (hown : UM w mb nn D0) (hN : Maps.size D0 ≤ 1000000) (hK : ∀ ss, o6 D0 ss → ss.length ≤ k ∧ ∀ x ∈ ss, 0 ≤ x ∧ x < 4294967296) :
    Calls Try.prog 87 #[.func (.func 100) #[] #[.pointer (some ⟨Bm, 0, none⟩)]] w fun e w' => ∃ (A : Option Addr) (cp : Nat) (L : List UId), e = .returned (.slice A L.length cp) ∧ o6 D0 (jF L) ∧ L.Pairwise (fun x y => x.1 ≤ y.1) ∧ kU.R 28 w' w.heap.size (fun _ => True) (.slice A L.length cp) (jF L) ∧ Below w.heap.size w w' := by
  have hcall := rZ Bm mb nn D0 w hBm hown hN
  have HK := iC.mk hK
  clear hBm hown hN hK
  go_enter Try.func87, Try.ntmps87
  go_wp2_with fail
  go_at_call 98
  refine hcall.mono ?_
  rintro e w1 ⟨v, ss, rfl, hk, hR, hb⟩
  obtain ⟨A, cp, rfl⟩ := Kd.R_slice hR
  obtain ⟨hl, hr⟩ := HK.out ss hk
  obtain ⟨L, hL⟩ : ∃ L, L = upU ss hr := ⟨_, rfl⟩
  have hv : jF L = ss := by rw [hL]; exact uC ss hr
  have hln : L.length = ss.length := by rw [← hv]; simp [jF]
  rw [← hv] at hk hR
  rw [← hln] at hl ⊢
  rw [show (jF L).length = L.length from by simp [jF]] at hR
  have hso := hS L A cp w.heap.size w1 hl hR
  have HB := iC.mk hb
  have HR := iC.mk hR
  have HKK := iC.mk hk
  clear hcall hk hR hb hl hr hL hv hln HK ss
  go_wp2_with fail
  go_at_call 99
  refine hso.mono ?_
  rintro e w2 ⟨rfl, L', hp, hpw, hR2, hg⟩
  have hlow : ∀ j, (Value.slice A L.length cp).ownBlock = some j → w.heap.size ≤ j := fun j hj => by
    obtain ⟨inner, ho⟩ := Kd.R_own HR.out
    have := own_base ho j hj; omega
  have HB2 := iC.mk (HB.out.grown hg HB.out.size hlow)
  have hln := hp.length_eq
  have H := iC.mk (And.intro hp (And.intro hpw hR2))
  clear hso hp hpw hR2 hg hlow hS
  go_wp2
  go_ret
  refine ⟨A, cp, L', by show Ending.returned (.slice A L.length cp) = _; rw [hln], ⟨(H.out.1.map _).nodup_iff.2 HKK.out.1, fun x => ((H.out.1.map _).mem_iff).trans (HKK.out.2 x)⟩, H.out.2.1, ?_, HB2.out⟩
  rw [hln]; exact H.out.2.2
/-- What 'all' tells. -/
structure AllU (s : CS) (st : Int) (l : List Int) : Prop where
  le : l.Pairwise (· ≤ ·)
  nd : l.Nodup
  mem : ∀ x, x ∈ l ↔ s.isB st x = true
theorem CS.isB_get {s : CS} {st id : Int} (h : s.isB st id = true) : ∃ b, getB s.L id = some b := by
  unfold CS.isB at h
  cases hi : s.inn id st with
  | none => rw [hi] at h; cases h
  | some b => exact ⟨b, (CS.inn_get hi).1⟩
theorem vG (P : Program) (w : World) (a : Addr) (m : Mode) (fn : Fn) (first captured : Array Value) : (store a (.func fn first captured) m).run P w = stored P w a (.func fn first captured) m := run_store P w a _ m rfl
section
variable {w : World} {B c : Nat} {s : CS} {mb n : Nat} {D : DataW Nat} {ptr mp : Int → Nat}
theorem CoX.has (h : CoX Z w B c s mb n D ptr mp) (id : Int) : Maps.has D (.int .u32 id) = true ↔ ∃ b, getB s.L id = some b := by
  have hat := h.at_ id
  cases hg : getB s.L id with
  | some b =>
    rw [hg] at hat
    exact ⟨fun _ => ⟨b, rfl⟩, fun _ => has_true_of_atKey hat⟩
  | none =>
    rw [hg] at hat
    refine ⟨fun hh => ?_, fun ⟨b, hb⟩ => by cases hb⟩
    rw [has_false_of_atKey hat] at hh; cases hh
theorem CoX.keys (h : CoX Z w B c s mb n D ptr mp) {ss : List Int} (hk : o6 D ss) : ss.length ≤ s.L.length ∧ ∀ x ∈ ss, 0 ≤ x ∧ x < 4294967296 := by
  have hm : ∀ x ∈ ss, ∃ b, getB s.L x = some b := fun x hx => (h.has x).1 ((hk.2 x).1 hx)
  refine ⟨?_, fun x hx => ?_⟩
  · have := nI ss (keysB s.L) hk.1 (fun x hx => by obtain ⟨b, hb⟩ := hm x hx; exact List.mem_map.2 ⟨_, lG hb, rfl⟩)
    simpa [keysB] using this
  · obtain ⟨b, hb⟩ := hm x hx
    exact h.ok.key _ (lG hb)
end
attribute [local go_sem] vG
set_option maxRecDepth 20000 in
theorem vN {w : World} {B c : Nat} {s : CS} {n k : Nat} (hS : oO k) (h : Co Z w B c n s) (hs : s.L.length ≤ k) (hn : n ≤ 1000000) (st : Int) :
    Calls Try.prog 64 #[.pointer (some ⟨c, 0, none⟩), .int .u8 st] w fun e w' => ∃ (v : Value) (l : List Int), e = .returned v ∧ kU.R 28 w' w.heap.size (fun _ => True) v l ∧ AllU s st l ∧ Below w.heap.size w w' := by
  obtain ⟨mb, D, ptr, mp, h⟩ := h
  have HH := iC.mk h
  have c0 := h.cells.1
  have hclt := h.clt
  obtain ⟨W4, hW4⟩ : ∃ W4, W4 = ((w.alloc (.cells #[.pointer (some ⟨c, 0, none⟩)] 23)).alloc (.cells #[.int .u8 st] 5)).alloc (.cells #[(Value.func (.func 85) #[] #[.pointer (some ⟨w.heap.size, 0, none⟩), .pointer (some ⟨w.heap.size + 1, 0, none⟩)])] 72) := ⟨_, rfl⟩
  have hb4 : Below w.heap.size w W4 := by
    rw [hW4]
    exact iD (iD (iD (Below.refl _ _) _) _) _
  have g2 : W4.heap[w.heap.size]? = some (.cells #[.pointer (some ⟨c, 0, none⟩)] 23 (0, 0)) := by
    rw [hW4]; exact iJ (iD (Below.refl _ _) _) (iJ (iD (Below.refl _ _) _) (iK rfl))
  have g3 : W4.heap[w.heap.size + 1]? = some (.cells #[.int .u8 st] 5 (0, 0)) := by
    rw [hW4]; exact iJ (iD (Below.refl _ _) _) (iK (by simp))
  have g5 : W4.heap[w.heap.size + 1 + 1]? = some (.cells #[(Value.func (.func 85) #[] #[.pointer (some ⟨w.heap.size, 0, none⟩), .pointer (some ⟨w.heap.size + 1, 0, none⟩)])] 72 (0, 0)) := by
    rw [hW4]; exact iK (by simp)
  have h4 := h.below hb4
  have y0 := h4.cells.1
  rw [hW4] at y0
  have hsz4 : w.heap.size ≤ W4.heap.size := hb4.size
  obtain ⟨W5, hW5⟩ : ∃ W5, W5 = W4.alloc (.cells #[.map (some mb)] 74) := ⟨_, rfl⟩
  have hal : Below W4.heap.size W4 W5 := by rw [hW5]; exact iD (Below.refl _ _) _
  have h5 := h4.below hal
  have hso := xH hS W4.heap.size mb n D W5 (by rw [hW5]; exact iK rfl) h5.own (by have := h5.own.size_le; omega) (fun ss hk => ⟨Nat.le_trans (h5.keys hk).1 hs, (h5.keys hk).2⟩)
  have hkeys := rQ (some mb) W4
  rw [← hW5] at hkeys
  have HB5 := iC.mk (hb4.trans (hal.mono hsz4))
  have H5 := iC.mk h5
  have G2 := iC.mk (iJ hal g2)
  have G3 := iC.mk (iJ hal g3)
  have G5 := iC.mk (iJ hal g5)
  have HW4 := iC.mk hW4
  clear h hW5 hal h5 hb4 g2 g3 g5 h4 hS hs hclt hW4
  go_enter Try.func64, Try.ntmps64
  go_wp2_with fail
  rw [← HW4.out]
  clear y0
  go_at_call 88
  refine hkeys.mono ?_
  rintro e w1 ⟨rfl, rfl⟩
  clear hkeys
  go_wp2_with fail
  go_at_call 87
  refine hso.mono ?_
  rintro e w6 ⟨A, cp, L, rfl, hK, hle, hR, hb6⟩
  have h6 := H5.out.below hb6
  have hdel := delU (st := st) h6 (iJ hb6 G2.out) (iJ hb6 G3.out) (iJ hb6 G5.out) L hR
  have HB6 := iC.mk (iI HB5.out hb6)
  have HR6 := iC.mk hR
  have HA : iC (AllU s st ((jF L).filter (s.isB st))) := iC.mk ⟨List.Pairwise.sublist List.filter_sublist (List.pairwise_map.2 hle), hK.1.sublist List.filter_sublist, fun x => by
    rw [List.mem_filter, hK.2 x, h6.has x]
    exact ⟨fun hh => hh.2, fun hh => ⟨CS.isB_get hh, hh⟩⟩⟩
  have hsz := HB5.out.size
  clear hso hK hle hR h6 hb6
  go_wp2_with fail
  go_at_call 86
  refine hdel.mono ?_
  rintro e w7 ⟨v, rfl, hR7, hg⟩
  have hlow : ∀ j, (Value.slice A L.length cp).ownBlock = some j → w.heap.size ≤ j := fun j hj => by
    obtain ⟨inner, ho⟩ := Kd.R_own HR6.out
    have := own_base ho j hj; omega
  have HB7 := iC.mk (HB6.out.grown hg HB6.out.size hlow)
  have HR7 := iC.mk (Kd.R_lower hR7 hsz)
  clear hdel hR7 hg hlow
  go_wp2
  go_ret
  exact ⟨v, _, rfl, HR7.out, HA.out, HB7.out⟩
theorem oW {w : World} {B c : Nat} {s : CS} {n k : Nat} (hS : oO k) (h : Co Z w B c n s) (hs : s.L.length ≤ k) (hn : n ≤ 1000000) :
    Calls Try.prog 33 #[.pointer (some ⟨c, 0, none⟩)] w fun e w' => ∃ (v : Value) (l : List Int), e = .returned v ∧ kU.R 28 w' w.heap.size (fun _ => True) v l ∧ AllU s 2 l ∧ Below w.heap.size w w' := by
  have hc := vN hS h hs hn 2
  clear h hs hn hS
  go_enter Try.func33, Try.ntmps33
  go_wp2_with (go_at_call 64; refine hc.mono ?_; rintro e w1 ⟨v, l, rfl, h1, h2, h3⟩)
  go_ret
  exact ⟨v, l, rfl, h1, h2, h3⟩
end Go.Proofs.Ytjppookmjdaplaa.K
end

section
namespace Go.Proofs.Ytjppookmjdaplaa.K
open Go Go.RowKit Go.Maps Go.Proofs.YtjppookmjdaplaaW.PrintWords Go.Proofs.YtjppookmjdaplaaW.PrintLast Go.Proofs.YtjppookmjdaplaaW.PrintMore Go.Proofs.Ytjppookmjdaplaa.My
theorem AllU.one {s : CS} {st a : Int} {l : List Int} (h : AllU s st l) (ha : ∀ x, s.isB st x = true ↔ x = a) : l.length = 1 := by
  have hm : ∀ x, x ∈ l ↔ x = a := fun x => (h.mem x).trans (ha x)
  have hn := h.nd
  rcases l with _ | ⟨x, _ | ⟨y, r⟩⟩
  · have := (hm a).2 rfl; cases this
  · rfl
  · obtain rfl := (hm x).1 (by simp)
    obtain rfl := (hm y).1 (by simp)
    simp at hn
theorem AllU.none {s : CS} {st : Int} {l : List Int} (h : AllU s st l) (ha : ∀ x, s.isB st x = false) : l = [] :=
  List.eq_nil_iff_forall_not_mem.2 (fun x hx => by have := (h.mem x).1 hx; rw [ha x] at this; cases this)
attribute [-go_sem] Instr.build
attribute [local go_sem] oU pM
end Go.Proofs.Ytjppookmjdaplaa.K
end

section
namespace Go.Proofs.Ytjppookmjdaplaa.K
open Go Go.RowKit Go.Maps Go.Proofs.YtjppookmjdaplaaW.PrintWords Go.Proofs.YtjppookmjdaplaaW.PrintLast Go.Proofs.YtjppookmjdaplaaW.PrintMore Go.Proofs.Ytjppookmjdaplaa.My
def fS (T : Int) (b : CB) : CS := ⟨[(9, b)], T, 0, 0, 1, [⟨0, 0⟩]⟩
theorem uN (T : Int) (b : CB) (h : b.st = 2) : (fS T b).inn 9 2 = some b := by simp [CS.inn, fS, getB, h, Option.filter]
theorem qY (T : Int) (b : CB) (h : b.st = 2) (he : b.ended = false) (x : Int) : (fS T b).doneE 9 x = (b.say x).all ∧ (fS T b).done 9 x = fS T (b.say x) := by
  unfold CS.doneE CS.done CS.owe
  rw [uN T b h]
  simp only [Option.filter, he]
  exact ⟨rfl, by simp [CS.say, CS.withL, fS, setB]⟩
theorem uP (T : Int) (b : CB) (h : b.st = 2) : (fS T b).endE 9 = 0 ∧ (fS T b).end_ 9 = fS T b.end_ := by
  unfold CS.endE CS.end_
  rw [uN T b h]
  exact ⟨rfl, by simp [CS.withL, fS, setB]⟩
theorem yC (T : Int) (b : CB) (h : b.st = 2) (he : b.ended = false) (x : Int) : (fS T b).isB 2 x = true ↔ x = 9 := by
  unfold CS.isB CS.inn fS getB getB
  by_cases e : (9 : Int) = x
  · subst e; simp [h, he, Option.filter]
  · rw [if_neg e]; simp [Option.filter]; exact fun h => e h.symm
theorem xJ (T : Int) (b : CB) (x : Int) : (fS T b.end_).isB 2 x = false := by
  unfold CS.isB CS.inn fS getB getB
  by_cases e : (9 : Int) = x
  · subst e
    by_cases h : b.st = 2
    · simp [CB.end_, Option.filter, h]
    · simp [CB.end_, Option.filter, h]
  · rw [if_neg e]; simp [Option.filter]
theorem oV (T : Int) (b : CB) (x : Int) : (fS T b.end_).doneE 9 x = false ∧ (fS T b.end_).done 9 x = fS T b.end_ := by
  have : (fS T b.end_).owe 9 = none := by
    unfold CS.owe CS.inn fS getB
    by_cases h : b.st = 2 <;> simp [CB.end_, Option.filter, h]
  unfold CS.doneE CS.done
  rw [this]
  exact ⟨rfl, rfl⟩
attribute [-go_sem] Instr.build
attribute [local go_sem] bu_2 bu_4 oU pM mk7
set_option maxRecDepth 20000 in
set_option maxHeartbeats 8000000 in
theorem coordEnds_walk (b : Nat) (A1 : Option Addr) (q1 : Nat) (l : List UInt8) (t : Nat) (w : World) (hb : b < 256) (hr : kb.C w A1 l.length l) (hc : l.length ≤ q1) (ht : t < 65536) :
    Calls Try.prog 8 #[.int .u8 (b : Int), .slice A1 l.length q1, .int .u16 (t : Int)] w fun e w' => e = .returned (.bool true) ∧ Below w.heap.size w w' := by
  have hmx := hr.2.1
  obtain ⟨N, hN⟩ : ∃ N, l.length = N := ⟨_, rfl⟩
  have HN := iC.mk hN
  rw [hN] at hmx hr hc ⊢
  have HC := iC.mk hr
  have hno := fun W => oD (b : Int) W (by omega)
  have hrt := rC (b : Int)
  obtain ⟨ns, hns⟩ : ∃ ns, ns = lD (b : Int) := ⟨_, rfl⟩
  rw [← hns] at hno hrt
  have hnl := hrt.len
  have HRT := iC.mk hrt
  obtain ⟨M, hM⟩ : ∃ M, ns.length = M := ⟨_, rfl⟩
  have HM := iC.mk hM
  rw [hM] at hno hnl
  obtain ⟨T, hT⟩ : ∃ T : Int, T = 1 + (t : Int) := ⟨_, rfl⟩
  have hw32 : (1 + (t : Int)) % 4294967296 = T := by omega
  have hT0 : 1 ≤ T ∧ T ≤ 65536 := by omega
  have HT0 := iC.mk hT0
  clear hr hN hb hns hrt hM ht hT hT0
  go_enter Try.func8, Try.ntmps8
  go_wp2_with fail
  go_at_call 10
  refine (new_any w).mono ?_
  rintro e w1 ⟨c, rfl, h1, hb1⟩
  have HB1 := iC.mk hb1
  have H1 := iC.mk h1
  clear h1 hb1
  go_wp2_with fail
  go_at_call 11
  refine (hno w1).mono ?_
  rintro e w2 ⟨A2, q2, rfl, hR2, hb2⟩
  have HB2 := iC.mk (iI HB1.out hb2)
  have H2 := iC.mk (H1.out.below hb2)
  have HR2 := iC.mk (Kd.R_lower hR2 HB1.out.size)
  clear hno hR2 hb2 HB1 H1
  by_cases hbig : 60 < N
  · have hkn := nV HB2.out
    go_wp2_with (go_at_call 12; refine hkn.mono ?_; rintro e w3 ⟨rfl, hb3⟩)
    go_ret
    exact ⟨rfl, hb3⟩
  · by_cases hM0 : M = 0
    · have hkn := nV HB2.out
      subst hM0
      go_wp2_with (go_at_call 12; refine hkn.mono ?_; rintro e w3 ⟨rfl, hb3⟩)
      go_ret
      exact ⟨rfl, hb3⟩
    · have hM1 : ((M : Int) == 0) = false := by simpa using hM0
      have hap := lC (x4 := .slice none 0 0) (x7 := .int .i64 0) (x8 := .int .i64 0) (x9 := .slice none 0 0) H2.out (oJ (t := T) (k := 2) (id := 9) (q := q2) (fr_C HR2.out) (by rw [HM.out]; exact (R_C HR2.out).2.1) (fun _ => HRT.out) (by omega) (by have := HT0.out; omega)) (by omega)
      rw [show CS.new.commitE 9 T = 0 from by unfold CS.commitE; rw [if_neg (by simp [CS.inn, CS.new, getB, Option.filter]), if_neg (by have := HT0.out; simp [CS.new]; omega)], show CS.new.commit 9 T ns = fS T ⟨2, T, ns, [], false⟩ from by unfold CS.commit; rw [if_neg (by simp [CS.inn, CS.new, getB, Option.filter]), if_neg (by have := HT0.out; simp [CS.new]; omega)]; rfl, HM.out] at hap
      simp only [List.length_nil] at hap
      go_wp2_with fail
      go_at_call 18
      refine hap.mono ?_
      rintro e w3 ⟨rfl, h3, hf3⟩
      have H3 := iC.mk h3
      have HF3 := iC.mk ((CoFr.of_below HB2.out (Nat.le_refl _)).trans hf3)
      have HR3 := iC.mk (hf3.rows HR2.out (fun q hq => by (obtain rfl : q = 3 := (by simpa [show ki.E = [] from rfl] using hq)); exact (by decide)))
      have HW32 := iC.mk hw32
      clear h3 hf3 hap HB2 H2 HR2 hw32
      go_wp2
      obtain ⟨g, hg⟩ : ∃ g, g = w3.heap.size := ⟨_, rfl⟩
      have HX := iC.mk (show (w3.alloc (.cells (sdA [0, 0, 0, 0, 0, 0, 0]) 3)).heap[g]? = some (.cells (sdA [0, 0, 0, 0, 0, 0, 0]) 3 (0, 0)) from iK hg)
      have hal : Below w3.heap.size w3 (w3.alloc (.cells (sdA [0, 0, 0, 0, 0, 0, 0]) 3)) := iD (Below.refl _ _) _
      have H4 := iC.mk (H3.out.rez (g := g) hal (by omega) (by rw [hg]; simp))
      have HF4 := iC.mk (HF3.out.trans (CoFr.of_below hal H3.out.Ble))
      have HR4 := iC.mk (Kd.R_mono (Kd.R_below (Kd.R_bound HR3.out) hal) (ok' := fun k => k ≠ g) (fun k hk => by have := hk.2.2.1; omega))
      have HG := iC.mk (show w.heap.size ≤ g from by rw [hg]; exact HF3.out.size)
      rw [← hg]
      generalize w3.alloc (.cells (sdA [0, 0, 0, 0, 0, 0, 0]) 3) = w4 at HX H4 HF4 HR4 ⊢
      clear hg hal H3 HF3 HR3
      go_loopw [11] (fun q wr => ∃ (i : Nat) (sd : List Int) (bb : CB), q = .int .i64 (i : Int) ∧ i ≤ N ∧ iC (Co g wr w.heap.size c 1 (fS T bb)) ∧ iC (CoFr w.heap.size w wr) ∧ iC (wr.heap[g]? = some (.cells (sdA sd) 3 (0, 0))) ∧ iC (ki.R 3 wr w.heap.size (fun k => k ≠ g) (.slice A2 M q2) ns) ∧ iC (Sd sd bb.nodes bb.said ∧ bb.nodes = ns ∧ bb.at_ = T ∧ bb.st = 2 ∧ bb.ended = false)) (fun q _ => ((N : Int) - intOf q).toNat)
      case atStart => exact ⟨0, _, ⟨2, T, ns, [], false⟩, rfl, Nat.zero_le _, H4, HF4, HX, HR4, ⟨Sd.new ns, rfl, rfl, rfl, rfl⟩⟩
      case round =>
        obtain ⟨i, sd, bb, rfl, hi, HS, HF, HXr, HRr, HD⟩ := hrel
        by_cases hlt : i < N
        · have hCr : kb.C wr A1 N l := Kd.C_below HC.out HF.out.below
          obtain ⟨ad, rfl, hx⟩ := C_at hCr i hlt
          obtain ⟨X, hX⟩ : ∃ X, X = ((l.getD i 0).toNat : Int) := ⟨_, rfl⟩
          have hX0 : 0 ≤ X ∧ X < 256 := by have := (l.getD i 0).toNat_lt; omega
          rw [← hX] at hx
          have hw : wrap64 ((i : Int) + 1) = ((i + 1 : Nat) : Int) := by unfold wrap64; omega
          obtain ⟨k, hk⟩ : ∃ k : Nat, X.tmod 7 = (k : Int) := ⟨(X % 7).toNat, by rw [Int.tmod_eq_emod_of_nonneg hX0.1]; omega⟩
          have hk7 : k < 7 := by rw [Int.tmod_eq_emod_of_nonneg hX0.1] at hk; omega
          have hwk : wrap64 (k : Int) = (k : Int) := by unfold wrap64; omega
          have hsl := HD.out.1.len
          have y0 := rE HXr.out k (by rw [hsl]; exact hk7)
          have f0 := iH HXr.out k
          clear hX hCr hX0 hsl
          go_upto_region 14 with fail
          obtain ⟨W, hW⟩ : ∃ W, W = wr.setCell ⟨g, k, none⟩ (.int .i64 1) := ⟨_, rfl⟩
          have hgr := mM wr g k (.int .i64 1)
          have HX5 := iC.mk (show W.heap[g]? = some (.cells (sdA (sd.set k 1)) 3 (0, 0)) from by rw [hW]; exact xU HXr.out k 1)
          have H5 := iC.mk (show Co g W w.heap.size c 1 (fS T bb) from by rw [hW]; exact HS.out.other HXr.out hgr (by decide) (by decide) (by decide) (fun _ => rfl))
          have HF5 := iC.mk (show CoFr w.heap.size w W from by rw [hW]; exact CoFr.of_below (HF.out.below.grown hgr HF.out.size (fun j hj => by cases hj; exact HG.out)) (Nat.le_refl _))
          have HR5 := iC.mk (show ki.R 3 W w.heap.size (fun k => k ≠ g) (.slice A2 M q2) ns from by rw [hW]; exact Kd.R_far HRr.out (p := ⟨g, k, none⟩) (fun j hj => hj) _)
          have HD5 := iC.mk (And.intro (HD.out.1.say (by rw [HD.out.2.1]; exact HRT.out) hk7) (And.intro HD.out.2.1 (And.intro HD.out.2.2.1 HD.out.2.2.2)))
          obtain ⟨sd', hsd⟩ : ∃ sd', sd' = sd.set k 1 := ⟨_, rfl⟩
          rw [← hsd] at HX5 HD5
          rw [← hW]
          clear hW hgr y0 f0 HS HF HXr HRr HD hsd hx
          go_wp2
          have HWK := iC.mk hwk
          clear hk hwk
          go_loopw [13, 14] (fun p r wr' => ∃ j : Nat, p = .bool ((ns.take j).all (sdP sd')) ∧ r = .int .i64 (j : Int) ∧ j ≤ M ∧ wr' = W) (fun _ r _ => ((M : Int) - intOf r).toNat)
          case atStart => exact ⟨0, rfl, rfl, Nat.zero_le _, rfl⟩
          case round =>
            obtain ⟨j, rfl, rfl, hj, rfl⟩ := hrel
            by_cases hlj : j < M
            · have hjl : j < ns.length := by rw [HM.out]; exact hlj
              have hC2 : ki.C wr A2 M ns := by have := (R_C HR5.out).2.2; rwa [HM.out] at this
              obtain ⟨ad2, rfl⟩ : ∃ ad2, A2 = some ad2 := by
                obtain ⟨ad2, _, e, _⟩ := Kd.C_get hC2 0 (j : Int) (by omega) (by omega)
                exact ⟨ad2, e⟩
              have hx2 := Kd.foot_int hC2 (j : Int) (by omega) (by omega)
              rw [Int.toNat_natCast] at hx2
              have hall := rY hjl (sdP sd')
              have hxm : rd ns j ∈ ns := by unfold rd; rw [Int.toNat_natCast, List.getD_eq_getElem?_getD, List.getElem?_eq_getElem hjl]; exact List.getElem_mem hjl
              have hxr := HRT.out.rng _ hxm
              obtain ⟨x, hxe⟩ : ∃ x : Nat, rd ns j = (x : Int) := ⟨(rd ns j).toNat, by omega⟩
              rw [hxe] at hx2 hall hxr
              have hx7 : x < 7 := by omega
              have hy := rE HX5.out x (by rw [HD5.out.1.len]; exact hx7)
              obtain ⟨v, hv⟩ : ∃ v, v = rd sd' (x : Int) := ⟨_, rfl⟩
              have hp : sdP sd' (x : Int) = (v == 1) := by rw [hv]; rfl
              rw [← hv] at hy
              rw [hp] at hall
              obtain ⟨b1, hb1⟩ : ∃ b1, b1 = (ns.take j).all (sdP sd') := ⟨_, rfl⟩
              rw [← hb1] at hall ⊢
              have HALL := iC.mk hall
              have hw2 : wrap64 ((j : Int) + 1) = ((j + 1 : Nat) : Int) := by unfold wrap64; omega
              clear hC2 hall hxm hxe hv hp hb1 hjl hxr
              obtain ⟨b2, hb2⟩ : ∃ b2, (v == 1) = b2 := ⟨_, rfl⟩
              rw [hb2] at HALL
              cases b2 <;> cases b1 <;>
              · go_wp2
                go_roundw
                case rel => exact ⟨j + 1, by rw [HALL.out]; rfl, by first | rfl | rw [hw2], hlj, trivial⟩
                case measure => (first | (simp [intOf, hw2]; omega) | (simp [intOf]; omega))
            · obtain rfl : j = M := by omega
              have hsd : Sd sd' (bb.say (k : Int)).nodes (bb.say (k : Int)).said := by rw [CB.say_nodes]; exact HD5.out.1
              have hnd : (bb.say (k : Int)).nodes = ns := by rw [CB.say_nodes]; exact HD5.out.2.1
              have e1 : (ns.take j).all (sdP sd') = (bb.say (k : Int)).all := by rw [List.take_of_length_le (by rw [HM.out]; exact Nat.le_refl _), hsd.all, hnd]
              rw [e1]
              have hv := pO H5.out (id := 9) (by omega) (k : Int) (by omega)
              rw [(qY T bb HD5.out.2.2.2.1 HD5.out.2.2.2.2 _).1, (qY T bb HD5.out.2.2.2.1 HD5.out.2.2.2.2 _).2] at hv
              have HN5 := iC.mk (And.intro hsd (And.intro hnd (And.intro ((bb.say_at (k : Int)).trans HD5.out.2.2.1) (And.intro ((bb.say_st (k : Int)).trans HD5.out.2.2.2.1) ((bb.say_ended (k : Int)).trans HD5.out.2.2.2.2)))))
              obtain ⟨bn, hbn⟩ : ∃ bn, bn = bb.say (k : Int) := ⟨_, rfl⟩
              rw [← hbn] at hv HN5 ⊢
              obtain ⟨al, hal⟩ : ∃ al, al = bn.all := ⟨_, rfl⟩
              rw [← hal] at hv ⊢
              clear e1 hsd hnd hbn hal HD5
              go_wp2_with fail
              go_at_call 32
              refine hv.mono ?_
              rintro e w6 ⟨rfl, h6, hf6⟩
              have H6 := iC.mk h6
              have HF6 := iC.mk (HF5.out.trans hf6)
              have HX6 := iC.mk (hf6.cells _ _ _ _ HX5.out (by decide) (by decide))
              have HR6 := iC.mk (hf6.rows HR5.out (fun q hq => by (obtain rfl : q = 3 := (by simpa [show ki.E = [] from rfl] using hq)); exact (by decide)))
              have how := oW pI h6 (by exact Nat.le_refl _) (by omega)
              have hne2 : (al != al) = false := by cases al <;> rfl
              clear hv h6 hf6
              go_wp2_with fail
              go_at_call 33
              refine how.mono ?_
              rintro e w7 ⟨v7, l7, rfl, hr7, hA7, hb7⟩
              obtain ⟨A7, q7, rfl⟩ := Kd.R_slice hr7
              rw [hA7.one (yC T bn HN5.out.2.2.2.1 HN5.out.2.2.2.2)]
              have H7 := iC.mk (H6.out.below hb7)
              have HF7 := iC.mk (HF6.out.trans (CoFr.of_below hb7 H6.out.Ble))
              have HX7 := iC.mk (iJ hb7 HX6.out)
              have HR7 := iC.mk (Kd.R_below HR6.out hb7)
              clear how hr7 hA7 hb7
              go_wp2
              go_roundw
              case rel => exact ⟨i + 1, sd', bn, by first | rfl | rw [hw], hlt, H7, HF7, HX7, HR7, HN5⟩
              case measure => (first | (simp [intOf, hw]; omega) | (simp [intOf]; omega))
        · obtain rfl : i = N := by omega
          have hend := qO (x4 := .slice none 0 0) (x7 := .int .i64 0) (x8 := .int .i64 0) (x9 := .slice none 0 0) HS.out (oJ (t := 0) (k := 4) (id := 9) (q := 0) (A := none) (l := []) (fun _ _ => Kd.C_nil _ _) (Nat.le_refl _) (fun e => absurd e (by decide)) (by omega) (by omega))
          rw [(uP T bb HD.out.2.2.2.1).1, (uP T bb HD.out.2.2.2.1).2] at hend
          simp only [List.length_nil] at hend
          go_wp2_with fail
          go_at_call 18
          refine hend.mono ?_
          rintro e w5 ⟨rfl, h5, hf5⟩
          have H5 := iC.mk h5
          have HF5 := iC.mk (HF.out.trans hf5)
          have HR5 := iC.mk (hf5.rows HRr.out (fun q hq => by (obtain rfl : q = 3 := (by simpa [show ki.E = [] from rfl] using hq)); exact (by decide)))
          have hkn := lK w5
          clear hend h5 hf5 HS HF HRr HXr
          go_wp2_with fail
          go_at_call 12
          refine hkn.mono ?_
          rintro e w6 ⟨rfl, hb6⟩
          have H6 := iC.mk (H5.out.below hb6)
          have HF6 := iC.mk (HF5.out.trans (CoFr.of_below hb6 H5.out.Ble))
          have HR6 := iC.mk (Kd.R_below HR5.out hb6)
          have how := oW pI H6.out (by exact Nat.le_refl _) (by omega)
          clear hkn hb6 H5 HF5 HR5
          go_wp2_with fail
          go_at_call 33
          refine how.mono ?_
          rintro e w7 ⟨v7, l7, rfl, hr7, hA7, hb7⟩
          obtain ⟨A7, q7, rfl⟩ := Kd.R_slice hr7
          obtain rfl := hA7.none (xJ T bb)
          have H7 := iC.mk (H6.out.below hb7)
          have HF7 := iC.mk (HF6.out.trans (CoFr.of_below hb7 H6.out.Ble))
          have HR7 := iC.mk (Kd.R_below HR6.out hb7)
          have hla := nM H7.out (id := 9) (by omega)
          rw [show (fS T bb.end_).lacks 9 = [] from by simp [CS.lacks, fS, getB, CB.end_]] at hla
          clear how hr7 hA7 hb7 H6 HF6 HR6
          go_wp2_with fail
          go_at_call 15
          refine hla.mono ?_
          rintro e w8 ⟨v8, rfl, hr8, hb8⟩
          obtain ⟨A8, q8, rfl⟩ := Kd.R_slice hr8
          have H8 := iC.mk (H7.out.below hb8)
          have HF8 := iC.mk (HF7.out.trans (CoFr.of_below hb8 H7.out.Ble))
          have HR8 := iC.mk (Kd.R_below HR7.out hb8)
          have hC2 : ki.C w8 A2 M ns := by have := (R_C HR8.out).2.2; rwa [HM.out] at this
          have hM2 : 0 < M := by omega
          obtain ⟨ad2, rfl⟩ : ∃ ad2, A2 = some ad2 := by
            obtain ⟨ad2, _, e, _⟩ := Kd.C_get hC2 0 (0 : Int) (by omega) (by omega)
            exact ⟨ad2, e⟩
          have hx2 := Kd.foot_int hC2 (0 : Int) (by omega) (by omega)
          have hxr : 0 ≤ rd ns 0 ∧ rd ns 0 < 7 := by
            have hl0 : 0 < ns.length := by rw [HM.out]; exact hM2
            have hxm : rd ns 0 ∈ ns := by unfold rd; rw [show (0 : Int).toNat = 0 from rfl, List.getD_eq_getElem?_getD, List.getElem?_eq_getElem hl0]; exact List.getElem_mem hl0
            have := HRT.out.rng _ hxm
            omega
          obtain ⟨x, hxe⟩ : ∃ x : Int, x = rd ns 0 := ⟨_, rfl⟩
          rw [← hxe] at hxr hx2
          have hdo := pO H8.out (id := 9) (by omega) x (by omega)
          rw [(oV T bb _).1, (oV T bb _).2] at hdo
          replace hx2 : w8.cell? ad2 = some (.int .i64 x) := by have := hx2; simpa [Addr.add] using this
          clear hla hr8 hb8 H7 HF7 HR7 hC2 hxe hxr
          go_wp2_with fail
          go_at_call 32
          refine hdo.mono ?_
          rintro e w9 ⟨rfl, h9, hf9⟩
          have H9 := iC.mk h9
          have HF9 := iC.mk (HF8.out.trans hf9)
          have hst := kV h9 (id := 9) (by omega)
          rw [show (fS T bb.end_).status 9 = (2, T) from by simp [CS.status, fS, getB, CB.end_, HD.out.2.2.1, HD.out.2.2.2.1]] at hst
          clear hdo h9 hf9 H8 HF8 HR8 hx2
          go_wp2_with fail
          go_at_call 16
          refine hst.mono ?_
          rintro e w10 ⟨rfl, hb10⟩
          have HF10 := iC.mk (HF9.out.trans (CoFr.of_below hb10 H9.out.Ble))
          have hlast := last_any (H9.out.below hb10)
          rw [show (fS T bb.end_).last = T from rfl] at hlast
          have hw32 := HW32.out
          clear hst hb10 H9 HF9
          go_wp2_with fail
          go_at_call 31
          refine hlast.mono ?_
          rintro e w11 ⟨rfl, rfl⟩
          clear hlast
          go_wp2
          go_ret
          exact ⟨rfl, HF10.out.below⟩
end Go.Proofs.Ytjppookmjdaplaa.K
end
