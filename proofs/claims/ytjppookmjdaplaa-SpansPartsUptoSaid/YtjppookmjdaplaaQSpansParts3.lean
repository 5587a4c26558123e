/- Parts of the proof, one behind the other: SpY, SpL, SpN, K38, K1, K39, K40. -/
import Derived.Test.YtjppookmjdaplaaQSpansParts2
import Derived.Shelf.SlIterI.Nil
import Derived.Shelf.SortM.Plain
import Derived.Shelf.SortM.SortNone
import Derived.Ground.GgzProg
import Derived.Ground.SlgmProg
import Derived.Test.YtjppookmjdaplaaChecked
import Derived.Maps.OwnSet
import Derived.Maps.OwnOps
import Derived.Lib.SlKeysI
set_option linter.unusedVariables false
set_option linter.unusedSimpArgs false
section
namespace Go.Proofs
open Go.Shelf
def Try.keysA_ren : Go.Shelf.Ren := ⟨fun | 7 => 44 | 10 => 68 | n => n, fun | 23 => 83 | 26 => 3 | 3 => 3 | 28 => 88 | 0 => 0 | 27 => 87 | 33 => 82 | 4 => 4 | n => n, fun | n => n⟩
theorem Try.keysA : Go.Proofs.SlLaysZI.n7 Try.prog Try.keysA_ren := {
  mixed := by kernel_rfl
  f7 := ⟨Try.f44.name, by decide, Try.func44.trans (congrArg some (by kernel_rfl))⟩
  f10 := ⟨Try.f68.name, by decide, Try.func68.trans (congrArg some (by kernel_rfl))⟩
  t0 := Try.underlying0
  a0 := Try.isAgg0
  z0 := Try.sizeOf0
  v0 := Try.zeroValue0
  t4 := Try.underlying4
  a4 := Try.isAgg4
  z4 := Try.sizeOf4
  v4 := Try.zeroValue4
  t23 := Try.underlying83
  a23 := Try.isAgg83
  z23 := Try.sizeOf83
  v23 := Try.zeroValue83
  t26 := Try.underlying3
  a26 := Try.isAgg3
  z26 := Try.sizeOf3
  v26 := Try.zeroValue3
  t27 := Try.underlying87
  a27 := Try.isAgg87
  z27 := Try.sizeOf87
  v27 := Try.zeroValue87
  t28 := Try.underlying88
  a28 := Try.isAgg88
  z28 := Try.sizeOf88
  v28 := Try.zeroValue88
  t33 := Try.underlying82
  a33 := Try.isAgg82
  z33 := Try.sizeOf82
  v33 := Try.zeroValue82 }
def Try.sortedA_ren : Go.Shelf.Ren := ⟨fun | 6 => 43 | 8 => 66 | 9 => 67 | 11 => 90 | 13 => 92 | 12 => 91 | 23 => 110 | 24 => 111 | 14 => 101 | 15 => 102 | 16 => 103 | 17 => 104 | 18 => 105 | 19 => 106 | 20 => 107 | 21 => 108 | 22 => 109 | 25 => 114 | 26 => 115 | 27 => 116 | 28 => 117 | 29 => 118 | 30 => 119 | 31 => 129 | n => n, fun | 26 => 3 | 28 => 88 | 24 => 25 | 0 => 0 | 3 => 3 | 37 => 116 | 48 => 28 | 50 => 127 | 4 => 4 | 40 => 151 | 39 => 150 | 45 => 155 | 5 => 5 | 9 => 9 | 51 => 160 | 55 => 164 | 57 => 172 | 58 => 173 | 33 => 82 | n => n, fun | n => n⟩
theorem Try.sortedA : Go.Proofs.SlLaysZI.n6 Try.prog Try.sortedA_ren := {
  mixed := by kernel_rfl
  f6 := ⟨Try.f43.name, by decide, Try.func43.trans (congrArg some (by kernel_rfl))⟩
  f8 := ⟨Try.f66.name, by decide, Try.func66.trans (congrArg some (by kernel_rfl))⟩
  f11 := ⟨Try.f90.name, by decide, Try.func90.trans (congrArg some (by kernel_rfl))⟩
  t0 := Try.underlying0
  a0 := Try.isAgg0
  z0 := Try.sizeOf0
  v0 := Try.zeroValue0
  t24 := Try.underlying25
  a24 := Try.isAgg25
  z24 := Try.sizeOf25
  v24 := Try.zeroValue25
  t26 := Try.underlying3
  a26 := Try.isAgg3
  z26 := Try.sizeOf3
  v26 := Try.zeroValue3
  t28 := Try.underlying88
  a28 := Try.isAgg88
  z28 := Try.sizeOf88
  v28 := Try.zeroValue88
  i26 := by kernel_rfl }
def Try.sortA_ren : Go.Shelf.Ren := ⟨fun | 5 => 67 | 8 => 92 | 7 => 91 | 19 => 110 | 20 => 111 | 10 => 101 | 11 => 102 | 12 => 103 | 13 => 104 | 14 => 105 | 15 => 106 | 16 => 107 | 17 => 108 | 18 => 109 | 30 => 114 | 31 => 115 | 32 => 116 | 33 => 117 | 34 => 118 | 35 => 119 | 40 => 129 | n => n, fun | 23 => 25 | 25 => 3 | 3 => 3 | 32 => 116 | 22 => 25 | 0 => 0 | 44 => 28 | 46 => 127 | 4 => 4 | 36 => 151 | 35 => 150 | 41 => 155 | 5 => 5 | 9 => 9 | 53 => 160 | 57 => 164 | 63 => 172 | 64 => 173 | n => n, fun | n => n⟩
theorem Try.sortA : Go.Proofs.SlLaysM.n5 Try.prog Try.sortA_ren := {
  mixed := by kernel_rfl
  f5 := ⟨Try.f67.name, by decide, Try.func67.trans (congrArg some (by kernel_rfl))⟩
  f7 := ⟨Try.f91.name, by decide, Try.func91.trans (congrArg some (by kernel_rfl))⟩
  f8 := Try.func92.trans (congrArg some (by kernel_rfl))
  f10 := ⟨Try.f101.name, by decide, Try.func101.trans (congrArg some (by kernel_rfl))⟩
  f11 := ⟨Try.f102.name, by decide, Try.func102.trans (congrArg some (by kernel_rfl))⟩
  f12 := ⟨Try.f103.name, by decide, Try.func103.trans (congrArg some (by kernel_rfl))⟩
  f13 := ⟨Try.f104.name, by decide, Try.func104.trans (congrArg some (by kernel_rfl))⟩
  f14 := ⟨Try.f105.name, by decide, Try.func105.trans (congrArg some (by kernel_rfl))⟩
  f15 := ⟨Try.f106.name, by decide, Try.func106.trans (congrArg some (by kernel_rfl))⟩
  f16 := ⟨Try.f107.name, by decide, Try.func107.trans (congrArg some (by kernel_rfl))⟩
  f17 := ⟨Try.f108.name, by decide, Try.func108.trans (congrArg some (by kernel_rfl))⟩
  f18 := ⟨Try.f109.name, by decide, Try.func109.trans (congrArg some (by kernel_rfl))⟩
  f19 := Try.func110.trans (congrArg some (by kernel_rfl))
  f20 := Try.func111.trans (congrArg some (by kernel_rfl))
  f30 := ⟨Try.f114.name, by decide, Try.func114.trans (congrArg some (by kernel_rfl))⟩
  f31 := Try.func115.trans (congrArg some (by kernel_rfl))
  f32 := Try.func116.trans (congrArg some (by kernel_rfl))
  f33 := ⟨Try.f117.name, by decide, Try.func117.trans (congrArg some (by kernel_rfl))⟩
  f34 := ⟨Try.f118.name, by decide, Try.func118.trans (congrArg some (by kernel_rfl))⟩
  f35 := ⟨Try.f119.name, by decide, Try.func119.trans (congrArg some (by kernel_rfl))⟩
  f40 := ⟨Try.f129.name, by decide, Try.func129.trans (congrArg some (by kernel_rfl))⟩
  t0 := Try.underlying0
  a0 := Try.isAgg0
  z0 := Try.sizeOf0
  v0 := Try.zeroValue0
  t3 := Try.underlying3
  a3 := Try.isAgg3
  z3 := Try.sizeOf3
  v3 := Try.zeroValue3
  t4 := Try.underlying4
  a4 := Try.isAgg4
  z4 := Try.sizeOf4
  v4 := Try.zeroValue4
  t5 := Try.underlying5
  a5 := Try.isAgg5
  z5 := Try.sizeOf5
  v5 := Try.zeroValue5
  t9 := Try.underlying9
  a9 := Try.isAgg9
  z9 := Try.sizeOf9
  v9 := Try.zeroValue9
  t22 := Try.underlying25
  a22 := Try.isAgg25
  z22 := Try.sizeOf25
  v22 := Try.zeroValue25
  t23 := Try.underlying25
  a23 := Try.isAgg25
  z23 := Try.sizeOf25
  v23 := Try.zeroValue25
  t25 := Try.underlying3
  a25 := Try.isAgg3
  z25 := Try.sizeOf3
  v25 := Try.zeroValue3
  t32 := Try.underlying116
  a32 := Try.isAgg116
  z32 := Try.sizeOf116
  v32 := Try.zeroValue116
  t35 := Try.underlying150
  a35 := Try.isAgg150
  z35 := Try.sizeOf150
  v35 := Try.zeroValue150
  t36 := Try.underlying151
  a36 := Try.isAgg151
  z36 := Try.sizeOf151
  v36 := Try.zeroValue151
  t41 := Try.underlying155
  a41 := Try.isAgg155
  z41 := Try.sizeOf155
  v41 := Try.zeroValue155
  t44 := Try.underlying28
  a44 := Try.isAgg28
  z44 := Try.sizeOf28
  v44 := Try.zeroValue28
  t46 := Try.underlying127
  a46 := Try.isAgg127
  z46 := Try.sizeOf127
  v46 := Try.zeroValue127
  t53 := Try.underlying160
  a53 := Try.isAgg160
  z53 := Try.sizeOf160
  v53 := Try.zeroValue160
  t57 := Try.underlying164
  a57 := Try.isAgg164
  z57 := Try.sizeOf164
  v57 := Try.zeroValue164
  t63 := Try.underlying172
  a63 := Try.isAgg172
  z63 := Try.sizeOf172
  v63 := Try.zeroValue172
  t64 := Try.underlying173
  a64 := Try.isAgg173
  z64 := Try.sizeOf173
  v64 := Try.zeroValue173 }
end Go.Proofs
end

section
namespace Go.Proofs
open Go.RowKit Go.Maps Go.Sort Go.Shelf
/-- slices.Sort's two contracts here. -/
theorem Try.sortsA (m : Nat) : AnyZI.SortsIn Try.prog Try.sortedA_ren Fence.wide m :=
  ⟨fun blk off cap ss W hH hblk hsz => callsIn_wide.2 (AnyM.slices_Sort_int Try.sortA blk off cap ss W hH hblk hsz),
   fun p cap W => callsIn_wide.2 (AnyM.slices_Sort_int_none Try.sortA p cap W)⟩
/-- maps.Keys: the map is boxed, the function captures the box. -/
theorem Try.keys_any (mb : Option Nat) (W : World) : Calls Try.prog 44 #[.map mb] W fun e w' => e = .returned (.func (.func 68) #[] #[.pointer (some ⟨W.heap.size, 0, none⟩)]) ∧ w' = W.alloc (.cells #[.map mb] 83) :=
  (callsIn_wide (n := 5)).1 (AnyZI.keys_in Try.keysA Fence.wide 5 trivial rfl mb W)
/-- slices.Sorted of the keys of a map that is not nil. -/
theorem Try.sorted_any {H : Type} (b nn : Nat) (D0 : DataW H) (R : Value → Option (DataW H × List MemPlace)) (w : World) (hown : w.ownsMap Try.prog 3 R b nn D0) (hmax : Maps.size D0 ≤ maxLen) (hbytes : Maps.size D0 * 8 ≤ 140737488355328) :
    Calls Try.prog 43 #[.func (.func 68) #[] #[.pointer (some ⟨w.heap.size, 0, none⟩)]] (w.alloc (.cells #[.map (some b)] 83)) fun e w' => ∃ (v : Value) (ss : List Int), e = .returned v ∧ ss.Perm (intKeys D0) ∧
      w'.ownsRow (w.alloc (.cells #[.map (some b)] 83)).heap.size 3 1 v ss.length ((ss.mergeSort (fun x y => decide (x ≤ y))).map encZ) ∧ (v = .slice none 0 0 ↔ ss = []) ∧ Below (w.alloc (.cells #[.map (some b)] 83)).heap.size (w.alloc (.cells #[.map (some b)] 83)) w' := by
  have hbl := hown.lt
  have hseq : SeqGives Fence.wide 2 Try.prog 68 #[.pointer (some ⟨w.heap.size, 0, none⟩)] encZ (fun ss => ss.Perm (intKeys D0)) (Maps.size D0) (w.alloc (.cells #[.map (some b)] 83)) :=
    AnyZI.keys_gives (ρ := Try.keysA_ren) { Try.keysA with } Fence.wide _ trivial rfl (by omega) w.heap.size b nn D0 _ (by simp) (by simp) (by
      obtain ⟨es, clock, hb, Ft, hs, hD⟩ := hown
      exact ⟨es, clock, (Below.heap_alloc _ _ b hbl).trans hb, Ft, hs, hD⟩)
  have cS := AnyZI.sorted_in Try.sortedA Fence.wide 5 trivial trivial trivial trivial rfl (by omega) (Try.sortsA _) (enters_of Try.func67 (by kernel_rfl) rfl) 68 #[.pointer (some ⟨w.heap.size, 0, none⟩)] trivial (enters_of Try.func68 (by kernel_rfl) rfl) _ _ hmax hbytes _ hseq
  exact (callsIn_wide (n := 5)).1 cS
end Go.Proofs
end

section
namespace Go.Proofs.Ytjppookmjdaplaa.K
open Go Go.RowKit Go.Maps Go.Proofs.YtjppookmjdaplaaW.PrintWords Go.Proofs.YtjppookmjdaplaaW.PrintLast Go.Proofs.YtjppookmjdaplaaW.PrintMore Go.Proofs.Ytjppookmjdaplaa.My
attribute [local go_sem] Oper.semAt_some
theorem zY (x y : Int) : Builtin.max2 (.int .i64 x) (.int .i64 y) = pure (.int .i64 (mx x y)) := jQ _ _ x y
theorem zF (x y : Int) : Builtin.min2 (.int .i64 x) (.int .i64 y) = pure (.int .i64 (mn x y)) := jP _ _ x y
attribute [local go_sem] zY zF jX jW
/-- Is u a node of one of lo .. hi - 1? -/
def nC (l : List TSp) (lo hi : Int) (x : Int) : Bool := (List.range (hi - lo).toNat).any fun i => decide (jY l (lo + (i : Nat)) = x)
abbrev loN (a : Int) : Int := mx a 0
abbrev hiN (b : Int) : Int := mn b 10000
def kM (l : List TSp) (a b : Int) : List Int := ([0, 1, 2, 3, 4, 5] : List Int).filter (nC l (loN a) (hiN b))
theorem kS (l : List TSp) (lo hi x : Int) : nC l lo hi x = true ↔ ∃ u, lo ≤ u ∧ u < hi ∧ jY l u = x := by
  simp only [nC, List.any_eq_true, List.mem_range, decide_eq_true_eq]
  constructor
  · rintro ⟨i, hi, rfl⟩
    exact ⟨lo + i, by omega, by omega, rfl⟩
  · rintro ⟨u, h1, h2, rfl⟩
    exact ⟨(u - lo).toNat, by omega, by congr 1; omega⟩
/-- The map's keys: the nodes found so far. -/
def KeyI (D : DataW Nat) : Prop := ∃ es, D = .map es ∧ es.Pairwise (fun p q => p.1 ≠ q.1) ∧ ∀ p ∈ es, ∃ x, p.1 = .int .i64 x
def mM (l : List TSp) (lo v : Int) (D : DataW Nat) : Prop := KeyI D ∧ ∀ x : Int, has D (.int .i64 x) = true ↔ (0 ≤ x ∧ x < 6) ∧ ∃ u, lo ≤ u ∧ u < v ∧ jY l u = x
theorem isKey (x : Int) : WideAt.IsKeyLit (.int .i64 x) := by simp [WideAt.IsKeyLit]
theorem KeyI.put {D : DataW Nat} (h : KeyI D) (x : Int) (d : DataW Nat) : KeyI (D.put (.int .i64 x) d) := by
  obtain ⟨es, rfl, h1, h2⟩ := h
  obtain ⟨es', he, h3⟩ := (show Tidy (.map es : DataW Nat) from ⟨es, rfl, h1⟩).put (isKey x) d
  refine ⟨es', he, h3, fun p hp => ?_⟩
  have he' : (DataW.map es : DataW Nat).put (.int .i64 x) d = .map (DataW.insert (.int .i64 x, d) (es.filter fun p => !p.1.sameKey (.int .i64 x))) := rfl
  rw [he'] at he
  cases he
  have := (WideShapes.insert_perm _ _).mem_iff.1 hp
  rcases List.mem_cons.1 this with rfl | hm
  · exact ⟨x, rfl⟩
  · exact h2 p (List.mem_filter.1 hm).1
theorem mM.zero (l : List TSp) (lo : Int) : mM l lo lo (.map []) := ⟨⟨[], rfl, List.Pairwise.nil, by simp⟩, fun x => ⟨fun h => by simp [has] at h, fun ⟨_, u, h1, h2, _⟩ => absurd h1 (by omega)⟩⟩
theorem mM.skip {l : List TSp} {lo v : Int} {D : DataW Nat} (h : mM l lo v D) (hn : ¬ (0 ≤ jY l v ∧ jY l v < 6)) : mM l lo (v + 1) D := by
  refine ⟨h.1, fun x => (h.2 x).trans ⟨fun ⟨a, u, b, c, d⟩ => ⟨a, u, b, by omega, d⟩, fun ⟨a, u, b, c, d⟩ => ⟨a, u, b, ?_, d⟩⟩⟩
  by_cases he : u = v
  · subst he; rw [d] at hn; exact absurd a hn
  · omega
theorem mM.step {l : List TSp} {lo v : Int} {D : DataW Nat} (h : mM l lo v D) (hlo : lo ≤ v) (hn : 0 ≤ jY l v ∧ jY l v < 6) (d : DataW Nat) : mM l lo (v + 1) (D.put (.int .i64 (jY l v)) d) := by
  have hm : IsMap D := by obtain ⟨es, rfl, _⟩ := h.1; exact ⟨es, rfl⟩
  refine ⟨h.1.put _ _, fun x => ?_⟩
  by_cases he : x = jY l v
  · subst he
    rw [has_put_same hm (isKey _)]
    exact ⟨fun _ => ⟨hn, v, hlo, by omega, rfl⟩, fun _ => rfl⟩
  · rw [has_put_other (by intro e; injection e with _ e; exact he e), h.2 x]
    refine ⟨fun ⟨a, u, b, c, d⟩ => ⟨a, u, b, by omega, d⟩, fun ⟨a, u, b, c, d⟩ => ⟨a, u, b, ?_, d⟩⟩
    by_cases he2 : u = v
    · subst he2; exact absurd d.symm he
    · omega
theorem mM.sorted {l : List TSp} {a b v : Int} {D : DataW Nat} (h : mM l (loN a) v D) (hv : ∀ u, loN a ≤ u → (u < v ↔ u < hiN b)) {ss : List Int} (hp : ss.Perm (intKeys D)) : ss.mergeSort (fun x y => decide (x ≤ y)) = kM l a b := by
  obtain ⟨⟨es, rfl, h1, h2⟩, h3⟩ := h
  have hnd : (kM l a b).Nodup := List.Pairwise.filter _ (by decide)
  have hm : ∀ x, x ∈ kM l a b ↔ has (DataW.map es : DataW Nat) (.int .i64 x) = true := by
    intro x
    rw [h3 x]
    simp only [kM, List.mem_filter, kS]
    constructor
    · rintro ⟨hx, u, h4, h5, h6⟩
      refine ⟨by simp at hx; omega, u, h4, (hv u h4).2 h5, h6⟩
    · rintro ⟨hx, u, h4, h5, h6⟩
      refine ⟨by simp; omega, u, h4, (hv u h4).1 h5, h6⟩
  have hq := perm_intKeys h1 h2 hnd hm
  have h5 := mergeSort_of_perm_i (hp.trans hq.symm)
  rw [show (ss.mergeSort fun x y => decide (x ≤ y)) = ss.mergeSort leI from rfl, h5]
  refine List.mergeSort_of_pairwise (le := leI) ?_
  exact List.Pairwise.filter _ (by decide)
theorem vJ {w w' : World} {b n : Nat} {D : DataW Nat} (h : w.ownsMap Try.prog 3 (plainElem Try.prog 3) b n D) (hb : Below w.heap.size w w') : w'.ownsMap Try.prog 3 (plainElem Try.prog 3) b n D := by
  have := h.lt
  obtain ⟨es, clock, h1, F, hs, hD⟩ := h
  exact ⟨es, clock, (hb.block b this).trans h1, F, hs, hD⟩
theorem yC {x : Int} (h0 : 0 ≤ x) (h1 : x < 6) : (Lit.int .i64 x).wf = true := by
  have := wrap64_wf x
  rwa [show wrap64 x = x by unfold wrap64; omega] at this
theorem law3 : Keyed Try.prog 3 := int_keyed Try.underlying3
theorem zero3 (w : World) : (zeroValue 3).run Try.prog w = .ok (.int .i64 0) w := by kernel_rfl
theorem mx0 (a : Int) : 0 ≤ mx a 0 := by unfold mx; split <;> omega
theorem mn1 (b : Int) : mn b 10000 ≤ 10000 := by unfold mn; split <;> omega
def spans_Nodes.f (a0 : Int) (l : List TSp) (a b : Int) : Option (List Int) := if (l.length : Int) ≤ 8796093022208 then some (kM l a b) else none
set_option maxRecDepth 100000 in
set_option maxHeartbeats 4000000 in
theorem spans_Nodes.calls (a0 : Int) (A : Option Addr) (c : Nat) (l : List TSp) (a b : Int) (r : List Int) (w : World) (hr : Kd.C k96 w A l.length l) (hc : l.length ≤ c) (h : spans_Nodes.f a0 l a b = some r) :
    Calls Try.prog 26 #[.agg #[.int .u32 a0, .slice A l.length c], .int .i64 a, .int .i64 b] w fun e w' => ∃ v0_, e = .returned v0_ ∧ (Kd.int .i64).R 3 w' w.heap.size (fun _ => True) v0_ r ∧ Below w.heap.size w w' := by
  have hs : (l.length : Int) ≤ 8796093022208 := by
    unfold spans_Nodes.f at h; split at h
    · assumption
    · cases h
  have hr' : kM l a b = r := by
    unfold spans_Nodes.f at h; rw [if_pos hs] at h; exact Option.some.inj h
  clear h
  have HL := iC.mk hr
  have HR := iC.mk hr'
  clear hr hr'
  have hmm := @run_makeMap Try.prog
  have HX0 := iC.mk (mx0 a)
  have HN1 := iC.mk (mn1 b)
  go_enter Try.func26, Try.ntmps26
  go_wp2
  obtain ⟨lo, hlo⟩ : ∃ lo, lo = mx a 0 := ⟨_, rfl⟩
  rw [← hlo] at HX0 ⊢
  have HLO := iC.mk hlo
  clear hlo
  go_loopw [8] (fun p wr => ∃ (v : Int) (nn : Nat) (D : DataW Nat), p = .int .i64 v ∧ lo ≤ v ∧ (v ≤ mn b 10000 ∨ v = lo) ∧ (nn : Int) ≤ v - lo ∧ iC (wr.ownsMap Try.prog 3 (plainElem Try.prog 3) (w.heap.size + 1) nn D) ∧ iC (mM l lo v D) ∧ iC (Below w.heap.size w wr) ∧ iC (wr.heap[w.heap.size]? = some (.cells #[.int .u32 a0, .slice A l.length c] 42 (0, 0)))) (fun p _ => (mn b 10000 - intOf p).toNat)
  case atStart => exact ⟨lo, 0, .map [], rfl, Int.le_refl _, .inr rfl, by omega, ⟨by have := World.ownsMap_made (H := Nat) (w.alloc (.cells #[.int .u32 a0, .slice A l.length c] 42)) Try.prog 3 (plainElem Try.prog 3); rwa [World.size_alloc] at this⟩, ⟨mM.zero _ _⟩, ⟨bel_⟩, ⟨lY (l9 rfl)⟩⟩
  case round =>
    obtain ⟨v, nn, D, rfl, hlv, hvb, hnn, HO, HS, HB, HM⟩ := hrel
    have hc0 : wr.cell? ⟨w.heap.size, 0, none⟩ = some (.int .u32 a0) := by simp [World.cell?, HM.out]
    have hc1 : wr.cell? ⟨w.heap.size, 1, none⟩ = some (.slice A l.length c) := by simp [World.cell?, HM.out]
    by_cases hlt : v < mn b 10000
    · have hv0 : 0 ≤ v := by have := HX0.out; omega
      have hv1 : v < 10000 := by have := HN1.out; omega
      obtain ⟨x, hx⟩ : ∃ x, x = jY l v := ⟨_, rfl⟩
      have hw : wrap64 (v + 1) = v + 1 := by unfold wrap64; omega
      have hcall := spans_Find.calls a0 A c l v x wr (Kd.C_below HL.out HB.out) hc (by rw [hx]; simp [spans_Find.f, hs])
      have HX := iC.mk hx
      have HV := iC.mk (And.intro hv0 hv1)
      clear hx hv0 hv1
      by_cases h6 : 0 ≤ x ∧ x < 6
      · obtain ⟨h60, h61⟩ := h6
        have HKEY := iC.mk (keyOf_int_mk Try.underlying3 (yC h60 h61))
        go_wp2_with (first
          | (go_at_call 51; refine hcall.mono ?_; rintro e w2 ⟨rfl, hb2⟩; have HO2 := iC.mk (vJ HO.out hb2); have HB2 := iC.mk (HB.out.trans (hb2.mono HB.out.size)); have HM2 := iC.mk (lC hb2 HM.out); clear hb2 hcall hc0 hc1)
          | (at_lookup; refine wpList_lookup_own_int _ rfl _ _ 83 rfl 3 3 .i64 law3 Try.underlying83 Try.underlying3 (zero3 _) (w.heap.size + 1) nn D rfl HO2.out _ _ rfl HKEY.out ?_; intro cc hat hwc; clear hat)
          | (at_mapUpdate; refine wpList_mapUpdate_own _ rfl _ _ _ 83 rfl 3 3 law3 Try.underlying83 _ (w.heap.size + 1) nn D rfl HO2.out (by have := HV.out; unfold maxLen; have := HX0.out; omega) _ _ _ rfl rfl HKEY.out _ [] (plainElem_int Try.underlying3 (wrap64_wf _)) ?_; intro w3 hown1 hgrow1; have HO3 := iC.mk hown1; have HB3 := iC.mk (HB2.out.grown hgrow1 HB2.out.size (fun j hj => by cases hj; omega)); have HM3 := iC.mk ((hgrow1.block w.heap.size (jE HM2.out) (by simp)).trans HM2.out); clear hown1 hgrow1))
        go_roundw
        case rel => exact ⟨v + 1, nn + 1, _, by rw [hw], by omega, by omega, by omega, HO3, ⟨HX.out ▸ HS.out.step hlv (HX.out ▸ ⟨h60, h61⟩) _⟩, HB3, HM3⟩
        case measure => simp [intOf, hw]; omega
      · go_wp2_with (go_at_call 51; refine hcall.mono ?_; rintro e w2 ⟨rfl, hb2⟩; have HO2 := iC.mk (vJ HO.out hb2); have HB2 := iC.mk (HB.out.trans (hb2.mono HB.out.size)); have HM2 := iC.mk (lC hb2 HM.out); clear hb2 hcall hc0 hc1)
        all_goals go_roundw
        all_goals first
          | exact ⟨v + 1, nn, D, by rw [hw], by omega, by omega, by omega, HO2, ⟨HS.out.skip (HX.out ▸ h6)⟩, HB2, HM2⟩
          | (simp [intOf, hw]; omega)
    · have hsz := HO.out.size_le
      have hnn2 : nn ≤ 10000 := by have := HN1.out; have := HX0.out; omega
      have hsort := Try.sorted_any (w.heap.size + 1) nn D (plainElem Try.prog 3) wr HO.out (by unfold maxLen; omega) (by omega)
      have hfin : ∀ ss : List Int, ss.Perm (intKeys D) → ss.mergeSort (fun x y => decide (x ≤ y)) = r := fun ss hp => by
        rw [← HR.out]
        exact mM.sorted (a := a) (b := b) (HLO.out ▸ HS.out) (fun u hu => by have := HLO.out; change mx a 0 ≤ u at hu; show u < v ↔ u < mn b 10000; omega) hp
      have HFIN := iC.mk hfin
      clear hfin hc0 hc1
      go_wp2_with (first
        | (go_at_call 44; refine (Try.keys_any _ _).mono ?_; rintro e w2 ⟨rfl, rfl⟩)
        | (go_at_call 43; refine hsort.mono ?_; rintro e w3 ⟨vv, ss, rfl, hS, hrow, hnil, hb⟩; rw [HFIN.out ss hS] at hrow; have hlen := hS.length_eq))
      go_ret
      have hle : ss.length = r.length := by rw [← HFIN.out ss hS, List.length_mergeSort]
      rw [hle] at hrow
      exact ⟨vv, rfl, Kd.R_lower (Kd.R_of_own hrow (fun _ _ => trivial)) (by simp; have := HB.out.size; omega), (HB.out.alloc HB.out.size _).trans (hb.mono (by simp; have := HB.out.size; omega))⟩
end Go.Proofs.Ytjppookmjdaplaa.K
end

section
namespace Go.Proofs.Ytjppookmjdaplaa.K
open Go.RowKit Go.Proofs.YtjppookmjdaplaaW.PrintWords Go.Proofs.YtjppookmjdaplaaW.PrintLast Go.Proofs.YtjppookmjdaplaaW.PrintMore
attribute [local go_sem] jQ jP jX jW
mutual
def spans_Split.j0 : Nat → Int → Int → Int → Int → Bool → Int → List (S96) → Option (Int × (List (S96)) × Int)
  | 0, _, _, _, _, _, _, _ => none
  | k + 1, x1, x3, x4, x5, x51, x289000, x289001 => if x51 = true then (some (0, ([] : List (S96)), 120)) else ((spans_Nodes.f x289000 x289001 x3 x4).bind fun t291 => ((slices_Equal_int_int.f k t291 (([x5] : List Int))).bind fun t297 => (if t297 = true then (some (0, ([] : List (S96)), 120)) else (spans_Split.l0 k x1 x3 x4 x5 ([] : List (S96)) x289001 (x289001.length : Int) 0 x289000 x289001))))
def spans_Split.l0 : Nat → Int → Int → Int → Int → List (S96) → List (S96) → Int → Int → Int → List (S96) → Option (Int × (List (S96)) × Int)
  | 0, _, _, _, _, _, _, _, _, _, _ => none
  | k + 1, x1, x3, x4, x5, x14, x62, x63, x64, x289000, x289001 => if x64 < x63 then (if 0 ≤ x64 then (if x64 < (x62.length : Int) then (if ((iY x62 x64).f0) < x3 then (if x14.length < 8796093022208 then (spans_Split.l0 k x1 x3 x4 x5 (x14 ++ [(⟨(iY x62 x64).f0, (iY x62 x64).f1⟩ : S96)]) x62 x63 (wrap64 (x64 + 1)) x289000 x289001) else (none)) else (spans_Split.l0 k x1 x3 x4 x5 x14 x62 x63 (wrap64 (x64 + 1)) x289000 x289001)) else (none)) else (none)) else (if x14.length < 8796093022208 then ((some (x14 ++ [(⟨x3, x5⟩ : S96)] : List (S96))).bind fun y303 => (if x4 < x1 then ((spans_Find.f x289000 x289001 x4).bind fun t306 => (if y303.length < 8796093022208 then (spans_Split.j2 k x4 (y303 ++ [(⟨x4, t306⟩ : S96)]) x289000 x289001) else (none))) else (spans_Split.j2 k x4 y303 x289000 x289001))) else (none))
def spans_Split.j2 : Nat → Int → List (S96) → Int → List (S96) → Option (Int × (List (S96)) × Int)
  | 0, _, _, _, _ => none
  | k + 1, x4, x14, x289000, x289001 => spans_Split.l1 k x4 x14 x289001 (x289001.length : Int) 0 x289000 x289001
def spans_Split.l1 : Nat → Int → List (S96) → List (S96) → Int → Int → Int → List (S96) → Option (Int × (List (S96)) × Int)
  | 0, _, _, _, _, _, _, _ => none
  | k + 1, x4, x14, x95, x96, x97, x289000, x289001 => if x97 < x96 then (if 0 ≤ x97 then (if x97 < (x95.length : Int) then (if ((iY x95 x97).f0) > x4 then (if x14.length < 8796093022208 then (spans_Split.l1 k x4 (x14 ++ [(⟨(iY x95 x97).f0, (iY x95 x97).f1⟩ : S96)]) x95 x96 (wrap64 (x97 + 1)) x289000 x289001) else (none)) else (spans_Split.l1 k x4 x14 x95 x96 (wrap64 (x97 + 1)) x289000 x289001)) else (none)) else (none)) else ((spans_glued.f x14).bind fun t315 => (if (t315.length : Int) > 40 then (some (0, ([] : List (S96)), 3)) else (some ((x289000 + 1) % 4294967296, t315, 0))))
end
def spans_Split.f (k : Nat) (a0_0 : Int) (l0_1 : List (S96)) (a1 : Int) (a2 : Int) (a3 : Int) (a4 : Int) (a5 : Int) : Option (Int × (List (S96)) × Int) := (spans_Sound.f k a0_0 l0_1 a1 a2).bind fun t290 => (if t290 = true then (if a1 > 10000 then (spans_Split.j0 k a1 a3 a4 a5 true a0_0 l0_1) else (if a3 < 0 then (spans_Split.j0 k a1 a3 a4 a5 true a0_0 l0_1) else (if a3 ≥ a4 then (spans_Split.j0 k a1 a3 a4 a5 true a0_0 l0_1) else (if a4 > a1 then (spans_Split.j0 k a1 a3 a4 a5 true a0_0 l0_1) else (if a5 < 0 then (spans_Split.j0 k a1 a3 a4 a5 true a0_0 l0_1) else (spans_Split.j0 k a1 a3 a4 a5 (decide (a5 ≥ (mn a2 6))) a0_0 l0_1)))))) else (spans_Split.j0 k a1 a3 a4 a5 true a0_0 l0_1))
theorem spans_Split.mono_l : ∀ k, (∀ y0 y1 y2 y3 y4 y5 y6, LeO (spans_Split.j0 k y0 y1 y2 y3 y4 y5 y6) (spans_Split.j0 (k + 1) y0 y1 y2 y3 y4 y5 y6)) ∧ (∀ y0 y1 y2 y3 y4 y5 y6 y7 y8 y9, LeO (spans_Split.l0 k y0 y1 y2 y3 y4 y5 y6 y7 y8 y9) (spans_Split.l0 (k + 1) y0 y1 y2 y3 y4 y5 y6 y7 y8 y9)) ∧ (∀ y0 y1 y2 y3, LeO (spans_Split.j2 k y0 y1 y2 y3) (spans_Split.j2 (k + 1) y0 y1 y2 y3)) ∧ (∀ y0 y1 y2 y3 y4 y5 y6, LeO (spans_Split.l1 k y0 y1 y2 y3 y4 y5 y6) (spans_Split.l1 (k + 1) y0 y1 y2 y3 y4 y5 y6))
  | 0 => ⟨fun _ _ _ _ _ _ _ r h => by simp [spans_Split.j0] at h, fun _ _ _ _ _ _ _ _ _ _ r h => by simp [spans_Split.l0] at h, fun _ _ _ _ r h => by simp [spans_Split.j2] at h, fun _ _ _ _ _ _ _ r h => by simp [spans_Split.l1] at h⟩
  | k + 1 => by
    obtain ⟨ih0, ih1, ih2, ih3⟩ := spans_Split.mono_l k
    refine ⟨?_, ?_, ?_, ?_⟩
    · intro y0 y1 y2 y3 y4 y5 y6
      unfold spans_Split.j0
      repeat' first
      | (with_reducible exact ih0 _ _ _ _ _ _ _)
      | (with_reducible exact ih1 _ _ _ _ _ _ _ _ _ _)
      | (with_reducible exact ih2 _ _ _ _)
      | (with_reducible exact ih3 _ _ _ _ _ _ _)
      | (with_reducible exact slices_Equal_int_int.mono _ _ _)
      | (with_reducible exact spans_Sound.mono _ _ _ _ _)
      | (with_reducible exact LeO.refl _)
      | (with_reducible exact LeO.none _)
      | (with_reducible refine LeO.ite ?_ ?_)
      | (with_reducible refine LeO.bind ?_ (fun _ => ?_))
      | exact ih0 _ _ _ _ _ _ _
      | exact ih1 _ _ _ _ _ _ _ _ _ _
      | exact ih2 _ _ _ _
      | exact ih3 _ _ _ _ _ _ _
      | exact slices_Equal_int_int.mono _ _ _
      | exact spans_Sound.mono _ _ _ _ _
      | exact LeO.none _
      | refine LeO.ite ?_ ?_
      | refine LeO.bind ?_ (fun _ => ?_)
    · intro y0 y1 y2 y3 y4 y5 y6 y7 y8 y9
      unfold spans_Split.l0
      repeat' first
      | (with_reducible exact ih0 _ _ _ _ _ _ _)
      | (with_reducible exact ih1 _ _ _ _ _ _ _ _ _ _)
      | (with_reducible exact ih2 _ _ _ _)
      | (with_reducible exact ih3 _ _ _ _ _ _ _)
      | (with_reducible exact slices_Equal_int_int.mono _ _ _)
      | (with_reducible exact spans_Sound.mono _ _ _ _ _)
      | (with_reducible exact LeO.refl _)
      | (with_reducible exact LeO.none _)
      | (with_reducible refine LeO.ite ?_ ?_)
      | (with_reducible refine LeO.bind ?_ (fun _ => ?_))
      | exact ih0 _ _ _ _ _ _ _
      | exact ih1 _ _ _ _ _ _ _ _ _ _
      | exact ih2 _ _ _ _
      | exact ih3 _ _ _ _ _ _ _
      | exact slices_Equal_int_int.mono _ _ _
      | exact spans_Sound.mono _ _ _ _ _
      | exact LeO.none _
      | refine LeO.ite ?_ ?_
      | refine LeO.bind ?_ (fun _ => ?_)
    · intro y0 y1 y2 y3
      unfold spans_Split.j2
      repeat' first
      | (with_reducible exact ih0 _ _ _ _ _ _ _)
      | (with_reducible exact ih1 _ _ _ _ _ _ _ _ _ _)
      | (with_reducible exact ih2 _ _ _ _)
      | (with_reducible exact ih3 _ _ _ _ _ _ _)
      | (with_reducible exact slices_Equal_int_int.mono _ _ _)
      | (with_reducible exact spans_Sound.mono _ _ _ _ _)
      | (with_reducible exact LeO.refl _)
      | (with_reducible exact LeO.none _)
      | (with_reducible refine LeO.ite ?_ ?_)
      | (with_reducible refine LeO.bind ?_ (fun _ => ?_))
      | exact ih0 _ _ _ _ _ _ _
      | exact ih1 _ _ _ _ _ _ _ _ _ _
      | exact ih2 _ _ _ _
      | exact ih3 _ _ _ _ _ _ _
      | exact slices_Equal_int_int.mono _ _ _
      | exact spans_Sound.mono _ _ _ _ _
      | exact LeO.none _
      | refine LeO.ite ?_ ?_
      | refine LeO.bind ?_ (fun _ => ?_)
    · intro y0 y1 y2 y3 y4 y5 y6
      unfold spans_Split.l1
      repeat' first
      | (with_reducible exact ih0 _ _ _ _ _ _ _)
      | (with_reducible exact ih1 _ _ _ _ _ _ _ _ _ _)
      | (with_reducible exact ih2 _ _ _ _)
      | (with_reducible exact ih3 _ _ _ _ _ _ _)
      | (with_reducible exact slices_Equal_int_int.mono _ _ _)
      | (with_reducible exact spans_Sound.mono _ _ _ _ _)
      | (with_reducible exact LeO.refl _)
      | (with_reducible exact LeO.none _)
      | (with_reducible refine LeO.ite ?_ ?_)
      | (with_reducible refine LeO.bind ?_ (fun _ => ?_))
      | exact ih0 _ _ _ _ _ _ _
      | exact ih1 _ _ _ _ _ _ _ _ _ _
      | exact ih2 _ _ _ _
      | exact ih3 _ _ _ _ _ _ _
      | exact slices_Equal_int_int.mono _ _ _
      | exact spans_Sound.mono _ _ _ _ _
      | exact LeO.none _
      | refine LeO.ite ?_ ?_
      | refine LeO.bind ?_ (fun _ => ?_)
theorem spans_Split.mono : ∀ a0 a1 a2 a3 a4 a5 a6 k, LeO (spans_Split.f k a0 a1 a2 a3 a4 a5 a6) (spans_Split.f (k + 1) a0 a1 a2 a3 a4 a5 a6) := by
  intro a0 a1 a2 a3 a4 a5 a6 k
  obtain ⟨ih0, ih1, ih2, ih3⟩ := spans_Split.mono_l k
  unfold spans_Split.f
  repeat' first
      | (with_reducible exact ih0 _ _ _ _ _ _ _)
      | (with_reducible exact ih1 _ _ _ _ _ _ _ _ _ _)
      | (with_reducible exact ih2 _ _ _ _)
      | (with_reducible exact ih3 _ _ _ _ _ _ _)
      | (with_reducible exact slices_Equal_int_int.mono _ _ _)
      | (with_reducible exact spans_Sound.mono _ _ _ _ _)
      | (with_reducible exact LeO.refl _)
      | (with_reducible exact LeO.none _)
      | (with_reducible refine LeO.ite ?_ ?_)
      | (with_reducible refine LeO.bind ?_ (fun _ => ?_))
      | exact ih0 _ _ _ _ _ _ _
      | exact ih1 _ _ _ _ _ _ _ _ _ _
      | exact ih2 _ _ _ _
      | exact ih3 _ _ _ _ _ _ _
      | exact slices_Equal_int_int.mono _ _ _
      | exact spans_Sound.mono _ _ _ _ _
      | exact LeO.none _
      | refine LeO.ite ?_ ?_
      | refine LeO.bind ?_ (fun _ => ?_)
set_option maxHeartbeats 8000000 in
set_option maxRecDepth 100000 in
theorem spans_Split.calls (k : Nat) (a0_0 : Int) (A0_1 : Option Addr) (c0_1 : Nat) (l0_1 : List (S96)) (a1 : Int) (a2 : Int) (a3 : Int) (a4 : Int) (a5 : Int) (r1 : Int) (r2 : List (S96)) (r3 : Int) (w : World) (hr0_1 : Kd.C k96 w A0_1 l0_1.length l0_1) (hc0_1 : l0_1.length ≤ c0_1) (h : spans_Split.f k a0_0 l0_1 a1 a2 a3 a4 a5 = some (r1, r2, r3)) :
    Calls Try.prog 50 #[.agg #[.int .u32 a0_0, .slice A0_1 l0_1.length c0_1], .int .i64 a1, .int .i64 a2, .int .i64 a3, .int .i64 a4, .int .i64 a5] w fun e w' => ∃ v1_ : Value, e = .returned (.tuple #[.agg #[.int .u32 r1, v1_], .int .u16 r3]) ∧ Kd.R k96 96 w' w.heap.size (fun _ => True) v1_ r2 ∧ Below w.heap.size w w' := by
  have hu42 := Try.underlying42
  have hu96 := Try.underlying96
  have HR0_1 := iC.mk hr0_1
  have HC0_1 := iC.mk hc0_1
  clear hr0_1 hc0_1
  have HB := iC.mk (Below.refl w.heap.size w)
  have H : ((spans_Sound.f k a0_0 l0_1 a1 a2).bind fun t290 => (if t290 = true then (if a1 > 10000 then (spans_Split.j0 k a1 a3 a4 a5 true a0_0 l0_1) else (if a3 < 0 then (spans_Split.j0 k a1 a3 a4 a5 true a0_0 l0_1) else (if a3 ≥ a4 then (spans_Split.j0 k a1 a3 a4 a5 true a0_0 l0_1) else (if a4 > a1 then (spans_Split.j0 k a1 a3 a4 a5 true a0_0 l0_1) else (if a5 < 0 then (spans_Split.j0 k a1 a3 a4 a5 true a0_0 l0_1) else (spans_Split.j0 k a1 a3 a4 a5 (decide (a5 ≥ (mn a2 6))) a0_0 l0_1)))))) else (spans_Split.j0 k a1 a3 a4 a5 true a0_0 l0_1))) = some (r1, r2, r3) := h
  clear h
  have HC7 := iC.mk H
  clear H
  go_enter Try.func50, Try.ntmps50
  go_upto_region 1 with (first | ((with_reducible refine jF (N := 6) rfl ?_); (try (refine jB (by rfl) ?_; dsimp only)); refine jD ?hg (N := 6) ?hd (cs := #[.int .u32 a0_0, .slice A0_1 l0_1.length c0_1]) (t := 42) ?hr ?_; (case hd => rfl); (case hg => rfl); (case hr => first | (go_simp; done) | (go_simp; rfl)); intro gb288 hg w8 hbox hb; have n0_ := iC.mk (iM hb_ hb); have n1_ := iC.mk (hbox); have n2_ := iC.mk ((by rw [hg]; exact (iJ hb_) : w.heap.size ≤ gb288)); have n3_ := iC.mk ((by rw [hg]; exact (iJ hb_) : w.heap.size ≤ gb288)); clear HB; have HB := n0_; have BK288 := n1_; have GW288 := n2_; have GE288 := n3_; clear n0_ n1_ n2_ n3_; clear hb hbox hg) | ((with_reducible refine jF (N := 12) rfl ?_); (try (refine jB (by rfl) ?_; dsimp only)); refine jD ?hg (N := 12) ?hd (cs := #[.int .u32 0, .slice none 0 0]) (t := 42) ?hr ?_; (case hd => rfl); (case hg => rfl); (case hr => first | (go_simp; done) | (go_simp; rfl)); intro gb289 hg w9 hbox hb; have n0_ := iC.mk (iP (g := gb288) (o := .cells #[.int .u32 a0_0, .slice A0_1 l0_1.length c0_1] 42 (0, 0)) (bk_ BK288.out) hb); have n1_ := iC.mk (iM (by repeat (first | (with_reducible first | exact HB.out | apply iG | apply iD | apply iF | refine iE ?_ GE288.out) | exact HB.out)) hb); have n2_ := iC.mk (hbox); have n3_ := iC.mk ((by rw [hg]; exact (iJ (by repeat (first | (with_reducible first | exact HB.out | apply iG | apply iD | apply iF | refine iE ?_ GE288.out) | exact HB.out))) : w.heap.size ≤ gb289)); have n4_ := iC.mk ((by rw [hg]; exact (iJ (by repeat (first | (with_reducible first | exact HB.out | apply iG | apply iD | apply iF | refine iE ?_ GE288.out) | exact HB.out))) : w.heap.size ≤ gb289)); have n5_ := iC.mk ((by rw [hg]; exact Nat.ne_of_lt (jE (g := gb288) (o := .cells #[.int .u32 a0_0, .slice A0_1 l0_1.length c0_1] 42 (0, 0)) (bk_ BK288.out)) : gb288 ≠ gb289)); have n6_ := iC.mk ((by rw [hg]; exact Nat.ne_of_gt (jE (g := gb288) (o := .cells #[.int .u32 a0_0, .slice A0_1 l0_1.length c0_1] 42 (0, 0)) (bk_ BK288.out)) : gb289 ≠ gb288)); clear BK288; clear HB; have BK288 := n0_; have HB := n1_; have BK289 := n2_; have GW289 := n3_; have GE289 := n4_; have NB288_289 := n5_; have NB289_288 := n6_; clear n0_ n1_ n2_ n3_ n4_ n5_ n6_; clear hb hbox hg))
  (try simp only [Act.put, List.setIfInBounds_toArray, List.set_cons_zero, List.set_cons_succ])
  go_cut [51] (fun v51 wc => ∃ (kq : Nat) (x51_6 : Bool), v51 = .bool x51_6 ∧ iC (spans_Split.j0 kq a1 a3 a4 a5 x51_6 a0_0 l0_1 = some (r1, r2, r3)) ∧ iC (kq ≤ k) ∧ iC (wc.heap[gb288]? = some (.cells #[.int .u32 a0_0, (.slice A0_1 l0_1.length c0_1)] 42 (0, 0))) ∧ iC (wc.heap[gb289]? = some (.cells #[.int .u32 0, (.slice none 0 0)] 42 (0, 0))) ∧ iC (Below w.heap.size w wc))
  case first =>
    have H := HC7.out
    clear HC7
    replace H := Option.bind_eq_some_iff.mp H
    obtain ⟨t290, A100, H⟩ := H
    replace H : (if t290 = true then (if a1 > 10000 then (spans_Split.j0 k a1 a3 a4 a5 true a0_0 l0_1) else (if a3 < 0 then (spans_Split.j0 k a1 a3 a4 a5 true a0_0 l0_1) else (if a3 ≥ a4 then (spans_Split.j0 k a1 a3 a4 a5 true a0_0 l0_1) else (if a4 > a1 then (spans_Split.j0 k a1 a3 a4 a5 true a0_0 l0_1) else (if a5 < 0 then (spans_Split.j0 k a1 a3 a4 a5 true a0_0 l0_1) else (spans_Split.j0 k a1 a3 a4 a5 (decide (a5 ≥ (mn a2 6))) a0_0 l0_1)))))) else (spans_Split.j0 k a1 a3 a4 a5 true a0_0 l0_1)) = some (r1, r2, r3) := H
    have A10 := iC.mk A100
    clear A100
    by_cases c11 : t290 = true
    · subst c11
      have H1 : (if a1 > 10000 then (spans_Split.j0 k a1 a3 a4 a5 true a0_0 l0_1) else (if a3 < 0 then (spans_Split.j0 k a1 a3 a4 a5 true a0_0 l0_1) else (if a3 ≥ a4 then (spans_Split.j0 k a1 a3 a4 a5 true a0_0 l0_1) else (if a4 > a1 then (spans_Split.j0 k a1 a3 a4 a5 true a0_0 l0_1) else (if a5 < 0 then (spans_Split.j0 k a1 a3 a4 a5 true a0_0 l0_1) else (spans_Split.j0 k a1 a3 a4 a5 (decide (a5 ≥ (mn a2 6))) a0_0 l0_1)))))) = some (r1, r2, r3) := by rw [if_pos rfl] at H; exact H
      clear H
      have H := H1
      clear H1
      by_cases c12 : a1 > 10000
      · rw [if_pos c12] at H
        have c12b0 : decide (10000 < a1) = true := decide_eq_true c12
        clear c12
        (first | rw [c12b0] | (simp only [iR, iT]; rw [c12b0]) | skip)
        have H' := iC.mk H
        clear H
        have hnb13 := NB288_289.out
        have hnc13 := NB289_288.out
        have hcz14_0 : w9.cell? ⟨gb288, 0, none⟩ = some (.int .u32 a0_0) := (iH BK288.out 0).trans rfl
        have hcz14_1 : w9.cell? ⟨gb288, 1, none⟩ = some (.slice A0_1 l0_1.length c0_1) := (iH BK288.out 1).trans rfl
        have hfz14_0 := iI BK288.out 0
        have hfz14_1 := iI BK288.out 1
        go_wp2_with (first | ((with_reducible refine iZ (f := 52) rfl ?_); refine jJ (some 22) rfl rfl Try.func52 (by kernel_rfl) rfl #[.agg #[.int .u32 a0_0, .slice A0_1 l0_1.length c0_1], .int .i64 a1, .int .i64 a2] rfl (by (try simp only [List.map_toArray, List.map_cons, List.map_nil]); first | done | rfl | (simp only [List.length_drop, List.length_take]; rfl)) ?_; (with_reducible refine (spans_Sound.calls k a0_0 _ _ l0_1 a1 a2 true _ ?side1 ?side2 A10.out).mono ?_); (case side1 => repeat (first | exact (Kd.C_below HR0_1.out HB.out) | (with_reducible refine Kd.C_alloc ?_ _) | (with_reducible refine Kd.C_drewN ?_ _) | (with_reducible refine Kd.C_drew ?_))); (case side2 => exact HC0_1.out); rintro e w15 ⟨rfl, hb⟩; refine ⟨_, rfl, ?_⟩; have n0_ := iC.mk (iP (g := gb288) (o := .cells #[.int .u32 a0_0, .slice A0_1 l0_1.length c0_1] 42 (0, 0)) (bk_ BK288.out) hb); have n1_ := iC.mk (iP (g := gb289) (o := .cells #[.int .u32 0, .slice none 0 0] 42 (0, 0)) (bk_ BK289.out) hb); have n2_ := iC.mk (iM (by repeat (first | (with_reducible first | exact HB.out | apply iG | apply iD | apply iF | refine iE ?_ GE288.out | refine iE ?_ GE289.out) | exact HB.out)) hb); clear BK288; clear BK289; clear HB; have BK288 := n0_; have BK289 := n1_; have HB := n2_; clear n0_ n1_ n2_; (try clear hb); (try clear hb2); (try clear hk); (try clear hi)))
        go_meet
        case rel => exact ⟨_, (true), (by first | rfl | (simp; done) | (simp [*]; done)), H', ⟨by first | omega | exact Nat.le_refl _⟩, ⟨bk_ BK288.out⟩, ⟨bk_ BK289.out⟩, ⟨by repeat (first | (with_reducible first | exact HB.out | apply iG | apply iD | apply iF | refine iE ?_ GE288.out | refine iE ?_ GE289.out) | exact HB.out)⟩⟩
      · rw [if_neg c12] at H
        have c12b0 : decide (10000 < a1) = false := decide_eq_false c12
        clear c12
        (first | rw [c12b0] | (simp only [iR, iT]; rw [c12b0]) | skip)
        by_cases c16 : a3 < 0
        · rw [if_pos c16] at H
          have c16b0 : decide (a3 < 0) = true := decide_eq_true c16
          clear c16
          have H' := iC.mk H
          clear H
          have hnb17 := NB288_289.out
          have hnc17 := NB289_288.out
          have hcz18_0 : w9.cell? ⟨gb288, 0, none⟩ = some (.int .u32 a0_0) := (iH BK288.out 0).trans rfl
          have hcz18_1 : w9.cell? ⟨gb288, 1, none⟩ = some (.slice A0_1 l0_1.length c0_1) := (iH BK288.out 1).trans rfl
          have hfz18_0 := iI BK288.out 0
          have hfz18_1 := iI BK288.out 1
          go_wp2_with (first | ((with_reducible refine iZ (f := 52) rfl ?_); refine jJ (some 22) rfl rfl Try.func52 (by kernel_rfl) rfl #[.agg #[.int .u32 a0_0, .slice A0_1 l0_1.length c0_1], .int .i64 a1, .int .i64 a2] rfl (by (try simp only [List.map_toArray, List.map_cons, List.map_nil]); first | done | rfl | (simp only [List.length_drop, List.length_take]; rfl)) ?_; (with_reducible refine (spans_Sound.calls k a0_0 _ _ l0_1 a1 a2 true _ ?side1 ?side2 A10.out).mono ?_); (case side1 => repeat (first | exact (Kd.C_below HR0_1.out HB.out) | (with_reducible refine Kd.C_alloc ?_ _) | (with_reducible refine Kd.C_drewN ?_ _) | (with_reducible refine Kd.C_drew ?_))); (case side2 => exact HC0_1.out); rintro e w19 ⟨rfl, hb⟩; refine ⟨_, rfl, ?_⟩; have n0_ := iC.mk (iP (g := gb288) (o := .cells #[.int .u32 a0_0, .slice A0_1 l0_1.length c0_1] 42 (0, 0)) (bk_ BK288.out) hb); have n1_ := iC.mk (iP (g := gb289) (o := .cells #[.int .u32 0, .slice none 0 0] 42 (0, 0)) (bk_ BK289.out) hb); have n2_ := iC.mk (iM (by repeat (first | (with_reducible first | exact HB.out | apply iG | apply iD | apply iF | refine iE ?_ GE288.out | refine iE ?_ GE289.out) | exact HB.out)) hb); clear BK288; clear BK289; clear HB; have BK288 := n0_; have BK289 := n1_; have HB := n2_; clear n0_ n1_ n2_; (try clear hb); (try clear hb2); (try clear hk); (try clear hi)))
          go_meet
          case rel => exact ⟨_, (true), (by first | rfl | (simp; done) | (simp [*]; done)), H', ⟨by first | omega | exact Nat.le_refl _⟩, ⟨bk_ BK288.out⟩, ⟨bk_ BK289.out⟩, ⟨by repeat (first | (with_reducible first | exact HB.out | apply iG | apply iD | apply iF | refine iE ?_ GE288.out | refine iE ?_ GE289.out) | exact HB.out)⟩⟩
        · rw [if_neg c16] at H
          have c16b0 : decide (a3 < 0) = false := decide_eq_false c16
          clear c16
          by_cases c20 : a3 ≥ a4
          · rw [if_pos c20] at H
            have c20b0 : decide (a4 ≤ a3) = true := decide_eq_true c20
            clear c20
            have H' := iC.mk H
            clear H
            have hnb21 := NB288_289.out
            have hnc21 := NB289_288.out
            have hcz22_0 : w9.cell? ⟨gb288, 0, none⟩ = some (.int .u32 a0_0) := (iH BK288.out 0).trans rfl
            have hcz22_1 : w9.cell? ⟨gb288, 1, none⟩ = some (.slice A0_1 l0_1.length c0_1) := (iH BK288.out 1).trans rfl
            have hfz22_0 := iI BK288.out 0
            have hfz22_1 := iI BK288.out 1
            go_wp2_with (first | ((with_reducible refine iZ (f := 52) rfl ?_); refine jJ (some 22) rfl rfl Try.func52 (by kernel_rfl) rfl #[.agg #[.int .u32 a0_0, .slice A0_1 l0_1.length c0_1], .int .i64 a1, .int .i64 a2] rfl (by (try simp only [List.map_toArray, List.map_cons, List.map_nil]); first | done | rfl | (simp only [List.length_drop, List.length_take]; rfl)) ?_; (with_reducible refine (spans_Sound.calls k a0_0 _ _ l0_1 a1 a2 true _ ?side1 ?side2 A10.out).mono ?_); (case side1 => repeat (first | exact (Kd.C_below HR0_1.out HB.out) | (with_reducible refine Kd.C_alloc ?_ _) | (with_reducible refine Kd.C_drewN ?_ _) | (with_reducible refine Kd.C_drew ?_))); (case side2 => exact HC0_1.out); rintro e w23 ⟨rfl, hb⟩; refine ⟨_, rfl, ?_⟩; have n0_ := iC.mk (iP (g := gb288) (o := .cells #[.int .u32 a0_0, .slice A0_1 l0_1.length c0_1] 42 (0, 0)) (bk_ BK288.out) hb); have n1_ := iC.mk (iP (g := gb289) (o := .cells #[.int .u32 0, .slice none 0 0] 42 (0, 0)) (bk_ BK289.out) hb); have n2_ := iC.mk (iM (by repeat (first | (with_reducible first | exact HB.out | apply iG | apply iD | apply iF | refine iE ?_ GE288.out | refine iE ?_ GE289.out) | exact HB.out)) hb); clear BK288; clear BK289; clear HB; have BK288 := n0_; have BK289 := n1_; have HB := n2_; clear n0_ n1_ n2_; (try clear hb); (try clear hb2); (try clear hk); (try clear hi)))
            go_meet
            case rel => exact ⟨_, (true), (by first | rfl | (simp; done) | (simp [*]; done)), H', ⟨by first | omega | exact Nat.le_refl _⟩, ⟨bk_ BK288.out⟩, ⟨bk_ BK289.out⟩, ⟨by repeat (first | (with_reducible first | exact HB.out | apply iG | apply iD | apply iF | refine iE ?_ GE288.out | refine iE ?_ GE289.out) | exact HB.out)⟩⟩
          · rw [if_neg c20] at H
            have c20b0 : decide (a4 ≤ a3) = false := decide_eq_false c20
            clear c20
            by_cases c24 : a4 > a1
            · rw [if_pos c24] at H
              have c24b0 : decide (a1 < a4) = true := decide_eq_true c24
              clear c24
              have H' := iC.mk H
              clear H
              have hnb25 := NB288_289.out
              have hnc25 := NB289_288.out
              have hcz26_0 : w9.cell? ⟨gb288, 0, none⟩ = some (.int .u32 a0_0) := (iH BK288.out 0).trans rfl
              have hcz26_1 : w9.cell? ⟨gb288, 1, none⟩ = some (.slice A0_1 l0_1.length c0_1) := (iH BK288.out 1).trans rfl
              have hfz26_0 := iI BK288.out 0
              have hfz26_1 := iI BK288.out 1
              go_wp2_with (first | ((with_reducible refine iZ (f := 52) rfl ?_); refine jJ (some 22) rfl rfl Try.func52 (by kernel_rfl) rfl #[.agg #[.int .u32 a0_0, .slice A0_1 l0_1.length c0_1], .int .i64 a1, .int .i64 a2] rfl (by (try simp only [List.map_toArray, List.map_cons, List.map_nil]); first | done | rfl | (simp only [List.length_drop, List.length_take]; rfl)) ?_; (with_reducible refine (spans_Sound.calls k a0_0 _ _ l0_1 a1 a2 true _ ?side1 ?side2 A10.out).mono ?_); (case side1 => repeat (first | exact (Kd.C_below HR0_1.out HB.out) | (with_reducible refine Kd.C_alloc ?_ _) | (with_reducible refine Kd.C_drewN ?_ _) | (with_reducible refine Kd.C_drew ?_))); (case side2 => exact HC0_1.out); rintro e w27 ⟨rfl, hb⟩; refine ⟨_, rfl, ?_⟩; have n0_ := iC.mk (iP (g := gb288) (o := .cells #[.int .u32 a0_0, .slice A0_1 l0_1.length c0_1] 42 (0, 0)) (bk_ BK288.out) hb); have n1_ := iC.mk (iP (g := gb289) (o := .cells #[.int .u32 0, .slice none 0 0] 42 (0, 0)) (bk_ BK289.out) hb); have n2_ := iC.mk (iM (by repeat (first | (with_reducible first | exact HB.out | apply iG | apply iD | apply iF | refine iE ?_ GE288.out | refine iE ?_ GE289.out) | exact HB.out)) hb); clear BK288; clear BK289; clear HB; have BK288 := n0_; have BK289 := n1_; have HB := n2_; clear n0_ n1_ n2_; (try clear hb); (try clear hb2); (try clear hk); (try clear hi)))
              go_meet
              case rel => exact ⟨_, (true), (by first | rfl | (simp; done) | (simp [*]; done)), H', ⟨by first | omega | exact Nat.le_refl _⟩, ⟨bk_ BK288.out⟩, ⟨bk_ BK289.out⟩, ⟨by repeat (first | (with_reducible first | exact HB.out | apply iG | apply iD | apply iF | refine iE ?_ GE288.out | refine iE ?_ GE289.out) | exact HB.out)⟩⟩
            · rw [if_neg c24] at H
              have c24b0 : decide (a1 < a4) = false := decide_eq_false c24
              clear c24
              by_cases c28 : a5 < 0
              · rw [if_pos c28] at H
                have c28b0 : decide (a5 < 0) = true := decide_eq_true c28
                clear c28
                have H' := iC.mk H
                clear H
                have hnb29 := NB288_289.out
                have hnc29 := NB289_288.out
                have hcz30_0 : w9.cell? ⟨gb288, 0, none⟩ = some (.int .u32 a0_0) := (iH BK288.out 0).trans rfl
                have hcz30_1 : w9.cell? ⟨gb288, 1, none⟩ = some (.slice A0_1 l0_1.length c0_1) := (iH BK288.out 1).trans rfl
                have hfz30_0 := iI BK288.out 0
                have hfz30_1 := iI BK288.out 1
                go_wp2_with (first | ((with_reducible refine iZ (f := 52) rfl ?_); refine jJ (some 22) rfl rfl Try.func52 (by kernel_rfl) rfl #[.agg #[.int .u32 a0_0, .slice A0_1 l0_1.length c0_1], .int .i64 a1, .int .i64 a2] rfl (by (try simp only [List.map_toArray, List.map_cons, List.map_nil]); first | done | rfl | (simp only [List.length_drop, List.length_take]; rfl)) ?_; (with_reducible refine (spans_Sound.calls k a0_0 _ _ l0_1 a1 a2 true _ ?side1 ?side2 A10.out).mono ?_); (case side1 => repeat (first | exact (Kd.C_below HR0_1.out HB.out) | (with_reducible refine Kd.C_alloc ?_ _) | (with_reducible refine Kd.C_drewN ?_ _) | (with_reducible refine Kd.C_drew ?_))); (case side2 => exact HC0_1.out); rintro e w31 ⟨rfl, hb⟩; refine ⟨_, rfl, ?_⟩; have n0_ := iC.mk (iP (g := gb288) (o := .cells #[.int .u32 a0_0, .slice A0_1 l0_1.length c0_1] 42 (0, 0)) (bk_ BK288.out) hb); have n1_ := iC.mk (iP (g := gb289) (o := .cells #[.int .u32 0, .slice none 0 0] 42 (0, 0)) (bk_ BK289.out) hb); have n2_ := iC.mk (iM (by repeat (first | (with_reducible first | exact HB.out | apply iG | apply iD | apply iF | refine iE ?_ GE288.out | refine iE ?_ GE289.out) | exact HB.out)) hb); clear BK288; clear BK289; clear HB; have BK288 := n0_; have BK289 := n1_; have HB := n2_; clear n0_ n1_ n2_; (try clear hb); (try clear hb2); (try clear hk); (try clear hi)))
                go_meet
                case rel => exact ⟨_, (true), (by first | rfl | (simp; done) | (simp [*]; done)), H', ⟨by first | omega | exact Nat.le_refl _⟩, ⟨bk_ BK288.out⟩, ⟨bk_ BK289.out⟩, ⟨by repeat (first | (with_reducible first | exact HB.out | apply iG | apply iD | apply iF | refine iE ?_ GE288.out | refine iE ?_ GE289.out) | exact HB.out)⟩⟩
              · rw [if_neg c28] at H
                have c28b0 : decide (a5 < 0) = false := decide_eq_false c28
                clear c28
                obtain ⟨ji32, hji32⟩ : ∃ j_ : Int, (mn a2 6) = j_ := ⟨_, rfl⟩
                replace H : (spans_Split.j0 k a1 a3 a4 a5 (decide (a5 ≥ (ji32))) a0_0 l0_1) = some (r1, r2, r3) := by first | (rw [hji32] at H; exact H) | (simp only [hji32] at H ⊢; exact H)
                (try rw [hji32] at A10)
                (try (have hji32h : ji32 ≤ 6 := by (rw [← hji32]; unfold mn; (repeat' split) <;> omega)))
                (try (have hji32g : ji32 ≤ 64 := by omega))
                have hji32_ : (if 6 < a2 then 6 else a2) = ji32 := hji32
                have H' := iC.mk H
                clear H
                have hnb33 := NB288_289.out
                have hnc33 := NB289_288.out
                have hcz34_0 : w9.cell? ⟨gb288, 0, none⟩ = some (.int .u32 a0_0) := (iH BK288.out 0).trans rfl
                have hcz34_1 : w9.cell? ⟨gb288, 1, none⟩ = some (.slice A0_1 l0_1.length c0_1) := (iH BK288.out 1).trans rfl
                have hfz34_0 := iI BK288.out 0
                have hfz34_1 := iI BK288.out 1
                go_wp2_with (first | ((with_reducible refine iZ (f := 52) rfl ?_); refine jJ (some 22) rfl rfl Try.func52 (by kernel_rfl) rfl #[.agg #[.int .u32 a0_0, .slice A0_1 l0_1.length c0_1], .int .i64 a1, .int .i64 a2] rfl (by (try simp only [List.map_toArray, List.map_cons, List.map_nil]); first | done | rfl | (simp only [List.length_drop, List.length_take]; rfl)) ?_; (with_reducible refine (spans_Sound.calls k a0_0 _ _ l0_1 a1 a2 true _ ?side1 ?side2 A10.out).mono ?_); (case side1 => repeat (first | exact (Kd.C_below HR0_1.out HB.out) | (with_reducible refine Kd.C_alloc ?_ _) | (with_reducible refine Kd.C_drewN ?_ _) | (with_reducible refine Kd.C_drew ?_))); (case side2 => exact HC0_1.out); rintro e w35 ⟨rfl, hb⟩; refine ⟨_, rfl, ?_⟩; have n0_ := iC.mk (iP (g := gb288) (o := .cells #[.int .u32 a0_0, .slice A0_1 l0_1.length c0_1] 42 (0, 0)) (bk_ BK288.out) hb); have n1_ := iC.mk (iP (g := gb289) (o := .cells #[.int .u32 0, .slice none 0 0] 42 (0, 0)) (bk_ BK289.out) hb); have n2_ := iC.mk (iM (by repeat (first | (with_reducible first | exact HB.out | apply iG | apply iD | apply iF | refine iE ?_ GE288.out | refine iE ?_ GE289.out) | exact HB.out)) hb); clear BK288; clear BK289; clear HB; have BK288 := n0_; have BK289 := n1_; have HB := n2_; clear n0_ n1_ n2_; (try clear hb); (try clear hb2); (try clear hk); (try clear hi)))
                go_meet
                case rel => exact ⟨_, (decide (a5 ≥ (ji32))), (by first | rfl | (simp; done) | (simp only [← hji32] <;> (first | rfl | simp)) | (simp [*]; done)), H', ⟨by first | omega | exact Nat.le_refl _⟩, ⟨bk_ BK288.out⟩, ⟨bk_ BK289.out⟩, ⟨by repeat (first | (with_reducible first | exact HB.out | apply iG | apply iD | apply iF | refine iE ?_ GE288.out | refine iE ?_ GE289.out) | exact HB.out)⟩⟩
    · replace c11 := Bool.eq_false_iff.mpr c11
      subst c11
      have H1 : (spans_Split.j0 k a1 a3 a4 a5 true a0_0 l0_1) = some (r1, r2, r3) := by rw [if_neg (show ¬ (false = true) by decide)] at H; exact H
      clear H
      have H := H1
      clear H1
      have H' := iC.mk H
      clear H
      have hnb36 := NB288_289.out
      have hnc36 := NB289_288.out
      have hcz37_0 : w9.cell? ⟨gb288, 0, none⟩ = some (.int .u32 a0_0) := (iH BK288.out 0).trans rfl
      have hcz37_1 : w9.cell? ⟨gb288, 1, none⟩ = some (.slice A0_1 l0_1.length c0_1) := (iH BK288.out 1).trans rfl
      have hfz37_0 := iI BK288.out 0
      have hfz37_1 := iI BK288.out 1
      go_wp2_with (first | ((with_reducible refine iZ (f := 52) rfl ?_); refine jJ (some 22) rfl rfl Try.func52 (by kernel_rfl) rfl #[.agg #[.int .u32 a0_0, .slice A0_1 l0_1.length c0_1], .int .i64 a1, .int .i64 a2] rfl (by (try simp only [List.map_toArray, List.map_cons, List.map_nil]); first | done | rfl | (simp only [List.length_drop, List.length_take]; rfl)) ?_; (with_reducible refine (spans_Sound.calls k a0_0 _ _ l0_1 a1 a2 false _ ?side1 ?side2 A10.out).mono ?_); (case side1 => repeat (first | exact (Kd.C_below HR0_1.out HB.out) | (with_reducible refine Kd.C_alloc ?_ _) | (with_reducible refine Kd.C_drewN ?_ _) | (with_reducible refine Kd.C_drew ?_))); (case side2 => exact HC0_1.out); rintro e w38 ⟨rfl, hb⟩; refine ⟨_, rfl, ?_⟩; have n0_ := iC.mk (iP (g := gb288) (o := .cells #[.int .u32 a0_0, .slice A0_1 l0_1.length c0_1] 42 (0, 0)) (bk_ BK288.out) hb); have n1_ := iC.mk (iP (g := gb289) (o := .cells #[.int .u32 0, .slice none 0 0] 42 (0, 0)) (bk_ BK289.out) hb); have n2_ := iC.mk (iM (by repeat (first | (with_reducible first | exact HB.out | apply iG | apply iD | apply iF | refine iE ?_ GE288.out | refine iE ?_ GE289.out) | exact HB.out)) hb); clear BK288; clear BK289; clear HB; have BK288 := n0_; have BK289 := n1_; have HB := n2_; clear n0_ n1_ n2_; (try clear hb); (try clear hb2); (try clear hk); (try clear hi)))
      go_meet
      case rel => exact ⟨_, (true), (by first | rfl | (simp; done) | (simp [*]; done)), H', ⟨by first | omega | exact Nat.le_refl _⟩, ⟨bk_ BK288.out⟩, ⟨bk_ BK289.out⟩, ⟨by repeat (first | (with_reducible first | exact HB.out | apply iG | apply iD | apply iF | refine iE ?_ GE288.out | refine iE ?_ GE289.out) | exact HB.out)⟩⟩
  case rest =>
    clear HC7
    try clear c1
    try clear c2
    try clear p2
    try clear c3
    try clear c5
    try clear c11
    try clear c12
    try clear c12b0
    try clear c13
    try clear c16
    try clear c16b0
    try clear c17
    try clear c20
    try clear c20b0
    try clear c21
    try clear c24
    try clear c24b0
    try clear c25
    try clear c28
    try clear c28b0
    try clear c29
    try clear c33
    try clear c36
    try clear hcz14_0
    try clear hcz14_1
    try clear hcz18_0
    try clear hcz18_1
    try clear hcz22_0
    try clear hcz22_1
    try clear hcz26_0
    try clear hcz26_1
    try clear hcz30_0
    try clear hcz30_1
    try clear hcz34_0
    try clear hcz34_1
    try clear hcz37_0
    try clear hcz37_1
    try clear hfz14_0
    try clear hfz14_1
    try clear hfz18_0
    try clear hfz18_1
    try clear hfz22_0
    try clear hfz22_1
    try clear hfz26_0
    try clear hfz26_1
    try clear hfz30_0
    try clear hfz30_1
    try clear hfz34_0
    try clear hfz34_1
    try clear hfz37_0
    try clear hfz37_1
    obtain ⟨kq, x51_6, rfl, HA, HJ6, BK288, BK289, HB⟩ := hcut
    cases kq with
    | zero => exact absurd HA.out (by simp [spans_Split.j0])
    | succ kj6 =>
      have H := HA.out
      clear HA
      simp only [spans_Split.j0] at H
      by_cases c39 : x51_6 = true
      · subst c39
        have H1 : (some (0, ([] : List (S96)), 120)) = some (r1, r2, r3) := by rw [if_pos rfl] at H; exact H
        clear H
        have H := H1
        clear H1
        simp only [Option.some.injEq, Prod.mk.injEq] at H
        obtain ⟨rfl, rfl, rfl⟩ := H
        have hnb40 := NB289_288.out
        have hnc40 := NB288_289.out
        have hcz41_0 : wc.cell? ⟨gb289, 0, none⟩ = some (.int .u32 0) := (iH BK289.out 0).trans rfl
        have hcz41_1 : wc.cell? ⟨gb289, 1, none⟩ = some (.slice none 0 0) := (iH BK289.out 1).trans rfl
        have hfz41_0 := iI BK289.out 0
        have hfz41_1 := iI BK289.out 1
        go_wp2
        refine bodyPost_ret (kJ rfl _ _ gb289 42 #[.int .u32 0, .slice none 0 0] (0, 0) _ rfl (by (with_reducible repeat (first | refine iL ?_ _ | refine iO ?_ | refine iK ?_ _)); refine jC (cs := #[.int .u32 0, .slice none 0 0]) ?_ 1 _ rfl; (with_reducible repeat (first | refine iL ?_ _ | refine iO ?_ | refine iK ?_ _)); refine jC (cs := #[.int .u32 0, .slice none 0 0]) ?_ 0 _ rfl; (with_reducible repeat (first | refine iL ?_ _ | refine iO ?_ | refine iK ?_ _)); exact BK289.out) Try.underlying42 rfl (by kernel_rfl)) rfl ?_
        exact ⟨_, by first | rfl | (simp [iU, iV] <;> rfl) | (simp [*, iU, iV] <;> rfl), by first | exact Kd.R_nil _ _ _ _ _ | exact Kd.N_nil _ _ _ _ _ | exact Kd.V_nil _ _ _ _ _ | exact Kd.Q_nil _ _ _ _ _ | exact Kd.S_nil _ _ _ _ _, by repeat (first | (with_reducible first | exact HB.out | apply iG | apply iD | apply iF | refine iE ?_ GE288.out | refine iE ?_ GE289.out) | exact HB.out)⟩
      · replace c39 := Bool.eq_false_iff.mpr c39
        subst c39
        have H1 : ((spans_Nodes.f a0_0 l0_1 a3 a4).bind fun t291 => ((slices_Equal_int_int.f kj6 t291 (([a5] : List Int))).bind fun t297 => (if t297 = true then (some (0, ([] : List (S96)), 120)) else (spans_Split.l0 kj6 a1 a3 a4 a5 ([] : List (S96)) l0_1 (l0_1.length : Int) 0 a0_0 l0_1)))) = some (r1, r2, r3) := by rw [if_neg (show ¬ (false = true) by decide)] at H; exact H
        clear H
        have H := H1
        clear H1
        replace H := Option.bind_eq_some_iff.mp H
        obtain ⟨t291, A420, H⟩ := H
        replace H : ((slices_Equal_int_int.f kj6 t291 (([a5] : List Int))).bind fun t297 => (if t297 = true then (some (0, ([] : List (S96)), 120)) else (spans_Split.l0 kj6 a1 a3 a4 a5 ([] : List (S96)) l0_1 (l0_1.length : Int) 0 a0_0 l0_1))) = some (r1, r2, r3) := H
        have A42 := iC.mk A420
        clear A420
        obtain ⟨y294, hy294⟩ : ∃ y_ : List Int, y_ = (([a5] : List Int)) := ⟨_, rfl⟩
        replace H : ((slices_Equal_int_int.f kj6 t291 y294).bind fun t297 => (if t297 = true then (some (0, ([] : List (S96)), 120)) else (spans_Split.l0 kj6 a1 a3 a4 a5 ([] : List (S96)) l0_1 (l0_1.length : Int) 0 a0_0 l0_1))) = some (r1, r2, r3) := by first | (rw [hy294]; with_reducible exact H) | (have H2_ := (Option.bind_some _ _).symm.trans H; rw [hy294]; with_reducible exact H2_) | (have H2_ := (Option.bind_some _ _).symm.trans H; with_reducible exact H2_) | with_reducible exact H | (rw [hy294]; exact H) | exact H
        have Ny294 := iC.mk hy294
        clear hy294
        replace H := Option.bind_eq_some_iff.mp H
        obtain ⟨t297, A430, H⟩ := H
        replace H : (if t297 = true then (some (0, ([] : List (S96)), 120)) else (spans_Split.l0 kj6 a1 a3 a4 a5 ([] : List (S96)) l0_1 (l0_1.length : Int) 0 a0_0 l0_1)) = some (r1, r2, r3) := H
        have A43 := iC.mk A430
        clear A430
        by_cases c44 : t297 = true
        · subst c44
          have H1 : (some (0, ([] : List (S96)), 120)) = some (r1, r2, r3) := by rw [if_pos rfl] at H; exact H
          clear H
          have H := H1
          clear H1
          simp only [Option.some.injEq, Prod.mk.injEq] at H
          obtain ⟨rfl, rfl, rfl⟩ := H
          have hnb45 := NB288_289.out
          have hnc45 := NB289_288.out
          have hcz46_0 : wc.cell? ⟨gb288, 0, none⟩ = some (.int .u32 a0_0) := (iH BK288.out 0).trans rfl
          have hcz46_1 : wc.cell? ⟨gb288, 1, none⟩ = some (.slice A0_1 l0_1.length c0_1) := (iH BK288.out 1).trans rfl
          have hfz46_0 := iI BK288.out 0
          have hfz46_1 := iI BK288.out 1
          go_wp2_with (first | ((with_reducible refine iZ (f := 26) rfl ?_); refine jJ (some 56) rfl rfl Try.func26 (by kernel_rfl) rfl #[.agg #[.int .u32 a0_0, .slice A0_1 l0_1.length c0_1], .int .i64 a3, .int .i64 a4] rfl (by (try simp only [List.map_toArray, List.map_cons, List.map_nil]); first | done | rfl | (simp only [List.length_drop, List.length_take]; rfl)) ?_; (with_reducible refine (spans_Nodes.calls a0_0 _ _ l0_1 a3 a4 t291 _ ?side1 ?side2 A42.out).mono ?_); (case side1 => repeat (first | exact (Kd.C_below HR0_1.out HB.out) | (with_reducible refine Kd.C_alloc ?_ _) | (with_reducible refine Kd.C_drewN ?_ _) | (with_reducible refine Kd.C_drew ?_))); (case side2 => exact HC0_1.out); rintro e w47 ⟨v292, rfl, ho0, hb⟩; refine ⟨_, rfl, ?_⟩; have n0_ := iC.mk (Kd.R_lower ho0 (iJ (by repeat (first | (with_reducible first | exact HB.out | apply iG | apply iD | apply iF | refine iE ?_ GE288.out | refine iE ?_ GE289.out) | exact HB.out)))); have n1_ := iC.mk (iP (g := gb288) (o := .cells #[.int .u32 a0_0, .slice A0_1 l0_1.length c0_1] 42 (0, 0)) (bk_ BK288.out) hb); have n2_ := iC.mk (iP (g := gb289) (o := .cells #[.int .u32 0, .slice none 0 0] 42 (0, 0)) (bk_ BK289.out) hb); have n3_ := iC.mk (iM (by repeat (first | (with_reducible first | exact HB.out | apply iG | apply iD | apply iF | refine iE ?_ GE288.out | refine iE ?_ GE289.out) | exact HB.out)) hb); clear BK288; clear BK289; clear HB; have HO293 := n0_; have BK288 := n1_; have BK289 := n2_; have HB := n3_; clear n0_ n1_ n2_ n3_; (try clear hb); (try clear hb2); (try clear hk); (try clear hi); (try clear ho0)) | ((with_reducible refine jF (N := 58) rfl ?_); (try (refine jB (by rfl) ?_; dsimp only)); refine Kd.R_lit (Kd.int .i64) _ 3 ?hg (N := 58) ?hd (xs := ([a5] : List Int)) (inner := [.int .i64 a5]) (ok := fun _ => True) (okp := fun _ => True) ?hr ?hp (fun _ hk => hk) trivial (Below.refl _ _) (Nat.le_refl _) (by simp) ?_; (case hd => rfl); (case hg => rfl); (case hr => first | (go_simp; done) | (go_simp; rfl)); (case hp => exact (Reps.one (show Kd.M (Kd.int .i64) _ _ _ a5 [.int .i64 a5] from rfl) (Reps.none _ _))); intro v295 w48 ho49 hb hg_ hnew_; clear hg_ hnew_; (first | rw [← Ny294.out] at ho49 | (simp only [Int.reduceToNat] at ho49; rw [← Ny294.out] at ho49)); have n0_ := iC.mk (Kd.R_elder' (by (with_reducible repeat (first | apply Kd.R_alloc | apply Kd.R_drewN | apply Kd.R_drew)); exact HO293.out) (Kd.R_base ho49) hb); have n1_ := iC.mk (Kd.R_lower (Kd.R_new' ho49 (Kd.R_lt (by (with_reducible repeat (first | apply Kd.R_alloc | apply Kd.R_drewN | apply Kd.R_drew)); exact HO293.out))) (iJ (by repeat (first | (with_reducible first | exact HB.out | apply iG | apply iD | apply iF | refine iE ?_ GE288.out | refine iE ?_ GE289.out) | exact HB.out)))); have n2_ := iC.mk (iP (g := gb288) (o := .cells #[.int .u32 a0_0, .slice A0_1 l0_1.length c0_1] 42 (0, 0)) (bk_ BK288.out) hb); have n3_ := iC.mk (iP (g := gb289) (o := .cells #[.int .u32 0, .slice none 0 0] 42 (0, 0)) (bk_ BK289.out) hb); have n4_ := iC.mk (iM (by repeat (first | (with_reducible first | exact HB.out | apply iG | apply iD | apply iF | refine iE ?_ GE288.out | refine iE ?_ GE289.out) | exact HB.out)) hb); clear HO293; clear BK288; clear BK289; clear HB; have HO293 := n0_; have HO296 := n1_; have BK288 := n2_; have BK289 := n3_; have HB := n4_; clear n0_ n1_ n2_ n3_ n4_; clear hb ho49; obtain ⟨Ao50, co50, eo50⟩ := Kd.R_slice HO293.out; subst eo50; obtain ⟨Ao51, co51, eo51⟩ := Kd.R_slice HO296.out; subst eo51) | ((with_reducible refine iZ (f := 72) rfl ?_); refine jJ (some 59) rfl rfl Try.func72 (by kernel_rfl) rfl #[.slice Ao50 t291.length co50, .slice Ao51 y294.length co51] rfl (by (try simp only [List.map_toArray, List.map_cons, List.map_nil]); first | done | rfl | (simp only [List.length_drop, List.length_take]; rfl)) ?_; (with_reducible refine (slices_Equal_int_int.calls kj6 _ _ t291 _ _ y294 true _ ?side1 ?side2 ?side3 ?side4 A43.out).mono ?_); (case side1 => repeat (first | exact (Kd.R_reads' HO293.out).2.2 | (with_reducible refine Kd.C_alloc ?_ _) | (with_reducible refine Kd.C_drewN ?_ _) | (with_reducible refine Kd.C_drew ?_))); (case side2 => exact (Kd.R_reads' HO293.out).2.1); (case side3 => repeat (first | exact (Kd.R_reads' HO296.out).2.2 | (with_reducible refine Kd.C_alloc ?_ _) | (with_reducible refine Kd.C_drewN ?_ _) | (with_reducible refine Kd.C_drew ?_))); (case side4 => exact (Kd.R_reads' HO296.out).2.1); rintro e w' ⟨rfl, ⟨nd, rfl⟩⟩; refine ⟨_, rfl, ?_⟩; (try (rw [oG w48]; generalize hq_ : World.drewN w48 _ = w48; have n0_ : iC (Kd.R (Kd.int .i64) 3 w48 w.heap.size (fun k_ => some k_ ≠ (.slice Ao51 y294.length co51 : Value).ownBlock) (.slice Ao50 t291.length co50) t291) := ⟨by rw [← hq_]; exact (by (with_reducible repeat (first | apply Kd.R_alloc | apply Kd.R_drewN | apply Kd.R_drew)); exact Kd.R_mono HO293.out (fun _ hk => hk.2))⟩; have n1_ : iC (Kd.R (Kd.int .i64) 3 w48 w.heap.size (fun k_ => some k_ ≠ (.slice Ao50 t291.length co50 : Value).ownBlock) (.slice Ao51 y294.length co51) y294) := ⟨by rw [← hq_]; exact (by (with_reducible repeat (first | apply Kd.R_alloc | apply Kd.R_drewN | apply Kd.R_drew)); exact Kd.R_mono HO296.out (fun _ hk => hk.2))⟩; have n2_ : iC (w48.heap[gb288]? = some (.cells #[.int .u32 a0_0, .slice A0_1 l0_1.length c0_1] 42 (0, 0))) := ⟨by rw [← hq_]; exact (bk_ BK288.out)⟩; have n3_ : iC (w48.heap[gb289]? = some (.cells #[.int .u32 0, .slice none 0 0] 42 (0, 0))) := ⟨by rw [← hq_]; exact (bk_ BK289.out)⟩; have n4_ : iC (Below w.heap.size w w48) := ⟨by rw [← hq_]; exact (by repeat (first | (with_reducible first | exact HB.out | apply iG | apply iD | apply iF | refine iE ?_ GE288.out | refine iE ?_ GE289.out) | exact HB.out))⟩; clear HO293 HO296 BK288 BK289 HB hq_; have HO293 := n0_; have HO296 := n1_; have BK288 := n2_; have BK289 := n3_; have HB := n4_; clear n0_ n1_ n2_ n3_ n4_)); have hcz52_0 : w48.cell? ⟨gb289, 0, none⟩ = some (.int .u32 0) := (iH BK289.out 0).trans rfl; have hcz52_1 : w48.cell? ⟨gb289, 1, none⟩ = some (.slice none 0 0) := (iH BK289.out 1).trans rfl; have hfz52_0 := iI BK289.out 0; have hfz52_1 := iI BK289.out 1))
          refine bodyPost_ret (kJ rfl _ _ gb289 42 #[.int .u32 0, .slice none 0 0] (0, 0) _ rfl (by (with_reducible repeat (first | refine iL ?_ _ | refine iO ?_ | refine iK ?_ _)); refine jC (cs := #[.int .u32 0, .slice none 0 0]) ?_ 1 _ rfl; (with_reducible repeat (first | refine iL ?_ _ | refine iO ?_ | refine iK ?_ _)); refine jC (cs := #[.int .u32 0, .slice none 0 0]) ?_ 0 _ rfl; (with_reducible repeat (first | refine iL ?_ _ | refine iO ?_ | refine iK ?_ _)); exact BK289.out) Try.underlying42 rfl (by kernel_rfl)) rfl ?_
          exact ⟨_, by first | rfl | (simp [iU, iV] <;> rfl) | (simp [*, iU, iV] <;> rfl), by first | exact Kd.R_nil _ _ _ _ _ | exact Kd.N_nil _ _ _ _ _ | exact Kd.V_nil _ _ _ _ _ | exact Kd.Q_nil _ _ _ _ _ | exact Kd.S_nil _ _ _ _ _, by repeat (first | (with_reducible first | exact HB.out | apply iG | apply iD | apply iF | refine iE ?_ GE288.out | refine iE ?_ GE289.out) | exact HB.out)⟩
        · replace c44 := Bool.eq_false_iff.mpr c44
          subst c44
          have H1 : (spans_Split.l0 kj6 a1 a3 a4 a5 ([] : List (S96)) l0_1 (l0_1.length : Int) 0 a0_0 l0_1) = some (r1, r2, r3) := by rw [if_neg (show ¬ (false = true) by decide)] at H; exact H
          clear H
          have H := H1
          clear H1
          have H' := iC.mk H
          clear H
          have hnb53 := NB288_289.out
          have hnc53 := NB289_288.out
          have hcz54_0 : wc.cell? ⟨gb288, 0, none⟩ = some (.int .u32 a0_0) := (iH BK288.out 0).trans rfl
          have hcz54_1 : wc.cell? ⟨gb288, 1, none⟩ = some (.slice A0_1 l0_1.length c0_1) := (iH BK288.out 1).trans rfl
          have hfz54_0 := iI BK288.out 0
          have hfz54_1 := iI BK288.out 1
          go_wp2_with (first | ((with_reducible refine iZ (f := 26) rfl ?_); refine jJ (some 56) rfl rfl Try.func26 (by kernel_rfl) rfl #[.agg #[.int .u32 a0_0, .slice A0_1 l0_1.length c0_1], .int .i64 a3, .int .i64 a4] rfl (by (try simp only [List.map_toArray, List.map_cons, List.map_nil]); first | done | rfl | (simp only [List.length_drop, List.length_take]; rfl)) ?_; (with_reducible refine (spans_Nodes.calls a0_0 _ _ l0_1 a3 a4 t291 _ ?side1 ?side2 A42.out).mono ?_); (case side1 => repeat (first | exact (Kd.C_below HR0_1.out HB.out) | (with_reducible refine Kd.C_alloc ?_ _) | (with_reducible refine Kd.C_drewN ?_ _) | (with_reducible refine Kd.C_drew ?_))); (case side2 => exact HC0_1.out); rintro e w55 ⟨v292, rfl, ho0, hb⟩; refine ⟨_, rfl, ?_⟩; have n0_ := iC.mk (Kd.R_lower ho0 (iJ (by repeat (first | (with_reducible first | exact HB.out | apply iG | apply iD | apply iF | refine iE ?_ GE288.out | refine iE ?_ GE289.out) | exact HB.out)))); have n1_ := iC.mk (iP (g := gb288) (o := .cells #[.int .u32 a0_0, .slice A0_1 l0_1.length c0_1] 42 (0, 0)) (bk_ BK288.out) hb); have n2_ := iC.mk (iP (g := gb289) (o := .cells #[.int .u32 0, .slice none 0 0] 42 (0, 0)) (bk_ BK289.out) hb); have n3_ := iC.mk (iM (by repeat (first | (with_reducible first | exact HB.out | apply iG | apply iD | apply iF | refine iE ?_ GE288.out | refine iE ?_ GE289.out) | exact HB.out)) hb); clear BK288; clear BK289; clear HB; have HO293 := n0_; have BK288 := n1_; have BK289 := n2_; have HB := n3_; clear n0_ n1_ n2_ n3_; (try clear hb); (try clear hb2); (try clear hk); (try clear hi); (try clear ho0)) | ((with_reducible refine jF (N := 58) rfl ?_); (try (refine jB (by rfl) ?_; dsimp only)); refine Kd.R_lit (Kd.int .i64) _ 3 ?hg (N := 58) ?hd (xs := ([a5] : List Int)) (inner := [.int .i64 a5]) (ok := fun _ => True) (okp := fun _ => True) ?hr ?hp (fun _ hk => hk) trivial (Below.refl _ _) (Nat.le_refl _) (by simp) ?_; (case hd => rfl); (case hg => rfl); (case hr => first | (go_simp; done) | (go_simp; rfl)); (case hp => exact (Reps.one (show Kd.M (Kd.int .i64) _ _ _ a5 [.int .i64 a5] from rfl) (Reps.none _ _))); intro v295 w56 ho57 hb hg_ hnew_; clear hg_ hnew_; (first | rw [← Ny294.out] at ho57 | (simp only [Int.reduceToNat] at ho57; rw [← Ny294.out] at ho57)); have n0_ := iC.mk (Kd.R_elder' (by (with_reducible repeat (first | apply Kd.R_alloc | apply Kd.R_drewN | apply Kd.R_drew)); exact HO293.out) (Kd.R_base ho57) hb); have n1_ := iC.mk (Kd.R_lower (Kd.R_new' ho57 (Kd.R_lt (by (with_reducible repeat (first | apply Kd.R_alloc | apply Kd.R_drewN | apply Kd.R_drew)); exact HO293.out))) (iJ (by repeat (first | (with_reducible first | exact HB.out | apply iG | apply iD | apply iF | refine iE ?_ GE288.out | refine iE ?_ GE289.out) | exact HB.out)))); have n2_ := iC.mk (iP (g := gb288) (o := .cells #[.int .u32 a0_0, .slice A0_1 l0_1.length c0_1] 42 (0, 0)) (bk_ BK288.out) hb); have n3_ := iC.mk (iP (g := gb289) (o := .cells #[.int .u32 0, .slice none 0 0] 42 (0, 0)) (bk_ BK289.out) hb); have n4_ := iC.mk (iM (by repeat (first | (with_reducible first | exact HB.out | apply iG | apply iD | apply iF | refine iE ?_ GE288.out | refine iE ?_ GE289.out) | exact HB.out)) hb); clear HO293; clear BK288; clear BK289; clear HB; have HO293 := n0_; have HO296 := n1_; have BK288 := n2_; have BK289 := n3_; have HB := n4_; clear n0_ n1_ n2_ n3_ n4_; clear hb ho57; obtain ⟨Ao58, co58, eo58⟩ := Kd.R_slice HO293.out; subst eo58; obtain ⟨Ao59, co59, eo59⟩ := Kd.R_slice HO296.out; subst eo59) | ((with_reducible refine iZ (f := 72) rfl ?_); refine jJ (some 59) rfl rfl Try.func72 (by kernel_rfl) rfl #[.slice Ao58 t291.length co58, .slice Ao59 y294.length co59] rfl (by (try simp only [List.map_toArray, List.map_cons, List.map_nil]); first | done | rfl | (simp only [List.length_drop, List.length_take]; rfl)) ?_; (with_reducible refine (slices_Equal_int_int.calls kj6 _ _ t291 _ _ y294 false _ ?side1 ?side2 ?side3 ?side4 A43.out).mono ?_); (case side1 => repeat (first | exact (Kd.R_reads' HO293.out).2.2 | (with_reducible refine Kd.C_alloc ?_ _) | (with_reducible refine Kd.C_drewN ?_ _) | (with_reducible refine Kd.C_drew ?_))); (case side2 => exact (Kd.R_reads' HO293.out).2.1); (case side3 => repeat (first | exact (Kd.R_reads' HO296.out).2.2 | (with_reducible refine Kd.C_alloc ?_ _) | (with_reducible refine Kd.C_drewN ?_ _) | (with_reducible refine Kd.C_drew ?_))); (case side4 => exact (Kd.R_reads' HO296.out).2.1); rintro e w' ⟨rfl, ⟨nd, rfl⟩⟩; refine ⟨_, rfl, ?_⟩; have hcz60_0 : w56.cell? ⟨gb288, 0, none⟩ = some (.int .u32 a0_0) := (iH BK288.out 0).trans rfl; have hcz60_1 : w56.cell? ⟨gb288, 1, none⟩ = some (.slice A0_1 l0_1.length c0_1) := (iH BK288.out 1).trans rfl; have hfz60_0 := iI BK288.out 0; have hfz60_1 := iI BK288.out 1))
          go_loopg [14, 64] kj6 (fun kq v14 v64 w' => ∃ (x14_2 : List (S96)) (x64_2 : Int), v64 = .int .i64 x64_2 ∧ iC (spans_Split.l0 kq a1 a3 a4 a5 x14_2 l0_1 (l0_1.length : Int) x64_2 a0_0 l0_1 = some (r1, r2, r3)) ∧ iC (kq ≤ kj6) ∧ iC (Kd.R k96 96 w' w.heap.size (fun _ => True) v14 x14_2) ∧ iC (w'.heap[gb288]? = some (.cells #[.int .u32 a0_0, (.slice A0_1 l0_1.length c0_1)] 42 (0, 0))) ∧ iC (w'.heap[gb289]? = some (.cells #[.int .u32 0, (.slice none 0 0)] 42 (0, 0))) ∧ iC (Below w.heap.size w w'))
          case atStart => exact ⟨(([] : List (S96))), (0), (by first | rfl | (simp; done) | (simp [*]; done)), H', ⟨Nat.le_refl _⟩, ⟨by first | exact Kd.R_nil _ _ _ _ _ | exact Kd.N_nil _ _ _ _ _ | exact Kd.V_nil _ _ _ _ _ | exact Kd.Q_nil _ _ _ _ _ | exact Kd.S_nil _ _ _ _ _⟩, ⟨bk_ BK288.out⟩, ⟨bk_ BK289.out⟩, ⟨by repeat (first | (with_reducible first | exact HB.out | apply iG | apply iD | apply iF | refine iE ?_ GE288.out | refine iE ?_ GE289.out) | exact HB.out)⟩⟩
          case round =>
            clear H'
            try clear c1
            try clear c2
            try clear p2
            try clear c3
            try clear c4
            try clear c5
            try clear c7
            try clear c11
            try clear c12
            try clear c12b0
            try clear c13
            try clear c16
            try clear c16b0
            try clear c17
            try clear c20
            try clear c20b0
            try clear c21
            try clear c24
            try clear c24b0
            try clear c25
            try clear c26
            try clear c28
            try clear c28b0
            try clear c29
            try clear c33
            try clear c36
            try clear c39
            try clear c40
            try clear c44
            try clear c45
            try clear c50
            try clear c52
            try clear c53
            try clear hcz14_0
            try clear hcz14_1
            try clear hcz18_0
            try clear hcz18_1
            try clear hcz22_0
            try clear hcz22_1
            try clear hcz26_0
            try clear hcz26_1
            try clear hcz30_0
            try clear hcz30_1
            try clear hcz34_0
            try clear hcz34_1
            try clear hcz37_0
            try clear hcz37_1
            try clear hcz41_0
            try clear hcz41_1
            try clear hcz46_0
            try clear hcz46_1
            try clear hcz52_0
            try clear hcz52_1
            try clear hcz54_0
            try clear hcz54_1
            try clear hcz60_0
            try clear hcz60_1
            try clear hfz14_0
            try clear hfz14_1
            try clear hfz18_0
            try clear hfz18_1
            try clear hfz22_0
            try clear hfz22_1
            try clear hfz26_0
            try clear hfz26_1
            try clear hfz30_0
            try clear hfz30_1
            try clear hfz34_0
            try clear hfz34_1
            try clear hfz37_0
            try clear hfz37_1
            try clear hfz41_0
            try clear hfz41_1
            try clear hfz46_0
            try clear hfz46_1
            try clear hfz52_0
            try clear hfz52_1
            try clear hfz54_0
            try clear hfz54_1
            try clear hfz60_0
            try clear hfz60_1
            try clear p2
            obtain ⟨x14_2, x64_2, rfl, HA, HK2, HO_14, BK288, BK289, HB⟩ := hrel
            cases gk with
            | zero => exact absurd HA.out (by simp [spans_Split.l0])
            | succ k2 =>
              have H := HA.out
              clear HA
              simp only [spans_Split.l0] at H
              by_cases c61 : x64_2 < (l0_1.length : Int)
              · rw [if_pos c61] at H
                have c61b0 : decide (x64_2 < (l0_1.length : Int)) = true := decide_eq_true c61
                clear c61
                by_cases c62 : 0 ≤ x64_2
                · rw [if_pos c62] at H
                  have c62b0 : decide (0 ≤ x64_2) = true := decide_eq_true c62
                  clear c62
                  by_cases c63 : x64_2 < (l0_1.length : Int)
                  · rw [if_pos c63] at H
                    have c63b0 : decide (x64_2 < (l0_1.length : Int)) = true := decide_eq_true c63
                    clear c63
                    by_cases c64 : ((iY l0_1 x64_2).f0) < a3
                    · rw [if_pos c64] at H
                      have c64b0 : decide (((iY l0_1 x64_2).f0) < a3) = true := decide_eq_true c64
                      clear c64
                      by_cases c65 : x14_2.length < 8796093022208
                      · rw [if_pos c65] at H
                        have LMc65 := iC.mk c65
                        clear c65
                        obtain ⟨y300, hy300⟩ : ∃ y_ : List (S96), y_ = (x14_2 ++ [(⟨(iY l0_1 x64_2).f0, (iY l0_1 x64_2).f1⟩ : S96)]) := ⟨_, rfl⟩
                        replace H : (spans_Split.l0 k2 a1 a3 a4 a5 y300 l0_1 (l0_1.length : Int) (wrap64 (x64_2 + 1)) a0_0 l0_1) = some (r1, r2, r3) := by first | (rw [hy300]; with_reducible exact H) | (have H2_ := (Option.bind_some _ _).symm.trans H; rw [hy300]; with_reducible exact H2_) | (have H2_ := (Option.bind_some _ _).symm.trans H; with_reducible exact H2_) | with_reducible exact H | (rw [hy300]; exact H) | exact H
                        have Ny300 := iC.mk hy300
                        clear hy300
                        have H' := iC.mk H
                        clear H
                        have p298 : 0 ≤ (x64_2 : Int) := of_decide_eq_true asm_
                        have q298 : x64_2 < (l0_1.length : Int) := of_decide_eq_true asm_
                        obtain ⟨ad298, e298, hx298_0, hx298_1⟩ := jL HR0_1.out x64_2 p298 q298
                        cases e298
                        replace hx298_0 := (HB.out.cell (World.block_lt_of_cell? w _ hx298_0)).trans hx298_0
                        replace hx298_1 := (HB.out.cell (World.block_lt_of_cell? w _ hx298_1)).trans hx298_1
                        replace p298 := eq_true p298
                        replace q298 := eq_true q298
                        go_wp2_with (first | ((with_reducible refine jF (N := 16) rfl ?_); (try (refine jB (by rfl) ?_; dsimp only)); refine jD ?hg (N := 16) ?hd (cs := #[.int .i64 0, .int .i64 0]) (t := 96) ?hr ?_; (case hd => rfl); (case hg => rfl); (case hr => first | (go_simp; done) | (go_simp; rfl)); intro gb299 hg w66 hbox hb; have n0_ := iC.mk (Kd.R_below (Kd.R_elderB (by (with_reducible repeat (first | apply Kd.R_alloc | apply Kd.R_drewN | apply Kd.R_drew)); exact HO_14.out) gb299 (Nat.le_of_eq hg.symm)) hb); have n1_ := iC.mk (iP (g := gb288) (o := .cells #[.int .u32 a0_0, .slice (some ad298) l0_1.length c0_1] 42 (0, 0)) (bk_ BK288.out) hb); have n2_ := iC.mk (iP (g := gb289) (o := .cells #[.int .u32 0, .slice none 0 0] 42 (0, 0)) (bk_ BK289.out) hb); have n3_ := iC.mk (iM (by repeat (first | (with_reducible first | exact HB.out | apply iG | apply iD | apply iF | refine iE ?_ GE288.out | refine iE ?_ GE289.out) | exact HB.out)) hb); have n4_ := iC.mk (hbox); have n5_ := iC.mk ((by rw [hg]; exact (iJ (by repeat (first | (with_reducible first | exact HB.out | apply iG | apply iD | apply iF | refine iE ?_ GE288.out | refine iE ?_ GE289.out) | exact HB.out))) : w.heap.size ≤ gb299)); have n6_ := iC.mk ((by rw [hg]; exact (iJ (by repeat (first | (with_reducible first | exact HB.out | apply iG | apply iD | apply iF | refine iE ?_ GE288.out | refine iE ?_ GE289.out) | exact HB.out))) : w.heap.size ≤ gb299)); have n7_ := iC.mk ((by rw [hg]; exact Nat.ne_of_lt (jE (g := gb288) (o := .cells #[.int .u32 a0_0, .slice (some ad298) l0_1.length c0_1] 42 (0, 0)) (bk_ BK288.out)) : gb288 ≠ gb299)); have n8_ := iC.mk ((by rw [hg]; exact Nat.ne_of_gt (jE (g := gb288) (o := .cells #[.int .u32 a0_0, .slice (some ad298) l0_1.length c0_1] 42 (0, 0)) (bk_ BK288.out)) : gb299 ≠ gb288)); have n9_ := iC.mk ((by rw [hg]; exact Nat.ne_of_lt (jE (g := gb289) (o := .cells #[.int .u32 0, .slice none 0 0] 42 (0, 0)) (bk_ BK289.out)) : gb289 ≠ gb299)); have n10_ := iC.mk ((by rw [hg]; exact Nat.ne_of_gt (jE (g := gb289) (o := .cells #[.int .u32 0, .slice none 0 0] 42 (0, 0)) (bk_ BK289.out)) : gb299 ≠ gb289)); clear HO_14; clear BK288; clear BK289; clear HB; have HO_14 := n0_; have BK288 := n1_; have BK289 := n2_; have HB := n3_; have BK299 := n4_; have GW299 := n5_; have GE299 := n6_; have NB288_299 := n7_; have NB299_288 := n8_; have NB289_299 := n9_; have NB299_289 := n10_; clear n0_ n1_ n2_ n3_ n4_ n5_ n6_ n7_ n8_ n9_ n10_; clear hb hbox hg; have hnb67 := NB299_288.out; have hnc67 := NB288_299.out; have hnb68 := NB299_289.out; have hnc68 := NB289_299.out; have hcz69_0 : w66.cell? ⟨gb299, 0, none⟩ = some (.int .i64 0) := (iH BK299.out 0).trans rfl; have hcz69_1 : w66.cell? ⟨gb299, 1, none⟩ = some (.int .i64 0) := (iH BK299.out 1).trans rfl; have hfz69_0 := iI BK299.out 0; have hfz69_1 := iI BK299.out 1) | ((with_reducible refine jR (b := .append) (xs := #[.tmp 72, .tmp 74]) rfl ?_); (try (refine jB (by rfl) ?_; dsimp only)); at_builtin; refine Kd.R_append k96 (w0 := w) w.heap.size rfl (.tmp 72) (.tmp 74) 40 96 (.agg #[(.int .i64 0), (.int .i64 0)]) 16 rfl Try.underlying40 mY rfl (by decide) (by omega) u14 x14_2 (⟨(iY l0_1 x64_2).f0, (iY l0_1 x64_2).f1⟩ : S96) [.int .i64 ((iY l0_1 x64_2).f0), .int .i64 ((iY l0_1 x64_2).f1)] (fun k_ => k_ ≠ gb299) (fun _ => False) rfl (by first | (go_simp; done) | (go_simp; rfl)) ?aP (fun _ hk => hk.elim) ?aF ?aO ?aB ?aS ?aL ?_; (case aP => exact kT _ _ _ (⟨(iY l0_1 x64_2).f0, (iY l0_1 x64_2).f1⟩ : S96)); (case aB => exact (by repeat (first | (with_reducible first | exact HB.out | apply iG | apply iD | apply iF | refine iE ?_ GE288.out | refine iE ?_ GE289.out | refine iE ?_ GE299.out) | exact HB.out))); (case aF => exact (fun k_ hk => Kd.freshB (g := gb299) (o := .cells #[.int .i64 ((iY l0_1 x64_2).f0), .int .i64 ((iY l0_1 x64_2).f1)] 96 (0, 0)) (by (with_reducible repeat (first | refine iL ?_ _ | refine iO ?_ | refine iK ?_ _)); refine jC (cs := #[.int .i64 ((iY l0_1 x64_2).f0), .int .i64 0]) ?_ 1 _ rfl; (with_reducible repeat (first | refine iL ?_ _ | refine iO ?_ | refine iK ?_ _)); refine jC (cs := #[.int .i64 0, .int .i64 0]) ?_ 0 _ rfl; (with_reducible repeat (first | refine iL ?_ _ | refine iO ?_ | refine iK ?_ _)); exact BK299.out) k_ hk)); (case aO => exact (by (with_reducible repeat (first | apply Kd.R_alloc | apply Kd.R_drewN | apply Kd.R_drew)); exact Kd.R_mono (Kd.R_far (p := ⟨gb299, 1, none⟩) (Kd.R_far (p := ⟨gb299, 0, none⟩) (Kd.R_mono HO_14.out (fun k_ hk => (⟨hk, hk.2⟩ : _ ∧ k_ ≠ gb299))) (fun _ hk => hk.2) (.int .i64 ((iY l0_1 x64_2).f0))) (fun _ hk => hk.2) (.int .i64 ((iY l0_1 x64_2).f1))) (fun _ hk => hk.1.2))); (case aS => exact (iJ (by repeat (first | (with_reducible first | exact HB.out | apply iG | apply iD | apply iF | refine iE ?_ GE288.out | refine iE ?_ GE289.out | refine iE ?_ GE299.out) | exact HB.out)))); (case aL => have := LMc65.out; omega); intro v301 w70 ho hb hg hat; rw [← Ny300.out] at ho; have n0_ := iC.mk (jM (g := gb288) (o := .cells #[.int .u32 a0_0, .slice (some ad298) l0_1.length c0_1] 42 (0, 0)) (by (with_reducible repeat (first | refine iL ?_ _ | refine iO ?_ | refine iK ?_ _)); refine jI ?_ NB288_299.out _; (with_reducible repeat (first | refine iL ?_ _ | refine iO ?_ | refine iK ?_ _)); refine jI ?_ NB288_299.out _; (with_reducible repeat (first | refine iL ?_ _ | refine iO ?_ | refine iK ?_ _)); exact BK288.out) hg (Kd.R_ne HO_14.out BK288.out (by decide))); have n1_ := iC.mk (jM (g := gb289) (o := .cells #[.int .u32 0, .slice none 0 0] 42 (0, 0)) (by (with_reducible repeat (first | refine iL ?_ _ | refine iO ?_ | refine iK ?_ _)); refine jI ?_ NB289_299.out _; (with_reducible repeat (first | refine iL ?_ _ | refine iO ?_ | refine iK ?_ _)); refine jI ?_ NB289_299.out _; (with_reducible repeat (first | refine iL ?_ _ | refine iO ?_ | refine iK ?_ _)); exact BK289.out) hg (Kd.R_ne HO_14.out BK289.out (by decide))); have n2_ := iC.mk (jM (g := gb299) (o := .cells #[.int .i64 ((iY l0_1 x64_2).f0), .int .i64 ((iY l0_1 x64_2).f1)] 96 (0, 0)) (by (with_reducible repeat (first | refine iL ?_ _ | refine iO ?_ | refine iK ?_ _)); refine jC (cs := #[.int .i64 ((iY l0_1 x64_2).f0), .int .i64 0]) ?_ 1 _ rfl; (with_reducible repeat (first | refine iL ?_ _ | refine iO ?_ | refine iK ?_ _)); refine jC (cs := #[.int .i64 0, .int .i64 0]) ?_ 0 _ rfl; (with_reducible repeat (first | refine iL ?_ _ | refine iO ?_ | refine iK ?_ _)); exact BK299.out) hg (Kd.R_away HO_14.out (fun _ hk => hk.2))); have n3_ := iC.mk (hb); have n4_ := iC.mk (ho); clear BK288; clear BK289; clear BK299; clear HB; clear HO_14; have BK288 := n0_; have BK289 := n1_; have BK299 := n2_; have HB := n3_; have HO302 := n4_; clear n0_ n1_ n2_ n3_ n4_; clear ho hb hg hat))
                        go_roundg k2
                        case measure => have := HJ6.out; have := HK2.out; omega
                        case rel => exact ⟨(y300), (wrap64 (x64_2 + 1)), (by first | rfl | (simp; done) | (simp [*]; done)), H', ⟨by have := HJ6.out; have := HK2.out; omega⟩, ⟨by (with_reducible repeat (first | apply Kd.R_alloc | apply Kd.R_drewN | apply Kd.R_drew)); exact Kd.R_mono HO302.out (fun _ hk => trivial)⟩, ⟨bk_ BK288.out⟩, ⟨bk_ BK289.out⟩, ⟨by repeat (first | (with_reducible first | exact HB.out | apply iG | apply iD | apply iF | refine iE ?_ GE288.out | refine iE ?_ GE289.out | refine iE ?_ GE299.out) | exact HB.out)⟩⟩
                      · rw [if_neg c65] at H
                        exact absurd H (by simp)
                    · rw [if_neg c64] at H
                      have c64b0 : decide (((iY l0_1 x64_2).f0) < a3) = false := decide_eq_false c64
                      clear c64
                      have H' := iC.mk H
                      clear H
                      have p298 : 0 ≤ (x64_2 : Int) := of_decide_eq_true asm_
                      have q298 : x64_2 < (l0_1.length : Int) := of_decide_eq_true asm_
                      obtain ⟨ad298, e298, hx298_0, hx298_1⟩ := jL HR0_1.out x64_2 p298 q298
                      cases e298
                      replace hx298_0 := (HB.out.cell (World.block_lt_of_cell? w _ hx298_0)).trans hx298_0
                      replace hx298_1 := (HB.out.cell (World.block_lt_of_cell? w _ hx298_1)).trans hx298_1
                      replace p298 := eq_true p298
                      replace q298 := eq_true q298
                      go_wp2_with (first | ((with_reducible refine jF (N := 16) rfl ?_); (try (refine jB (by rfl) ?_; dsimp only)); refine jD ?hg (N := 16) ?hd (cs := #[.int .i64 0, .int .i64 0]) (t := 96) ?hr ?_; (case hd => rfl); (case hg => rfl); (case hr => first | (go_simp; done) | (go_simp; rfl)); intro gb299 hg w71 hbox hb; have n0_ := iC.mk (Kd.R_below (Kd.R_elderB (by (with_reducible repeat (first | apply Kd.R_alloc | apply Kd.R_drewN | apply Kd.R_drew)); exact HO_14.out) gb299 (Nat.le_of_eq hg.symm)) hb); have n1_ := iC.mk (iP (g := gb288) (o := .cells #[.int .u32 a0_0, .slice (some ad298) l0_1.length c0_1] 42 (0, 0)) (bk_ BK288.out) hb); have n2_ := iC.mk (iP (g := gb289) (o := .cells #[.int .u32 0, .slice none 0 0] 42 (0, 0)) (bk_ BK289.out) hb); have n3_ := iC.mk (iM (by repeat (first | (with_reducible first | exact HB.out | apply iG | apply iD | apply iF | refine iE ?_ GE288.out | refine iE ?_ GE289.out) | exact HB.out)) hb); have n4_ := iC.mk (hbox); have n5_ := iC.mk ((by rw [hg]; exact (iJ (by repeat (first | (with_reducible first | exact HB.out | apply iG | apply iD | apply iF | refine iE ?_ GE288.out | refine iE ?_ GE289.out) | exact HB.out))) : w.heap.size ≤ gb299)); have n6_ := iC.mk ((by rw [hg]; exact (iJ (by repeat (first | (with_reducible first | exact HB.out | apply iG | apply iD | apply iF | refine iE ?_ GE288.out | refine iE ?_ GE289.out) | exact HB.out))) : w.heap.size ≤ gb299)); have n7_ := iC.mk ((by rw [hg]; exact Nat.ne_of_lt (jE (g := gb288) (o := .cells #[.int .u32 a0_0, .slice (some ad298) l0_1.length c0_1] 42 (0, 0)) (bk_ BK288.out)) : gb288 ≠ gb299)); have n8_ := iC.mk ((by rw [hg]; exact Nat.ne_of_gt (jE (g := gb288) (o := .cells #[.int .u32 a0_0, .slice (some ad298) l0_1.length c0_1] 42 (0, 0)) (bk_ BK288.out)) : gb299 ≠ gb288)); have n9_ := iC.mk ((by rw [hg]; exact Nat.ne_of_lt (jE (g := gb289) (o := .cells #[.int .u32 0, .slice none 0 0] 42 (0, 0)) (bk_ BK289.out)) : gb289 ≠ gb299)); have n10_ := iC.mk ((by rw [hg]; exact Nat.ne_of_gt (jE (g := gb289) (o := .cells #[.int .u32 0, .slice none 0 0] 42 (0, 0)) (bk_ BK289.out)) : gb299 ≠ gb289)); clear HO_14; clear BK288; clear BK289; clear HB; have HO_14 := n0_; have BK288 := n1_; have BK289 := n2_; have HB := n3_; have BK299 := n4_; have GW299 := n5_; have GE299 := n6_; have NB288_299 := n7_; have NB299_288 := n8_; have NB289_299 := n9_; have NB299_289 := n10_; clear n0_ n1_ n2_ n3_ n4_ n5_ n6_ n7_ n8_ n9_ n10_; clear hb hbox hg; have hnb72 := NB299_288.out; have hnc72 := NB288_299.out; have hnb73 := NB299_289.out; have hnc73 := NB289_299.out; have hcz74_0 : w71.cell? ⟨gb299, 0, none⟩ = some (.int .i64 0) := (iH BK299.out 0).trans rfl; have hcz74_1 : w71.cell? ⟨gb299, 1, none⟩ = some (.int .i64 0) := (iH BK299.out 1).trans rfl; have hfz74_0 := iI BK299.out 0; have hfz74_1 := iI BK299.out 1))
                      go_roundg k2
                      case measure => have := HJ6.out; have := HK2.out; omega
                      case rel => exact ⟨(x14_2), (wrap64 (x64_2 + 1)), (by first | rfl | (simp; done) | (simp [*]; done)), H', ⟨by have := HJ6.out; have := HK2.out; omega⟩, ⟨by (with_reducible repeat (first | apply Kd.R_alloc | apply Kd.R_drewN | apply Kd.R_drew)); exact Kd.R_mono (Kd.R_far (p := ⟨gb299, 1, none⟩) (Kd.R_far (p := ⟨gb299, 0, none⟩) (Kd.R_mono HO_14.out (fun k_ hk => (⟨hk, hk.2⟩ : _ ∧ k_ ≠ gb299))) (fun _ hk => hk.2) (.int .i64 ((iY l0_1 x64_2).f0))) (fun _ hk => hk.2) (.int .i64 ((iY l0_1 x64_2).f1))) (fun _ hk => trivial)⟩, ⟨by (with_reducible repeat (first | refine iL ?_ _ | refine iO ?_ | refine iK ?_ _)); refine jI ?_ NB288_299.out _; (with_reducible repeat (first | refine iL ?_ _ | refine iO ?_ | refine iK ?_ _)); refine jI ?_ NB288_299.out _; (with_reducible repeat (first | refine iL ?_ _ | refine iO ?_ | refine iK ?_ _)); exact BK288.out⟩, ⟨by (with_reducible repeat (first | refine iL ?_ _ | refine iO ?_ | refine iK ?_ _)); refine jI ?_ NB289_299.out _; (with_reducible repeat (first | refine iL ?_ _ | refine iO ?_ | refine iK ?_ _)); refine jI ?_ NB289_299.out _; (with_reducible repeat (first | refine iL ?_ _ | refine iO ?_ | refine iK ?_ _)); exact BK289.out⟩, ⟨by repeat (first | (with_reducible first | exact HB.out | apply iG | apply iD | apply iF | refine iE ?_ GE288.out | refine iE ?_ GE289.out | refine iE ?_ GE299.out) | exact HB.out)⟩⟩
                  · rw [if_neg c63] at H
                    exact absurd H (by simp)
                · rw [if_neg c62] at H
                  exact absurd H (by simp)
              · rw [if_neg c61] at H
                have c61b0 : decide (x64_2 < (l0_1.length : Int)) = false := decide_eq_false c61
                clear c61
                by_cases c75 : x14_2.length < 8796093022208
                · rw [if_pos c75] at H
                  have LMc75 := iC.mk c75
                  clear c75
                  obtain ⟨y303, hy303⟩ : ∃ y_ : List (S96), y_ = (x14_2 ++ [(⟨a3, a5⟩ : S96)]) := ⟨_, rfl⟩
                  replace H : (if a4 < a1 then ((spans_Find.f a0_0 l0_1 a4).bind fun t306 => (if y303.length < 8796093022208 then (spans_Split.j2 k2 a4 (y303 ++ [(⟨a4, t306⟩ : S96)]) a0_0 l0_1) else (none))) else (spans_Split.j2 k2 a4 y303 a0_0 l0_1)) = some (r1, r2, r3) := by first | (rw [hy303]; with_reducible exact H) | (have H2_ := (Option.bind_some _ _).symm.trans H; rw [hy303]; with_reducible exact H2_) | (have H2_ := (Option.bind_some _ _).symm.trans H; with_reducible exact H2_) | with_reducible exact H | (rw [hy303]; exact H) | exact H
                  have Ny303 := iC.mk hy303
                  clear hy303
                  have HC76 := iC.mk H
                  clear H
                  go_upto_if 85 with (first | ((with_reducible refine jR (b := .append) (xs := #[.tmp 77, .tmp 81]) rfl ?_); (try (refine jB (by rfl) ?_; dsimp only)); at_builtin; refine Kd.R_append k96 (w0 := w) w.heap.size rfl (.tmp 77) (.tmp 81) 40 96 (.agg #[(.int .i64 0), (.int .i64 0)]) 16 rfl Try.underlying40 mY rfl (by decide) (by omega) u14 x14_2 (⟨a3, a5⟩ : S96) [.int .i64 a3, .int .i64 a5] (fun _ => True) (fun _ => False) rfl rfl ?aP (fun _ hk => hk.elim) ?aF ?aO ?aB ?aS ?aL ?_; (case aP => exact kT _ _ _ (⟨a3, a5⟩ : S96)); (case aB => exact (by repeat (first | (with_reducible first | exact HB.out | apply iG | apply iD | apply iF | refine iE ?_ GE288.out | refine iE ?_ GE289.out) | exact HB.out))); (case aF => exact (fun _ _ => trivial)); (case aO => exact (by (with_reducible repeat (first | apply Kd.R_alloc | apply Kd.R_drewN | apply Kd.R_drew)); exact HO_14.out)); (case aS => exact (iJ (by repeat (first | (with_reducible first | exact HB.out | apply iG | apply iD | apply iF | refine iE ?_ GE288.out | refine iE ?_ GE289.out) | exact HB.out)))); (case aL => have := LMc75.out; omega); intro v304 w77 ho hb hg hat; rw [← Ny303.out] at ho; have n0_ := iC.mk (jM (g := gb288) (o := .cells #[.int .u32 a0_0, .slice A0_1 l0_1.length c0_1] 42 (0, 0)) (bk_ BK288.out) hg (Kd.R_ne HO_14.out BK288.out (by decide))); have n1_ := iC.mk (jM (g := gb289) (o := .cells #[.int .u32 0, .slice none 0 0] 42 (0, 0)) (bk_ BK289.out) hg (Kd.R_ne HO_14.out BK289.out (by decide))); have n2_ := iC.mk (hb); have n3_ := iC.mk (ho); clear BK288; clear BK289; clear HB; clear HO_14; have BK288 := n0_; have BK289 := n1_; have HB := n2_; have HO305 := n3_; clear n0_ n1_ n2_ n3_; clear ho hb hg hat))
                  (try simp only [Act.put, List.setIfInBounds_toArray, List.set_cons_zero, List.set_cons_succ])
                  go_cut [14] (fun v14 wc => ∃ (kq : Nat) (x14_75 : List (S96)), iC (spans_Split.j2 kq a4 x14_75 a0_0 l0_1 = some (r1, r2, r3)) ∧ iC (kq ≤ k2) ∧ iC (Kd.R k96 96 wc w.heap.size (fun _ => True) v14 x14_75) ∧ iC (wc.heap[gb288]? = some (.cells #[.int .u32 a0_0, (.slice A0_1 l0_1.length c0_1)] 42 (0, 0))) ∧ iC (wc.heap[gb289]? = some (.cells #[.int .u32 0, (.slice none 0 0)] 42 (0, 0))) ∧ iC (Below w.heap.size w wc))
                  case first =>
                    have H := HC76.out
                    clear HC76
                    by_cases c78 : a4 < a1
                    · rw [if_pos c78] at H
                      have c78b0 : decide (a4 < a1) = true := decide_eq_true c78
                      clear c78
                      (first | rw [c78b0] | (simp only [iR, iT]; rw [c78b0]) | skip)
                      replace H := Option.bind_eq_some_iff.mp H
                      obtain ⟨t306, A790, H⟩ := H
                      replace H : (if y303.length < 8796093022208 then (spans_Split.j2 k2 a4 (y303 ++ [(⟨a4, t306⟩ : S96)]) a0_0 l0_1) else (none)) = some (r1, r2, r3) := H
                      have A79 := iC.mk A790
                      clear A790
                      by_cases c80 : y303.length < 8796093022208
                      · rw [if_pos c80] at H
                        have LMc80 := iC.mk c80
                        clear c80
                        obtain ⟨y307, hy307⟩ : ∃ y_ : List (S96), y_ = (y303 ++ [(⟨a4, t306⟩ : S96)]) := ⟨_, rfl⟩
                        replace H : (spans_Split.j2 k2 a4 y307 a0_0 l0_1) = some (r1, r2, r3) := by first | (rw [hy307]; with_reducible exact H) | (have H2_ := (Option.bind_some _ _).symm.trans H; rw [hy307]; with_reducible exact H2_) | (have H2_ := (Option.bind_some _ _).symm.trans H; with_reducible exact H2_) | with_reducible exact H | (rw [hy307]; exact H) | exact H
                        have Ny307 := iC.mk hy307
                        clear hy307
                        have H' := iC.mk H
                        clear H
                        have hnb81 := NB288_289.out
                        have hnc81 := NB289_288.out
                        have hcz82_0 : w77.cell? ⟨gb288, 0, none⟩ = some (.int .u32 a0_0) := (iH BK288.out 0).trans rfl
                        have hcz82_1 : w77.cell? ⟨gb288, 1, none⟩ = some (.slice A0_1 l0_1.length c0_1) := (iH BK288.out 1).trans rfl
                        have hfz82_0 := iI BK288.out 0
                        have hfz82_1 := iI BK288.out 1
                        go_wp2_with (first | ((with_reducible refine iZ (f := 51) rfl ?_); refine jJ (some 90) rfl rfl Try.func51 (by kernel_rfl) rfl #[.agg #[.int .u32 a0_0, .slice A0_1 l0_1.length c0_1], .int .i64 a4] rfl (by (try simp only [List.map_toArray, List.map_cons, List.map_nil]); first | done | rfl | (simp only [List.length_drop, List.length_take]; rfl)) ?_; (with_reducible refine (spans_Find.calls a0_0 _ _ l0_1 a4 t306 _ ?side1 ?side2 A79.out).mono ?_); (case side1 => repeat (first | exact (Kd.C_below HR0_1.out HB.out) | (with_reducible refine Kd.C_alloc ?_ _) | (with_reducible refine Kd.C_drewN ?_ _) | (with_reducible refine Kd.C_drew ?_))); (case side2 => exact HC0_1.out); rintro e w83 ⟨rfl, hb⟩; refine ⟨_, rfl, ?_⟩; have n0_ := iC.mk (Kd.R_below (by (with_reducible repeat (first | apply Kd.R_alloc | apply Kd.R_drewN | apply Kd.R_drew)); exact HO305.out) hb); have n1_ := iC.mk (iP (g := gb288) (o := .cells #[.int .u32 a0_0, .slice A0_1 l0_1.length c0_1] 42 (0, 0)) (bk_ BK288.out) hb); have n2_ := iC.mk (iP (g := gb289) (o := .cells #[.int .u32 0, .slice none 0 0] 42 (0, 0)) (bk_ BK289.out) hb); have n3_ := iC.mk (iM (by repeat (first | (with_reducible first | exact HB.out | apply iG | apply iD | apply iF | refine iE ?_ GE288.out | refine iE ?_ GE289.out) | exact HB.out)) hb); clear HO305; clear BK288; clear BK289; clear HB; have HO305 := n0_; have BK288 := n1_; have BK289 := n2_; have HB := n3_; clear n0_ n1_ n2_ n3_; (try clear hb); (try clear hb2); (try clear hk); (try clear hi)) | ((with_reducible refine jR (b := .append) (xs := #[.tmp 86, .tmp 92]) rfl ?_); (try (refine jB (by rfl) ?_; dsimp only)); at_builtin; refine Kd.R_append k96 (w0 := w) w.heap.size rfl (.tmp 86) (.tmp 92) 40 96 (.agg #[(.int .i64 0), (.int .i64 0)]) 16 rfl Try.underlying40 mY rfl (by decide) (by omega) v304 y303 (⟨a4, t306⟩ : S96) [.int .i64 a4, .int .i64 t306] (fun _ => True) (fun _ => False) rfl rfl ?aP (fun _ hk => hk.elim) ?aF ?aO ?aB ?aS ?aL ?_; (case aP => exact kT _ _ _ (⟨a4, t306⟩ : S96)); (case aB => exact (by repeat (first | (with_reducible first | exact HB.out | apply iG | apply iD | apply iF | refine iE ?_ GE288.out | refine iE ?_ GE289.out) | exact HB.out))); (case aF => exact (fun _ _ => trivial)); (case aO => exact (by (with_reducible repeat (first | apply Kd.R_alloc | apply Kd.R_drewN | apply Kd.R_drew)); exact HO305.out)); (case aS => exact (iJ (by repeat (first | (with_reducible first | exact HB.out | apply iG | apply iD | apply iF | refine iE ?_ GE288.out | refine iE ?_ GE289.out) | exact HB.out)))); (case aL => have := LMc80.out; omega); intro v308 w84 ho hb hg hat; rw [← Ny307.out] at ho; have n0_ := iC.mk (jM (g := gb288) (o := .cells #[.int .u32 a0_0, .slice A0_1 l0_1.length c0_1] 42 (0, 0)) (bk_ BK288.out) hg (Kd.R_ne HO305.out BK288.out (by decide))); have n1_ := iC.mk (jM (g := gb289) (o := .cells #[.int .u32 0, .slice none 0 0] 42 (0, 0)) (bk_ BK289.out) hg (Kd.R_ne HO305.out BK289.out (by decide))); have n2_ := iC.mk (hb); have n3_ := iC.mk (ho); clear BK288; clear BK289; clear HB; clear HO305; have BK288 := n0_; have BK289 := n1_; have HB := n2_; have HO309 := n3_; clear n0_ n1_ n2_ n3_; clear ho hb hg hat))
                        go_meet
                        case rel => exact ⟨_, (y307), H', ⟨by have := HJ6.out; have := HK2.out; first | omega | exact Nat.le_refl _⟩, ⟨by (with_reducible repeat (first | apply Kd.R_alloc | apply Kd.R_drewN | apply Kd.R_drew)); exact HO309.out⟩, ⟨bk_ BK288.out⟩, ⟨bk_ BK289.out⟩, ⟨by repeat (first | (with_reducible first | exact HB.out | apply iG | apply iD | apply iF | refine iE ?_ GE288.out | refine iE ?_ GE289.out) | exact HB.out)⟩⟩
                      · rw [if_neg c80] at H
                        exact absurd H (by simp)
                    · rw [if_neg c78] at H
                      have c78b0 : decide (a4 < a1) = false := decide_eq_false c78
                      clear c78
                      (first | rw [c78b0] | (simp only [iR, iT]; rw [c78b0]) | skip)
                      have H' := iC.mk H
                      clear H
                      go_wp2
                      go_meet
                      case rel => exact ⟨_, (y303), H', ⟨by have := HJ6.out; have := HK2.out; first | omega | exact Nat.le_refl _⟩, ⟨by (with_reducible repeat (first | apply Kd.R_alloc | apply Kd.R_drewN | apply Kd.R_drew)); exact HO305.out⟩, ⟨bk_ BK288.out⟩, ⟨bk_ BK289.out⟩, ⟨by repeat (first | (with_reducible first | exact HB.out | apply iG | apply iD | apply iF | refine iE ?_ GE288.out | refine iE ?_ GE289.out) | exact HB.out)⟩⟩
                  case rest =>
                    clear HC76
                    try clear c1
                    try clear c2
                    try clear p2
                    try clear q2
                    try clear hx2
                    try clear c3
                    try clear c4
                    try clear c5
                    try clear c6
                    try clear p6
                    try clear c7
                    try clear c8
                    try clear c11
                    try clear c12
                    try clear c12b0
                    try clear c13
                    try clear c16
                    try clear c16b0
                    try clear c17
                    try clear c20
                    try clear c20b0
                    try clear c21
                    try clear c24
                    try clear c24b0
                    try clear c25
                    try clear c26
                    try clear c28
                    try clear c28b0
                    try clear c29
                    try clear p29
                    try clear q29
                    try clear hx29
                    try clear c33
                    try clear c36
                    try clear c39
                    try clear c40
                    try clear c44
                    try clear c45
                    try clear c50
                    try clear c51
                    try clear c52
                    try clear c53
                    try clear c61
                    try clear c61b0
                    try clear c62
                    try clear c62b0
                    try clear c63
                    try clear c63b0
                    try clear c64
                    try clear c64b0
                    try clear p64
                    try clear c65
                    try clear c67
                    try clear c68
                    try clear c72
                    try clear c73
                    try clear c75
                    try clear c78
                    try clear c78b0
                    try clear c80
                    try clear c81
                    try clear hcz14_0
                    try clear hcz14_1
                    try clear hcz18_0
                    try clear hcz18_1
                    try clear hcz22_0
                    try clear hcz22_1
                    try clear hcz26_0
                    try clear hcz26_1
                    try clear hcz30_0
                    try clear hcz30_1
                    try clear hcz34_0
                    try clear hcz34_1
                    try clear hcz37_0
                    try clear hcz37_1
                    try clear hcz41_0
                    try clear hcz41_1
                    try clear hcz46_0
                    try clear hcz46_1
                    try clear hcz52_0
                    try clear hcz52_1
                    try clear hcz54_0
                    try clear hcz54_1
                    try clear hcz60_0
                    try clear hcz60_1
                    try clear hcz69_0
                    try clear hcz69_1
                    try clear hcz74_0
                    try clear hcz74_1
                    try clear hcz82_0
                    try clear hcz82_1
                    try clear hfz14_0
                    try clear hfz14_1
                    try clear hfz18_0
                    try clear hfz18_1
                    try clear hfz22_0
                    try clear hfz22_1
                    try clear hfz26_0
                    try clear hfz26_1
                    try clear hfz30_0
                    try clear hfz30_1
                    try clear hfz34_0
                    try clear hfz34_1
                    try clear hfz37_0
                    try clear hfz37_1
                    try clear hfz41_0
                    try clear hfz41_1
                    try clear hfz46_0
                    try clear hfz46_1
                    try clear hfz52_0
                    try clear hfz52_1
                    try clear hfz54_0
                    try clear hfz54_1
                    try clear hfz60_0
                    try clear hfz60_1
                    try clear hfz69_0
                    try clear hfz69_1
                    try clear hfz74_0
                    try clear hfz74_1
                    try clear hfz82_0
                    try clear hfz82_1
                    try clear hx298_0
                    try clear hx298_1
                    try clear p2
                    try clear p298
                    try clear q298
                    obtain ⟨kq, x14_75, HA, HJ75, HO_14, BK288, BK289, HB⟩ := hcut
                    cases kq with
                    | zero => exact absurd HA.out (by simp [spans_Split.j2])
                    | succ kj75 =>
                      have H := HA.out
                      clear HA
                      simp only [spans_Split.j2] at H
                      have H' := iC.mk H
                      clear H
                      have hnb85 := NB288_289.out
                      have hnc85 := NB289_288.out
                      have hcz86_0 : wc.cell? ⟨gb288, 0, none⟩ = some (.int .u32 a0_0) := (iH BK288.out 0).trans rfl
                      have hcz86_1 : wc.cell? ⟨gb288, 1, none⟩ = some (.slice A0_1 l0_1.length c0_1) := (iH BK288.out 1).trans rfl
                      have hfz86_0 := iI BK288.out 0
                      have hfz86_1 := iI BK288.out 1
                      go_wp2
                      go_loopg [14, 97] kj75 (fun kq v14 v97 w' => ∃ (x14_4 : List (S96)) (x97_4 : Int), v97 = .int .i64 x97_4 ∧ iC (spans_Split.l1 kq a4 x14_4 l0_1 (l0_1.length : Int) x97_4 a0_0 l0_1 = some (r1, r2, r3)) ∧ iC (kq ≤ kj75) ∧ iC (Kd.R k96 96 w' w.heap.size (fun _ => True) v14 x14_4) ∧ iC (w'.heap[gb288]? = some (.cells #[.int .u32 a0_0, (.slice A0_1 l0_1.length c0_1)] 42 (0, 0))) ∧ iC (w'.heap[gb289]? = some (.cells #[.int .u32 0, (.slice none 0 0)] 42 (0, 0))) ∧ iC (Below w.heap.size w w'))
                      case atStart => exact ⟨(x14_75), (0), (by first | rfl | (simp; done) | (simp [*]; done)), H', ⟨Nat.le_refl _⟩, ⟨by (with_reducible repeat (first | apply Kd.R_alloc | apply Kd.R_drewN | apply Kd.R_drew)); exact HO_14.out⟩, ⟨bk_ BK288.out⟩, ⟨bk_ BK289.out⟩, ⟨by repeat (first | (with_reducible first | exact HB.out | apply iG | apply iD | apply iF | refine iE ?_ GE288.out | refine iE ?_ GE289.out) | exact HB.out)⟩⟩
                      case round =>
                        clear H'
                        try clear c1
                        try clear c2
                        try clear p2
                        try clear q2
                        try clear hx2
                        try clear c3
                        try clear c4
                        try clear c5
                        try clear c6
                        try clear p6
                        try clear c7
                        try clear c8
                        try clear c11
                        try clear c12
                        try clear c12b0
                        try clear c13
                        try clear c16
                        try clear c16b0
                        try clear c17
                        try clear c20
                        try clear c20b0
                        try clear c21
                        try clear c24
                        try clear c24b0
                        try clear c25
                        try clear c26
                        try clear c28
                        try clear c28b0
                        try clear c29
                        try clear p29
                        try clear q29
                        try clear hx29
                        try clear c33
                        try clear c36
                        try clear c39
                        try clear c40
                        try clear c44
                        try clear c45
                        try clear c50
                        try clear c51
                        try clear c52
                        try clear c53
                        try clear c61
                        try clear c61b0
                        try clear c62
                        try clear c62b0
                        try clear c63
                        try clear c63b0
                        try clear c64
                        try clear c64b0
                        try clear p64
                        try clear c65
                        try clear c67
                        try clear c68
                        try clear c72
                        try clear c73
                        try clear c75
                        try clear c78
                        try clear c78b0
                        try clear c80
                        try clear c81
                        try clear c85
                        try clear hcz14_0
                        try clear hcz14_1
                        try clear hcz18_0
                        try clear hcz18_1
                        try clear hcz22_0
                        try clear hcz22_1
                        try clear hcz26_0
                        try clear hcz26_1
                        try clear hcz30_0
                        try clear hcz30_1
                        try clear hcz34_0
                        try clear hcz34_1
                        try clear hcz37_0
                        try clear hcz37_1
                        try clear hcz41_0
                        try clear hcz41_1
                        try clear hcz46_0
                        try clear hcz46_1
                        try clear hcz52_0
                        try clear hcz52_1
                        try clear hcz54_0
                        try clear hcz54_1
                        try clear hcz60_0
                        try clear hcz60_1
                        try clear hcz69_0
                        try clear hcz69_1
                        try clear hcz74_0
                        try clear hcz74_1
                        try clear hcz82_0
                        try clear hcz82_1
                        try clear hcz86_0
                        try clear hcz86_1
                        try clear hfz14_0
                        try clear hfz14_1
                        try clear hfz18_0
                        try clear hfz18_1
                        try clear hfz22_0
                        try clear hfz22_1
                        try clear hfz26_0
                        try clear hfz26_1
                        try clear hfz30_0
                        try clear hfz30_1
                        try clear hfz34_0
                        try clear hfz34_1
                        try clear hfz37_0
                        try clear hfz37_1
                        try clear hfz41_0
                        try clear hfz41_1
                        try clear hfz46_0
                        try clear hfz46_1
                        try clear hfz52_0
                        try clear hfz52_1
                        try clear hfz54_0
                        try clear hfz54_1
                        try clear hfz60_0
                        try clear hfz60_1
                        try clear hfz69_0
                        try clear hfz69_1
                        try clear hfz74_0
                        try clear hfz74_1
                        try clear hfz82_0
                        try clear hfz82_1
                        try clear hfz86_0
                        try clear hfz86_1
                        try clear hx298_0
                        try clear hx298_1
                        try clear p2
                        try clear p29
                        try clear p298
                        try clear p6
                        try clear p64
                        try clear q2
                        try clear q29
                        try clear q298
                        obtain ⟨x14_4, x97_4, rfl, HA, HK4, HO_14, BK288, BK289, HB⟩ := hrel
                        cases gk with
                        | zero => exact absurd HA.out (by simp [spans_Split.l1])
                        | succ k4 =>
                          have H := HA.out
                          clear HA
                          simp only [spans_Split.l1] at H
                          by_cases c87 : x97_4 < (l0_1.length : Int)
                          · rw [if_pos c87] at H
                            have c87b0 : decide (x97_4 < (l0_1.length : Int)) = true := decide_eq_true c87
                            clear c87
                            by_cases c88 : 0 ≤ x97_4
                            · rw [if_pos c88] at H
                              have c88b0 : decide (0 ≤ x97_4) = true := decide_eq_true c88
                              clear c88
                              by_cases c89 : x97_4 < (l0_1.length : Int)
                              · rw [if_pos c89] at H
                                have c89b0 : decide (x97_4 < (l0_1.length : Int)) = true := decide_eq_true c89
                                clear c89
                                by_cases c90 : ((iY l0_1 x97_4).f0) > a4
                                · rw [if_pos c90] at H
                                  have c90b0 : decide (a4 < ((iY l0_1 x97_4).f0)) = true := decide_eq_true c90
                                  clear c90
                                  by_cases c91 : x14_4.length < 8796093022208
                                  · rw [if_pos c91] at H
                                    have LMc91 := iC.mk c91
                                    clear c91
                                    obtain ⟨y312, hy312⟩ : ∃ y_ : List (S96), y_ = (x14_4 ++ [(⟨(iY l0_1 x97_4).f0, (iY l0_1 x97_4).f1⟩ : S96)]) := ⟨_, rfl⟩
                                    replace H : (spans_Split.l1 k4 a4 y312 l0_1 (l0_1.length : Int) (wrap64 (x97_4 + 1)) a0_0 l0_1) = some (r1, r2, r3) := by first | (rw [hy312]; with_reducible exact H) | (have H2_ := (Option.bind_some _ _).symm.trans H; rw [hy312]; with_reducible exact H2_) | (have H2_ := (Option.bind_some _ _).symm.trans H; with_reducible exact H2_) | with_reducible exact H | (rw [hy312]; exact H) | exact H
                                    have Ny312 := iC.mk hy312
                                    clear hy312
                                    have H' := iC.mk H
                                    clear H
                                    have p310 : 0 ≤ (x97_4 : Int) := of_decide_eq_true asm_
                                    have q310 : x97_4 < (l0_1.length : Int) := of_decide_eq_true asm_
                                    obtain ⟨ad310, e310, hx310_0, hx310_1⟩ := jL HR0_1.out x97_4 p310 q310
                                    cases e310
                                    replace hx310_0 := (HB.out.cell (World.block_lt_of_cell? w _ hx310_0)).trans hx310_0
                                    replace hx310_1 := (HB.out.cell (World.block_lt_of_cell? w _ hx310_1)).trans hx310_1
                                    replace p310 := eq_true p310
                                    replace q310 := eq_true q310
                                    go_wp2_with (first | ((with_reducible refine jF (N := 18) rfl ?_); (try (refine jB (by rfl) ?_; dsimp only)); refine jD ?hg (N := 18) ?hd (cs := #[.int .i64 0, .int .i64 0]) (t := 96) ?hr ?_; (case hd => rfl); (case hg => rfl); (case hr => first | (go_simp; done) | (go_simp; rfl)); intro gb311 hg w92 hbox hb; have n0_ := iC.mk (Kd.R_below (Kd.R_elderB (by (with_reducible repeat (first | apply Kd.R_alloc | apply Kd.R_drewN | apply Kd.R_drew)); exact HO_14.out) gb311 (Nat.le_of_eq hg.symm)) hb); have n1_ := iC.mk (iP (g := gb288) (o := .cells #[.int .u32 a0_0, .slice (some ad310) l0_1.length c0_1] 42 (0, 0)) (bk_ BK288.out) hb); have n2_ := iC.mk (iP (g := gb289) (o := .cells #[.int .u32 0, .slice none 0 0] 42 (0, 0)) (bk_ BK289.out) hb); have n3_ := iC.mk (iM (by repeat (first | (with_reducible first | exact HB.out | apply iG | apply iD | apply iF | refine iE ?_ GE288.out | refine iE ?_ GE289.out) | exact HB.out)) hb); have n4_ := iC.mk (hbox); have n5_ := iC.mk ((by rw [hg]; exact (iJ (by repeat (first | (with_reducible first | exact HB.out | apply iG | apply iD | apply iF | refine iE ?_ GE288.out | refine iE ?_ GE289.out) | exact HB.out))) : w.heap.size ≤ gb311)); have n6_ := iC.mk ((by rw [hg]; exact (iJ (by repeat (first | (with_reducible first | exact HB.out | apply iG | apply iD | apply iF | refine iE ?_ GE288.out | refine iE ?_ GE289.out) | exact HB.out))) : w.heap.size ≤ gb311)); have n7_ := iC.mk ((by rw [hg]; exact Nat.ne_of_lt (jE (g := gb288) (o := .cells #[.int .u32 a0_0, .slice (some ad310) l0_1.length c0_1] 42 (0, 0)) (bk_ BK288.out)) : gb288 ≠ gb311)); have n8_ := iC.mk ((by rw [hg]; exact Nat.ne_of_gt (jE (g := gb288) (o := .cells #[.int .u32 a0_0, .slice (some ad310) l0_1.length c0_1] 42 (0, 0)) (bk_ BK288.out)) : gb311 ≠ gb288)); have n9_ := iC.mk ((by rw [hg]; exact Nat.ne_of_lt (jE (g := gb289) (o := .cells #[.int .u32 0, .slice none 0 0] 42 (0, 0)) (bk_ BK289.out)) : gb289 ≠ gb311)); have n10_ := iC.mk ((by rw [hg]; exact Nat.ne_of_gt (jE (g := gb289) (o := .cells #[.int .u32 0, .slice none 0 0] 42 (0, 0)) (bk_ BK289.out)) : gb311 ≠ gb289)); clear HO_14; clear BK288; clear BK289; clear HB; have HO_14 := n0_; have BK288 := n1_; have BK289 := n2_; have HB := n3_; have BK311 := n4_; have GW311 := n5_; have GE311 := n6_; have NB288_311 := n7_; have NB311_288 := n8_; have NB289_311 := n9_; have NB311_289 := n10_; clear n0_ n1_ n2_ n3_ n4_ n5_ n6_ n7_ n8_ n9_ n10_; clear hb hbox hg; have hnb93 := NB311_288.out; have hnc93 := NB288_311.out; have hnb94 := NB311_289.out; have hnc94 := NB289_311.out; have hcz95_0 : w92.cell? ⟨gb311, 0, none⟩ = some (.int .i64 0) := (iH BK311.out 0).trans rfl; have hcz95_1 : w92.cell? ⟨gb311, 1, none⟩ = some (.int .i64 0) := (iH BK311.out 1).trans rfl; have hfz95_0 := iI BK311.out 0; have hfz95_1 := iI BK311.out 1) | ((with_reducible refine jR (b := .append) (xs := #[.tmp 105, .tmp 107]) rfl ?_); (try (refine jB (by rfl) ?_; dsimp only)); at_builtin; refine Kd.R_append k96 (w0 := w) w.heap.size rfl (.tmp 105) (.tmp 107) 40 96 (.agg #[(.int .i64 0), (.int .i64 0)]) 16 rfl Try.underlying40 mY rfl (by decide) (by omega) u14 x14_4 (⟨(iY l0_1 x97_4).f0, (iY l0_1 x97_4).f1⟩ : S96) [.int .i64 ((iY l0_1 x97_4).f0), .int .i64 ((iY l0_1 x97_4).f1)] (fun k_ => k_ ≠ gb311) (fun _ => False) rfl (by first | (go_simp; done) | (go_simp; rfl)) ?aP (fun _ hk => hk.elim) ?aF ?aO ?aB ?aS ?aL ?_; (case aP => exact kT _ _ _ (⟨(iY l0_1 x97_4).f0, (iY l0_1 x97_4).f1⟩ : S96)); (case aB => exact (by repeat (first | (with_reducible first | exact HB.out | apply iG | apply iD | apply iF | refine iE ?_ GE288.out | refine iE ?_ GE289.out | refine iE ?_ GE311.out) | exact HB.out))); (case aF => exact (fun k_ hk => Kd.freshB (g := gb311) (o := .cells #[.int .i64 ((iY l0_1 x97_4).f0), .int .i64 ((iY l0_1 x97_4).f1)] 96 (0, 0)) (by (with_reducible repeat (first | refine iL ?_ _ | refine iO ?_ | refine iK ?_ _)); refine jC (cs := #[.int .i64 ((iY l0_1 x97_4).f0), .int .i64 0]) ?_ 1 _ rfl; (with_reducible repeat (first | refine iL ?_ _ | refine iO ?_ | refine iK ?_ _)); refine jC (cs := #[.int .i64 0, .int .i64 0]) ?_ 0 _ rfl; (with_reducible repeat (first | refine iL ?_ _ | refine iO ?_ | refine iK ?_ _)); exact BK311.out) k_ hk)); (case aO => exact (by (with_reducible repeat (first | apply Kd.R_alloc | apply Kd.R_drewN | apply Kd.R_drew)); exact Kd.R_mono (Kd.R_far (p := ⟨gb311, 1, none⟩) (Kd.R_far (p := ⟨gb311, 0, none⟩) (Kd.R_mono HO_14.out (fun k_ hk => (⟨hk, hk.2⟩ : _ ∧ k_ ≠ gb311))) (fun _ hk => hk.2) (.int .i64 ((iY l0_1 x97_4).f0))) (fun _ hk => hk.2) (.int .i64 ((iY l0_1 x97_4).f1))) (fun _ hk => hk.1.2))); (case aS => exact (iJ (by repeat (first | (with_reducible first | exact HB.out | apply iG | apply iD | apply iF | refine iE ?_ GE288.out | refine iE ?_ GE289.out | refine iE ?_ GE311.out) | exact HB.out)))); (case aL => have := LMc91.out; omega); intro v313 w96 ho hb hg hat; rw [← Ny312.out] at ho; have n0_ := iC.mk (jM (g := gb288) (o := .cells #[.int .u32 a0_0, .slice (some ad310) l0_1.length c0_1] 42 (0, 0)) (by (with_reducible repeat (first | refine iL ?_ _ | refine iO ?_ | refine iK ?_ _)); refine jI ?_ NB288_311.out _; (with_reducible repeat (first | refine iL ?_ _ | refine iO ?_ | refine iK ?_ _)); refine jI ?_ NB288_311.out _; (with_reducible repeat (first | refine iL ?_ _ | refine iO ?_ | refine iK ?_ _)); exact BK288.out) hg (Kd.R_ne HO_14.out BK288.out (by decide))); have n1_ := iC.mk (jM (g := gb289) (o := .cells #[.int .u32 0, .slice none 0 0] 42 (0, 0)) (by (with_reducible repeat (first | refine iL ?_ _ | refine iO ?_ | refine iK ?_ _)); refine jI ?_ NB289_311.out _; (with_reducible repeat (first | refine iL ?_ _ | refine iO ?_ | refine iK ?_ _)); refine jI ?_ NB289_311.out _; (with_reducible repeat (first | refine iL ?_ _ | refine iO ?_ | refine iK ?_ _)); exact BK289.out) hg (Kd.R_ne HO_14.out BK289.out (by decide))); have n2_ := iC.mk (jM (g := gb311) (o := .cells #[.int .i64 ((iY l0_1 x97_4).f0), .int .i64 ((iY l0_1 x97_4).f1)] 96 (0, 0)) (by (with_reducible repeat (first | refine iL ?_ _ | refine iO ?_ | refine iK ?_ _)); refine jC (cs := #[.int .i64 ((iY l0_1 x97_4).f0), .int .i64 0]) ?_ 1 _ rfl; (with_reducible repeat (first | refine iL ?_ _ | refine iO ?_ | refine iK ?_ _)); refine jC (cs := #[.int .i64 0, .int .i64 0]) ?_ 0 _ rfl; (with_reducible repeat (first | refine iL ?_ _ | refine iO ?_ | refine iK ?_ _)); exact BK311.out) hg (Kd.R_away HO_14.out (fun _ hk => hk.2))); have n3_ := iC.mk (hb); have n4_ := iC.mk (ho); clear BK288; clear BK289; clear BK311; clear HB; clear HO_14; have BK288 := n0_; have BK289 := n1_; have BK311 := n2_; have HB := n3_; have HO314 := n4_; clear n0_ n1_ n2_ n3_ n4_; clear ho hb hg hat))
                                    go_roundg k4
                                    case measure => have := HJ6.out; have := HK2.out; have := HJ75.out; have := HK4.out; omega
                                    case rel => exact ⟨(y312), (wrap64 (x97_4 + 1)), (by first | rfl | (simp; done) | (simp [*]; done)), H', ⟨by have := HJ6.out; have := HK2.out; have := HJ75.out; have := HK4.out; omega⟩, ⟨by (with_reducible repeat (first | apply Kd.R_alloc | apply Kd.R_drewN | apply Kd.R_drew)); exact Kd.R_mono HO314.out (fun _ hk => trivial)⟩, ⟨bk_ BK288.out⟩, ⟨bk_ BK289.out⟩, ⟨by repeat (first | (with_reducible first | exact HB.out | apply iG | apply iD | apply iF | refine iE ?_ GE288.out | refine iE ?_ GE289.out | refine iE ?_ GE311.out) | exact HB.out)⟩⟩
                                  · rw [if_neg c91] at H
                                    exact absurd H (by simp)
                                · rw [if_neg c90] at H
                                  have c90b0 : decide (a4 < ((iY l0_1 x97_4).f0)) = false := decide_eq_false c90
                                  clear c90
                                  have H' := iC.mk H
                                  clear H
                                  have p310 : 0 ≤ (x97_4 : Int) := of_decide_eq_true asm_
                                  have q310 : x97_4 < (l0_1.length : Int) := of_decide_eq_true asm_
                                  obtain ⟨ad310, e310, hx310_0, hx310_1⟩ := jL HR0_1.out x97_4 p310 q310
                                  cases e310
                                  replace hx310_0 := (HB.out.cell (World.block_lt_of_cell? w _ hx310_0)).trans hx310_0
                                  replace hx310_1 := (HB.out.cell (World.block_lt_of_cell? w _ hx310_1)).trans hx310_1
                                  replace p310 := eq_true p310
                                  replace q310 := eq_true q310
                                  go_wp2_with (first | ((with_reducible refine jF (N := 18) rfl ?_); (try (refine jB (by rfl) ?_; dsimp only)); refine jD ?hg (N := 18) ?hd (cs := #[.int .i64 0, .int .i64 0]) (t := 96) ?hr ?_; (case hd => rfl); (case hg => rfl); (case hr => first | (go_simp; done) | (go_simp; rfl)); intro gb311 hg w97 hbox hb; have n0_ := iC.mk (Kd.R_below (Kd.R_elderB (by (with_reducible repeat (first | apply Kd.R_alloc | apply Kd.R_drewN | apply Kd.R_drew)); exact HO_14.out) gb311 (Nat.le_of_eq hg.symm)) hb); have n1_ := iC.mk (iP (g := gb288) (o := .cells #[.int .u32 a0_0, .slice (some ad310) l0_1.length c0_1] 42 (0, 0)) (bk_ BK288.out) hb); have n2_ := iC.mk (iP (g := gb289) (o := .cells #[.int .u32 0, .slice none 0 0] 42 (0, 0)) (bk_ BK289.out) hb); have n3_ := iC.mk (iM (by repeat (first | (with_reducible first | exact HB.out | apply iG | apply iD | apply iF | refine iE ?_ GE288.out | refine iE ?_ GE289.out) | exact HB.out)) hb); have n4_ := iC.mk (hbox); have n5_ := iC.mk ((by rw [hg]; exact (iJ (by repeat (first | (with_reducible first | exact HB.out | apply iG | apply iD | apply iF | refine iE ?_ GE288.out | refine iE ?_ GE289.out) | exact HB.out))) : w.heap.size ≤ gb311)); have n6_ := iC.mk ((by rw [hg]; exact (iJ (by repeat (first | (with_reducible first | exact HB.out | apply iG | apply iD | apply iF | refine iE ?_ GE288.out | refine iE ?_ GE289.out) | exact HB.out))) : w.heap.size ≤ gb311)); have n7_ := iC.mk ((by rw [hg]; exact Nat.ne_of_lt (jE (g := gb288) (o := .cells #[.int .u32 a0_0, .slice (some ad310) l0_1.length c0_1] 42 (0, 0)) (bk_ BK288.out)) : gb288 ≠ gb311)); have n8_ := iC.mk ((by rw [hg]; exact Nat.ne_of_gt (jE (g := gb288) (o := .cells #[.int .u32 a0_0, .slice (some ad310) l0_1.length c0_1] 42 (0, 0)) (bk_ BK288.out)) : gb311 ≠ gb288)); have n9_ := iC.mk ((by rw [hg]; exact Nat.ne_of_lt (jE (g := gb289) (o := .cells #[.int .u32 0, .slice none 0 0] 42 (0, 0)) (bk_ BK289.out)) : gb289 ≠ gb311)); have n10_ := iC.mk ((by rw [hg]; exact Nat.ne_of_gt (jE (g := gb289) (o := .cells #[.int .u32 0, .slice none 0 0] 42 (0, 0)) (bk_ BK289.out)) : gb311 ≠ gb289)); clear HO_14; clear BK288; clear BK289; clear HB; have HO_14 := n0_; have BK288 := n1_; have BK289 := n2_; have HB := n3_; have BK311 := n4_; have GW311 := n5_; have GE311 := n6_; have NB288_311 := n7_; have NB311_288 := n8_; have NB289_311 := n9_; have NB311_289 := n10_; clear n0_ n1_ n2_ n3_ n4_ n5_ n6_ n7_ n8_ n9_ n10_; clear hb hbox hg; have hnb98 := NB311_288.out; have hnc98 := NB288_311.out; have hnb99 := NB311_289.out; have hnc99 := NB289_311.out; have hcz100_0 : w97.cell? ⟨gb311, 0, none⟩ = some (.int .i64 0) := (iH BK311.out 0).trans rfl; have hcz100_1 : w97.cell? ⟨gb311, 1, none⟩ = some (.int .i64 0) := (iH BK311.out 1).trans rfl; have hfz100_0 := iI BK311.out 0; have hfz100_1 := iI BK311.out 1))
                                  go_roundg k4
                                  case measure => have := HJ6.out; have := HK2.out; have := HJ75.out; have := HK4.out; omega
                                  case rel => exact ⟨(x14_4), (wrap64 (x97_4 + 1)), (by first | rfl | (simp; done) | (simp [*]; done)), H', ⟨by have := HJ6.out; have := HK2.out; have := HJ75.out; have := HK4.out; omega⟩, ⟨by (with_reducible repeat (first | apply Kd.R_alloc | apply Kd.R_drewN | apply Kd.R_drew)); exact Kd.R_mono (Kd.R_far (p := ⟨gb311, 1, none⟩) (Kd.R_far (p := ⟨gb311, 0, none⟩) (Kd.R_mono HO_14.out (fun k_ hk => (⟨hk, hk.2⟩ : _ ∧ k_ ≠ gb311))) (fun _ hk => hk.2) (.int .i64 ((iY l0_1 x97_4).f0))) (fun _ hk => hk.2) (.int .i64 ((iY l0_1 x97_4).f1))) (fun _ hk => trivial)⟩, ⟨by (with_reducible repeat (first | refine iL ?_ _ | refine iO ?_ | refine iK ?_ _)); refine jI ?_ NB288_311.out _; (with_reducible repeat (first | refine iL ?_ _ | refine iO ?_ | refine iK ?_ _)); refine jI ?_ NB288_311.out _; (with_reducible repeat (first | refine iL ?_ _ | refine iO ?_ | refine iK ?_ _)); exact BK288.out⟩, ⟨by (with_reducible repeat (first | refine iL ?_ _ | refine iO ?_ | refine iK ?_ _)); refine jI ?_ NB289_311.out _; (with_reducible repeat (first | refine iL ?_ _ | refine iO ?_ | refine iK ?_ _)); refine jI ?_ NB289_311.out _; (with_reducible repeat (first | refine iL ?_ _ | refine iO ?_ | refine iK ?_ _)); exact BK289.out⟩, ⟨by repeat (first | (with_reducible first | exact HB.out | apply iG | apply iD | apply iF | refine iE ?_ GE288.out | refine iE ?_ GE289.out | refine iE ?_ GE311.out) | exact HB.out)⟩⟩
                              · rw [if_neg c89] at H
                                exact absurd H (by simp)
                            · rw [if_neg c88] at H
                              exact absurd H (by simp)
                          · rw [if_neg c87] at H
                            have c87b0 : decide (x97_4 < (l0_1.length : Int)) = false := decide_eq_false c87
                            clear c87
                            replace H := Option.bind_eq_some_iff.mp H
                            obtain ⟨t315, A1010, H⟩ := H
                            replace H : (if (t315.length : Int) > 40 then (some (0, ([] : List (S96)), 3)) else (some ((a0_0 + 1) % 4294967296, t315, 0))) = some (r1, r2, r3) := H
                            have A101 := iC.mk A1010
                            clear A1010
                            by_cases c102 : (t315.length : Int) > 40
                            · rw [if_pos c102] at H
                              have c102b0 : decide (40 < (t315.length : Int)) = true := decide_eq_true c102
                              have c102b1 : decide (40 < t315.length) = true := decide_eq_true (by omega)
                              clear c102
                              simp only [Option.some.injEq, Prod.mk.injEq] at H
                              obtain ⟨rfl, rfl, rfl⟩ := H
                              obtain ⟨Ao103, co103, eo103⟩ := Kd.R_slice HO_14.out
                              subst eo103
                              go_wp2_with (first | ((with_reducible refine iZ (f := 73) rfl ?_); refine jJ (some 111) rfl rfl Try.func73 (by kernel_rfl) rfl #[.slice Ao103 x14_4.length co103] rfl (by (try simp only [List.map_toArray, List.map_cons, List.map_nil]); first | done | rfl | (simp only [List.length_drop, List.length_take]; rfl)) ?_; (refine (qL w _ _ x14_4 t315 _ HO_14.out HB.out A101.out).mono ?_); rintro e w104 ⟨v316, rfl, ho0, hb0, hf0⟩; refine ⟨_, rfl, ?_⟩; have n1_ := iC.mk ho0; have n2_ := iC.mk (hf0 gb288 _ BK288.out (Kd.R_ne HO_14.out BK288.out (by decide))); have n3_ := iC.mk (hf0 gb289 _ BK289.out (Kd.R_ne HO_14.out BK289.out (by decide))); have n9_ := iC.mk hb0; clear HO_14 BK288 BK289 HB; have HO317 := n1_; have BK288 := n2_; have BK289 := n3_; have HB := n9_; clear hf0 hb0 n1_ n2_ n3_ n9_; (try clear hb); (try clear hb2); (try clear hk); (try clear hi); (try clear ho0); obtain ⟨Ao105, co105, eo105⟩ := Kd.R_slice HO317.out; subst eo105; have hnb106 := NB289_288.out; have hnc106 := NB288_289.out; have hcz107_0 : w104.cell? ⟨gb289, 0, none⟩ = some (.int .u32 0) := (iH BK289.out 0).trans rfl; have hcz107_1 : w104.cell? ⟨gb289, 1, none⟩ = some (.slice none 0 0) := (iH BK289.out 1).trans rfl; have hfz107_0 := iI BK289.out 0; have hfz107_1 := iI BK289.out 1))
                              refine bodyPost_ret (kJ rfl _ _ gb289 42 #[.int .u32 0, .slice none 0 0] (0, 0) _ rfl (by (with_reducible repeat (first | refine iL ?_ _ | refine iO ?_ | refine iK ?_ _)); refine jC (cs := #[.int .u32 0, .slice none 0 0]) ?_ 1 _ rfl; (with_reducible repeat (first | refine iL ?_ _ | refine iO ?_ | refine iK ?_ _)); refine jC (cs := #[.int .u32 0, .slice none 0 0]) ?_ 0 _ rfl; (with_reducible repeat (first | refine iL ?_ _ | refine iO ?_ | refine iK ?_ _)); exact BK289.out) Try.underlying42 rfl (by kernel_rfl)) rfl ?_
                              exact ⟨_, by first | rfl | (simp [iU, iV] <;> rfl) | (simp [*, iU, iV] <;> rfl), by first | exact Kd.R_nil _ _ _ _ _ | exact Kd.N_nil _ _ _ _ _ | exact Kd.V_nil _ _ _ _ _ | exact Kd.Q_nil _ _ _ _ _ | exact Kd.S_nil _ _ _ _ _, by repeat (first | (with_reducible first | exact HB.out | apply iG | apply iD | apply iF | refine iE ?_ GE288.out | refine iE ?_ GE289.out) | exact HB.out)⟩
                            · rw [if_neg c102] at H
                              have c102b0 : decide (40 < (t315.length : Int)) = false := decide_eq_false c102
                              have c102b1 : decide (40 < t315.length) = false := decide_eq_false (by omega)
                              clear c102
                              simp only [Option.some.injEq, Prod.mk.injEq] at H
                              obtain ⟨rfl, rfl, rfl⟩ := H
                              obtain ⟨Ao108, co108, eo108⟩ := Kd.R_slice HO_14.out
                              subst eo108
                              go_wp2_with (first | ((with_reducible refine iZ (f := 73) rfl ?_); refine jJ (some 111) rfl rfl Try.func73 (by kernel_rfl) rfl #[.slice Ao108 x14_4.length co108] rfl (by (try simp only [List.map_toArray, List.map_cons, List.map_nil]); first | done | rfl | (simp only [List.length_drop, List.length_take]; rfl)) ?_; (refine (qL w _ _ x14_4 t315 _ HO_14.out HB.out A101.out).mono ?_); rintro e w109 ⟨v316, rfl, ho0, hb0, hf0⟩; refine ⟨_, rfl, ?_⟩; have n1_ := iC.mk ho0; have n2_ := iC.mk (hf0 gb288 _ BK288.out (Kd.R_ne HO_14.out BK288.out (by decide))); have n3_ := iC.mk (hf0 gb289 _ BK289.out (Kd.R_ne HO_14.out BK289.out (by decide))); have n9_ := iC.mk hb0; clear HO_14 BK288 BK289 HB; have HO317 := n1_; have BK288 := n2_; have BK289 := n3_; have HB := n9_; clear hf0 hb0 n1_ n2_ n3_ n9_; (try clear hb); (try clear hb2); (try clear hk); (try clear hi); (try clear ho0); obtain ⟨Ao110, co110, eo110⟩ := Kd.R_slice HO317.out; subst eo110; have hnb111 := NB288_289.out; have hnc111 := NB289_288.out; have hcz112_0 : w109.cell? ⟨gb288, 0, none⟩ = some (.int .u32 a0_0) := (iH BK288.out 0).trans rfl; have hcz112_1 : w109.cell? ⟨gb288, 1, none⟩ = some (.slice A0_1 l0_1.length c0_1) := (iH BK288.out 1).trans rfl; have hfz112_0 := iI BK288.out 0; have hfz112_1 := iI BK288.out 1; have hcz113_0 : w109.cell? ⟨gb289, 0, none⟩ = some (.int .u32 0) := (iH BK289.out 0).trans rfl; have hcz113_1 : w109.cell? ⟨gb289, 1, none⟩ = some (.slice none 0 0) := (iH BK289.out 1).trans rfl; have hfz113_0 := iI BK289.out 0; have hfz113_1 := iI BK289.out 1))
                              refine bodyPost_ret (kJ rfl _ _ gb289 42 #[.int .u32 ((a0_0 + 1) % 4294967296), .slice Ao110 t315.length co110] (0, 0) _ rfl (by (with_reducible repeat (first | refine iL ?_ _ | refine iO ?_ | refine iK ?_ _)); refine jC (cs := #[.int .u32 ((a0_0 + 1) % 4294967296), .slice none 0 0]) ?_ 1 _ rfl; (with_reducible repeat (first | refine iL ?_ _ | refine iO ?_ | refine iK ?_ _)); refine jC (cs := #[.int .u32 0, .slice none 0 0]) ?_ 0 _ rfl; (with_reducible repeat (first | refine iL ?_ _ | refine iO ?_ | refine iK ?_ _)); exact BK289.out) Try.underlying42 rfl (by kernel_rfl)) rfl ?_
                              exact ⟨_, by first | rfl | (simp [iU, iV] <;> rfl) | (simp [*, iU, iV] <;> rfl), by (with_reducible repeat (first | apply Kd.R_alloc | apply Kd.R_drewN | apply Kd.R_drew)); exact Kd.R_mono (Kd.R_far (p := ⟨gb289, 1, none⟩) (Kd.R_far (p := ⟨gb289, 0, none⟩) (Kd.R_types HO317.out BK289.out (by decide)) (fun _ hk => hk.2) (.int .u32 ((a0_0 + 1) % 4294967296))) (fun _ hk => hk.2) (.slice Ao110 t315.length co110)) (fun _ hk => trivial), by repeat (first | (with_reducible first | exact HB.out | apply iG | apply iD | apply iF | refine iE ?_ GE288.out | refine iE ?_ GE289.out) | exact HB.out)⟩
                · rw [if_neg c75] at H
                  exact absurd H (by simp)
end Go.Proofs.Ytjppookmjdaplaa.K
end

section
namespace Go.Proofs.Ytjppookmjdaplaa.K
open Go.RowKit Go.Proofs.YtjppookmjdaplaaW.PrintWords Go.Proofs.YtjppookmjdaplaaW.PrintLast Go.Proofs.YtjppookmjdaplaaW.PrintMore
attribute [local go_sem] jQ jP jX jW
theorem IY (d : Nat) (w : World) (x0 y0 : Int) (x1 y1 : Int) :
    (Op.equalIn (d + 2) 96 (.agg #[.int .i64 x0, .int .i64 x1]) (.agg #[.int .i64 y0, .int .i64 y1])).run Try.prog w = .ok (x0 == y0 && (x1 == y1)) w := by
  refine IB Try.underlying96 (by kernel_rfl) ?_
  refine yH (by rfl) (by go_simp; rfl) (by go_simp; rfl) (by go_simp) ?_
  exact yK (by rfl) (by go_simp; rfl) (by go_simp; rfl) (by go_simp)
end Go.Proofs.Ytjppookmjdaplaa.K
end

section
namespace Go.Proofs.Ytjppookmjdaplaa.K
open Go.RowKit Go.Proofs.YtjppookmjdaplaaW.PrintWords Go.Proofs.YtjppookmjdaplaaW.PrintLast Go.Proofs.YtjppookmjdaplaaW.PrintMore
attribute [local go_sem] jQ jP jX jW
attribute [local go_sem high] IY
def api_Span_75.l0 : Nat → List (S96) → List (S96) → Int → Int → Option (Bool)
  | 0, _, _, _, _ => none
  | k + 1, x0, x1, x12, x13 => if x13 < x12 then (if 0 ≤ x13 then (if x13 < (x0.length : Int) then (if x13 < (x1.length : Int) then (if (!(((iY x0 x13).f0) == ((iY x1 x13).f0)) || (!(((iY x0 x13).f1) == ((iY x1 x13).f1)))) = true then (some false) else (api_Span_75.l0 k x0 x1 x12 (wrap64 (x13 + 1)))) else (none)) else (none)) else (none)) else (some true)
def api_Span_75.f (k : Nat) (l0 : List (S96)) (l1 : List (S96)) : Option (Bool) := if (l0.length : Int) = (l1.length : Int) then (api_Span_75.l0 k l0 l1 (l0.length : Int) 0) else (some false)
theorem api_Span_75.mono_l : ∀ k, (∀ y0 y1 y2 y3, LeO (api_Span_75.l0 k y0 y1 y2 y3) (api_Span_75.l0 (k + 1) y0 y1 y2 y3))
  | 0 => fun _ _ _ _ r h => by simp [api_Span_75.l0] at h
  | k + 1 => by
    have ih0 := api_Span_75.mono_l k
    · intro y0 y1 y2 y3
      unfold api_Span_75.l0
      repeat' first
      | (with_reducible exact ih0 _ _ _ _)
      | (with_reducible exact LeO.refl _)
      | (with_reducible exact LeO.none _)
      | (with_reducible refine LeO.ite ?_ ?_)
      | (with_reducible refine LeO.bind ?_ (fun _ => ?_))
      | exact ih0 _ _ _ _
      | exact LeO.none _
      | refine LeO.ite ?_ ?_
      | refine LeO.bind ?_ (fun _ => ?_)
theorem api_Span_75.mono : ∀ a0 a1 k, LeO (api_Span_75.f k a0 a1) (api_Span_75.f (k + 1) a0 a1) := by
  intro a0 a1 k
  have ih0 := api_Span_75.mono_l k
  unfold api_Span_75.f
  repeat' first
      | (with_reducible exact ih0 _ _ _ _)
      | (with_reducible exact LeO.refl _)
      | (with_reducible exact LeO.none _)
      | (with_reducible refine LeO.ite ?_ ?_)
      | (with_reducible refine LeO.bind ?_ (fun _ => ?_))
      | exact ih0 _ _ _ _
      | exact LeO.none _
      | refine LeO.ite ?_ ?_
      | refine LeO.bind ?_ (fun _ => ?_)
set_option maxHeartbeats 8000000 in
set_option maxRecDepth 100000 in
theorem api_Span_75.calls (k : Nat) (A0 : Option Addr) (c0 : Nat) (l0 : List (S96)) (A1 : Option Addr) (c1 : Nat) (l1 : List (S96)) (r : Bool) (w : World) (hr0 : Kd.C k96 w A0 l0.length l0) (hc0 : l0.length ≤ c0) (hr1 : Kd.C k96 w A1 l1.length l1) (hc1 : l1.length ≤ c1) (h : api_Span_75.f k l0 l1 = some r) :
    Calls Try.prog 75 #[.slice A0 l0.length c0, .slice A1 l1.length c1] w fun e w' => e = .returned (.bool r) ∧ jO w w' := by
  have hu96 := Try.underlying96
  have HR0 := iC.mk hr0
  have HC0 := iC.mk hc0
  clear hr0 hc0
  have HR1 := iC.mk hr1
  have HC1 := iC.mk hc1
  clear hr1 hc1
  have H : (if (l0.length : Int) = (l1.length : Int) then (api_Span_75.l0 k l0 l1 (l0.length : Int) 0) else (some false)) = some r := h
  clear h
  by_cases c3 : (l0.length : Int) = (l1.length : Int)
  · rw [if_pos c3] at H
    have c3b0 : ((l0.length : Int) == (l1.length : Int)) = true := beq_iff_eq.mpr c3
    have c3b1 : ((l0.length : Int) != (l1.length : Int)) = false := bne_eq_false_iff_eq.mpr c3
    have c3b2 : (l0.length == l1.length) = true := by first | simpa using c3 | (simp at c3 ⊢; omega)
    clear c3
    have H' := iC.mk H
    clear H
    go_enter Try.func75, Try.ntmps75
    go_wp2
    repeat (go_quiet (fail); try go_wp2)
    go_loopg [13] k (fun kq v13 w' => ∃ (x13_1 : Int), v13 = .int .i64 x13_1 ∧ iC (api_Span_75.l0 kq l0 l1 (l0.length : Int) x13_1 = some r) ∧ iC (kq ≤ k) ∧ jO w w')
    case atStart => exact ⟨(0), (by first | rfl | (simp; done) | (simp [*]; done)), H', ⟨Nat.le_refl _⟩, by repeat (first | exact jO.refl _ | apply jO.step)⟩
    case round =>
      clear H'
      try clear c1
      try clear p2
      try clear c3
      try clear c3b0
      try clear c3b1
      try clear c3b2
      obtain ⟨x13_1, rfl, HA, HK1, ⟨m1, rfl⟩⟩ := hrel
      cases gk with
      | zero => exact absurd HA.out (by simp [api_Span_75.l0])
      | succ k1 =>
        have H := HA.out
        clear HA
        simp only [api_Span_75.l0] at H
        by_cases c4 : x13_1 < (l0.length : Int)
        · rw [if_pos c4] at H
          have c4b0 : decide (x13_1 < (l0.length : Int)) = true := decide_eq_true c4
          clear c4
          by_cases c5 : 0 ≤ x13_1
          · rw [if_pos c5] at H
            have c5b0 : decide (0 ≤ x13_1) = true := decide_eq_true c5
            clear c5
            by_cases c6 : x13_1 < (l0.length : Int)
            · rw [if_pos c6] at H
              have c6b0 : decide (x13_1 < (l0.length : Int)) = true := decide_eq_true c6
              clear c6
              by_cases c7 : x13_1 < (l1.length : Int)
              · rw [if_pos c7] at H
                have c7b0 : decide (x13_1 < (l1.length : Int)) = true := decide_eq_true c7
                clear c7
                by_cases c8 : (!(((iY l0 x13_1).f0) == ((iY l1 x13_1).f0)) || (!(((iY l0 x13_1).f1) == ((iY l1 x13_1).f1)))) = true
                · rw [if_pos c8] at H
                  have c8b0 : (!(((iY l0 x13_1).f0) == ((iY l1 x13_1).f0)) || (!(((iY l0 x13_1).f1) == ((iY l1 x13_1).f1)))) = true := c8
                  clear c8
                  obtain rfl := Option.some.inj H
                  have p318 : 0 ≤ (x13_1 : Int) := of_decide_eq_true asm_
                  have q318 : x13_1 < (l0.length : Int) := of_decide_eq_true asm_
                  obtain ⟨ad318, e318, hx318_0, hx318_1⟩ := jL HR0.out x13_1 p318 q318
                  cases e318
                  replace p318 := eq_true p318
                  replace q318 := eq_true q318
                  have p319 : 0 ≤ (x13_1 : Int) := of_decide_eq_true asm_
                  have q319 : x13_1 < (l1.length : Int) := of_decide_eq_true asm_
                  obtain ⟨ad319, e319, hx319_0, hx319_1⟩ := jL HR1.out x13_1 p319 q319
                  cases e319
                  replace p319 := eq_true p319
                  replace q319 := eq_true q319
                  go_wp2
                  repeat (go_quiet (fail); try go_wp2)
                  go_ret
                  exact ⟨by first | rfl | (simp; done) | (simp [*]; done), by repeat (first | exact jO.refl _ | apply jO.step)⟩
                · rw [if_neg c8] at H
                  have c8b0 : (!(((iY l0 x13_1).f0) == ((iY l1 x13_1).f0)) || (!(((iY l0 x13_1).f1) == ((iY l1 x13_1).f1)))) = false := by simpa using c8
                  clear c8
                  have H' := iC.mk H
                  clear H
                  have p318 : 0 ≤ (x13_1 : Int) := of_decide_eq_true asm_
                  have q318 : x13_1 < (l0.length : Int) := of_decide_eq_true asm_
                  obtain ⟨ad318, e318, hx318_0, hx318_1⟩ := jL HR0.out x13_1 p318 q318
                  cases e318
                  replace p318 := eq_true p318
                  replace q318 := eq_true q318
                  have p319 : 0 ≤ (x13_1 : Int) := of_decide_eq_true asm_
                  have q319 : x13_1 < (l1.length : Int) := of_decide_eq_true asm_
                  obtain ⟨ad319, e319, hx319_0, hx319_1⟩ := jL HR1.out x13_1 p319 q319
                  cases e319
                  replace p319 := eq_true p319
                  replace q319 := eq_true q319
                  go_wp2
                  repeat (go_quiet (fail); try go_wp2)
                  go_roundg k1
                  case measure => have := HK1.out; omega
                  case rel => exact ⟨(wrap64 (x13_1 + 1)), (by first | rfl | (simp; done) | (simp [*]; done)), H', ⟨by have := HK1.out; omega⟩, by repeat (first | exact jO.refl _ | apply jO.step)⟩
              · rw [if_neg c7] at H
                exact absurd H (by simp)
            · rw [if_neg c6] at H
              exact absurd H (by simp)
          · rw [if_neg c5] at H
            exact absurd H (by simp)
        · rw [if_neg c4] at H
          have c4b0 : decide (x13_1 < (l0.length : Int)) = false := decide_eq_false c4
          clear c4
          obtain rfl := Option.some.inj H
          go_wp2
          repeat (go_quiet (fail); try go_wp2)
          go_ret
          exact ⟨by first | rfl | (simp; done) | (simp [*]; done), by repeat (first | exact jO.refl _ | apply jO.step)⟩
  · rw [if_neg c3] at H
    have c3b0 : ((l0.length : Int) == (l1.length : Int)) = false := beq_eq_false_iff_ne.mpr c3
    have c3b1 : ((l0.length : Int) != (l1.length : Int)) = true := bne_iff_ne.mpr c3
    have c3b2 : (l0.length == l1.length) = false := by first | simpa using c3 | (simp at c3 ⊢; omega)
    obtain rfl := Option.some.inj H
    go_enter Try.func75, Try.ntmps75
    go_wp2
    repeat (go_quiet (fail); try go_wp2)
    go_ret
    exact ⟨by first | rfl | (simp; done) | (simp [*]; done), by repeat (first | exact jO.refl _ | apply jO.step)⟩
end Go.Proofs.Ytjppookmjdaplaa.K
end

section
namespace Go.Proofs.Ytjppookmjdaplaa.K
open Go.RowKit Go.Proofs.YtjppookmjdaplaaW.PrintWords Go.Proofs.YtjppookmjdaplaaW.PrintLast Go.Proofs.YtjppookmjdaplaaW.PrintMore
attribute [local go_sem] jQ jP jX jW
def spans_Same.f (k : Nat) (a0_0 : Int) (l0_1 : List (S96)) (a1_0 : Int) (l1_1 : List (S96)) : Option (Bool) := if a0_0 = a1_0 then ((api_Span_75.f k l0_1 l1_1).bind fun t322 => (some t322)) else (some false)
theorem spans_Same.mono : ∀ a0 a1 a2 a3 k, LeO (spans_Same.f k a0 a1 a2 a3) (spans_Same.f (k + 1) a0 a1 a2 a3) := by
  intro a0 a1 a2 a3 k
  unfold spans_Same.f
  repeat' first
      | (with_reducible exact api_Span_75.mono _ _ _)
      | (with_reducible exact LeO.refl _)
      | (with_reducible exact LeO.none _)
      | (with_reducible refine LeO.ite ?_ ?_)
      | (with_reducible refine LeO.bind ?_ (fun _ => ?_))
      | exact api_Span_75.mono _ _ _
      | exact LeO.none _
      | refine LeO.ite ?_ ?_
      | refine LeO.bind ?_ (fun _ => ?_)
set_option maxHeartbeats 8000000 in
set_option maxRecDepth 100000 in
theorem spans_Same.calls (k : Nat) (a0_0 : Int) (A0_1 : Option Addr) (c0_1 : Nat) (l0_1 : List (S96)) (a1_0 : Int) (A1_1 : Option Addr) (c1_1 : Nat) (l1_1 : List (S96)) (r : Bool) (w : World) (hr0_1 : Kd.C k96 w A0_1 l0_1.length l0_1) (hc0_1 : l0_1.length ≤ c0_1) (hr1_1 : Kd.C k96 w A1_1 l1_1.length l1_1) (hc1_1 : l1_1.length ≤ c1_1) (h : spans_Same.f k a0_0 l0_1 a1_0 l1_1 = some r) :
    Calls Try.prog 53 #[.agg #[.int .u32 a0_0, .slice A0_1 l0_1.length c0_1], .agg #[.int .u32 a1_0, .slice A1_1 l1_1.length c1_1]] w fun e w' => e = .returned (.bool r) ∧ Below w.heap.size w w' := by
  have hu42 := Try.underlying42
  have HR0_1 := iC.mk hr0_1
  have HC0_1 := iC.mk hc0_1
  clear hr0_1 hc0_1
  have HR1_1 := iC.mk hr1_1
  have HC1_1 := iC.mk hc1_1
  clear hr1_1 hc1_1
  have HB := iC.mk (Below.refl w.heap.size w)
  have H : (if a0_0 = a1_0 then ((api_Span_75.f k l0_1 l1_1).bind fun t322 => (some t322)) else (some false)) = some r := h
  clear h
  by_cases c3 : a0_0 = a1_0
  · rw [if_pos c3] at H
    have c3b0 : (a0_0 == a1_0) = true := beq_iff_eq.mpr c3
    have c3b1 : (a0_0 != a1_0) = false := bne_eq_false_iff_eq.mpr c3
    clear c3
    replace H := Option.bind_eq_some_iff.mp H
    obtain ⟨t322, A40, H⟩ := H
    replace H : (some t322) = some r := H
    have A4 := iC.mk A40
    clear A40
    obtain rfl := Option.some.inj H
    go_enter Try.func53, Try.ntmps53
    go_wp2_with (first | ((with_reducible refine jF (N := 2) rfl ?_); refine jD ?hg (N := 2) ?hd (cs := #[.int .u32 a0_0, .slice A0_1 l0_1.length c0_1]) (t := 42) ?hr ?_; (case hd => rfl); (case hg => rfl); (case hr => first | (go_simp; done) | (go_simp; rfl)); intro gb320 hg w5 hbox hb; have n0_ := iC.mk (iM hb_ hb); have n1_ := iC.mk (hbox); have n2_ := iC.mk ((by rw [hg]; exact (iJ hb_) : w.heap.size ≤ gb320)); have n3_ := iC.mk ((by rw [hg]; exact (iJ hb_) : w.heap.size ≤ gb320)); clear HB; have HB := n0_; have BK320 := n1_; have GW320 := n2_; have GE320 := n3_; clear n0_ n1_ n2_ n3_; clear hb hbox hg) | ((with_reducible refine jF (N := 3) rfl ?_); refine jD ?hg (N := 3) ?hd (cs := #[.int .u32 a1_0, .slice A1_1 l1_1.length c1_1]) (t := 42) ?hr ?_; (case hd => rfl); (case hg => rfl); (case hr => first | (go_simp; done) | (go_simp; rfl)); intro gb321 hg w6 hbox hb; have n0_ := iC.mk (iP (g := gb320) (o := .cells #[.int .u32 a0_0, .slice A0_1 l0_1.length c0_1] 42 (0, 0)) (bk_ BK320.out) hb); have n1_ := iC.mk (iM (by repeat (first | (with_reducible first | exact HB.out | apply iG | apply iD | apply iF | refine iE ?_ GE320.out) | exact HB.out)) hb); have n2_ := iC.mk (hbox); have n3_ := iC.mk ((by rw [hg]; exact (iJ (by repeat (first | (with_reducible first | exact HB.out | apply iG | apply iD | apply iF | refine iE ?_ GE320.out) | exact HB.out))) : w.heap.size ≤ gb321)); have n4_ := iC.mk ((by rw [hg]; exact (iJ (by repeat (first | (with_reducible first | exact HB.out | apply iG | apply iD | apply iF | refine iE ?_ GE320.out) | exact HB.out))) : w.heap.size ≤ gb321)); have n5_ := iC.mk ((by rw [hg]; exact Nat.ne_of_lt (jE (g := gb320) (o := .cells #[.int .u32 a0_0, .slice A0_1 l0_1.length c0_1] 42 (0, 0)) (bk_ BK320.out)) : gb320 ≠ gb321)); have n6_ := iC.mk ((by rw [hg]; exact Nat.ne_of_gt (jE (g := gb320) (o := .cells #[.int .u32 a0_0, .slice A0_1 l0_1.length c0_1] 42 (0, 0)) (bk_ BK320.out)) : gb321 ≠ gb320)); clear BK320; clear HB; have BK320 := n0_; have HB := n1_; have BK321 := n2_; have GW321 := n3_; have GE321 := n4_; have NB320_321 := n5_; have NB321_320 := n6_; clear n0_ n1_ n2_ n3_ n4_ n5_ n6_; clear hb hbox hg; have hnb7 := NB320_321.out; have hnc7 := NB321_320.out; have hcz8_0 : w6.cell? ⟨gb320, 0, none⟩ = some (.int .u32 a0_0) := (iH BK320.out 0).trans rfl; have hcz8_1 : w6.cell? ⟨gb320, 1, none⟩ = some (.slice A0_1 l0_1.length c0_1) := (iH BK320.out 1).trans rfl; have hfz8_0 := iI BK320.out 0; have hfz8_1 := iI BK320.out 1; have hcz9_0 : w6.cell? ⟨gb321, 0, none⟩ = some (.int .u32 a1_0) := (iH BK321.out 0).trans rfl; have hcz9_1 : w6.cell? ⟨gb321, 1, none⟩ = some (.slice A1_1 l1_1.length c1_1) := (iH BK321.out 1).trans rfl; have hfz9_0 := iI BK321.out 0; have hfz9_1 := iI BK321.out 1) | (go_at_call 75; (with_reducible refine (api_Span_75.calls k _ _ l0_1 _ _ l1_1 t322 _ ?side1 ?side2 ?side3 ?side4 A4.out).mono ?_); (case side1 => repeat (first | exact (Kd.C_below HR0_1.out HB.out) | (with_reducible refine Kd.C_alloc ?_ _) | (with_reducible refine Kd.C_drewN ?_ _) | (with_reducible refine Kd.C_drew ?_))); (case side2 => exact HC0_1.out); (case side3 => repeat (first | exact (Kd.C_below HR1_1.out HB.out) | (with_reducible refine Kd.C_alloc ?_ _) | (with_reducible refine Kd.C_drewN ?_ _) | (with_reducible refine Kd.C_drew ?_))); (case side4 => exact HC1_1.out); rintro e w' ⟨rfl, ⟨nd, rfl⟩⟩))
    go_ret
    exact ⟨by first | rfl | (simp [iU, iV] <;> rfl) | (simp [*, iU, iV] <;> rfl), by repeat (first | (with_reducible first | exact HB.out | apply iG | apply iD | apply iF | refine iE ?_ GE320.out | refine iE ?_ GE321.out) | exact HB.out)⟩
  · rw [if_neg c3] at H
    have c3b0 : (a0_0 == a1_0) = false := beq_eq_false_iff_ne.mpr c3
    have c3b1 : (a0_0 != a1_0) = true := bne_iff_ne.mpr c3
    obtain rfl := Option.some.inj H
    go_enter Try.func53, Try.ntmps53
    go_wp2_with (first | ((with_reducible refine jF (N := 2) rfl ?_); refine jD ?hg (N := 2) ?hd (cs := #[.int .u32 a0_0, .slice A0_1 l0_1.length c0_1]) (t := 42) ?hr ?_; (case hd => rfl); (case hg => rfl); (case hr => first | (go_simp; done) | (go_simp; rfl)); intro gb320 hg w10 hbox hb; have n0_ := iC.mk (iM hb_ hb); have n1_ := iC.mk (hbox); have n2_ := iC.mk ((by rw [hg]; exact (iJ hb_) : w.heap.size ≤ gb320)); have n3_ := iC.mk ((by rw [hg]; exact (iJ hb_) : w.heap.size ≤ gb320)); clear HB; have HB := n0_; have BK320 := n1_; have GW320 := n2_; have GE320 := n3_; clear n0_ n1_ n2_ n3_; clear hb hbox hg) | ((with_reducible refine jF (N := 3) rfl ?_); refine jD ?hg (N := 3) ?hd (cs := #[.int .u32 a1_0, .slice A1_1 l1_1.length c1_1]) (t := 42) ?hr ?_; (case hd => rfl); (case hg => rfl); (case hr => first | (go_simp; done) | (go_simp; rfl)); intro gb321 hg w11 hbox hb; have n0_ := iC.mk (iP (g := gb320) (o := .cells #[.int .u32 a0_0, .slice A0_1 l0_1.length c0_1] 42 (0, 0)) (bk_ BK320.out) hb); have n1_ := iC.mk (iM (by repeat (first | (with_reducible first | exact HB.out | apply iG | apply iD | apply iF | refine iE ?_ GE320.out) | exact HB.out)) hb); have n2_ := iC.mk (hbox); have n3_ := iC.mk ((by rw [hg]; exact (iJ (by repeat (first | (with_reducible first | exact HB.out | apply iG | apply iD | apply iF | refine iE ?_ GE320.out) | exact HB.out))) : w.heap.size ≤ gb321)); have n4_ := iC.mk ((by rw [hg]; exact (iJ (by repeat (first | (with_reducible first | exact HB.out | apply iG | apply iD | apply iF | refine iE ?_ GE320.out) | exact HB.out))) : w.heap.size ≤ gb321)); have n5_ := iC.mk ((by rw [hg]; exact Nat.ne_of_lt (jE (g := gb320) (o := .cells #[.int .u32 a0_0, .slice A0_1 l0_1.length c0_1] 42 (0, 0)) (bk_ BK320.out)) : gb320 ≠ gb321)); have n6_ := iC.mk ((by rw [hg]; exact Nat.ne_of_gt (jE (g := gb320) (o := .cells #[.int .u32 a0_0, .slice A0_1 l0_1.length c0_1] 42 (0, 0)) (bk_ BK320.out)) : gb321 ≠ gb320)); clear BK320; clear HB; have BK320 := n0_; have HB := n1_; have BK321 := n2_; have GW321 := n3_; have GE321 := n4_; have NB320_321 := n5_; have NB321_320 := n6_; clear n0_ n1_ n2_ n3_ n4_ n5_ n6_; clear hb hbox hg; have hnb12 := NB320_321.out; have hnc12 := NB321_320.out; have hcz13_0 : w11.cell? ⟨gb320, 0, none⟩ = some (.int .u32 a0_0) := (iH BK320.out 0).trans rfl; have hcz13_1 : w11.cell? ⟨gb320, 1, none⟩ = some (.slice A0_1 l0_1.length c0_1) := (iH BK320.out 1).trans rfl; have hfz13_0 := iI BK320.out 0; have hfz13_1 := iI BK320.out 1; have hcz14_0 : w11.cell? ⟨gb321, 0, none⟩ = some (.int .u32 a1_0) := (iH BK321.out 0).trans rfl; have hcz14_1 : w11.cell? ⟨gb321, 1, none⟩ = some (.slice A1_1 l1_1.length c1_1) := (iH BK321.out 1).trans rfl; have hfz14_0 := iI BK321.out 0; have hfz14_1 := iI BK321.out 1))
    go_ret
    exact ⟨by first | rfl | (simp [iU, iV] <;> rfl) | (simp [*, iU, iV] <;> rfl), by repeat (first | (with_reducible first | exact HB.out | apply iG | apply iD | apply iF | refine iE ?_ GE320.out | refine iE ?_ GE321.out) | exact HB.out)⟩
end Go.Proofs.Ytjppookmjdaplaa.K
end
