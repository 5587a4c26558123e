/- Parts of the proof, one behind the other: CoR, CoZ, CoS, CoU, CoW, CoJ, CoT. -/
import Derived.Test.YtjppookmjdaplaaQCoordDrops2
import Derived.RangeFuncFrom
import Derived.Sort.MapsRangeIn
import Derived.RegionIn
import Derived.Shelf.SlicesE.DeleteFunc
import Derived.Ground.SlgfProg
set_option linter.unusedVariables false
set_option linter.unusedSimpArgs false
section
namespace Go.Proofs.Ytjppookmjdaplaa.K
open Go Go.RowKit Go.Maps Go.Proofs.YtjppookmjdaplaaW.PrintWords Go.Proofs.YtjppookmjdaplaaW.PrintLast Go.Proofs.YtjppookmjdaplaaW.PrintMore Go.Proofs.Ytjppookmjdaplaa.My
attribute [local go_sem] Oper.semAt_some
abbrev encU (x : Int) : Array Value := #[.int .u32 x]
/-- What has come of a map's keys, and what is left. -/
def CU (D0 : DataW Nat) (left : Lit → Bool) (ss : List Int) : Prop := ss.Nodup ∧ ∀ x, x ∈ ss ↔ (has D0 (.int .u32 x) = true ∧ left (.int .u32 x) = false)
/-- A map's keys, each once. -/
def o7 (D0 : DataW Nat) (ss : List Int) : Prop := ss.Nodup ∧ ∀ x, x ∈ ss ↔ has D0 (.int .u32 x) = true
theorem CU.start (D0 : DataW Nat) : CU D0 (has D0) [] := ⟨List.nodup_nil, fun x => by cases has D0 (.int .u32 x) <;> simp⟩
theorem CU.step {D0 : DataW Nat} {left : Lit → Bool} {ss : List Int} (h : CU D0 left ss) {x : Int} {y : DataW Nat} (hlk : left (.int .u32 x) = true) (hat : ∀ zd, D0.atKey (.int .u32 x) zd = y) : CU D0 (fun z => left z && !z.sameKey (.int .u32 x)) (ss ++ [x]) := by
  have hhas : has D0 (.int .u32 x) = true := has_true_of_atKey hat
  have hnew : x ∉ ss := fun hx => by have := ((h.2 x).1 hx).2; rw [hlk] at this; cases this
  refine ⟨List.nodup_append.2 ⟨h.1, by simp, fun a ha b hb => by simp at hb; subst hb; exact fun e => hnew (e ▸ ha)⟩, fun y => ?_⟩
  by_cases hy : y = x
  · subst hy; simp [hhas, Lit.sameKey]
  · simp [h.2 y, hy, Lit.sameKey]
theorem CU.fin {D0 : DataW Nat} {left : Lit → Bool} {ss : List Int} (h : CU D0 left ss) (hl : ∀ kl, left kl = false) : o7 D0 ss := ⟨h.1, fun x => by rw [h.2 x, hl]; simp⟩
set_option maxRecDepth 100000 in
set_option maxHeartbeats 4000000 in
theorem xQ (n : Nat) (hn : 1 ≤ n) (Bm mb nn : Nat) (D0 : DataW Nat) (w0 : World) (hBm : w0.heap[Bm]? = some (.cells #[.map (some mb)] 74 (0, 0))) (hown : UM w0 mb nn D0) :
    SeqStopsK Fence.wide n Try.prog 100 #[.pointer (some ⟨Bm, 0, none⟩)] encU KeepsWalks (o7 D0) (fun _ => True) (Maps.size D0) w0 := by
  intro lp J Jx W hW hJ hJx hY h0
  have hown' : UM W mb nn D0 := jY hown (hW.block mb hown.lt)
  have hBW := iJ hW hBm
  refine callsIn_of_wp Try.func100 rfl trivial ?_ rfl
  simp only [Try.ntmps100, List.size_toArray, List.length_cons, List.length_nil, Nat.reduceAdd, Nat.reduceSub, Array.replicate_succ, Array.replicate_zero, List.push_toArray, List.append_toArray, List.nil_append, List.cons_append]
  have hc0 : W.cell? ⟨Bm, 0, none⟩ = some (.map (some mb)) := by simp [World.cell?, hBW]
  gi_wp2_with (first
    | (gi_at_range; refine wpListIn_range_own _ rfl _ 74 rfl 28 79 kZ Try.underlying74 _ mb nn _ rfl hown' ?_; intro w1 hrg0 hg0 hs0)
    | gi_in)
  go_frame
  gi_loopw [3] (fun _ wr => ∃ (left : Lit → Bool) (cnt : Nat) (ss : List Int), wr.ranges Try.prog 28 RP mb W.heap.size nn D0 left cnt ∧ ss.length + cnt ≤ Maps.size D0 ∧ CU D0 left ss ∧ J ss wr)
    (fun _ wr => wr.rangeLeft mb W.heap.size)
  case atStart => exact ⟨_, _, [], hrg0, by simp, CU.start D0, hJ [] W w1 none h0 hg0 (fun r e => by cases e)⟩
  case round =>
    obtain ⟨left, cnt, ss, hrg, hlen, hC, hJs⟩ := hrel
    gi_wp2_with (first
      | (gi_at_next; refine wpListIn_next_ranges _ rfl _ rfl 28 kZ RP (Value.int .u32) id (fun key kl hk => by obtain ⟨x, hx, _⟩ := Maps.keyOf_int_inv Try.underlying28 hk; exact ⟨x, hx⟩) (fun v _ _ => ⟨v, rfl⟩) mb W.heap.size nn _ _ _ rfl hrg ?_ ?_)
      | gi_in)
    · intro hc0 hl0
      gi_wp2
      go_end0
      exact ⟨⟨_, rfl⟩, .inl ⟨ss, hC.fin hl0, hJs⟩⟩
    · intro x c kl yd yp w2 cnt2 hkey hlk hv hat hrg2 hlt hg2 hs2 hen
      obtain ⟨x', ex, rfl, _⟩ := Maps.keyOf_int_inv Try.underlying28 hkey
      cases ex
      have hJ2 : J ss w2 := hJ ss wr w2 (some W.heap.size) hJs hg2 (fun r e => by cases e; exact ⟨Nat.le_refl _, hrg.iter_walk⟩)
      obtain ⟨fn, tmps, assign, body, hy, hR⟩ := hY ss x w2 hJ2 (by omega)
      clear hs2
      gi_wp2
      refine hR.mono ?_
      rintro e W3 (⟨rfl, hJ3, hk3⟩ | ⟨rfl, hJx3⟩)
      · gi_wp2
        have hrg3 := hrg2.of_walks hk3
        go_roundw
        case rel => exact ⟨_, cnt2, ss ++ [x], hrg3, by simp; omega, hC.step hlk hat, hJ3⟩
        case measure => rw [hrg3.left_eq, hrg.left_eq]; exact hlt
      · gi_wp2
        refine bodyPost_ret (results_none rfl _ _ _) rfl ?_
        exact ⟨⟨_, rfl⟩, .inr ⟨_, trivial, hJx3⟩⟩
/-- append(v, x) in a fenced walk. -/
theorem pW {F : Fence} {n : Nat} {P : Program} {ops : Array Oper} {rest : List Oper} {o : Oper} {a : Act} {Q : Exit → Act → World → Prop} {α : Type} (d : Kd α) {w0 W : World} (base : Nat) (hgd : o.guard = none) (s x : Operand) (t e : TypeId) (z : Value) (bytes : Nat)
    (ho : o.op = .call { callee := .builtin .append, args := #[s, x], argTypes := #[t, t] })
    (ht : P.underlying t = some (.slice e)) (hinfo : (P.info? e).map (fun i => (i.zero, i.size, i.bytes)) = some (some z, d.sz, bytes)) (hz : z.cells.size = d.sz) (hs0 : 0 < d.sz) (hb0 : 0 < bytes)
    (v : Value) (xs : List α) (p : α) (cs : List Value) (ok okp : Nat → Prop) (hs : a.eval s = v) (hx : a.eval x = .slice (some ⟨W.heap.size, 0, none⟩) 1 1) (hp : d.M W base okp p cs) (hokp : ∀ k, okp k → ok k ∧ some k ≠ v.ownBlock) (hfresh : ∀ k, W.heap.size ≤ k → ok k)
    (HO : d.R e W base ok v xs) (HB : Below base w0 W) (hbase : base ≤ W.heap.size) (hl : (xs.length + 1) * bytes ≤ 140737488355328)
    (h : ∀ v1 w1, d.R e w1 base ok v1 (xs ++ [p]) → Below base w0 w1 → W.grownBy w1 v.ownBlock → wpListIn F n P ops Q rest (a.put o.dst v1) w1) :
    wpListIn F n P ops Q (o :: rest) a (W.alloc (.cells cs.toArray e)) := by
  obtain ⟨h0, inner, hown, hr⟩ := HO
  obtain ⟨i0, hi, hzz⟩ := Option.map_eq_some_iff.1 hinfo
  simp only [Prod.mk.injEq] at hzz
  obtain ⟨hz0, hz1, hz2⟩ := hzz
  have hlen : xs.length + 1 ≤ 140737488355328 := Nat.le_trans (Nat.le_mul_of_pos_right _ hb0) hl
  have hys := d.K_len (d.K_of_M hp)
  refine wpListIn_plain hgd fun K hK' => ?_
  obtain ⟨v', w', hrun, hown', hg, _, hat⟩ := run_append_own_at (P := P) (W.alloc (.cells cs.toArray e)) base t o.type e i0 z d.sz bytes ht hi hz0 hz1 hz2 hz hs0 v xs.length inner (hown.alloc _) ⟨W.heap.size, 0, none⟩ 1 1 cs (by rw [hys]; simp)
    (by simpa using World.news_of_block (cs := cs.toArray) (t := e) (fr := (0, 0)) (heap_alloc_new W (.cells cs.toArray e))) (d.K_one (d.K_of_M hp)) (by simp only [maxLen]; omega) hl (by simp; omega)
  unfold Oper.wpIn
  refine ⟨?_, ?_⟩
  · simp [Oper.about, ho, resolve, Target.leads, Sem.run_pure]
  · rw [Oper.semAt_plain F _ _ (by rw [ho]; intro c hc'; cases hc')]
    simp [execOp, ho, resolve, invoke, builtin, hs, hx, hrun, Result.andThen]
    have hg' : W.grownBy w' v.ownBlock := World.grownBy.trans (World.grownBy_alloc W _ _) hg
    refine hK' _ _ (h v' w' (Kd.R_appended h0 hr hp hokp hfresh hown' hg' ?_) ((HB.alloc hbase _).grown hg (by simp; omega) (own_base hown)) hg')
    rcases hat with hat | hat
    · exact .inl hat
    · exact .inr ⟨_, hat, by simp⟩
theorem uC {α : Type} {d : Kd α} {e B : Nat} {W W' : World} {v : Value} {l : List α} {row : Option Nat} (h : d.R e W B (fun _ => True) v l) (hg : W.grownBy W' row) (hr : ∀ r, row = some r → ∃ o : Obj, W.heap[r]? = some o ∧ o.isCells = false) : d.R e W' B (fun _ => True) v l :=
  kP h (fun k q cs _ hc => hg.block k (jE hc) (fun e => by
    obtain ⟨o, ho, hn⟩ := hr k e.symm
    rw [hc] at ho; cases ho; cases hn))
abbrev kU : Kd Int := Kd.int .u32
theorem vF : (Try.prog.info? 28).map (fun i => (i.zero, i.size, i.bytes)) = some (some (.int .u32 0), kU.sz, 4) := by kernel_rfl
set_option maxRecDepth 100000 in
set_option maxHeartbeats 4000000 in
theorem uT (Bm mb nn : Nat) (D0 : DataW Nat) (w : World) (hBm : w.heap[Bm]? = some (.cells #[.map (some mb)] 74 (0, 0))) (hown : UM w mb nn D0) (hN : Maps.size D0 ≤ 1000000) :
    Calls Try.prog 112 #[.slice none 0 0, .func (.func 100) #[] #[.pointer (some ⟨Bm, 0, none⟩)]] w fun e w' => ∃ v ss, e = .returned v ∧ o7 D0 ss ∧ kU.R 28 w' w.heap.size (fun _ => True) v ss ∧ Below w.heap.size w w' := by
  refine (callsIn_wide (n := 6)).1 ?_
  refine callsIn_of_wp_marks Try.func112 rfl trivial ?_ rfl
  simp only [Try.ntmps112, List.size_toArray, List.length_cons, List.length_nil, Nat.reduceAdd, Nat.reduceSub, Array.replicate_succ, Array.replicate_zero, List.push_toArray, List.append_toArray, List.nil_append, List.cons_append]
  obtain ⟨W0, hW0⟩ : ∃ W0, W0 = w.alloc (.cells #[.slice none 0 0] 51) := ⟨_, rfl⟩
  have hsz : W0.heap.size = w.heap.size + 1 := by rw [hW0]; simp
  have hB0 : Below w.heap.size w W0 := by rw [hW0]; exact iD (Below.refl _ _) _
  have hx1 : Boxed W0 w.heap.size 51 (.slice none 0 0) := by rw [hW0]; exact iM rfl
  gi_wp2
  rw [← hW0]
  clear hW0
  refine wpIn_rangeFunc_ownF (F := Fence.wide) rfl (by decide) (gf := 100) (lb := #[.pointer (some ⟨Bm, 0, none⟩)]) rfl trivial (enters_of Try.func100 (by kernel_rfl) rfl)
    (xQ (6 - 1) (by decide) Bm mb nn D0 w hBm hown) walksK_t (fun W l o o' h1 h2 h3 h4 => walksK_b (w := W0) W l o o' h1 h2 h3 h4) hB0 (fun _ => rfl)
    (fun ss W => (∃ v, Boxed W w.heap.size 51 v ∧ kU.R 28 W (w.heap.size + 1) (fun _ => True) v ss) ∧ Below w.heap.size w W)
    (fun _ _ _ => False)
    (fun ss X Y row h hg hr => by
      obtain ⟨⟨v, h1, h2⟩, h3⟩ := h
      refine ⟨⟨v, (hg.block _ (jE h1) (fun e => ?_)).trans h1, uC h2 hg (fun r e => (hr r e).2)⟩, h3.grown hg h3.size (fun r e => by have := (hr r e).1; omega)⟩
      obtain ⟨_, o, ho, hc⟩ := hr _ e.symm
      rw [show X.heap[w.heap.size]? = _ from h1] at ho; cases ho; cases hc)
    (fun _ _ _ _ _ h _ _ => h)
    ⟨⟨_, hx1, Kd.R_nil _ _ _ _ _⟩, hB0⟩
    (fun x => { tmps := #[.slice none 0 0, .func (.func 100) #[] #[.pointer (some ⟨Bm, 0, none⟩)], .pointer (some ⟨w.heap.size, 0, none⟩), undef, .slice none 0 0, .int .u32 x, .func (.func 100) #[] #[.pointer (some ⟨Bm, 0, none⟩)], .int .u32 x, undef, undef, undef, undef, undef], defers := [] })
    ?assign ?body ?done ?stop
  case assign =>
    intro lp x W K hK
    simp only [encU]
    gi_wp2
    exact hK
  case body =>
    rintro lp pre x W ⟨⟨v, hv, hO⟩, hB⟩ hlen
    obtain ⟨Av, cv, rfl⟩ := Kd.R_slice hO
    obtain ⟨inner, hown⟩ := Kd.R_own hO
    have hne : some w.heap.size ≠ (Value.slice Av pre.length cv).ownBlock := fun e => by have := own_base hown _ e.symm; omega
    have htyp : ∀ (j : Nat) (o : Obj), (Value.slice Av pre.length cv).ownBlock = some j → W.heap[j]? = some o → o.isCells = true := fun j o hj ho => by
      obtain ⟨cells, hc⟩ := nG hown j hj
      rw [hc] at ho; cases ho; rfl
    have hlow : ∀ k, (Value.slice Av pre.length cv).ownBlock = some k → w.heap.size ≤ k := fun k hk => by have := own_base hown _ hk; omega
    have hc1 := hv.cell
    have hf1 := hv.frozen
    have hsW : w.heap.size + 1 ≤ W.heap.size := jE hv
    have hpl : pre.length ≤ 1000000 := by omega
    clear hown hsz
    gi_wp2_with (gi_at_builtin; refine pW kU (w0 := W) (w.heap.size + 1) rfl (.tmp 8) (.tmp 10) 51 28 (.int .u32 0) 4 rfl Try.underlying51 vF rfl (by decide) (by omega) (.slice Av pre.length cv) pre x [.int .u32 x] (fun _ => True) (fun _ => False) rfl rfl rfl (fun _ h => h.elim) (fun _ _ => trivial) hO (Below.refl _ _) hsW (by omega) ?_; intro v1 w1 ho1 hb1 hg1; obtain ⟨A1, c1, rfl⟩ := Kd.R_slice ho1; have hv1 : Boxed w1 w.heap.size 51 (.slice Av pre.length cv) := (hg1.block _ hsW hne).trans hv; have hc2 := hv1.cell; have hf2 := hv1.frozen)
    rw [show (pre ++ [x]).length = pre.length + 1 from by simp] at ho1
    have hko : KeepsOthers W (w1.setCell ⟨w.heap.size, 0, none⟩ (.slice A1 (pre.length + 1) c1)) := (KeepsOthers.of_grownBy hg1 htyp).trans (KeepsOthers.setCell _ _ _)
    exact ⟨hko, hko.walks, ⟨_, hv1.set _, Kd.R_set ho1 (show w1.heap[w.heap.size]? = some (.cells #[_] _ (0, 0)) from hv1) (by decide) 0 _⟩, (hB.grown hg1 hB.size hlow).setCell (p := ⟨w.heap.size, 0, none⟩) (Nat.le_refl _) _⟩
  case done =>
    rintro D xs W hD hS ⟨⟨v, hv, hO⟩, hB⟩ hK
    obtain ⟨Av, cv, rfl⟩ := Kd.R_slice hO
    have hc1 := hv.cell
    have hf1 := hv.frozen
    have hDl : w.heap.size + 1 ≤ D := by omega
    clear hsz
    gi_wp2
    refine ⟨by simp, .inl ⟨_, _, rfl, run_takeDeferred hK, ?_⟩⟩
    refine ⟨_, results_tmp rfl _ _ _, .slice Av xs.length cv, xs, rfl, hS, Kd.R_lower (uC hO (grownBy_putObj' W D _) (fun r e => by cases e; exact ⟨_, hK, rfl⟩)) (Nat.le_succ _), hB.trans (belowK_b (w := w) (Nat.le_refl _) W D _ _ (by omega) hK rfl rfl)⟩
  case stop =>
    intro D c pre W _ _ h _
    exact h.elim
theorem pY (mb : Option Nat) (W : World) : Calls Try.prog 88 #[.map mb] W fun e w' => e = .returned (.func (.func 100) #[] #[.pointer (some ⟨W.heap.size, 0, none⟩)]) ∧ w' = W.alloc (.cells #[.map mb] 74) := by
  go_enter Try.func88, Try.ntmps88
  go_wp2
  go_ret
  exact ⟨rfl, rfl⟩
theorem rW (Bm mb nn : Nat) (D0 : DataW Nat) (w : World) (hBm : w.heap[Bm]? = some (.cells #[.map (some mb)] 74 (0, 0))) (hown : UM w mb nn D0) (hN : Maps.size D0 ≤ 1000000) :
    Calls Try.prog 98 #[.func (.func 100) #[] #[.pointer (some ⟨Bm, 0, none⟩)]] w fun e w' => ∃ v ss, e = .returned v ∧ o7 D0 ss ∧ kU.R 28 w' w.heap.size (fun _ => True) v ss ∧ Below w.heap.size w w' := by
  have hcall := uT Bm mb nn D0 w hBm hown hN
  clear hBm hown hN
  go_enter Try.func98, Try.ntmps98
  go_wp2_with (go_at_call 112; refine hcall.mono ?_; rintro e w1 ⟨v, ss, rfl, hS, hR, hb⟩)
  go_ret
  exact ⟨v, ss, rfl, hS, hR, hb⟩
end Go.Proofs.Ytjppookmjdaplaa.K
end

section
namespace Go.Proofs
open Go.Shelf
def Try.dfuA_ren : Go.Shelf.Ren := ⟨fun | 10 => 86 | 6 => 97 | n => n, fun | 22 => 51 | 23 => 28 | 25 => 72 | 3 => 3 | 4 => 4 | 0 => 0 | n => n, fun | n => n⟩
theorem Try.dfuA : Go.Proofs.SlLaysH.n10 Try.prog Try.dfuA_ren := {
  mixed := by kernel_rfl
  f6 := ⟨Try.f97.name, by decide, Try.func97.trans (congrArg some (by kernel_rfl))⟩
  f10 := ⟨Try.f86.name, by decide, Try.func86.trans (congrArg some (by kernel_rfl))⟩
  t0 := Try.underlying0
  a0 := Try.isAgg0
  z0 := Try.sizeOf0
  v0 := Try.zeroValue0
  t3 := Try.underlying3
  a3 := Try.isAgg3
  z3 := Try.sizeOf3
  v3 := Try.zeroValue3
  t4 := Try.underlying4
  a4 := Try.isAgg4
  z4 := Try.sizeOf4
  v4 := Try.zeroValue4
  t22 := Try.underlying51
  a22 := Try.isAgg51
  z22 := Try.sizeOf51
  v22 := Try.zeroValue51
  a23 := Try.isAgg28
  z23 := Try.sizeOf28
  t25 := Try.underlying72
  a25 := Try.isAgg72
  z25 := Try.sizeOf72
  v25 := Try.zeroValue72 }
end Go.Proofs
end

section
namespace Go.Proofs.Ytjppookmjdaplaa.K
open Go Go.RowKit Go.Maps Go.Proofs.YtjppookmjdaplaaW.PrintWords Go.Proofs.YtjppookmjdaplaaW.PrintLast Go.Proofs.YtjppookmjdaplaaW.PrintMore Go.Proofs.Ytjppookmjdaplaa.My
open Go.Sort (Holds putRow putCells mapBlock onCells)
variable {Z : Nat}
/-- A number on a batches' map. -/
abbrev UId : Type := { x : Int // 0 ≤ x ∧ x < 4294967296 }
instance : Inhabited UId := ⟨⟨0, by omega⟩⟩
def jS (x : UId) : Value := .int .u32 x.1
/-- Is it of that state, and not ended? -/
def CS.isB (s : CS) (st id : Int) : Bool := match s.inn id st with | some b => !b.ended | none => false
section
variable {w : World} {B c : Nat} {s : CS} {mb n : Nat} {D : DataW Nat} {ptr mp : Int → Nat}
set_option maxRecDepth 20000 in
theorem rQ (h : CoX Z w B c s mb n D ptr mp) {b2 b3 : Nat} {st : Int} (h2 : w.heap[b2]? = some (.cells #[.pointer (some ⟨c, 0, none⟩)] 23 (0, 0))) (h3 : w.heap[b3]? = some (.cells #[.int .u8 st] 5 (0, 0))) (id : UId) :
    Calls Try.prog 85 #[jS id, .pointer (some ⟨b2, 0, none⟩), .pointer (some ⟨b3, 0, none⟩)] w fun e w' => e = .returned (.bool (s.isB st id.1)) ∧ w' = w := by
  obtain ⟨id, hid⟩ := id
  show Calls _ _ #[.int .u32 id, _, _] w _
  simp only
  have y2 := (iE h2 0).trans (show _ = some (Value.pointer (some ⟨c, 0, none⟩)) from rfl)
  have y3 := (iE h3 0).trans (show _ = some (Value.int .u8 st) from rfl)
  have hin := oK h hid (st := st)
  unfold ptrI at hin
  cases hI : s.inn id st with
  | none =>
    rw [hI] at hin
    rw [show s.isB st id = false from by unfold CS.isB; rw [hI]]
    clear h hid hI h2 h3
    go_enter Try.func85, Try.ntmps85
    go_wp2_with (go_at_call 41; refine hin.mono ?_; rintro e w1 ⟨rfl, rfl⟩)
    go_ret
    exact ⟨rfl, rfl⟩
  | some b =>
    rw [hI] at hin
    rw [show s.isB st id = !b.ended from by unfold CS.isB; rw [hI]]
    have z4 := (h.bat id b (CS.inn_get hI).1).cells.2.2.2
    clear h hid hI h2 h3
    go_enter Try.func85, Try.ntmps85
    go_wp2_with (go_at_call 41; refine hin.mono ?_; rintro e w1 ⟨rfl, rfl⟩)
    go_ret
    exact ⟨rfl, rfl⟩
set_option maxRecDepth 20000 in
theorem rU (h : CoX Z w B c s mb n D ptr mp) {b2 b3 b5 : Nat} {st : Int} (h2 : w.heap[b2]? = some (.cells #[.pointer (some ⟨c, 0, none⟩)] 23 (0, 0))) (h3 : w.heap[b3]? = some (.cells #[.int .u8 st] 5 (0, 0)))
    (h5 : w.heap[b5]? = some (.cells #[.func (.func 85) #[] #[.pointer (some ⟨b2, 0, none⟩), .pointer (some ⟨b3, 0, none⟩)]] 72 (0, 0))) (id : UId) :
    Calls Try.prog 89 #[jS id, .pointer (some ⟨b5, 0, none⟩)] w fun e w' => e = .returned (.bool (!s.isB st id.1)) ∧ w' = w := by
  have hc := rQ h h2 h3 id
  have y5 := (iE h5 0).trans (show _ = some (Value.func (.func 85) #[] #[.pointer (some ⟨b2, 0, none⟩), .pointer (some ⟨b3, 0, none⟩)]) from rfl)
  obtain ⟨q, hq⟩ : ∃ q, q = s.isB st id.1 := ⟨_, rfl⟩
  rw [← hq] at hc ⊢
  unfold jS at hc ⊢
  clear h h2 h3 h5 hq
  go_enter Try.func89, Try.ntmps89
  go_wp2_with (go_at_call 85; refine hc.mono ?_; rintro e w1 ⟨rfl, rfl⟩)
  go_ret
  exact ⟨rfl, rfl⟩
end
end Go.Proofs.Ytjppookmjdaplaa.K
end

section
namespace Go.Proofs.Ytjppookmjdaplaa.K
open Go Go.RowKit Go.Maps Go.Proofs.YtjppookmjdaplaaW.PrintWords Go.Proofs.YtjppookmjdaplaaW.PrintLast Go.Proofs.YtjppookmjdaplaaW.PrintMore Go.Proofs.Ytjppookmjdaplaa.My
open Go.Sort (Holds putRow putCells mapBlock onCells grow)
variable {Z : Nat}
def jF (L : List UId) : List Int := L.map (·.1)
theorem jQ (w : World) (g q : Nat) (d : Array UId) (os : Array Obj) {j : Nat} (hj : j ≠ g) (hlt : j < w.heap.size) : (sortWorld jS w g 0 q d os).heap[j]? = w.heap[j]? := by
  show ((w.heap.modify g (onCells (putCells jS 0 d))) ++ os)[j]? = _
  rw [Array.getElem?_append_left (by simpa using hlt), Array.getElem?_modify, if_neg (Ne.symm hj)]
/-- A row of numbers behind its being rewritten: a piece of it, read. -/
theorem vX {w : World} {g q B' cap k : Nat} {cur : Array Value} {os : Array Obj} (dd : List UId) (hk : k ≤ dd.length) (hd : dd.length ≤ cap) (hg : w.heap[g]? = some (.cells cur 28 (0, 0))) (hcs : cur.size = cap) (hcm : cap ≤ maxLen) (hb : B' ≤ g) :
    kU.R 28 (grow (putRow jS (Sort.ahead w q) g 0 dd.toArray) os) B' (fun _ => True) (.slice (some ⟨g, 0, none⟩) k cap) (jF (dd.take k)) := by
  have hlen : (jF (dd.take k)).length = k := by simp [jF]; omega
  have h := Kd.R_of_own (enc := Value.int .u32) (h1 := fun _ => rfl) (e := 28) (w := grow (putRow jS (Sort.ahead w q) g 0 dd.toArray) os) (base := B') (ok := fun _ => True) (v := .slice (some ⟨g, 0, none⟩) k cap) (xs := jF (dd.take k)) ?_ (fun _ _ => trivial)
  · exact h
  refine ⟨by simp [encs], .inr ⟨g, cap, putCells jS 0 dd.toArray cur, by rw [hlen], hb, ?_, by rw [hlen]; omega, hcm, by simp [putCells, hcs], ?_⟩⟩
  · have hlt := jE hg
    show ((w.heap.modify g (onCells (putCells jS 0 dd.toArray))) ++ os)[g]? = _
    rw [Array.getElem?_append_left (by simpa using hlt), Array.getElem?_modify, if_pos rfl, hg]
    rfl
  · rw [Nat.mul_one, hlen]
    refine List.ext_getElem? (fun j => ?_)
    by_cases hj : j < k
    · have hj1 : j < dd.length := by omega
      have hj2 : j < cur.size := by omega
      rw [List.getElem?_take_of_lt hj, Array.getElem?_toList]
      simp [putCells, hj1, hj2, encs, jF, List.getElem?_take_of_lt hj, jS]
    · rw [List.getElem?_take_eq_none (by omega), List.getElem?_eq_none (by simp [encs, hlen]; omega)]
theorem nS {w : World} {g q : Nat} {os : Array Obj} (d : Array UId) : w.grownBy (grow (putRow jS (Sort.ahead w q) g 0 d) os) (some g) :=
  ⟨rfl, rfl, rfl, by show w.heap.size ≤ ((w.heap.modify g _) ++ os).size; simp, fun j hlt hj => by
    show ((w.heap.modify g (onCells (putCells jS 0 d))) ++ os)[j]? = _
    rw [Array.getElem?_append_left (by simpa using hlt), Array.getElem?_modify, if_neg (fun e => hj (by rw [e]))]⟩
theorem oD (w : World) : grow w #[] = w := by unfold grow; simp
section
variable {w : World} {B c : Nat} {s : CS} {mb n : Nat} {D : DataW Nat} {ptr mp : Int → Nat}
/-- What the closures look at stays where a row of numbers is rewritten. -/
theorem CoX.sortW (h : CoX Z w B c s mb n D ptr mp) {g : Nat} {cur : Array Value} (hg : w.heap[g]? = some (.cells cur 28 (0, 0))) (q : Nat) (d : Array UId) (os : Array Obj) : CoX Z (sortWorld jS w g 0 q d os) B c s mb n D ptr mp := by
  have hc : ∀ {j : Nat} {t : TypeId} {cs : Array Value}, w.heap[j]? = some (.cells cs t (0, 0)) → t ≠ 28 → (sortWorld jS w g 0 q d os).heap[j]? = w.heap[j]? := fun hj ht => jQ w g q d os (fun e => by subst e; rw [hg] at hj; cases hj; exact ht rfl) (jE hj)
  have hm : ∀ {k : TypeId} {R : Value → Option (DataW Nat × List MemPlace)} {j n : Nat} {E : DataW Nat}, w.ownsMap Try.prog k R j n E → (sortWorld jS w g 0 q d os).heap[j]? = w.heap[j]? := fun hj => jQ w g q d os (fun e => by subst e; exact jV hj _ _ _ hg) hj.lt
  obtain ⟨A, k, h1, _⟩ := h.blk
  refine h.step (by show w.heap.size ≤ ((w.heap.modify g _) ++ os).size; simp) (hc h1 (by decide)) (hm h.own) (fun id b hb => ?_) (fun k t cs ht hk => hc hk (by rcases ht with rfl | rfl <;> decide))
  obtain ⟨A', k', h2, _⟩ := (h.bat id b hb).blk
  obtain ⟨E, h3, _⟩ := (h.bat id b hb).map
  exact ⟨hc h2 (by decide), hm h3⟩
/-- The numbers of a state, of those that are given. -/
def mW (s : CS) (st : Int) (L : List UId) : List UId := L.filter fun x => !(!s.isB st x.1)
theorem pV (s : CS) (st : Int) (L : List UId) : jF (mW s st L) = (jF L).filter (s.isB st) := by
  unfold jF mW
  rw [List.filter_map]
  congr 1
  refine List.filter_congr (fun x _ => ?_)
  simp
theorem idx0 (fv : Value) (A : Option Addr) (cp : Nat) (w : World) : Calls Try.prog 97 #[.slice A 0 cp, fv] w fun e w' => e = .returned (.int .i64 (-1)) ∧ w' = w := by
  go_enter Try.func97, Try.ntmps97
  go_wp2
  refine wp_loop_rounds 1 ?_
  rw [rounds_succ]
  go_wp2
  go_ret
  exact ⟨rfl, rfl⟩
theorem del0 (fv : Value) (A : Option Addr) (cp : Nat) (w : World) : Calls Try.prog 86 #[.slice A 0 cp, fv] w fun e w' => e = .returned (.slice A 0 cp) ∧ w' = w := by
  have hcall := idx0 fv A cp w
  go_enter Try.func86, Try.ntmps86
  go_wp2_with (go_at_call 97; refine hcall.mono ?_; rintro e w1 ⟨rfl, rfl⟩)
  go_ret
  exact ⟨rfl, rfl⟩
theorem delU (h : CoX Z w B c s mb n D ptr mp) {b2 b3 b5 : Nat} {st : Int} (h2 : w.heap[b2]? = some (.cells #[.pointer (some ⟨c, 0, none⟩)] 23 (0, 0))) (h3 : w.heap[b3]? = some (.cells #[.int .u8 st] 5 (0, 0)))
    (h5 : w.heap[b5]? = some (.cells #[.func (.func 85) #[] #[.pointer (some ⟨b2, 0, none⟩), .pointer (some ⟨b3, 0, none⟩)]] 72 (0, 0))) {B' : Nat} {A : Option Addr} {cp : Nat} (L : List UId) (hR : kU.R 28 w B' (fun _ => True) (.slice A L.length cp) (jF L)) :
    Calls Try.prog 86 #[.slice A L.length cp, .func (.func 89) #[] #[.pointer (some ⟨b5, 0, none⟩)]] w fun e w' => ∃ v, e = .returned v ∧ kU.R 28 w' B' (fun _ => True) v ((jF L).filter (s.isB st)) ∧ w.grownBy w' (Value.slice A L.length cp).ownBlock := by
  have hln : (jF L).length = L.length := by simp [jF]
  have ho := Kd.own_of_R hR
  rw [hln] at ho
  rcases ho.2 with ⟨hv, h0⟩ | ⟨g, cap, cur, hv, hbg, hg, hnc, hcm, hcs, htk⟩
  · have hL0 : L = [] := List.length_eq_zero_iff.1 h0
    subst hL0
    refine (del0 _ A cp w).mono ?_
    rintro e w' ⟨rfl, rfl⟩
    exact ⟨_, rfl, hR, World.grownBy.refl _ _⟩
  · simp only [Value.slice.injEq] at hv
    obtain ⟨rfl, _, rfl⟩ := hv
    rw [Nat.mul_one] at htk hcs
    have hcell : ∀ j (hj : j < L.length), cur[j]? = some (jS (L[j])) := fun j hj => by
      have : (cur.toList.take L.length)[j]? = (encs (Value.int .u32) (jF L))[j]? := by rw [htk]
      rw [List.getElem?_take_of_lt hj, Array.getElem?_toList] at this
      rw [this]
      simp [encs, jF, List.getElem?_eq_getElem hj, jS]
    have hH : Holds jS w g 0 L.toArray := fun j hj => by
      have hj' : j < L.length := by simpa using hj
      rw [Nat.zero_add]
      refine ⟨?_, iH hg j⟩
      rw [iE hg j, hcell j hj', getElem!_pos L.toArray j hj]; simp
    have hpc := fun (W : World) (x : UId) (hX : CoX Z W B c s mb n D ptr mp) (e2 : W.heap[b2]? = _) (e3 : W.heap[b3]? = _) (e5 : W.heap[b5]? = _) => (rU hX (st := st) e2 e3 e5 x).mono (R' := fun e w' => e = .returned (.bool (!s.isB st x.1)) ∧ ∃ q, w' = W.drewN q) (fun e w' hh => ⟨hh.1, 0, hh.2⟩)
    have hne : ∀ {j : Nat} {t : TypeId} {cs : Array Value}, w.heap[j]? = some (.cells cs t (0, 0)) → t ≠ 28 → j ≠ g := fun hj ht e => by subst e; rw [hg] at hj; cases hj; exact ht rfl
    have hk := AnyE.slices_DeleteFunc Try.dfuA jS (fun _ => rfl) (fun x => !s.isB st x.1) 89 #[.pointer (some ⟨b5, 0, none⟩)] (enters_of Try.func89 (by kernel_rfl) rfl) (⟨0, by omega⟩ : UId) (fun w => by kernel_rfl) g 0 cp L.toArray w
      (fun W x hb => hpc W x (h.below hb) (iJ hb h2) (iJ hb h3) (iJ hb h5))
      (fun q os dk x _ => hpc _ x (h.sortW hg q dk os) ((jQ w g q dk os (hne h2 (by decide)) (jE h2)).trans h2) ((jQ w g q dk os (hne h3 (by decide)) (jE h3)).trans h3) ((jQ w g q dk os (hne h5 (by decide)) (jE h5)).trans h5))
      hH (by simp [maxLen] at *; omega) (by simpa using hnc)
    simp only [List.size_toArray] at hk
    refine Calls.mono hk ?_
    rintro e w' ⟨rfl, q, rfl⟩
    have hfl : (mW s st L).length ≤ L.length := List.length_filter_le _ _
    have hR2 := vX (q := q) (os := #[]) (k := (mW s st L).length) (mW s st L ++ List.replicate (L.length - (mW s st L).length) (⟨0, by omega⟩ : UId)) (by rw [List.length_append]; omega) (by rw [List.length_append, List.length_replicate]; omega) hg hcs hcm hbg
    rw [List.take_append_of_le_length (Nat.le_refl _), List.take_length, pV, oD] at hR2
    have hG := nS (w := w) (g := g) (q := q) (os := #[]) (mW s st L ++ List.replicate (L.length - (mW s st L).length) (⟨0, by omega⟩ : UId)).toArray
    rw [oD] at hG
    exact ⟨_, rfl, hR2, hG⟩
end
end Go.Proofs.Ytjppookmjdaplaa.K
end

section
namespace Go.Proofs.Ytjppookmjdaplaa.K
open Go Go.RowKit Go.Maps Go.Proofs.YtjppookmjdaplaaW.PrintWords Go.Proofs.YtjppookmjdaplaaW.PrintLast Go.Proofs.YtjppookmjdaplaaW.PrintMore Go.Proofs.Ytjppookmjdaplaa.My
open Go.Sort (Holds putRow putCells mapBlock onCells grow)
theorem uZ (w : World) : Calls Try.prog 111 #[.int .u64 0] w fun e w' => ∃ x : Int, e = .returned (.int .i64 x) ∧ w' = w := by
  go_enter Try.func111, Try.ntmps111
  go_wp2
  go_ret
  exact ⟨_, rfl, rfl⟩
theorem vG (w : World) : Calls Try.prog 111 #[.int .u64 1] w fun e w' => ∃ x : Int, e = .returned (.int .i64 x) ∧ w' = w := by
  go_enter Try.func111, Try.ntmps111
  go_wp2
  go_ret
  exact ⟨_, rfl, rfl⟩
theorem xX (n : Nat) (hn : n ≤ 1) (w : World) : Calls Try.prog 92 #[.int .u64 n] w fun e w' => ∃ x : Int, e = .returned (.int .i64 x) ∧ w' = w := by
  rcases (by omega : n = 0 ∨ n = 1) with rfl | rfl
  · have hc := uZ w
    go_enter Try.func92, Try.ntmps92
    go_wp2_with (go_at_call 111; refine hc.mono ?_; rintro e w1 ⟨x, rfl, rfl⟩)
    go_ret
    exact ⟨_, rfl, rfl⟩
  · have hc := vG w
    go_enter Try.func92, Try.ntmps92
    go_wp2_with (go_at_call 111; refine hc.mono ?_; rintro e w1 ⟨x, rfl, rfl⟩)
    go_ret
    exact ⟨_, rfl, rfl⟩
theorem xG (n : Nat) (hn : n ≤ 1) (A : Option Addr) (cp : Nat) (w : World) : Calls Try.prog 120 #[.slice A n cp, .int .i64 0, .int .i64 n] w fun e w' => e = .returned (.tuple #[]) ∧ w' = w := by
  rcases (by omega : n = 0 ∨ n = 1) with rfl | rfl
  · go_enter Try.func120, Try.ntmps120
    go_wp2
    refine wp_loop_rounds 1 ?_
    rw [rounds_succ]
    go_wp2
    first | go_end0 | refine bodyPost_ret (results_none rfl _ _ _) rfl ?_
    exact ⟨rfl, rfl⟩
  · go_enter Try.func120, Try.ntmps120
    go_wp2
    refine wp_loop_rounds 1 ?_
    rw [rounds_succ]
    go_wp2
    first | go_end0 | refine bodyPost_ret (results_none rfl _ _ _) rfl ?_
    exact ⟨rfl, rfl⟩
theorem xC (n : Nat) (hn : n ≤ 1) (A : Option Addr) (cp : Nat) (lim : Int) (w : World) : Calls Try.prog 113 #[.slice A n cp, .int .i64 0, .int .i64 n, .int .i64 lim] w fun e w' => e = .returned (.tuple #[]) ∧ w' = w := by
  have hc := xG n hn A cp w
  rcases (by omega : n = 0 ∨ n = 1) with rfl | rfl
  · go_enter Try.func113, Try.ntmps113
    go_wp2
    refine wp_loop_rounds 1 ?_
    rw [rounds_succ]
    go_wp2_with (go_at_call 120; refine hc.mono ?_; rintro e w1 ⟨rfl, rfl⟩)
    first | go_end0 | refine bodyPost_ret (results_none rfl _ _ _) rfl ?_
    exact ⟨rfl, rfl⟩
  · go_enter Try.func113, Try.ntmps113
    go_wp2
    refine wp_loop_rounds 1 ?_
    rw [rounds_succ]
    go_wp2_with (go_at_call 120; refine hc.mono ?_; rintro e w1 ⟨rfl, rfl⟩)
    first | go_end0 | refine bodyPost_ret (results_none rfl _ _ _) rfl ?_
    exact ⟨rfl, rfl⟩
theorem uS (n : Nat) (hn : n ≤ 1) (A : Option Addr) (cp : Nat) (w : World) : Calls Try.prog 99 #[.slice A n cp] w fun e w' => e = .returned (.tuple #[]) ∧ w' = w := by
  have hb := xX n hn w
  have hp := fun l => xC n hn A cp l w
  rcases (by omega : n = 0 ∨ n = 1) with rfl | rfl
  · go_enter Try.func99, Try.ntmps99
    go_wp2_with (first
      | (go_at_call 92; refine hb.mono ?_; rintro e w1 ⟨x, rfl, rfl⟩)
      | (go_at_call 113; refine (hp _).mono ?_; rintro e w1 ⟨rfl, rfl⟩))
    first | go_end0 | refine bodyPost_ret (results_none rfl _ _ _) rfl ?_
    exact ⟨rfl, rfl⟩
  · go_enter Try.func99, Try.ntmps99
    go_wp2_with (first
      | (go_at_call 92; refine hb.mono ?_; rintro e w1 ⟨x, rfl, rfl⟩)
      | (go_at_call 113; refine (hp _).mono ?_; rintro e w1 ⟨rfl, rfl⟩))
    first | go_end0 | refine bodyPost_ret (results_none rfl _ _ _) rfl ?_
    exact ⟨rfl, rfl⟩
end Go.Proofs.Ytjppookmjdaplaa.K
end

section
namespace Go.Proofs.Ytjppookmjdaplaa.K
open Go Go.RowKit Go.Maps Go.Proofs.YtjppookmjdaplaaW.PrintWords Go.Proofs.YtjppookmjdaplaaW.PrintLast Go.Proofs.YtjppookmjdaplaaW.PrintMore Go.Proofs.Ytjppookmjdaplaa.My
open Go.Sort (Holds putRow putCells mapBlock onCells grow)
variable {Z : Nat}
/-- slices.Sort of at most n numbers. -/
def oQ (n : Nat) : Prop := ∀ (L : List UId) (A : Option Addr) (cp B' : Nat) (w : World), L.length ≤ n → kU.R 28 w B' (fun _ => True) (.slice A L.length cp) (jF L) →
  Calls Try.prog 99 #[.slice A L.length cp] w fun e w' => e = .returned (.tuple #[]) ∧ ∃ L' : List UId, L'.Perm L ∧ L'.Pairwise (fun x y => x.1 ≤ y.1) ∧ kU.R 28 w' B' (fun _ => True) (.slice A L.length cp) (jF L') ∧ w.grownBy w' (Value.slice A L.length cp).ownBlock
theorem oI : oQ 1 := fun L A cp B' w hn hR => (uS L.length hn A cp w).mono (by
  rintro e w' ⟨rfl, rfl⟩
  refine ⟨rfl, L, .refl _, ?_, hR, World.grownBy.refl _ _⟩
  rcases L with _ | ⟨a, _ | ⟨b, r⟩⟩
  · exact .nil
  · exact List.Pairwise.cons (fun x hx => (by cases hx)) .nil
  · simp only [List.length_cons] at hn; omega)
theorem nM : ∀ (ss m : List Int), ss.Nodup → (∀ x ∈ ss, x ∈ m) → ss.length ≤ m.length
  | [], _, _, _ => Nat.zero_le _
  | a :: r, m, hn, hs => by
    have ha : a ∈ m := hs a (by simp)
    have hn' := List.nodup_cons.1 hn
    have h := nM r (m.erase a) hn'.2 (fun x hx => (List.mem_erase_of_ne (fun e => hn'.1 (by subst e; exact hx))).2 (hs x (by simp [hx])))
    rw [List.length_erase_of_mem ha] at h
    have : 0 < m.length := List.length_pos_of_mem ha
    simp only [List.length_cons]; omega
def upU (ss : List Int) (h : ∀ x ∈ ss, 0 ≤ x ∧ x < 4294967296) : List UId := ss.pmap (fun x hx => ⟨x, hx⟩) h
theorem rO (ss : List Int) (h : ∀ x ∈ ss, 0 ≤ x ∧ x < 4294967296) : jF (upU ss h) = ss := by
  unfold jF upU
  rw [List.map_pmap]
  simp
/-- slices.Sorted of a map's keys. -/
theorem vZ {k : Nat} (hS : oQ k) (Bm mb nn : Nat) (D0 : DataW Nat) (w : World) (hBm : w.heap[Bm]? = some (.cells #[.map (some mb)] 74 (0, 0))) (hown : UM w mb nn D0) (hN : Maps.size D0 ≤ 1000000) (hK : ∀ ss, o7 D0 ss → ss.length ≤ k ∧ ∀ x ∈ ss, 0 ≤ x ∧ x < 4294967296) :
    Calls Try.prog 87 #[.func (.func 100) #[] #[.pointer (some ⟨Bm, 0, none⟩)]] w fun e w' => ∃ (A : Option Addr) (cp : Nat) (L : List UId), e = .returned (.slice A L.length cp) ∧ o7 D0 (jF L) ∧ L.Pairwise (fun x y => x.1 ≤ y.1) ∧ kU.R 28 w' w.heap.size (fun _ => True) (.slice A L.length cp) (jF L) ∧ Below w.heap.size w w' := by
  have hcall := rW Bm mb nn D0 w hBm hown hN
  have HK := iC.mk hK
  clear hBm hown hN hK
  go_enter Try.func87, Try.ntmps87
  go_wp2_with fail
  go_at_call 98
  refine hcall.mono ?_
  rintro e w1 ⟨v, ss, rfl, hk, hR, hb⟩
  obtain ⟨A, cp, rfl⟩ := Kd.R_slice hR
  obtain ⟨hl, hr⟩ := HK.out ss hk
  obtain ⟨L, hL⟩ : ∃ L, L = upU ss hr := ⟨_, rfl⟩
  have hv : jF L = ss := by rw [hL]; exact rO ss hr
  have hln : L.length = ss.length := by rw [← hv]; simp [jF]
  rw [← hv] at hk hR
  rw [← hln] at hl ⊢
  rw [show (jF L).length = L.length from by simp [jF]] at hR
  have hso := hS L A cp w.heap.size w1 hl hR
  have HB := iC.mk hb
  have HR := iC.mk hR
  have HKK := iC.mk hk
  clear hcall hk hR hb hl hr hL hv hln HK ss
  go_wp2_with fail
  go_at_call 99
  refine hso.mono ?_
  rintro e w2 ⟨rfl, L', hp, hpw, hR2, hg⟩
  have hlow : ∀ j, (Value.slice A L.length cp).ownBlock = some j → w.heap.size ≤ j := fun j hj => by
    obtain ⟨inner, ho⟩ := Kd.R_own HR.out
    have := own_base ho j hj; omega
  have HB2 := iC.mk (HB.out.grown hg HB.out.size hlow)
  have hln := hp.length_eq
  have H := iC.mk (And.intro hp (And.intro hpw hR2))
  clear hso hp hpw hR2 hg hlow hS
  go_wp2
  go_ret
  refine ⟨A, cp, L', by show Ending.returned (.slice A L.length cp) = _; rw [hln], ⟨(H.out.1.map _).nodup_iff.2 HKK.out.1, fun x => ((H.out.1.map _).mem_iff).trans (HKK.out.2 x)⟩, H.out.2.1, ?_, HB2.out⟩
  rw [hln]; exact H.out.2.2
/-- What 'all' tells. -/
structure AllU (s : CS) (st : Int) (l : List Int) : Prop where
  le : l.Pairwise (· ≤ ·)
  nd : l.Nodup
  mem : ∀ x, x ∈ l ↔ s.isB st x = true
theorem CS.isB_get {s : CS} {st id : Int} (h : s.isB st id = true) : ∃ b, getB s.L id = some b := by
  unfold CS.isB at h
  cases hi : s.inn id st with
  | none => rw [hi] at h; cases h
  | some b => exact ⟨b, (CS.inn_get hi).1⟩
theorem uJ (P : Program) (w : World) (a : Addr) (m : Mode) (fn : Fn) (first captured : Array Value) : (store a (.func fn first captured) m).run P w = stored P w a (.func fn first captured) m := run_store P w a _ m rfl
section
variable {w : World} {B c : Nat} {s : CS} {mb n : Nat} {D : DataW Nat} {ptr mp : Int → Nat}
theorem CoX.has (h : CoX Z w B c s mb n D ptr mp) (id : Int) : Maps.has D (.int .u32 id) = true ↔ ∃ b, getB s.L id = some b := by
  have hat := h.at_ id
  cases hg : getB s.L id with
  | some b =>
    rw [hg] at hat
    exact ⟨fun _ => ⟨b, rfl⟩, fun _ => has_true_of_atKey hat⟩
  | none =>
    rw [hg] at hat
    refine ⟨fun hh => ?_, fun ⟨b, hb⟩ => by cases hb⟩
    rw [has_false_of_atKey hat] at hh; cases hh
theorem CoX.keys (h : CoX Z w B c s mb n D ptr mp) {ss : List Int} (hk : o7 D ss) : ss.length ≤ s.L.length ∧ ∀ x ∈ ss, 0 ≤ x ∧ x < 4294967296 := by
  have hm : ∀ x ∈ ss, ∃ b, getB s.L x = some b := fun x hx => (h.has x).1 ((hk.2 x).1 hx)
  refine ⟨?_, fun x hx => ?_⟩
  · have := nM ss (keysB s.L) hk.1 (fun x hx => by obtain ⟨b, hb⟩ := hm x hx; exact List.mem_map.2 ⟨_, kQ hb, rfl⟩)
    simpa [keysB] using this
  · obtain ⟨b, hb⟩ := hm x hx
    exact h.ok.key _ (kQ hb)
end
attribute [local go_sem] uJ
set_option maxRecDepth 20000 in
theorem vJ {w : World} {B c : Nat} {s : CS} {n k : Nat} (hS : oQ k) (h : Co Z w B c n s) (hs : s.L.length ≤ k) (hn : n ≤ 1000000) (st : Int) :
    Calls Try.prog 64 #[.pointer (some ⟨c, 0, none⟩), .int .u8 st] w fun e w' => ∃ (v : Value) (l : List Int), e = .returned v ∧ kU.R 28 w' w.heap.size (fun _ => True) v l ∧ AllU s st l ∧ Below w.heap.size w w' := by
  obtain ⟨mb, D, ptr, mp, h⟩ := h
  have HH := iC.mk h
  have c0 := h.cells.1
  have hclt := h.clt
  obtain ⟨W4, hW4⟩ : ∃ W4, W4 = ((w.alloc (.cells #[.pointer (some ⟨c, 0, none⟩)] 23)).alloc (.cells #[.int .u8 st] 5)).alloc (.cells #[(Value.func (.func 85) #[] #[.pointer (some ⟨w.heap.size, 0, none⟩), .pointer (some ⟨w.heap.size + 1, 0, none⟩)])] 72) := ⟨_, rfl⟩
  have hb4 : Below w.heap.size w W4 := by
    rw [hW4]
    exact iD (iD (iD (Below.refl _ _) _) _) _
  have g2 : W4.heap[w.heap.size]? = some (.cells #[.pointer (some ⟨c, 0, none⟩)] 23 (0, 0)) := by
    rw [hW4]; exact iJ (iD (Below.refl _ _) _) (iJ (iD (Below.refl _ _) _) (iM rfl))
  have g3 : W4.heap[w.heap.size + 1]? = some (.cells #[.int .u8 st] 5 (0, 0)) := by
    rw [hW4]; exact iJ (iD (Below.refl _ _) _) (iM (by simp))
  have g5 : W4.heap[w.heap.size + 1 + 1]? = some (.cells #[(Value.func (.func 85) #[] #[.pointer (some ⟨w.heap.size, 0, none⟩), .pointer (some ⟨w.heap.size + 1, 0, none⟩)])] 72 (0, 0)) := by
    rw [hW4]; exact iM (by simp)
  have h4 := h.below hb4
  have y0 := h4.cells.1
  rw [hW4] at y0
  have hsz4 : w.heap.size ≤ W4.heap.size := hb4.size
  obtain ⟨W5, hW5⟩ : ∃ W5, W5 = W4.alloc (.cells #[.map (some mb)] 74) := ⟨_, rfl⟩
  have hal : Below W4.heap.size W4 W5 := by rw [hW5]; exact iD (Below.refl _ _) _
  have h5 := h4.below hal
  have hso := vZ hS W4.heap.size mb n D W5 (by rw [hW5]; exact iM rfl) h5.own (by have := h5.own.size_le; omega) (fun ss hk => ⟨Nat.le_trans (h5.keys hk).1 hs, (h5.keys hk).2⟩)
  have hkeys := pY (some mb) W4
  rw [← hW5] at hkeys
  have HB5 := iC.mk (hb4.trans (hal.mono hsz4))
  have H5 := iC.mk h5
  have G2 := iC.mk (iJ hal g2)
  have G3 := iC.mk (iJ hal g3)
  have G5 := iC.mk (iJ hal g5)
  have HW4 := iC.mk hW4
  clear h hW5 hal h5 hb4 g2 g3 g5 h4 hS hs hclt hW4
  go_enter Try.func64, Try.ntmps64
  go_wp2_with fail
  rw [← HW4.out]
  clear y0
  go_at_call 88
  refine hkeys.mono ?_
  rintro e w1 ⟨rfl, rfl⟩
  clear hkeys
  go_wp2_with fail
  go_at_call 87
  refine hso.mono ?_
  rintro e w6 ⟨A, cp, L, rfl, hK, hle, hR, hb6⟩
  have h6 := H5.out.below hb6
  have hdel := delU (st := st) h6 (iJ hb6 G2.out) (iJ hb6 G3.out) (iJ hb6 G5.out) L hR
  have HB6 := iC.mk (iI HB5.out hb6)
  have HR6 := iC.mk hR
  have HA : iC (AllU s st ((jF L).filter (s.isB st))) := iC.mk ⟨List.Pairwise.sublist List.filter_sublist (List.pairwise_map.2 hle), hK.1.sublist List.filter_sublist, fun x => by
    rw [List.mem_filter, hK.2 x, h6.has x]
    exact ⟨fun hh => hh.2, fun hh => ⟨CS.isB_get hh, hh⟩⟩⟩
  have hsz := HB5.out.size
  clear hso hK hle hR h6 hb6
  go_wp2_with fail
  go_at_call 86
  refine hdel.mono ?_
  rintro e w7 ⟨v, rfl, hR7, hg⟩
  have hlow : ∀ j, (Value.slice A L.length cp).ownBlock = some j → w.heap.size ≤ j := fun j hj => by
    obtain ⟨inner, ho⟩ := Kd.R_own HR6.out
    have := own_base ho j hj; omega
  have HB7 := iC.mk (HB6.out.grown hg HB6.out.size hlow)
  have HR7 := iC.mk (Kd.R_lower hR7 hsz)
  clear hdel hR7 hg hlow
  go_wp2
  go_ret
  exact ⟨v, _, rfl, HR7.out, HA.out, HB7.out⟩
theorem open_any {w : World} {B c : Nat} {s : CS} {n k : Nat} (hS : oQ k) (h : Co Z w B c n s) (hs : s.L.length ≤ k) (hn : n ≤ 1000000) :
    Calls Try.prog 34 #[.pointer (some ⟨c, 0, none⟩)] w fun e w' => ∃ (v : Value) (l : List Int), e = .returned v ∧ kU.R 28 w' w.heap.size (fun _ => True) v l ∧ AllU s 1 l ∧ Below w.heap.size w w' := by
  have hc := vJ hS h hs hn 1
  clear h hs hn hS
  go_enter Try.func34, Try.ntmps34
  go_wp2_with (go_at_call 64; refine hc.mono ?_; rintro e w1 ⟨v, l, rfl, h1, h2, h3⟩)
  go_ret
  exact ⟨v, l, rfl, h1, h2, h3⟩
end Go.Proofs.Ytjppookmjdaplaa.K
end

section
namespace Go.Proofs.Ytjppookmjdaplaa.K
open Go Go.RowKit Go.Maps Go.Proofs.YtjppookmjdaplaaW.PrintWords Go.Proofs.YtjppookmjdaplaaW.PrintLast Go.Proofs.YtjppookmjdaplaaW.PrintMore Go.Proofs.Ytjppookmjdaplaa.My
theorem AllU.one {s : CS} {st a : Int} {l : List Int} (h : AllU s st l) (ha : ∀ x, s.isB st x = true ↔ x = a) : l.length = 1 := by
  have hm : ∀ x, x ∈ l ↔ x = a := fun x => (h.mem x).trans (ha x)
  have hn := h.nd
  rcases l with _ | ⟨x, _ | ⟨y, r⟩⟩
  · have := (hm a).2 rfl; cases this
  · rfl
  · obtain rfl := (hm x).1 (by simp)
    obtain rfl := (hm y).1 (by simp)
    simp at hn
theorem AllU.none {s : CS} {st : Int} {l : List Int} (h : AllU s st l) (ha : ∀ x, s.isB st x = false) : l = [] :=
  List.eq_nil_iff_forall_not_mem.2 (fun x hx => by have := (h.mem x).1 hx; rw [ha x] at this; cases this)
def dS (ns : List Int) : CB := ⟨1, 0, ns, [], false⟩
def eS : CS := ⟨[], 0, 0, 1, 1, [⟨0, 0⟩]⟩
theorem yB (ns : List Int) (x : Int) : (vS (dS ns)).isB 1 x = true ↔ x = 1 := by
  unfold CS.isB CS.inn vS getB getB
  by_cases e : (1 : Int) = x
  · subst e; simp [dS, Option.filter]
  · rw [if_neg e]; simp [Option.filter]; exact fun h => e h.symm
theorem qR (ns : List Int) : (vS (dS ns)).dropE 1 = true ∧ (vS (dS ns)).drop 1 = eS := by
  unfold CS.dropE CS.drop
  rw [xJ _ rfl]
  exact ⟨rfl, rfl⟩
attribute [-go_sem] Instr.build
attribute [local go_sem] qE
set_option maxRecDepth 20000 in
set_option maxHeartbeats 8000000 in
theorem coordDrops_walk (b n : Nat) (w : World) (hb : b < 256) (hn : n < 256) :
    Calls Try.prog 9 #[.int .u8 (b : Int), .int .u8 (n : Int)] w fun e w' => e = .returned (.bool true) ∧ Below w.heap.size w w' := by
  have hno := fun W => o9 (b : Int) W (by omega)
  have hrt := rD (b : Int)
  obtain ⟨ns, hns⟩ : ∃ ns, ns = kY (b : Int) := ⟨_, rfl⟩
  rw [← hns] at hno hrt
  have hnl := hrt.len
  have HRT := iC.mk hrt
  obtain ⟨M, hM⟩ : ∃ M, ns.length = M := ⟨_, rfl⟩
  have HM := iC.mk hM
  rw [hM] at hno hnl
  obtain ⟨k, hk⟩ : ∃ k : Nat, (n : Int) % 7 = (k : Int) := ⟨n % 7, by omega⟩
  have hk7 : k < 7 := by omega
  have hwk : wrap64 (k : Int) = (k : Int) := by unfold wrap64; omega
  have HWK := iC.mk (And.intro hk hwk)
  clear hb hn hns hrt hM hk hwk
  go_enter Try.func9, Try.ntmps9
  go_wp2_with fail
  go_at_call 10
  refine (new_any w).mono ?_
  rintro e w1 ⟨c, rfl, h1, hb1⟩
  have HB1 := iC.mk hb1
  have H1 := iC.mk h1
  clear h1 hb1
  go_wp2_with fail
  go_at_call 11
  refine (hno w1).mono ?_
  rintro e w2 ⟨A2, q2, rfl, hR2, hb2⟩
  have HB2 := iC.mk (iI HB1.out hb2)
  have H2 := iC.mk (H1.out.below hb2)
  have HR2 := iC.mk (Kd.R_lower hR2 HB1.out.size)
  clear hno hR2 hb2 HB1 H1
  by_cases hM0 : M = 0
  · have hkn := rF HB2.out
    subst hM0
    go_wp2_with (go_at_call 12; refine hkn.mono ?_; rintro e w3 ⟨rfl, hb3⟩)
    go_ret
    exact ⟨rfl, hb3⟩
  · have hne : ns ≠ [] := by intro e; rw [e] at HM; exact hM0 (by rw [← HM.out]; rfl)
    have hrb := nT HRT.out hne
    have hid : CS.new.beginId ns = (1, 0) := by unfold CS.beginId; rw [if_neg (by simp [hrb]), if_neg (by decide)]; rfl
    have hbe : CS.new.begin_ ns = vS (dS ns) := by unfold CS.begin_; rw [if_neg (by simp [hrb]), if_neg (by decide)]; rfl
    have hcall := mZ H2.out (fr_C HR2.out) (k := q2) (by rw [HM.out]; exact (R_C HR2.out).2.1) (by omega)
    rw [hid, hbe] at hcall
    rw [HM.out] at hcall
    clear hid hbe
    have hM1 : ((M : Int) == 0) = false := by simpa using hM0
    go_wp2_with fail
    go_at_call 13
    refine hcall.mono ?_
    rintro e w3 ⟨rfl, h3, hf3⟩
    have HF3 := iC.mk ((CoFr.of_below HB2.out (Nat.le_refl _)).trans hf3)
    have H3 := iC.mk h3
    have hop := open_any oI h3 (by exact Nat.le_refl _) (by omega)
    clear h3 hf3 hcall HB2 H2 HR2 hM0 hnl hM1 hrb
    go_wp2_with fail
    go_at_call 34
    refine hop.mono ?_
    rintro e w4 ⟨v4, l4, rfl, hR4, hA4, hb4⟩
    obtain ⟨A4, q4, rfl⟩ := Kd.R_slice hR4
    rw [hA4.one (yB ns)]
    have H4 := iC.mk (H3.out.below hb4)
    have HF4 := iC.mk (HF3.out.trans (CoFr.of_below hb4 H3.out.Ble))
    have hdr := oN H4.out (id := 1) (by omega)
    rw [(qR ns).1, (qR ns).2] at hdr
    clear hop hR4 hA4 hb4 H3 HF3
    go_wp2_with fail
    go_at_call 35
    refine hdr.mono ?_
    rintro e w5 ⟨rfl, h5, hf5⟩
    have HF5 := iC.mk (HF4.out.trans hf5)
    have hdr2 := oN h5 (id := 1) (by omega)
    rw [show eS.dropE 1 = false from rfl, show eS.drop 1 = eS from rfl] at hdr2
    clear hdr h5 hf5 H4 HF4
    go_wp2_with fail
    go_at_call 35
    refine hdr2.mono ?_
    rintro e w6 ⟨rfl, h6, hf6⟩
    have HF6 := iC.mk (HF5.out.trans hf6)
    have H6 := iC.mk h6
    have hkn := lH w6
    clear hdr2 h6 hf6 HF5
    go_wp2_with fail
    go_at_call 12
    refine hkn.mono ?_
    rintro e w7 ⟨rfl, hb7⟩
    have H7 := iC.mk (H6.out.below hb7)
    have HF7 := iC.mk (HF6.out.trans (CoFr.of_below hb7 H6.out.Ble))
    have hop := open_any oI H7.out (by exact Nat.zero_le _) (by omega)
    clear hkn hb7 H6 HF6
    go_wp2_with fail
    go_at_call 34
    refine hop.mono ?_
    rintro e w8 ⟨v8, l8, rfl, hR8, hA8, hb8⟩
    obtain ⟨A8, q8, rfl⟩ := Kd.R_slice hR8
    obtain rfl := hA8.none (fun x => rfl)
    have H8 := iC.mk (H7.out.below hb8)
    have HF8 := iC.mk (HF7.out.trans (CoFr.of_below hb8 H7.out.Ble))
    have hv := mD H8.out (id := 1) (by omega) (k : Int) (by omega)
    rw [show eS.voteE 1 (k : Int) = false from rfl, show eS.vote 1 (k : Int) = eS from rfl] at hv
    clear hop hR8 hA8 hb8 H7 HF7
    go_wp2_with fail
    rw [HWK.out.1]
    go_at_call 14
    refine hv.mono ?_
    rintro e w9 ⟨rfl, h9, hf9⟩
    have H9 := iC.mk h9
    have HF9 := iC.mk (HF8.out.trans hf9)
    have hst := kX h9 (id := 1) (by omega)
    rw [show eS.status 1 = (3, 0) from rfl] at hst
    clear hv h9 hf9 H8 HF8
    go_wp2_with fail
    go_at_call 16
    refine hst.mono ?_
    rintro e w10 ⟨rfl, hb10⟩
    have H10 := iC.mk (H9.out.below hb10)
    have HF10 := iC.mk (HF9.out.trans (CoFr.of_below hb10 H9.out.Ble))
    have hnd := qK H10.out (id := 1) (by omega)
    rw [show eS.nodes 1 = [] from rfl] at hnd
    clear hst hb10 H9 HF9
    go_wp2_with fail
    go_at_call 36
    refine hnd.mono ?_
    rintro e w11 ⟨v11, rfl, hR11, hb11⟩
    obtain ⟨A11, q11, rfl⟩ := Kd.R_slice hR11
    have HF11 := iC.mk (HF10.out.trans (CoFr.of_below hb11 H10.out.Ble))
    clear hnd hR11 hb11 H10 HF10
    go_wp2
    go_ret
    exact ⟨rfl, HF11.out.below⟩
end Go.Proofs.Ytjppookmjdaplaa.K
end
