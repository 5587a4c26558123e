/- frame.Scan. -/
import Derived.Test.YtbbhjceelghadaaEach
namespace Go.Proofs.Ytbbhjceelghadaa.My
open Go Go.RowKit Go.Proofs.YtbbhjceelghadaaW.PrintWords Go.Proofs.YtbbhjceelghadaaW.PrintMore Go.Proofs.YtbbhjceelghadaaW.PrintLast
attribute [local go_sem] Oper.semAt_some

/-- append(v, x) in a fenced walk. -/
theorem R_appendIn {F : Fence} {n : Nat} {P : Program} {ops : Array Oper} {rest : List Oper} {o : Oper} {a : Act} {Q : Exit → Act → World → Prop} {α : Type} (d : Kd α) {w0 W : World} (base : Nat) (hgd : o.guard = none) (s x : Operand) (t e : TypeId) (z : Value) (bytes : Nat)
    (ho : o.op = .call { callee := .builtin .append, args := #[s, x], argTypes := #[t, t] })
    (ht : P.underlying t = some (.slice e)) (hinfo : (P.info? e).map (fun i => (i.zero, i.size, i.bytes)) = some (some z, d.sz, bytes)) (hz : z.cells.size = d.sz) (hs0 : 0 < d.sz) (hb0 : 0 < bytes)
    (v : Value) (xs : List α) (p : α) (cs : List Value) (ok okp : Nat → Prop) (hs : a.eval s = v) (hx : a.eval x = .slice (some ⟨W.heap.size, 0, none⟩) 1 1) (hp : d.M W base okp p cs) (hokp : ∀ k, okp k → ok k ∧ some k ≠ v.ownBlock) (hfresh : ∀ k, W.heap.size ≤ k → ok k)
    (HO : d.R e W base ok v xs) (HB : Below base w0 W) (hbase : base ≤ W.heap.size) (hl : (xs.length + 1) * bytes ≤ 140737488355328)
    (h : ∀ v1 w1, d.R e w1 base ok v1 (xs ++ [p]) → Below base w0 w1 → W.grownBy w1 v.ownBlock → wpListIn F n P ops Q rest (a.put o.dst v1) w1) :
    wpListIn F n P ops Q (o :: rest) a (W.alloc (.cells cs.toArray e)) := by
  obtain ⟨h0, inner, hown, hr⟩ := HO
  obtain ⟨i0, hi, hzz⟩ := Option.map_eq_some_iff.1 hinfo
  simp only [Prod.mk.injEq] at hzz
  obtain ⟨hz0, hz1, hz2⟩ := hzz
  have hlen : xs.length + 1 ≤ 140737488355328 := Nat.le_trans (Nat.le_mul_of_pos_right _ hb0) hl
  have hys := d.K_len (d.K_of_M hp)
  refine wpListIn_plain hgd fun K hK' => ?_
  obtain ⟨v', w', hrun, hown', hg, _, hat⟩ := run_append_own_at (P := P) (W.alloc (.cells cs.toArray e)) base t o.type e i0 z d.sz bytes ht hi hz0 hz1 hz2 hz hs0 v xs.length inner (hown.alloc _) ⟨W.heap.size, 0, none⟩ 1 1 cs (by rw [hys]; simp)
    (by simpa using World.news_of_block (cs := cs.toArray) (t := e) (fr := (0, 0)) (heap_alloc_new W (.cells cs.toArray e))) (d.K_one (d.K_of_M hp)) (by simp only [maxLen]; omega) hl (by simp; omega)
  unfold Oper.wpIn
  refine ⟨?_, ?_⟩
  · simp [Oper.about, ho, resolve, Target.leads, Sem.run_pure]
  · rw [Oper.semAt_plain F _ _ (by rw [ho]; intro c hc'; cases hc')]
    simp [execOp, ho, resolve, invoke, builtin, hs, hx, hrun, Result.andThen]
    have hg' : W.grownBy w' v.ownBlock := World.grownBy.trans (World.grownBy_alloc W _ _) hg
    refine hK' _ _ (h v' w' (Kd.R_appended h0 hr hp hokp hfresh hown' hg' ?_) ((HB.alloc hbase _).grown hg (by simp; omega) (own_base hown)) hg')
    rcases hat with hat | hat
    · exact .inl hat
    · exact .inr ⟨_, hat, by simp⟩

/-- A loop's record changes: rows stay. -/
theorem R_putObj {α : Type} {d : Kd α} {e : Nat} {w : World} {base l : Nat} {ok : Nat → Prop} {v : Value} {xs : List α} {o : Obj} (h : d.R e w base ok v xs) (hl : w.heap[l]? = some o) (ho : o.isCells = false) (o' : Obj) : d.R e (w.putObj l o') base ok v xs :=
  Kd.R_mono (Kd.R_move (Kd.R_bound h) (fun k hk => by
    obtain ⟨_, _, _, q, hq, cells, hc⟩ := hk
    exact World.putObj_heap_other (fun e => by subst e; rw [hl] at hc; cases hc; cases ho))) (fun _ hk => hk.1)
theorem Boxed_putObj {w : World} {B l : Nat} {t : TypeId} {v : Value} {r : Loop} (h : Boxed w B t v) (hl : w.heap[l]? = some (.loop r)) (o' : Obj) : Boxed (w.putObj l o') B t v :=
  (World.putObj_heap_other (fun e => by subst e; have h2 := (show w.heap[B]? = _ from h).symm.trans hl; cases h2)).trans h

theorem each_any (n : Nat) (s : Value) (w : World) (hs : ∃ A m c, s = .slice A m c) : CallsIn Fence.wide n Try.prog 29 #[s] w fun e w' => e = .returned (.func (.func 34) #[] #[.pointer (some ⟨w.heap.size, 0, none⟩)]) ∧ w' = w.alloc (.cells #[s] 22) := by
  obtain ⟨A, m, c, rfl⟩ := hs
  refine callsIn_of_wp Try.func29 rfl trivial ?_ rfl
  simp only [Try.ntmps29, List.size_toArray, List.length_cons, List.length_nil, Nat.reduceAdd, Nat.reduceSub, Array.replicate_succ, Array.replicate_zero, List.push_toArray, List.append_toArray, List.nil_append, List.cons_append]
  gi_wp2
  go_ret
  exact ⟨rfl, rfl⟩

/-- An append, and two stores: what is no cells stays. -/
theorem keeps_step {B b1 b2 t1 t2 : Nat} {W w1 : World} {v x1 x2 : Value} (u1 u2 : Value) (hg : W.grownBy w1 v.ownBlock) (ht : ∀ k, v.ownBlock = some k → ∃ cells e, W.heap[k]? = some (.cells cells e (0, 0))) (h1 : Boxed W b1 t1 x1) (h2 : Boxed W b2 t2 x2) :
    KeepsFrom B W ((w1.setCell ⟨b1, 0, none⟩ u1).setCell ⟨b2, 0, none⟩ u2) := by
  refine ⟨by simp [World.setCell]; exact hg.size, fun k o _ hk ho => ?_⟩
  have n1 : k ≠ b1 := fun e => by subst e; have h3 := hk.symm.trans h1; cases h3; cases ho
  have n2 : k ≠ b2 := fun e => by subst e; have h3 := hk.symm.trans h2; cases h3; cases ho
  rw [Below.heap_setCell _ _ _ _ n2, Below.heap_setCell _ _ _ _ n1, hg.block k (blk_lt hk) (fun e => by
    obtain ⟨cells, q, hc⟩ := ht k e.symm
    have h3 := hk.symm.trans hc
    cases h3; cases ho)]
  exact hk
/-- What the loop keeps. -/
def IS (w0 : World) (nb B1 B2 : Nat) (pre : List Fr) (W : World) : Prop :=
  (∃ v, Boxed W B1 36 v ∧ OBB W nb v (frs pre)) ∧ Boxed W B2 3 (.int .i64 (lastK pre : Int)) ∧ Below w0.heap.size w0 W ∧ nb ≤ W.heap.size

set_option maxHeartbeats 2000000 in
theorem scan_any (A : Option Addr) (c : Nat) (l : List UInt8) (w0 : World) (hr : kb.C w0 A l.length l) (hc : l.length ≤ c) (hs : (l.length : Int) ≤ 1000000) :
    Calls Try.prog 20 #[.slice A l.length c] w0 fun e w' => ∃ v, e = .returned (.tuple #[v, .int .i64 (endB (scanB l) : Nat)]) ∧ OBB w' w0.heap.size v (scanB l) ∧ Below w0.heap.size w0 w' := by
  have HL := Aside0.mk hr
  clear hr
  refine (callsIn_wide (n := 5)).1 ?_
  refine callsIn_of_wp_marks Try.func20 rfl trivial ?_ rfl
  simp only [Try.ntmps20, List.size_toArray, List.length_cons, List.length_nil, Nat.reduceAdd, Nat.reduceSub, Array.replicate_succ, Array.replicate_zero, List.push_toArray, List.append_toArray, List.nil_append, List.cons_append]
  gi_wp2
  refine ⟨trivial, ?_⟩
  refine (each_any _ _ _ ⟨_, _, _, rfl⟩).mono ?_
  rintro e w1 ⟨rfl, rfl⟩
  obtain ⟨W0, hW0⟩ : ∃ W0, W0 = ((w0.alloc (.cells #[.slice none 0 0] 36)).alloc (.cells #[.int .i64 0] 3)).alloc (.cells #[.slice A l.length c] 22) := ⟨_, rfl⟩
  have hsz : W0.heap.size = w0.heap.size + 3 := by rw [hW0]; simp
  have hB0 : Below w0.heap.size w0 W0 := by rw [hW0]; (repeat (first | exact Below.refl _ _ | apply below_alloc | apply below_drew | apply pw_below_drewN | apply below_bytesWorld | (refine below_set ?_ (by first | assumption | omega)) | refine below_step ?_ (by assumption)))
  have hx1 : Boxed W0 w0.heap.size 36 (.slice none 0 0) := by rw [hW0]; exact heap_old' (heap_old' (heap_new' rfl))
  have hx2 : Boxed W0 (w0.heap.size + 1) 3 (.int .i64 0) := by rw [hW0]; exact heap_old' (heap_new' (by simp))
  have hx3 : W0.heap[w0.heap.size + 1 + 1]? = some (.cells #[.slice A l.length c] 22 (0, 0)) := by rw [hW0]; exact heap_new' (by simp)
  gi_wp2
  rw [← hW0]
  clear hW0
  refine range_g (F := Fence.wide) rfl (by decide) (gf := 34) (lb := #[.pointer (some ⟨w0.heap.size + 1 + 1, 0, none⟩)]) rfl trivial (enters_of Try.func34 (by kernel_rfl) rfl)
    (each_gives (5 - 1) (w0.heap.size + 1 + 1) 22 (0, 0) A c l w0 W0 HL.out hc hs hB0 hx3)
    (fun h k => ⟨h.1.trans k.1, k.2.trans h.2⟩)
    (fun W q r o' hle hl => ⟨belowK_b (w := W0) (by omega) W q _ o' hle hl rfl rfl, World.putObj_heap_other (by omega)⟩)
    (Below.refl _ _) (fun _ => rfl) (IS w0 W0.heap.size w0.heap.size (w0.heap.size + 1))
    (fun s X Y h hb => by
      obtain ⟨⟨v, h1, h2⟩, h3, h4, h5⟩ := h
      exact ⟨⟨v, heap_below hb h1, h2.below hb⟩, heap_below hb h3, below_step h4 hb, Nat.le_trans h5 hb.size⟩)
    (fun s X q r o' h hle hl => by
      obtain ⟨⟨v, h1, h2⟩, h3, h4, h5⟩ := h
      exact ⟨⟨v, Boxed_putObj h1 hl o', R_putObj h2 hl rfl o'⟩, Boxed_putObj h3 hl o', h4.trans (belowK_b (w := W0) (by omega) X q _ o' hle hl rfl rfl), by simpa [World.putObj] using h5⟩)
    (fun x X q r o' h hle hl => R_putObj h hl rfl o')
    ⟨⟨_, hx1, OBB.nil _ _⟩, hx2, hB0, Nat.le_refl _⟩
    (fun x => { tmps := #[.slice A l.length c, undef, .slice none 0 0, .int .i64 0, .pointer (some ⟨w0.heap.size, 0, none⟩), .pointer (some ⟨w0.heap.size + 1, 0, none⟩), .int .i64 (x.1 : Int), x.2.1, .slice A l.length c, .func (.func 34) #[] #[.pointer (some ⟨w0.heap.size + 1 + 1, 0, none⟩)], .int .i64 (x.1 : Int), x.2.1, undef, undef, undef, undef, undef, undef, undef], defers := [] }) ?assign ?body ?done
  case assign =>
    intro lp x W K hK
    simp only [encF]
    gi_wp2
    exact hK
  case body =>
    rintro lp pre ⟨k, xv, bl⟩ W hlp ⟨⟨v, hv, hO⟩, hv2, hB, hsW⟩ hG hlen
    have hG' : OB W W0.heap.size xv bl := hG
    clear hG
    obtain ⟨Ax, cx, rfl, hcx, hCx⟩ := hG'.reads
    obtain ⟨Av, cv, rfl, hcv, hCv⟩ := hO.reads
    clear hCx hCv
    obtain ⟨inner, hown⟩ := Kd.R_own hO
    have hne1 : some w0.heap.size ≠ (Value.slice Av (frs pre).length cv).ownBlock := fun e => by have := own_base hown _ e.symm; omega
    have hne2 : some (w0.heap.size + 1) ≠ (Value.slice Av (frs pre).length cv).ownBlock := fun e => by have := own_base hown _ e.symm; omega
    have hne3 : some (w0.heap.size + 1 + 1) ≠ (Value.slice Av (frs pre).length cv).ownBlock := fun e => by have := own_base hown _ e.symm; omega
    have htyp : ∀ k, (Value.slice Av (frs pre).length cv).ownBlock = some k → ∃ cells e, W.heap[k]? = some (.cells cells e (0, 0)) := fun k hk => by
      obtain ⟨cells, hc⟩ := own_typed hown k hk
      exact ⟨cells, _, hc⟩
    have hlow : ∀ k, (Value.slice Av (frs pre).length cv).ownBlock = some k → w0.heap.size ≤ k := fun k hk => by have := own_base hown _ hk; omega
    have hc1 := hv.cell
    have hf1 := hv.frozen
    have hc2 := hv2.cell
    have hf2 := hv2.frozen
    have hlp : (frs pre).length ≤ 1000000 := by simp only [frs, List.length_map]; omega
    have hWW : w0.heap.size ≤ W.heap.size := by omega
    have hB3 : w0.heap.size + 1 + 1 < W.heap.size := by omega
    clear hown hsz
    simp only
    gi_wp2_with (gi_at_builtin; refine R_appendIn (Kd.slice 5 kb) (w0 := W) W0.heap.size rfl (.tmp 12) (.tmp 14) 36 22 (.slice none 0 0) 24 rfl Try.underlying36 info_bb rfl (by decide) (by omega) (.slice Av (frs pre).length cv) (frs pre) bl [.slice Ax bl.length cx] (fun _ => True) (fun k => some k ≠ Value.ownBlock (.slice Av (frs pre).length cv)) rfl rfl (OB_apart hO hG') (fun _ h => ⟨trivial, h⟩) (fun _ _ => trivial) hO (Below.refl _ _) hsW (by omega) ?_; intro v1 w1 ho1 hb1 hg1; obtain ⟨A1, c1, rfl, hc1', hC1'⟩ := OBB.reads ho1; clear hC1'; have hv1 := hv.kept hg1 hne1; have hv3 := hv2.kept hg1 hne2; have hc3 := hv1.cell; have hf3 := hv1.frozen; have hc4 := hv3.cell; have hf4 := hv3.frozen)
    have HBW : Below w0.heap.size W w1 := (Below.refl w0.heap.size W).grown hg1 hWW hlow
    refine ⟨keeps_step _ _ hg1 htyp hv hv2, ⟨?_, ?_⟩, ⟨.slice A1 ((frs pre).length + 1) c1, ?_, ?_⟩, ?_, ?_, ?_⟩
    · exact (HBW.setCell (p := ⟨w0.heap.size, 0, none⟩) (Nat.le_refl _) _).setCell (p := ⟨w0.heap.size + 1, 0, none⟩) (Nat.le_succ _) _
    · rw [Below.heap_setCell _ _ _ _ (by show _ ≠ w0.heap.size + 1; omega), Below.heap_setCell _ _ _ _ (by show _ ≠ w0.heap.size; omega)]
      exact hg1.block _ hB3 hne3
    · exact (hv1.set _).other (by omega) _
    · rw [frs_snoc]
      have h1 := Kd.R_set ho1 (show w1.heap[w0.heap.size]? = some (.cells #[_] _ (0, 0)) from hv1) (by decide) 0 (.slice A1 ((frs pre).length + 1) c1)
      have h2 := Kd.R_set h1 (show (w1.setCell ⟨w0.heap.size, 0, none⟩ _).heap[w0.heap.size + 1]? = some (.cells #[_] _ (0, 0)) from hv3.other (by omega) _) (by decide) 0 (.int .i64 (k : Int))
      rw [List.length_append] at h2
      exact h2
    · rw [lastK_snoc]
      exact (hv3.other (by omega) _).set _
    · exact hB.trans ((HBW.setCell (p := ⟨w0.heap.size, 0, none⟩) (Nat.le_refl _) _).setCell (p := ⟨w0.heap.size + 1, 0, none⟩) (Nat.le_succ _) _)
    · simpa [World.setCell] using Nat.le_trans hsW hg1.size
  case done =>
    rintro D xs W hD ⟨hS1, hS2⟩ ⟨⟨v, hv, hO⟩, hv2, hB, hsW⟩ hK
    obtain ⟨Av, cv, rfl, hcv, hCv⟩ := hO.reads
    clear hCv
    have hc1 := hv.cell
    have hc2 := hv2.cell
    have HB0 := Aside0.mk hB
    have hlow : w0.heap.size ≤ W0.heap.size := by omega
    have hDl : w0.heap.size ≤ D := by omega
    clear hsz
    gi_wp2
    refine wpIn_wide.2 ?_
    refine grow_rs [17, 18, 2, 3] [fun v _ => v = (.slice Av (frs xs).length cv), fun v _ => v = (.int .i64 (lastK xs : Int)), fun v _ => v = (.slice Av (frs xs).length cv), fun v _ => v = (.int .i64 (lastK xs : Int))] [0, 1, 2, 3] (true, [([], []), ([], []), ([0, 0], [0]), ([1, 2, 0, 1, 2], [1])]) [0, 0, 1, 7] (by kernel_rfl) (by kernel_rfl) (by kernel_rfl) (by kernel_rfl) (by kernel_rfl) (by kernel_rfl) (by kernel_rfl) (by rfl) (by kernel_rfl) ?_ ?_ ?_
    · exact (Rms_cons (Rm_eq _) (Rms_cons (Rm_eq _) (Rms_cons (Rm_eq _) (Rms_cons (Rm_eq _) Rms_nil))))
    · refine gsteps_cons ?_ ?_
      · intro a w' vs hB hel hd
        have e4 : a.tmps[4]? = some (.pointer (some ⟨w0.heap.size, 0, none⟩)) := (hel 4 (by kernel_rfl)).trans (by rfl)
        have hy0 := bcell hB hc1
        refine ⟨_, rfl, rfl, fun K hK => ?_⟩
        refine value_ (w1 := w') (v := .slice Av (frs xs).length cv) (by rfl) rfl ?_ (hK _ _ (by exact rfl) (Below.refl _ _))
        · go_simp
          (try simp only [i64_w, bs_list])
          (try rfl)
          (try (unfold Go.RowKit.wrap64; omega))
      refine gsteps_cons ?_ ?_
      · intro a w' vs hB hel hd
        have e5 : a.tmps[5]? = some (.pointer (some ⟨w0.heap.size + 1, 0, none⟩)) := (hel 5 (by kernel_rfl)).trans (by rfl)
        have hy0 := bcell hB hc2
        refine ⟨_, rfl, rfl, fun K hK => ?_⟩
        refine value_ (w1 := w') (v := .int .i64 (lastK xs : Int)) (by rfl) rfl ?_ (hK _ _ (by exact rfl) (Below.refl _ _))
        · go_simp
          (try simp only [i64_w, bs_list])
          (try rfl)
          (try (unfold Go.RowKit.wrap64; omega))
      refine gsteps_cons ?_ ?_
      · intro a w' vs hB hel hd
        obtain ⟨f17, r17⟩ := hd 0 (by kernel_rfl)
        have e17 : a.tmps[17]? = some (.slice Av (frs xs).length cv) := f17.trans (congrArg some (r17 : vs 0 = (.slice Av (frs xs).length cv)))
        refine ⟨_, rfl, rfl, fun K hK => ?_⟩
        refine value_ (w1 := w') (v := .slice Av (frs xs).length cv) (by rfl) rfl ?_ (hK _ _ (by exact rfl) (Below.refl _ _))
        · go_simp
          (try simp only [i64_w, bs_list])
          (try rfl)
          (try (unfold Go.RowKit.wrap64; omega))
      refine gsteps_cons ?_ ?_
      · intro a w' vs hB hel hd
        obtain ⟨f18, r18⟩ := hd 1 (by kernel_rfl)
        have e18 : a.tmps[18]? = some (.int .i64 (lastK xs : Int)) := f18.trans (congrArg some (r18 : vs 1 = (.int .i64 (lastK xs : Int))))
        refine ⟨_, rfl, rfl, fun K hK => ?_⟩
        refine value_ (w1 := w') (v := .int .i64 (lastK xs : Int)) (by rfl) rfl ?_ (hK _ _ (by exact rfl) (Below.refl _ _))
        · go_simp
          (try simp only [i64_w, bs_list])
          (try rfl)
          (try (unfold Go.RowKit.wrap64; omega))
      exact gsteps_nil
    · intro vs w' hB hR
      have hv0_ : vs 0 = (.slice Av (frs xs).length cv) := hR 0 (by kernel_rfl)
      have hv1_ : vs 1 = (.int .i64 (lastK xs : Int)) := hR 1 (by kernel_rfl)
      have hv2_ : vs 2 = (.slice Av (frs xs).length cv) := hR 2 (by kernel_rfl)
      have hv3_ : vs 3 = (.int .i64 (lastK xs : Int)) := hR 3 (by kernel_rfl)
      rw [show entries [17, 18, 2, 3] vs = [(0, 17, vs 0), (1, 18, vs 1), (2, 2, vs 2), (3, 3, vs 3)] from rfl]
      simp only [putSel, if_true, Act.put, List.setIfInBounds_toArray, List.set_cons_zero, List.set_cons_succ, hv0_, hv1_, hv2_, hv3_]
      clear hR hv0_ hv1_ hv2_ hv3_
      have hB0' := below_step HB0.out hB
      have hK2 : w'.heap[D]? = some (.deferred (some [])) := heap_below hB hK
      gi_wp2
      refine ⟨by simp, .inl ⟨_, _, rfl, run_takeDeferred hK2, ?_⟩⟩
      refine ⟨_, results_tmp2 rfl _ _ _, .slice Av (frs xs).length cv, ?_, ?_, ?_⟩
      · rw [← hS2]; rfl
      · rw [← hS1]
        exact R_putObj (OBB.lower (OBB.below hO hB) hlow) hK2 rfl _
      · exact (hB0'.trans (belowK_b (w := w0) (Nat.le_refl _) w' D _ _ hDl hK2 rfl rfl))

end Go.Proofs.Ytbbhjceelghadaa.My
