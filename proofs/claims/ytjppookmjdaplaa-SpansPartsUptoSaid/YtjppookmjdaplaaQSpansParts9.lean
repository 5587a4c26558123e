/- Parts of the proof, one behind the other: PaQ, Came, CameS, CameP, PaL. -/
import Derived.Test.YtjppookmjdaplaaQSpansParts8
import Derived.Test.YtjppookmjdaplaaRows
import Derived.Deep.Slices
import Derived.ChangeSame
set_option linter.unusedVariables false
set_option linter.unusedSimpArgs false
section
namespace Go.Proofs.Ytjppookmjdaplaa.K
open Go Go.RowKit Go.Proofs.YtjppookmjdaplaaW.PrintWords Go.Proofs.YtjppookmjdaplaaW.PrintLast Go.Proofs.YtjppookmjdaplaaW.PrintMore
theorem Evt.step' {α : Type} {f : Nat → Option α} {r : α} (hg : Evt (fun k => f (k + 1)) r) : Evt f r := Evt.step (fun _ => rfl) hg
theorem IR {α : Type} {f : Nat → Option α} (hm : ∀ k, LeO (f k) (f (k + 1))) {k0 : Nat} {r : α} (h : f k0 = some r) : Evt f r :=
  ⟨k0, fun k hk => by
    induction hk with
    | refl => exact h
    | step _ ih => exact hm _ _ ih⟩
theorem xQ (L : List TSp) {lo hi : Int} (x : Int) (h : ¬ lo < hi) : nC L lo hi x = false := by
  rw [Bool.eq_false_iff]; intro e
  obtain ⟨u, h1, h2, _⟩ := (kS L lo hi x).1 e
  omega
theorem xX (L : List TSp) {lo hi : Int} (x : Int) (h : lo < hi) : nC L lo hi x = ((jY L lo == x) || nC L (lo + 1) hi x) := by
  rw [Bool.eq_iff_iff, Bool.or_eq_true, kS, kS, beq_iff_eq]
  constructor
  · rintro ⟨u, h1, h2, h3⟩
    by_cases e : u = lo
    · subst e; exact .inl h3
    · exact .inr ⟨u, by omega, h2, h3⟩
  · rintro (h1 | ⟨u, h1, h2, h3⟩)
    · exact ⟨lo, by omega, h, h1⟩
    · exact ⟨u, by omega, h2, h3⟩
theorem vU (a : Int) (L : List TSp) (m : Int) (hL : (L.length : Int) ≤ 1000000) : Evt (fun k => stratumref12_Find.f k a L m) (jY L m) := ⟨L.length + 1, fun k hk => oP k a L m hL (by omega)⟩
theorem vT (a : Int) (L : List TSp) (hL : (L.length : Int) ≤ 1000000) (x1 x2 x : Int) (R : List Int) (hhi : mn x2 10000 ≤ 10000) (hx : 0 ≤ x ∧ x < 6)
    (acc : List Int) (ha : acc.length ≤ 6) (hR : ∀ acc' : List Int, acc'.length ≤ acc.length + 1 → Evt (fun k => stratumref12_Nodes.l0 k x1 x2 acc' (x + 1) a L) (acc' ++ R)) :
    ∀ (n : Nat) (v : Int) (b : Bool), 0 ≤ v → (mn x2 10000 - v).toNat = n → Evt (fun k => stratumref12_Nodes.l1 k x1 x2 acc x b v a L) ((acc ++ if (b || nC L v (mn x2 10000) x) = true then [x] else []) ++ R) := by
  intro n
  have hw : wrap64 (x + 1) = x + 1 := by unfold wrap64; omega
  have hap : Evt (fun k => if acc.length < 17592186044416 then stratumref12_Nodes.l0 k x1 x2 (acc ++ [x]) (wrap64 (x + 1)) a L else none) ((acc ++ [x]) ++ R) := by
    refine Evt.congr (fun k => ?_) (hR (acc ++ [x]) (by rw [List.length_append]; simp only [List.length_cons, List.length_nil]; omega))
    rw [if_pos (by omega), hw]
  induction n with
  | zero =>
    intro v b hv hn
    rw [xQ L x (by omega), Bool.or_false]
    refine Evt.step' ?_
    simp only [stratumref12_Nodes.l1]
    cases b with
    | true =>
      simp only [if_true]
      exact Evt.congr (fun k => by rw [if_neg (by omega)]) hap
    | false =>
      simp only [Bool.false_eq_true, if_false, List.append_nil]
      exact Evt.congr (fun k => by rw [if_neg (by omega), hw]) (hR acc (by omega))
  | succ n ih =>
    intro v b hv hn
    refine Evt.step' ?_
    simp only [stratumref12_Nodes.l1]
    cases b with
    | true =>
      simp only [if_true, Bool.true_or]
      exact Evt.congr (fun k => by rw [if_pos (by omega)]) hap
    | false =>
      rw [xX L x (by omega), Bool.false_or]
      simp only [Bool.false_eq_true, if_false]
      refine Evt.congr (fun k => by rw [if_pos (by omega), show wrap64 (v + 1) = v + 1 from by unfold wrap64; omega]) (Evt.bind (vU a L v hL) (g := fun k t => stratumref12_Nodes.l1 k x1 x2 acc x (t == x) (v + 1) a L) ?_)
      exact ih (v + 1) _ (by omega) (by omega)
theorem pR (a : Int) (L : List TSp) (hL : (L.length : Int) ≤ 1000000) (x1 x2 : Int) (hhi : mn x2 10000 ≤ 10000) (hlo : 0 ≤ mx x1 0) :
    ∀ (d x : Nat) (acc : List Int), x + d = 6 → acc.length ≤ x → Evt (fun k => stratumref12_Nodes.l0 k x1 x2 acc (x : Int) a L) (acc ++ (([0, 1, 2, 3, 4, 5] : List Int).drop x).filter (nC L (mx x1 0) (mn x2 10000)))
  | 0, x, acc, hd, ha => by
    obtain rfl : x = 6 := by omega
    refine Evt.step' ?_
    simp only [stratumref12_Nodes.l0]
    refine Evt.congr (fun k => by rw [if_neg (by omega)]) ?_
    simp only [List.drop, List.filter_nil, List.append_nil]
    exact Evt.now _
  | d + 1, x, acc, hd, ha => by
    have hx : x < 6 := by omega
    have hdr : ([0, 1, 2, 3, 4, 5] : List Int).drop x = (x : Int) :: ([0, 1, 2, 3, 4, 5] : List Int).drop (x + 1) := by
      have : x = 0 ∨ x = 1 ∨ x = 2 ∨ x = 3 ∨ x = 4 ∨ x = 5 := by omega
      rcases this with rfl | rfl | rfl | rfl | rfl | rfl <;> rfl
    refine Evt.step' ?_
    simp only [stratumref12_Nodes.l0]
    refine Evt.congr (fun k => by rw [if_pos (by omega)]) ?_
    rw [hdr, List.filter_cons]
    have h := vT a L hL x1 x2 x ((([0, 1, 2, 3, 4, 5] : List Int).drop (x + 1)).filter (nC L (mx x1 0) (mn x2 10000))) hhi (by omega) acc (by omega) (fun acc' hl => pR a L hL x1 x2 hhi hlo d (x + 1) acc' (by omega) (by omega)) (mn x2 10000 - mx x1 0).toNat (mx x1 0) false hlo rfl
    rw [Bool.false_or] at h
    split
    · rename_i he
      rw [he, if_pos rfl, List.append_assoc] at h
      exact h
    · rename_i he
      rw [if_neg he, List.append_nil] at h
      exact h
theorem pU (a : Int) (L : List TSp) (hL : (L.length : Int) ≤ 1000000) (x1 x2 : Int) : Evt (fun k => stratumref12_Nodes.f k a L x1 x2) (kM L x1 x2) := by
  unfold stratumref12_Nodes.f kM
  have h := pR a L hL x1 x2 (by unfold mn; split <;> omega) (by unfold mx; split <;> omega) 6 0 [] (by omega) (by simp)
  simp only [List.nil_append, List.drop_zero] at h
  exact h
theorem rZ (l : List Int) (hl : l.length ≤ 1000) : ∀ (n i k : Nat), i + n = l.length → n < k → stratumref07_SameInts.l0 k l l i = some true
  | _, i, 0, _, h => by omega
  | 0, i, k + 1, hi, _ => by rw [stratumref07_SameInts.l0, if_neg (by omega)]
  | n + 1, i, k + 1, hi, hk => by
    rw [stratumref07_SameInts.l0, if_pos (by omega), if_pos (by omega), if_pos (by omega), if_pos rfl, lG i (by omega)]
    exact rZ l hl n (i + 1) k (by omega) (by omega)
theorem rF (l : List Int) (hl : l.length ≤ 1000) : Evt (fun k => stratumref07_SameInts.f k l l) true :=
  ⟨l.length + 1, fun k hk => by
    show (if (l.length : Int) = (l.length : Int) then stratumref07_SameInts.l0 k l l 0 else some false) = some true
    rw [if_pos rfl]
    exact rZ l hl l.length 0 k (by omega) (by omega)⟩
theorem o7 (l : List TSp) (a b : Int) : (kM l a b).length ≤ 1000 := by
  unfold kM
  exact Nat.le_trans (List.length_filter_le _ _) (by decide)
theorem pY : Evt (fun k => stratumlaw12_known.f k) true := ⟨20, fun k hk => yJ k hk⟩
section
variable (a0 : Int) (L0 : List TSp) (h0 : L0.length ≤ 60) (a1 : Int) (L1 : List TSp) (h1 : L1.length ≤ 40)
include h0 h1
theorem yE (a4 a5 : Int) (b : Bool) : Evt (fun k => stratumlaw12_SpansParts.j2 k a4 a5 true b a0 L0 a1 L1) true := by
  refine Evt.step' ?_
  simp only [stratumlaw12_SpansParts.j2]
  cases b with
  | true => simp only [if_true]; exact Evt.now _
  | false =>
    simp only [Bool.false_eq_true, if_false, if_true]
    refine Evt.congr (fun k => by rw [uF _ _ _ _ (by omega), uF _ _ _ _ (by omega)]) ?_
    simp only [Option.bind_some]
    refine Evt.bind (pU a1 L1 (by omega) _ _) ?_
    refine Evt.bind (rF _ (o7 _ _ _)) ?_
    simp only [if_true]
    refine Evt.bind (pU a0 L0 (by omega) _ _) ?_
    exact Evt.bind (rF _ (o7 _ _ _)) (Evt.now _)
theorem IW (a4 a5 : Int) : Evt (fun k => stratumlaw12_SpansParts.j1 k a4 a5 true a0 L0 a1 L1) true := by
  refine Evt.step' ?_
  simp only [stratumlaw12_SpansParts.j1]
  split
  · exact yE a0 L0 h0 a1 L1 h1 a4 a5 _
  · split
    · exact yE a0 L0 h0 a1 L1 h1 a4 a5 _
    · split
      · exact yE a0 L0 h0 a1 L1 h1 a4 a5 _
      · exact yE a0 L0 h0 a1 L1 h1 a4 a5 _
end
theorem zH (a0 : Int) (L0 : List TSp) (cs : List TCu) (hcs : ∀ x ∈ cs, xR x) (xs : List TFa) (hf : xs.length ≤ 100 → fsz xs ≤ 1000000000) (a3 a4 a5 : Int) :
    Evt (fun k => stratumlaw12_SpansParts.f k a0 L0 cs xs a3 a4 a5) true := by
  have ht : Evt (fun k => stratumlaw12_SpansParts.j0 k cs xs a3 a4 a5 true a0 L0) true := by
    refine Evt.step' ?_
    simp only [stratumlaw12_SpansParts.j0, if_true]
    exact Evt.bind pY (Evt.now _)
  unfold stratumlaw12_SpansParts.f
  by_cases c1 : (L0.length : Int) > 60
  · exact Evt.congr (fun k => by rw [if_pos c1]) ht
  · by_cases c2 : (xs.length : Int) > 100
    · exact Evt.congr (fun k => by rw [if_neg c1, if_pos c2]) ht
    · refine Evt.congr (fun k => by rw [if_neg c1, if_neg c2]) (Evt.bind pY ?_)
      have hf' := hf (by omega)
      have hkey : ∀ x ∈ xs, (x.f0.length : Int) ≤ 17592186044416 := fun x hx => by have := rD hx; omega
      have hpp : ∀ (a : Int) (L : List TSp), L.length ≤ 60 → Evt (fun k => spans_Parts.f k a L xs a3) (kL L xs a3) := fun a L hL => ⟨xs.length + 1, fun k hk => yL k a L (by omega) xs (by omega) hkey a3 (by omega)⟩
      have hpl : ∀ (L : List TSp), (kL L xs a3).length ≤ 1000000 := fun L => Nat.le_trans (List.length_filter_le _ _) (by omega)
      obtain ⟨e, L1, hof, _, hsnd⟩ := IZ 100 3 (by omega) (by omega) (by omega) (by omega) cs hcs 20500 (by omega)
      have hL1 := hsnd.len
      have hofe : Evt (fun k => stratumlaw12_Of.f k 100 3 cs) (e, L1) := IR (fun k => stratumlaw12_Of.mono 100 3 cs k) hof
      refine Evt.step' ?_
      simp only [stratumlaw12_SpansParts.j0, Bool.not_true, Bool.false_eq_true, if_false]
      refine Evt.bind hofe ?_
      refine Evt.bind (hpp a0 L0 (by omega)) ?_
      refine Evt.bind (qA a0 L0 (by omega) xs (by omega) hf' a3) ?_
      refine Evt.bind (pM _ (hpl _) (Nat.le_trans (mP _ _) hf')) ?_
      simp only [if_true]
      refine Evt.bind (hpp e L1 (by omega)) ?_
      refine Evt.bind (qA e L1 (by omega) xs (by omega) hf' a3) ?_
      refine Evt.bind (pM _ (hpl _) (Nat.le_trans (mP _ _) hf')) ?_
      exact IW a0 L0 (by omega) e L1 (by omega) a4 a5
end Go.Proofs.Ytjppookmjdaplaa.K
end

section
namespace Go.Proofs.Ytjppookmjdaplaa.My
open Go Go.RowKit Go.Deep Go.ChangeShapes Go.WideShapes Go.ChangeAt Go.Proofs.YtjppookmjdaplaaW.PrintWords
/-- A value of type t that came in reads as a v of kind d, of which ok holds and which is no heavier than the datum's bulk. -/
def Came {α : Type} (d : Kd α) (t : TypeId) (ok : α → Prop) (wt : α → Nat) : Prop :=
  ∀ {H : Type} (enc : TypeId × Value → H) (w : World) (fuel : Nat) (cs : List Value) (x : DataW H × List MemPlace), DataW.trod enc Try.prog w 0 (fun _ => true) true fuel t cs = some x → ∃ v : α, d.K w v cs ∧ ok v ∧ wt v ≤ Rows.uptoBulk x.1
theorem oU {k : IntKind} {t : TypeId} (ht : Try.prog.underlying t = some (.int k)) : Came (Kd.int k) t (fun n => (Lit.int k n).wf = true) (fun _ => 1) := by
  intro H enc w fuel cs x h
  obtain ⟨n, rfl, hx, hw⟩ := DataW.trod_int ht h
  exact ⟨n, rfl, hw, by rw [hx]; simp [Rows.uptoBulk]⟩
/-- All of a slice's weight. -/
def lX {α : Type} (wt : α → Nat) (l : List α) : Nat := (l.map wt).sum
theorem mV {α : Type} (wt : α → Nat) (x : α) (l : List α) : lX wt (x :: l) = wt x + lX wt l := by simp [lX]
theorem uD {α : Type} [Inhabited α] {n : Nat} {p : Nat → α → Prop} (h : ∀ i, i < n → ∃ x, p i x) : ∃ f : Nat → α, ∀ i, i < n → p i (f i) := by
  classical
  refine ⟨fun i => if h' : i < n then Classical.choose (h i h') else default, fun i hi => ?_⟩
  simp only [dif_pos hi]
  exact Classical.choose_spec (h i hi)
theorem qE {w : World} {a : Addr} {n : Nat} {cs : List Value} (h : w.cells? 0 a n = some cs) (i : Nat) (v : Value) (hi : cs[i]? = some v) : w.cell? (a.add i) = some v := by
  obtain ⟨_, hl, hc⟩ := World.cells?_some h
  have hil : i < n := by have := (List.getElem?_eq_some_iff.1 hi).1; omega
  rw [hc i hil]
  exact hi
theorem o5 {α : Type} [Inhabited α] {d : Kd α} {t e : TypeId} {ok : α → Prop} {wt : α → Nat} (ht : Try.prog.underlying t = some (.slice e)) (hc : Try.prog.cellsOf e = d.sz) (he : Came d e ok wt) :
    Came (Kd.slice e d) t (fun l => ∀ x ∈ l, ok x) (fun l => lX wt l + 1) := by
  intro H enc w fuel cs x h
  rcases open_slice ht h with ⟨rfl, rfl⟩ | ⟨ad, len, cap, m, n, D, Pl, rfl, _, hl, hmax, hm, rfl, hel⟩
  · exact ⟨[], ⟨none, 0, rfl, Nat.le_refl _, ⟨rfl, by simp, fun h => absurd h (Nat.lt_irrefl 0)⟩⟩, (by simp), by simp [lX, Rows.uptoBulk]⟩
  · have hlm : len ≤ m := by rw [hm]; simp; exact hl
    have one : ∀ i, i < len → ∃ v : α, (∃ cs', w.cells? 0 (ad.add (i * Try.prog.cellsOf e)) (Try.prog.cellsOf e) = some cs' ∧ d.K w v cs') ∧ ok v ∧ wt v ≤ Rows.uptoBulk (D i) := by
      intro i hi
      obtain ⟨cs', h1, h2⟩ := hel i (by omega)
      obtain ⟨v, h3, h4, h5⟩ := he enc w n cs' _ h2
      exact ⟨v, ⟨cs', h1, h3⟩, h4, h5⟩
    obtain ⟨L, hL⟩ := uD one
    have hlen : ((List.range len).map L).length = len := by simp
    refine ⟨(List.range len).map L, ⟨some ad, cap, by rw [hlen], by rw [hlen]; exact hl, ?_⟩, ?_, ?_⟩
    · rw [hlen]
      refine ⟨hlen, by unfold maxLen at hmax; omega, fun _ => ⟨ad, rfl, fun j p hj => ?_⟩⟩
      have hjl : j < len := by have := (List.getElem?_eq_some_iff.1 hj).1; simpa using this
      have hp : p = L j := by
        rw [List.getElem?_map, List.getElem?_range hjl] at hj
        simp only [Option.map_some, Option.some.injEq] at hj
        exact hj.symm
      subst hp
      obtain ⟨⟨cs', h1, h2⟩, _, _⟩ := hL j hjl
      rw [hc] at h1
      refine ⟨cs', d.K_len h2, h2, fun i u hi => ?_⟩
      have := qE h1 i u hi
      rwa [Go.Deep.add_add] at this
    · intro y hy
      obtain ⟨i, hi, rfl⟩ := List.mem_map.1 hy
      exact (hL i (List.mem_range.1 hi)).2.1
    · have key : ∀ is : List Nat, (∀ i ∈ is, i < len) → lX wt (is.map L) ≤ Rows.uptoBulkAll (is.map D) := by
        intro is
        induction is with
        | nil => intro _; simp [lX, Rows.uptoBulkAll]
        | cons i is ih =>
          intro hi
          have h3 := ih (fun k hk => hi k (List.mem_cons_of_mem _ hk))
          have h4 := (hL i (hi i List.mem_cons_self)).2.2
          rw [List.map_cons, List.map_cons, mV]
          simp only [Rows.uptoBulkAll]
          omega
      have := key (List.range len) (fun i hi => List.mem_range.1 hi)
      simp only [Rows.uptoBulk]
      omega
theorem vW {α β : Type} {da : Kd α} {db : Kd β} {t : TypeId} {f0 f1 : Field} {oka : α → Prop} {okb : β → Prop} {wta : α → Nat} {wtb : β → Nat} (ht : Try.prog.underlying t = some (.struct #[f0, f1])) (ct : Try.prog.cellsOf t = da.sz + db.sz)
    (h0 : f0.offset = 0) (h1 : f1.offset = da.sz) (c0 : Try.prog.cellsOf f0.type = da.sz) (c1 : Try.prog.cellsOf f1.type = db.sz) (A : Came da f0.type oka wta) (B : Came db f1.type okb wtb) :
    Came (Kd.pair da db) t (fun x => oka x.1 ∧ okb x.2) (fun x => wta x.1 + wtb x.2 + 1) := by
  intro H enc w fuel cs x h
  obtain ⟨y0, y1, n, rfl, hl, e0, e1⟩ := trod_struct2 ht h
  rw [h0, c0, List.drop_zero] at e0
  rw [h1, c1] at e1
  obtain ⟨v0, k0, o0, b0⟩ := A enc w n _ _ e0
  obtain ⟨v1, k1, o1, b1⟩ := B enc w n _ _ e1
  refine ⟨(v0, v1), ⟨_, _, ?_, k0, k1⟩, ⟨o0, o1⟩, ?_⟩
  · rw [List.take_of_length_le (l := cs.drop da.sz) (by rw [List.length_drop]; omega), List.take_append_drop]
  · simp only [Rows.uptoBulk, Rows.uptoBulkAll]
    omega
theorem yP {α β : Type} {d : Kd α} {t : TypeId} {ok : α → Prop} {wt : α → Nat} (f : β → α) (g : α → β) (hfg : ∀ x, f (g x) = x) (h : Came d t ok wt) : Came (Kd.iso d f) t (fun y => ok (f y)) (fun y => wt (f y)) := by
  intro H enc w fuel cs x hx
  obtain ⟨v, h1, h2, h3⟩ := h enc w fuel cs x hx
  exact ⟨g v, by show d.K w (f (g v)) cs; rw [hfg]; exact h1, by show ok (f (g v)); rw [hfg]; exact h2, by show wt (f (g v)) ≤ _; rw [hfg]; exact h3⟩
theorem xC {α : Type} {d : Kd α} {t : TypeId} {ok ok' : α → Prop} {wt : α → Nat} (h : Came d t ok wt) (hok : ∀ x, ok x → ok' x) : Came d t ok' wt := by
  intro H enc w fuel cs x hx
  obtain ⟨v, h1, h2, h3⟩ := h enc w fuel cs x hx
  exact ⟨v, h1, hok v h2, h3⟩
/-- What a slice argument is. -/
theorem came_C {α : Type} {d : Kd α} {t e : TypeId} {ok : List α → Prop} {wt : List α → Nat} (h : Came (Kd.slice e d) t ok wt) {H : Type} (enc : TypeId × Value → H) {w : World} {fuel : Nat} {v : Value} {x : DataW H × List MemPlace} (ht : DataW.trod enc Try.prog w 0 (fun _ => true) true fuel t v.cells.toList = some x) :
    ∃ (A : Option Addr) (c : Nat) (l : List α), v.cells.toList = [.slice A l.length c] ∧ l.length ≤ c ∧ d.C w A l.length l ∧ ok l ∧ wt l ≤ Rows.uptoBulk x.1 := by
  obtain ⟨l, ⟨A, c, h1, h2, h3⟩, h4, h5⟩ := h enc w fuel _ x ht
  exact ⟨A, c, l, h1, h2, h3, h4, h5⟩
end Go.Proofs.Ytjppookmjdaplaa.My
end

section
namespace Go.Proofs.Ytjppookmjdaplaa.My
open Go Go.RowKit Go.Deep Go.ChangeShapes Go.WideShapes Go.ChangeAt Go.Proofs.YtjppookmjdaplaaW.PrintWords
/-- Nothing in it is too large. -/
def Reach {H : Type} (t : TypeId) (d : DataW H) : Prop := ∀ n ∈ d.weights Try.prog t, n ≤ reachBytes
def kU {α : Type} (d : Kd α) (t : TypeId) (ok : α → Prop) : Prop :=
  ∀ {H : Type} (enc : TypeId × Value → H) (w : World) (fuel : Nat) (cs : List Value) (x : DataW H × List MemPlace), DataW.trod enc Try.prog w 0 (fun _ => true) true fuel t cs = some x → Reach t x.1 → ∃ v : α, d.K w v cs ∧ ok v
theorem xP {α : Type} {d : Kd α} {t : TypeId} {ok : α → Prop} {wt : α → Nat} (h : Came d t ok wt) : kU d t ok := by
  intro H enc w fuel cs x hx _
  obtain ⟨v, h1, h2, _⟩ := h enc w fuel cs x hx
  exact ⟨v, h1, h2⟩
theorem lD {α : Type} {d : Kd α} {t : TypeId} {ok ok' : α → Prop} (h : kU d t ok) (hok : ∀ x, ok x → ok' x) : kU d t ok' := by
  intro H enc w fuel cs x hx hr
  obtain ⟨v, h1, h2⟩ := h enc w fuel cs x hx hr
  exact ⟨v, h1, hok v h2⟩
theorem nO {H : Type} {e : TypeId} : ∀ {l : List (DataW H)} {d : DataW H}, d ∈ l → ∀ n ∈ d.weights Try.prog e, n ∈ DataW.weightsAll Try.prog e l
  | x :: l, d, hd, n, hn => by
    simp only [DataW.weightsAll, List.mem_append]
    rcases List.mem_cons.1 hd with rfl | hd
    · exact .inl hn
    · exact .inr (nO hd n hn)
  | [], d, hd, n, hn => by cases hd
theorem nM {α : Type} [Inhabited α] {d : Kd α} {t e : TypeId} {ok : α → Prop} {B : Nat} (ht : Try.prog.underlying t = some (.slice e)) (hc : Try.prog.cellsOf e = d.sz) (hB : Try.prog.bytesOf e = B) (he : kU d e ok) :
    kU (Kd.slice e d) t (fun l => l.length * B ≤ reachBytes ∧ ∀ x ∈ l, ok x) := by
  intro H enc w fuel cs x h hr
  rcases open_slice ht h with ⟨rfl, rfl⟩ | ⟨ad, len, cap, m, n, D, Pl, rfl, _, hl, hmax, hm, rfl, hel⟩
  · exact ⟨[], ⟨none, 0, rfl, Nat.le_refl _, ⟨rfl, by simp, fun h => absurd h (Nat.lt_irrefl 0)⟩⟩, by simp⟩
  · have hlm : len ≤ m := by rw [hm]; simp; exact hl
    have hw : ∀ n, n ∈ (((List.range len).map D).length + ((List.range (m - len)).map fun j => D (len + j)).length) * Try.prog.bytesOf e :: (DataW.weightsAll Try.prog e ((List.range len).map D) ++ DataW.weightsAll Try.prog e ((List.range (m - len)).map fun j => D (len + j))) → n ≤ reachBytes := by
      intro n hn
      refine hr n ?_
      simp only [DataW.weights, ht]
      exact hn
    have one : ∀ i, i < len → ∃ v : α, (∃ cs', w.cells? 0 (ad.add (i * Try.prog.cellsOf e)) (Try.prog.cellsOf e) = some cs' ∧ d.K w v cs') ∧ ok v := by
      intro i hi
      obtain ⟨cs', h1, h2⟩ := hel i (by omega)
      obtain ⟨v, h3, h4⟩ := he enc w n cs' _ h2 (fun k hk => hw k (List.mem_cons_of_mem _ (List.mem_append_left _ (nO (List.mem_map.2 ⟨i, List.mem_range.2 hi, rfl⟩) k hk))))
      exact ⟨v, ⟨cs', h1, h3⟩, h4⟩
    obtain ⟨L, hL⟩ := uD one
    have hlen : ((List.range len).map L).length = len := by simp
    refine ⟨(List.range len).map L, ⟨some ad, cap, by rw [hlen], by rw [hlen]; exact hl, ?_⟩, ?_, ?_⟩
    · rw [hlen]
      refine ⟨hlen, by unfold maxLen at hmax; omega, fun _ => ⟨ad, rfl, fun j p hj => ?_⟩⟩
      have hjl : j < len := by have := (List.getElem?_eq_some_iff.1 hj).1; simpa using this
      have hp : p = L j := by
        rw [List.getElem?_map, List.getElem?_range hjl] at hj
        simp only [Option.map_some, Option.some.injEq] at hj
        exact hj.symm
      subst hp
      obtain ⟨⟨cs', h1, h2⟩, _⟩ := hL j hjl
      rw [hc] at h1
      refine ⟨cs', d.K_len h2, h2, fun i u hi => ?_⟩
      have := qE h1 i u hi
      rwa [Go.Deep.add_add] at this
    · have h1 := hw _ List.mem_cons_self
      rw [List.length_map, List.length_map, List.length_range, List.length_range, hB] at h1
      rw [hlen]
      exact Nat.le_trans (Nat.mul_le_mul_right B (by omega)) h1
    · intro y hy
      obtain ⟨i, hi, rfl⟩ := List.mem_map.1 hy
      exact (hL i (List.mem_range.1 hi)).2
/-- What a slice argument is. -/
theorem came_CS {α : Type} {d : Kd α} {t e : TypeId} {ok : List α → Prop} (h : kU (Kd.slice e d) t ok) {H : Type} (enc : TypeId × Value → H) {w : World} {fuel : Nat} {v : Value} {x : DataW H × List MemPlace} (ht : DataW.trod enc Try.prog w 0 (fun _ => true) true fuel t v.cells.toList = some x) (hr : Reach t x.1) :
    ∃ (A : Option Addr) (c : Nat) (l : List α), v.cells.toList = [.slice A l.length c] ∧ l.length ≤ c ∧ d.C w A l.length l ∧ ok l := by
  obtain ⟨l, ⟨A, c, h1, h2, h3⟩, h4⟩ := h enc w fuel _ x ht hr
  exact ⟨A, c, l, h1, h2, h3, h4⟩
theorem reach_arg {H : Type} {ts : List TypeId} {ds : List (DataW H)} (h : (DataW.weightsEach Try.prog ts ds).all (· ≤ reachBytes) = true) {j : Nat} {t : TypeId} {d : DataW H} (ht : ts[j]? = some t) (hd : ds[j]? = some d) : Reach t d := fun n hn => by
  have := List.all_eq_true.1 h n (DataW.weights_mem_each ht hd n hn)
  simpa using this
theorem pW : reachBytes = 140737488351232 := rfl
end Go.Proofs.Ytjppookmjdaplaa.My
end

section
namespace Go.Proofs.Ytjppookmjdaplaa.My
open Go Go.RowKit Go.Deep Go.ChangeShapes Go.WideShapes Go.ChangeAt Go.Proofs.YtjppookmjdaplaaW.PrintWords
theorem oI {α β : Type} {da : Kd α} {db : Kd β} {t : TypeId} {f0 f1 : Field} {oka : α → Prop} {okb : β → Prop} (ht : Try.prog.underlying t = some (.struct #[f0, f1])) (ct : Try.prog.cellsOf t = da.sz + db.sz)
    (h0 : f0.offset = 0) (h1 : f1.offset = da.sz) (c0 : Try.prog.cellsOf f0.type = da.sz) (c1 : Try.prog.cellsOf f1.type = db.sz) (A : kU da f0.type oka) (B : kU db f1.type okb) :
    kU (Kd.pair da db) t (fun x => oka x.1 ∧ okb x.2) := by
  intro H enc w fuel cs x h hr
  obtain ⟨y0, y1, n, rfl, hl, e0, e1⟩ := trod_struct2 ht h
  rw [h0, c0, List.drop_zero] at e0
  rw [h1, c1] at e1
  have hw : ∀ k, k ∈ DataW.weights Try.prog f0.type y0.1 ++ (DataW.weights Try.prog f1.type y1.1 ++ []) → k ≤ reachBytes := fun k hk => hr k (by
    simp only [DataW.weights, ht]
    simpa [DataW.weightsEach] using hk)
  obtain ⟨v0, k0, o0⟩ := A enc w n _ _ e0 (fun k hk => hw k (List.mem_append_left _ hk))
  obtain ⟨v1, k1, o1⟩ := B enc w n _ _ e1 (fun k hk => hw k (List.mem_append_right _ (List.mem_append_left _ hk)))
  refine ⟨(v0, v1), ⟨_, _, ?_, k0, k1⟩, ⟨o0, o1⟩⟩
  rw [List.take_of_length_le (l := cs.drop da.sz) (by rw [List.length_drop]; omega), List.take_append_drop]
theorem pG {α : Type} {n : Nat} : ∀ {l : List α}, l.length = n + 1 → ∃ x t, l = x :: t ∧ t.length = n
  | x :: t, h => ⟨x, t, rfl, by simpa using h⟩
theorem uT {α β γ : Type} {da : Kd α} {db : Kd β} {dc : Kd γ} {t : TypeId} {f0 f1 f2 : Field} {oka : α → Prop} {okb : β → Prop} {okc : γ → Prop} (ht : Try.prog.underlying t = some (.struct #[f0, f1, f2])) (ct : Try.prog.cellsOf t = da.sz + (db.sz + dc.sz))
    (h0 : f0.offset = 0) (h1 : f1.offset = da.sz) (h2 : f2.offset = da.sz + db.sz) (c0 : Try.prog.cellsOf f0.type = da.sz) (c1 : Try.prog.cellsOf f1.type = db.sz) (c2 : Try.prog.cellsOf f2.type = dc.sz) (A : kU da f0.type oka) (B : kU db f1.type okb) (C : kU dc f2.type okc) :
    kU (Kd.pair da (Kd.pair db dc)) t (fun x => oka x.1 ∧ okb x.2.1 ∧ okc x.2.2) := by
  intro H enc w fuel cs x h hr
  obtain ⟨xs, n, rfl, rfl, hl, hlen, hf⟩ := DataW.trod_struct ht h
  have hl0 : xs.length = 2 + 1 := hlen
  obtain ⟨y0, t0, rfl, hl1⟩ := pG hl0
  obtain ⟨y1, t1, rfl, hl2⟩ := pG (n := 1) hl1
  obtain ⟨y2, t2, rfl, hl3⟩ := pG (n := 0) hl2
  obtain rfl := List.eq_nil_of_length_eq_zero hl3
  · have e0 := hf 0 _ rfl
    have e1 := hf 1 _ rfl
    have e2 := hf 2 _ rfl
    have e0 : DataW.trod enc Try.prog w 0 (fun _ => true) true n f0.type (List.take (Try.prog.cellsOf f0.type) (List.drop f0.offset cs)) = some y0 := e0
    have e1 : DataW.trod enc Try.prog w 0 (fun _ => true) true n f1.type (List.take (Try.prog.cellsOf f1.type) (List.drop f1.offset cs)) = some y1 := e1
    have e2 : DataW.trod enc Try.prog w 0 (fun _ => true) true n f2.type (List.take (Try.prog.cellsOf f2.type) (List.drop f2.offset cs)) = some y2 := e2
    rw [h0, c0, List.drop_zero] at e0
    rw [h1, c1] at e1
    rw [h2, c2] at e2
    have hl : cs.length = da.sz + (db.sz + dc.sz) := by rw [← ct]; exact hl
    have hw : ∀ k, k ∈ DataW.weights Try.prog f0.type y0.1 ++ (DataW.weights Try.prog f1.type y1.1 ++ (DataW.weights Try.prog f2.type y2.1 ++ [])) → k ≤ reachBytes := fun k hk => hr k (by
      simp only [DataW.weights, ht]
      simpa [DataW.weightsEach] using hk)
    obtain ⟨v0, k0, o0⟩ := A enc w n _ _ e0 (fun k hk => hw k (List.mem_append_left _ hk))
    obtain ⟨v1, k1, o1⟩ := B enc w n _ _ e1 (fun k hk => hw k (List.mem_append_right _ (List.mem_append_left _ hk)))
    obtain ⟨v2, k2, o2⟩ := C enc w n _ _ e2 (fun k hk => hw k (List.mem_append_right _ (List.mem_append_right _ (List.mem_append_left _ hk))))
    refine ⟨(v0, v1, v2), ⟨_, _, ?_, k0, _, _, rfl, k1, k2⟩, ⟨o0, o1, o2⟩⟩
    have hd : List.drop (da.sz + db.sz) cs = List.drop db.sz (List.drop da.sz cs) := by first | rw [List.drop_drop] | rw [List.drop_drop, Nat.add_comm]
    rw [List.take_of_length_le (l := List.drop (da.sz + db.sz) cs) (by rw [List.length_drop]; omega), hd, List.take_append_drop, List.take_append_drop]
theorem qK {α β : Type} {d : Kd α} {t : TypeId} {ok : α → Prop} (f : β → α) (g : α → β) (hfg : ∀ x, f (g x) = x) (h : kU d t ok) : kU (Kd.iso d f) t (fun y => ok (f y)) := by
  intro H enc w fuel cs x hx hr
  obtain ⟨v, h1, h2⟩ := h enc w fuel cs x hx hr
  exact ⟨g v, by show d.K w (f (g v)) cs; rw [hfg]; exact h1, by show ok (f (g v)); rw [hfg]; exact h2⟩
theorem l7 {k : IntKind} {t : TypeId} (ht : Try.prog.underlying t = some (.int k)) : kU (Kd.int k) t (fun n => (Lit.int k n).wf = true) := xP (oU ht)
instance : Inhabited K.S103 := ⟨K.z103⟩
instance : Inhabited K.S96 := ⟨K.z96⟩
instance : Inhabited K.S91 := ⟨K.z91⟩
theorem uY : kU K.k91 91 (fun x => (0 ≤ x.f0 ∧ x.f0 < 65536) ∧ (0 ≤ x.f1 ∧ x.f1 < 65536) ∧ (0 ≤ x.f2 ∧ x.f2 < 256)) :=
  lD (qK (fun x : K.S91 => (x.f0, x.f1, x.f2)) (fun p => ⟨p.1, p.2.1, p.2.2⟩) (fun _ => rfl) (uT Try.underlying91 (by kernel_rfl) rfl rfl rfl (by kernel_rfl) (by kernel_rfl) (by kernel_rfl) (l7 Try.underlying29) (l7 Try.underlying29) (l7 Try.underlying5))) (fun _ h => ⟨wf_u16 h.1, wf_u16 h.2.1, wf_u8 h.2.2⟩)
theorem cameS_cuts : kU (Kd.slice 91 K.k91) 39 (fun l => (∀ x ∈ l, (0 ≤ x.f0 ∧ x.f0 < 65536) ∧ (0 ≤ x.f1 ∧ x.f1 < 65536) ∧ (0 ≤ x.f2 ∧ x.f2 < 256)) ∧ (l.length : Int) ≤ 140737488351232) :=
  lD (nM (B := 6) Try.underlying39 (by kernel_rfl) (by kernel_rfl) uY) (fun _ h => ⟨h.2, by have := h.1; rw [pW] at this; omega⟩)
theorem uI : kU K.k96 96 (fun x => (-9223372036854775808 ≤ x.f0 ∧ x.f0 < 9223372036854775808) ∧ (-9223372036854775808 ≤ x.f1 ∧ x.f1 < 9223372036854775808)) :=
  lD (qK (fun x : K.S96 => (x.f0, x.f1)) (fun p => ⟨p.1, p.2⟩) (fun _ => rfl) (oI Try.underlying96 (by kernel_rfl) rfl rfl (by kernel_rfl) (by kernel_rfl) (l7 Try.underlying3) (l7 Try.underlying3))) (fun _ h => ⟨by have := wf_i64 h.1; omega, by have := wf_i64 h.2; omega⟩)
theorem qV : kU (Kd.slice 96 K.k96) 40 (fun l => (l.length : Int) ≤ 8796093022208) :=
  lD (nM (B := 16) Try.underlying40 (by kernel_rfl) (by kernel_rfl) uI) (fun _ h => by have := h.1; rw [pW] at this; omega)
theorem vH : kU (Kd.pair (Kd.int .u32) (Kd.slice 96 K.k96)) 42 (fun x => (0 ≤ x.1 ∧ x.1 < 4294967296) ∧ (x.2.length : Int) ≤ 8796093022208) :=
  lD (oI Try.underlying42 (by kernel_rfl) rfl rfl (by kernel_rfl) (by kernel_rfl) (l7 Try.underlying28) qV) (fun _ h => ⟨wf_u32 h.1, h.2⟩)
theorem map_arg {H : Type} (enc : TypeId × Value → H) {w : World} {fuel : Nat} {cs : Array Value} {x : DataW H × List MemPlace} (ht : DataW.trod enc Try.prog w 0 (fun _ => true) true fuel 42 (Value.agg cs).cells.toList = some x) (hr : Reach 42 x.1) :
    ∃ (a : Int) (A : Option Addr) (c : Nat) (l : List K.S96), cs = #[.int .u32 a, .slice A l.length c] ∧ K.k96.C w A l.length l ∧ l.length ≤ c ∧ (0 ≤ a ∧ a < 4294967296) ∧ (l.length : Int) ≤ 8796093022208 := by
  obtain ⟨v, ⟨c0, c1, h1, h2, A, c, h3, h4, h5⟩, o0, o1⟩ := vH enc w fuel _ x ht hr
  have h2 : c0 = [.int .u32 v.1] := h2
  have h1 : cs.toList = c0 ++ c1 := h1
  rw [h2, h3] at h1
  refine ⟨v.1, A, c, v.2, ?_, h5, h4, o0, o1⟩
  cases cs with
  | mk l => exact congrArg Array.mk h1
end Go.Proofs.Ytjppookmjdaplaa.My
end

section
namespace Go.Proofs.Ytjppookmjdaplaa.My
open Go Go.RowKit Go.Deep Go.ChangeShapes Go.WideShapes Go.ChangeAt Go.Proofs.YtjppookmjdaplaaW.PrintWords
theorem came_facts : Came (Kd.slice 103 K.k103) 45 (fun _ => True) (fun l => lX (fun x : K.S103 => lX (fun _ : Int => 1) x.f0 + 1 + 1 + 1) l + 1) :=
  xC (o5 Try.underlying45 (by kernel_rfl)
    (yP (fun x : K.S103 => (x.f0, x.f1)) (fun p => ⟨p.1, p.2⟩) (fun _ => rfl) (vW Try.underlying103 (by kernel_rfl) rfl rfl (by kernel_rfl) (by kernel_rfl) (o5 Try.underlying25 (by kernel_rfl) (oU Try.underlying3)) (oU Try.underlying2)))) (fun _ _ => trivial)
end Go.Proofs.Ytjppookmjdaplaa.My
namespace Go.Proofs.Ytjppookmjdaplaa.K
open Go Go.RowKit Go.Proofs.YtjppookmjdaplaaW.PrintWords Go.Proofs.YtjppookmjdaplaaW.PrintLast Go.Proofs.YtjppookmjdaplaaW.PrintMore Go.Proofs.Ytjppookmjdaplaa.My
theorem zT (l : List Int) : lX (fun _ : Int => 1) l = l.length := by
  induction l with
  | nil => rfl
  | cons x r ih => rw [mV, ih, List.length_cons]; omega
theorem II (l : List TFa) : fsz l ≤ 9 * lX (fun x : TFa => lX (fun _ : Int => 1) x.f0 + 1 + 1 + 1) l := by
  induction l with
  | nil => exact Nat.zero_le _
  | cons x r ih => rw [lS, mV, zT]; omega
theorem spansParts_walk (e0 : Int) (A0 : Option Addr) (c0 : Nat) (l0 : List TSp) (A1 : Option Addr) (c1 : Nat) (l1 : List TCu) (A2 : Option Addr) (c2 : Nat) (l2 : List TFa) (a3 a4 a5 : Int) (w : World)
    (C0 : k96.C w A0 l0.length l0) (le0 : l0.length ≤ c0) (_ : 0 ≤ e0 ∧ e0 < 4294967296) (_ : (l0.length : Int) ≤ 8796093022208)
    (C1 : k91.C w A1 l1.length l1) (le1 : l1.length ≤ c1) (ok1 : (∀ x ∈ l1, xR x) ∧ (l1.length : Int) ≤ 140737488351232)
    (C2 : k103.C w A2 l2.length l2) (le2 : l2.length ≤ c2) (_ : -9223372036854775808 ≤ a3 ∧ a3 ≤ 9223372036854775807) (_ : -9223372036854775808 ≤ a4 ∧ a4 ≤ 9223372036854775807) (_ : -9223372036854775808 ≤ a5 ∧ a5 ≤ 9223372036854775807)
    (hw : lX (fun x : TFa => lX (fun _ : Int => 1) x.f0 + 1 + 1 + 1) l2 + 1 ≤ 1048576) :
    Calls Try.prog 6 #[.agg #[.int .u32 e0, .slice A0 l0.length c0], .slice A1 l1.length c1, .slice A2 l2.length c2, .int .i64 a3, .int .i64 a4, .int .i64 a5] w fun e w' => e = .returned (.bool true) ∧ Below w.heap.size w w' := by
  obtain ⟨k0, hk⟩ := zH e0 l0 l1 ok1.1 l2 (fun _ => by have := II l2; omega) a3 a4 a5
  exact stratumlaw12_SpansParts.calls k0 e0 A0 c0 l0 A1 c1 l1 A2 c2 l2 a3 a4 a5 true w C0 le0 C1 le1 C2 le2 (hk k0 (Nat.le_refl _))
end Go.Proofs.Ytjppookmjdaplaa.K
end
