/- Parts of the proof, one behind the other: SpN2, SpW6, Came, CameS, CameP. -/
import Derived.Test.YtbpdejbkfpkphaaQSpansNodes9
import Derived.Test.YtbpdejbkfpkphaaRows
import Derived.Deep.Slices
import Derived.ChangeSame
set_option linter.unusedVariables false
set_option linter.unusedSimpArgs false
section
namespace Go.Proofs.Ytbpdejbkfpkphaa.K
open Go Go.RowKit Go.Proofs.YtbpdejbkfpkphaaW.PrintWords Go.Proofs.YtbpdejbkfpkphaaW.PrintLast Go.Proofs.YtbpdejbkfpkphaaW.PrintMore
theorem oP (l : List Int) (i : Nat) (h : i < l.length) : rd l (i : Int) = l[i] := by
  show l.getD (i : Int).toNat _ = _
  rw [Int.toNat_natCast, List.getD_eq_getElem?_getD, List.getElem?_eq_getElem h]; rfl
theorem xN (l : List Int) (x : Int) (hl : l.length ≤ 1000) : ∀ (n k i : Nat), i + n = l.length → n < k → stratumlaw12_has.l0 k l x i = some (decide (x ∈ l.drop i))
  | _, 0, _, _, h => by omega
  | 0, k + 1, i, hi, _ => by
    rw [stratumlaw12_has.l0, if_neg (by omega), List.drop_eq_nil_of_le (by omega)]; simp
  | n + 1, k + 1, i, hi, hk => by
    have hlt : i < l.length := by omega
    rw [stratumlaw12_has.l0, if_pos (by omega), if_pos (by omega), oP l i hlt, drop_cons l i hlt, lY i (by omega)]
    by_cases h : l[i] = x
    · rw [if_pos h]; simp [h]
    · rw [if_neg h, xN l x hl n k (i + 1) (by omega) (by omega)]
      exact congrArg some (decide_eq_decide.2 ⟨fun h' => List.mem_cons_of_mem _ h', fun h' => (List.mem_cons.1 h').resolve_left (fun e => h e.symm)⟩)
theorem uP (k : Nat) (l : List Int) (x : Int) (hl : l.length ≤ 1000) (hk : l.length < k) : stratumlaw12_has.f k l x = some (decide (x ∈ l)) := by
  unfold stratumlaw12_has.f
  exact xN l x hl l.length k 0 (by omega) hk
theorem lM (l : List TSp) (a b : Int) : (kQ l a b).length ≤ 6 := by
  unfold kQ
  exact Nat.le_trans (List.length_filter_le _ _) (by decide)
theorem rD (l : List TSp) (a b : Int) : (kQ l a b).Pairwise (· < ·) := List.Pairwise.filter _ (by decide)
theorem lK (l : List TSp) (a b x : Int) (h0 : 0 ≤ a) (h1 : b ≤ 10000) : x ∈ kQ l a b ↔ (0 ≤ x ∧ x < 6) ∧ ∃ u, a ≤ u ∧ u < b ∧ jY l u = x := by
  have e1 : loN a = a := by show mx a 0 = a; unfold mx; split <;> omega
  have e2 : hiN b = b := by show mn b 10000 = b; unfold mn; split <;> omega
  unfold kQ
  rw [e1, e2, List.mem_filter, lF]
  constructor
  · rintro ⟨h, k⟩; exact ⟨by simp at h; omega, k⟩
  · rintro ⟨h, k⟩; exact ⟨by simp; omega, k⟩
theorem qV (fr c : Int) (L : List TSp) (hL : L.length ≤ 40) (all x : List Int) (h1 : all.length ≤ 6) (h2 : x.length ≤ 6) (hx : ∀ v ∈ x, v ∈ all) (h0 : 0 < all.length) (hn : kQ L fr fr = []) :
    ∀ (n k i : Nat), i + n = x.length → n + 30 < k → stratumlaw12_SpansNodes.l1 k fr all x i c L = some true
  | _, 0, _, _, h => by omega
  | 0, k + 1, i, hi, hk => by
    rw [stratumlaw12_SpansNodes.l1, if_neg (by omega), xE _ (by omega)]
    simp only [Option.bind_some]
    rw [if_pos trivial, mZ _ _ _ _ (by omega), hn]
    simp only [Option.bind_some]
    rw [if_pos (by simp)]
    exact congrArg some (decide_eq_true (by omega))
  | n + 1, k + 1, i, hi, hk => by
    have hlt : i < x.length := by omega
    rw [stratumlaw12_SpansNodes.l1, if_pos (by omega), if_pos (by omega), oP x i hlt, uP k _ _ (by omega) (by omega)]
    simp only [Option.bind_some]
    rw [if_pos (decide_eq_true (hx _ (List.getElem_mem hlt))), lY i (by omega)]
    exact qV fr c L hL all x h1 h2 hx h0 hn n k (i + 1) (by omega) (by omega)
theorem qX (fr c : Int) (L : List TSp) (hL : L.length ≤ 40) (all x y : List Int) (h1 : all.length ≤ 6) (h2 : x.length ≤ 6) (h3 : y.length ≤ 6) (hx : ∀ v ∈ x, v ∈ all) (ha : ∀ v ∈ all, v ∈ x ∨ v ∈ y) (hp : all.Pairwise (· < ·)) (h0 : 0 < all.length) (hn : kQ L fr fr = []) :
    ∀ (n k i : Nat), i + n = all.length → n + 60 < k → stratumlaw12_SpansNodes.l0 k fr all x y i c L = some true
  | _, 0, _, _, h => by omega
  | 0, k + 1, i, hi, hk => by
    rw [stratumlaw12_SpansNodes.l0, if_neg (by omega)]
    exact qV fr c L hL all x h1 h2 hx h0 hn x.length k 0 (by omega) (by omega)
  | n + 1, k + 1, i, hi, hk => by
    have hlt : i < all.length := by omega
    have ih := qX fr c L hL all x y h1 h2 h3 hx ha hp h0 hn n k (i + 1) (by omega) (by omega)
    have hend : ((stratumlaw12_has.f k x all[i]).bind fun t422 => (if t422 = true then (stratumlaw12_SpansNodes.l0 k fr all x y ((i + 1 : Nat) : Int) c L) else ((stratumlaw12_has.f k y all[i]).bind fun t424 => (if t424 = true then (stratumlaw12_SpansNodes.l0 k fr all x y ((i + 1 : Nat) : Int) c L) else (some false))))) = some true := by
      rw [uP k _ _ (by omega) (by omega), uP k _ _ (by omega) (by omega)]
      simp only [Option.bind_some]
      by_cases hm : all[i] ∈ x
      · rw [if_pos (decide_eq_true hm)]; exact ih
      · rw [if_neg (by simpa using hm), if_pos (decide_eq_true ((ha _ (List.getElem_mem hlt)).resolve_left hm))]; exact ih
    rw [stratumlaw12_SpansNodes.l0, if_pos (by omega)]
    by_cases hi0 : 0 < i
    · have hw : wrap64 ((i : Int) - 1) = ((i - 1 : Nat) : Int) := by unfold wrap64; omega
      have hlt2 : i - 1 < all.length := by omega
      have hle := List.pairwise_iff_getElem.1 hp (i - 1) i hlt2 hlt (by omega)
      rw [if_pos (by omega), if_pos (by omega), hw, if_pos (by omega), if_pos (by omega), oP all i hlt, oP all (i - 1) hlt2, if_neg (by omega), lY i (by omega)]
      exact hend
    · rw [if_neg (by omega), if_pos (by omega), oP all i hlt, lY i (by omega)]
      exact hend
theorem nodes_true (k : Nat) (hk : 21000 < k) (cs : List TCu) (hcs : ∀ x ∈ cs, CutOk x) (x y z a2 : Nat) (hx : x < 65536) (hy : y < 65536) (hz : z < 256) (h2 : a2 < 65536) :
    stratumlaw12_SpansNodes.f k cs x y z a2 = some true := by
  unfold stratumlaw12_SpansNodes.f
  obtain ⟨a, L, he, ha, hs⟩ := zV 200 4 (by omega) (by omega) (by omega) (by omega) cs hcs k (by omega)
  rw [show ((200 : Nat) : Int) = 200 from rfl] at he
  rw [he, Option.bind_some]
  dsimp only
  obtain ⟨hr0, hr⟩ := uC 200 x y (by omega) (by omega) ⟨by omega, by omega⟩ ⟨by omega, by omega⟩
  rw [if_neg hr0]
  generalize wrap64 (wrap64 (Int.tmod (wrap64 (x : Int)) 200 + 1) + Int.tmod (wrap64 (y : Int)) (wrap64 (200 - Int.tmod (wrap64 (x : Int)) 200))) = tt at hr
  generalize Int.tmod (wrap64 (x : Int)) 200 = fr at hr
  have hL := hs.len
  have q1 := hr.lo
  have q2 := hr.lt
  have q3 := hr.hi
  rw [lT (tt - fr) (by omega) (by omega), lT (tt - fr + 1) (by omega) (by omega), lT (a2 : Int) (by omega) (by omega), if_neg (by omega)]
  have hk2 := qR (a2 : Int) (tt - fr + 1) (by omega) (by omega)
  generalize Int.tmod (a2 : Int) (tt - fr + 1) = d at hk2
  rw [lT (fr + d) (by omega) (by omega), mZ _ _ _ _ (by omega), Option.bind_some, mZ _ _ _ _ (by omega), Option.bind_some, mZ _ _ _ _ (by omega), Option.bind_some]
  have m1 := fun v => lK L fr tt v q1 (by omega)
  have m2 := fun v => lK L fr (fr + d) v q1 (by omega)
  have m3 := fun v => lK L (fr + d) tt v (by omega) (by omega)
  have hf := hs.find fr q1
  have h6 : mn 4 6 ≤ 6 := by unfold mn; split <;> omega
  refine qX fr a L hL _ _ _ (lM _ _ _) (lM _ _ _) (lM _ _ _) (fun v hv => ?_) (fun v hv => ?_) (rD _ _ _) ?_ ?_ _ k 0 (Nat.zero_add _) ?_
  · obtain ⟨h3, u, h4, h5, h7⟩ := (m2 v).1 hv
    exact (m1 v).2 ⟨h3, u, h4, by omega, h7⟩
  · obtain ⟨h3, u, h4, h5, h7⟩ := (m1 v).1 hv
    by_cases hu : u < fr + d
    · exact .inl ((m2 v).2 ⟨h3, u, h4, hu, h7⟩)
    · exact .inr ((m3 v).2 ⟨h3, u, by omega, h5, h7⟩)
  · exact List.length_pos_of_mem ((m1 (jY L fr)).2 ⟨by omega, fr, Int.le_refl _, q2, rfl⟩)
  · refine List.eq_nil_iff_forall_not_mem.2 (fun v hv => ?_)
    obtain ⟨_, u, h4, h5, _⟩ := (lK L fr fr v q1 (by omega)).1 hv
    omega
  · have := lM L fr tt; omega
end Go.Proofs.Ytbpdejbkfpkphaa.K
end

section
namespace Go.Proofs.Ytbpdejbkfpkphaa.My
open Go Go.RowKit Go.Proofs.YtbpdejbkfpkphaaW.PrintWords
theorem spansNodes_walk (A0 : Option Addr) (c0 : Nat) (l0 : List K.S55) (x y z a2 : Nat) (w : World)
    (hC0 : K.k55.C w A0 l0.length l0) (hc0 : l0.length ≤ c0) (ok0 : (∀ x ∈ l0, K.CutOk x) ∧ (l0.length : Int) ≤ 140737488351232) (hx : x < 65536) (hy : y < 65536) (hz : z < 256) (h2 : a2 < 65536) :
    Calls Try.prog 7 #[.slice A0 l0.length c0, .agg #[.int .u16 (x : Int), .int .u16 (y : Int), .int .u8 (z : Int)], .int .u16 (a2 : Int)] w fun e w' => e = .returned (.bool true) ∧ Below w.heap.size w w' :=
  K.stratumlaw12_SpansNodes.calls 21500 A0 c0 l0 x y z a2 true w hC0 hc0 (K.nodes_true 21500 (by omega) l0 ok0.1 x y z a2 hx hy hz h2)
end Go.Proofs.Ytbpdejbkfpkphaa.My
end

section
namespace Go.Proofs.Ytbpdejbkfpkphaa.My
open Go Go.RowKit Go.Deep Go.ChangeShapes Go.WideShapes Go.ChangeAt Go.Proofs.YtbpdejbkfpkphaaW.PrintWords
/-- A value of type t that came in reads as a v of kind d, of which ok holds and which is no heavier than the datum's bulk. -/
def Came {α : Type} (d : Kd α) (t : TypeId) (ok : α → Prop) (wt : α → Nat) : Prop :=
  ∀ {H : Type} (enc : TypeId × Value → H) (w : World) (fuel : Nat) (cs : List Value) (x : DataW H × List MemPlace), DataW.trod enc Try.prog w 0 (fun _ => true) true fuel t cs = some x → ∃ v : α, d.K w v cs ∧ ok v ∧ wt v ≤ Rows.uptoBulk x.1
theorem x9 {k : IntKind} {t : TypeId} (ht : Try.prog.underlying t = some (.int k)) : Came (Kd.int k) t (fun n => (Lit.int k n).wf = true) (fun _ => 1) := by
  intro H enc w fuel cs x h
  obtain ⟨n, rfl, hx, hw⟩ := DataW.trod_int ht h
  exact ⟨n, rfl, hw, by rw [hx]; simp [Rows.uptoBulk]⟩
theorem vK {α : Type} [Inhabited α] {n : Nat} {p : Nat → α → Prop} (h : ∀ i, i < n → ∃ x, p i x) : ∃ f : Nat → α, ∀ i, i < n → p i (f i) := by
  classical
  refine ⟨fun i => if h' : i < n then Classical.choose (h i h') else default, fun i hi => ?_⟩
  simp only [dif_pos hi]
  exact Classical.choose_spec (h i hi)
theorem uJ {w : World} {a : Addr} {n : Nat} {cs : List Value} (h : w.cells? 0 a n = some cs) (i : Nat) (v : Value) (hi : cs[i]? = some v) : w.cell? (a.add i) = some v := by
  obtain ⟨_, hl, hc⟩ := World.cells?_some h
  have hil : i < n := by have := (List.getElem?_eq_some_iff.1 hi).1; omega
  rw [hc i hil]
  exact hi
end Go.Proofs.Ytbpdejbkfpkphaa.My
end

section
namespace Go.Proofs.Ytbpdejbkfpkphaa.My
open Go Go.RowKit Go.Deep Go.ChangeShapes Go.WideShapes Go.ChangeAt Go.Proofs.YtbpdejbkfpkphaaW.PrintWords
/-- Nothing in it is too large. -/
def Reach {H : Type} (t : TypeId) (d : DataW H) : Prop := ∀ n ∈ d.weights Try.prog t, n ≤ reachBytes
def lQ {α : Type} (d : Kd α) (t : TypeId) (ok : α → Prop) : Prop :=
  ∀ {H : Type} (enc : TypeId × Value → H) (w : World) (fuel : Nat) (cs : List Value) (x : DataW H × List MemPlace), DataW.trod enc Try.prog w 0 (fun _ => true) true fuel t cs = some x → Reach t x.1 → ∃ v : α, d.K w v cs ∧ ok v
theorem vY {α : Type} {d : Kd α} {t : TypeId} {ok : α → Prop} {wt : α → Nat} (h : Came d t ok wt) : lQ d t ok := by
  intro H enc w fuel cs x hx _
  obtain ⟨v, h1, h2, _⟩ := h enc w fuel cs x hx
  exact ⟨v, h1, h2⟩
theorem o5 {α : Type} {d : Kd α} {t : TypeId} {ok ok' : α → Prop} (h : lQ d t ok) (hok : ∀ x, ok x → ok' x) : lQ d t ok' := by
  intro H enc w fuel cs x hx hr
  obtain ⟨v, h1, h2⟩ := h enc w fuel cs x hx hr
  exact ⟨v, h1, hok v h2⟩
theorem nO {H : Type} {e : TypeId} : ∀ {l : List (DataW H)} {d : DataW H}, d ∈ l → ∀ n ∈ d.weights Try.prog e, n ∈ DataW.weightsAll Try.prog e l
  | x :: l, d, hd, n, hn => by
    simp only [DataW.weightsAll, List.mem_append]
    rcases List.mem_cons.1 hd with rfl | hd
    · exact .inl hn
    · exact .inr (nO hd n hn)
  | [], d, hd, n, hn => by cases hd
theorem qH {α : Type} [Inhabited α] {d : Kd α} {t e : TypeId} {ok : α → Prop} {B : Nat} (ht : Try.prog.underlying t = some (.slice e)) (hc : Try.prog.cellsOf e = d.sz) (hB : Try.prog.bytesOf e = B) (he : lQ d e ok) :
    lQ (Kd.slice e d) t (fun l => l.length * B ≤ reachBytes ∧ ∀ x ∈ l, ok x) := by
  intro H enc w fuel cs x h hr
  rcases open_slice ht h with ⟨rfl, rfl⟩ | ⟨ad, len, cap, m, n, D, Pl, rfl, _, hl, hmax, hm, rfl, hel⟩
  · exact ⟨[], ⟨none, 0, rfl, Nat.le_refl _, ⟨rfl, by simp, fun h => absurd h (Nat.lt_irrefl 0)⟩⟩, by simp⟩
  · have hlm : len ≤ m := by rw [hm]; simp; exact hl
    have hw : ∀ n, n ∈ (((List.range len).map D).length + ((List.range (m - len)).map fun j => D (len + j)).length) * Try.prog.bytesOf e :: (DataW.weightsAll Try.prog e ((List.range len).map D) ++ DataW.weightsAll Try.prog e ((List.range (m - len)).map fun j => D (len + j))) → n ≤ reachBytes := by
      intro n hn
      refine hr n ?_
      simp only [DataW.weights, ht]
      exact hn
    have one : ∀ i, i < len → ∃ v : α, (∃ cs', w.cells? 0 (ad.add (i * Try.prog.cellsOf e)) (Try.prog.cellsOf e) = some cs' ∧ d.K w v cs') ∧ ok v := by
      intro i hi
      obtain ⟨cs', h1, h2⟩ := hel i (by omega)
      obtain ⟨v, h3, h4⟩ := he enc w n cs' _ h2 (fun k hk => hw k (List.mem_cons_of_mem _ (List.mem_append_left _ (nO (List.mem_map.2 ⟨i, List.mem_range.2 hi, rfl⟩) k hk))))
      exact ⟨v, ⟨cs', h1, h3⟩, h4⟩
    obtain ⟨L, hL⟩ := vK one
    have hlen : ((List.range len).map L).length = len := by simp
    refine ⟨(List.range len).map L, ⟨some ad, cap, by rw [hlen], by rw [hlen]; exact hl, ?_⟩, ?_, ?_⟩
    · rw [hlen]
      refine ⟨hlen, by unfold maxLen at hmax; omega, fun _ => ⟨ad, rfl, fun j p hj => ?_⟩⟩
      have hjl : j < len := by have := (List.getElem?_eq_some_iff.1 hj).1; simpa using this
      have hp : p = L j := by
        rw [List.getElem?_map, List.getElem?_range hjl] at hj
        simp only [Option.map_some, Option.some.injEq] at hj
        exact hj.symm
      subst hp
      obtain ⟨⟨cs', h1, h2⟩, _⟩ := hL j hjl
      rw [hc] at h1
      refine ⟨cs', d.K_len h2, h2, fun i u hi => ?_⟩
      have := uJ h1 i u hi
      rwa [Go.Deep.add_add] at this
    · have h1 := hw _ List.mem_cons_self
      rw [List.length_map, List.length_map, List.length_range, List.length_range, hB] at h1
      rw [hlen]
      exact Nat.le_trans (Nat.mul_le_mul_right B (by omega)) h1
    · intro y hy
      obtain ⟨i, hi, rfl⟩ := List.mem_map.1 hy
      exact (hL i (List.mem_range.1 hi)).2
/-- What a slice argument is. -/
theorem came_CS {α : Type} {d : Kd α} {t e : TypeId} {ok : List α → Prop} (h : lQ (Kd.slice e d) t ok) {H : Type} (enc : TypeId × Value → H) {w : World} {fuel : Nat} {v : Value} {x : DataW H × List MemPlace} (ht : DataW.trod enc Try.prog w 0 (fun _ => true) true fuel t v.cells.toList = some x) (hr : Reach t x.1) :
    ∃ (A : Option Addr) (c : Nat) (l : List α), v.cells.toList = [.slice A l.length c] ∧ l.length ≤ c ∧ d.C w A l.length l ∧ ok l := by
  obtain ⟨l, ⟨A, c, h1, h2, h3⟩, h4⟩ := h enc w fuel _ x ht hr
  exact ⟨A, c, l, h1, h2, h3, h4⟩
theorem reach_arg {H : Type} {ts : List TypeId} {ds : List (DataW H)} (h : (DataW.weightsEach Try.prog ts ds).all (· ≤ reachBytes) = true) {j : Nat} {t : TypeId} {d : DataW H} (ht : ts[j]? = some t) (hd : ds[j]? = some d) : Reach t d := fun n hn => by
  have := List.all_eq_true.1 h n (DataW.weights_mem_each ht hd n hn)
  simpa using this
theorem rY : reachBytes = 140737488351232 := rfl
end Go.Proofs.Ytbpdejbkfpkphaa.My
end

section
namespace Go.Proofs.Ytbpdejbkfpkphaa.My
open Go Go.RowKit Go.Deep Go.ChangeShapes Go.WideShapes Go.ChangeAt Go.Proofs.YtbpdejbkfpkphaaW.PrintWords
theorem oJ {α : Type} {n : Nat} : ∀ {l : List α}, l.length = n + 1 → ∃ x t, l = x :: t ∧ t.length = n
  | x :: t, h => ⟨x, t, rfl, by simpa using h⟩
theorem rE {α β γ : Type} {da : Kd α} {db : Kd β} {dc : Kd γ} {t : TypeId} {f0 f1 f2 : Field} {oka : α → Prop} {okb : β → Prop} {okc : γ → Prop} (ht : Try.prog.underlying t = some (.struct #[f0, f1, f2])) (ct : Try.prog.cellsOf t = da.sz + (db.sz + dc.sz))
    (h0 : f0.offset = 0) (h1 : f1.offset = da.sz) (h2 : f2.offset = da.sz + db.sz) (c0 : Try.prog.cellsOf f0.type = da.sz) (c1 : Try.prog.cellsOf f1.type = db.sz) (c2 : Try.prog.cellsOf f2.type = dc.sz) (A : lQ da f0.type oka) (B : lQ db f1.type okb) (C : lQ dc f2.type okc) :
    lQ (Kd.pair da (Kd.pair db dc)) t (fun x => oka x.1 ∧ okb x.2.1 ∧ okc x.2.2) := by
  intro H enc w fuel cs x h hr
  obtain ⟨xs, n, rfl, rfl, hl, hlen, hf⟩ := DataW.trod_struct ht h
  have hl0 : xs.length = 2 + 1 := hlen
  obtain ⟨y0, t0, rfl, hl1⟩ := oJ hl0
  obtain ⟨y1, t1, rfl, hl2⟩ := oJ (n := 1) hl1
  obtain ⟨y2, t2, rfl, hl3⟩ := oJ (n := 0) hl2
  obtain rfl := List.eq_nil_of_length_eq_zero hl3
  · have e0 := hf 0 _ rfl
    have e1 := hf 1 _ rfl
    have e2 := hf 2 _ rfl
    have e0 : DataW.trod enc Try.prog w 0 (fun _ => true) true n f0.type (List.take (Try.prog.cellsOf f0.type) (List.drop f0.offset cs)) = some y0 := e0
    have e1 : DataW.trod enc Try.prog w 0 (fun _ => true) true n f1.type (List.take (Try.prog.cellsOf f1.type) (List.drop f1.offset cs)) = some y1 := e1
    have e2 : DataW.trod enc Try.prog w 0 (fun _ => true) true n f2.type (List.take (Try.prog.cellsOf f2.type) (List.drop f2.offset cs)) = some y2 := e2
    rw [h0, c0, List.drop_zero] at e0
    rw [h1, c1] at e1
    rw [h2, c2] at e2
    have hl : cs.length = da.sz + (db.sz + dc.sz) := by rw [← ct]; exact hl
    have hw : ∀ k, k ∈ DataW.weights Try.prog f0.type y0.1 ++ (DataW.weights Try.prog f1.type y1.1 ++ (DataW.weights Try.prog f2.type y2.1 ++ [])) → k ≤ reachBytes := fun k hk => hr k (by
      simp only [DataW.weights, ht]
      simpa [DataW.weightsEach] using hk)
    obtain ⟨v0, k0, o0⟩ := A enc w n _ _ e0 (fun k hk => hw k (List.mem_append_left _ hk))
    obtain ⟨v1, k1, o1⟩ := B enc w n _ _ e1 (fun k hk => hw k (List.mem_append_right _ (List.mem_append_left _ hk)))
    obtain ⟨v2, k2, o2⟩ := C enc w n _ _ e2 (fun k hk => hw k (List.mem_append_right _ (List.mem_append_right _ (List.mem_append_left _ hk))))
    refine ⟨(v0, v1, v2), ⟨_, _, ?_, k0, _, _, rfl, k1, k2⟩, ⟨o0, o1, o2⟩⟩
    have hd : List.drop (da.sz + db.sz) cs = List.drop db.sz (List.drop da.sz cs) := by first | rw [List.drop_drop] | rw [List.drop_drop, Nat.add_comm]
    rw [List.take_of_length_le (l := List.drop (da.sz + db.sz) cs) (by rw [List.length_drop]; omega), hd, List.take_append_drop, List.take_append_drop]
theorem vH {α β : Type} {d : Kd α} {t : TypeId} {ok : α → Prop} (f : β → α) (g : α → β) (hfg : ∀ x, f (g x) = x) (h : lQ d t ok) : lQ (Kd.iso d f) t (fun y => ok (f y)) := by
  intro H enc w fuel cs x hx hr
  obtain ⟨v, h1, h2⟩ := h enc w fuel cs x hx hr
  exact ⟨g v, by show d.K w (f (g v)) cs; rw [hfg]; exact h1, by show ok (f (g v)); rw [hfg]; exact h2⟩
theorem nN {k : IntKind} {t : TypeId} (ht : Try.prog.underlying t = some (.int k)) : lQ (Kd.int k) t (fun n => (Lit.int k n).wf = true) := vY (x9 ht)
instance : Inhabited K.S77 := ⟨K.z77⟩
instance : Inhabited K.S60 := ⟨K.z60⟩
instance : Inhabited K.S55 := ⟨K.z55⟩
theorem pO : lQ K.k55 55 (fun x => (0 ≤ x.f0 ∧ x.f0 < 65536) ∧ (0 ≤ x.f1 ∧ x.f1 < 65536) ∧ (0 ≤ x.f2 ∧ x.f2 < 256)) :=
  o5 (vH (fun x : K.S55 => (x.f0, x.f1, x.f2)) (fun p => ⟨p.1, p.2.1, p.2.2⟩) (fun _ => rfl) (rE Try.underlying55 (by kernel_rfl) rfl rfl rfl (by kernel_rfl) (by kernel_rfl) (by kernel_rfl) (nN Try.underlying29) (nN Try.underlying29) (nN Try.underlying5))) (fun _ h => ⟨wf_u16 h.1, wf_u16 h.2.1, wf_u8 h.2.2⟩)
theorem cameS_cuts : lQ (Kd.slice 55 K.k55) 39 (fun l => (∀ x ∈ l, (0 ≤ x.f0 ∧ x.f0 < 65536) ∧ (0 ≤ x.f1 ∧ x.f1 < 65536) ∧ (0 ≤ x.f2 ∧ x.f2 < 256)) ∧ (l.length : Int) ≤ 140737488351232) :=
  o5 (qH (B := 6) Try.underlying39 (by kernel_rfl) (by kernel_rfl) pO) (fun _ h => ⟨h.2, by have := h.1; rw [rY] at this; omega⟩)
theorem cut_arg {H : Type} (enc : TypeId × Value → H) {w : World} {fuel : Nat} {cs : Array Value} {x : DataW H × List MemPlace} (ht : DataW.trod enc Try.prog w 0 (fun _ => true) true fuel 55 (Value.agg cs).cells.toList = some x) (hr : Reach 55 x.1) :
    ∃ a b n : Nat, cs = #[.int .u16 a, .int .u16 b, .int .u8 n] ∧ a < 65536 ∧ b < 65536 ∧ n < 256 := by
  obtain ⟨v, ⟨c0, c1, h1, h2, c2, c3, h3, h4, h5⟩, o0, o1, o2⟩ := pO enc w fuel _ x ht hr
  obtain ⟨a, ha⟩ := Int.eq_ofNat_of_zero_le o0.1
  obtain ⟨b, hb⟩ := Int.eq_ofNat_of_zero_le o1.1
  obtain ⟨n, hn⟩ := Int.eq_ofNat_of_zero_le o2.1
  refine ⟨a, b, n, ?_, by omega, by omega, by omega⟩
  have h2 : c0 = [.int .u16 v.f0] := h2
  have h4 : c2 = [.int .u16 v.f1] := h4
  have h5 : c3 = [.int .u8 v.f2] := h5
  have h1 : cs.toList = c0 ++ c1 := h1
  rw [h3, h2, h4, h5, ha, hb, hn] at h1
  have h1 : cs.toList = [.int .u16 (a : Int), .int .u16 (b : Int), .int .u8 (n : Int)] := h1
  cases cs with
  | mk l => exact congrArg Array.mk h1
end Go.Proofs.Ytbpdejbkfpkphaa.My
end
