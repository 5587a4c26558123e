/- Parts of the proof, one behind the other: SpM, SpW5, Came, CameS, CameP. -/
import Derived.Test.YtbpdejbkfpkphaaQSpansBack10
import Derived.Test.YtbpdejbkfpkphaaRows
import Derived.Deep.Slices
import Derived.ChangeSame
set_option linter.unusedVariables false
set_option linter.unusedSimpArgs false
section
namespace Go.Proofs.Ytbpdejbkfpkphaa.K
open Go Go.RowKit Go.Proofs.YtbpdejbkfpkphaaW.PrintWords Go.Proofs.YtbpdejbkfpkphaaW.PrintLast Go.Proofs.YtbpdejbkfpkphaaW.PrintMore
theorem uY (a c : Int) (l : List TSp) (hl : l.length ≤ 40) (hac : c ≠ a) : ∀ (n k i : Nat), i + n = l.length → n + 30 < k → stratumlaw12_SpansBack.l0 k i a l c l = some true
  | _, 0, _, _, h => by omega
  | 0, k + 1, i, hi, hk => by
    rw [stratumlaw12_SpansBack.l0, if_neg (by omega), oM _ (by omega)]
    simp only [Option.bind_some]
    rw [if_pos trivial]
    unfold spans_Same.f
    rw [if_neg hac]
    rfl
  | n + 1, k + 1, i, hi, hk => by
    rw [stratumlaw12_SpansBack.l0, if_pos (by omega), if_pos (by omega), if_pos (by omega), if_neg (by simp), mD i (by omega)]
    exact uY a c l hl hac n k (i + 1) (by omega) (by omega)
theorem rY {l : List TSp} {nodes fr tt q : Int} {n : Nat} (h : Snd l n nodes) (h0 : 0 ≤ fr) (h1 : fr < tt) (h2 : tt ≤ n) (h5 : (n : Int) ≤ 10000) (hq : kL l fr tt = [q]) : (0 ≤ q ∧ q < mn nodes 6) ∧ ∀ u, fr ≤ u → u < tt → jQ l u = q := by
  have e1 : loN fr = fr := by show mx fr 0 = fr; unfold mx; split <;> omega
  have e2 : hiN tt = tt := by show mn tt 10000 = tt; unfold mn; split <;> omega
  have e6 : mn nodes 6 ≤ 6 := by unfold mn; split <;> omega
  have ha : ∀ u, fr ≤ u → u < tt → jQ l u = q := by
    intro u hu1 hu2
    have hf := h.find u (by omega)
    have : jQ l u ∈ kL l fr tt := by
      unfold kL
      rw [e1, e2]
      exact List.mem_filter.2 ⟨by simp; omega, (lL l fr tt _).2 ⟨u, hu1, hu2, rfl⟩⟩
    rw [hq] at this
    simpa using this
  exact ⟨by rw [← ha fr (Int.le_refl _) h1]; exact h.find fr h0, ha⟩
theorem rW (q : Int) (z : Nat) (hq : 0 ≤ q ∧ q < 3) (hz : z < 256) : ∃ nd : Int, Int.tmod (wrap64 (wrap64 (q + 1) + Int.tmod (wrap64 (z : Int)) 2)) 3 = nd ∧ 0 ≤ nd ∧ nd < 3 ∧ nd ≠ q := by
  have hz2 : Int.tmod (wrap64 (z : Int)) 2 = (z : Int) % 2 := by
    rw [lM (z : Int) (by omega) (by omega), Int.tmod_eq_emod_of_nonneg (by omega)]
  rw [hz2, lM (q + 1) (by omega) (by omega), lM (q + 1 + (z : Int) % 2) (by omega) (by omega), Int.tmod_eq_emod_of_nonneg (by omega)]
  exact ⟨_, rfl, by omega, by omega, by omega⟩
theorem rH {L : List TSp} {S : Nat} {fr tt q nd : Int} (a : Int) (hs : Snd L S 3) (hS : S ≤ 201) (q1 : 0 ≤ fr) (q2 : fr < tt) (q3 : tt ≤ S) (hq : 0 ≤ q ∧ q < 3) (hqa : ∀ u, fr ≤ u → u < tt → jQ L u = q) (hto : 0 ≤ nd ∧ nd < 3 ∧ nd ≠ q) :
    kQ a L S 3 fr tt nd = (0, [], 3) ∨ ∃ L2 : List TSp, kQ a L S 3 fr tt nd = ((a + 1) % 4294967296, L2, 0) ∧ L2.length ≤ 40 ∧ kQ ((a + 1) % 4294967296) L2 S 3 fr tt q = (((a + 1) % 4294967296 + 1) % 4294967296, L, 0) := by
  have hmn : mn 3 6 = 3 := by unfold mn; split <;> omega
  have hL := hs.len
  rcases lK a hs q1 q2 q3 hto.1 (by rw [hmn]; exact hto.2.1) (by omega) with ⟨_, h4⟩ | ⟨_, ⟨h3, _, _⟩ | ⟨h3, h4⟩⟩
  · exact absurd ((h4 fr (Int.le_refl _) q2).symm.trans (hqa fr (Int.le_refl _) q2)) hto.2.2
  · exact .inl h3
  · have hf2 : ∀ u, 0 ≤ u → u < (S : Int) → jQ (cn (mv L fr tt nd) (-1) 0 S) u = mv L fr tt nd u := fun u h5 h6 => xQ _ S u h5 h6
    generalize cn (mv L fr tt nd) (-1) 0 S = L2 at h3 h4 hf2
    have hL2 := h4.len
    have hback : cn (mv L2 fr tt q) (-1) 0 S = L := by
      rw [oI _ (jQ L) S 0 (-1) (fun u h5 h6 => ?_)]
      · exact hs.cn
      · unfold mv
        by_cases hin : fr ≤ u ∧ u < tt
        · rw [if_pos hin, hqa u hin.1 hin.2]
        · rw [if_neg hin]
          have := hf2 u h5 (by omega)
          unfold mv at this
          rw [this, if_neg hin]
    refine .inr ⟨L2, h3, hL2, ?_⟩
    rcases lK ((a + 1) % 4294967296) h4 q1 q2 q3 hq.1 (by rw [hmn]; exact hq.2) (by omega) with ⟨_, h6⟩ | ⟨_, ⟨_, h6, _⟩ | ⟨h6, _⟩⟩
    · have h7 := h6 fr (Int.le_refl _) q2
      rw [hf2 fr q1 (by omega)] at h7
      unfold mv at h7
      rw [if_pos ⟨Int.le_refl _, q2⟩] at h7
      exact absurd h7 hto.2.2
    · rw [hback] at h6; omega
    · rw [h6, hback]
theorem vX (k : Nat) (hk : 2000 < k) (a : Int) (ha : 0 ≤ a ∧ a < 4294967296) (L : List TSp) (hL : L.length ≤ 40) (c : Int) (hc : c = (a + 2) % 4294967296) :
    (if (0 : Int) = 0 then (if c = ((a + 2) % 4294967296) then (stratumlaw12_SpansBack.j0 k ((L.length : Int) != (L.length : Int)) a L c L) else (stratumlaw12_SpansBack.j0 k true a L c L)) else (stratumlaw12_SpansBack.j0 k true a L c L)) = some true := by
  obtain ⟨m, rfl⟩ : ∃ m, k = m + 1 := ⟨k - 1, by omega⟩
  rw [if_pos rfl, if_pos hc, stratumlaw12_SpansBack.j0, if_neg (by simp)]
  exact uY a c L hL (by omega) L.length m 0 (by omega) (by omega)
theorem vS (k : Nat) (hk : 21000 < k) (a : Int) (ha : 0 ≤ a ∧ a < 4294967296) (L : List TSp) (S : Nat) (hS : S ≤ 201) (fr tt q nd : Int) (hs : Snd L S 3) (q1 : 0 ≤ fr) (q2 : fr < tt) (q3 : tt ≤ S) (hq : 0 ≤ q ∧ q < 3) (hqa : ∀ u, fr ≤ u → u < tt → jQ L u = q) (hto : 0 ≤ nd ∧ nd < 3 ∧ nd ≠ q) :
    ((spans_Split.f k a L S 3 fr tt nd).bind fun bt385 => (if bt385.2.2 = 0 then ((spans_Split.f k bt385.1 bt385.2.1 S 3 fr tt q).bind fun bt393 => (if bt393.2.2 = 0 then (if bt393.1 = ((a + 2) % 4294967296) then (stratumlaw12_SpansBack.j0 k ((bt393.2.1.length : Int) != (L.length : Int)) a L bt393.1 bt393.2.1) else (stratumlaw12_SpansBack.j0 k true a L bt393.1 bt393.2.1)) else (stratumlaw12_SpansBack.j0 k true a L bt393.1 bt393.2.1))) else ((stratumlaw12_known.f k).bind fun t391 => (if t391 = true then (some (bt385.2.2 == 3)) else (some false))))) = some true := by
  have hL := hs.len
  rw [split_ok k a L S 3 fr tt nd (by omega) (by omega)]
  simp only [Option.bind_some]
  rcases rH a hs hS q1 q2 q3 hq hqa hto with h | ⟨L2, h, hL2, h2⟩
  · rw [h, oM _ (by omega)]
    simp
  · rw [h]
    simp only [Option.bind_some]
    rw [split_ok k _ L2 S 3 fr tt q (by omega) (by omega), h2]
    simp only [Option.bind_some]
    rw [if_pos trivial, if_pos trivial]
    have := vX k (by omega) a ha L hL (((a + 1) % 4294967296 + 1) % 4294967296) (by omega)
    rw [if_pos rfl] at this
    exact this
theorem back_true (k : Nat) (hk : 21000 < k) (cs : List TCu) (hcs : ∀ x ∈ cs, CutOk x) (a1 x y z : Nat) (h1 : a1 < 65536) (hx : x < 65536) (hy : y < 65536) (hz : z < 256) :
    stratumlaw12_SpansBack.f k cs a1 x y z = some true := by
  obtain ⟨S, hS, hS1, hS2⟩ := zB a1 h1
  unfold stratumlaw12_SpansBack.f
  rw [hS]
  obtain ⟨a, L, he, ha, hs⟩ := I5 S 3 (by omega) (by omega) (by omega) (by omega) cs hcs k (by omega)
  rw [he]
  simp only [Option.bind_some]
  obtain ⟨hr0, hr⟩ := rV S x y (by omega) (by omega) ⟨by omega, by omega⟩ ⟨by omega, by omega⟩
  rw [if_neg (by omega), if_neg hr0]
  generalize wrap64 (wrap64 (Int.tmod (wrap64 (x : Int)) (S : Int) + 1) + Int.tmod (wrap64 (y : Int)) (wrap64 ((S : Int) - Int.tmod (wrap64 (x : Int)) (S : Int)))) = tt at hr
  generalize Int.tmod (wrap64 (x : Int)) (S : Int) = fr at hr
  have hL := hs.len
  have q1 := hr.lo
  have q2 := hr.lt
  have q3 := hr.hi
  have hall : ∀ q, kL L fr tt = [q] → (0 ≤ q ∧ q < mn 3 6) ∧ ∀ u, fr ≤ u → u < tt → jQ L u = q := fun q => rY (q := q) hs q1 q2 q3 (by omega)
  clear hr0 hcs he
  have hno : spans_Nodes.f a L fr tt = some (kL L fr tt) := qW _ _ _ _ (by omega)
  generalize kL L fr tt = NL at hall hno
  rw [hno, Option.bind_some]
  by_cases hlen : (NL.length : Int) = 1
  · obtain ⟨q, rfl⟩ : ∃ q, NL = [q] := List.length_eq_one_iff.1 (Int.ofNat.inj hlen)
    obtain ⟨hq0, hqa⟩ := hall q rfl
    clear hall
    rw [show mn 3 6 = 3 by unfold mn; split <;> omega] at hq0
    rw [if_pos hlen, if_pos (by simp)]
    clear hlen
    have hrd : rd [q] 0 = q := rfl
    obtain ⟨nd, hnd, hto⟩ := rW q z hq0 hz
    rw [hrd, hnd]
    exact vS k hk a ha L S hS2 fr tt q nd hs q1 q2 q3 hq0 hqa hto
  · rw [if_neg hlen, oM _ (by omega)]
    simp
end Go.Proofs.Ytbpdejbkfpkphaa.K
end

section
namespace Go.Proofs.Ytbpdejbkfpkphaa.My
open Go Go.RowKit Go.Proofs.YtbpdejbkfpkphaaW.PrintWords
theorem spansBack_walk (A0 : Option Addr) (c0 : Nat) (l0 : List K.S55) (a1 x y z : Nat) (w : World)
    (hC0 : K.k55.C w A0 l0.length l0) (hc0 : l0.length ≤ c0) (ok0 : (∀ x ∈ l0, K.CutOk x) ∧ (l0.length : Int) ≤ 140737488351232) (h1 : a1 < 65536) (hx : x < 65536) (hy : y < 65536) (hz : z < 256) :
    Calls Try.prog 6 #[.slice A0 l0.length c0, .int .u16 (a1 : Int), .agg #[.int .u16 (x : Int), .int .u16 (y : Int), .int .u8 (z : Int)]] w fun e w' => e = .returned (.bool true) ∧ Below w.heap.size w w' :=
  K.stratumlaw12_SpansBack.calls 21500 A0 c0 l0 a1 x y z true w hC0 hc0 (K.back_true 21500 (by omega) l0 ok0.1 a1 x y z h1 hx hy hz)
end Go.Proofs.Ytbpdejbkfpkphaa.My
end

section
namespace Go.Proofs.Ytbpdejbkfpkphaa.My
open Go Go.RowKit Go.Deep Go.ChangeShapes Go.WideShapes Go.ChangeAt Go.Proofs.YtbpdejbkfpkphaaW.PrintWords
/-- A value of type t that came in reads as a v of kind d, of which ok holds and which is no heavier than the datum's bulk. -/
def Came {α : Type} (d : Kd α) (t : TypeId) (ok : α → Prop) (wt : α → Nat) : Prop :=
  ∀ {H : Type} (enc : TypeId × Value → H) (w : World) (fuel : Nat) (cs : List Value) (x : DataW H × List MemPlace), DataW.trod enc Try.prog w 0 (fun _ => true) true fuel t cs = some x → ∃ v : α, d.K w v cs ∧ ok v ∧ wt v ≤ Rows.uptoBulk x.1
theorem xG {k : IntKind} {t : TypeId} (ht : Try.prog.underlying t = some (.int k)) : Came (Kd.int k) t (fun n => (Lit.int k n).wf = true) (fun _ => 1) := by
  intro H enc w fuel cs x h
  obtain ⟨n, rfl, hx, hw⟩ := DataW.trod_int ht h
  exact ⟨n, rfl, hw, by rw [hx]; simp [Rows.uptoBulk]⟩
theorem vY {α : Type} [Inhabited α] {n : Nat} {p : Nat → α → Prop} (h : ∀ i, i < n → ∃ x, p i x) : ∃ f : Nat → α, ∀ i, i < n → p i (f i) := by
  classical
  refine ⟨fun i => if h' : i < n then Classical.choose (h i h') else default, fun i hi => ?_⟩
  simp only [dif_pos hi]
  exact Classical.choose_spec (h i hi)
theorem vN {w : World} {a : Addr} {n : Nat} {cs : List Value} (h : w.cells? 0 a n = some cs) (i : Nat) (v : Value) (hi : cs[i]? = some v) : w.cell? (a.add i) = some v := by
  obtain ⟨_, hl, hc⟩ := World.cells?_some h
  have hil : i < n := by have := (List.getElem?_eq_some_iff.1 hi).1; omega
  rw [hc i hil]
  exact hi
end Go.Proofs.Ytbpdejbkfpkphaa.My
end

section
namespace Go.Proofs.Ytbpdejbkfpkphaa.My
open Go Go.RowKit Go.Deep Go.ChangeShapes Go.WideShapes Go.ChangeAt Go.Proofs.YtbpdejbkfpkphaaW.PrintWords
/-- Nothing in it is too large. -/
def Reach {H : Type} (t : TypeId) (d : DataW H) : Prop := ∀ n ∈ d.weights Try.prog t, n ≤ reachBytes
def lV {α : Type} (d : Kd α) (t : TypeId) (ok : α → Prop) : Prop :=
  ∀ {H : Type} (enc : TypeId × Value → H) (w : World) (fuel : Nat) (cs : List Value) (x : DataW H × List MemPlace), DataW.trod enc Try.prog w 0 (fun _ => true) true fuel t cs = some x → Reach t x.1 → ∃ v : α, d.K w v cs ∧ ok v
theorem vP {α : Type} {d : Kd α} {t : TypeId} {ok : α → Prop} {wt : α → Nat} (h : Came d t ok wt) : lV d t ok := by
  intro H enc w fuel cs x hx _
  obtain ⟨v, h1, h2, _⟩ := h enc w fuel cs x hx
  exact ⟨v, h1, h2⟩
theorem o7 {α : Type} {d : Kd α} {t : TypeId} {ok ok' : α → Prop} (h : lV d t ok) (hok : ∀ x, ok x → ok' x) : lV d t ok' := by
  intro H enc w fuel cs x hx hr
  obtain ⟨v, h1, h2⟩ := h enc w fuel cs x hx hr
  exact ⟨v, h1, hok v h2⟩
theorem nD {H : Type} {e : TypeId} : ∀ {l : List (DataW H)} {d : DataW H}, d ∈ l → ∀ n ∈ d.weights Try.prog e, n ∈ DataW.weightsAll Try.prog e l
  | x :: l, d, hd, n, hn => by
    simp only [DataW.weightsAll, List.mem_append]
    rcases List.mem_cons.1 hd with rfl | hd
    · exact .inl hn
    · exact .inr (nD hd n hn)
  | [], d, hd, n, hn => by cases hd
theorem qB {α : Type} [Inhabited α] {d : Kd α} {t e : TypeId} {ok : α → Prop} {B : Nat} (ht : Try.prog.underlying t = some (.slice e)) (hc : Try.prog.cellsOf e = d.sz) (hB : Try.prog.bytesOf e = B) (he : lV d e ok) :
    lV (Kd.slice e d) t (fun l => l.length * B ≤ reachBytes ∧ ∀ x ∈ l, ok x) := by
  intro H enc w fuel cs x h hr
  rcases open_slice ht h with ⟨rfl, rfl⟩ | ⟨ad, len, cap, m, n, D, Pl, rfl, _, hl, hmax, hm, rfl, hel⟩
  · exact ⟨[], ⟨none, 0, rfl, Nat.le_refl _, ⟨rfl, by simp, fun h => absurd h (Nat.lt_irrefl 0)⟩⟩, by simp⟩
  · have hlm : len ≤ m := by rw [hm]; simp; exact hl
    have hw : ∀ n, n ∈ (((List.range len).map D).length + ((List.range (m - len)).map fun j => D (len + j)).length) * Try.prog.bytesOf e :: (DataW.weightsAll Try.prog e ((List.range len).map D) ++ DataW.weightsAll Try.prog e ((List.range (m - len)).map fun j => D (len + j))) → n ≤ reachBytes := by
      intro n hn
      refine hr n ?_
      simp only [DataW.weights, ht]
      exact hn
    have one : ∀ i, i < len → ∃ v : α, (∃ cs', w.cells? 0 (ad.add (i * Try.prog.cellsOf e)) (Try.prog.cellsOf e) = some cs' ∧ d.K w v cs') ∧ ok v := by
      intro i hi
      obtain ⟨cs', h1, h2⟩ := hel i (by omega)
      obtain ⟨v, h3, h4⟩ := he enc w n cs' _ h2 (fun k hk => hw k (List.mem_cons_of_mem _ (List.mem_append_left _ (nD (List.mem_map.2 ⟨i, List.mem_range.2 hi, rfl⟩) k hk))))
      exact ⟨v, ⟨cs', h1, h3⟩, h4⟩
    obtain ⟨L, hL⟩ := vY one
    have hlen : ((List.range len).map L).length = len := by simp
    refine ⟨(List.range len).map L, ⟨some ad, cap, by rw [hlen], by rw [hlen]; exact hl, ?_⟩, ?_, ?_⟩
    · rw [hlen]
      refine ⟨hlen, by unfold maxLen at hmax; omega, fun _ => ⟨ad, rfl, fun j p hj => ?_⟩⟩
      have hjl : j < len := by have := (List.getElem?_eq_some_iff.1 hj).1; simpa using this
      have hp : p = L j := by
        rw [List.getElem?_map, List.getElem?_range hjl] at hj
        simp only [Option.map_some, Option.some.injEq] at hj
        exact hj.symm
      subst hp
      obtain ⟨⟨cs', h1, h2⟩, _⟩ := hL j hjl
      rw [hc] at h1
      refine ⟨cs', d.K_len h2, h2, fun i u hi => ?_⟩
      have := vN h1 i u hi
      rwa [Go.Deep.add_add] at this
    · have h1 := hw _ List.mem_cons_self
      rw [List.length_map, List.length_map, List.length_range, List.length_range, hB] at h1
      rw [hlen]
      exact Nat.le_trans (Nat.mul_le_mul_right B (by omega)) h1
    · intro y hy
      obtain ⟨i, hi, rfl⟩ := List.mem_map.1 hy
      exact (hL i (List.mem_range.1 hi)).2
/-- What a slice argument is. -/
theorem came_CS {α : Type} {d : Kd α} {t e : TypeId} {ok : List α → Prop} (h : lV (Kd.slice e d) t ok) {H : Type} (enc : TypeId × Value → H) {w : World} {fuel : Nat} {v : Value} {x : DataW H × List MemPlace} (ht : DataW.trod enc Try.prog w 0 (fun _ => true) true fuel t v.cells.toList = some x) (hr : Reach t x.1) :
    ∃ (A : Option Addr) (c : Nat) (l : List α), v.cells.toList = [.slice A l.length c] ∧ l.length ≤ c ∧ d.C w A l.length l ∧ ok l := by
  obtain ⟨l, ⟨A, c, h1, h2, h3⟩, h4⟩ := h enc w fuel _ x ht hr
  exact ⟨A, c, l, h1, h2, h3, h4⟩
theorem reach_arg {H : Type} {ts : List TypeId} {ds : List (DataW H)} (h : (DataW.weightsEach Try.prog ts ds).all (· ≤ reachBytes) = true) {j : Nat} {t : TypeId} {d : DataW H} (ht : ts[j]? = some t) (hd : ds[j]? = some d) : Reach t d := fun n hn => by
  have := List.all_eq_true.1 h n (DataW.weights_mem_each ht hd n hn)
  simpa using this
theorem uA : reachBytes = 140737488351232 := rfl
end Go.Proofs.Ytbpdejbkfpkphaa.My
end

section
namespace Go.Proofs.Ytbpdejbkfpkphaa.My
open Go Go.RowKit Go.Deep Go.ChangeShapes Go.WideShapes Go.ChangeAt Go.Proofs.YtbpdejbkfpkphaaW.PrintWords
theorem oG {α : Type} {n : Nat} : ∀ {l : List α}, l.length = n + 1 → ∃ x t, l = x :: t ∧ t.length = n
  | x :: t, h => ⟨x, t, rfl, by simpa using h⟩
theorem rG {α β γ : Type} {da : Kd α} {db : Kd β} {dc : Kd γ} {t : TypeId} {f0 f1 f2 : Field} {oka : α → Prop} {okb : β → Prop} {okc : γ → Prop} (ht : Try.prog.underlying t = some (.struct #[f0, f1, f2])) (ct : Try.prog.cellsOf t = da.sz + (db.sz + dc.sz))
    (h0 : f0.offset = 0) (h1 : f1.offset = da.sz) (h2 : f2.offset = da.sz + db.sz) (c0 : Try.prog.cellsOf f0.type = da.sz) (c1 : Try.prog.cellsOf f1.type = db.sz) (c2 : Try.prog.cellsOf f2.type = dc.sz) (A : lV da f0.type oka) (B : lV db f1.type okb) (C : lV dc f2.type okc) :
    lV (Kd.pair da (Kd.pair db dc)) t (fun x => oka x.1 ∧ okb x.2.1 ∧ okc x.2.2) := by
  intro H enc w fuel cs x h hr
  obtain ⟨xs, n, rfl, rfl, hl, hlen, hf⟩ := DataW.trod_struct ht h
  have hl0 : xs.length = 2 + 1 := hlen
  obtain ⟨y0, t0, rfl, hl1⟩ := oG hl0
  obtain ⟨y1, t1, rfl, hl2⟩ := oG (n := 1) hl1
  obtain ⟨y2, t2, rfl, hl3⟩ := oG (n := 0) hl2
  obtain rfl := List.eq_nil_of_length_eq_zero hl3
  · have e0 := hf 0 _ rfl
    have e1 := hf 1 _ rfl
    have e2 := hf 2 _ rfl
    have e0 : DataW.trod enc Try.prog w 0 (fun _ => true) true n f0.type (List.take (Try.prog.cellsOf f0.type) (List.drop f0.offset cs)) = some y0 := e0
    have e1 : DataW.trod enc Try.prog w 0 (fun _ => true) true n f1.type (List.take (Try.prog.cellsOf f1.type) (List.drop f1.offset cs)) = some y1 := e1
    have e2 : DataW.trod enc Try.prog w 0 (fun _ => true) true n f2.type (List.take (Try.prog.cellsOf f2.type) (List.drop f2.offset cs)) = some y2 := e2
    rw [h0, c0, List.drop_zero] at e0
    rw [h1, c1] at e1
    rw [h2, c2] at e2
    have hl : cs.length = da.sz + (db.sz + dc.sz) := by rw [← ct]; exact hl
    have hw : ∀ k, k ∈ DataW.weights Try.prog f0.type y0.1 ++ (DataW.weights Try.prog f1.type y1.1 ++ (DataW.weights Try.prog f2.type y2.1 ++ [])) → k ≤ reachBytes := fun k hk => hr k (by
      simp only [DataW.weights, ht]
      simpa [DataW.weightsEach] using hk)
    obtain ⟨v0, k0, o0⟩ := A enc w n _ _ e0 (fun k hk => hw k (List.mem_append_left _ hk))
    obtain ⟨v1, k1, o1⟩ := B enc w n _ _ e1 (fun k hk => hw k (List.mem_append_right _ (List.mem_append_left _ hk)))
    obtain ⟨v2, k2, o2⟩ := C enc w n _ _ e2 (fun k hk => hw k (List.mem_append_right _ (List.mem_append_right _ (List.mem_append_left _ hk))))
    refine ⟨(v0, v1, v2), ⟨_, _, ?_, k0, _, _, rfl, k1, k2⟩, ⟨o0, o1, o2⟩⟩
    have hd : List.drop (da.sz + db.sz) cs = List.drop db.sz (List.drop da.sz cs) := by first | rw [List.drop_drop] | rw [List.drop_drop, Nat.add_comm]
    rw [List.take_of_length_le (l := List.drop (da.sz + db.sz) cs) (by rw [List.length_drop]; omega), hd, List.take_append_drop, List.take_append_drop]
theorem vK {α β : Type} {d : Kd α} {t : TypeId} {ok : α → Prop} (f : β → α) (g : α → β) (hfg : ∀ x, f (g x) = x) (h : lV d t ok) : lV (Kd.iso d f) t (fun y => ok (f y)) := by
  intro H enc w fuel cs x hx hr
  obtain ⟨v, h1, h2⟩ := h enc w fuel cs x hx hr
  exact ⟨g v, by show d.K w (f (g v)) cs; rw [hfg]; exact h1, by show ok (f (g v)); rw [hfg]; exact h2⟩
theorem nC {k : IntKind} {t : TypeId} (ht : Try.prog.underlying t = some (.int k)) : lV (Kd.int k) t (fun n => (Lit.int k n).wf = true) := vP (xG ht)
instance : Inhabited K.S77 := ⟨K.z77⟩
instance : Inhabited K.S60 := ⟨K.z60⟩
instance : Inhabited K.S55 := ⟨K.z55⟩
theorem oU : lV K.k55 55 (fun x => (0 ≤ x.f0 ∧ x.f0 < 65536) ∧ (0 ≤ x.f1 ∧ x.f1 < 65536) ∧ (0 ≤ x.f2 ∧ x.f2 < 256)) :=
  o7 (vK (fun x : K.S55 => (x.f0, x.f1, x.f2)) (fun p => ⟨p.1, p.2.1, p.2.2⟩) (fun _ => rfl) (rG Try.underlying55 (by kernel_rfl) rfl rfl rfl (by kernel_rfl) (by kernel_rfl) (by kernel_rfl) (nC Try.underlying29) (nC Try.underlying29) (nC Try.underlying5))) (fun _ h => ⟨wf_u16 h.1, wf_u16 h.2.1, wf_u8 h.2.2⟩)
theorem cameS_cuts : lV (Kd.slice 55 K.k55) 39 (fun l => (∀ x ∈ l, (0 ≤ x.f0 ∧ x.f0 < 65536) ∧ (0 ≤ x.f1 ∧ x.f1 < 65536) ∧ (0 ≤ x.f2 ∧ x.f2 < 256)) ∧ (l.length : Int) ≤ 140737488351232) :=
  o7 (qB (B := 6) Try.underlying39 (by kernel_rfl) (by kernel_rfl) oU) (fun _ h => ⟨h.2, by have := h.1; rw [uA] at this; omega⟩)
theorem cut_arg {H : Type} (enc : TypeId × Value → H) {w : World} {fuel : Nat} {cs : Array Value} {x : DataW H × List MemPlace} (ht : DataW.trod enc Try.prog w 0 (fun _ => true) true fuel 55 (Value.agg cs).cells.toList = some x) (hr : Reach 55 x.1) :
    ∃ a b n : Nat, cs = #[.int .u16 a, .int .u16 b, .int .u8 n] ∧ a < 65536 ∧ b < 65536 ∧ n < 256 := by
  obtain ⟨v, ⟨c0, c1, h1, h2, c2, c3, h3, h4, h5⟩, o0, o1, o2⟩ := oU enc w fuel _ x ht hr
  obtain ⟨a, ha⟩ := Int.eq_ofNat_of_zero_le o0.1
  obtain ⟨b, hb⟩ := Int.eq_ofNat_of_zero_le o1.1
  obtain ⟨n, hn⟩ := Int.eq_ofNat_of_zero_le o2.1
  refine ⟨a, b, n, ?_, by omega, by omega, by omega⟩
  have h2 : c0 = [.int .u16 v.f0] := h2
  have h4 : c2 = [.int .u16 v.f1] := h4
  have h5 : c3 = [.int .u8 v.f2] := h5
  have h1 : cs.toList = c0 ++ c1 := h1
  rw [h3, h2, h4, h5, ha, hb, hn] at h1
  have h1 : cs.toList = [.int .u16 (a : Int), .int .u16 (b : Int), .int .u8 (n : Int)] := h1
  cases cs with
  | mk l => exact congrArg Array.mk h1
end Go.Proofs.Ytbpdejbkfpkphaa.My
end
