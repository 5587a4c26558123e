/- Parts of the proof, one behind the other: SpI, SpW2, Came, CameS, CameP. -/
import Derived.Test.YtbpdejbkfpkphaaQSpansSplits9
import Derived.Test.YtbpdejbkfpkphaaRows
import Derived.Deep.Slices
import Derived.ChangeSame
set_option linter.unusedVariables false
set_option linter.unusedSimpArgs false
section
namespace Go.Proofs.Ytbpdejbkfpkphaa.K
open Go Go.RowKit Go.Proofs.YtbpdejbkfpkphaaW.PrintWords Go.Proofs.YtbpdejbkfpkphaaW.PrintLast Go.Proofs.YtbpdejbkfpkphaaW.PrintMore
theorem splits_end (k : Nat) (hk : 20400 < k) (a0 : Int) (l : List TSp) (hl : l.length ≤ 60) (cs : List TCu) (hcs : ∀ x ∈ cs, CutOk x) (size nodes fr tt node : Int) :
    stratumlaw12_SpansSplits.j0 (k + 1) cs size nodes fr tt node false a0 l = some true := by
  obtain ⟨a, L, he, _, hs⟩ := of_ok 100 3 (by decide) (by decide) (by decide) (by decide) cs hcs k (by omega)
  have hL := hs.len
  have f1 := splitL_few a0 l size nodes fr tt node
  have f2 := splitL_few a L 100 3 (Int.tmod fr 120) (Int.tmod tt 120) (Int.tmod node 4)
  rw [stratumlaw12_SpansSplits.j0, if_neg (by decide), split_ok k a0 l _ _ _ _ _ (by omega) (by omega), rsplit_ok k a0 l _ _ _ _ _ (by omega) (by omega)]
  simp only [Option.bind_some]
  rw [show ((100 : Nat) : Int) = 100 from rfl] at he
  rw [he]
  simp only [Option.bind_some]
  rw [split_ok k a L _ _ _ _ _ (by omega) (by omega), rsplit_ok k a L _ _ _ _ _ (by omega) (by omega)]
  simp only [Option.bind_some]
  rw [same_refl _ _ (by omega) k (by omega)]
  simp only [Option.bind_some]
  rw [if_pos trivial, splitL_w, if_pos rfl, same_refl _ _ (by omega) k (by omega)]
  simp only [Option.bind_some]
  rw [if_pos trivial, splitL_w]
  simp
theorem splits_true (k : Nat) (hk : 20400 < k) (a0 : Int) (l : List TSp) (cs : List TCu) (hcs : ∀ x ∈ cs, CutOk x) (size nodes fr tt node : Int) :
    stratumlaw12_SpansSplits.f (k + 1) a0 l cs size nodes fr tt node = some true := by
  have hb : stratumlaw12_SpansSplits.j0 (k + 1) cs size nodes fr tt node true a0 l = some true := by
    rw [stratumlaw12_SpansSplits.j0, if_pos rfl, known_ge _ (by omega)]; rfl
  unfold stratumlaw12_SpansSplits.f
  by_cases h : (l.length : Int) > 60
  · rw [if_pos h]; exact hb
  rw [if_neg h]
  by_cases h2 : size > 300
  · rw [if_pos h2]; exact hb
  rw [if_neg h2, known_ge _ (by omega)]
  simp only [Option.bind_some, Bool.not_true]
  exact splits_end k hk a0 l (by omega) cs hcs size nodes fr tt node
end Go.Proofs.Ytbpdejbkfpkphaa.K
end

section
namespace Go.Proofs.Ytbpdejbkfpkphaa.My
open Go Go.RowKit Go.Proofs.YtbpdejbkfpkphaaW.PrintWords
theorem spansSplits_walk (e0 : Int) (A0 : Option Addr) (c0 : Nat) (l0 : List K.S60) (A1 : Option Addr) (c1 : Nat) (l1 : List K.S55) (a2 a3 a4 a5 a6 : Int) (w : World)
    (hC0 : K.k60.C w A0 l0.length l0) (hc0 : l0.length ≤ c0) (_ : 0 ≤ e0 ∧ e0 < 4294967296) (_ : (l0.length : Int) ≤ 8796093022208)
    (hC1 : K.k55.C w A1 l1.length l1) (hc1 : l1.length ≤ c1) (ok1 : (∀ x ∈ l1, K.CutOk x) ∧ (l1.length : Int) ≤ 140737488351232)
    (_ : -9223372036854775808 ≤ a2 ∧ a2 ≤ 9223372036854775807) (_ : -9223372036854775808 ≤ a3 ∧ a3 ≤ 9223372036854775807) (_ : -9223372036854775808 ≤ a4 ∧ a4 ≤ 9223372036854775807) (_ : -9223372036854775808 ≤ a5 ∧ a5 ≤ 9223372036854775807) (_ : -9223372036854775808 ≤ a6 ∧ a6 ≤ 9223372036854775807) :
    Calls Try.prog 10 #[.agg #[.int .u32 e0, .slice A0 l0.length c0], .slice A1 l1.length c1, .int .i64 a2, .int .i64 a3, .int .i64 a4, .int .i64 a5, .int .i64 a6] w fun e w' => e = .returned (.bool true) ∧ Below w.heap.size w w' :=
  K.stratumlaw12_SpansSplits.calls (20500 + 1) e0 A0 c0 l0 A1 c1 l1 a2 a3 a4 a5 a6 true w hC0 hc0 hC1 hc1 (K.splits_true 20500 (by omega) e0 l0 l1 ok1.1 a2 a3 a4 a5 a6)
end Go.Proofs.Ytbpdejbkfpkphaa.My
end

section
namespace Go.Proofs.Ytbpdejbkfpkphaa.My
open Go Go.RowKit Go.Deep Go.ChangeShapes Go.WideShapes Go.ChangeAt Go.Proofs.YtbpdejbkfpkphaaW.PrintWords
/-- A value of type t that came in reads as a v of kind d, of which ok holds and which is no heavier than the datum's bulk. -/
def Came {α : Type} (d : Kd α) (t : TypeId) (ok : α → Prop) (wt : α → Nat) : Prop :=
  ∀ {H : Type} (enc : TypeId × Value → H) (w : World) (fuel : Nat) (cs : List Value) (x : DataW H × List MemPlace), DataW.trod enc Try.prog w 0 (fun _ => true) true fuel t cs = some x → ∃ v : α, d.K w v cs ∧ ok v ∧ wt v ≤ Rows.uptoBulk x.1
theorem came_int {k : IntKind} {t : TypeId} (ht : Try.prog.underlying t = some (.int k)) : Came (Kd.int k) t (fun n => (Lit.int k n).wf = true) (fun _ => 1) := by
  intro H enc w fuel cs x h
  obtain ⟨n, rfl, hx, hw⟩ := DataW.trod_int ht h
  exact ⟨n, rfl, hw, by rw [hx]; simp [Rows.uptoBulk]⟩
theorem pick_all {α : Type} [Inhabited α] {n : Nat} {p : Nat → α → Prop} (h : ∀ i, i < n → ∃ x, p i x) : ∃ f : Nat → α, ∀ i, i < n → p i (f i) := by
  classical
  refine ⟨fun i => if h' : i < n then Classical.choose (h i h') else default, fun i hi => ?_⟩
  simp only [dif_pos hi]
  exact Classical.choose_spec (h i hi)
theorem cells_get {w : World} {a : Addr} {n : Nat} {cs : List Value} (h : w.cells? 0 a n = some cs) (i : Nat) (v : Value) (hi : cs[i]? = some v) : w.cell? (a.add i) = some v := by
  obtain ⟨_, hl, hc⟩ := World.cells?_some h
  have hil : i < n := by have := (List.getElem?_eq_some_iff.1 hi).1; omega
  rw [hc i hil]
  exact hi
end Go.Proofs.Ytbpdejbkfpkphaa.My
end

section
namespace Go.Proofs.Ytbpdejbkfpkphaa.My
open Go Go.RowKit Go.Deep Go.ChangeShapes Go.WideShapes Go.ChangeAt Go.Proofs.YtbpdejbkfpkphaaW.PrintWords
/-- Nothing in it is too large. -/
def Reach {H : Type} (t : TypeId) (d : DataW H) : Prop := ∀ n ∈ d.weights Try.prog t, n ≤ reachBytes
def CameS {α : Type} (d : Kd α) (t : TypeId) (ok : α → Prop) : Prop :=
  ∀ {H : Type} (enc : TypeId × Value → H) (w : World) (fuel : Nat) (cs : List Value) (x : DataW H × List MemPlace), DataW.trod enc Try.prog w 0 (fun _ => true) true fuel t cs = some x → Reach t x.1 → ∃ v : α, d.K w v cs ∧ ok v
theorem cameS_of {α : Type} {d : Kd α} {t : TypeId} {ok : α → Prop} {wt : α → Nat} (h : Came d t ok wt) : CameS d t ok := by
  intro H enc w fuel cs x hx _
  obtain ⟨v, h1, h2, _⟩ := h enc w fuel cs x hx
  exact ⟨v, h1, h2⟩
theorem cameS_mono {α : Type} {d : Kd α} {t : TypeId} {ok ok' : α → Prop} (h : CameS d t ok) (hok : ∀ x, ok x → ok' x) : CameS d t ok' := by
  intro H enc w fuel cs x hx hr
  obtain ⟨v, h1, h2⟩ := h enc w fuel cs x hx hr
  exact ⟨v, h1, hok v h2⟩
theorem weights_all {H : Type} {e : TypeId} : ∀ {l : List (DataW H)} {d : DataW H}, d ∈ l → ∀ n ∈ d.weights Try.prog e, n ∈ DataW.weightsAll Try.prog e l
  | x :: l, d, hd, n, hn => by
    simp only [DataW.weightsAll, List.mem_append]
    rcases List.mem_cons.1 hd with rfl | hd
    · exact .inl hn
    · exact .inr (weights_all hd n hn)
  | [], d, hd, n, hn => by cases hd
theorem cameS_slice {α : Type} [Inhabited α] {d : Kd α} {t e : TypeId} {ok : α → Prop} {B : Nat} (ht : Try.prog.underlying t = some (.slice e)) (hc : Try.prog.cellsOf e = d.sz) (hB : Try.prog.bytesOf e = B) (he : CameS d e ok) :
    CameS (Kd.slice e d) t (fun l => l.length * B ≤ reachBytes ∧ ∀ x ∈ l, ok x) := by
  intro H enc w fuel cs x h hr
  rcases open_slice ht h with ⟨rfl, rfl⟩ | ⟨ad, len, cap, m, n, D, Pl, rfl, _, hl, hmax, hm, rfl, hel⟩
  · exact ⟨[], ⟨none, 0, rfl, Nat.le_refl _, ⟨rfl, by simp, fun h => absurd h (Nat.lt_irrefl 0)⟩⟩, by simp⟩
  · have hlm : len ≤ m := by rw [hm]; simp; exact hl
    have hw : ∀ n, n ∈ (((List.range len).map D).length + ((List.range (m - len)).map fun j => D (len + j)).length) * Try.prog.bytesOf e :: (DataW.weightsAll Try.prog e ((List.range len).map D) ++ DataW.weightsAll Try.prog e ((List.range (m - len)).map fun j => D (len + j))) → n ≤ reachBytes := by
      intro n hn
      refine hr n ?_
      simp only [DataW.weights, ht]
      exact hn
    have one : ∀ i, i < len → ∃ v : α, (∃ cs', w.cells? 0 (ad.add (i * Try.prog.cellsOf e)) (Try.prog.cellsOf e) = some cs' ∧ d.K w v cs') ∧ ok v := by
      intro i hi
      obtain ⟨cs', h1, h2⟩ := hel i (by omega)
      obtain ⟨v, h3, h4⟩ := he enc w n cs' _ h2 (fun k hk => hw k (List.mem_cons_of_mem _ (List.mem_append_left _ (weights_all (List.mem_map.2 ⟨i, List.mem_range.2 hi, rfl⟩) k hk))))
      exact ⟨v, ⟨cs', h1, h3⟩, h4⟩
    obtain ⟨L, hL⟩ := pick_all one
    have hlen : ((List.range len).map L).length = len := by simp
    refine ⟨(List.range len).map L, ⟨some ad, cap, by rw [hlen], by rw [hlen]; exact hl, ?_⟩, ?_, ?_⟩
    · rw [hlen]
      refine ⟨hlen, by unfold maxLen at hmax; omega, fun _ => ⟨ad, rfl, fun j p hj => ?_⟩⟩
      have hjl : j < len := by have := (List.getElem?_eq_some_iff.1 hj).1; simpa using this
      have hp : p = L j := by
        rw [List.getElem?_map, List.getElem?_range hjl] at hj
        simp only [Option.map_some, Option.some.injEq] at hj
        exact hj.symm
      subst hp
      obtain ⟨⟨cs', h1, h2⟩, _⟩ := hL j hjl
      rw [hc] at h1
      refine ⟨cs', d.K_len h2, h2, fun i u hi => ?_⟩
      have := cells_get h1 i u hi
      rwa [Go.Deep.add_add] at this
    · have h1 := hw _ List.mem_cons_self
      rw [List.length_map, List.length_map, List.length_range, List.length_range, hB] at h1
      rw [hlen]
      exact Nat.le_trans (Nat.mul_le_mul_right B (by omega)) h1
    · intro y hy
      obtain ⟨i, hi, rfl⟩ := List.mem_map.1 hy
      exact (hL i (List.mem_range.1 hi)).2
/-- What a slice argument is. -/
theorem came_CS {α : Type} {d : Kd α} {t e : TypeId} {ok : List α → Prop} (h : CameS (Kd.slice e d) t ok) {H : Type} (enc : TypeId × Value → H) {w : World} {fuel : Nat} {v : Value} {x : DataW H × List MemPlace} (ht : DataW.trod enc Try.prog w 0 (fun _ => true) true fuel t v.cells.toList = some x) (hr : Reach t x.1) :
    ∃ (A : Option Addr) (c : Nat) (l : List α), v.cells.toList = [.slice A l.length c] ∧ l.length ≤ c ∧ d.C w A l.length l ∧ ok l := by
  obtain ⟨l, ⟨A, c, h1, h2, h3⟩, h4⟩ := h enc w fuel _ x ht hr
  exact ⟨A, c, l, h1, h2, h3, h4⟩
theorem reach_arg {H : Type} {ts : List TypeId} {ds : List (DataW H)} (h : (DataW.weightsEach Try.prog ts ds).all (· ≤ reachBytes) = true) {j : Nat} {t : TypeId} {d : DataW H} (ht : ts[j]? = some t) (hd : ds[j]? = some d) : Reach t d := fun n hn => by
  have := List.all_eq_true.1 h n (DataW.weights_mem_each ht hd n hn)
  simpa using this
theorem reach_num : reachBytes = 140737488351232 := rfl
end Go.Proofs.Ytbpdejbkfpkphaa.My
end

section
namespace Go.Proofs.Ytbpdejbkfpkphaa.My
open Go Go.RowKit Go.Deep Go.ChangeShapes Go.WideShapes Go.ChangeAt Go.Proofs.YtbpdejbkfpkphaaW.PrintWords
theorem cameS_pair {α β : Type} {da : Kd α} {db : Kd β} {t : TypeId} {f0 f1 : Field} {oka : α → Prop} {okb : β → Prop} (ht : Try.prog.underlying t = some (.struct #[f0, f1])) (ct : Try.prog.cellsOf t = da.sz + db.sz)
    (h0 : f0.offset = 0) (h1 : f1.offset = da.sz) (c0 : Try.prog.cellsOf f0.type = da.sz) (c1 : Try.prog.cellsOf f1.type = db.sz) (A : CameS da f0.type oka) (B : CameS db f1.type okb) :
    CameS (Kd.pair da db) t (fun x => oka x.1 ∧ okb x.2) := by
  intro H enc w fuel cs x h hr
  obtain ⟨y0, y1, n, rfl, hl, e0, e1⟩ := trod_struct2 ht h
  rw [h0, c0, List.drop_zero] at e0
  rw [h1, c1] at e1
  have hw : ∀ k, k ∈ DataW.weights Try.prog f0.type y0.1 ++ (DataW.weights Try.prog f1.type y1.1 ++ []) → k ≤ reachBytes := fun k hk => hr k (by
    simp only [DataW.weights, ht]
    simpa [DataW.weightsEach] using hk)
  obtain ⟨v0, k0, o0⟩ := A enc w n _ _ e0 (fun k hk => hw k (List.mem_append_left _ hk))
  obtain ⟨v1, k1, o1⟩ := B enc w n _ _ e1 (fun k hk => hw k (List.mem_append_right _ (List.mem_append_left _ hk)))
  refine ⟨(v0, v1), ⟨_, _, ?_, k0, k1⟩, ⟨o0, o1⟩⟩
  rw [List.take_of_length_le (l := cs.drop da.sz) (by rw [List.length_drop]; omega), List.take_append_drop]
theorem cons_of' {α : Type} {n : Nat} : ∀ {l : List α}, l.length = n + 1 → ∃ x t, l = x :: t ∧ t.length = n
  | x :: t, h => ⟨x, t, rfl, by simpa using h⟩
theorem cameS_trip {α β γ : Type} {da : Kd α} {db : Kd β} {dc : Kd γ} {t : TypeId} {f0 f1 f2 : Field} {oka : α → Prop} {okb : β → Prop} {okc : γ → Prop} (ht : Try.prog.underlying t = some (.struct #[f0, f1, f2])) (ct : Try.prog.cellsOf t = da.sz + (db.sz + dc.sz))
    (h0 : f0.offset = 0) (h1 : f1.offset = da.sz) (h2 : f2.offset = da.sz + db.sz) (c0 : Try.prog.cellsOf f0.type = da.sz) (c1 : Try.prog.cellsOf f1.type = db.sz) (c2 : Try.prog.cellsOf f2.type = dc.sz) (A : CameS da f0.type oka) (B : CameS db f1.type okb) (C : CameS dc f2.type okc) :
    CameS (Kd.pair da (Kd.pair db dc)) t (fun x => oka x.1 ∧ okb x.2.1 ∧ okc x.2.2) := by
  intro H enc w fuel cs x h hr
  obtain ⟨xs, n, rfl, rfl, hl, hlen, hf⟩ := DataW.trod_struct ht h
  have hl0 : xs.length = 2 + 1 := hlen
  obtain ⟨y0, t0, rfl, hl1⟩ := cons_of' hl0
  obtain ⟨y1, t1, rfl, hl2⟩ := cons_of' (n := 1) hl1
  obtain ⟨y2, t2, rfl, hl3⟩ := cons_of' (n := 0) hl2
  obtain rfl := List.eq_nil_of_length_eq_zero hl3
  · have e0 := hf 0 _ rfl
    have e1 := hf 1 _ rfl
    have e2 := hf 2 _ rfl
    have e0 : DataW.trod enc Try.prog w 0 (fun _ => true) true n f0.type (List.take (Try.prog.cellsOf f0.type) (List.drop f0.offset cs)) = some y0 := e0
    have e1 : DataW.trod enc Try.prog w 0 (fun _ => true) true n f1.type (List.take (Try.prog.cellsOf f1.type) (List.drop f1.offset cs)) = some y1 := e1
    have e2 : DataW.trod enc Try.prog w 0 (fun _ => true) true n f2.type (List.take (Try.prog.cellsOf f2.type) (List.drop f2.offset cs)) = some y2 := e2
    rw [h0, c0, List.drop_zero] at e0
    rw [h1, c1] at e1
    rw [h2, c2] at e2
    have hl : cs.length = da.sz + (db.sz + dc.sz) := by rw [← ct]; exact hl
    have hw : ∀ k, k ∈ DataW.weights Try.prog f0.type y0.1 ++ (DataW.weights Try.prog f1.type y1.1 ++ (DataW.weights Try.prog f2.type y2.1 ++ [])) → k ≤ reachBytes := fun k hk => hr k (by
      simp only [DataW.weights, ht]
      simpa [DataW.weightsEach] using hk)
    obtain ⟨v0, k0, o0⟩ := A enc w n _ _ e0 (fun k hk => hw k (List.mem_append_left _ hk))
    obtain ⟨v1, k1, o1⟩ := B enc w n _ _ e1 (fun k hk => hw k (List.mem_append_right _ (List.mem_append_left _ hk)))
    obtain ⟨v2, k2, o2⟩ := C enc w n _ _ e2 (fun k hk => hw k (List.mem_append_right _ (List.mem_append_right _ (List.mem_append_left _ hk))))
    refine ⟨(v0, v1, v2), ⟨_, _, ?_, k0, _, _, rfl, k1, k2⟩, ⟨o0, o1, o2⟩⟩
    have hd : List.drop (da.sz + db.sz) cs = List.drop db.sz (List.drop da.sz cs) := by first | rw [List.drop_drop] | rw [List.drop_drop, Nat.add_comm]
    rw [List.take_of_length_le (l := List.drop (da.sz + db.sz) cs) (by rw [List.length_drop]; omega), hd, List.take_append_drop, List.take_append_drop]
theorem cameS_iso {α β : Type} {d : Kd α} {t : TypeId} {ok : α → Prop} (f : β → α) (g : α → β) (hfg : ∀ x, f (g x) = x) (h : CameS d t ok) : CameS (Kd.iso d f) t (fun y => ok (f y)) := by
  intro H enc w fuel cs x hx hr
  obtain ⟨v, h1, h2⟩ := h enc w fuel cs x hx hr
  exact ⟨g v, by show d.K w (f (g v)) cs; rw [hfg]; exact h1, by show ok (f (g v)); rw [hfg]; exact h2⟩
theorem cameS_int {k : IntKind} {t : TypeId} (ht : Try.prog.underlying t = some (.int k)) : CameS (Kd.int k) t (fun n => (Lit.int k n).wf = true) := cameS_of (came_int ht)
instance : Inhabited K.S77 := ⟨K.z77⟩
instance : Inhabited K.S60 := ⟨K.z60⟩
instance : Inhabited K.S55 := ⟨K.z55⟩
theorem cameS_cut : CameS K.k55 55 (fun x => (0 ≤ x.f0 ∧ x.f0 < 65536) ∧ (0 ≤ x.f1 ∧ x.f1 < 65536) ∧ (0 ≤ x.f2 ∧ x.f2 < 256)) :=
  cameS_mono (cameS_iso (fun x : K.S55 => (x.f0, x.f1, x.f2)) (fun p => ⟨p.1, p.2.1, p.2.2⟩) (fun _ => rfl) (cameS_trip Try.underlying55 (by kernel_rfl) rfl rfl rfl (by kernel_rfl) (by kernel_rfl) (by kernel_rfl) (cameS_int Try.underlying29) (cameS_int Try.underlying29) (cameS_int Try.underlying5))) (fun _ h => ⟨wf_u16 h.1, wf_u16 h.2.1, wf_u8 h.2.2⟩)
theorem cameS_cuts : CameS (Kd.slice 55 K.k55) 39 (fun l => (∀ x ∈ l, (0 ≤ x.f0 ∧ x.f0 < 65536) ∧ (0 ≤ x.f1 ∧ x.f1 < 65536) ∧ (0 ≤ x.f2 ∧ x.f2 < 256)) ∧ (l.length : Int) ≤ 140737488351232) :=
  cameS_mono (cameS_slice (B := 6) Try.underlying39 (by kernel_rfl) (by kernel_rfl) cameS_cut) (fun _ h => ⟨h.2, by have := h.1; rw [reach_num] at this; omega⟩)
theorem cameS_span : CameS K.k60 60 (fun x => (-9223372036854775808 ≤ x.f0 ∧ x.f0 < 9223372036854775808) ∧ (-9223372036854775808 ≤ x.f1 ∧ x.f1 < 9223372036854775808)) :=
  cameS_mono (cameS_iso (fun x : K.S60 => (x.f0, x.f1)) (fun p => ⟨p.1, p.2⟩) (fun _ => rfl) (cameS_pair Try.underlying60 (by kernel_rfl) rfl rfl (by kernel_rfl) (by kernel_rfl) (cameS_int Try.underlying3) (cameS_int Try.underlying3))) (fun _ h => ⟨by have := wf_i64 h.1; omega, by have := wf_i64 h.2; omega⟩)
theorem cameS_spans : CameS (Kd.slice 60 K.k60) 40 (fun l => (l.length : Int) ≤ 8796093022208) :=
  cameS_mono (cameS_slice (B := 16) Try.underlying40 (by kernel_rfl) (by kernel_rfl) cameS_span) (fun _ h => by have := h.1; rw [reach_num] at this; omega)
theorem cameS_map : CameS (Kd.pair (Kd.int .u32) (Kd.slice 60 K.k60)) 42 (fun x => (0 ≤ x.1 ∧ x.1 < 4294967296) ∧ (x.2.length : Int) ≤ 8796093022208) :=
  cameS_mono (cameS_pair Try.underlying42 (by kernel_rfl) rfl rfl (by kernel_rfl) (by kernel_rfl) (cameS_int Try.underlying28) cameS_spans) (fun _ h => ⟨wf_u32 h.1, h.2⟩)
theorem map_arg {H : Type} (enc : TypeId × Value → H) {w : World} {fuel : Nat} {cs : Array Value} {x : DataW H × List MemPlace} (ht : DataW.trod enc Try.prog w 0 (fun _ => true) true fuel 42 (Value.agg cs).cells.toList = some x) (hr : Reach 42 x.1) :
    ∃ (a : Int) (A : Option Addr) (c : Nat) (l : List K.S60), cs = #[.int .u32 a, .slice A l.length c] ∧ K.k60.C w A l.length l ∧ l.length ≤ c ∧ (0 ≤ a ∧ a < 4294967296) ∧ (l.length : Int) ≤ 8796093022208 := by
  obtain ⟨v, ⟨c0, c1, h1, h2, A, c, h3, h4, h5⟩, o0, o1⟩ := cameS_map enc w fuel _ x ht hr
  have h2 : c0 = [.int .u32 v.1] := h2
  have h1 : cs.toList = c0 ++ c1 := h1
  rw [h2, h3] at h1
  refine ⟨v.1, A, c, v.2, ?_, h5, h4, o0, o1⟩
  cases cs with
  | mk l => exact congrArg Array.mk h1
end Go.Proofs.Ytbpdejbkfpkphaa.My
end
