/- How an argument [][]byte of a row is opened; what a bound on the bulk gives. -/
import Derived.Test.YtbbhjceelghadaaRow
import Derived.Test.YtbbhjceelghadaaRows
import Derived.Test.YtbbhjceelghadaaFrameP
import Derived.Deep.Slices
namespace Go.Proofs.Ytbbhjceelghadaa.My
open Go Go.RowKit Go.Deep Go.ChangeShapes Go.WideShapes Go.ChangeAt Go.Proofs.YtbbhjceelghadaaW.PrintWords

theorem bulk_one {H : Type} (d : DataW H) : 1 ≤ Rows.uptoBulk d := by
  cases d with
  | lit l => cases l <;> simp [Rows.uptoBulk]
  | nil => simp [Rows.uptoBulk]
  | ptr d => simp [Rows.uptoBulk]
  | slice elems spare => simp [Rows.uptoBulk]
  | agg parts => simp [Rows.uptoBulk]
  | iface t d => simp [Rows.uptoBulk]
  | map entries => simp [Rows.uptoBulk]
  | held h => simp [Rows.uptoBulk]
theorem bulk_len {H : Type} (l : List (DataW H)) : l.length ≤ Rows.uptoBulkAll l := by
  induction l with
  | nil => simp
  | cons x r ih => have := bulk_one x; simp only [Rows.uptoBulkAll, List.length_cons]; omega
theorem bulk_append {H : Type} (l r : List (DataW H)) : Rows.uptoBulkAll (l ++ r) = Rows.uptoBulkAll l + Rows.uptoBulkAll r := by
  induction l with
  | nil => simp [Rows.uptoBulkAll]
  | cons x l ih => simp only [List.cons_append, Rows.uptoBulkAll, ih]; omega
theorem end_bulk {H : Type} (L : Nat → List UInt8) (D : Nat → DataW H) (h : ∀ i, (L i).length + 1 ≤ Rows.uptoBulk (D i)) : ∀ is : List Nat, endB (is.map L) ≤ 8 * Rows.uptoBulkAll (is.map D)
  | [] => by simp [endB]
  | i :: is => by
    have := end_bulk L D h is
    have hi := h i
    rw [List.map_cons, List.map_cons, endB_cons]
    simp only [Rows.uptoBulkAll]
    omega
theorem pick_all {α : Type} [Inhabited α] {n : Nat} {p : Nat → α → Prop} (h : ∀ i, i < n → ∃ x, p i x) : ∃ f : Nat → α, ∀ i, i < n → p i (f i) := by
  classical
  refine ⟨fun i => if h' : i < n then Classical.choose (h i h') else default, fun i hi => ?_⟩
  simp only [dif_pos hi]
  exact Classical.choose_spec (h i hi)
/-- A slice of slices of bytes, as it is read. -/
theorem kbb_of_trod {H : Type} {enc : TypeId × Value → H} {w : World} {a : Option Addr} {len cap fuel : Nat} {x : DataW H × List MemPlace} (h : DataW.trod enc Try.prog w 0 (fun _ => true) true fuel 36 [.slice a len cap] = some x) :
    ∃ ls : List (List UInt8), len = ls.length ∧ (Kd.slice 5 kb).C w a ls.length ls ∧ ls.length ≤ cap ∧ endB ls ≤ 8 * Rows.uptoBulk x.1 := by
  rcases open_slice1 Try.underlying36 (by kernel_rfl) h with ⟨hcs, _⟩ | ⟨ad, len', cap', m, n, V, D, Pl, hcs, _, hl, hmax, hm, hx, hel⟩
  · simp only [List.cons.injEq, Value.slice.injEq, and_true] at hcs
    obtain ⟨rfl, rfl, rfl⟩ := hcs
    exact ⟨[], rfl, ⟨rfl, by simp, fun h => absurd h (Nat.lt_irrefl 0)⟩, Nat.le_refl _, by simp [endB]⟩
  · simp only [List.cons.injEq, Value.slice.injEq, and_true] at hcs
    obtain ⟨rfl, rfl, rfl⟩ := hcs
    have hlm : len ≤ m := by rw [hm]; simp; exact hl
    have one : ∀ i, i < len → ∃ li : List UInt8, (∃ A c, V i = .slice A li.length c ∧ li.length ≤ c ∧ kb.C w A li.length li) ∧ li.length + 1 ≤ Rows.uptoBulk (D i) := by
      intro i hi
      obtain ⟨hc, ht⟩ := hel i (by omega)
      rcases open_ints Try.underlying22 Try.underlying5 (by kernel_rfl) ht with ⟨hv, hd⟩ | ⟨y, l, c, zs, hv, _, hlc, hcm, hz, hd, hcell, hwz⟩
      · have hv' : V i = .slice none 0 0 := by simpa using hv
        exact ⟨[], ⟨none, 0, hv', Nat.le_refl _, C_nil0 _⟩, bulk_one _⟩
      · have hv' : V i = .slice (some y) l c := by simpa using hv
        have hzc : zs.length = c := by simpa using hz
        obtain ⟨li, rfl, hC, hlec⟩ := kb_of_row (a := some y) (len := l) (cap := c) (zs := zs) (.inr ⟨y, rfl, hlc, hcm, hzc, hcell, hwz⟩)
        refine ⟨li, ⟨some y, c, hv', hlec, hC⟩, ?_⟩
        have hD : D i = .slice (lits .u8 (zs.take li.length)) (lits .u8 (zs.drop li.length)) := congrArg Prod.fst hd
        rw [hD]
        have h1 := bulk_len (H := H) (lits .u8 (zs.take li.length))
        have h2 : (lits (H := H) .u8 (zs.take li.length)).length = li.length := by simp [lits]; omega
        simp only [Rows.uptoBulk]
        omega
    obtain ⟨L0, hL0⟩ := pick_all one
    obtain ⟨L, hLe⟩ : ∃ L : Nat → List UInt8, L = fun i => if i < len then L0 i else [] := ⟨_, rfl⟩
    have hL : ∀ i, i < len → L i = L0 i := fun i hi => by rw [hLe]; simp [hi]
    have hlen : ((List.range len).map L).length = len := by simp
    refine ⟨(List.range len).map L, hlen.symm, ?_, by rw [hlen]; exact hl, ?_⟩
    · rw [hlen]
      refine ⟨hlen, by unfold maxLen at hmax; omega, fun _ => ⟨ad, rfl, fun j p hj => ?_⟩⟩
      have hjl : j < len := by have := (List.getElem?_eq_some_iff.1 hj).1; simpa using this
      have hp : p = L0 j := by
        rw [List.getElem?_map, List.getElem?_range hjl] at hj
        simp only [Option.map_some, Option.some.injEq] at hj
        rw [← hj, hL j hjl]
      subst hp
      obtain ⟨⟨A, c, hV, hc1, hC⟩, _⟩ := hL0 j hjl
      refine ⟨[.slice A (L0 j).length c], rfl, ⟨A, c, rfl, hc1, hC⟩, fun i u hi => ?_⟩
      have hi0 : i = 0 := by
        rcases i with _ | i
        · rfl
        · simp at hi
      subst hi0
      have hu : u = .slice A (L0 j).length c := by simpa using hi.symm
      subst hu
      rw [show (Kd.slice _ kb).sz = 1 from rfl, Nat.mul_one, Nat.add_zero, (hel j (by omega)).1, hV]
    · rw [hx]
      have hmap : (List.range len).map L = (List.range len).map L0 := List.map_congr_left fun i hi => hL i (List.mem_range.1 hi)
      have h2 : ∀ is : List Nat, (∀ i ∈ is, i < len) → endB (is.map L0) ≤ 8 * Rows.uptoBulkAll (is.map D) := by
        intro is
        induction is with
        | nil => intro _; simp [endB]
        | cons i is ih =>
          intro hi
          have h3 := ih (fun k hk => hi k (List.mem_cons_of_mem _ hk))
          have h4 := (hL0 i (hi i List.mem_cons_self)).2
          rw [List.map_cons, List.map_cons, endB_cons]
          simp only [Rows.uptoBulkAll]
          omega
      have h5 := h2 (List.range len) (fun i hi => List.mem_range.1 hi)
      rw [hmap]
      simp only [Rows.uptoBulk]
      omega

end Go.Proofs.Ytbbhjceelghadaa.My
