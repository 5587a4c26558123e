/- Parts of the proof, one behind the other: SameP, PureCodeOnly, Came, CameR. -/
import Derived.Test.YtbbhjceelghadaaDoorQCodeOnly7
import Derived.Test.YtbbhjceelghadaaDoorProg
import Derived.Below
import Derived.Deep.Draws
import Derived.Deep.AppendLies
import Derived.Maps.AppendAt
import Derived.OwnWalk
import Derived.Laws.BytesArg
import Derived.Laws.MakeOwn
import Derived.Laws.OwnMore
import Derived.Deep.OwnRows
import Derived.Tactics
import Derived.Lib.ConvBytes
import Derived.Laws.Slices
import Derived.WalkKit
import Derived.KernelRfl
import Derived.RowKit3
import Derived.Deep.LoopGhost
import Derived.Deep.QuietTactic
import Derived.BigQuiet
import Derived.WideLaws
import Derived.Deep.DeepCutAuto
import Derived.Deep.CutBlock
import Derived.Deep.RegionHeld3
import Derived.Laws.Rows
import Derived.Lib.AppendStr
import Derived.ArgAppend
import Derived.Laws.IdiomCopy
import Derived.OrdersHeld
import Derived.Laws.BitsLemmas
import Derived.RowKit
import Derived.WalkSpells
import Derived.WalkLawsBesides
import Derived.RegionTactic
import Derived.ChangeAlike
import Derived.Lib.Hide
import Derived.Lib.SlBytesConst
import Derived.Shelf.LaysM
import Derived.Shelf.Bytes.Len
import Derived.Shelf.Bytes.TryGrow
import Derived.Shelf.Bytes.GrowSliceCatch
import Derived.Shelf.Bytes.GrowSlice
import Derived.Shelf.Bytes.Bytes
import Derived.Shelf.Bytes.GrowRow0Kept
import Derived.Shelf.Bytes.GrowRowKept
import Derived.Shelf.Bytes.GrowNilKept
import Derived.Shelf.Bytes.GrowKept
import Derived.Shelf.Bytes.WriteByteKept
import Derived.Shelf.Bytes.LenAt
import Derived.Shelf.Bytes.TryGrowAt
import Derived.Shelf.Bytes.GrowRow0At
import Derived.Shelf.Bytes.GrowRowAt
import Derived.Shelf.Bytes.GrowNilAt
import Derived.Shelf.Bytes.GrowAt
import Derived.Shelf.Bytes.WriteAt
import Derived.Ground.SlbCloneProg
import Derived.Shelf.Bytes.SlClone
import Derived.Shelf.Abstract
import Derived.Laws.ResultCell
import Derived.Lib.OthersKept
import Derived.Lib.BufferKept
import Derived.Lib.BufferWrite
import Derived.Recover
import Derived.Defers
import Derived.Lib.BufferMore
import Derived.Deep.WholeRow
import Derived.Laws.Tables
import Derived.Laws.StructEq
import Derived.Test.YtbbhjceelghadaaDoorRows
import Derived.Deep.Slices
import Derived.ChangeSame
import Derived.ProofKit
import Derived.OpenShut
import Derived.ShutString
import Derived.ChangeOld
import Derived.SizedLaws
import Derived.ChangeSlices
set_option linter.unusedVariables false
set_option linter.unusedSimpArgs false
section
-- from SameP
namespace Go.Proofs.YtbbhjceelghadaaDoor.K
open Go Go.RowKit Go.Proofs.YtbbhjceelghadaaDoorW.PrintWords Go.Proofs.YtbbhjceelghadaaDoorW.PrintLast Go.Proofs.YtbbhjceelghadaaDoorW.PrintMore Go.Proofs.YtbbhjceelghadaaDoor.My
theorem rd_ext (l m : List Int) (h : l.length = m.length) (k : Nat) (hk : ∀ i : Nat, i < k → l.getD i 0 = m.getD i 0) (hl : l.length ≤ k) : l = m := by
  apply List.ext_getElem h
  intro i h1 h2
  have := hk i (by omega)
  rw [List.getD_eq_getElem?_getD, List.getD_eq_getElem?_getD, List.getElem?_eq_getElem h1, List.getElem?_eq_getElem h2] at this
  exact this
theorem rsameInts_ev (l m : List Int) (h : l.length = m.length) (hn : l.length ≤ 9223372036854775807) (d : Nat) : ∀ i : Int, 0 ≤ i → i ≤ l.length → (l.length : Int) - i = d → (∀ j : Nat, j < i.toNat → l.getD j 0 = m.getD j 0) → ∃ b, Ev (fun k => stratumref07_SameInts.l0 k l m i) b ∧ (b = true ↔ l = m) := by
  induction d with
  | zero =>
    intro i h0 h1 hd hp
    exact ⟨true, Ev.step (f := fun _ => some true) (fun k => by simp only [stratumref07_SameInts.l0]; rw [if_neg (by omega)]) (Ev.now _), by
      simp only [true_iff]
      exact rd_ext l m h l.length (fun j hj => hp j (by omega)) (Nat.le_refl _)⟩
  | succ d ih =>
    intro i h0 h1 hd hp
    have hlt : i < (l.length : Int) := by omega
    by_cases c : rd l i = rd m i
    · obtain ⟨b, h2, h3⟩ := ih (i + 1) (by omega) (by omega) (by omega) (fun j hj => by
        rcases Nat.lt_or_ge j i.toNat with h | h
        · exact hp j h
        · obtain rfl : j = i.toNat := by omega
          exact c)
      exact ⟨b, Ev.step (fun k => by simp only [stratumref07_SameInts.l0]; rw [if_pos hlt, if_pos h0, if_pos (by omega), if_pos c, wrap_up h0 hlt hn]) h2, h3⟩
    · refine ⟨false, Ev.step (f := fun _ => some false) (fun k => by simp only [stratumref07_SameInts.l0]; rw [if_pos hlt, if_pos h0, if_pos (by omega), if_neg c]) (Ev.now _), ?_⟩
      simp only [Bool.false_eq_true, false_iff]
      intro e
      rw [e] at c
      exact c rfl
theorem sameInts_ev (l m : List Int) (hn : l.length ≤ 9223372036854775807) : ∃ b, Ev (fun k => stratumref07_SameInts.f k l m) b ∧ (b = true ↔ l = m) := by
  by_cases h : (l.length : Int) = (m.length : Int)
  · obtain ⟨b, h1, h2⟩ := rsameInts_ev l m (by omega) hn l.length 0 (by omega) (by omega) (by omega) (fun j hj => by simp at hj)
    exact ⟨b, Ev.congr (fun k => by unfold stratumref07_SameInts.f; rw [if_pos h]) h1, h2⟩
  · refine ⟨false, Ev.congr (f := fun _ => some false) (fun k => by unfold stratumref07_SameInts.f; rw [if_neg h]) (Ev.now _), ?_⟩
    simp only [Bool.false_eq_true, false_iff]
    intro e
    exact h (by rw [e])
theorem span_ext (l m : List SSpan) (h : l.length = m.length) (hk : ∀ i : Nat, i < l.length → (l.getD i z132).f0 = (m.getD i z132).f0 ∧ (l.getD i z132).f1 = (m.getD i z132).f1) : l = m := by
  apply List.ext_getElem h
  intro i h1 h2
  have := hk i h1
  rw [List.getD_eq_getElem?_getD, List.getD_eq_getElem?_getD, List.getElem?_eq_getElem h1, List.getElem?_eq_getElem h2] at this
  simp only [Option.getD_some] at this
  cases hx : l[i]
  cases hy : m[i]
  rw [hx, hy] at this
  simp only at this
  rw [this.1, this.2]
theorem rsameMap_ev (a b : Int) (l m : List SSpan) (h : l.length = m.length) (hn : l.length ≤ 9223372036854775807) (d : Nat) : ∀ i : Int, 0 ≤ i → i ≤ l.length → (l.length : Int) - i = d → (∀ j : Nat, j < i.toNat → (l.getD j z132).f0 = (m.getD j z132).f0 ∧ (l.getD j z132).f1 = (m.getD j z132).f1) → ∃ t, Ev (fun k => stratumref07_SameMap.l0 k i a l b m) t ∧ (t = true ↔ l = m) := by
  induction d with
  | zero =>
    intro i h0 h1 hd hp
    exact ⟨true, Ev.step (f := fun _ => some true) (fun k => by simp only [stratumref07_SameMap.l0]; rw [if_neg (by omega)]) (Ev.now _), by
      simp only [true_iff]
      exact span_ext l m h (fun j hj => hp j (by omega))⟩
  | succ d ih =>
    intro i h0 h1 hd hp
    have hlt : i < (l.length : Int) := by omega
    by_cases c : (rd_T132 l i).f0 = (rd_T132 m i).f0 ∧ (rd_T132 l i).f1 = (rd_T132 m i).f1
    · obtain ⟨b, h2, h3⟩ := ih (i + 1) (by omega) (by omega) (by omega) (fun j hj => by
        rcases Nat.lt_or_ge j i.toNat with h | h
        · exact hp j h
        · obtain rfl : j = i.toNat := by omega
          exact c)
      exact ⟨b, Ev.step (fun k => by simp only [stratumref07_SameMap.l0]; rw [if_pos hlt, if_pos h0, if_pos (by omega), if_neg (by simp [c.1, c.2]), wrap_up h0 hlt hn]) h2, h3⟩
    · refine ⟨false, Ev.step (f := fun _ => some false) (fun k => by simp only [stratumref07_SameMap.l0]; rw [if_pos hlt, if_pos h0, if_pos (by omega), if_pos (by simp; exact Classical.not_and_iff_not_or_not.mp c)]) (Ev.now _), ?_⟩
      simp only [Bool.false_eq_true, false_iff]
      intro e
      rw [e] at c
      exact c ⟨rfl, rfl⟩
theorem sameMap_ev (a b : Int) (l m : List SSpan) (hn : l.length ≤ 9223372036854775807) : ∃ t, Ev (fun k => stratumref07_SameMap.f k a l b m) t ∧ (t = true ↔ (a = b ∧ l = m)) := by
  have hno : ∀ (x : Bool), x = true → Ev (fun k => stratumref07_SameMap.j0 k x a l b m) false := fun x hx => Ev.step (f := fun _ => some false) (fun k => by simp only [stratumref07_SameMap.j0]; rw [if_pos hx]) (Ev.now _)
  by_cases hab : a = b
  · by_cases h : (l.length : Int) = (m.length : Int)
    · obtain ⟨t, h1, h2⟩ := rsameMap_ev a b l m (by omega) hn l.length 0 (by omega) (by omega) (by omega) (fun j hj => by simp at hj)
      refine ⟨t, Ev.congr (fun k => by unfold stratumref07_SameMap.f; rw [if_pos hab]) (Ev.step (fun k => by simp only [stratumref07_SameMap.j0]; rw [if_neg (by simp [h])]) h1), ?_⟩
      rw [h2]; exact ⟨fun e => ⟨hab, e⟩, fun e => e.2⟩
    · refine ⟨false, Ev.congr (fun k => by unfold stratumref07_SameMap.f; rw [if_pos hab]) (hno _ (by simpa [bne] using h)), ?_⟩
      simp only [Bool.false_eq_true, false_iff]
      intro e
      exact h (by rw [e.2])
  · refine ⟨false, Ev.congr (fun k => by unfold stratumref07_SameMap.f; rw [if_neg hab]) (hno true rfl), ?_⟩
    simp only [Bool.false_eq_true, false_iff]
    exact fun e => hab e.1
def SameP (x y : SRec) : Prop := x.f0 = y.f0 ∧ x.f1 = y.f1 ∧ x.f2 = y.f2 ∧ x.f6 = y.f6 ∧ x.f7 = y.f7 ∧ x.f3 = y.f3 ∧ factsE x.f4 = factsE y.f4 ∧ (x.f5.f0 = y.f5.f0 ∧ x.f5.f1 = y.f5.f1) ∧ entriesE x.f8 = entriesE y.f8
structure SLen (x : SRec) : Prop where
  n3 : x.f3.length ≤ 9223372036854775807
  n4 : (factsE x.f4).length ≤ 140737488355328
  n6 : x.f5.f1.length ≤ 9223372036854775807
  n9 : (entriesE x.f8).length ≤ 140737488355328
theorem sameFacts_ev (l m : List SFact) (hl : (factsE l).length ≤ 140737488355328) (hm : (factsE m).length ≤ 140737488355328) : ∃ t, Ev (fun k => stratumref07_SameFacts.f k l m) t ∧ (t = true ↔ factsE l = factsE m) := by
  have e1 := factsE_ev l [] (by simpa using hl)
  have e2 := factsE_ev m [] (by simpa using hm)
  rw [List.nil_append] at e1 e2
  refine ⟨decide (factsE l = factsE m), ?_, by simp⟩
  unfold stratumref07_SameFacts.f
  refine Ev.bind e1 (Ev.bind e2 ?_)
  rw [equal_nums]
  exact Ev.now _
theorem sameEntries_ev (l m : List SEntry) (hl : (entriesE l).length ≤ 140737488355328) (hm : (entriesE m).length ≤ 140737488355328) : stratumref07_SameEntries.f l m = some (decide (entriesE l = entriesE m)) := by
  unfold stratumref07_SameEntries.f stratumref07_Entries.f
  rw [if_pos ⟨rfl, hl⟩, if_pos ⟨rfl, hm⟩]
  simp only [Option.bind_some]
  rw [equal_nums]
theorem same_ev (x y : SRec) (hx : SLen x) (hy : SLen y) : ∃ t, Ev (fun k => stratumref07_Same.f k x.f0 x.f1 x.f2 x.f3 x.f4 x.f5.f0 x.f5.f1 x.f6 x.f7 x.f8 y.f0 y.f1 y.f2 y.f3 y.f4 y.f5.f0 y.f5.f1 y.f6 y.f7 y.f8) t ∧ (t = true ↔ SameP x y) := by
  have hno : ∀ (b : Bool), b = false → Ev (fun k => stratumref07_Same.j0 k b x.f0 x.f1 x.f2 x.f3 x.f4 x.f5.f0 x.f5.f1 x.f6 x.f7 x.f8 y.f0 y.f1 y.f2 y.f3 y.f4 y.f5.f0 y.f5.f1 y.f6 y.f7 y.f8) false := fun b hb => Ev.step (f := fun _ => some false) (fun k => by simp only [stratumref07_Same.j0]; rw [if_neg (by rw [hb]; decide)]) (Ev.now _)
  have no : ∀ {p : Prop}, ¬ p → (false = true ↔ p) := fun h => ⟨(fun e => by cases e), fun e => absurd e h⟩
  by_cases h0 : x.f0 = y.f0
  case neg => exact ⟨false, Ev.congr (fun k => by unfold stratumref07_Same.f; rw [if_neg h0]) (hno false rfl), no (fun e => h0 e.1)⟩
  by_cases h1 : x.f1 = y.f1
  case neg => exact ⟨false, Ev.congr (fun k => by unfold stratumref07_Same.f; rw [if_pos h0, if_neg h1]) (hno false rfl), no (fun e => h1 e.2.1)⟩
  by_cases h2 : x.f2 = y.f2
  case neg => exact ⟨false, Ev.congr (fun k => by unfold stratumref07_Same.f; rw [if_pos h0, if_pos h1, if_neg h2]) (hno false rfl), no (fun e => h2 e.2.2.1)⟩
  by_cases h6 : x.f6 = y.f6
  case neg => exact ⟨false, Ev.congr (fun k => by unfold stratumref07_Same.f; rw [if_pos h0, if_pos h1, if_pos h2, if_neg h6]) (hno false rfl), no (fun e => h6 e.2.2.2.1)⟩
  by_cases h7 : x.f7 = y.f7
  case neg => exact ⟨false, Ev.congr (fun k => by unfold stratumref07_Same.f; rw [if_pos h0, if_pos h1, if_pos h2, if_pos h6]) (hno _ (by simpa using h7)), no (fun e => h7 e.2.2.2.2.1)⟩
  obtain ⟨t3, a3, b3⟩ := sameInts_ev x.f3 y.f3 hx.n3
  obtain ⟨t4, a4, b4⟩ := sameFacts_ev x.f4 y.f4 hx.n4 hy.n4
  obtain ⟨t5, a5, b5⟩ := sameMap_ev x.f5.f0 y.f5.f0 x.f5.f1 y.f5.f1 hx.n6
  have a9 := sameEntries_ev x.f8 y.f8 hx.n9 hy.n9
  refine ⟨t3 && (t4 && (t5 && decide (entriesE x.f8 = entriesE y.f8))), Ev.congr (fun k => by unfold stratumref07_Same.f; rw [if_pos h0, if_pos h1, if_pos h2, if_pos h6]) (Ev.step (fun k => by simp only [stratumref07_Same.j0]; rw [if_pos (by simpa using h7)]) (Ev.bind a3 (Ev_and _ (Ev.bind a4 (Ev_and _ (Ev.bind a5 (Ev_and _ ?_))))))), ?_⟩
  · exact Ev.congr (fun k => by rw [a9]; rfl) (Ev.now _)
  · simp only [Bool.and_eq_true, decide_eq_true_eq, b3, b4, b5]
    exact ⟨fun e => ⟨h0, h1, h2, h6, h7, e.1, e.2.1, e.2.2.1, e.2.2.2⟩, fun e => ⟨e.2.2.2.2.2.1, e.2.2.2.2.2.2.1, e.2.2.2.2.2.2.2.1, e.2.2.2.2.2.2.2.2⟩⟩
end Go.Proofs.YtbbhjceelghadaaDoor.K
end

section
-- from PureCodeOnly
namespace Go.Proofs.YtbbhjceelghadaaDoor.Pure
open Go.RowKit Go.Proofs.YtbbhjceelghadaaDoor.K Go.Proofs.YtbbhjceelghadaaDoorW.PrintWords Go.Proofs.YtbbhjceelghadaaDoorW.PrintLast
theorem nums_bytesOf (l0 : List Int) (h : ∀ x ∈ l0, 0 ≤ x ∧ x < 256) : K.nums (K.bytesOf l0) = l0 := by
  unfold K.nums K.bytesOf
  rw [List.map_map]
  conv => rhs; rw [← List.map_id l0]
  apply List.map_congr_left
  intro x hx
  have hb := h x hx
  simp only [Function.comp, id]
  rw [UInt8.toNat_ofNat']
  omega
theorem zero_len : SLen zeroRec := ⟨by decide, by decide, by decide, by decide⟩
theorem same_zero : ∃ k, stratumref07_Same.f k 0 0 0 ([] : List Int) ([] : List SFact) 0 ([] : List SSpan) 0 0 ([] : List SEntry) 0 0 0 ([] : List Int) ([] : List SFact) 0 ([] : List SSpan) 0 0 ([] : List SEntry) = some true := by
  obtain ⟨t, h1, h2⟩ := same_ev zeroRec zeroRec zero_len zero_len
  obtain ⟨k, h⟩ := h1.rounds
  rw [h2.2 ⟨rfl, rfl, rfl, rfl, rfl, rfl, rfl, ⟨rfl, rfl⟩, rfl⟩] at h
  exact ⟨k, h⟩
theorem decR_cases (l : List UInt8) (h : l.length ≤ 60000) : decR l = (zeroRec, 70) ∨ ∃ x, decR l = (x, 0) ∧ encR x = (K.nums l, 0) := by
  unfold decR
  rw [if_neg (by omega)]
  cases recP l with
  | none => exact .inl rfl
  | some y =>
    obtain ⟨x, r⟩ := y
    simp only
    by_cases he : encR x = (K.nums l, 0)
    · rw [if_pos he]; exact .inr ⟨x, rfl, he⟩
    · rw [if_neg he]; exact .inl rfl
theorem codeOnly_pure (l0 : List Int) (hw : ∀ x ∈ l0, 0 ≤ x ∧ x < 256) : ∃ k, stratumlaw07_CodeOnly.f k l0 = some true := by
  have hn := nums_bytesOf l0 hw
  obtain ⟨k, hz⟩ := same_zero
  refine ⟨k + 1, ?_⟩
  unfold stratumlaw07_CodeOnly.f
  by_cases hl : (l0.length : Int) > 3000
  · rw [if_pos hl]
    rfl
  rw [if_neg hl]
  simp only [stratumlaw07_known.f, Option.bind_some, Bool.not_true, stratumlaw07_CodeOnly.j0]
  rw [if_neg (by decide)]
  obtain ⟨l, hl2⟩ : ∃ l, l = K.bytesOf l0 := ⟨_, rfl⟩
  have hdec : code_Decode.f l0 = some (flatR (decR l)) := by
    unfold code_Decode.f
    rw [if_pos hn, ← hl2]
  rw [← hl2] at hn
  have hlen : l.length ≤ 3000 := by
    have h1 : l.length = l0.length := by rw [← hn, nums_len]
    omega
  rw [hdec]
  rcases decR_cases l (by omega) with h | ⟨x, h, he⟩
  · rw [h]
    simp only [Option.bind_some, flatR, zeroRec]
    rw [if_neg (by decide), if_pos True.intro, hz]
    rfl
  · rw [h]
    simp only [Option.bind_some, flatR, if_true]
    have henc : code_Encode.f x.f0 x.f1 x.f2 x.f3 x.f4 x.f5.f0 x.f5.f1 x.f6 x.f7 x.f8 = some (K.nums l, 0) := by
      unfold code_Encode.f
      rw [← he]
    have hs : soundB x = true := by
      unfold encR at he
      split at he
      · assumption
      · injection he with h1 h2; cases h2
    rw [henc]
    simp only [Option.bind_some, if_true, hn]
    show (some (soundB x)).bind _ = _
    rw [hs]
    rfl
theorem codeOnly_walk (A : Option Addr) (c : Nat) (l : List Int) (W : World) (hC : (Kd.int .u8).C W A l.length l) (hc : l.length ≤ c) (hw : ∀ x ∈ l, 0 ≤ x ∧ x < 256) :
    Calls Tryd.prog 12 #[.slice A l.length c] W fun e w' => e = .returned (.bool true) ∧ Below W.heap.size W w' := by
  obtain ⟨k, hk⟩ := codeOnly_pure l hw
  exact stratumlaw07_CodeOnly.calls k A c l true W hC hc hk
end Go.Proofs.YtbbhjceelghadaaDoor.Pure
end

section
-- from Came
namespace Go.Proofs.YtbbhjceelghadaaDoor.My
open Go Go.RowKit Go.Deep Go.ChangeShapes Go.WideShapes Go.ChangeAt Go.Proofs.YtbbhjceelghadaaDoorW.PrintWords
/-- A value of type t that came in reads as a v of kind d, of which ok holds and which is no heavier than the datum's bulk. -/
def Came {α : Type} (d : Kd α) (t : TypeId) (ok : α → Prop) (wt : α → Nat) : Prop :=
  ∀ {H : Type} (enc : TypeId × Value → H) (w : World) (fuel : Nat) (cs : List Value) (x : DataW H × List MemPlace), DataW.trod enc Tryd.prog w 0 (fun _ => true) true fuel t cs = some x → ∃ v : α, d.K w v cs ∧ ok v ∧ wt v ≤ Rows.uptoBulk x.1
theorem came_int {k : IntKind} {t : TypeId} (ht : Tryd.prog.underlying t = some (.int k)) : Came (Kd.int k) t (fun n => (Lit.int k n).wf = true) (fun _ => 1) := by
  intro H enc w fuel cs x h
  obtain ⟨n, rfl, hx, hw⟩ := DataW.trod_int ht h
  exact ⟨n, rfl, hw, by rw [hx]; simp [Rows.uptoBulk]⟩
/-- All of a slice's weight. -/
def wtAll {α : Type} (wt : α → Nat) (l : List α) : Nat := (l.map wt).sum
theorem wtAll_cons {α : Type} (wt : α → Nat) (x : α) (l : List α) : wtAll wt (x :: l) = wt x + wtAll wt l := by simp [wtAll]
theorem pick_all {α : Type} [Inhabited α] {n : Nat} {p : Nat → α → Prop} (h : ∀ i, i < n → ∃ x, p i x) : ∃ f : Nat → α, ∀ i, i < n → p i (f i) := by
  classical
  refine ⟨fun i => if h' : i < n then Classical.choose (h i h') else default, fun i hi => ?_⟩
  simp only [dif_pos hi]
  exact Classical.choose_spec (h i hi)
theorem cells_get {w : World} {a : Addr} {n : Nat} {cs : List Value} (h : w.cells? 0 a n = some cs) (i : Nat) (v : Value) (hi : cs[i]? = some v) : w.cell? (a.add i) = some v := by
  obtain ⟨_, hl, hc⟩ := World.cells?_some h
  have hil : i < n := by have := (List.getElem?_eq_some_iff.1 hi).1; omega
  rw [hc i hil]
  exact hi
theorem came_slice {α : Type} [Inhabited α] {d : Kd α} {t e : TypeId} {ok : α → Prop} {wt : α → Nat} (ht : Tryd.prog.underlying t = some (.slice e)) (hc : Tryd.prog.cellsOf e = d.sz) (he : Came d e ok wt) :
    Came (Kd.slice e d) t (fun l => ∀ x ∈ l, ok x) (fun l => wtAll wt l + 1) := by
  intro H enc w fuel cs x h
  rcases open_slice ht h with ⟨rfl, rfl⟩ | ⟨ad, len, cap, m, n, D, Pl, rfl, _, hl, hmax, hm, rfl, hel⟩
  · exact ⟨[], ⟨none, 0, rfl, Nat.le_refl _, ⟨rfl, by simp, fun h => absurd h (Nat.lt_irrefl 0)⟩⟩, (by simp), by simp [wtAll, Rows.uptoBulk]⟩
  · have hlm : len ≤ m := by rw [hm]; simp; exact hl
    have one : ∀ i, i < len → ∃ v : α, (∃ cs', w.cells? 0 (ad.add (i * Tryd.prog.cellsOf e)) (Tryd.prog.cellsOf e) = some cs' ∧ d.K w v cs') ∧ ok v ∧ wt v ≤ Rows.uptoBulk (D i) := by
      intro i hi
      obtain ⟨cs', h1, h2⟩ := hel i (by omega)
      obtain ⟨v, h3, h4, h5⟩ := he enc w n cs' _ h2
      exact ⟨v, ⟨cs', h1, h3⟩, h4, h5⟩
    obtain ⟨L, hL⟩ := pick_all one
    have hlen : ((List.range len).map L).length = len := by simp
    refine ⟨(List.range len).map L, ⟨some ad, cap, by rw [hlen], by rw [hlen]; exact hl, ?_⟩, ?_, ?_⟩
    · rw [hlen]
      refine ⟨hlen, by unfold maxLen at hmax; omega, fun _ => ⟨ad, rfl, fun j p hj => ?_⟩⟩
      have hjl : j < len := by have := (List.getElem?_eq_some_iff.1 hj).1; simpa using this
      have hp : p = L j := by
        rw [List.getElem?_map, List.getElem?_range hjl] at hj
        simp only [Option.map_some, Option.some.injEq] at hj
        exact hj.symm
      subst hp
      obtain ⟨⟨cs', h1, h2⟩, _, _⟩ := hL j hjl
      rw [hc] at h1
      refine ⟨cs', d.K_len h2, h2, fun i u hi => ?_⟩
      have := cells_get h1 i u hi
      rwa [Go.Deep.add_add] at this
    · intro y hy
      obtain ⟨i, hi, rfl⟩ := List.mem_map.1 hy
      exact (hL i (List.mem_range.1 hi)).2.1
    · have key : ∀ is : List Nat, (∀ i ∈ is, i < len) → wtAll wt (is.map L) ≤ Rows.uptoBulkAll (is.map D) := by
        intro is
        induction is with
        | nil => intro _; simp [wtAll, Rows.uptoBulkAll]
        | cons i is ih =>
          intro hi
          have h3 := ih (fun k hk => hi k (List.mem_cons_of_mem _ hk))
          have h4 := (hL i (hi i List.mem_cons_self)).2.2
          rw [List.map_cons, List.map_cons, wtAll_cons]
          simp only [Rows.uptoBulkAll]
          omega
      have := key (List.range len) (fun i hi => List.mem_range.1 hi)
      simp only [Rows.uptoBulk]
      omega
theorem came_mono {α : Type} {d : Kd α} {t : TypeId} {ok ok' : α → Prop} {wt : α → Nat} (h : Came d t ok wt) (hok : ∀ x, ok x → ok' x) : Came d t ok' wt := by
  intro H enc w fuel cs x hx
  obtain ⟨v, h1, h2, h3⟩ := h enc w fuel cs x hx
  exact ⟨v, h1, hok v h2, h3⟩
/-- What a slice argument is. -/
theorem came_C {α : Type} {d : Kd α} {t e : TypeId} {ok : List α → Prop} {wt : List α → Nat} (h : Came (Kd.slice e d) t ok wt) {H : Type} (enc : TypeId × Value → H) {w : World} {fuel : Nat} {v : Value} {x : DataW H × List MemPlace} (ht : DataW.trod enc Tryd.prog w 0 (fun _ => true) true fuel t v.cells.toList = some x) :
    ∃ (A : Option Addr) (c : Nat) (l : List α), v.cells.toList = [.slice A l.length c] ∧ l.length ≤ c ∧ d.C w A l.length l ∧ ok l ∧ wt l ≤ Rows.uptoBulk x.1 := by
  obtain ⟨l, ⟨A, c, h1, h2, h3⟩, h4, h5⟩ := h enc w fuel _ x ht
  exact ⟨A, c, l, h1, h2, h3, h4, h5⟩
end Go.Proofs.YtbbhjceelghadaaDoor.My
end

section
-- from CameR
namespace Go.Proofs.YtbbhjceelghadaaDoor.K
open Go Go.RowKit Go.Deep Go.ChangeShapes Go.WideShapes Go.ChangeAt Go.Proofs.YtbbhjceelghadaaDoorW.PrintWords Go.Proofs.YtbbhjceelghadaaDoor.My
instance : Inhabited SFact := ⟨⟨[], 0⟩⟩
instance : Inhabited SEntry := ⟨⟨0, []⟩⟩
instance : Inhabited SSpan := ⟨⟨0, 0⟩⟩
def wtI (_ : Int) : Nat := 1
theorem came_bytes : Came (Kd.slice 5 (Kd.int .u8)) 23 (fun l => ∀ v ∈ l, 0 ≤ v ∧ v < 256) (fun l => wtAll wtI l + 1) :=
  came_mono (came_slice (wt := wtI) Tryd.underlying23 (by kernel_rfl) (came_int Tryd.underlying5)) (fun _ h x hx => wf_u8 (h x hx))
end Go.Proofs.YtbbhjceelghadaaDoor.K
end
