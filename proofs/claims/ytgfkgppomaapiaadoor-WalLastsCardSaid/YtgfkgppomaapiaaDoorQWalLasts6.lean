/- Parts of the proof, one behind the other: MakeP, K44, K45, K1, K46, K47, K48, SameP, SoundL, Apart, Owns, WalK, WalE, WalF, RecOk, Self. -/
import Derived.Test.YtgfkgppomaapiaaDoorQWalLasts5
import Derived.Deep.MidRow
set_option linter.unusedVariables false
set_option linter.unusedSimpArgs false
section
namespace Go.Proofs.YtgfkgppomaapiaaDoor.K
open RowKit YtgfkgppomaapiaaDoorW.PrintWords YtgfkgppomaapiaaDoorW.PrintLast YtgfkgppomaapiaaDoorW.PrintMore My
theorem vM {α : Type} (d : α) (l : List α) (i : Int) (h : i.toNat < l.length) (h0 : 0 ≤ i) : l.drop i.toNat = l.getD i.toNat d :: l.drop (i + 1).toNat := by
 rw [List.drop_eq_getElem_cons h, show (i + 1).toNat = i.toNat + 1 by omega]
 congr 1
 rw [List.getD_eq_getElem?_getD, List.getElem?_eq_getElem h]
 rfl
def capV (v : Int) : Int := (mx v 0) % 10000
def PM (f : jP) : jP := ⟨(f.f0.take 4).map capV, f.f1⟩
def uB (l : List jP) : List jP := (l.take 60).map PM
theorem XJ (l : List jP) (i : Int) (h0 : 0 ≤ i) (hlt : i < l.length) (hn : l.length ≤ 9223372036854775807) (out : List jP) (ho : out.length < 4398046511104) (v : Int) (R : List jP)
  (hR : ∀ key : List Int, Ev (fun k => stratumlaw07_Facts.l0 k l (out ++ [⟨key, v⟩]) (i + 1)) (out ++ ⟨key, v⟩ :: R)) (d : Nat) : ∀ (j : Int) (acc : List Int), 0 ≤ j → j ≤ 4 → 4 - j = d → (acc.length : Int) ≤ j →
  Ev (fun k => stratumlaw07_Facts.l1 k l out i j acc v) (out ++ ⟨acc ++ (((iZ l i).f0.take 4).drop j.toNat).map capV, v⟩ :: R) := by
 induction d with
 | zero =>
  intro j acc g0 g1 hd ha
  rw [List.drop_of_length_le (by rw [List.length_take]; omega), List.map_nil, List.append_nil]
  by_cases hj : j < ((iZ l i).f0.length : Int)
  ·exact Ev.step (fun k => by simp only [stratumlaw07_Facts.l1]; rw [if_pos h0, if_pos hlt, if_pos hj, if_neg (by omega), if_pos ho, show wrap64 (i + 1) = i + 1 from by unfold wrap64; omega]) (hR acc)
  ·exact Ev.step (fun k => by simp only [stratumlaw07_Facts.l1]; rw [if_pos h0, if_pos hlt, if_neg hj, if_pos ho, show wrap64 (i + 1) = i + 1 from by unfold wrap64; omega]) (hR acc)
 | succ d ih =>
  intro j acc g0 g1 hd ha
  by_cases hj : j < ((iZ l i).f0.length : Int)
  ·have hjt : j.toNat < ((iZ l i).f0.take 4).length := by rw [List.length_take]; omega
   rw [vM 0 _ j hjt g0, List.map_cons, List.append_cons acc]
   have e : ((iZ l i).f0.take 4).getD j.toNat 0 = rd (iZ l i).f0 j := by
    unfold rd
    rw [List.getD_eq_getElem?_getD, List.getD_eq_getElem?_getD, List.getElem?_take, if_pos (by omega)]
   rw [e]
   refine Ev.step (f := fun k => stratumlaw07_Facts.l1 k l out i (j + 1) (acc ++ [capV (rd (iZ l i).f0 j)]) v) (fun k => by simp only [stratumlaw07_Facts.l1]; rw [if_pos h0, if_pos hlt, if_pos hj, if_pos (by omega), if_pos g0, if_pos (by omega), show wrap64 (j + 1) = j + 1 from by unfold wrap64; omega]; rfl) ?_
   have := ih (j + 1) (acc ++ [capV (rd (iZ l i).f0 j)]) (by omega) (by omega) (by omega) (by rw [List.length_append]; simp; omega)
   exact this
  ·rw [List.drop_of_length_le (by rw [List.length_take]; omega), List.map_nil, List.append_nil]
   exact Ev.step (fun k => by simp only [stratumlaw07_Facts.l1]; rw [if_pos h0, if_pos hlt, if_neg hj, if_pos ho, show wrap64 (i + 1) = i + 1 from by unfold wrap64; omega]) (hR acc)
theorem QS (l : List jP) (hn : l.length ≤ 9223372036854775807) (d : Nat) : ∀ (i : Int) (out : List jP), 0 ≤ i → i ≤ 60 → 60 - i = d → (out.length : Int) ≤ i → Ev (fun k => stratumlaw07_Facts.l0 k l out i) (out ++ ((l.take 60).drop i.toNat).map PM) := by
 induction d with
 | zero =>
  intro i out h0 h1 hd ho
  rw [List.drop_of_length_le (by rw [List.length_take]; omega), List.map_nil, List.append_nil]
  by_cases hlt : i < (l.length : Int)
  ·exact Ev.step (fun k => by simp only [stratumlaw07_Facts.l0]; rw [if_pos hlt]) (Ev.step (f := fun _ => some out) (fun k => by simp only [stratumlaw07_Facts.j1]; rw [if_neg (by simp; omega)]) (Ev.now _))
  ·exact Ev.step (fun k => by simp only [stratumlaw07_Facts.l0]; rw [if_neg hlt]) (Ev.step (f := fun _ => some out) (fun k => by simp only [stratumlaw07_Facts.j1]; rw [if_neg (by decide)]) (Ev.now _))
 | succ d ih =>
  intro i out h0 h1 hd ho
  by_cases hlt : i < (l.length : Int)
  ·have hit : i.toNat < (l.take 60).length := by rw [List.length_take]; omega
   have e : (l.take 60).getD i.toNat z139 = iZ l i := by
    unfold iZ
    rw [List.getD_eq_getElem?_getD, List.getD_eq_getElem?_getD, List.getElem?_take, if_pos (by omega)]
   rw [vM z139 _ i hit h0, List.map_cons, e]
   refine Ev.step (fun k => by simp only [stratumlaw07_Facts.l0]; rw [if_pos hlt]) (Ev.step (f := fun k => stratumlaw07_Facts.l1 k l out i 0 [] (iZ l i).f1) (fun k => by simp only [stratumlaw07_Facts.j1]; rw [if_pos (by simp; omega), if_pos h0, if_pos hlt]) ?_)
   have h2 := XJ l i h0 hlt hn out (by omega) (iZ l i).f1 (((l.take 60).drop (i + 1).toNat).map PM) (fun key => by
    have := ih (i + 1) (out ++ [⟨key, (iZ l i).f1⟩]) (by omega) (by omega) (by omega) (by rw [List.length_append]; simp; omega)
    rw [List.append_assoc] at this
    exact this) 4 0 [] (by omega) (by omega) (by omega) (by simp)
   rw [List.nil_append] at h2
   exact h2
  ·rw [List.drop_of_length_le (by rw [List.length_take]; omega), List.map_nil, List.append_nil]
   exact Ev.step (fun k => by simp only [stratumlaw07_Facts.l0]; rw [if_neg hlt]) (Ev.step (f := fun _ => some out) (fun k => by simp only [stratumlaw07_Facts.j1]; rw [if_neg (by decide)]) (Ev.now _))
theorem I5 (l : List jP) (hn : l.length ≤ 9223372036854775807) : Ev (fun k => stratumlaw07_Facts.f k l) (uB l) := by
 have := QS l hn 60 0 [] (by omega) (by omega) (by omega) (by simp)
 rw [List.nil_append] at this
 exact this
theorem ZU (v : Int) : 0 ≤ capV v ∧ capV v ≤ 9999 := by unfold capV; omega
theorem vJ (l : List jP) : mV (uB l) = true := by
 unfold mV uB
 simp only [Bool.and_eq_true, decide_eq_true_eq, List.all_eq_true]
 refine ⟨by rw [List.length_map, List.length_take]; omega, fun f hf => ?_⟩
 obtain ⟨g, _, rfl⟩ := List.mem_map.1 hf
 unfold oV PM
 simp only [Bool.and_eq_true, decide_eq_true_eq, List.all_eq_true]
 refine ⟨by rw [List.length_map, List.length_take]; omega, fun v hv => ?_⟩
 obtain ⟨u, _, rfl⟩ := List.mem_map.1 hv
 have := ZU u
 exact ⟨this.1, this.2⟩
def bitB (m i : Int) : Bool := decide (Go.bits .and .u8 (shr .u8 m i) 1 = 1)
def MV (m : Int) : List Int := ([0, 1, 2, 3, 4, 5] : List Int).filter (bitB m)
theorem rD (p : Int → Bool) : ∀ (l : List Int) (last : Int), lT last l = true → lT last (l.filter p) = true
 | [], _, _ => rfl
 | n :: l, last, h => by
  unfold lT at h
  simp only [Bool.and_eq_true, decide_eq_true_eq] at h
  rw [List.filter_cons]
  split
  ·unfold lT
   simp only [Bool.and_eq_true, decide_eq_true_eq]
   exact ⟨⟨h.1.1, h.1.2⟩, rD p l n h.2⟩
  ·have key : ∀ (l : List Int) (a b : Int), a ≤ b → lT b l = true → lT a l = true := by
    intro l
    cases l with
    | nil => intros; rfl
    | cons x l =>
     intro a b hab hb
     unfold lT at hb ⊢
     simp only [Bool.and_eq_true, decide_eq_true_eq] at hb ⊢
     exact ⟨⟨by omega, hb.1.2⟩, hb.2⟩
   exact rD p l last (key l last n (by omega) h.2)
theorem xN (m : Int) : lT (-1) (MV m) = true := rD _ _ _ (by decide)
def PY (l : List Int) : List kG := (l.take 40).map fun v => ⟨Int.tmod (wrap64 v) 10000, Int.tmod (wrap64 v) 6⟩
def entM (last : Int) : List jI → List jI
 | [] => []
 | e :: l => ⟨(last + (1 + Int.tmod e.f0 1000)) % 4294967296, uB e.f1⟩ :: entM ((last + (1 + Int.tmod e.f0 1000)) % 4294967296) l
def uN (l : List jI) : List jI := entM 0 (l.take 50)
def JF (kind id at_ nodes : Int) (facts : List jP) (spans : List Int) (from_ to_ : Int) (entries : List jI) : SRec :=
 let k := (1 + Int.tmod kind 7) % 256
 if k = 1 then ⟨k, id, 0, MV nodes, uB facts, ⟨0, []⟩, 0, 0, []⟩
 else if k = 2 then ⟨k, id, at_, MV nodes, [], ⟨0, []⟩, 0, 0, []⟩
 else if k = 6 then ⟨k, 0, 0, [], [], ⟨at_, PY spans⟩, 0, 0, []⟩
 else if k = 7 then ⟨k, id, 0, [], [], ⟨0, []⟩, Int.tmod (wrap64 from_) 10001, Int.tmod (wrap64 to_) 10001, uN entries⟩
 else ⟨k, id, 0, [], [], ⟨0, []⟩, 0, 0, []⟩
def ZA (r : SRec) : Int × Int × Int × List Int × List jP × Int × List kG × Int × Int × List jI := (r.f0, r.f1, r.f2, r.f3, r.f4, r.f5.f0, r.f5.f1, r.f6, r.f7, r.f8)
theorem TA (l : List Int) (k0 a1 a2 a5 a7 a8 : Int) (d : Nat) : ∀ (i : Int) (acc : List kG), 0 ≤ i → i ≤ 40 → 40 - i = d → (acc.length : Int) ≤ i →
  Ev (fun k => stratumlaw07_Make.l1 k l i k0 a1 a2 a5 acc a7 a8) (k0, a1, a2, [], [], a5, acc ++ ((l.take 40).drop i.toNat).map (fun v => (⟨Int.tmod (wrap64 v) 10000, Int.tmod (wrap64 v) 6⟩ : kG)), a7, a8, []) := by
 induction d with
 | zero =>
  intro i acc h0 h1 hd ho
  rw [List.drop_of_length_le (by rw [List.length_take]; omega), List.map_nil, List.append_nil]
  by_cases hlt : i < (l.length : Int)
  ·exact Ev.step (f := fun _ => some _) (fun k => by simp only [stratumlaw07_Make.l1]; rw [if_pos hlt, if_neg (by omega)]) (Ev.now _)
  ·exact Ev.step (f := fun _ => some _) (fun k => by simp only [stratumlaw07_Make.l1]; rw [if_neg hlt]) (Ev.now _)
 | succ d ih =>
  intro i acc h0 h1 hd ho
  by_cases hlt : i < (l.length : Int)
  ·have hit : i.toNat < (l.take 40).length := by rw [List.length_take]; omega
   have e : (l.take 40).getD i.toNat 0 = rd l i := by
    unfold rd
    rw [List.getD_eq_getElem?_getD, List.getD_eq_getElem?_getD, List.getElem?_take, if_pos (by omega)]
   rw [vM 0 _ i hit h0, List.map_cons, e, List.append_cons]
   exact Ev.step (fun k => by simp only [stratumlaw07_Make.l1]; rw [if_pos hlt, if_pos (by omega), if_pos h0, if_pos (by omega), show wrap64 (i + 1) = i + 1 from by unfold wrap64; omega]) (ih (i + 1) _ (by omega) (by omega) (by omega) (by rw [List.length_append]; simp; omega))
  ·rw [List.drop_of_length_le (by rw [List.length_take]; omega), List.map_nil, List.append_nil]
   exact Ev.step (f := fun _ => some _) (fun k => by simp only [stratumlaw07_Make.l1]; rw [if_neg hlt]) (Ev.now _)
theorem WO (l : List jI) (hf : ∀ e ∈ l, e.f1.length ≤ 9223372036854775807) (k0 a1 a2 a5 a7 a8 : Int) (d : Nat) : ∀ (i last : Int) (acc : List jI), 0 ≤ i → i ≤ 50 → 50 - i = d → (acc.length : Int) ≤ i →
  Ev (fun k => stratumlaw07_Make.l2 k l last i k0 a1 a2 a5 a7 a8 acc) (k0, a1, a2, [], [], a5, [], a7, a8, acc ++ entM last ((l.take 50).drop i.toNat)) := by
 induction d with
 | zero =>
  intro i last acc h0 h1 hd ho
  rw [List.drop_of_length_le (by rw [List.length_take]; omega), entM, List.append_nil]
  by_cases hlt : i < (l.length : Int)
  ·exact Ev.step (f := fun _ => some _) (fun k => by simp only [stratumlaw07_Make.l2]; rw [if_pos hlt, if_neg (by omega)]) (Ev.now _)
  ·exact Ev.step (f := fun _ => some _) (fun k => by simp only [stratumlaw07_Make.l2]; rw [if_neg hlt]) (Ev.now _)
 | succ d ih =>
  intro i last acc h0 h1 hd ho
  by_cases hlt : i < (l.length : Int)
  ·have hit : i.toNat < (l.take 50).length := by rw [List.length_take]; omega
   have e : (l.take 50).getD i.toNat z86 = iU l i := by
    unfold iU
    rw [List.getD_eq_getElem?_getD, List.getD_eq_getElem?_getD, List.getElem?_take, if_pos (by omega)]
   have hm : iU l i ∈ l := by
    unfold iU
    rw [List.getD_eq_getElem?_getD, List.getElem?_eq_getElem (show i.toNat < l.length by omega)]
    exact List.getElem_mem _
   rw [vM z86 _ i hit h0, e, entM, List.append_cons]
   refine Ev.step (f := fun k => (stratumlaw07_Facts.f k (iU l i).f1).bind _) (fun k => by simp only [stratumlaw07_Make.l2]; rw [if_pos hlt, if_pos (by omega), if_pos h0]) (Ev.bind (I5 _ (hf _ hm)) ?_)
   exact Ev.congr (fun k => by rw [if_pos (by omega), show wrap64 (i + 1) = i + 1 from by unfold wrap64; omega]) (ih (i + 1) _ _ (by omega) (by omega) (by omega) (by rw [List.length_append]; simp; omega))
  ·rw [List.drop_of_length_le (by rw [List.length_take]; omega), entM, List.append_nil]
   exact Ev.step (f := fun _ => some _) (fun k => by simp only [stratumlaw07_Make.l2]; rw [if_neg hlt]) (Ev.now _)
theorem WI (kind id at_ nodes : Int) (facts : List jP) (spans : List Int) (from_ to_ : Int) (entries : List jI) (hn : facts.length ≤ 9223372036854775807) (hf : ∀ e ∈ entries, e.f1.length ≤ 9223372036854775807) (d : Nat) : ∀ (i : Int) (acc : List Int), 0 ≤ i → i ≤ 6 → 6 - i = d → (acc.length : Int) ≤ i →
  acc ++ (([0, 1, 2, 3, 4, 5] : List Int).drop i.toNat).filter (bitB nodes) = MV nodes →
  Ev (fun k => stratumlaw07_Make.l0 k at_ nodes facts spans from_ to_ entries acc i ((1 + Int.tmod kind 7) % 256) id 0 0 0 0) (ZA (JF kind id at_ nodes facts spans from_ to_ entries)) := by
 induction d with
 | zero =>
  intro i acc h0 h1 hd ho hacc
  obtain rfl : i = 6 := by omega
  have hacc : acc = MV nodes := by simpa using hacc
  subst hacc
  unfold JF
  simp only
  generalize (1 + Int.tmod kind 7) % 256 = k
  by_cases h1 : k = 1
  ·rw [if_pos h1]
   exact Ev.step (fun k => by simp only [stratumlaw07_Make.l0]; rw [if_neg (by omega), if_pos h1]) (Ev.bind (I5 facts hn) (Ev.now _))
  rw [if_neg h1]
  by_cases h2 : k = 2
  ·rw [if_pos h2]
   exact Ev.step (f := fun _ => some _) (fun k => by simp only [stratumlaw07_Make.l0]; rw [if_neg (by omega), if_neg h1, if_pos h2]; rfl) (Ev.now _)
  rw [if_neg h2]
  by_cases h6 : k = 6
  ·rw [if_pos h6]
   have := TA spans k 0 0 at_ 0 0 40 0 [] (by omega) (by omega) (by omega) (by simp)
   exact Ev.step (fun k => by simp only [stratumlaw07_Make.l0]; rw [if_neg (by omega), if_neg h1, if_neg h2, if_pos h6]) this
  rw [if_neg h6]
  by_cases h7 : k = 7
  ·rw [if_pos h7]
   have := WO entries hf k id 0 0 (Int.tmod (wrap64 from_) 10001) (Int.tmod (wrap64 to_) 10001) 50 0 0 [] (by omega) (by omega) (by omega) (by simp)
   exact Ev.step (fun k => by simp only [stratumlaw07_Make.l0]; rw [if_neg (by omega), if_neg h1, if_neg h2, if_neg h6, if_pos h7]) this
  rw [if_neg h7]
  exact Ev.step (f := fun _ => some _) (fun k => by simp only [stratumlaw07_Make.l0]; rw [if_neg (by omega), if_neg h1, if_neg h2, if_neg h6, if_neg h7]; rfl) (Ev.now _)
 | succ d ih =>
  intro i acc h0 h1 hd ho hacc
  have hw : IntKind.u64.wrap i = i := by show i % 18446744073709551616 = i; omega
  have hit : i.toNat < ([0, 1, 2, 3, 4, 5] : List Int).length := by simp; omega
  have e : ([0, 1, 2, 3, 4, 5] : List Int).getD i.toNat 0 = i := by
   have h6 : i = 0 ∨ i = 1 ∨ i = 2 ∨ i = 3 ∨ i = 4 ∨ i = 5 := by omega
   rcases h6 with rfl | rfl | rfl | rfl | rfl | rfl <;> rfl
  rw [vM 0 _ i hit h0, e, List.filter_cons] at hacc
  have hs : wrap64 (i + 1) = i + 1 := by unfold wrap64; omega
  by_cases hb : Go.bits .and .u8 (shr .u8 nodes i) 1 = 1
  ·rw [if_pos (by unfold bitB; exact decide_eq_true hb), List.append_cons] at hacc
   exact Ev.step (fun k => by simp only [stratumlaw07_Make.l0]; rw [if_pos (by omega), hw, if_pos h0, if_pos hb, if_pos (by omega), hs]) (ih (i + 1) _ (by omega) (by omega) (by omega) (by rw [List.length_append]; simp; omega) hacc)
  ·rw [if_neg (by unfold bitB; rw [decide_eq_false hb]; decide)] at hacc
   exact Ev.step (fun k => by simp only [stratumlaw07_Make.l0]; rw [if_pos (by omega), hw, if_pos h0, if_neg hb, hs]) (ih (i + 1) _ (by omega) (by omega) (by omega) (by omega) hacc)
theorem j09 (kind id at_ nodes : Int) (facts : List jP) (spans : List Int) (from_ to_ : Int) (entries : List jI) (hn : facts.length ≤ 9223372036854775807) (hf : ∀ e ∈ entries, e.f1.length ≤ 9223372036854775807) :
  Ev (fun k => stratumlaw07_Make.f k kind id at_ nodes facts spans from_ to_ entries) (ZA (JF kind id at_ nodes facts spans from_ to_ entries)) :=
 WI kind id at_ nodes facts spans from_ to_ entries hn hf 6 0 [] (by omega) (by omega) (by omega) (by simp) rfl
theorem xJ : ∀ (l : List jI) (last : Int) (p : Option Int), 0 ≤ last → last + 1000 * (l.length : Int) < 4294967296 → (∀ e ∈ l, 0 ≤ e.f0) → (∀ q, p = some q → q ≤ last) → oQ p (entM last l) = true
 | [], _, _, _, _, _, _ => rfl
 | e :: l, last, p, h0, h1, he, hp => by
  have hb := he e List.mem_cons_self
  have ht : Int.tmod e.f0 1000 = e.f0 % 1000 := Int.tmod_eq_emod_of_nonneg hb
  rw [List.length_cons] at h1
  have hm : (last + (1 + Int.tmod e.f0 1000)) % 4294967296 = last + (1 + e.f0 % 1000) := by rw [ht]; omega
  rw [entM, uS, hm]
  simp only [Bool.and_eq_true]
  refine ⟨⟨vJ _, ?_⟩, xJ l _ _ (by omega) (by omega) (fun x hx => he x (List.mem_cons_of_mem _ hx)) (fun q hq => by injection hq with hq; omega)⟩
  cases p with
  | none => rfl
  | some q =>
   have := hp q rfl
   unfold gapB
   simp only [decide_eq_true_eq]
   omega
theorem PU : ∀ (l : List jI) (last : Int), (entM last l).length = l.length
 | [], _ => rfl
 | e :: l, last => by rw [entM, List.length_cons, List.length_cons, PU]
theorem yZ {a b : Int} (h : 0 ≤ a) : Int.tmod a b = a % b := Int.tmod_eq_emod_of_nonneg h
theorem UD (l : List Int) (h : ∀ v ∈ l, 0 ≤ v ∧ v < 65536) : (PY l).all oK = true ∧ (PY l).length ≤ 40 := by
 refine ⟨?_, by unfold PY; rw [List.length_map, List.length_take]; omega⟩
 rw [List.all_eq_true]
 intro s hs
 obtain ⟨v, hv, rfl⟩ := List.mem_map.1 hs
 have hb := h v (List.mem_of_mem_take hv)
 have hw : wrap64 v = v := by unfold wrap64; omega
 unfold oK
 rw [hw, yZ hb.1, yZ hb.1]
 simp only [Bool.and_eq_true, decide_eq_true_eq]
 omega
theorem RU (kind id at_ nodes : Int) (facts : List jP) (spans : List Int) (from_ to_ : Int) (entries : List jI) (hk : 0 ≤ kind) (hs : ∀ v ∈ spans, 0 ≤ v ∧ v < 65536) (hfr : 0 ≤ from_ ∧ from_ < 65536) (hto : 0 ≤ to_ ∧ to_ < 65536) (he : ∀ e ∈ entries, 0 ≤ e.f0) :
  kC (JF kind id at_ nodes facts spans from_ to_ entries) = true := by
 have hkk : 1 ≤ (1 + Int.tmod kind 7) % 256 ∧ (1 + Int.tmod kind 7) % 256 ≤ 7 := by rw [yZ hk]; omega
 unfold JF
 simp only
 generalize (1 + Int.tmod kind 7) % 256 = k at hkk
 by_cases h1 : k = 1
 ·rw [if_pos h1]
  unfold kC
  simp only [h1, if_true, xN, vJ]
  rfl
 rw [if_neg h1]
 by_cases h2 : k = 2
 ·rw [if_pos h2]
  unfold kC
  simp only [h2, xN, show ¬ (2 : Int) = 1 from by decide, if_true, if_false]
  rfl
 rw [if_neg h2]
 by_cases h6 : k = 6
 ·rw [if_pos h6]
  have := UD spans hs
  unfold kC
  simp only [h6, this.1, show ¬ (6 : Int) = 1 from by decide, show ¬ (6 : Int) = 2 from by decide, if_true, if_false, show (decide ((6 : Int) = 3) || decide ((6 : Int) = 4) || decide ((6 : Int) = 5)) = false from by decide, Bool.false_eq_true, decide_eq_true this.2]
  rfl
 rw [if_neg h6]
 by_cases h7 : k = 7
 ·rw [if_pos h7]
  have hw1 : wrap64 from_ = from_ := by unfold wrap64; omega
  have hw2 : wrap64 to_ = to_ := by unfold wrap64; omega
  have hh : nS (uN entries) = true := by
   unfold nS uN
   exact xJ _ 0 none (by omega) (by rw [List.length_take]; omega) (fun e hh => he e (List.mem_of_mem_take hh)) (fun q hq => by cases hq)
  have hl : (uN entries).length ≤ 5000 := by unfold uN; rw [PU, List.length_take]; omega
  rw [hw1, hw2, yZ hfr.1, yZ hto.1]
  unfold kC
  simp only [h7, hh, show ¬ (7 : Int) = 1 from by decide, show ¬ (7 : Int) = 2 from by decide, show ¬ (7 : Int) = 6 from by decide, if_true, if_false, show (decide ((7 : Int) = 3) || decide ((7 : Int) = 4) || decide ((7 : Int) = 5)) = false from by decide, Bool.false_eq_true, decide_eq_true hl]
  simp
  omega
 rw [if_neg h7]
 have h345 : (decide (k = 3) || decide (k = 4) || decide (k = 5)) = true := by simp; omega
 unfold kC
 simp only [h1, h2, h345, if_true, if_false]
 rfl
end Go.Proofs.YtgfkgppomaapiaaDoor.K
end

section
namespace Go.Proofs.YtgfkgppomaapiaaDoor.K
open Go.RowKit Go.Proofs.YtgfkgppomaapiaaDoorW.PrintWords Go.Proofs.YtgfkgppomaapiaaDoorW.PrintLast Go.Proofs.YtgfkgppomaapiaaDoorW.PrintMore
attribute [local go_sem] kF kD kN kM
def stratumref07_SameInts.l0 : Nat → List Int → List Int → Int → Option (Bool)
 | 0, _, _, _ => none
 | k + 1, x0, x1, x5 => if x5 < (x0.length : Int) then (if 0 ≤ x5 then (if x5 < (x1.length : Int) then (if (rd x0 x5) = (rd x1 x5) then (stratumref07_SameInts.l0 k x0 x1 (wrap64 (x5 + 1))) else (some false)) else (none)) else (none)) else (some true)
def stratumref07_SameInts.f (k : Nat) (l0 : List Int) (l1 : List Int) : Option (Bool) := if (l0.length : Int) = (l1.length : Int) then (stratumref07_SameInts.l0 k l0 l1 0) else (some false)
set_option maxHeartbeats 8000000 in
set_option maxRecDepth 100000 in
theorem stratumref07_SameInts.calls (k : Nat) (A0 : Option Addr) (c0 : Nat) (l0 : List Int) (A1 : Option Addr) (c1 : Nat) (l1 : List Int) (r : Bool) (w : World) (hr0 : Kd.C (Kd.int .i64) w A0 l0.length l0) (hc0 : l0.length ≤ c0) (hr1 : Kd.C (Kd.int .i64) w A1 l1.length l1) (hc1 : l1.length ≤ c1) (h : stratumref07_SameInts.f k l0 l1 = some r) :
  Calls Tryd.prog 35 #[.slice A0 l0.length c0, .slice A1 l1.length c1] w fun e w' => e = .returned (.bool r) ∧ kE w w' := by
 have HR0 := iC.mk hr0
 have HC0 := iC.mk hc0
 clear hr0 hc0
 have HR1 := iC.mk hr1
 have HC1 := iC.mk hc1
 clear hr1 hc1
 have H : (if (l0.length : Int) = (l1.length : Int) then (stratumref07_SameInts.l0 k l0 l1 0) else (some false)) = some r := h
 clear h
 by_cases c3 : (l0.length : Int) = (l1.length : Int)
 ·rw [if_pos c3] at H
  have c3b0 : ((l0.length : Int) == (l1.length : Int)) = true := beq_iff_eq.mpr c3
  have c3b1 : ((l0.length : Int) != (l1.length : Int)) = false := bne_eq_false_iff_eq.mpr c3
  have c3b2 : (l0.length == l1.length) = true := by first | simpa using c3 | (simp at c3 ⊢; omega)
  clear c3
  have H' := iC.mk H
  clear H
  go_enter Tryd.func35, Tryd.ntmps35
  go_wp2
  repeat (go_quiet (fail); try go_wp2)
  go_loopg [5] k (fun kq v5 w' => ∃ (x5_1 : Int), v5 = .int .i64 x5_1 ∧ iC (stratumref07_SameInts.l0 kq l0 l1 x5_1 = some r) ∧ iC (kq ≤ k) ∧ kE w w')
  case atStart => exact ⟨(0), (by first | rfl | (simp; done) | (simp [*]; done)), H', ⟨Nat.le_refl _⟩, by repeat (first | exact kE.refl _ | apply kE.step)⟩
  case round =>
   clear H'
   try clear c1
   try clear p2
   try clear c3
   try clear c3b0
   try clear c3b1
   try clear c3b2
   obtain ⟨x5_1, rfl, HA, HK1, ⟨m1, rfl⟩⟩ := hrel
   cases gk with
   | zero => exact absurd HA.out (by simp [stratumref07_SameInts.l0])
   | succ k1 =>
    have H := HA.out
    clear HA
    simp only [stratumref07_SameInts.l0] at H
    by_cases c4 : x5_1 < (l0.length : Int)
    ·rw [if_pos c4] at H
     have c4b0 : decide (x5_1 < (l0.length : Int)) = true := decide_eq_true c4
     clear c4
     by_cases c5 : 0 ≤ x5_1
     ·rw [if_pos c5] at H
      have c5b0 : decide (0 ≤ x5_1) = true := decide_eq_true c5
      clear c5
      by_cases c6 : x5_1 < (l1.length : Int)
      ·rw [if_pos c6] at H
       have c6b0 : decide (x5_1 < (l1.length : Int)) = true := decide_eq_true c6
       clear c6
       by_cases c7 : (rd l0 x5_1) = (rd l1 x5_1)
       ·rw [if_pos c7] at H
        have c7b0 : ((rd l0 x5_1) == (rd l1 x5_1)) = true := beq_iff_eq.mpr c7
        have c7b1 : ((rd l0 x5_1) != (rd l1 x5_1)) = false := bne_eq_false_iff_eq.mpr c7
        clear c7
        have H' := iC.mk H
        clear H
        have p208 : 0 ≤ (x5_1 : Int) := of_decide_eq_true asm_
        have q208 : x5_1 < (l0.length : Int) := of_decide_eq_true asm_
        obtain ⟨ad208, e208, hx208_0⟩ := Kd.at_int HR0.out x5_1 p208 q208
        cases e208
        replace p208 := eq_true p208
        replace q208 := eq_true q208
        have p209 : 0 ≤ (x5_1 : Int) := of_decide_eq_true asm_
        have q209 : x5_1 < (l1.length : Int) := of_decide_eq_true asm_
        obtain ⟨ad209, e209, hx209_0⟩ := Kd.at_int HR1.out x5_1 p209 q209
        cases e209
        replace p209 := eq_true p209
        replace q209 := eq_true q209
        go_wp2
        repeat (go_quiet (fail); try go_wp2)
        go_roundg k1
        case measure => have := HK1.out; omega
        case rel => exact ⟨(wrap64 (x5_1 + 1)), (by first | rfl | (simp; done) | (simp [*]; done)), H', ⟨by have := HK1.out; omega⟩, by repeat (first | exact kE.refl _ | apply kE.step)⟩
       ·rw [if_neg c7] at H
        have c7b0 : ((rd l0 x5_1) == (rd l1 x5_1)) = false := beq_eq_false_iff_ne.mpr c7
        have c7b1 : ((rd l0 x5_1) != (rd l1 x5_1)) = true := bne_iff_ne.mpr c7
        obtain rfl := Option.some.inj H
        have p208 : 0 ≤ (x5_1 : Int) := of_decide_eq_true asm_
        have q208 : x5_1 < (l0.length : Int) := of_decide_eq_true asm_
        obtain ⟨ad208, e208, hx208_0⟩ := Kd.at_int HR0.out x5_1 p208 q208
        cases e208
        replace p208 := eq_true p208
        replace q208 := eq_true q208
        have p209 : 0 ≤ (x5_1 : Int) := of_decide_eq_true asm_
        have q209 : x5_1 < (l1.length : Int) := of_decide_eq_true asm_
        obtain ⟨ad209, e209, hx209_0⟩ := Kd.at_int HR1.out x5_1 p209 q209
        cases e209
        replace p209 := eq_true p209
        replace q209 := eq_true q209
        go_wp2
        repeat (go_quiet (fail); try go_wp2)
        go_ret
        exact ⟨by first | rfl | (simp; done) | (simp [*]; done), by repeat (first | exact kE.refl _ | apply kE.step)⟩
      ·rw [if_neg c6] at H
       exact absurd H (by simp)
     ·rw [if_neg c5] at H
      exact absurd H (by simp)
    ·rw [if_neg c4] at H
     have c4b0 : decide (x5_1 < (l0.length : Int)) = false := decide_eq_false c4
     clear c4
     obtain rfl := Option.some.inj H
     go_wp2
     repeat (go_quiet (fail); try go_wp2)
     go_ret
     exact ⟨by first | rfl | (simp; done) | (simp [*]; done), by repeat (first | exact kE.refl _ | apply kE.step)⟩
 ·rw [if_neg c3] at H
  have c3b0 : ((l0.length : Int) == (l1.length : Int)) = false := beq_eq_false_iff_ne.mpr c3
  have c3b1 : ((l0.length : Int) != (l1.length : Int)) = true := bne_iff_ne.mpr c3
  have c3b2 : (l0.length == l1.length) = false := by first | simpa using c3 | (simp at c3 ⊢; omega)
  obtain rfl := Option.some.inj H
  go_enter Tryd.func35, Tryd.ntmps35
  go_wp2
  repeat (go_quiet (fail); try go_wp2)
  go_ret
  exact ⟨by first | rfl | (simp; done) | (simp [*]; done), by repeat (first | exact kE.refl _ | apply kE.step)⟩
end Go.Proofs.YtgfkgppomaapiaaDoor.K
end

section
namespace Go.Proofs.YtgfkgppomaapiaaDoor.K
open Go.RowKit Go.Proofs.YtgfkgppomaapiaaDoorW.PrintWords Go.Proofs.YtgfkgppomaapiaaDoorW.PrintLast Go.Proofs.YtgfkgppomaapiaaDoorW.PrintMore
attribute [local go_sem] kF kD kN kM
def stratumref07_SameFacts.f (k : Nat) (l0 : List (S139)) (l1 : List (S139)) : Option (Bool) := (stratumref07_Facts.f k ([] : List Int) l0).bind fun t210 => ((stratumref07_Facts.f k ([] : List Int) l1).bind fun t213 => (some ((strOfNums t210).toList == (strOfNums t213).toList)))
def stratumref07_SameFacts.T1 : Bool × List (List Nat × List Nat) := (true, [([], []), ([0], [0]), ([1], [1]), ([], []), ([3, 1], [3]), ([4], [4]), ([2, 5], [2, 5]), ([6, 4, 0, 1, 2, 3, 4, 5, 6], [6])])
def stratumref07_SameFacts.B1 : List Nat := [0, 1, 3, 0, 11, 27, 63, 127]
theorem stratumref07_SameFacts.tab1 : rtab .any (opsOf Tryd.f76 1) = stratumref07_SameFacts.T1 := by kernel_rfl
theorem stratumref07_SameFacts.bits1 : lX stratumref07_SameFacts.T1.2 stratumref07_SameFacts.B1 = true := by kernel_rfl
set_option maxHeartbeats 8000000 in
set_option maxRecDepth 100000 in
theorem stratumref07_SameFacts.calls (k : Nat) (A0 : Option Addr) (c0 : Nat) (l0 : List (S139)) (A1 : Option Addr) (c1 : Nat) (l1 : List (S139)) (r : Bool) (w : World) (hr0 : Kd.C k139 w A0 l0.length l0) (hc0 : l0.length ≤ c0) (hr1 : Kd.C k139 w A1 l1.length l1) (hc1 : l1.length ≤ c1) (h : stratumref07_SameFacts.f k l0 l1 = some r) :
  Calls Tryd.prog 76 #[.slice A0 l0.length c0, .slice A1 l1.length c1] w fun e w' => e = .returned (.bool r) ∧ Below w.heap.size w w' := by
 have HR0 := iC.mk hr0
 have HC0 := iC.mk hc0
 clear hr0 hc0
 have HR1 := iC.mk hr1
 have HC1 := iC.mk hc1
 clear hr1 hc1
 have HB := iC.mk (Below.refl w.heap.size w)
 have H : ((stratumref07_Facts.f k ([] : List Int) l0).bind fun t210 => ((stratumref07_Facts.f k ([] : List Int) l1).bind fun t213 => (some ((strOfNums t210).toList == (strOfNums t213).toList)))) = some r := h
 clear h
 replace H := Option.bind_eq_some_iff.mp H
 obtain ⟨t210, A30, H⟩ := H
 replace H : ((stratumref07_Facts.f k ([] : List Int) l1).bind fun t213 => (some ((strOfNums t210).toList == (strOfNums t213).toList))) = some r := H
 have A3 := iC.mk A30
 clear A30
 replace H := Option.bind_eq_some_iff.mp H
 obtain ⟨t213, A40, H⟩ := H
 replace H : (some ((strOfNums t210).toList == (strOfNums t213).toList)) = some r := H
 have A4 := iC.mk A40
 clear A40
 obtain rfl := Option.some.inj H
 go_enter Tryd.func76, Tryd.ntmps76
 try go_wp2
 have n0_ := iC.mk (iJ HB.out)
 clear HB
 have HB := n0_
 clear n0_
 refine qY (n := 8) (S := fun w' => True) (ds := []) #[false, false, false, false, false, false, false, false] (by kernel_rfl) rfl rfl trivial (fun hHeld => ?_); refine mZ stratumref07_SameFacts.tab1 stratumref07_SameFacts.bits1 (fun HT_ HW_ => ?_)
 generalize w.drew = w5 at HB hHeld ⊢
 refine jL (i := 0) (N := some 5) (v := ?_) (a' := ?_) #[true, false, false, false, false, false, false, false] rfl rfl (jF HT_.out (by kernel_rfl)) (fun _ _ _ h => h) (Or.inl ⟨by rfl, ?_⟩) ?_ ?_
 rotate_left
 ·intro w'
  go_simp
  with_reducible rfl
 rotate_left
 ·simp only [Act.put, List.setIfInBounds_toArray, List.set_cons_zero, List.set_cons_succ, iR, jG]
  rfl
 refine jL (i := 3) (N := some 8) (v := ?_) (a' := ?_) #[true, false, false, true, false, false, false, false] rfl rfl (jF HT_.out (by kernel_rfl)) (fun _ _ _ h => h) (Or.inl ⟨by rfl, ?_⟩) ?_ ?_
 rotate_left
 ·intro w'
  go_simp
  with_reducible rfl
 rotate_left
 ·simp only [Act.put, List.setIfInBounds_toArray, List.set_cons_zero, List.set_cons_succ, iR, jG]
  rfl
 refine one_ (i := 1) (N := some 6) #[true, true, false, true, false, false, false, false] rfl rfl (lW HT_.out (by kernel_rfl)) (by decide) (fun K hK => ?_)
 refine qC Tryd.func59 (by kernel_rfl) rfl #[.slice none 0 0, .slice A0 l0.length c0] (by rfl) rfl rfl (by (try simp only [List.map_toArray, List.map_cons, List.map_nil]); first | done | rfl | (simp only [List.length_drop, List.length_take]; rfl)) ?_
 refine (stratumref07_Facts.calls k (fun k_ => some k_ = (.slice none 0 0 : Value).ownBlock) (.slice none 0 0) ([] : List Int) _ _ l0 t210 w _ ?side1 ?side2 ?side3 ?side4 A3.out).mono ?_
 (case side1 => repeat (first | (with_reducible first | exact HB.out | apply iG | apply iF | apply iJ) | exact HB.out))
 (case side2 => exact Kd.R_nil _ _ _ _ _)
 (case side3 => exact Kd.C_kept_came uT HR0.out hb_ (fun k_ hs_ => (fun e_ => by simp [Value.ownBlock] at e_) hs_))
 (case side4 => exact HC0.out)
 rintro e w6 ⟨v211, rfl, ho0, hb, hkp⟩
 refine ⟨_, rfl, ?_⟩
 have n0_ := iC.mk (Kd.R_mono (ok' := fun k_ => True) ho0 (fun k_ hk_ => trivial))
 have n1_ := iC.mk (hb)
 clear HB
 have HO212 := n0_
 have HB := n1_
 clear n0_ n1_
 (try clear hb)
 (try clear hkp)
 (try clear ho0)
 refine hK.out _ _ trivial (fun hHeld => ?_)
 clear hK K
 refine lN (a' := ?_) ?_ ?_
 rotate_left
 ·show Act.put _ (some 6) _ = _
  simp only [Act.put, List.setIfInBounds_toArray, List.set_cons_zero, List.set_cons_succ, iR, jG]
  rfl
 refine jb7 (σ := Value) 2 #[true, true, true, true, true, true, false, false] (fun s_ => [(7, .string (strOfNums t210)), (9, s_), (10, .string (strOfNums t213))]) (fun s_ w' => (Kd.R (Kd.int .u8) 5 w' w.heap.size (fun k_ => some k_ ≠ (s_ : Value).ownBlock) v211 t210) ∧ (Kd.R (Kd.int .u8) 5 w' w.heap.size (fun k_ => some k_ ≠ (v211 : Value).ownBlock) s_ t213) ∧ (Below w.heap.size w w')) ?_ ?_
 rotate_left
 ·intro hCont
  refine two_ (i := 2) (j := 4) (Ni := some 7) (Nj := some 9) #[true, true, true, true, false, false, false, false] #[true, true, false, true, true, false, false, false] rfl rfl rfl rfl (P7 HT_.out (by kernel_rfl)) (by decide) (by decide) (fun K hK => ?_) (fun K hK => ?_)
  ·skip
   have hcv7 := kZ (P := Tryd.prog) Tryd.underlying33 Tryd.underlying5 Tryd.underlying9 (Kd.own_of_R HO212.out)
   refine jH (w1 := ?_) (v := ?_) (by rfl) rfl ?_ ?_
   rotate_left 2
   ·go_simp
    constructor
    ·rfl
    ·rfl
   clear hcv7
   refine hK.out _ _ trivial (fun hHeld => ?_)
   clear hK K
   refine lN (a' := ?_) ?_ ?_
   rotate_left
   ·show Act.put _ (some 7) _ = _
    simp only [Act.put, List.setIfInBounds_toArray, List.set_cons_zero, List.set_cons_succ, iR, jG]
    rfl
   refine one_ (i := 4) (N := some 9) #[true, true, true, true, true, false, false, false] rfl rfl (lW HT_.out (by kernel_rfl)) (by decide) (fun K hK => ?_)
   refine qC Tryd.func59 (by kernel_rfl) rfl #[.slice none 0 0, .slice A1 l1.length c1] (by rfl) rfl rfl (by (try simp only [List.map_toArray, List.map_cons, List.map_nil]); first | done | rfl | (simp only [List.length_drop, List.length_take]; rfl)) ?_
   refine (stratumref07_Facts.calls k (fun k_ => some k_ = (.slice none 0 0 : Value).ownBlock) (.slice none 0 0) ([] : List Int) _ _ l1 t213 w _ ?side1 ?side2 ?side3 ?side4 A4.out).mono ?_
   (case side1 => repeat (first | (with_reducible first | exact HB.out | apply iG | apply iF | apply iJ) | exact HB.out))
   (case side2 => exact Kd.R_nil _ _ _ _ _)
   (case side3 => exact Kd.C_kept_came uT HR1.out hb_ (fun k_ hs_ => (fun e_ => by simp [Value.ownBlock] at e_) hs_))
   (case side4 => exact HC1.out)
   rintro e w8 ⟨v214, rfl, ho0, hb, hkp⟩
   refine ⟨_, rfl, ?_⟩
   have n0_ := iC.mk (Kd.R_mono (ok' := fun k_ => some k_ ≠ (v214 : Value).ownBlock) (Kd.R_keptB (HO212.out) hkp (fun k_ hk_ hs_ => (fun e_ => by simp [Value.ownBlock] at e_) hs_)) (fun k_ hk_ => fun e_ => Or.elim (ho0.1 k_ e_.symm) (fun hs_ => hk_.2.1 hs_) (fun hn_ => Nat.not_le.2 hk_.2.2 hn_)))
   have n1_ := iC.mk (Kd.R_mono (ok' := fun k_ => some k_ ≠ (v211 : Value).ownBlock) ho0 (fun k_ hk_ => Or.elim hk_ (fun hs_ => absurd hs_ (by simp [Value.ownBlock])) (fun hn_ => (Kd.fresh' (Kd.R_lt (by (with_reducible repeat (first | apply Kd.R_alloc | apply Kd.R_drewN | apply Kd.R_drew)); exact HO212.out)) k_ hn_))))
   have n2_ := iC.mk (hb)
   clear HO212
   clear HB
   have HO212 := n0_
   have HO215 := n1_
   have HB := n2_
   clear n0_ n1_ n2_
   (try clear hb)
   (try clear hkp)
   (try clear ho0)
   refine hK.out _ _ trivial (fun hHeld => ?_)
   clear hK K
   refine lN (a' := ?_) ?_ ?_
   rotate_left
   ·show Act.put _ (some 9) _ = _
    simp only [Act.put, List.setIfInBounds_toArray, List.set_cons_zero, List.set_cons_succ, iR, jG]
    rfl
   refine one_ (i := 5) (N := some 10) #[true, true, true, true, true, true, false, false] rfl rfl (lW HT_.out (by kernel_rfl)) (by decide) (fun K hK => ?_)
   have hcv9 := kZ (P := Tryd.prog) Tryd.underlying33 Tryd.underlying5 Tryd.underlying9 (Kd.own_of_R HO215.out)
   refine jH (w1 := ?_) (v := ?_) (by rfl) rfl ?_ ?_
   rotate_left 2
   ·go_simp
    constructor
    ·rfl
    ·rfl
   clear hcv9
   refine hK.out _ _ trivial (fun hHeld => ?_)
   clear hK K
   refine lN (a' := ?_) ?_ ?_
   rotate_left
   ·show Act.put _ (some 10) _ = _
    simp only [Act.put, List.setIfInBounds_toArray, List.set_cons_zero, List.set_cons_succ, iR, jG]
    rfl
   exact lN (by simp only [qZ, Act.put, List.setIfInBounds_toArray, List.set_cons_zero, List.set_cons_succ]) (hCont (v214) _ ⟨(by (with_reducible repeat (first | apply Kd.R_alloc | apply Kd.R_drewN | apply Kd.R_drew)); exact HO212.out), (by (with_reducible repeat (first | apply Kd.R_alloc | apply Kd.R_drewN | apply Kd.R_drew)); exact HO215.out), hb_⟩)
  ·skip
   refine qC Tryd.func59 (by kernel_rfl) rfl #[.slice none 0 0, .slice A1 l1.length c1] (by rfl) rfl rfl (by (try simp only [List.map_toArray, List.map_cons, List.map_nil]); first | done | rfl | (simp only [List.length_drop, List.length_take]; rfl)) ?_
   refine (stratumref07_Facts.calls k (fun k_ => some k_ = (.slice none 0 0 : Value).ownBlock) (.slice none 0 0) ([] : List Int) _ _ l1 t213 w _ ?side1 ?side2 ?side3 ?side4 A4.out).mono ?_
   (case side1 => repeat (first | (with_reducible first | exact HB.out | apply iG | apply iF | apply iJ) | exact HB.out))
   (case side2 => exact Kd.R_nil _ _ _ _ _)
   (case side3 => exact Kd.C_kept_came uT HR1.out hb_ (fun k_ hs_ => (fun e_ => by simp [Value.ownBlock] at e_) hs_))
   (case side4 => exact HC1.out)
   rintro e w7 ⟨v214, rfl, ho0, hb, hkp⟩
   refine ⟨_, rfl, ?_⟩
   have n0_ := iC.mk (Kd.R_mono (ok' := fun k_ => some k_ ≠ (v214 : Value).ownBlock) (Kd.R_keptB (HO212.out) hkp (fun k_ hk_ hs_ => (fun e_ => by simp [Value.ownBlock] at e_) hs_)) (fun k_ hk_ => fun e_ => Or.elim (ho0.1 k_ e_.symm) (fun hs_ => hk_.2.1 hs_) (fun hn_ => Nat.not_le.2 hk_.2.2 hn_)))
   have n1_ := iC.mk (Kd.R_mono (ok' := fun k_ => some k_ ≠ (v211 : Value).ownBlock) ho0 (fun k_ hk_ => Or.elim hk_ (fun hs_ => absurd hs_ (by simp [Value.ownBlock])) (fun hn_ => (Kd.fresh' (Kd.R_lt (by (with_reducible repeat (first | apply Kd.R_alloc | apply Kd.R_drewN | apply Kd.R_drew)); exact HO212.out)) k_ hn_))))
   have n2_ := iC.mk (hb)
   clear HO212
   clear HB
   have HO212 := n0_
   have HO215 := n1_
   have HB := n2_
   clear n0_ n1_ n2_
   (try clear hb)
   (try clear hkp)
   (try clear ho0)
   refine hK.out _ _ trivial (fun hHeld => ?_)
   clear hK K
   refine lN (a' := ?_) ?_ ?_
   rotate_left
   ·show Act.put _ (some 9) _ = _
    simp only [Act.put, List.setIfInBounds_toArray, List.set_cons_zero, List.set_cons_succ, iR, jG]
    rfl
   refine two_ (i := 2) (j := 5) (Ni := some 7) (Nj := some 10) #[true, true, true, true, true, false, false, false] #[true, true, false, true, true, true, false, false] rfl rfl rfl rfl (P7 HT_.out (by kernel_rfl)) (by decide) (by decide) (fun K hK => ?_) (fun K hK => ?_)
   ·skip
    have hcv8 := kZ (P := Tryd.prog) Tryd.underlying33 Tryd.underlying5 Tryd.underlying9 (Kd.own_of_R HO212.out)
    refine jH (w1 := ?_) (v := ?_) (by rfl) rfl ?_ ?_
    rotate_left 2
    ·go_simp
     constructor
     ·rfl
     ·rfl
    clear hcv8
    refine hK.out _ _ trivial (fun hHeld => ?_)
    clear hK K
    refine lN (a' := ?_) ?_ ?_
    rotate_left
    ·show Act.put _ (some 7) _ = _
     simp only [Act.put, List.setIfInBounds_toArray, List.set_cons_zero, List.set_cons_succ, iR, jG]
     rfl
    refine one_ (i := 5) (N := some 10) #[true, true, true, true, true, true, false, false] rfl rfl (lW HT_.out (by kernel_rfl)) (by decide) (fun K hK => ?_)
    have hcv9 := kZ (P := Tryd.prog) Tryd.underlying33 Tryd.underlying5 Tryd.underlying9 (Kd.own_of_R HO215.out)
    refine jH (w1 := ?_) (v := ?_) (by rfl) rfl ?_ ?_
    rotate_left 2
    ·go_simp
     constructor
     ·rfl
     ·rfl
    clear hcv9
    refine hK.out _ _ trivial (fun hHeld => ?_)
    clear hK K
    refine lN (a' := ?_) ?_ ?_
    rotate_left
    ·show Act.put _ (some 10) _ = _
     simp only [Act.put, List.setIfInBounds_toArray, List.set_cons_zero, List.set_cons_succ, iR, jG]
     rfl
    exact lN (by simp only [qZ, Act.put, List.setIfInBounds_toArray, List.set_cons_zero, List.set_cons_succ]) (hCont (v214) _ ⟨(by (with_reducible repeat (first | apply Kd.R_alloc | apply Kd.R_drewN | apply Kd.R_drew)); exact HO212.out), (by (with_reducible repeat (first | apply Kd.R_alloc | apply Kd.R_drewN | apply Kd.R_drew)); exact HO215.out), hb_⟩)
   ·skip
    have hcv8 := kZ (P := Tryd.prog) Tryd.underlying33 Tryd.underlying5 Tryd.underlying9 (Kd.own_of_R HO215.out)
    refine jH (w1 := ?_) (v := ?_) (by rfl) rfl ?_ ?_
    rotate_left 2
    ·go_simp
     constructor
     ·rfl
     ·rfl
    clear hcv8
    refine hK.out _ _ trivial (fun hHeld => ?_)
    clear hK K
    refine lN (a' := ?_) ?_ ?_
    rotate_left
    ·show Act.put _ (some 10) _ = _
     simp only [Act.put, List.setIfInBounds_toArray, List.set_cons_zero, List.set_cons_succ, iR, jG]
     rfl
    refine one_ (i := 2) (N := some 7) #[true, true, true, true, true, true, false, false] rfl rfl (lW HT_.out (by kernel_rfl)) (by decide) (fun K hK => ?_)
    have hcv9 := kZ (P := Tryd.prog) Tryd.underlying33 Tryd.underlying5 Tryd.underlying9 (Kd.own_of_R HO212.out)
    refine jH (w1 := ?_) (v := ?_) (by rfl) rfl ?_ ?_
    rotate_left 2
    ·go_simp
     constructor
     ·rfl
     ·rfl
    clear hcv9
    refine hK.out _ _ trivial (fun hHeld => ?_)
    clear hK K
    refine lN (a' := ?_) ?_ ?_
    rotate_left
    ·show Act.put _ (some 7) _ = _
     simp only [Act.put, List.setIfInBounds_toArray, List.set_cons_zero, List.set_cons_succ, iR, jG]
     rfl
    exact lN (by simp only [qZ, Act.put, List.setIfInBounds_toArray, List.set_cons_zero, List.set_cons_succ]) (hCont (v214) _ ⟨(by (with_reducible repeat (first | apply Kd.R_alloc | apply Kd.R_drewN | apply Kd.R_drew)); exact HO212.out), (by (with_reducible repeat (first | apply Kd.R_alloc | apply Kd.R_drewN | apply Kd.R_drew)); exact HO215.out), hb_⟩)
 rintro v214 w10 ⟨h0_, h1_, h2_⟩
 have n0_ : iC (Kd.R (Kd.int .u8) 5 w10 w.heap.size (fun k_ => some k_ ≠ (v214 : Value).ownBlock) v211 t210) := ⟨h0_⟩
 have n1_ : iC (Kd.R (Kd.int .u8) 5 w10 w.heap.size (fun k_ => some k_ ≠ (v211 : Value).ownBlock) v214 t213) := ⟨h1_⟩
 have n2_ : iC (Below w.heap.size w w10) := ⟨h2_⟩
 clear HB
 clear h0_ h1_ h2_
 have HO212 := n0_
 have HO215 := n1_
 have HB := n2_
 clear n0_ n1_ n2_
 have hHeld := trivial
 refine lN (a' := ?_) ?_ ?_
 rotate_left
 ·simp only [qZ, Act.put, List.setIfInBounds_toArray, List.set_cons_zero, List.set_cons_succ]
  rfl
 refine jL (i := 6) (N := some 11) (v := ?_) (a' := ?_) #[true, true, true, true, true, true, true, false] rfl rfl (jF HT_.out (by kernel_rfl)) (fun _ _ _ h => h) (Or.inl ⟨by rfl, ?_⟩) ?_ ?_
 rotate_left
 ·intro w'
  go_simp
  with_reducible rfl
 rotate_left
 ·simp only [Act.put, List.setIfInBounds_toArray, List.set_cons_zero, List.set_cons_succ, iR, jG]
  rfl
 refine jL (i := 7) (N := some 4) (v := ?_) (a' := ?_) #[true, true, true, true, true, true, true, true] rfl rfl (jF HT_.out (by kernel_rfl)) (fun _ _ _ h => h) (Or.inl ⟨by rfl, ?_⟩) ?_ ?_
 rotate_left
 ·intro w'
  go_simp
  with_reducible rfl
 rotate_left
 ·simp only [Act.put, List.setIfInBounds_toArray, List.set_cons_zero, List.set_cons_succ, iR, jG]
  rfl
 refine JA (qG HT_.out (by kernel_rfl)) ?_
 try go_wp2
 go_ret
 exact ⟨by first | rfl | (simp [iW, iV] <;> rfl) | (simp [*, iW, iV] <;> rfl), hb_⟩
end Go.Proofs.YtgfkgppomaapiaaDoor.K
end

section
namespace Go.Proofs.YtgfkgppomaapiaaDoor.K
open Go.RowKit Go.Proofs.YtgfkgppomaapiaaDoorW.PrintWords Go.Proofs.YtgfkgppomaapiaaDoorW.PrintLast Go.Proofs.YtgfkgppomaapiaaDoorW.PrintMore
attribute [local go_sem] kF kD kN kM
theorem jf6 (d : Nat) (w : World) (x0 y0 : Int) (x1 y1 : Int) :
  (Op.equalIn (d + 2) 98 (.agg #[.int .i64 x0, .int .i64 x1]) (.agg #[.int .i64 y0, .int .i64 y1])).run Tryd.prog w = .ok (x0 == y0 && (x1 == y1)) w := by
 refine jd4 Tryd.underlying98 (by kernel_rfl) ?_
 refine WU (by rfl) (by go_simp; rfl) (by go_simp; rfl) (by go_simp) ?_
 exact WT (by rfl) (by go_simp; rfl) (by go_simp; rfl) (by go_simp)
end Go.Proofs.YtgfkgppomaapiaaDoor.K
end

section
namespace Go.Proofs.YtgfkgppomaapiaaDoor.K
open Go.RowKit Go.Proofs.YtgfkgppomaapiaaDoorW.PrintWords Go.Proofs.YtgfkgppomaapiaaDoorW.PrintLast Go.Proofs.YtgfkgppomaapiaaDoorW.PrintMore
attribute [local go_sem] kF kD kN kM
attribute [local go_sem high] jf6
mutual
def stratumref07_SameMap.j0 : Nat → Bool → Int → List (S98) → Int → List (S98) → Option (Bool)
 | 0, _, _, _, _, _ => none
 | k + 1, x19, x217000, x217001, x218000, x218001 => if x19 = true then (some false) else (stratumref07_SameMap.l0 k 0 x217000 x217001 x218000 x218001)
def stratumref07_SameMap.l0 : Nat → Int → Int → List (S98) → Int → List (S98) → Option (Bool)
 | 0, _, _, _, _, _ => none
 | k + 1, x5, x217000, x217001, x218000, x218001 => if x5 < (x217001.length : Int) then (if 0 ≤ x5 then (if x5 < (x218001.length : Int) then (if (!(((kX x217001 x5).f0) == ((kX x218001 x5).f0)) || (!(((kX x217001 x5).f1) == ((kX x218001 x5).f1)))) = true then (some false) else (stratumref07_SameMap.l0 k (wrap64 (x5 + 1)) x217000 x217001 x218000 x218001)) else (none)) else (none)) else (some true)
end
def stratumref07_SameMap.f (k : Nat) (a0_0 : Int) (l0_1 : List (S98)) (a1_0 : Int) (l1_1 : List (S98)) : Option (Bool) := if a0_0 = a1_0 then (stratumref07_SameMap.j0 k ((l0_1.length : Int) != (l1_1.length : Int)) a0_0 l0_1 a1_0 l1_1) else (stratumref07_SameMap.j0 k true a0_0 l0_1 a1_0 l1_1)
set_option maxHeartbeats 8000000 in
set_option maxRecDepth 100000 in
theorem stratumref07_SameMap.calls (k : Nat) (a0_0 : Int) (A0_1 : Option Addr) (c0_1 : Nat) (l0_1 : List (S98)) (a1_0 : Int) (A1_1 : Option Addr) (c1_1 : Nat) (l1_1 : List (S98)) (r : Bool) (w : World) (hr0_1 : Kd.C k98 w A0_1 l0_1.length l0_1) (hc0_1 : l0_1.length ≤ c0_1) (hr1_1 : Kd.C k98 w A1_1 l1_1.length l1_1) (hc1_1 : l1_1.length ≤ c1_1) (h : stratumref07_SameMap.f k a0_0 l0_1 a1_0 l1_1 = some r) :
  Calls Tryd.prog 77 #[.agg #[.int .u32 a0_0, .slice A0_1 l0_1.length c0_1], .agg #[.int .u32 a1_0, .slice A1_1 l1_1.length c1_1]] w fun e w' => e = .returned (.bool r) ∧ Below w.heap.size w w' := by
 have hu27 := Tryd.underlying27
 have hu98 := Tryd.underlying98
 have HR0_1 := iC.mk hr0_1
 have HC0_1 := iC.mk hc0_1
 clear hr0_1 hc0_1
 have HR1_1 := iC.mk hr1_1
 have HC1_1 := iC.mk hc1_1
 clear hr1_1 hc1_1
 have HB := iC.mk (Below.refl w.heap.size w)
 have H : (if a0_0 = a1_0 then (stratumref07_SameMap.j0 k ((l0_1.length : Int) != (l1_1.length : Int)) a0_0 l0_1 a1_0 l1_1) else (stratumref07_SameMap.j0 k true a0_0 l0_1 a1_0 l1_1)) = some r := h
 clear h
 have HC3 := iC.mk H
 clear H
 go_enter Tryd.func77, Tryd.ntmps77
 go_upto_region 1 with (first | ((with_reducible refine jY (N := 2) rfl ?_); (try (refine kJ (by rfl) ?_; dsimp only)); refine jQ ?hg (N := 2) ?hd (cs := #[.int .u32 a0_0, .slice A0_1 l0_1.length c0_1]) (t := 27) ?hr ?_; (case hd => rfl); (case hg => rfl); (case hr => first | (go_simp; done) | (go_simp; rfl)); intro gb216 hg w4 hbox hb; have n0_ := iC.mk (iK hb_ hb); have n1_ := iC.mk (hbox); have n2_ := iC.mk ((by rw [hg]; exact (iQ hb_) : w.heap.size ≤ gb216)); have n3_ := iC.mk ((by rw [hg]; exact (iQ hb_) : w.heap.size ≤ gb216)); clear HB; have HB := n0_; have BK216 := n1_; have GW216 := n2_; have GE216 := n3_; clear n0_ n1_ n2_ n3_; clear hb hbox hg) | ((with_reducible refine jY (N := 3) rfl ?_); (try (refine kJ (by rfl) ?_; dsimp only)); refine jQ ?hg (N := 3) ?hd (cs := #[.int .u32 a1_0, .slice A1_1 l1_1.length c1_1]) (t := 27) ?hr ?_; (case hd => rfl); (case hg => rfl); (case hr => first | (go_simp; done) | (go_simp; rfl)); intro gb217 hg w5 hbox hb; have n0_ := iC.mk (jS (g := gb216) (o := .cells #[.int .u32 a0_0, .slice A0_1 l0_1.length c0_1] 27 (0, 0)) (bk_ BK216.out) hb); have n1_ := iC.mk (iK (by repeat (first | (with_reducible first | exact HB.out | apply iG | apply iF | apply iJ | refine iH ?_ GE216.out) | exact HB.out)) hb); have n2_ := iC.mk (hbox); have n3_ := iC.mk ((by rw [hg]; exact (iQ (by repeat (first | (with_reducible first | exact HB.out | apply iG | apply iF | apply iJ | refine iH ?_ GE216.out) | exact HB.out))) : w.heap.size ≤ gb217)); have n4_ := iC.mk ((by rw [hg]; exact (iQ (by repeat (first | (with_reducible first | exact HB.out | apply iG | apply iF | apply iJ | refine iH ?_ GE216.out) | exact HB.out))) : w.heap.size ≤ gb217)); have n5_ := iC.mk ((by rw [hg]; exact Nat.ne_of_lt (jU (g := gb216) (o := .cells #[.int .u32 a0_0, .slice A0_1 l0_1.length c0_1] 27 (0, 0)) (bk_ BK216.out)) : gb216 ≠ gb217)); have n6_ := iC.mk ((by rw [hg]; exact Nat.ne_of_gt (jU (g := gb216) (o := .cells #[.int .u32 a0_0, .slice A0_1 l0_1.length c0_1] 27 (0, 0)) (bk_ BK216.out)) : gb217 ≠ gb216)); clear BK216; clear HB; have BK216 := n0_; have HB := n1_; have BK217 := n2_; have GW217 := n3_; have GE217 := n4_; have NB216_217 := n5_; have NB217_216 := n6_; clear n0_ n1_ n2_ n3_ n4_ n5_ n6_; clear hb hbox hg))
 repeat (go_quiet (first | ((with_reducible refine jY (N := 2) rfl ?_); (try (refine kJ (by rfl) ?_; dsimp only)); refine jQ ?hg (N := 2) ?hd (cs := #[.int .u32 a0_0, .slice A0_1 l0_1.length c0_1]) (t := 27) ?hr ?_; (case hd => rfl); (case hg => rfl); (case hr => first | (go_simp; done) | (go_simp; rfl)); intro gb216 hg w4 hbox hb; have n0_ := iC.mk (iK hb_ hb); have n1_ := iC.mk (hbox); have n2_ := iC.mk ((by rw [hg]; exact (iQ hb_) : w.heap.size ≤ gb216)); have n3_ := iC.mk ((by rw [hg]; exact (iQ hb_) : w.heap.size ≤ gb216)); clear HB; have HB := n0_; have BK216 := n1_; have GW216 := n2_; have GE216 := n3_; clear n0_ n1_ n2_ n3_; clear hb hbox hg) | ((with_reducible refine jY (N := 3) rfl ?_); (try (refine kJ (by rfl) ?_; dsimp only)); refine jQ ?hg (N := 3) ?hd (cs := #[.int .u32 a1_0, .slice A1_1 l1_1.length c1_1]) (t := 27) ?hr ?_; (case hd => rfl); (case hg => rfl); (case hr => first | (go_simp; done) | (go_simp; rfl)); intro gb217 hg w5 hbox hb; have n0_ := iC.mk (jS (g := gb216) (o := .cells #[.int .u32 a0_0, .slice A0_1 l0_1.length c0_1] 27 (0, 0)) (bk_ BK216.out) hb); have n1_ := iC.mk (iK (by repeat (first | (with_reducible first | exact HB.out | apply iG | apply iF | apply iJ | refine iH ?_ GE216.out) | exact HB.out)) hb); have n2_ := iC.mk (hbox); have n3_ := iC.mk ((by rw [hg]; exact (iQ (by repeat (first | (with_reducible first | exact HB.out | apply iG | apply iF | apply iJ | refine iH ?_ GE216.out) | exact HB.out))) : w.heap.size ≤ gb217)); have n4_ := iC.mk ((by rw [hg]; exact (iQ (by repeat (first | (with_reducible first | exact HB.out | apply iG | apply iF | apply iJ | refine iH ?_ GE216.out) | exact HB.out))) : w.heap.size ≤ gb217)); have n5_ := iC.mk ((by rw [hg]; exact Nat.ne_of_lt (jU (g := gb216) (o := .cells #[.int .u32 a0_0, .slice A0_1 l0_1.length c0_1] 27 (0, 0)) (bk_ BK216.out)) : gb216 ≠ gb217)); have n6_ := iC.mk ((by rw [hg]; exact Nat.ne_of_gt (jU (g := gb216) (o := .cells #[.int .u32 a0_0, .slice A0_1 l0_1.length c0_1] 27 (0, 0)) (bk_ BK216.out)) : gb217 ≠ gb216)); clear BK216; clear HB; have BK216 := n0_; have HB := n1_; have BK217 := n2_; have GW217 := n3_; have GE217 := n4_; have NB216_217 := n5_; have NB217_216 := n6_; clear n0_ n1_ n2_ n3_ n4_ n5_ n6_; clear hb hbox hg)); go_upto_region 1 with (first | ((with_reducible refine jY (N := 2) rfl ?_); (try (refine kJ (by rfl) ?_; dsimp only)); refine jQ ?hg (N := 2) ?hd (cs := #[.int .u32 a0_0, .slice A0_1 l0_1.length c0_1]) (t := 27) ?hr ?_; (case hd => rfl); (case hg => rfl); (case hr => first | (go_simp; done) | (go_simp; rfl)); intro gb216 hg w4 hbox hb; have n0_ := iC.mk (iK hb_ hb); have n1_ := iC.mk (hbox); have n2_ := iC.mk ((by rw [hg]; exact (iQ hb_) : w.heap.size ≤ gb216)); have n3_ := iC.mk ((by rw [hg]; exact (iQ hb_) : w.heap.size ≤ gb216)); clear HB; have HB := n0_; have BK216 := n1_; have GW216 := n2_; have GE216 := n3_; clear n0_ n1_ n2_ n3_; clear hb hbox hg) | ((with_reducible refine jY (N := 3) rfl ?_); (try (refine kJ (by rfl) ?_; dsimp only)); refine jQ ?hg (N := 3) ?hd (cs := #[.int .u32 a1_0, .slice A1_1 l1_1.length c1_1]) (t := 27) ?hr ?_; (case hd => rfl); (case hg => rfl); (case hr => first | (go_simp; done) | (go_simp; rfl)); intro gb217 hg w5 hbox hb; have n0_ := iC.mk (jS (g := gb216) (o := .cells #[.int .u32 a0_0, .slice A0_1 l0_1.length c0_1] 27 (0, 0)) (bk_ BK216.out) hb); have n1_ := iC.mk (iK (by repeat (first | (with_reducible first | exact HB.out | apply iG | apply iF | apply iJ | refine iH ?_ GE216.out) | exact HB.out)) hb); have n2_ := iC.mk (hbox); have n3_ := iC.mk ((by rw [hg]; exact (iQ (by repeat (first | (with_reducible first | exact HB.out | apply iG | apply iF | apply iJ | refine iH ?_ GE216.out) | exact HB.out))) : w.heap.size ≤ gb217)); have n4_ := iC.mk ((by rw [hg]; exact (iQ (by repeat (first | (with_reducible first | exact HB.out | apply iG | apply iF | apply iJ | refine iH ?_ GE216.out) | exact HB.out))) : w.heap.size ≤ gb217)); have n5_ := iC.mk ((by rw [hg]; exact Nat.ne_of_lt (jU (g := gb216) (o := .cells #[.int .u32 a0_0, .slice A0_1 l0_1.length c0_1] 27 (0, 0)) (bk_ BK216.out)) : gb216 ≠ gb217)); have n6_ := iC.mk ((by rw [hg]; exact Nat.ne_of_gt (jU (g := gb216) (o := .cells #[.int .u32 a0_0, .slice A0_1 l0_1.length c0_1] 27 (0, 0)) (bk_ BK216.out)) : gb217 ≠ gb216)); clear BK216; clear HB; have BK216 := n0_; have HB := n1_; have BK217 := n2_; have GW217 := n3_; have GE217 := n4_; have NB216_217 := n5_; have NB217_216 := n6_; clear n0_ n1_ n2_ n3_ n4_ n5_ n6_; clear hb hbox hg)))
 (try simp only [Act.put, List.setIfInBounds_toArray, List.set_cons_zero, List.set_cons_succ])
 go_cut [19] (fun v19 wc => ∃ (kq : Nat) (x19_2 : Bool), v19 = .bool x19_2 ∧ iC (stratumref07_SameMap.j0 kq x19_2 a0_0 l0_1 a1_0 l1_1 = some r) ∧ iC (kq ≤ k) ∧ iC (wc.heap[gb216]? = some (.cells #[.int .u32 a0_0, (.slice A0_1 l0_1.length c0_1)] 27 (0, 0))) ∧ iC (wc.heap[gb217]? = some (.cells #[.int .u32 a1_0, (.slice A1_1 l1_1.length c1_1)] 27 (0, 0))) ∧ iC (Below w.heap.size w wc))
 case first =>
  have H := HC3.out
  clear HC3
  by_cases c6 : a0_0 = a1_0
  ·rw [if_pos c6] at H
   have c6b0 : (a0_0 == a1_0) = true := beq_iff_eq.mpr c6
   have c6b1 : (a0_0 != a1_0) = false := bne_eq_false_iff_eq.mpr c6
   clear c6
   (first | rw [c6b0] | (simp only [iR, jG]; rw [c6b0]) | skip)
   have H' := iC.mk H
   clear H
   have hnb7 := NB216_217.out
   have hnc7 := NB217_216.out
   have hcz8_0 : w5.cell? ⟨gb216, 0, none⟩ = some (.int .u32 a0_0) := (iE BK216.out 0).trans rfl
   have hcz8_1 : w5.cell? ⟨gb216, 1, none⟩ = some (.slice A0_1 l0_1.length c0_1) := (iE BK216.out 1).trans rfl
   have hfz8_0 := iD BK216.out 0
   have hfz8_1 := iD BK216.out 1
   have hcz9_0 : w5.cell? ⟨gb217, 0, none⟩ = some (.int .u32 a1_0) := (iE BK217.out 0).trans rfl
   have hcz9_1 : w5.cell? ⟨gb217, 1, none⟩ = some (.slice A1_1 l1_1.length c1_1) := (iE BK217.out 1).trans rfl
   have hfz9_0 := iD BK217.out 0
   have hfz9_1 := iD BK217.out 1
   go_wp2
   repeat (go_quiet (fail); try go_wp2)
   go_meet
   case rel => exact ⟨_, (((l0_1.length : Int) != (l1_1.length : Int))), (by first | rfl | (simp; done) | (simp [*]; done)), H', ⟨by first | omega | exact Nat.le_refl _⟩, ⟨bk_ BK216.out⟩, ⟨bk_ BK217.out⟩, ⟨by repeat (first | (with_reducible first | exact HB.out | apply iG | apply iF | apply iJ | refine iH ?_ GE216.out | refine iH ?_ GE217.out) | exact HB.out)⟩⟩
  ·rw [if_neg c6] at H
   have c6b0 : (a0_0 == a1_0) = false := beq_eq_false_iff_ne.mpr c6
   have c6b1 : (a0_0 != a1_0) = true := bne_iff_ne.mpr c6
   (first | rw [c6b0] | (simp only [iR, jG]; rw [c6b0]) | skip)
   have H' := iC.mk H
   clear H
   have hnb10 := NB216_217.out
   have hnc10 := NB217_216.out
   have hcz11_0 : w5.cell? ⟨gb216, 0, none⟩ = some (.int .u32 a0_0) := (iE BK216.out 0).trans rfl
   have hcz11_1 : w5.cell? ⟨gb216, 1, none⟩ = some (.slice A0_1 l0_1.length c0_1) := (iE BK216.out 1).trans rfl
   have hfz11_0 := iD BK216.out 0
   have hfz11_1 := iD BK216.out 1
   have hcz12_0 : w5.cell? ⟨gb217, 0, none⟩ = some (.int .u32 a1_0) := (iE BK217.out 0).trans rfl
   have hcz12_1 : w5.cell? ⟨gb217, 1, none⟩ = some (.slice A1_1 l1_1.length c1_1) := (iE BK217.out 1).trans rfl
   have hfz12_0 := iD BK217.out 0
   have hfz12_1 := iD BK217.out 1
   go_wp2
   repeat (go_quiet (fail); try go_wp2)
   go_meet
   case rel => exact ⟨_, (true), (by first | rfl | (simp; done) | (simp [*]; done)), H', ⟨by first | omega | exact Nat.le_refl _⟩, ⟨bk_ BK216.out⟩, ⟨bk_ BK217.out⟩, ⟨by repeat (first | (with_reducible first | exact HB.out | apply iG | apply iF | apply iJ | refine iH ?_ GE216.out | refine iH ?_ GE217.out) | exact HB.out)⟩⟩
 case rest =>
  clear HC3
  try clear c1
  try clear p2
  try clear c6
  try clear c6b0
  try clear c6b1
  try clear c7
  try clear c10
  try clear hcz11_0
  try clear hcz11_1
  try clear hcz12_0
  try clear hcz12_1
  try clear hcz8_0
  try clear hcz8_1
  try clear hcz9_0
  try clear hcz9_1
  try clear hfz11_0
  try clear hfz11_1
  try clear hfz12_0
  try clear hfz12_1
  try clear hfz8_0
  try clear hfz8_1
  try clear hfz9_0
  try clear hfz9_1
  obtain ⟨kq, x19_2, rfl, HA, HJ2, BK216, BK217, HB⟩ := hcut
  cases kq with
  | zero => exact absurd HA.out (by simp [stratumref07_SameMap.j0])
  | succ kj2 =>
   have H := HA.out
   clear HA
   simp only [stratumref07_SameMap.j0] at H
   by_cases c13 : x19_2 = true
   ·subst c13
    have H1 : (some false) = some r := by rw [if_pos rfl] at H; exact H
    clear H
    have H := H1
    clear H1
    obtain rfl := Option.some.inj H
    go_wp2
    repeat (go_quiet (fail); try go_wp2)
    go_ret
    exact ⟨by first | rfl | (simp [iW, iV] <;> rfl) | (simp [*, iW, iV] <;> rfl), by repeat (first | (with_reducible first | exact HB.out | apply iG | apply iF | apply iJ | refine iH ?_ GE216.out | refine iH ?_ GE217.out) | exact HB.out)⟩
   ·replace c13 := Bool.eq_false_iff.mpr c13
    subst c13
    have H1 : (stratumref07_SameMap.l0 kj2 0 a0_0 l0_1 a1_0 l1_1) = some r := by rw [if_neg (show ¬ (false = true) by decide)] at H; exact H
    clear H
    have H := H1
    clear H1
    have H' := iC.mk H
    clear H
    go_wp2
    repeat (go_quiet (fail); try go_wp2)
    go_loopg [5] kj2 (fun kq v5 w' => ∃ (x5_2 : Int), v5 = .int .i64 x5_2 ∧ iC (stratumref07_SameMap.l0 kq x5_2 a0_0 l0_1 a1_0 l1_1 = some r) ∧ iC (kq ≤ kj2) ∧ iC (w'.heap[gb216]? = some (.cells #[.int .u32 a0_0, (.slice A0_1 l0_1.length c0_1)] 27 (0, 0))) ∧ iC (w'.heap[gb217]? = some (.cells #[.int .u32 a1_0, (.slice A1_1 l1_1.length c1_1)] 27 (0, 0))) ∧ iC (Below w.heap.size w w'))
    case atStart => exact ⟨(0), (by first | rfl | (simp; done) | (simp [*]; done)), H', ⟨Nat.le_refl _⟩, ⟨bk_ BK216.out⟩, ⟨bk_ BK217.out⟩, ⟨by repeat (first | (with_reducible first | exact HB.out | apply iG | apply iF | apply iJ | refine iH ?_ GE216.out | refine iH ?_ GE217.out) | exact HB.out)⟩⟩
    case round =>
     clear H'
     try clear c1
     try clear p2
     try clear c6
     try clear c6b0
     try clear c6b1
     try clear c7
     try clear c10
     try clear c13
     try clear hcz11_0
     try clear hcz11_1
     try clear hcz12_0
     try clear hcz12_1
     try clear hcz8_0
     try clear hcz8_1
     try clear hcz9_0
     try clear hcz9_1
     try clear hfz11_0
     try clear hfz11_1
     try clear hfz12_0
     try clear hfz12_1
     try clear hfz8_0
     try clear hfz8_1
     try clear hfz9_0
     try clear hfz9_1
     try clear p2
     obtain ⟨x5_2, rfl, HA, HK2, BK216, BK217, HB⟩ := hrel
     cases gk with
     | zero => exact absurd HA.out (by simp [stratumref07_SameMap.l0])
     | succ k2 =>
      have H := HA.out
      clear HA
      simp only [stratumref07_SameMap.l0] at H
      by_cases c14 : x5_2 < (l0_1.length : Int)
      ·rw [if_pos c14] at H
       have c14b0 : decide (x5_2 < (l0_1.length : Int)) = true := decide_eq_true c14
       clear c14
       by_cases c15 : 0 ≤ x5_2
       ·rw [if_pos c15] at H
        have c15b0 : decide (0 ≤ x5_2) = true := decide_eq_true c15
        clear c15
        by_cases c16 : x5_2 < (l1_1.length : Int)
        ·rw [if_pos c16] at H
         have c16b0 : decide (x5_2 < (l1_1.length : Int)) = true := decide_eq_true c16
         clear c16
         by_cases c17 : (!(((kX l0_1 x5_2).f0) == ((kX l1_1 x5_2).f0)) || (!(((kX l0_1 x5_2).f1) == ((kX l1_1 x5_2).f1)))) = true
         ·rw [if_pos c17] at H
          have c17b0 : (!(((kX l0_1 x5_2).f0) == ((kX l1_1 x5_2).f0)) || (!(((kX l0_1 x5_2).f1) == ((kX l1_1 x5_2).f1)))) = true := c17
          clear c17
          obtain rfl := Option.some.inj H
          have hnb18 := NB216_217.out
          have hnc18 := NB217_216.out
          have hcz19_0 : wr.cell? ⟨gb216, 0, none⟩ = some (.int .u32 a0_0) := (iE BK216.out 0).trans rfl
          have hcz19_1 : wr.cell? ⟨gb216, 1, none⟩ = some (.slice A0_1 l0_1.length c0_1) := (iE BK216.out 1).trans rfl
          have hfz19_0 := iD BK216.out 0
          have hfz19_1 := iD BK216.out 1
          have p218 : 0 ≤ (x5_2 : Int) := of_decide_eq_true asm_
          have q218 : x5_2 < (l0_1.length : Int) := of_decide_eq_true asm_
          obtain ⟨ad218, e218, hx218_0, hx218_1⟩ := zM HR0_1.out x5_2 p218 q218
          cases e218
          replace hx218_0 := (HB.out.cell (World.block_lt_of_cell? w _ hx218_0)).trans hx218_0
          replace hx218_1 := (HB.out.cell (World.block_lt_of_cell? w _ hx218_1)).trans hx218_1
          replace p218 := eq_true p218
          replace q218 := eq_true q218
          have hcz20_0 : wr.cell? ⟨gb217, 0, none⟩ = some (.int .u32 a1_0) := (iE BK217.out 0).trans rfl
          have hcz20_1 : wr.cell? ⟨gb217, 1, none⟩ = some (.slice A1_1 l1_1.length c1_1) := (iE BK217.out 1).trans rfl
          have hfz20_0 := iD BK217.out 0
          have hfz20_1 := iD BK217.out 1
          have p219 : 0 ≤ (x5_2 : Int) := of_decide_eq_true asm_
          have q219 : x5_2 < (l1_1.length : Int) := of_decide_eq_true asm_
          obtain ⟨ad219, e219, hx219_0, hx219_1⟩ := zM HR1_1.out x5_2 p219 q219
          cases e219
          replace hx219_0 := (HB.out.cell (World.block_lt_of_cell? w _ hx219_0)).trans hx219_0
          replace hx219_1 := (HB.out.cell (World.block_lt_of_cell? w _ hx219_1)).trans hx219_1
          replace p219 := eq_true p219
          replace q219 := eq_true q219
          go_wp2
          repeat (go_quiet (fail); try go_wp2)
          go_ret
          exact ⟨by first | rfl | (simp [iW, iV] <;> rfl) | (simp [*, iW, iV] <;> rfl), by repeat (first | (with_reducible first | exact HB.out | apply iG | apply iF | apply iJ | refine iH ?_ GE216.out | refine iH ?_ GE217.out) | exact HB.out)⟩
         ·rw [if_neg c17] at H
          have c17b0 : (!(((kX l0_1 x5_2).f0) == ((kX l1_1 x5_2).f0)) || (!(((kX l0_1 x5_2).f1) == ((kX l1_1 x5_2).f1)))) = false := by simpa using c17
          clear c17
          have H' := iC.mk H
          clear H
          have hnb21 := NB216_217.out
          have hnc21 := NB217_216.out
          have hcz22_0 : wr.cell? ⟨gb216, 0, none⟩ = some (.int .u32 a0_0) := (iE BK216.out 0).trans rfl
          have hcz22_1 : wr.cell? ⟨gb216, 1, none⟩ = some (.slice A0_1 l0_1.length c0_1) := (iE BK216.out 1).trans rfl
          have hfz22_0 := iD BK216.out 0
          have hfz22_1 := iD BK216.out 1
          have p218 : 0 ≤ (x5_2 : Int) := of_decide_eq_true asm_
          have q218 : x5_2 < (l0_1.length : Int) := of_decide_eq_true asm_
          obtain ⟨ad218, e218, hx218_0, hx218_1⟩ := zM HR0_1.out x5_2 p218 q218
          cases e218
          replace hx218_0 := (HB.out.cell (World.block_lt_of_cell? w _ hx218_0)).trans hx218_0
          replace hx218_1 := (HB.out.cell (World.block_lt_of_cell? w _ hx218_1)).trans hx218_1
          replace p218 := eq_true p218
          replace q218 := eq_true q218
          have hcz23_0 : wr.cell? ⟨gb217, 0, none⟩ = some (.int .u32 a1_0) := (iE BK217.out 0).trans rfl
          have hcz23_1 : wr.cell? ⟨gb217, 1, none⟩ = some (.slice A1_1 l1_1.length c1_1) := (iE BK217.out 1).trans rfl
          have hfz23_0 := iD BK217.out 0
          have hfz23_1 := iD BK217.out 1
          have p219 : 0 ≤ (x5_2 : Int) := of_decide_eq_true asm_
          have q219 : x5_2 < (l1_1.length : Int) := of_decide_eq_true asm_
          obtain ⟨ad219, e219, hx219_0, hx219_1⟩ := zM HR1_1.out x5_2 p219 q219
          cases e219
          replace hx219_0 := (HB.out.cell (World.block_lt_of_cell? w _ hx219_0)).trans hx219_0
          replace hx219_1 := (HB.out.cell (World.block_lt_of_cell? w _ hx219_1)).trans hx219_1
          replace p219 := eq_true p219
          replace q219 := eq_true q219
          go_wp2
          repeat (go_quiet (fail); try go_wp2)
          go_roundg k2
          case measure => have := HJ2.out; have := HK2.out; omega
          case rel => exact ⟨(wrap64 (x5_2 + 1)), (by first | rfl | (simp; done) | (simp [*]; done)), H', ⟨by have := HJ2.out; have := HK2.out; omega⟩, ⟨bk_ BK216.out⟩, ⟨bk_ BK217.out⟩, ⟨by repeat (first | (with_reducible first | exact HB.out | apply iG | apply iF | apply iJ | refine iH ?_ GE216.out | refine iH ?_ GE217.out) | exact HB.out)⟩⟩
        ·rw [if_neg c16] at H
         exact absurd H (by simp)
       ·rw [if_neg c15] at H
        exact absurd H (by simp)
      ·rw [if_neg c14] at H
       have c14b0 : decide (x5_2 < (l0_1.length : Int)) = false := decide_eq_false c14
       clear c14
       obtain rfl := Option.some.inj H
       have hnb24 := NB216_217.out
       have hnc24 := NB217_216.out
       have hcz25_0 : wr.cell? ⟨gb216, 0, none⟩ = some (.int .u32 a0_0) := (iE BK216.out 0).trans rfl
       have hcz25_1 : wr.cell? ⟨gb216, 1, none⟩ = some (.slice A0_1 l0_1.length c0_1) := (iE BK216.out 1).trans rfl
       have hfz25_0 := iD BK216.out 0
       have hfz25_1 := iD BK216.out 1
       go_wp2
       repeat (go_quiet (fail); try go_wp2)
       go_ret
       exact ⟨by first | rfl | (simp [iW, iV] <;> rfl) | (simp [*, iW, iV] <;> rfl), by repeat (first | (with_reducible first | exact HB.out | apply iG | apply iF | apply iJ | refine iH ?_ GE216.out | refine iH ?_ GE217.out) | exact HB.out)⟩
end Go.Proofs.YtgfkgppomaapiaaDoor.K
end

section
namespace Go.Proofs.YtgfkgppomaapiaaDoor.K
open Go.RowKit Go.Proofs.YtgfkgppomaapiaaDoorW.PrintWords Go.Proofs.YtgfkgppomaapiaaDoorW.PrintLast Go.Proofs.YtgfkgppomaapiaaDoorW.PrintMore
attribute [local go_sem] kF kD kN kM
def stratumref07_SameEntries.f (l0 : List (S86)) (l1 : List (S86)) : Option (Bool) := (stratumref07_Entries.f ([] : List Int) l0).bind fun t220 => ((stratumref07_Entries.f ([] : List Int) l1).bind fun t223 => (some ((strOfNums t220).toList == (strOfNums t223).toList)))
def stratumref07_SameEntries.T1 : Bool × List (List Nat × List Nat) := (true, [([], []), ([0], [0]), ([1], [1]), ([], []), ([3, 1], [3]), ([4], [4]), ([2, 5], [2, 5]), ([6, 4, 0, 1, 2, 3, 4, 5, 6], [6])])
def stratumref07_SameEntries.B1 : List Nat := [0, 1, 3, 0, 11, 27, 63, 127]
theorem stratumref07_SameEntries.tab1 : rtab .any (opsOf Tryd.f78 1) = stratumref07_SameEntries.T1 := by kernel_rfl
theorem stratumref07_SameEntries.bits1 : lX stratumref07_SameEntries.T1.2 stratumref07_SameEntries.B1 = true := by kernel_rfl
set_option maxHeartbeats 8000000 in
set_option maxRecDepth 100000 in
theorem stratumref07_SameEntries.calls (A0 : Option Addr) (c0 : Nat) (l0 : List (S86)) (A1 : Option Addr) (c1 : Nat) (l1 : List (S86)) (r : Bool) (w : World) (hr0 : Kd.C k86 w A0 l0.length l0) (hc0 : l0.length ≤ c0) (hr1 : Kd.C k86 w A1 l1.length l1) (hc1 : l1.length ≤ c1) (h : stratumref07_SameEntries.f l0 l1 = some r) :
  Calls Tryd.prog 78 #[.slice A0 l0.length c0, .slice A1 l1.length c1] w fun e w' => e = .returned (.bool r) ∧ Below w.heap.size w w' := by
 have HR0 := iC.mk hr0
 have HC0 := iC.mk hc0
 clear hr0 hc0
 have HR1 := iC.mk hr1
 have HC1 := iC.mk hc1
 clear hr1 hc1
 have HB := iC.mk (Below.refl w.heap.size w)
 have H : ((stratumref07_Entries.f ([] : List Int) l0).bind fun t220 => ((stratumref07_Entries.f ([] : List Int) l1).bind fun t223 => (some ((strOfNums t220).toList == (strOfNums t223).toList)))) = some r := h
 clear h
 replace H := Option.bind_eq_some_iff.mp H
 obtain ⟨t220, A30, H⟩ := H
 replace H : ((stratumref07_Entries.f ([] : List Int) l1).bind fun t223 => (some ((strOfNums t220).toList == (strOfNums t223).toList))) = some r := H
 have A3 := iC.mk A30
 clear A30
 replace H := Option.bind_eq_some_iff.mp H
 obtain ⟨t223, A40, H⟩ := H
 replace H : (some ((strOfNums t220).toList == (strOfNums t223).toList)) = some r := H
 have A4 := iC.mk A40
 clear A40
 obtain rfl := Option.some.inj H
 go_enter Tryd.func78, Tryd.ntmps78
 try go_wp2
 have n0_ := iC.mk (iJ HB.out)
 clear HB
 have HB := n0_
 clear n0_
 refine qY (n := 8) (S := fun w' => True) (ds := []) #[false, false, false, false, false, false, false, false] (by kernel_rfl) rfl rfl trivial (fun hHeld => ?_); refine mZ stratumref07_SameEntries.tab1 stratumref07_SameEntries.bits1 (fun HT_ HW_ => ?_)
 generalize w.drew = w5 at HB hHeld ⊢
 refine jL (i := 0) (N := some 5) (v := ?_) (a' := ?_) #[true, false, false, false, false, false, false, false] rfl rfl (jF HT_.out (by kernel_rfl)) (fun _ _ _ h => h) (Or.inl ⟨by rfl, ?_⟩) ?_ ?_
 rotate_left
 ·intro w'
  go_simp
  with_reducible rfl
 rotate_left
 ·simp only [Act.put, List.setIfInBounds_toArray, List.set_cons_zero, List.set_cons_succ, iR, jG]
  rfl
 refine jL (i := 3) (N := some 8) (v := ?_) (a' := ?_) #[true, false, false, true, false, false, false, false] rfl rfl (jF HT_.out (by kernel_rfl)) (fun _ _ _ h => h) (Or.inl ⟨by rfl, ?_⟩) ?_ ?_
 rotate_left
 ·intro w'
  go_simp
  with_reducible rfl
 rotate_left
 ·simp only [Act.put, List.setIfInBounds_toArray, List.set_cons_zero, List.set_cons_succ, iR, jG]
  rfl
 refine one_ (i := 1) (N := some 6) #[true, true, false, true, false, false, false, false] rfl rfl (lW HT_.out (by kernel_rfl)) (by decide) (fun K hK => ?_)
 refine qC Tryd.func60 (by kernel_rfl) rfl #[.slice none 0 0, .slice A0 l0.length c0] (by rfl) rfl rfl (by (try simp only [List.map_toArray, List.map_cons, List.map_nil]); first | done | rfl | (simp only [List.length_drop, List.length_take]; rfl)) ?_
 refine (stratumref07_Entries.calls0 _ _ l0 t220 _ ?side1 ?side2 ?side3 ?side4 A3.out).mono ?_
 (case side1 => exact Kd.C_nil _ _)
 (case side2 => exact Nat.le_refl _)
 (case side3 => repeat (first | exact (Kd.C_below HR0.out HB.out) | (with_reducible refine Kd.C_alloc ?_ _) | (with_reducible refine Kd.C_drewN ?_ _) | (with_reducible refine Kd.C_drew ?_)))
 (case side4 => exact HC0.out)
 rintro e w6 ⟨v221, rfl, ho0, hb⟩
 refine ⟨_, rfl, ?_⟩
 have n0_ := iC.mk (Kd.R_lower ho0 (iQ hb_))
 have n1_ := iC.mk (iK hb_ hb)
 clear HB
 have HO222 := n0_
 have HB := n1_
 clear n0_ n1_
 (try clear hb)
 (try clear hb2)
 (try clear hk)
 (try clear hi)
 (try clear ho0)
 refine hK.out _ _ trivial (fun hHeld => ?_)
 clear hK K
 refine lN (a' := ?_) ?_ ?_
 rotate_left
 ·show Act.put _ (some 6) _ = _
  simp only [Act.put, List.setIfInBounds_toArray, List.set_cons_zero, List.set_cons_succ, iR, jG]
  rfl
 refine jb7 (σ := Value) 2 #[true, true, true, true, true, true, false, false] (fun s_ => [(7, .string (strOfNums t220)), (9, s_), (10, .string (strOfNums t223))]) (fun s_ w' => (Kd.R (Kd.int .u8) 5 w' w.heap.size (fun k_ => some k_ ≠ (s_ : Value).ownBlock) v221 t220) ∧ (Kd.R (Kd.int .u8) 5 w' w.heap.size (fun k_ => some k_ ≠ (v221 : Value).ownBlock) s_ t223) ∧ (Below w.heap.size w w')) ?_ ?_
 rotate_left
 ·intro hCont
  refine two_ (i := 2) (j := 4) (Ni := some 7) (Nj := some 9) #[true, true, true, true, false, false, false, false] #[true, true, false, true, true, false, false, false] rfl rfl rfl rfl (P7 HT_.out (by kernel_rfl)) (by decide) (by decide) (fun K hK => ?_) (fun K hK => ?_)
  ·skip
   have hcv7 := kZ (P := Tryd.prog) Tryd.underlying33 Tryd.underlying5 Tryd.underlying9 (Kd.own_of_R HO222.out)
   refine jH (w1 := ?_) (v := ?_) (by rfl) rfl ?_ ?_
   rotate_left 2
   ·go_simp
    constructor
    ·rfl
    ·rfl
   clear hcv7
   refine hK.out _ _ trivial (fun hHeld => ?_)
   clear hK K
   refine lN (a' := ?_) ?_ ?_
   rotate_left
   ·show Act.put _ (some 7) _ = _
    simp only [Act.put, List.setIfInBounds_toArray, List.set_cons_zero, List.set_cons_succ, iR, jG]
    rfl
   refine one_ (i := 4) (N := some 9) #[true, true, true, true, true, false, false, false] rfl rfl (lW HT_.out (by kernel_rfl)) (by decide) (fun K hK => ?_)
   refine qC Tryd.func60 (by kernel_rfl) rfl #[.slice none 0 0, .slice A1 l1.length c1] (by rfl) rfl rfl (by (try simp only [List.map_toArray, List.map_cons, List.map_nil]); first | done | rfl | (simp only [List.length_drop, List.length_take]; rfl)) ?_
   refine (stratumref07_Entries.calls0 _ _ l1 t223 _ ?side1 ?side2 ?side3 ?side4 A4.out).mono ?_
   (case side1 => exact Kd.C_nil _ _)
   (case side2 => exact Nat.le_refl _)
   (case side3 => repeat (first | exact (Kd.C_below HR1.out HB.out) | (with_reducible refine Kd.C_alloc ?_ _) | (with_reducible refine Kd.C_drewN ?_ _) | (with_reducible refine Kd.C_drew ?_)))
   (case side4 => exact HC1.out)
   rintro e w8 ⟨v224, rfl, ho0, hb⟩
   refine ⟨_, rfl, ?_⟩
   have n0_ := iC.mk (Kd.R_elder' (by (with_reducible repeat (first | apply Kd.R_alloc | apply Kd.R_drewN | apply Kd.R_drew)); exact HO222.out) (Kd.R_base ho0) hb)
   have n1_ := iC.mk (Kd.R_lower (Kd.R_new' ho0 (Kd.R_lt (by (with_reducible repeat (first | apply Kd.R_alloc | apply Kd.R_drewN | apply Kd.R_drew)); exact HO222.out))) (iQ hb_))
   have n2_ := iC.mk (iK hb_ hb)
   clear HO222
   clear HB
   have HO222 := n0_
   have HO225 := n1_
   have HB := n2_
   clear n0_ n1_ n2_
   (try clear hb)
   (try clear hb2)
   (try clear hk)
   (try clear hi)
   (try clear ho0)
   refine hK.out _ _ trivial (fun hHeld => ?_)
   clear hK K
   refine lN (a' := ?_) ?_ ?_
   rotate_left
   ·show Act.put _ (some 9) _ = _
    simp only [Act.put, List.setIfInBounds_toArray, List.set_cons_zero, List.set_cons_succ, iR, jG]
    rfl
   refine one_ (i := 5) (N := some 10) #[true, true, true, true, true, true, false, false] rfl rfl (lW HT_.out (by kernel_rfl)) (by decide) (fun K hK => ?_)
   have hcv9 := kZ (P := Tryd.prog) Tryd.underlying33 Tryd.underlying5 Tryd.underlying9 (Kd.own_of_R HO225.out)
   refine jH (w1 := ?_) (v := ?_) (by rfl) rfl ?_ ?_
   rotate_left 2
   ·go_simp
    constructor
    ·rfl
    ·rfl
   clear hcv9
   refine hK.out _ _ trivial (fun hHeld => ?_)
   clear hK K
   refine lN (a' := ?_) ?_ ?_
   rotate_left
   ·show Act.put _ (some 10) _ = _
    simp only [Act.put, List.setIfInBounds_toArray, List.set_cons_zero, List.set_cons_succ, iR, jG]
    rfl
   exact lN (by simp only [qZ, Act.put, List.setIfInBounds_toArray, List.set_cons_zero, List.set_cons_succ]) (hCont (v224) _ ⟨(by (with_reducible repeat (first | apply Kd.R_alloc | apply Kd.R_drewN | apply Kd.R_drew)); exact Kd.R_mono HO222.out (fun _ hk => hk.2)), (by (with_reducible repeat (first | apply Kd.R_alloc | apply Kd.R_drewN | apply Kd.R_drew)); exact Kd.R_mono HO225.out (fun _ hk => hk.2)), hb_⟩)
  ·skip
   refine qC Tryd.func60 (by kernel_rfl) rfl #[.slice none 0 0, .slice A1 l1.length c1] (by rfl) rfl rfl (by (try simp only [List.map_toArray, List.map_cons, List.map_nil]); first | done | rfl | (simp only [List.length_drop, List.length_take]; rfl)) ?_
   refine (stratumref07_Entries.calls0 _ _ l1 t223 _ ?side1 ?side2 ?side3 ?side4 A4.out).mono ?_
   (case side1 => exact Kd.C_nil _ _)
   (case side2 => exact Nat.le_refl _)
   (case side3 => repeat (first | exact (Kd.C_below HR1.out HB.out) | (with_reducible refine Kd.C_alloc ?_ _) | (with_reducible refine Kd.C_drewN ?_ _) | (with_reducible refine Kd.C_drew ?_)))
   (case side4 => exact HC1.out)
   rintro e w7 ⟨v224, rfl, ho0, hb⟩
   refine ⟨_, rfl, ?_⟩
   have n0_ := iC.mk (Kd.R_elder' (by (with_reducible repeat (first | apply Kd.R_alloc | apply Kd.R_drewN | apply Kd.R_drew)); exact HO222.out) (Kd.R_base ho0) hb)
   have n1_ := iC.mk (Kd.R_lower (Kd.R_new' ho0 (Kd.R_lt (by (with_reducible repeat (first | apply Kd.R_alloc | apply Kd.R_drewN | apply Kd.R_drew)); exact HO222.out))) (iQ hb_))
   have n2_ := iC.mk (iK hb_ hb)
   clear HO222
   clear HB
   have HO222 := n0_
   have HO225 := n1_
   have HB := n2_
   clear n0_ n1_ n2_
   (try clear hb)
   (try clear hb2)
   (try clear hk)
   (try clear hi)
   (try clear ho0)
   refine hK.out _ _ trivial (fun hHeld => ?_)
   clear hK K
   refine lN (a' := ?_) ?_ ?_
   rotate_left
   ·show Act.put _ (some 9) _ = _
    simp only [Act.put, List.setIfInBounds_toArray, List.set_cons_zero, List.set_cons_succ, iR, jG]
    rfl
   refine two_ (i := 2) (j := 5) (Ni := some 7) (Nj := some 10) #[true, true, true, true, true, false, false, false] #[true, true, false, true, true, true, false, false] rfl rfl rfl rfl (P7 HT_.out (by kernel_rfl)) (by decide) (by decide) (fun K hK => ?_) (fun K hK => ?_)
   ·skip
    have hcv8 := kZ (P := Tryd.prog) Tryd.underlying33 Tryd.underlying5 Tryd.underlying9 (Kd.own_of_R HO222.out)
    refine jH (w1 := ?_) (v := ?_) (by rfl) rfl ?_ ?_
    rotate_left 2
    ·go_simp
     constructor
     ·rfl
     ·rfl
    clear hcv8
    refine hK.out _ _ trivial (fun hHeld => ?_)
    clear hK K
    refine lN (a' := ?_) ?_ ?_
    rotate_left
    ·show Act.put _ (some 7) _ = _
     simp only [Act.put, List.setIfInBounds_toArray, List.set_cons_zero, List.set_cons_succ, iR, jG]
     rfl
    refine one_ (i := 5) (N := some 10) #[true, true, true, true, true, true, false, false] rfl rfl (lW HT_.out (by kernel_rfl)) (by decide) (fun K hK => ?_)
    have hcv9 := kZ (P := Tryd.prog) Tryd.underlying33 Tryd.underlying5 Tryd.underlying9 (Kd.own_of_R HO225.out)
    refine jH (w1 := ?_) (v := ?_) (by rfl) rfl ?_ ?_
    rotate_left 2
    ·go_simp
     constructor
     ·rfl
     ·rfl
    clear hcv9
    refine hK.out _ _ trivial (fun hHeld => ?_)
    clear hK K
    refine lN (a' := ?_) ?_ ?_
    rotate_left
    ·show Act.put _ (some 10) _ = _
     simp only [Act.put, List.setIfInBounds_toArray, List.set_cons_zero, List.set_cons_succ, iR, jG]
     rfl
    exact lN (by simp only [qZ, Act.put, List.setIfInBounds_toArray, List.set_cons_zero, List.set_cons_succ]) (hCont (v224) _ ⟨(by (with_reducible repeat (first | apply Kd.R_alloc | apply Kd.R_drewN | apply Kd.R_drew)); exact Kd.R_mono HO222.out (fun _ hk => hk.2)), (by (with_reducible repeat (first | apply Kd.R_alloc | apply Kd.R_drewN | apply Kd.R_drew)); exact Kd.R_mono HO225.out (fun _ hk => hk.2)), hb_⟩)
   ·skip
    have hcv8 := kZ (P := Tryd.prog) Tryd.underlying33 Tryd.underlying5 Tryd.underlying9 (Kd.own_of_R HO225.out)
    refine jH (w1 := ?_) (v := ?_) (by rfl) rfl ?_ ?_
    rotate_left 2
    ·go_simp
     constructor
     ·rfl
     ·rfl
    clear hcv8
    refine hK.out _ _ trivial (fun hHeld => ?_)
    clear hK K
    refine lN (a' := ?_) ?_ ?_
    rotate_left
    ·show Act.put _ (some 10) _ = _
     simp only [Act.put, List.setIfInBounds_toArray, List.set_cons_zero, List.set_cons_succ, iR, jG]
     rfl
    refine one_ (i := 2) (N := some 7) #[true, true, true, true, true, true, false, false] rfl rfl (lW HT_.out (by kernel_rfl)) (by decide) (fun K hK => ?_)
    have hcv9 := kZ (P := Tryd.prog) Tryd.underlying33 Tryd.underlying5 Tryd.underlying9 (Kd.own_of_R HO222.out)
    refine jH (w1 := ?_) (v := ?_) (by rfl) rfl ?_ ?_
    rotate_left 2
    ·go_simp
     constructor
     ·rfl
     ·rfl
    clear hcv9
    refine hK.out _ _ trivial (fun hHeld => ?_)
    clear hK K
    refine lN (a' := ?_) ?_ ?_
    rotate_left
    ·show Act.put _ (some 7) _ = _
     simp only [Act.put, List.setIfInBounds_toArray, List.set_cons_zero, List.set_cons_succ, iR, jG]
     rfl
    exact lN (by simp only [qZ, Act.put, List.setIfInBounds_toArray, List.set_cons_zero, List.set_cons_succ]) (hCont (v224) _ ⟨(by (with_reducible repeat (first | apply Kd.R_alloc | apply Kd.R_drewN | apply Kd.R_drew)); exact Kd.R_mono HO222.out (fun _ hk => hk.2)), (by (with_reducible repeat (first | apply Kd.R_alloc | apply Kd.R_drewN | apply Kd.R_drew)); exact Kd.R_mono HO225.out (fun _ hk => hk.2)), hb_⟩)
 rintro v224 w10 ⟨h0_, h1_, h2_⟩
 have n0_ : iC (Kd.R (Kd.int .u8) 5 w10 w.heap.size (fun k_ => some k_ ≠ (v224 : Value).ownBlock) v221 t220) := ⟨h0_⟩
 have n1_ : iC (Kd.R (Kd.int .u8) 5 w10 w.heap.size (fun k_ => some k_ ≠ (v221 : Value).ownBlock) v224 t223) := ⟨h1_⟩
 have n2_ : iC (Below w.heap.size w w10) := ⟨h2_⟩
 clear HB
 clear h0_ h1_ h2_
 have HO222 := n0_
 have HO225 := n1_
 have HB := n2_
 clear n0_ n1_ n2_
 have hHeld := trivial
 refine lN (a' := ?_) ?_ ?_
 rotate_left
 ·simp only [qZ, Act.put, List.setIfInBounds_toArray, List.set_cons_zero, List.set_cons_succ]
  rfl
 refine jL (i := 6) (N := some 11) (v := ?_) (a' := ?_) #[true, true, true, true, true, true, true, false] rfl rfl (jF HT_.out (by kernel_rfl)) (fun _ _ _ h => h) (Or.inl ⟨by rfl, ?_⟩) ?_ ?_
 rotate_left
 ·intro w'
  go_simp
  with_reducible rfl
 rotate_left
 ·simp only [Act.put, List.setIfInBounds_toArray, List.set_cons_zero, List.set_cons_succ, iR, jG]
  rfl
 refine jL (i := 7) (N := some 4) (v := ?_) (a' := ?_) #[true, true, true, true, true, true, true, true] rfl rfl (jF HT_.out (by kernel_rfl)) (fun _ _ _ h => h) (Or.inl ⟨by rfl, ?_⟩) ?_ ?_
 rotate_left
 ·intro w'
  go_simp
  with_reducible rfl
 rotate_left
 ·simp only [Act.put, List.setIfInBounds_toArray, List.set_cons_zero, List.set_cons_succ, iR, jG]
  rfl
 refine JA (qG HT_.out (by kernel_rfl)) ?_
 try go_wp2
 go_ret
 exact ⟨by first | rfl | (simp [iW, iV] <;> rfl) | (simp [*, iW, iV] <;> rfl), hb_⟩
end Go.Proofs.YtgfkgppomaapiaaDoor.K
end

section
namespace Go.Proofs.YtgfkgppomaapiaaDoor.K
open Go.RowKit Go.Proofs.YtgfkgppomaapiaaDoorW.PrintWords Go.Proofs.YtgfkgppomaapiaaDoorW.PrintLast Go.Proofs.YtgfkgppomaapiaaDoorW.PrintMore
attribute [local go_sem] kF kD kN kM
def stratumref07_Same.j0 : Nat → Bool → Int → Int → Int → List Int → List (S139) → Int → List (S98) → Int → Int → List (S86) → Int → Int → Int → List Int → List (S139) → Int → List (S98) → Int → Int → List (S86) → Option (Bool)
 | 0, _, _, _, _, _, _, _, _, _, _, _, _, _, _, _, _, _, _, _, _, _ => none
 | k + 1, x5, x227000, x227001, x227002, x227003, x227004, x227005, x227006, x227007, x227008, x227009, x228000, x228001, x228002, x228003, x228004, x228005, x228006, x228007, x228008, x228009 => if x5 = true then ((stratumref07_SameInts.f k x227003 x228003).bind fun t228 => (if t228 = true then ((stratumref07_SameFacts.f k x227004 x228004).bind fun t229 => (if t229 = true then ((stratumref07_SameMap.f k x227005 x227006 x228005 x228006).bind fun t230 => (if t230 = true then ((stratumref07_SameEntries.f x227009 x228009).bind fun t231 => (some t231)) else (some false))) else (some false))) else (some false))) else (some false)
def stratumref07_Same.f (k : Nat) (a0_0 : Int) (a0_1 : Int) (a0_2 : Int) (l0_3 : List Int) (l0_4 : List (S139)) (a0_5 : Int) (l0_6 : List (S98)) (a0_7 : Int) (a0_8 : Int) (l0_9 : List (S86)) (a1_0 : Int) (a1_1 : Int) (a1_2 : Int) (l1_3 : List Int) (l1_4 : List (S139)) (a1_5 : Int) (l1_6 : List (S98)) (a1_7 : Int) (a1_8 : Int) (l1_9 : List (S86)) : Option (Bool) := if a0_0 = a1_0 then (if a0_1 = a1_1 then (if a0_2 = a1_2 then (if a0_7 = a1_7 then (stratumref07_Same.j0 k (a0_8 == a1_8) a0_0 a0_1 a0_2 l0_3 l0_4 a0_5 l0_6 a0_7 a0_8 l0_9 a1_0 a1_1 a1_2 l1_3 l1_4 a1_5 l1_6 a1_7 a1_8 l1_9) else (stratumref07_Same.j0 k false a0_0 a0_1 a0_2 l0_3 l0_4 a0_5 l0_6 a0_7 a0_8 l0_9 a1_0 a1_1 a1_2 l1_3 l1_4 a1_5 l1_6 a1_7 a1_8 l1_9)) else (stratumref07_Same.j0 k false a0_0 a0_1 a0_2 l0_3 l0_4 a0_5 l0_6 a0_7 a0_8 l0_9 a1_0 a1_1 a1_2 l1_3 l1_4 a1_5 l1_6 a1_7 a1_8 l1_9)) else (stratumref07_Same.j0 k false a0_0 a0_1 a0_2 l0_3 l0_4 a0_5 l0_6 a0_7 a0_8 l0_9 a1_0 a1_1 a1_2 l1_3 l1_4 a1_5 l1_6 a1_7 a1_8 l1_9)) else (stratumref07_Same.j0 k false a0_0 a0_1 a0_2 l0_3 l0_4 a0_5 l0_6 a0_7 a0_8 l0_9 a1_0 a1_1 a1_2 l1_3 l1_4 a1_5 l1_6 a1_7 a1_8 l1_9)
set_option maxHeartbeats 8000000 in
set_option maxRecDepth 100000 in
theorem stratumref07_Same.calls (k : Nat) (a0_0 : Int) (a0_1 : Int) (a0_2 : Int) (A0_3 : Option Addr) (c0_3 : Nat) (l0_3 : List Int) (A0_4 : Option Addr) (c0_4 : Nat) (l0_4 : List (S139)) (a0_5 : Int) (A0_6 : Option Addr) (c0_6 : Nat) (l0_6 : List (S98)) (a0_7 : Int) (a0_8 : Int) (A0_9 : Option Addr) (c0_9 : Nat) (l0_9 : List (S86)) (a1_0 : Int) (a1_1 : Int) (a1_2 : Int) (A1_3 : Option Addr) (c1_3 : Nat) (l1_3 : List Int) (A1_4 : Option Addr) (c1_4 : Nat) (l1_4 : List (S139)) (a1_5 : Int) (A1_6 : Option Addr) (c1_6 : Nat) (l1_6 : List (S98)) (a1_7 : Int) (a1_8 : Int) (A1_9 : Option Addr) (c1_9 : Nat) (l1_9 : List (S86)) (r : Bool) (w : World) (hr0_3 : Kd.C (Kd.int .i64) w A0_3 l0_3.length l0_3) (hc0_3 : l0_3.length ≤ c0_3) (hr0_4 : Kd.C k139 w A0_4 l0_4.length l0_4) (hc0_4 : l0_4.length ≤ c0_4) (hr0_6 : Kd.C k98 w A0_6 l0_6.length l0_6) (hc0_6 : l0_6.length ≤ c0_6) (hr0_9 : Kd.C k86 w A0_9 l0_9.length l0_9) (hc0_9 : l0_9.length ≤ c0_9) (hr1_3 : Kd.C (Kd.int .i64) w A1_3 l1_3.length l1_3) (hc1_3 : l1_3.length ≤ c1_3) (hr1_4 : Kd.C k139 w A1_4 l1_4.length l1_4) (hc1_4 : l1_4.length ≤ c1_4) (hr1_6 : Kd.C k98 w A1_6 l1_6.length l1_6) (hc1_6 : l1_6.length ≤ c1_6) (hr1_9 : Kd.C k86 w A1_9 l1_9.length l1_9) (hc1_9 : l1_9.length ≤ c1_9) (h : stratumref07_Same.f k a0_0 a0_1 a0_2 l0_3 l0_4 a0_5 l0_6 a0_7 a0_8 l0_9 a1_0 a1_1 a1_2 l1_3 l1_4 a1_5 l1_6 a1_7 a1_8 l1_9 = some r) :
  Calls Tryd.prog 23 #[.agg #[.int .u8 a0_0, .int .u32 a0_1, .int .u32 a0_2, .slice A0_3 l0_3.length c0_3, .slice A0_4 l0_4.length c0_4, .int .u32 a0_5, .slice A0_6 l0_6.length c0_6, .int .i64 a0_7, .int .i64 a0_8, .slice A0_9 l0_9.length c0_9], .agg #[.int .u8 a1_0, .int .u32 a1_1, .int .u32 a1_2, .slice A1_3 l1_3.length c1_3, .slice A1_4 l1_4.length c1_4, .int .u32 a1_5, .slice A1_6 l1_6.length c1_6, .int .i64 a1_7, .int .i64 a1_8, .slice A1_9 l1_9.length c1_9]] w fun e w' => e = .returned (.bool r) ∧ Below w.heap.size w w' := by
 have hu30 := Tryd.underlying30
 have hu27 := Tryd.underlying27
 have HR0_3 := iC.mk hr0_3
 have HC0_3 := iC.mk hc0_3
 clear hr0_3 hc0_3
 have HR0_4 := iC.mk hr0_4
 have HC0_4 := iC.mk hc0_4
 clear hr0_4 hc0_4
 have HR0_6 := iC.mk hr0_6
 have HC0_6 := iC.mk hc0_6
 clear hr0_6 hc0_6
 have HR0_9 := iC.mk hr0_9
 have HC0_9 := iC.mk hc0_9
 clear hr0_9 hc0_9
 have HR1_3 := iC.mk hr1_3
 have HC1_3 := iC.mk hc1_3
 clear hr1_3 hc1_3
 have HR1_4 := iC.mk hr1_4
 have HC1_4 := iC.mk hc1_4
 clear hr1_4 hc1_4
 have HR1_6 := iC.mk hr1_6
 have HC1_6 := iC.mk hc1_6
 clear hr1_6 hc1_6
 have HR1_9 := iC.mk hr1_9
 have HC1_9 := iC.mk hc1_9
 clear hr1_9 hc1_9
 have HB := iC.mk (Below.refl w.heap.size w)
 have H : (if a0_0 = a1_0 then (if a0_1 = a1_1 then (if a0_2 = a1_2 then (if a0_7 = a1_7 then (stratumref07_Same.j0 k (a0_8 == a1_8) a0_0 a0_1 a0_2 l0_3 l0_4 a0_5 l0_6 a0_7 a0_8 l0_9 a1_0 a1_1 a1_2 l1_3 l1_4 a1_5 l1_6 a1_7 a1_8 l1_9) else (stratumref07_Same.j0 k false a0_0 a0_1 a0_2 l0_3 l0_4 a0_5 l0_6 a0_7 a0_8 l0_9 a1_0 a1_1 a1_2 l1_3 l1_4 a1_5 l1_6 a1_7 a1_8 l1_9)) else (stratumref07_Same.j0 k false a0_0 a0_1 a0_2 l0_3 l0_4 a0_5 l0_6 a0_7 a0_8 l0_9 a1_0 a1_1 a1_2 l1_3 l1_4 a1_5 l1_6 a1_7 a1_8 l1_9)) else (stratumref07_Same.j0 k false a0_0 a0_1 a0_2 l0_3 l0_4 a0_5 l0_6 a0_7 a0_8 l0_9 a1_0 a1_1 a1_2 l1_3 l1_4 a1_5 l1_6 a1_7 a1_8 l1_9)) else (stratumref07_Same.j0 k false a0_0 a0_1 a0_2 l0_3 l0_4 a0_5 l0_6 a0_7 a0_8 l0_9 a1_0 a1_1 a1_2 l1_3 l1_4 a1_5 l1_6 a1_7 a1_8 l1_9)) = some r := h
 clear h
 have HC3 := iC.mk H
 clear H
 go_enter Tryd.func23, Tryd.ntmps23
 go_upto_region 1 with (first | ((with_reducible refine jY (N := 2) rfl ?_); refine jQ ?hg (N := 2) ?hd (cs := #[.int .u8 a0_0, .int .u32 a0_1, .int .u32 a0_2, .slice A0_3 l0_3.length c0_3, .slice A0_4 l0_4.length c0_4, .int .u32 a0_5, .slice A0_6 l0_6.length c0_6, .int .i64 a0_7, .int .i64 a0_8, .slice A0_9 l0_9.length c0_9]) (t := 30) ?hr ?_; (case hd => rfl); (case hg => rfl); (case hr => first | (go_simp; done) | (go_simp; rfl)); intro gb226 hg w4 hbox hb; have n0_ := iC.mk (iK hb_ hb); have n1_ := iC.mk (hbox); have n2_ := iC.mk ((by rw [hg]; exact (iQ hb_) : w.heap.size ≤ gb226)); have n3_ := iC.mk ((by rw [hg]; exact (iQ hb_) : w.heap.size ≤ gb226)); clear HB; have HB := n0_; have BK226 := n1_; have GW226 := n2_; have GE226 := n3_; clear n0_ n1_ n2_ n3_; clear hb hbox hg) | ((with_reducible refine jY (N := 3) rfl ?_); refine jQ ?hg (N := 3) ?hd (cs := #[.int .u8 a1_0, .int .u32 a1_1, .int .u32 a1_2, .slice A1_3 l1_3.length c1_3, .slice A1_4 l1_4.length c1_4, .int .u32 a1_5, .slice A1_6 l1_6.length c1_6, .int .i64 a1_7, .int .i64 a1_8, .slice A1_9 l1_9.length c1_9]) (t := 30) ?hr ?_; (case hd => rfl); (case hg => rfl); (case hr => first | (go_simp; done) | (go_simp; rfl)); intro gb227 hg w5 hbox hb; have n0_ := iC.mk (jS (g := gb226) (o := .cells #[.int .u8 a0_0, .int .u32 a0_1, .int .u32 a0_2, .slice A0_3 l0_3.length c0_3, .slice A0_4 l0_4.length c0_4, .int .u32 a0_5, .slice A0_6 l0_6.length c0_6, .int .i64 a0_7, .int .i64 a0_8, .slice A0_9 l0_9.length c0_9] 30 (0, 0)) (bk_ BK226.out) hb); have n1_ := iC.mk (iK (by repeat (first | (with_reducible first | exact HB.out | apply iG | apply iF | apply iJ | refine iH ?_ GE226.out) | exact HB.out)) hb); have n2_ := iC.mk (hbox); have n3_ := iC.mk ((by rw [hg]; exact (iQ (by repeat (first | (with_reducible first | exact HB.out | apply iG | apply iF | apply iJ | refine iH ?_ GE226.out) | exact HB.out))) : w.heap.size ≤ gb227)); have n4_ := iC.mk ((by rw [hg]; exact (iQ (by repeat (first | (with_reducible first | exact HB.out | apply iG | apply iF | apply iJ | refine iH ?_ GE226.out) | exact HB.out))) : w.heap.size ≤ gb227)); have n5_ := iC.mk ((by rw [hg]; exact Nat.ne_of_lt (jU (g := gb226) (o := .cells #[.int .u8 a0_0, .int .u32 a0_1, .int .u32 a0_2, .slice A0_3 l0_3.length c0_3, .slice A0_4 l0_4.length c0_4, .int .u32 a0_5, .slice A0_6 l0_6.length c0_6, .int .i64 a0_7, .int .i64 a0_8, .slice A0_9 l0_9.length c0_9] 30 (0, 0)) (bk_ BK226.out)) : gb226 ≠ gb227)); have n6_ := iC.mk ((by rw [hg]; exact Nat.ne_of_gt (jU (g := gb226) (o := .cells #[.int .u8 a0_0, .int .u32 a0_1, .int .u32 a0_2, .slice A0_3 l0_3.length c0_3, .slice A0_4 l0_4.length c0_4, .int .u32 a0_5, .slice A0_6 l0_6.length c0_6, .int .i64 a0_7, .int .i64 a0_8, .slice A0_9 l0_9.length c0_9] 30 (0, 0)) (bk_ BK226.out)) : gb227 ≠ gb226)); clear BK226; clear HB; have BK226 := n0_; have HB := n1_; have BK227 := n2_; have GW227 := n3_; have GE227 := n4_; have NB226_227 := n5_; have NB227_226 := n6_; clear n0_ n1_ n2_ n3_ n4_ n5_ n6_; clear hb hbox hg))
 (try simp only [Act.put, List.setIfInBounds_toArray, List.set_cons_zero, List.set_cons_succ])
 go_cut [5] (fun v5 wc => ∃ (kq : Nat) (x5_2 : Bool), v5 = .bool x5_2 ∧ iC (stratumref07_Same.j0 kq x5_2 a0_0 a0_1 a0_2 l0_3 l0_4 a0_5 l0_6 a0_7 a0_8 l0_9 a1_0 a1_1 a1_2 l1_3 l1_4 a1_5 l1_6 a1_7 a1_8 l1_9 = some r) ∧ iC (kq ≤ k) ∧ iC (wc.heap[gb226]? = some (.cells #[.int .u8 a0_0, .int .u32 a0_1, .int .u32 a0_2, (.slice A0_3 l0_3.length c0_3), (.slice A0_4 l0_4.length c0_4), .int .u32 a0_5, (.slice A0_6 l0_6.length c0_6), .int .i64 a0_7, .int .i64 a0_8, (.slice A0_9 l0_9.length c0_9)] 30 (0, 0))) ∧ iC (wc.heap[gb227]? = some (.cells #[.int .u8 a1_0, .int .u32 a1_1, .int .u32 a1_2, (.slice A1_3 l1_3.length c1_3), (.slice A1_4 l1_4.length c1_4), .int .u32 a1_5, (.slice A1_6 l1_6.length c1_6), .int .i64 a1_7, .int .i64 a1_8, (.slice A1_9 l1_9.length c1_9)] 30 (0, 0))) ∧ iC (Below w.heap.size w wc))
 case first =>
  have H := HC3.out
  clear HC3
  by_cases c6 : a0_0 = a1_0
  ·rw [if_pos c6] at H
   have c6b0 : (a0_0 == a1_0) = true := beq_iff_eq.mpr c6
   have c6b1 : (a0_0 != a1_0) = false := bne_eq_false_iff_eq.mpr c6
   clear c6
   (first | rw [c6b0] | (simp only [iR, jG]; rw [c6b0]) | skip)
   by_cases c7 : a0_1 = a1_1
   ·rw [if_pos c7] at H
    have c7b0 : (a0_1 == a1_1) = true := beq_iff_eq.mpr c7
    have c7b1 : (a0_1 != a1_1) = false := bne_eq_false_iff_eq.mpr c7
    clear c7
    by_cases c8 : a0_2 = a1_2
    ·rw [if_pos c8] at H
     have c8b0 : (a0_2 == a1_2) = true := beq_iff_eq.mpr c8
     have c8b1 : (a0_2 != a1_2) = false := bne_eq_false_iff_eq.mpr c8
     clear c8
     by_cases c9 : a0_7 = a1_7
     ·rw [if_pos c9] at H
      have c9b0 : (a0_7 == a1_7) = true := beq_iff_eq.mpr c9
      have c9b1 : (a0_7 != a1_7) = false := bne_eq_false_iff_eq.mpr c9
      clear c9
      have H' := iC.mk H
      clear H
      have hnb10 := NB226_227.out
      have hnc10 := NB227_226.out
      have hcz11_0 : w5.cell? ⟨gb226, 0, none⟩ = some (.int .u8 a0_0) := (iE BK226.out 0).trans rfl
      have hcz11_1 : w5.cell? ⟨gb226, 1, none⟩ = some (.int .u32 a0_1) := (iE BK226.out 1).trans rfl
      have hcz11_2 : w5.cell? ⟨gb226, 2, none⟩ = some (.int .u32 a0_2) := (iE BK226.out 2).trans rfl
      have hcz11_3 : w5.cell? ⟨gb226, 3, none⟩ = some (.slice A0_3 l0_3.length c0_3) := (iE BK226.out 3).trans rfl
      have hcz11_4 : w5.cell? ⟨gb226, 4, none⟩ = some (.slice A0_4 l0_4.length c0_4) := (iE BK226.out 4).trans rfl
      have hcz11_5 : w5.cell? ⟨gb226, 5, none⟩ = some (.int .u32 a0_5) := (iE BK226.out 5).trans rfl
      have hcz11_6 : w5.cell? ⟨gb226, 6, none⟩ = some (.slice A0_6 l0_6.length c0_6) := (iE BK226.out 6).trans rfl
      have hcz11_7 : w5.cell? ⟨gb226, 7, none⟩ = some (.int .i64 a0_7) := (iE BK226.out 7).trans rfl
      have hcz11_8 : w5.cell? ⟨gb226, 8, none⟩ = some (.int .i64 a0_8) := (iE BK226.out 8).trans rfl
      have hcz11_9 : w5.cell? ⟨gb226, 9, none⟩ = some (.slice A0_9 l0_9.length c0_9) := (iE BK226.out 9).trans rfl
      have hfz11_0 := iD BK226.out 0
      have hfz11_1 := iD BK226.out 1
      have hfz11_2 := iD BK226.out 2
      have hfz11_3 := iD BK226.out 3
      have hfz11_4 := iD BK226.out 4
      have hfz11_5 := iD BK226.out 5
      have hfz11_6 := iD BK226.out 6
      have hfz11_7 := iD BK226.out 7
      have hfz11_8 := iD BK226.out 8
      have hfz11_9 := iD BK226.out 9
      have hcz12_0 : w5.cell? ⟨gb227, 0, none⟩ = some (.int .u8 a1_0) := (iE BK227.out 0).trans rfl
      have hcz12_1 : w5.cell? ⟨gb227, 1, none⟩ = some (.int .u32 a1_1) := (iE BK227.out 1).trans rfl
      have hcz12_2 : w5.cell? ⟨gb227, 2, none⟩ = some (.int .u32 a1_2) := (iE BK227.out 2).trans rfl
      have hcz12_3 : w5.cell? ⟨gb227, 3, none⟩ = some (.slice A1_3 l1_3.length c1_3) := (iE BK227.out 3).trans rfl
      have hcz12_4 : w5.cell? ⟨gb227, 4, none⟩ = some (.slice A1_4 l1_4.length c1_4) := (iE BK227.out 4).trans rfl
      have hcz12_5 : w5.cell? ⟨gb227, 5, none⟩ = some (.int .u32 a1_5) := (iE BK227.out 5).trans rfl
      have hcz12_6 : w5.cell? ⟨gb227, 6, none⟩ = some (.slice A1_6 l1_6.length c1_6) := (iE BK227.out 6).trans rfl
      have hcz12_7 : w5.cell? ⟨gb227, 7, none⟩ = some (.int .i64 a1_7) := (iE BK227.out 7).trans rfl
      have hcz12_8 : w5.cell? ⟨gb227, 8, none⟩ = some (.int .i64 a1_8) := (iE BK227.out 8).trans rfl
      have hcz12_9 : w5.cell? ⟨gb227, 9, none⟩ = some (.slice A1_9 l1_9.length c1_9) := (iE BK227.out 9).trans rfl
      have hfz12_0 := iD BK227.out 0
      have hfz12_1 := iD BK227.out 1
      have hfz12_2 := iD BK227.out 2
      have hfz12_3 := iD BK227.out 3
      have hfz12_4 := iD BK227.out 4
      have hfz12_5 := iD BK227.out 5
      have hfz12_6 := iD BK227.out 6
      have hfz12_7 := iD BK227.out 7
      have hfz12_8 := iD BK227.out 8
      have hfz12_9 := iD BK227.out 9
      go_wp2
      go_meet
      case rel => exact ⟨_, ((a0_8 == a1_8)), (by first | rfl | (simp; done) | (simp [*]; done)), H', ⟨by first | omega | exact Nat.le_refl _⟩, ⟨bk_ BK226.out⟩, ⟨bk_ BK227.out⟩, ⟨by repeat (first | (with_reducible first | exact HB.out | apply iG | apply iF | apply iJ | refine iH ?_ GE226.out | refine iH ?_ GE227.out) | exact HB.out)⟩⟩
     ·rw [if_neg c9] at H
      have c9b0 : (a0_7 == a1_7) = false := beq_eq_false_iff_ne.mpr c9
      have c9b1 : (a0_7 != a1_7) = true := bne_iff_ne.mpr c9
      have H' := iC.mk H
      clear H
      have hnb13 := NB226_227.out
      have hnc13 := NB227_226.out
      have hcz14_0 : w5.cell? ⟨gb226, 0, none⟩ = some (.int .u8 a0_0) := (iE BK226.out 0).trans rfl
      have hcz14_1 : w5.cell? ⟨gb226, 1, none⟩ = some (.int .u32 a0_1) := (iE BK226.out 1).trans rfl
      have hcz14_2 : w5.cell? ⟨gb226, 2, none⟩ = some (.int .u32 a0_2) := (iE BK226.out 2).trans rfl
      have hcz14_3 : w5.cell? ⟨gb226, 3, none⟩ = some (.slice A0_3 l0_3.length c0_3) := (iE BK226.out 3).trans rfl
      have hcz14_4 : w5.cell? ⟨gb226, 4, none⟩ = some (.slice A0_4 l0_4.length c0_4) := (iE BK226.out 4).trans rfl
      have hcz14_5 : w5.cell? ⟨gb226, 5, none⟩ = some (.int .u32 a0_5) := (iE BK226.out 5).trans rfl
      have hcz14_6 : w5.cell? ⟨gb226, 6, none⟩ = some (.slice A0_6 l0_6.length c0_6) := (iE BK226.out 6).trans rfl
      have hcz14_7 : w5.cell? ⟨gb226, 7, none⟩ = some (.int .i64 a0_7) := (iE BK226.out 7).trans rfl
      have hcz14_8 : w5.cell? ⟨gb226, 8, none⟩ = some (.int .i64 a0_8) := (iE BK226.out 8).trans rfl
      have hcz14_9 : w5.cell? ⟨gb226, 9, none⟩ = some (.slice A0_9 l0_9.length c0_9) := (iE BK226.out 9).trans rfl
      have hfz14_0 := iD BK226.out 0
      have hfz14_1 := iD BK226.out 1
      have hfz14_2 := iD BK226.out 2
      have hfz14_3 := iD BK226.out 3
      have hfz14_4 := iD BK226.out 4
      have hfz14_5 := iD BK226.out 5
      have hfz14_6 := iD BK226.out 6
      have hfz14_7 := iD BK226.out 7
      have hfz14_8 := iD BK226.out 8
      have hfz14_9 := iD BK226.out 9
      have hcz15_0 : w5.cell? ⟨gb227, 0, none⟩ = some (.int .u8 a1_0) := (iE BK227.out 0).trans rfl
      have hcz15_1 : w5.cell? ⟨gb227, 1, none⟩ = some (.int .u32 a1_1) := (iE BK227.out 1).trans rfl
      have hcz15_2 : w5.cell? ⟨gb227, 2, none⟩ = some (.int .u32 a1_2) := (iE BK227.out 2).trans rfl
      have hcz15_3 : w5.cell? ⟨gb227, 3, none⟩ = some (.slice A1_3 l1_3.length c1_3) := (iE BK227.out 3).trans rfl
      have hcz15_4 : w5.cell? ⟨gb227, 4, none⟩ = some (.slice A1_4 l1_4.length c1_4) := (iE BK227.out 4).trans rfl
      have hcz15_5 : w5.cell? ⟨gb227, 5, none⟩ = some (.int .u32 a1_5) := (iE BK227.out 5).trans rfl
      have hcz15_6 : w5.cell? ⟨gb227, 6, none⟩ = some (.slice A1_6 l1_6.length c1_6) := (iE BK227.out 6).trans rfl
      have hcz15_7 : w5.cell? ⟨gb227, 7, none⟩ = some (.int .i64 a1_7) := (iE BK227.out 7).trans rfl
      have hcz15_8 : w5.cell? ⟨gb227, 8, none⟩ = some (.int .i64 a1_8) := (iE BK227.out 8).trans rfl
      have hcz15_9 : w5.cell? ⟨gb227, 9, none⟩ = some (.slice A1_9 l1_9.length c1_9) := (iE BK227.out 9).trans rfl
      have hfz15_0 := iD BK227.out 0
      have hfz15_1 := iD BK227.out 1
      have hfz15_2 := iD BK227.out 2
      have hfz15_3 := iD BK227.out 3
      have hfz15_4 := iD BK227.out 4
      have hfz15_5 := iD BK227.out 5
      have hfz15_6 := iD BK227.out 6
      have hfz15_7 := iD BK227.out 7
      have hfz15_8 := iD BK227.out 8
      have hfz15_9 := iD BK227.out 9
      go_wp2
      go_meet
      case rel => exact ⟨_, (false), (by first | rfl | (simp; done) | (simp [*]; done)), H', ⟨by first | omega | exact Nat.le_refl _⟩, ⟨bk_ BK226.out⟩, ⟨bk_ BK227.out⟩, ⟨by repeat (first | (with_reducible first | exact HB.out | apply iG | apply iF | apply iJ | refine iH ?_ GE226.out | refine iH ?_ GE227.out) | exact HB.out)⟩⟩
    ·rw [if_neg c8] at H
     have c8b0 : (a0_2 == a1_2) = false := beq_eq_false_iff_ne.mpr c8
     have c8b1 : (a0_2 != a1_2) = true := bne_iff_ne.mpr c8
     have H' := iC.mk H
     clear H
     have hnb16 := NB226_227.out
     have hnc16 := NB227_226.out
     have hcz17_0 : w5.cell? ⟨gb226, 0, none⟩ = some (.int .u8 a0_0) := (iE BK226.out 0).trans rfl
     have hcz17_1 : w5.cell? ⟨gb226, 1, none⟩ = some (.int .u32 a0_1) := (iE BK226.out 1).trans rfl
     have hcz17_2 : w5.cell? ⟨gb226, 2, none⟩ = some (.int .u32 a0_2) := (iE BK226.out 2).trans rfl
     have hcz17_3 : w5.cell? ⟨gb226, 3, none⟩ = some (.slice A0_3 l0_3.length c0_3) := (iE BK226.out 3).trans rfl
     have hcz17_4 : w5.cell? ⟨gb226, 4, none⟩ = some (.slice A0_4 l0_4.length c0_4) := (iE BK226.out 4).trans rfl
     have hcz17_5 : w5.cell? ⟨gb226, 5, none⟩ = some (.int .u32 a0_5) := (iE BK226.out 5).trans rfl
     have hcz17_6 : w5.cell? ⟨gb226, 6, none⟩ = some (.slice A0_6 l0_6.length c0_6) := (iE BK226.out 6).trans rfl
     have hcz17_7 : w5.cell? ⟨gb226, 7, none⟩ = some (.int .i64 a0_7) := (iE BK226.out 7).trans rfl
     have hcz17_8 : w5.cell? ⟨gb226, 8, none⟩ = some (.int .i64 a0_8) := (iE BK226.out 8).trans rfl
     have hcz17_9 : w5.cell? ⟨gb226, 9, none⟩ = some (.slice A0_9 l0_9.length c0_9) := (iE BK226.out 9).trans rfl
     have hfz17_0 := iD BK226.out 0
     have hfz17_1 := iD BK226.out 1
     have hfz17_2 := iD BK226.out 2
     have hfz17_3 := iD BK226.out 3
     have hfz17_4 := iD BK226.out 4
     have hfz17_5 := iD BK226.out 5
     have hfz17_6 := iD BK226.out 6
     have hfz17_7 := iD BK226.out 7
     have hfz17_8 := iD BK226.out 8
     have hfz17_9 := iD BK226.out 9
     have hcz18_0 : w5.cell? ⟨gb227, 0, none⟩ = some (.int .u8 a1_0) := (iE BK227.out 0).trans rfl
     have hcz18_1 : w5.cell? ⟨gb227, 1, none⟩ = some (.int .u32 a1_1) := (iE BK227.out 1).trans rfl
     have hcz18_2 : w5.cell? ⟨gb227, 2, none⟩ = some (.int .u32 a1_2) := (iE BK227.out 2).trans rfl
     have hcz18_3 : w5.cell? ⟨gb227, 3, none⟩ = some (.slice A1_3 l1_3.length c1_3) := (iE BK227.out 3).trans rfl
     have hcz18_4 : w5.cell? ⟨gb227, 4, none⟩ = some (.slice A1_4 l1_4.length c1_4) := (iE BK227.out 4).trans rfl
     have hcz18_5 : w5.cell? ⟨gb227, 5, none⟩ = some (.int .u32 a1_5) := (iE BK227.out 5).trans rfl
     have hcz18_6 : w5.cell? ⟨gb227, 6, none⟩ = some (.slice A1_6 l1_6.length c1_6) := (iE BK227.out 6).trans rfl
     have hcz18_7 : w5.cell? ⟨gb227, 7, none⟩ = some (.int .i64 a1_7) := (iE BK227.out 7).trans rfl
     have hcz18_8 : w5.cell? ⟨gb227, 8, none⟩ = some (.int .i64 a1_8) := (iE BK227.out 8).trans rfl
     have hcz18_9 : w5.cell? ⟨gb227, 9, none⟩ = some (.slice A1_9 l1_9.length c1_9) := (iE BK227.out 9).trans rfl
     have hfz18_0 := iD BK227.out 0
     have hfz18_1 := iD BK227.out 1
     have hfz18_2 := iD BK227.out 2
     have hfz18_3 := iD BK227.out 3
     have hfz18_4 := iD BK227.out 4
     have hfz18_5 := iD BK227.out 5
     have hfz18_6 := iD BK227.out 6
     have hfz18_7 := iD BK227.out 7
     have hfz18_8 := iD BK227.out 8
     have hfz18_9 := iD BK227.out 9
     go_wp2
     go_meet
     case rel => exact ⟨_, (false), (by first | rfl | (simp; done) | (simp [*]; done)), H', ⟨by first | omega | exact Nat.le_refl _⟩, ⟨bk_ BK226.out⟩, ⟨bk_ BK227.out⟩, ⟨by repeat (first | (with_reducible first | exact HB.out | apply iG | apply iF | apply iJ | refine iH ?_ GE226.out | refine iH ?_ GE227.out) | exact HB.out)⟩⟩
   ·rw [if_neg c7] at H
    have c7b0 : (a0_1 == a1_1) = false := beq_eq_false_iff_ne.mpr c7
    have c7b1 : (a0_1 != a1_1) = true := bne_iff_ne.mpr c7
    have H' := iC.mk H
    clear H
    have hnb19 := NB226_227.out
    have hnc19 := NB227_226.out
    have hcz20_0 : w5.cell? ⟨gb226, 0, none⟩ = some (.int .u8 a0_0) := (iE BK226.out 0).trans rfl
    have hcz20_1 : w5.cell? ⟨gb226, 1, none⟩ = some (.int .u32 a0_1) := (iE BK226.out 1).trans rfl
    have hcz20_2 : w5.cell? ⟨gb226, 2, none⟩ = some (.int .u32 a0_2) := (iE BK226.out 2).trans rfl
    have hcz20_3 : w5.cell? ⟨gb226, 3, none⟩ = some (.slice A0_3 l0_3.length c0_3) := (iE BK226.out 3).trans rfl
    have hcz20_4 : w5.cell? ⟨gb226, 4, none⟩ = some (.slice A0_4 l0_4.length c0_4) := (iE BK226.out 4).trans rfl
    have hcz20_5 : w5.cell? ⟨gb226, 5, none⟩ = some (.int .u32 a0_5) := (iE BK226.out 5).trans rfl
    have hcz20_6 : w5.cell? ⟨gb226, 6, none⟩ = some (.slice A0_6 l0_6.length c0_6) := (iE BK226.out 6).trans rfl
    have hcz20_7 : w5.cell? ⟨gb226, 7, none⟩ = some (.int .i64 a0_7) := (iE BK226.out 7).trans rfl
    have hcz20_8 : w5.cell? ⟨gb226, 8, none⟩ = some (.int .i64 a0_8) := (iE BK226.out 8).trans rfl
    have hcz20_9 : w5.cell? ⟨gb226, 9, none⟩ = some (.slice A0_9 l0_9.length c0_9) := (iE BK226.out 9).trans rfl
    have hfz20_0 := iD BK226.out 0
    have hfz20_1 := iD BK226.out 1
    have hfz20_2 := iD BK226.out 2
    have hfz20_3 := iD BK226.out 3
    have hfz20_4 := iD BK226.out 4
    have hfz20_5 := iD BK226.out 5
    have hfz20_6 := iD BK226.out 6
    have hfz20_7 := iD BK226.out 7
    have hfz20_8 := iD BK226.out 8
    have hfz20_9 := iD BK226.out 9
    have hcz21_0 : w5.cell? ⟨gb227, 0, none⟩ = some (.int .u8 a1_0) := (iE BK227.out 0).trans rfl
    have hcz21_1 : w5.cell? ⟨gb227, 1, none⟩ = some (.int .u32 a1_1) := (iE BK227.out 1).trans rfl
    have hcz21_2 : w5.cell? ⟨gb227, 2, none⟩ = some (.int .u32 a1_2) := (iE BK227.out 2).trans rfl
    have hcz21_3 : w5.cell? ⟨gb227, 3, none⟩ = some (.slice A1_3 l1_3.length c1_3) := (iE BK227.out 3).trans rfl
    have hcz21_4 : w5.cell? ⟨gb227, 4, none⟩ = some (.slice A1_4 l1_4.length c1_4) := (iE BK227.out 4).trans rfl
    have hcz21_5 : w5.cell? ⟨gb227, 5, none⟩ = some (.int .u32 a1_5) := (iE BK227.out 5).trans rfl
    have hcz21_6 : w5.cell? ⟨gb227, 6, none⟩ = some (.slice A1_6 l1_6.length c1_6) := (iE BK227.out 6).trans rfl
    have hcz21_7 : w5.cell? ⟨gb227, 7, none⟩ = some (.int .i64 a1_7) := (iE BK227.out 7).trans rfl
    have hcz21_8 : w5.cell? ⟨gb227, 8, none⟩ = some (.int .i64 a1_8) := (iE BK227.out 8).trans rfl
    have hcz21_9 : w5.cell? ⟨gb227, 9, none⟩ = some (.slice A1_9 l1_9.length c1_9) := (iE BK227.out 9).trans rfl
    have hfz21_0 := iD BK227.out 0
    have hfz21_1 := iD BK227.out 1
    have hfz21_2 := iD BK227.out 2
    have hfz21_3 := iD BK227.out 3
    have hfz21_4 := iD BK227.out 4
    have hfz21_5 := iD BK227.out 5
    have hfz21_6 := iD BK227.out 6
    have hfz21_7 := iD BK227.out 7
    have hfz21_8 := iD BK227.out 8
    have hfz21_9 := iD BK227.out 9
    go_wp2
    go_meet
    case rel => exact ⟨_, (false), (by first | rfl | (simp; done) | (simp [*]; done)), H', ⟨by first | omega | exact Nat.le_refl _⟩, ⟨bk_ BK226.out⟩, ⟨bk_ BK227.out⟩, ⟨by repeat (first | (with_reducible first | exact HB.out | apply iG | apply iF | apply iJ | refine iH ?_ GE226.out | refine iH ?_ GE227.out) | exact HB.out)⟩⟩
  ·rw [if_neg c6] at H
   have c6b0 : (a0_0 == a1_0) = false := beq_eq_false_iff_ne.mpr c6
   have c6b1 : (a0_0 != a1_0) = true := bne_iff_ne.mpr c6
   (first | rw [c6b0] | (simp only [iR, jG]; rw [c6b0]) | skip)
   have H' := iC.mk H
   clear H
   have hnb22 := NB226_227.out
   have hnc22 := NB227_226.out
   have hcz23_0 : w5.cell? ⟨gb226, 0, none⟩ = some (.int .u8 a0_0) := (iE BK226.out 0).trans rfl
   have hcz23_1 : w5.cell? ⟨gb226, 1, none⟩ = some (.int .u32 a0_1) := (iE BK226.out 1).trans rfl
   have hcz23_2 : w5.cell? ⟨gb226, 2, none⟩ = some (.int .u32 a0_2) := (iE BK226.out 2).trans rfl
   have hcz23_3 : w5.cell? ⟨gb226, 3, none⟩ = some (.slice A0_3 l0_3.length c0_3) := (iE BK226.out 3).trans rfl
   have hcz23_4 : w5.cell? ⟨gb226, 4, none⟩ = some (.slice A0_4 l0_4.length c0_4) := (iE BK226.out 4).trans rfl
   have hcz23_5 : w5.cell? ⟨gb226, 5, none⟩ = some (.int .u32 a0_5) := (iE BK226.out 5).trans rfl
   have hcz23_6 : w5.cell? ⟨gb226, 6, none⟩ = some (.slice A0_6 l0_6.length c0_6) := (iE BK226.out 6).trans rfl
   have hcz23_7 : w5.cell? ⟨gb226, 7, none⟩ = some (.int .i64 a0_7) := (iE BK226.out 7).trans rfl
   have hcz23_8 : w5.cell? ⟨gb226, 8, none⟩ = some (.int .i64 a0_8) := (iE BK226.out 8).trans rfl
   have hcz23_9 : w5.cell? ⟨gb226, 9, none⟩ = some (.slice A0_9 l0_9.length c0_9) := (iE BK226.out 9).trans rfl
   have hfz23_0 := iD BK226.out 0
   have hfz23_1 := iD BK226.out 1
   have hfz23_2 := iD BK226.out 2
   have hfz23_3 := iD BK226.out 3
   have hfz23_4 := iD BK226.out 4
   have hfz23_5 := iD BK226.out 5
   have hfz23_6 := iD BK226.out 6
   have hfz23_7 := iD BK226.out 7
   have hfz23_8 := iD BK226.out 8
   have hfz23_9 := iD BK226.out 9
   have hcz24_0 : w5.cell? ⟨gb227, 0, none⟩ = some (.int .u8 a1_0) := (iE BK227.out 0).trans rfl
   have hcz24_1 : w5.cell? ⟨gb227, 1, none⟩ = some (.int .u32 a1_1) := (iE BK227.out 1).trans rfl
   have hcz24_2 : w5.cell? ⟨gb227, 2, none⟩ = some (.int .u32 a1_2) := (iE BK227.out 2).trans rfl
   have hcz24_3 : w5.cell? ⟨gb227, 3, none⟩ = some (.slice A1_3 l1_3.length c1_3) := (iE BK227.out 3).trans rfl
   have hcz24_4 : w5.cell? ⟨gb227, 4, none⟩ = some (.slice A1_4 l1_4.length c1_4) := (iE BK227.out 4).trans rfl
   have hcz24_5 : w5.cell? ⟨gb227, 5, none⟩ = some (.int .u32 a1_5) := (iE BK227.out 5).trans rfl
   have hcz24_6 : w5.cell? ⟨gb227, 6, none⟩ = some (.slice A1_6 l1_6.length c1_6) := (iE BK227.out 6).trans rfl
   have hcz24_7 : w5.cell? ⟨gb227, 7, none⟩ = some (.int .i64 a1_7) := (iE BK227.out 7).trans rfl
   have hcz24_8 : w5.cell? ⟨gb227, 8, none⟩ = some (.int .i64 a1_8) := (iE BK227.out 8).trans rfl
   have hcz24_9 : w5.cell? ⟨gb227, 9, none⟩ = some (.slice A1_9 l1_9.length c1_9) := (iE BK227.out 9).trans rfl
   have hfz24_0 := iD BK227.out 0
   have hfz24_1 := iD BK227.out 1
   have hfz24_2 := iD BK227.out 2
   have hfz24_3 := iD BK227.out 3
   have hfz24_4 := iD BK227.out 4
   have hfz24_5 := iD BK227.out 5
   have hfz24_6 := iD BK227.out 6
   have hfz24_7 := iD BK227.out 7
   have hfz24_8 := iD BK227.out 8
   have hfz24_9 := iD BK227.out 9
   go_wp2
   go_meet
   case rel => exact ⟨_, (false), (by first | rfl | (simp; done) | (simp [*]; done)), H', ⟨by first | omega | exact Nat.le_refl _⟩, ⟨bk_ BK226.out⟩, ⟨bk_ BK227.out⟩, ⟨by repeat (first | (with_reducible first | exact HB.out | apply iG | apply iF | apply iJ | refine iH ?_ GE226.out | refine iH ?_ GE227.out) | exact HB.out)⟩⟩
 case rest =>
  clear HC3
  try clear c1
  try clear c2
  try clear p2
  try clear c6
  try clear c6b0
  try clear c6b1
  try clear c7
  try clear c7b0
  try clear c7b1
  try clear c8
  try clear c8b0
  try clear c8b1
  try clear c9
  try clear c9b0
  try clear c9b1
  try clear c10
  try clear c13
  try clear c16
  try clear c19
  try clear c22
  try clear c23
  try clear hcz11_0
  try clear hcz11_1
  try clear hcz11_2
  try clear hcz11_3
  try clear hcz11_4
  try clear hcz11_5
  try clear hcz11_6
  try clear hcz11_7
  try clear hcz11_8
  try clear hcz11_9
  try clear hcz12_0
  try clear hcz12_1
  try clear hcz12_2
  try clear hcz12_3
  try clear hcz12_4
  try clear hcz12_5
  try clear hcz12_6
  try clear hcz12_7
  try clear hcz12_8
  try clear hcz12_9
  try clear hcz14_0
  try clear hcz14_1
  try clear hcz14_2
  try clear hcz14_3
  try clear hcz14_4
  try clear hcz14_5
  try clear hcz14_6
  try clear hcz14_7
  try clear hcz14_8
  try clear hcz14_9
  try clear hcz15_0
  try clear hcz15_1
  try clear hcz15_2
  try clear hcz15_3
  try clear hcz15_4
  try clear hcz15_5
  try clear hcz15_6
  try clear hcz15_7
  try clear hcz15_8
  try clear hcz15_9
  try clear hcz17_0
  try clear hcz17_1
  try clear hcz17_2
  try clear hcz17_3
  try clear hcz17_4
  try clear hcz17_5
  try clear hcz17_6
  try clear hcz17_7
  try clear hcz17_8
  try clear hcz17_9
  try clear hcz18_0
  try clear hcz18_1
  try clear hcz18_2
  try clear hcz18_3
  try clear hcz18_4
  try clear hcz18_5
  try clear hcz18_6
  try clear hcz18_7
  try clear hcz18_8
  try clear hcz18_9
  try clear hcz20_0
  try clear hcz20_1
  try clear hcz20_2
  try clear hcz20_3
  try clear hcz20_4
  try clear hcz20_5
  try clear hcz20_6
  try clear hcz20_7
  try clear hcz20_8
  try clear hcz20_9
  try clear hcz21_0
  try clear hcz21_1
  try clear hcz21_2
  try clear hcz21_3
  try clear hcz21_4
  try clear hcz21_5
  try clear hcz21_6
  try clear hcz21_7
  try clear hcz21_8
  try clear hcz21_9
  try clear hcz23_0
  try clear hcz23_1
  try clear hcz23_2
  try clear hcz23_3
  try clear hcz23_4
  try clear hcz23_5
  try clear hcz23_6
  try clear hcz23_7
  try clear hcz23_8
  try clear hcz23_9
  try clear hcz24_0
  try clear hcz24_1
  try clear hcz24_2
  try clear hcz24_3
  try clear hcz24_4
  try clear hcz24_5
  try clear hcz24_6
  try clear hcz24_7
  try clear hcz24_8
  try clear hcz24_9
  try clear hfz11_0
  try clear hfz11_1
  try clear hfz11_2
  try clear hfz11_3
  try clear hfz11_4
  try clear hfz11_5
  try clear hfz11_6
  try clear hfz11_7
  try clear hfz11_8
  try clear hfz11_9
  try clear hfz12_0
  try clear hfz12_1
  try clear hfz12_2
  try clear hfz12_3
  try clear hfz12_4
  try clear hfz12_5
  try clear hfz12_6
  try clear hfz12_7
  try clear hfz12_8
  try clear hfz12_9
  try clear hfz14_0
  try clear hfz14_1
  try clear hfz14_2
  try clear hfz14_3
  try clear hfz14_4
  try clear hfz14_5
  try clear hfz14_6
  try clear hfz14_7
  try clear hfz14_8
  try clear hfz14_9
  try clear hfz15_0
  try clear hfz15_1
  try clear hfz15_2
  try clear hfz15_3
  try clear hfz15_4
  try clear hfz15_5
  try clear hfz15_6
  try clear hfz15_7
  try clear hfz15_8
  try clear hfz15_9
  try clear hfz17_0
  try clear hfz17_1
  try clear hfz17_2
  try clear hfz17_3
  try clear hfz17_4
  try clear hfz17_5
  try clear hfz17_6
  try clear hfz17_7
  try clear hfz17_8
  try clear hfz17_9
  try clear hfz18_0
  try clear hfz18_1
  try clear hfz18_2
  try clear hfz18_3
  try clear hfz18_4
  try clear hfz18_5
  try clear hfz18_6
  try clear hfz18_7
  try clear hfz18_8
  try clear hfz18_9
  try clear hfz20_0
  try clear hfz20_1
  try clear hfz20_2
  try clear hfz20_3
  try clear hfz20_4
  try clear hfz20_5
  try clear hfz20_6
  try clear hfz20_7
  try clear hfz20_8
  try clear hfz20_9
  try clear hfz21_0
  try clear hfz21_1
  try clear hfz21_2
  try clear hfz21_3
  try clear hfz21_4
  try clear hfz21_5
  try clear hfz21_6
  try clear hfz21_7
  try clear hfz21_8
  try clear hfz21_9
  try clear hfz23_0
  try clear hfz23_1
  try clear hfz23_2
  try clear hfz23_3
  try clear hfz23_4
  try clear hfz23_5
  try clear hfz23_6
  try clear hfz23_7
  try clear hfz23_8
  try clear hfz23_9
  try clear hfz24_0
  try clear hfz24_1
  try clear hfz24_2
  try clear hfz24_3
  try clear hfz24_4
  try clear hfz24_5
  try clear hfz24_6
  try clear hfz24_7
  try clear hfz24_8
  try clear hfz24_9
  obtain ⟨kq, x5_2, rfl, HA, HJ2, BK226, BK227, HB⟩ := hcut
  cases kq with
  | zero => exact absurd HA.out (by simp [stratumref07_Same.j0])
  | succ kj2 =>
   have H := HA.out
   clear HA
   simp only [stratumref07_Same.j0] at H
   by_cases c25 : x5_2 = true
   ·subst c25
    have H1 : ((stratumref07_SameInts.f kj2 l0_3 l1_3).bind fun t228 => (if t228 = true then ((stratumref07_SameFacts.f kj2 l0_4 l1_4).bind fun t229 => (if t229 = true then ((stratumref07_SameMap.f kj2 a0_5 l0_6 a1_5 l1_6).bind fun t230 => (if t230 = true then ((stratumref07_SameEntries.f l0_9 l1_9).bind fun t231 => (some t231)) else (some false))) else (some false))) else (some false))) = some r := by rw [if_pos rfl] at H; exact H
    clear H
    have H := H1
    clear H1
    replace H := Option.bind_eq_some_iff.mp H
    obtain ⟨t228, A260, H⟩ := H
    replace H : (if t228 = true then ((stratumref07_SameFacts.f kj2 l0_4 l1_4).bind fun t229 => (if t229 = true then ((stratumref07_SameMap.f kj2 a0_5 l0_6 a1_5 l1_6).bind fun t230 => (if t230 = true then ((stratumref07_SameEntries.f l0_9 l1_9).bind fun t231 => (some t231)) else (some false))) else (some false))) else (some false)) = some r := H
    have A26 := iC.mk A260
    clear A260
    by_cases c27 : t228 = true
    ·subst c27
     have H1 : ((stratumref07_SameFacts.f kj2 l0_4 l1_4).bind fun t229 => (if t229 = true then ((stratumref07_SameMap.f kj2 a0_5 l0_6 a1_5 l1_6).bind fun t230 => (if t230 = true then ((stratumref07_SameEntries.f l0_9 l1_9).bind fun t231 => (some t231)) else (some false))) else (some false))) = some r := by rw [if_pos rfl] at H; exact H
     clear H
     have H := H1
     clear H1
     replace H := Option.bind_eq_some_iff.mp H
     obtain ⟨t229, A280, H⟩ := H
     replace H : (if t229 = true then ((stratumref07_SameMap.f kj2 a0_5 l0_6 a1_5 l1_6).bind fun t230 => (if t230 = true then ((stratumref07_SameEntries.f l0_9 l1_9).bind fun t231 => (some t231)) else (some false))) else (some false)) = some r := H
     have A28 := iC.mk A280
     clear A280
     by_cases c29 : t229 = true
     ·subst c29
      have H1 : ((stratumref07_SameMap.f kj2 a0_5 l0_6 a1_5 l1_6).bind fun t230 => (if t230 = true then ((stratumref07_SameEntries.f l0_9 l1_9).bind fun t231 => (some t231)) else (some false))) = some r := by rw [if_pos rfl] at H; exact H
      clear H
      have H := H1
      clear H1
      replace H := Option.bind_eq_some_iff.mp H
      obtain ⟨t230, A300, H⟩ := H
      replace H : (if t230 = true then ((stratumref07_SameEntries.f l0_9 l1_9).bind fun t231 => (some t231)) else (some false)) = some r := H
      have A30 := iC.mk A300
      clear A300
      by_cases c31 : t230 = true
      ·subst c31
       have H1 : ((stratumref07_SameEntries.f l0_9 l1_9).bind fun t231 => (some t231)) = some r := by rw [if_pos rfl] at H; exact H
       clear H
       have H := H1
       clear H1
       replace H := Option.bind_eq_some_iff.mp H
       obtain ⟨t231, A320, H⟩ := H
       replace H : (some t231) = some r := H
       have A32 := iC.mk A320
       clear A320
       obtain rfl := Option.some.inj H
       have hnb33 := NB226_227.out
       have hnc33 := NB227_226.out
       have hcz34_0 : wc.cell? ⟨gb226, 0, none⟩ = some (.int .u8 a0_0) := (iE BK226.out 0).trans rfl
       have hcz34_1 : wc.cell? ⟨gb226, 1, none⟩ = some (.int .u32 a0_1) := (iE BK226.out 1).trans rfl
       have hcz34_2 : wc.cell? ⟨gb226, 2, none⟩ = some (.int .u32 a0_2) := (iE BK226.out 2).trans rfl
       have hcz34_3 : wc.cell? ⟨gb226, 3, none⟩ = some (.slice A0_3 l0_3.length c0_3) := (iE BK226.out 3).trans rfl
       have hcz34_4 : wc.cell? ⟨gb226, 4, none⟩ = some (.slice A0_4 l0_4.length c0_4) := (iE BK226.out 4).trans rfl
       have hcz34_5 : wc.cell? ⟨gb226, 5, none⟩ = some (.int .u32 a0_5) := (iE BK226.out 5).trans rfl
       have hcz34_6 : wc.cell? ⟨gb226, 6, none⟩ = some (.slice A0_6 l0_6.length c0_6) := (iE BK226.out 6).trans rfl
       have hcz34_7 : wc.cell? ⟨gb226, 7, none⟩ = some (.int .i64 a0_7) := (iE BK226.out 7).trans rfl
       have hcz34_8 : wc.cell? ⟨gb226, 8, none⟩ = some (.int .i64 a0_8) := (iE BK226.out 8).trans rfl
       have hcz34_9 : wc.cell? ⟨gb226, 9, none⟩ = some (.slice A0_9 l0_9.length c0_9) := (iE BK226.out 9).trans rfl
       have hfz34_0 := iD BK226.out 0
       have hfz34_1 := iD BK226.out 1
       have hfz34_2 := iD BK226.out 2
       have hfz34_3 := iD BK226.out 3
       have hfz34_4 := iD BK226.out 4
       have hfz34_5 := iD BK226.out 5
       have hfz34_6 := iD BK226.out 6
       have hfz34_7 := iD BK226.out 7
       have hfz34_8 := iD BK226.out 8
       have hfz34_9 := iD BK226.out 9
       have hcz35_0 : wc.cell? ⟨gb227, 0, none⟩ = some (.int .u8 a1_0) := (iE BK227.out 0).trans rfl
       have hcz35_1 : wc.cell? ⟨gb227, 1, none⟩ = some (.int .u32 a1_1) := (iE BK227.out 1).trans rfl
       have hcz35_2 : wc.cell? ⟨gb227, 2, none⟩ = some (.int .u32 a1_2) := (iE BK227.out 2).trans rfl
       have hcz35_3 : wc.cell? ⟨gb227, 3, none⟩ = some (.slice A1_3 l1_3.length c1_3) := (iE BK227.out 3).trans rfl
       have hcz35_4 : wc.cell? ⟨gb227, 4, none⟩ = some (.slice A1_4 l1_4.length c1_4) := (iE BK227.out 4).trans rfl
       have hcz35_5 : wc.cell? ⟨gb227, 5, none⟩ = some (.int .u32 a1_5) := (iE BK227.out 5).trans rfl
       have hcz35_6 : wc.cell? ⟨gb227, 6, none⟩ = some (.slice A1_6 l1_6.length c1_6) := (iE BK227.out 6).trans rfl
       have hcz35_7 : wc.cell? ⟨gb227, 7, none⟩ = some (.int .i64 a1_7) := (iE BK227.out 7).trans rfl
       have hcz35_8 : wc.cell? ⟨gb227, 8, none⟩ = some (.int .i64 a1_8) := (iE BK227.out 8).trans rfl
       have hcz35_9 : wc.cell? ⟨gb227, 9, none⟩ = some (.slice A1_9 l1_9.length c1_9) := (iE BK227.out 9).trans rfl
       have hfz35_0 := iD BK227.out 0
       have hfz35_1 := iD BK227.out 1
       have hfz35_2 := iD BK227.out 2
       have hfz35_3 := iD BK227.out 3
       have hfz35_4 := iD BK227.out 4
       have hfz35_5 := iD BK227.out 5
       have hfz35_6 := iD BK227.out 6
       have hfz35_7 := iD BK227.out 7
       have hfz35_8 := iD BK227.out 8
       have hfz35_9 := iD BK227.out 9
       go_wp2_with (first | (go_at_call 35; (with_reducible refine (stratumref07_SameInts.calls kj2 _ _ l0_3 _ _ l1_3 true _ ?side1 ?side2 ?side3 ?side4 A26.out).mono ?_); (case side1 => repeat (first | exact (Kd.C_below HR0_3.out HB.out) | (with_reducible refine Kd.C_alloc ?_ _) | (with_reducible refine Kd.C_drewN ?_ _) | (with_reducible refine Kd.C_drew ?_))); (case side2 => exact HC0_3.out); (case side3 => repeat (first | exact (Kd.C_below HR1_3.out HB.out) | (with_reducible refine Kd.C_alloc ?_ _) | (with_reducible refine Kd.C_drewN ?_ _) | (with_reducible refine Kd.C_drew ?_))); (case side4 => exact HC1_3.out); rintro e w' ⟨rfl, ⟨nd, rfl⟩⟩) | (go_at_call 76; (with_reducible refine (stratumref07_SameFacts.calls kj2 _ _ l0_4 _ _ l1_4 true _ ?side1 ?side2 ?side3 ?side4 A28.out).mono ?_); (case side1 => repeat (first | exact (Kd.C_below HR0_4.out (by repeat (first | (with_reducible first | exact HB.out | apply iG | apply iF | apply iJ | refine iH ?_ GE226.out | refine iH ?_ GE227.out) | exact HB.out))) | (with_reducible refine Kd.C_alloc ?_ _) | (with_reducible refine Kd.C_drewN ?_ _) | (with_reducible refine Kd.C_drew ?_))); (case side2 => exact HC0_4.out); (case side3 => repeat (first | exact (Kd.C_below HR1_4.out (by repeat (first | (with_reducible first | exact HB.out | apply iG | apply iF | apply iJ | refine iH ?_ GE226.out | refine iH ?_ GE227.out) | exact HB.out))) | (with_reducible refine Kd.C_alloc ?_ _) | (with_reducible refine Kd.C_drewN ?_ _) | (with_reducible refine Kd.C_drew ?_))); (case side4 => exact HC1_4.out); rintro e w36 ⟨rfl, hb⟩; have n0_ := iC.mk (jS (g := gb226) (o := .cells #[.int .u8 a0_0, .int .u32 a0_1, .int .u32 a0_2, .slice A0_3 l0_3.length c0_3, .slice A0_4 l0_4.length c0_4, .int .u32 a0_5, .slice A0_6 l0_6.length c0_6, .int .i64 a0_7, .int .i64 a0_8, .slice A0_9 l0_9.length c0_9] 30 (0, 0)) (bk_ BK226.out) hb); have n1_ := iC.mk (jS (g := gb227) (o := .cells #[.int .u8 a1_0, .int .u32 a1_1, .int .u32 a1_2, .slice A1_3 l1_3.length c1_3, .slice A1_4 l1_4.length c1_4, .int .u32 a1_5, .slice A1_6 l1_6.length c1_6, .int .i64 a1_7, .int .i64 a1_8, .slice A1_9 l1_9.length c1_9] 30 (0, 0)) (bk_ BK227.out) hb); have n2_ := iC.mk (iK (by repeat (first | (with_reducible first | exact HB.out | apply iG | apply iF | apply iJ | refine iH ?_ GE226.out | refine iH ?_ GE227.out) | exact HB.out)) hb); clear BK226; clear BK227; clear HB; have BK226 := n0_; have BK227 := n1_; have HB := n2_; clear n0_ n1_ n2_; (try clear hb); (try clear hb2); (try clear hk); (try clear hi); have hcz37_0 : w36.cell? ⟨gb226, 0, none⟩ = some (.int .u8 a0_0) := (iE BK226.out 0).trans rfl; have hcz37_1 : w36.cell? ⟨gb226, 1, none⟩ = some (.int .u32 a0_1) := (iE BK226.out 1).trans rfl; have hcz37_2 : w36.cell? ⟨gb226, 2, none⟩ = some (.int .u32 a0_2) := (iE BK226.out 2).trans rfl; have hcz37_3 : w36.cell? ⟨gb226, 3, none⟩ = some (.slice A0_3 l0_3.length c0_3) := (iE BK226.out 3).trans rfl; have hcz37_4 : w36.cell? ⟨gb226, 4, none⟩ = some (.slice A0_4 l0_4.length c0_4) := (iE BK226.out 4).trans rfl; have hcz37_5 : w36.cell? ⟨gb226, 5, none⟩ = some (.int .u32 a0_5) := (iE BK226.out 5).trans rfl; have hcz37_6 : w36.cell? ⟨gb226, 6, none⟩ = some (.slice A0_6 l0_6.length c0_6) := (iE BK226.out 6).trans rfl; have hcz37_7 : w36.cell? ⟨gb226, 7, none⟩ = some (.int .i64 a0_7) := (iE BK226.out 7).trans rfl; have hcz37_8 : w36.cell? ⟨gb226, 8, none⟩ = some (.int .i64 a0_8) := (iE BK226.out 8).trans rfl; have hcz37_9 : w36.cell? ⟨gb226, 9, none⟩ = some (.slice A0_9 l0_9.length c0_9) := (iE BK226.out 9).trans rfl; have hfz37_0 := iD BK226.out 0; have hfz37_1 := iD BK226.out 1; have hfz37_2 := iD BK226.out 2; have hfz37_3 := iD BK226.out 3; have hfz37_4 := iD BK226.out 4; have hfz37_5 := iD BK226.out 5; have hfz37_6 := iD BK226.out 6; have hfz37_7 := iD BK226.out 7; have hfz37_8 := iD BK226.out 8; have hfz37_9 := iD BK226.out 9; have hcz38_0 : w36.cell? ⟨gb227, 0, none⟩ = some (.int .u8 a1_0) := (iE BK227.out 0).trans rfl; have hcz38_1 : w36.cell? ⟨gb227, 1, none⟩ = some (.int .u32 a1_1) := (iE BK227.out 1).trans rfl; have hcz38_2 : w36.cell? ⟨gb227, 2, none⟩ = some (.int .u32 a1_2) := (iE BK227.out 2).trans rfl; have hcz38_3 : w36.cell? ⟨gb227, 3, none⟩ = some (.slice A1_3 l1_3.length c1_3) := (iE BK227.out 3).trans rfl; have hcz38_4 : w36.cell? ⟨gb227, 4, none⟩ = some (.slice A1_4 l1_4.length c1_4) := (iE BK227.out 4).trans rfl; have hcz38_5 : w36.cell? ⟨gb227, 5, none⟩ = some (.int .u32 a1_5) := (iE BK227.out 5).trans rfl; have hcz38_6 : w36.cell? ⟨gb227, 6, none⟩ = some (.slice A1_6 l1_6.length c1_6) := (iE BK227.out 6).trans rfl; have hcz38_7 : w36.cell? ⟨gb227, 7, none⟩ = some (.int .i64 a1_7) := (iE BK227.out 7).trans rfl; have hcz38_8 : w36.cell? ⟨gb227, 8, none⟩ = some (.int .i64 a1_8) := (iE BK227.out 8).trans rfl; have hcz38_9 : w36.cell? ⟨gb227, 9, none⟩ = some (.slice A1_9 l1_9.length c1_9) := (iE BK227.out 9).trans rfl; have hfz38_0 := iD BK227.out 0; have hfz38_1 := iD BK227.out 1; have hfz38_2 := iD BK227.out 2; have hfz38_3 := iD BK227.out 3; have hfz38_4 := iD BK227.out 4; have hfz38_5 := iD BK227.out 5; have hfz38_6 := iD BK227.out 6; have hfz38_7 := iD BK227.out 7; have hfz38_8 := iD BK227.out 8; have hfz38_9 := iD BK227.out 9) | (go_at_call 77; (with_reducible refine (stratumref07_SameMap.calls kj2 a0_5 _ _ l0_6 a1_5 _ _ l1_6 true _ ?side1 ?side2 ?side3 ?side4 A30.out).mono ?_); (case side1 => repeat (first | exact (Kd.C_below HR0_6.out HB.out) | (with_reducible refine Kd.C_alloc ?_ _) | (with_reducible refine Kd.C_drewN ?_ _) | (with_reducible refine Kd.C_drew ?_))); (case side2 => exact HC0_6.out); (case side3 => repeat (first | exact (Kd.C_below HR1_6.out HB.out) | (with_reducible refine Kd.C_alloc ?_ _) | (with_reducible refine Kd.C_drewN ?_ _) | (with_reducible refine Kd.C_drew ?_))); (case side4 => exact HC1_6.out); rintro e w39 ⟨rfl, hb⟩; have n0_ := iC.mk (jS (g := gb226) (o := .cells #[.int .u8 a0_0, .int .u32 a0_1, .int .u32 a0_2, .slice A0_3 l0_3.length c0_3, .slice A0_4 l0_4.length c0_4, .int .u32 a0_5, .slice A0_6 l0_6.length c0_6, .int .i64 a0_7, .int .i64 a0_8, .slice A0_9 l0_9.length c0_9] 30 (0, 0)) (bk_ BK226.out) hb); have n1_ := iC.mk (jS (g := gb227) (o := .cells #[.int .u8 a1_0, .int .u32 a1_1, .int .u32 a1_2, .slice A1_3 l1_3.length c1_3, .slice A1_4 l1_4.length c1_4, .int .u32 a1_5, .slice A1_6 l1_6.length c1_6, .int .i64 a1_7, .int .i64 a1_8, .slice A1_9 l1_9.length c1_9] 30 (0, 0)) (bk_ BK227.out) hb); have n2_ := iC.mk (iK (by repeat (first | (with_reducible first | exact HB.out | apply iG | apply iF | apply iJ | refine iH ?_ GE226.out | refine iH ?_ GE227.out) | exact HB.out)) hb); clear BK226; clear BK227; clear HB; have BK226 := n0_; have BK227 := n1_; have HB := n2_; clear n0_ n1_ n2_; (try clear hb); (try clear hb2); (try clear hk); (try clear hi); have hcz40_0 : w39.cell? ⟨gb226, 0, none⟩ = some (.int .u8 a0_0) := (iE BK226.out 0).trans rfl; have hcz40_1 : w39.cell? ⟨gb226, 1, none⟩ = some (.int .u32 a0_1) := (iE BK226.out 1).trans rfl; have hcz40_2 : w39.cell? ⟨gb226, 2, none⟩ = some (.int .u32 a0_2) := (iE BK226.out 2).trans rfl; have hcz40_3 : w39.cell? ⟨gb226, 3, none⟩ = some (.slice A0_3 l0_3.length c0_3) := (iE BK226.out 3).trans rfl; have hcz40_4 : w39.cell? ⟨gb226, 4, none⟩ = some (.slice A0_4 l0_4.length c0_4) := (iE BK226.out 4).trans rfl; have hcz40_5 : w39.cell? ⟨gb226, 5, none⟩ = some (.int .u32 a0_5) := (iE BK226.out 5).trans rfl; have hcz40_6 : w39.cell? ⟨gb226, 6, none⟩ = some (.slice A0_6 l0_6.length c0_6) := (iE BK226.out 6).trans rfl; have hcz40_7 : w39.cell? ⟨gb226, 7, none⟩ = some (.int .i64 a0_7) := (iE BK226.out 7).trans rfl; have hcz40_8 : w39.cell? ⟨gb226, 8, none⟩ = some (.int .i64 a0_8) := (iE BK226.out 8).trans rfl; have hcz40_9 : w39.cell? ⟨gb226, 9, none⟩ = some (.slice A0_9 l0_9.length c0_9) := (iE BK226.out 9).trans rfl; have hfz40_0 := iD BK226.out 0; have hfz40_1 := iD BK226.out 1; have hfz40_2 := iD BK226.out 2; have hfz40_3 := iD BK226.out 3; have hfz40_4 := iD BK226.out 4; have hfz40_5 := iD BK226.out 5; have hfz40_6 := iD BK226.out 6; have hfz40_7 := iD BK226.out 7; have hfz40_8 := iD BK226.out 8; have hfz40_9 := iD BK226.out 9; have hcz41_0 : w39.cell? ⟨gb227, 0, none⟩ = some (.int .u8 a1_0) := (iE BK227.out 0).trans rfl; have hcz41_1 : w39.cell? ⟨gb227, 1, none⟩ = some (.int .u32 a1_1) := (iE BK227.out 1).trans rfl; have hcz41_2 : w39.cell? ⟨gb227, 2, none⟩ = some (.int .u32 a1_2) := (iE BK227.out 2).trans rfl; have hcz41_3 : w39.cell? ⟨gb227, 3, none⟩ = some (.slice A1_3 l1_3.length c1_3) := (iE BK227.out 3).trans rfl; have hcz41_4 : w39.cell? ⟨gb227, 4, none⟩ = some (.slice A1_4 l1_4.length c1_4) := (iE BK227.out 4).trans rfl; have hcz41_5 : w39.cell? ⟨gb227, 5, none⟩ = some (.int .u32 a1_5) := (iE BK227.out 5).trans rfl; have hcz41_6 : w39.cell? ⟨gb227, 6, none⟩ = some (.slice A1_6 l1_6.length c1_6) := (iE BK227.out 6).trans rfl; have hcz41_7 : w39.cell? ⟨gb227, 7, none⟩ = some (.int .i64 a1_7) := (iE BK227.out 7).trans rfl; have hcz41_8 : w39.cell? ⟨gb227, 8, none⟩ = some (.int .i64 a1_8) := (iE BK227.out 8).trans rfl; have hcz41_9 : w39.cell? ⟨gb227, 9, none⟩ = some (.slice A1_9 l1_9.length c1_9) := (iE BK227.out 9).trans rfl; have hfz41_0 := iD BK227.out 0; have hfz41_1 := iD BK227.out 1; have hfz41_2 := iD BK227.out 2; have hfz41_3 := iD BK227.out 3; have hfz41_4 := iD BK227.out 4; have hfz41_5 := iD BK227.out 5; have hfz41_6 := iD BK227.out 6; have hfz41_7 := iD BK227.out 7; have hfz41_8 := iD BK227.out 8; have hfz41_9 := iD BK227.out 9) | (go_at_call 78; (with_reducible refine (stratumref07_SameEntries.calls _ _ l0_9 _ _ l1_9 t231 _ ?side1 ?side2 ?side3 ?side4 A32.out).mono ?_); (case side1 => repeat (first | exact (Kd.C_below HR0_9.out HB.out) | (with_reducible refine Kd.C_alloc ?_ _) | (with_reducible refine Kd.C_drewN ?_ _) | (with_reducible refine Kd.C_drew ?_))); (case side2 => exact HC0_9.out); (case side3 => repeat (first | exact (Kd.C_below HR1_9.out HB.out) | (with_reducible refine Kd.C_alloc ?_ _) | (with_reducible refine Kd.C_drewN ?_ _) | (with_reducible refine Kd.C_drew ?_))); (case side4 => exact HC1_9.out); rintro e w42 ⟨rfl, hb⟩; have n0_ := iC.mk (jS (g := gb226) (o := .cells #[.int .u8 a0_0, .int .u32 a0_1, .int .u32 a0_2, .slice A0_3 l0_3.length c0_3, .slice A0_4 l0_4.length c0_4, .int .u32 a0_5, .slice A0_6 l0_6.length c0_6, .int .i64 a0_7, .int .i64 a0_8, .slice A0_9 l0_9.length c0_9] 30 (0, 0)) (bk_ BK226.out) hb); have n1_ := iC.mk (jS (g := gb227) (o := .cells #[.int .u8 a1_0, .int .u32 a1_1, .int .u32 a1_2, .slice A1_3 l1_3.length c1_3, .slice A1_4 l1_4.length c1_4, .int .u32 a1_5, .slice A1_6 l1_6.length c1_6, .int .i64 a1_7, .int .i64 a1_8, .slice A1_9 l1_9.length c1_9] 30 (0, 0)) (bk_ BK227.out) hb); have n2_ := iC.mk (iK (by repeat (first | (with_reducible first | exact HB.out | apply iG | apply iF | apply iJ | refine iH ?_ GE226.out | refine iH ?_ GE227.out) | exact HB.out)) hb); clear BK226; clear BK227; clear HB; have BK226 := n0_; have BK227 := n1_; have HB := n2_; clear n0_ n1_ n2_; (try clear hb); (try clear hb2); (try clear hk); (try clear hi)))
       go_ret
       exact ⟨by first | rfl | (simp [iW, iV] <;> rfl) | (simp [*, iW, iV] <;> rfl), by repeat (first | (with_reducible first | exact HB.out | apply iG | apply iF | apply iJ | refine iH ?_ GE226.out | refine iH ?_ GE227.out) | exact HB.out)⟩
      ·replace c31 := Bool.eq_false_iff.mpr c31
       subst c31
       have H1 : (some false) = some r := by rw [if_neg (show ¬ (false = true) by decide)] at H; exact H
       clear H
       have H := H1
       clear H1
       obtain rfl := Option.some.inj H
       have hnb43 := NB226_227.out
       have hnc43 := NB227_226.out
       have hcz44_0 : wc.cell? ⟨gb226, 0, none⟩ = some (.int .u8 a0_0) := (iE BK226.out 0).trans rfl
       have hcz44_1 : wc.cell? ⟨gb226, 1, none⟩ = some (.int .u32 a0_1) := (iE BK226.out 1).trans rfl
       have hcz44_2 : wc.cell? ⟨gb226, 2, none⟩ = some (.int .u32 a0_2) := (iE BK226.out 2).trans rfl
       have hcz44_3 : wc.cell? ⟨gb226, 3, none⟩ = some (.slice A0_3 l0_3.length c0_3) := (iE BK226.out 3).trans rfl
       have hcz44_4 : wc.cell? ⟨gb226, 4, none⟩ = some (.slice A0_4 l0_4.length c0_4) := (iE BK226.out 4).trans rfl
       have hcz44_5 : wc.cell? ⟨gb226, 5, none⟩ = some (.int .u32 a0_5) := (iE BK226.out 5).trans rfl
       have hcz44_6 : wc.cell? ⟨gb226, 6, none⟩ = some (.slice A0_6 l0_6.length c0_6) := (iE BK226.out 6).trans rfl
       have hcz44_7 : wc.cell? ⟨gb226, 7, none⟩ = some (.int .i64 a0_7) := (iE BK226.out 7).trans rfl
       have hcz44_8 : wc.cell? ⟨gb226, 8, none⟩ = some (.int .i64 a0_8) := (iE BK226.out 8).trans rfl
       have hcz44_9 : wc.cell? ⟨gb226, 9, none⟩ = some (.slice A0_9 l0_9.length c0_9) := (iE BK226.out 9).trans rfl
       have hfz44_0 := iD BK226.out 0
       have hfz44_1 := iD BK226.out 1
       have hfz44_2 := iD BK226.out 2
       have hfz44_3 := iD BK226.out 3
       have hfz44_4 := iD BK226.out 4
       have hfz44_5 := iD BK226.out 5
       have hfz44_6 := iD BK226.out 6
       have hfz44_7 := iD BK226.out 7
       have hfz44_8 := iD BK226.out 8
       have hfz44_9 := iD BK226.out 9
       have hcz45_0 : wc.cell? ⟨gb227, 0, none⟩ = some (.int .u8 a1_0) := (iE BK227.out 0).trans rfl
       have hcz45_1 : wc.cell? ⟨gb227, 1, none⟩ = some (.int .u32 a1_1) := (iE BK227.out 1).trans rfl
       have hcz45_2 : wc.cell? ⟨gb227, 2, none⟩ = some (.int .u32 a1_2) := (iE BK227.out 2).trans rfl
       have hcz45_3 : wc.cell? ⟨gb227, 3, none⟩ = some (.slice A1_3 l1_3.length c1_3) := (iE BK227.out 3).trans rfl
       have hcz45_4 : wc.cell? ⟨gb227, 4, none⟩ = some (.slice A1_4 l1_4.length c1_4) := (iE BK227.out 4).trans rfl
       have hcz45_5 : wc.cell? ⟨gb227, 5, none⟩ = some (.int .u32 a1_5) := (iE BK227.out 5).trans rfl
       have hcz45_6 : wc.cell? ⟨gb227, 6, none⟩ = some (.slice A1_6 l1_6.length c1_6) := (iE BK227.out 6).trans rfl
       have hcz45_7 : wc.cell? ⟨gb227, 7, none⟩ = some (.int .i64 a1_7) := (iE BK227.out 7).trans rfl
       have hcz45_8 : wc.cell? ⟨gb227, 8, none⟩ = some (.int .i64 a1_8) := (iE BK227.out 8).trans rfl
       have hcz45_9 : wc.cell? ⟨gb227, 9, none⟩ = some (.slice A1_9 l1_9.length c1_9) := (iE BK227.out 9).trans rfl
       have hfz45_0 := iD BK227.out 0
       have hfz45_1 := iD BK227.out 1
       have hfz45_2 := iD BK227.out 2
       have hfz45_3 := iD BK227.out 3
       have hfz45_4 := iD BK227.out 4
       have hfz45_5 := iD BK227.out 5
       have hfz45_6 := iD BK227.out 6
       have hfz45_7 := iD BK227.out 7
       have hfz45_8 := iD BK227.out 8
       have hfz45_9 := iD BK227.out 9
       go_wp2_with (first | (go_at_call 35; (with_reducible refine (stratumref07_SameInts.calls kj2 _ _ l0_3 _ _ l1_3 true _ ?side1 ?side2 ?side3 ?side4 A26.out).mono ?_); (case side1 => repeat (first | exact (Kd.C_below HR0_3.out HB.out) | (with_reducible refine Kd.C_alloc ?_ _) | (with_reducible refine Kd.C_drewN ?_ _) | (with_reducible refine Kd.C_drew ?_))); (case side2 => exact HC0_3.out); (case side3 => repeat (first | exact (Kd.C_below HR1_3.out HB.out) | (with_reducible refine Kd.C_alloc ?_ _) | (with_reducible refine Kd.C_drewN ?_ _) | (with_reducible refine Kd.C_drew ?_))); (case side4 => exact HC1_3.out); rintro e w' ⟨rfl, ⟨nd, rfl⟩⟩) | (go_at_call 76; (with_reducible refine (stratumref07_SameFacts.calls kj2 _ _ l0_4 _ _ l1_4 true _ ?side1 ?side2 ?side3 ?side4 A28.out).mono ?_); (case side1 => repeat (first | exact (Kd.C_below HR0_4.out (by repeat (first | (with_reducible first | exact HB.out | apply iG | apply iF | apply iJ | refine iH ?_ GE226.out | refine iH ?_ GE227.out) | exact HB.out))) | (with_reducible refine Kd.C_alloc ?_ _) | (with_reducible refine Kd.C_drewN ?_ _) | (with_reducible refine Kd.C_drew ?_))); (case side2 => exact HC0_4.out); (case side3 => repeat (first | exact (Kd.C_below HR1_4.out (by repeat (first | (with_reducible first | exact HB.out | apply iG | apply iF | apply iJ | refine iH ?_ GE226.out | refine iH ?_ GE227.out) | exact HB.out))) | (with_reducible refine Kd.C_alloc ?_ _) | (with_reducible refine Kd.C_drewN ?_ _) | (with_reducible refine Kd.C_drew ?_))); (case side4 => exact HC1_4.out); rintro e w46 ⟨rfl, hb⟩; have n0_ := iC.mk (jS (g := gb226) (o := .cells #[.int .u8 a0_0, .int .u32 a0_1, .int .u32 a0_2, .slice A0_3 l0_3.length c0_3, .slice A0_4 l0_4.length c0_4, .int .u32 a0_5, .slice A0_6 l0_6.length c0_6, .int .i64 a0_7, .int .i64 a0_8, .slice A0_9 l0_9.length c0_9] 30 (0, 0)) (bk_ BK226.out) hb); have n1_ := iC.mk (jS (g := gb227) (o := .cells #[.int .u8 a1_0, .int .u32 a1_1, .int .u32 a1_2, .slice A1_3 l1_3.length c1_3, .slice A1_4 l1_4.length c1_4, .int .u32 a1_5, .slice A1_6 l1_6.length c1_6, .int .i64 a1_7, .int .i64 a1_8, .slice A1_9 l1_9.length c1_9] 30 (0, 0)) (bk_ BK227.out) hb); have n2_ := iC.mk (iK (by repeat (first | (with_reducible first | exact HB.out | apply iG | apply iF | apply iJ | refine iH ?_ GE226.out | refine iH ?_ GE227.out) | exact HB.out)) hb); clear BK226; clear BK227; clear HB; have BK226 := n0_; have BK227 := n1_; have HB := n2_; clear n0_ n1_ n2_; (try clear hb); (try clear hb2); (try clear hk); (try clear hi); have hcz47_0 : w46.cell? ⟨gb226, 0, none⟩ = some (.int .u8 a0_0) := (iE BK226.out 0).trans rfl; have hcz47_1 : w46.cell? ⟨gb226, 1, none⟩ = some (.int .u32 a0_1) := (iE BK226.out 1).trans rfl; have hcz47_2 : w46.cell? ⟨gb226, 2, none⟩ = some (.int .u32 a0_2) := (iE BK226.out 2).trans rfl; have hcz47_3 : w46.cell? ⟨gb226, 3, none⟩ = some (.slice A0_3 l0_3.length c0_3) := (iE BK226.out 3).trans rfl; have hcz47_4 : w46.cell? ⟨gb226, 4, none⟩ = some (.slice A0_4 l0_4.length c0_4) := (iE BK226.out 4).trans rfl; have hcz47_5 : w46.cell? ⟨gb226, 5, none⟩ = some (.int .u32 a0_5) := (iE BK226.out 5).trans rfl; have hcz47_6 : w46.cell? ⟨gb226, 6, none⟩ = some (.slice A0_6 l0_6.length c0_6) := (iE BK226.out 6).trans rfl; have hcz47_7 : w46.cell? ⟨gb226, 7, none⟩ = some (.int .i64 a0_7) := (iE BK226.out 7).trans rfl; have hcz47_8 : w46.cell? ⟨gb226, 8, none⟩ = some (.int .i64 a0_8) := (iE BK226.out 8).trans rfl; have hcz47_9 : w46.cell? ⟨gb226, 9, none⟩ = some (.slice A0_9 l0_9.length c0_9) := (iE BK226.out 9).trans rfl; have hfz47_0 := iD BK226.out 0; have hfz47_1 := iD BK226.out 1; have hfz47_2 := iD BK226.out 2; have hfz47_3 := iD BK226.out 3; have hfz47_4 := iD BK226.out 4; have hfz47_5 := iD BK226.out 5; have hfz47_6 := iD BK226.out 6; have hfz47_7 := iD BK226.out 7; have hfz47_8 := iD BK226.out 8; have hfz47_9 := iD BK226.out 9; have hcz48_0 : w46.cell? ⟨gb227, 0, none⟩ = some (.int .u8 a1_0) := (iE BK227.out 0).trans rfl; have hcz48_1 : w46.cell? ⟨gb227, 1, none⟩ = some (.int .u32 a1_1) := (iE BK227.out 1).trans rfl; have hcz48_2 : w46.cell? ⟨gb227, 2, none⟩ = some (.int .u32 a1_2) := (iE BK227.out 2).trans rfl; have hcz48_3 : w46.cell? ⟨gb227, 3, none⟩ = some (.slice A1_3 l1_3.length c1_3) := (iE BK227.out 3).trans rfl; have hcz48_4 : w46.cell? ⟨gb227, 4, none⟩ = some (.slice A1_4 l1_4.length c1_4) := (iE BK227.out 4).trans rfl; have hcz48_5 : w46.cell? ⟨gb227, 5, none⟩ = some (.int .u32 a1_5) := (iE BK227.out 5).trans rfl; have hcz48_6 : w46.cell? ⟨gb227, 6, none⟩ = some (.slice A1_6 l1_6.length c1_6) := (iE BK227.out 6).trans rfl; have hcz48_7 : w46.cell? ⟨gb227, 7, none⟩ = some (.int .i64 a1_7) := (iE BK227.out 7).trans rfl; have hcz48_8 : w46.cell? ⟨gb227, 8, none⟩ = some (.int .i64 a1_8) := (iE BK227.out 8).trans rfl; have hcz48_9 : w46.cell? ⟨gb227, 9, none⟩ = some (.slice A1_9 l1_9.length c1_9) := (iE BK227.out 9).trans rfl; have hfz48_0 := iD BK227.out 0; have hfz48_1 := iD BK227.out 1; have hfz48_2 := iD BK227.out 2; have hfz48_3 := iD BK227.out 3; have hfz48_4 := iD BK227.out 4; have hfz48_5 := iD BK227.out 5; have hfz48_6 := iD BK227.out 6; have hfz48_7 := iD BK227.out 7; have hfz48_8 := iD BK227.out 8; have hfz48_9 := iD BK227.out 9) | (go_at_call 77; (with_reducible refine (stratumref07_SameMap.calls kj2 a0_5 _ _ l0_6 a1_5 _ _ l1_6 false _ ?side1 ?side2 ?side3 ?side4 A30.out).mono ?_); (case side1 => repeat (first | exact (Kd.C_below HR0_6.out HB.out) | (with_reducible refine Kd.C_alloc ?_ _) | (with_reducible refine Kd.C_drewN ?_ _) | (with_reducible refine Kd.C_drew ?_))); (case side2 => exact HC0_6.out); (case side3 => repeat (first | exact (Kd.C_below HR1_6.out HB.out) | (with_reducible refine Kd.C_alloc ?_ _) | (with_reducible refine Kd.C_drewN ?_ _) | (with_reducible refine Kd.C_drew ?_))); (case side4 => exact HC1_6.out); rintro e w49 ⟨rfl, hb⟩; have n0_ := iC.mk (jS (g := gb226) (o := .cells #[.int .u8 a0_0, .int .u32 a0_1, .int .u32 a0_2, .slice A0_3 l0_3.length c0_3, .slice A0_4 l0_4.length c0_4, .int .u32 a0_5, .slice A0_6 l0_6.length c0_6, .int .i64 a0_7, .int .i64 a0_8, .slice A0_9 l0_9.length c0_9] 30 (0, 0)) (bk_ BK226.out) hb); have n1_ := iC.mk (jS (g := gb227) (o := .cells #[.int .u8 a1_0, .int .u32 a1_1, .int .u32 a1_2, .slice A1_3 l1_3.length c1_3, .slice A1_4 l1_4.length c1_4, .int .u32 a1_5, .slice A1_6 l1_6.length c1_6, .int .i64 a1_7, .int .i64 a1_8, .slice A1_9 l1_9.length c1_9] 30 (0, 0)) (bk_ BK227.out) hb); have n2_ := iC.mk (iK (by repeat (first | (with_reducible first | exact HB.out | apply iG | apply iF | apply iJ | refine iH ?_ GE226.out | refine iH ?_ GE227.out) | exact HB.out)) hb); clear BK226; clear BK227; clear HB; have BK226 := n0_; have BK227 := n1_; have HB := n2_; clear n0_ n1_ n2_; (try clear hb); (try clear hb2); (try clear hk); (try clear hi)))
       go_ret
       exact ⟨by first | rfl | (simp [iW, iV] <;> rfl) | (simp [*, iW, iV] <;> rfl), by repeat (first | (with_reducible first | exact HB.out | apply iG | apply iF | apply iJ | refine iH ?_ GE226.out | refine iH ?_ GE227.out) | exact HB.out)⟩
     ·replace c29 := Bool.eq_false_iff.mpr c29
      subst c29
      have H1 : (some false) = some r := by rw [if_neg (show ¬ (false = true) by decide)] at H; exact H
      clear H
      have H := H1
      clear H1
      obtain rfl := Option.some.inj H
      have hnb50 := NB226_227.out
      have hnc50 := NB227_226.out
      have hcz51_0 : wc.cell? ⟨gb226, 0, none⟩ = some (.int .u8 a0_0) := (iE BK226.out 0).trans rfl
      have hcz51_1 : wc.cell? ⟨gb226, 1, none⟩ = some (.int .u32 a0_1) := (iE BK226.out 1).trans rfl
      have hcz51_2 : wc.cell? ⟨gb226, 2, none⟩ = some (.int .u32 a0_2) := (iE BK226.out 2).trans rfl
      have hcz51_3 : wc.cell? ⟨gb226, 3, none⟩ = some (.slice A0_3 l0_3.length c0_3) := (iE BK226.out 3).trans rfl
      have hcz51_4 : wc.cell? ⟨gb226, 4, none⟩ = some (.slice A0_4 l0_4.length c0_4) := (iE BK226.out 4).trans rfl
      have hcz51_5 : wc.cell? ⟨gb226, 5, none⟩ = some (.int .u32 a0_5) := (iE BK226.out 5).trans rfl
      have hcz51_6 : wc.cell? ⟨gb226, 6, none⟩ = some (.slice A0_6 l0_6.length c0_6) := (iE BK226.out 6).trans rfl
      have hcz51_7 : wc.cell? ⟨gb226, 7, none⟩ = some (.int .i64 a0_7) := (iE BK226.out 7).trans rfl
      have hcz51_8 : wc.cell? ⟨gb226, 8, none⟩ = some (.int .i64 a0_8) := (iE BK226.out 8).trans rfl
      have hcz51_9 : wc.cell? ⟨gb226, 9, none⟩ = some (.slice A0_9 l0_9.length c0_9) := (iE BK226.out 9).trans rfl
      have hfz51_0 := iD BK226.out 0
      have hfz51_1 := iD BK226.out 1
      have hfz51_2 := iD BK226.out 2
      have hfz51_3 := iD BK226.out 3
      have hfz51_4 := iD BK226.out 4
      have hfz51_5 := iD BK226.out 5
      have hfz51_6 := iD BK226.out 6
      have hfz51_7 := iD BK226.out 7
      have hfz51_8 := iD BK226.out 8
      have hfz51_9 := iD BK226.out 9
      have hcz52_0 : wc.cell? ⟨gb227, 0, none⟩ = some (.int .u8 a1_0) := (iE BK227.out 0).trans rfl
      have hcz52_1 : wc.cell? ⟨gb227, 1, none⟩ = some (.int .u32 a1_1) := (iE BK227.out 1).trans rfl
      have hcz52_2 : wc.cell? ⟨gb227, 2, none⟩ = some (.int .u32 a1_2) := (iE BK227.out 2).trans rfl
      have hcz52_3 : wc.cell? ⟨gb227, 3, none⟩ = some (.slice A1_3 l1_3.length c1_3) := (iE BK227.out 3).trans rfl
      have hcz52_4 : wc.cell? ⟨gb227, 4, none⟩ = some (.slice A1_4 l1_4.length c1_4) := (iE BK227.out 4).trans rfl
      have hcz52_5 : wc.cell? ⟨gb227, 5, none⟩ = some (.int .u32 a1_5) := (iE BK227.out 5).trans rfl
      have hcz52_6 : wc.cell? ⟨gb227, 6, none⟩ = some (.slice A1_6 l1_6.length c1_6) := (iE BK227.out 6).trans rfl
      have hcz52_7 : wc.cell? ⟨gb227, 7, none⟩ = some (.int .i64 a1_7) := (iE BK227.out 7).trans rfl
      have hcz52_8 : wc.cell? ⟨gb227, 8, none⟩ = some (.int .i64 a1_8) := (iE BK227.out 8).trans rfl
      have hcz52_9 : wc.cell? ⟨gb227, 9, none⟩ = some (.slice A1_9 l1_9.length c1_9) := (iE BK227.out 9).trans rfl
      have hfz52_0 := iD BK227.out 0
      have hfz52_1 := iD BK227.out 1
      have hfz52_2 := iD BK227.out 2
      have hfz52_3 := iD BK227.out 3
      have hfz52_4 := iD BK227.out 4
      have hfz52_5 := iD BK227.out 5
      have hfz52_6 := iD BK227.out 6
      have hfz52_7 := iD BK227.out 7
      have hfz52_8 := iD BK227.out 8
      have hfz52_9 := iD BK227.out 9
      go_wp2_with (first | (go_at_call 35; (with_reducible refine (stratumref07_SameInts.calls kj2 _ _ l0_3 _ _ l1_3 true _ ?side1 ?side2 ?side3 ?side4 A26.out).mono ?_); (case side1 => repeat (first | exact (Kd.C_below HR0_3.out HB.out) | (with_reducible refine Kd.C_alloc ?_ _) | (with_reducible refine Kd.C_drewN ?_ _) | (with_reducible refine Kd.C_drew ?_))); (case side2 => exact HC0_3.out); (case side3 => repeat (first | exact (Kd.C_below HR1_3.out HB.out) | (with_reducible refine Kd.C_alloc ?_ _) | (with_reducible refine Kd.C_drewN ?_ _) | (with_reducible refine Kd.C_drew ?_))); (case side4 => exact HC1_3.out); rintro e w' ⟨rfl, ⟨nd, rfl⟩⟩) | (go_at_call 76; (with_reducible refine (stratumref07_SameFacts.calls kj2 _ _ l0_4 _ _ l1_4 false _ ?side1 ?side2 ?side3 ?side4 A28.out).mono ?_); (case side1 => repeat (first | exact (Kd.C_below HR0_4.out (by repeat (first | (with_reducible first | exact HB.out | apply iG | apply iF | apply iJ | refine iH ?_ GE226.out | refine iH ?_ GE227.out) | exact HB.out))) | (with_reducible refine Kd.C_alloc ?_ _) | (with_reducible refine Kd.C_drewN ?_ _) | (with_reducible refine Kd.C_drew ?_))); (case side2 => exact HC0_4.out); (case side3 => repeat (first | exact (Kd.C_below HR1_4.out (by repeat (first | (with_reducible first | exact HB.out | apply iG | apply iF | apply iJ | refine iH ?_ GE226.out | refine iH ?_ GE227.out) | exact HB.out))) | (with_reducible refine Kd.C_alloc ?_ _) | (with_reducible refine Kd.C_drewN ?_ _) | (with_reducible refine Kd.C_drew ?_))); (case side4 => exact HC1_4.out); rintro e w53 ⟨rfl, hb⟩; have n0_ := iC.mk (jS (g := gb226) (o := .cells #[.int .u8 a0_0, .int .u32 a0_1, .int .u32 a0_2, .slice A0_3 l0_3.length c0_3, .slice A0_4 l0_4.length c0_4, .int .u32 a0_5, .slice A0_6 l0_6.length c0_6, .int .i64 a0_7, .int .i64 a0_8, .slice A0_9 l0_9.length c0_9] 30 (0, 0)) (bk_ BK226.out) hb); have n1_ := iC.mk (jS (g := gb227) (o := .cells #[.int .u8 a1_0, .int .u32 a1_1, .int .u32 a1_2, .slice A1_3 l1_3.length c1_3, .slice A1_4 l1_4.length c1_4, .int .u32 a1_5, .slice A1_6 l1_6.length c1_6, .int .i64 a1_7, .int .i64 a1_8, .slice A1_9 l1_9.length c1_9] 30 (0, 0)) (bk_ BK227.out) hb); have n2_ := iC.mk (iK (by repeat (first | (with_reducible first | exact HB.out | apply iG | apply iF | apply iJ | refine iH ?_ GE226.out | refine iH ?_ GE227.out) | exact HB.out)) hb); clear BK226; clear BK227; clear HB; have BK226 := n0_; have BK227 := n1_; have HB := n2_; clear n0_ n1_ n2_; (try clear hb); (try clear hb2); (try clear hk); (try clear hi)))
      go_ret
      exact ⟨by first | rfl | (simp [iW, iV] <;> rfl) | (simp [*, iW, iV] <;> rfl), by repeat (first | (with_reducible first | exact HB.out | apply iG | apply iF | apply iJ | refine iH ?_ GE226.out | refine iH ?_ GE227.out) | exact HB.out)⟩
    ·replace c27 := Bool.eq_false_iff.mpr c27
     subst c27
     have H1 : (some false) = some r := by rw [if_neg (show ¬ (false = true) by decide)] at H; exact H
     clear H
     have H := H1
     clear H1
     obtain rfl := Option.some.inj H
     have hnb54 := NB226_227.out
     have hnc54 := NB227_226.out
     have hcz55_0 : wc.cell? ⟨gb226, 0, none⟩ = some (.int .u8 a0_0) := (iE BK226.out 0).trans rfl
     have hcz55_1 : wc.cell? ⟨gb226, 1, none⟩ = some (.int .u32 a0_1) := (iE BK226.out 1).trans rfl
     have hcz55_2 : wc.cell? ⟨gb226, 2, none⟩ = some (.int .u32 a0_2) := (iE BK226.out 2).trans rfl
     have hcz55_3 : wc.cell? ⟨gb226, 3, none⟩ = some (.slice A0_3 l0_3.length c0_3) := (iE BK226.out 3).trans rfl
     have hcz55_4 : wc.cell? ⟨gb226, 4, none⟩ = some (.slice A0_4 l0_4.length c0_4) := (iE BK226.out 4).trans rfl
     have hcz55_5 : wc.cell? ⟨gb226, 5, none⟩ = some (.int .u32 a0_5) := (iE BK226.out 5).trans rfl
     have hcz55_6 : wc.cell? ⟨gb226, 6, none⟩ = some (.slice A0_6 l0_6.length c0_6) := (iE BK226.out 6).trans rfl
     have hcz55_7 : wc.cell? ⟨gb226, 7, none⟩ = some (.int .i64 a0_7) := (iE BK226.out 7).trans rfl
     have hcz55_8 : wc.cell? ⟨gb226, 8, none⟩ = some (.int .i64 a0_8) := (iE BK226.out 8).trans rfl
     have hcz55_9 : wc.cell? ⟨gb226, 9, none⟩ = some (.slice A0_9 l0_9.length c0_9) := (iE BK226.out 9).trans rfl
     have hfz55_0 := iD BK226.out 0
     have hfz55_1 := iD BK226.out 1
     have hfz55_2 := iD BK226.out 2
     have hfz55_3 := iD BK226.out 3
     have hfz55_4 := iD BK226.out 4
     have hfz55_5 := iD BK226.out 5
     have hfz55_6 := iD BK226.out 6
     have hfz55_7 := iD BK226.out 7
     have hfz55_8 := iD BK226.out 8
     have hfz55_9 := iD BK226.out 9
     have hcz56_0 : wc.cell? ⟨gb227, 0, none⟩ = some (.int .u8 a1_0) := (iE BK227.out 0).trans rfl
     have hcz56_1 : wc.cell? ⟨gb227, 1, none⟩ = some (.int .u32 a1_1) := (iE BK227.out 1).trans rfl
     have hcz56_2 : wc.cell? ⟨gb227, 2, none⟩ = some (.int .u32 a1_2) := (iE BK227.out 2).trans rfl
     have hcz56_3 : wc.cell? ⟨gb227, 3, none⟩ = some (.slice A1_3 l1_3.length c1_3) := (iE BK227.out 3).trans rfl
     have hcz56_4 : wc.cell? ⟨gb227, 4, none⟩ = some (.slice A1_4 l1_4.length c1_4) := (iE BK227.out 4).trans rfl
     have hcz56_5 : wc.cell? ⟨gb227, 5, none⟩ = some (.int .u32 a1_5) := (iE BK227.out 5).trans rfl
     have hcz56_6 : wc.cell? ⟨gb227, 6, none⟩ = some (.slice A1_6 l1_6.length c1_6) := (iE BK227.out 6).trans rfl
     have hcz56_7 : wc.cell? ⟨gb227, 7, none⟩ = some (.int .i64 a1_7) := (iE BK227.out 7).trans rfl
     have hcz56_8 : wc.cell? ⟨gb227, 8, none⟩ = some (.int .i64 a1_8) := (iE BK227.out 8).trans rfl
     have hcz56_9 : wc.cell? ⟨gb227, 9, none⟩ = some (.slice A1_9 l1_9.length c1_9) := (iE BK227.out 9).trans rfl
     have hfz56_0 := iD BK227.out 0
     have hfz56_1 := iD BK227.out 1
     have hfz56_2 := iD BK227.out 2
     have hfz56_3 := iD BK227.out 3
     have hfz56_4 := iD BK227.out 4
     have hfz56_5 := iD BK227.out 5
     have hfz56_6 := iD BK227.out 6
     have hfz56_7 := iD BK227.out 7
     have hfz56_8 := iD BK227.out 8
     have hfz56_9 := iD BK227.out 9
     go_wp2_with (first | (go_at_call 35; (with_reducible refine (stratumref07_SameInts.calls kj2 _ _ l0_3 _ _ l1_3 false _ ?side1 ?side2 ?side3 ?side4 A26.out).mono ?_); (case side1 => repeat (first | exact (Kd.C_below HR0_3.out HB.out) | (with_reducible refine Kd.C_alloc ?_ _) | (with_reducible refine Kd.C_drewN ?_ _) | (with_reducible refine Kd.C_drew ?_))); (case side2 => exact HC0_3.out); (case side3 => repeat (first | exact (Kd.C_below HR1_3.out HB.out) | (with_reducible refine Kd.C_alloc ?_ _) | (with_reducible refine Kd.C_drewN ?_ _) | (with_reducible refine Kd.C_drew ?_))); (case side4 => exact HC1_3.out); rintro e w' ⟨rfl, ⟨nd, rfl⟩⟩))
     go_ret
     exact ⟨by first | rfl | (simp [iW, iV] <;> rfl) | (simp [*, iW, iV] <;> rfl), by repeat (first | (with_reducible first | exact HB.out | apply iG | apply iF | apply iJ | refine iH ?_ GE226.out | refine iH ?_ GE227.out) | exact HB.out)⟩
   ·replace c25 := Bool.eq_false_iff.mpr c25
    subst c25
    have H1 : (some false) = some r := by rw [if_neg (show ¬ (false = true) by decide)] at H; exact H
    clear H
    have H := H1
    clear H1
    obtain rfl := Option.some.inj H
    go_wp2
    go_ret
    exact ⟨by first | rfl | (simp [iW, iV] <;> rfl) | (simp [*, iW, iV] <;> rfl), by repeat (first | (with_reducible first | exact HB.out | apply iG | apply iF | apply iJ | refine iH ?_ GE226.out | refine iH ?_ GE227.out) | exact HB.out)⟩
end Go.Proofs.YtgfkgppomaapiaaDoor.K
end

section
namespace Go.Proofs.YtgfkgppomaapiaaDoor.K
open RowKit YtgfkgppomaapiaaDoorW.PrintWords YtgfkgppomaapiaaDoorW.PrintLast YtgfkgppomaapiaaDoorW.PrintMore My
theorem je5 (l m : List Int) (h : l.length = m.length) (k : Nat) (hk : ∀ i : Nat, i < k → l.getD i 0 = m.getD i 0) (hl : l.length ≤ k) : l = m := by
 apply List.ext_getElem h
 intro i h1 h2
 have := hk i (by omega)
 rw [List.getD_eq_getElem?_getD, List.getD_eq_getElem?_getD, List.getElem?_eq_getElem h1, List.getElem?_eq_getElem h2] at this
 exact this
theorem MS (l m : List Int) (h : l.length = m.length) (hn : l.length ≤ 9223372036854775807) (d : Nat) : ∀ i : Int, 0 ≤ i → i ≤ l.length → (l.length : Int) - i = d → (∀ j : Nat, j < i.toNat → l.getD j 0 = m.getD j 0) → ∃ b, Ev (fun k => stratumref07_SameInts.l0 k l m i) b ∧ (b = true ↔ l = m) := by
 induction d with
 | zero =>
  intro i h0 h1 hd hp
  exact ⟨true, Ev.step (f := fun _ => some true) (fun k => by simp only [stratumref07_SameInts.l0]; rw [if_neg (by omega)]) (Ev.now _), by
   simp only [true_iff]
   exact je5 l m h l.length (fun j hj => hp j (by omega)) (Nat.le_refl _)⟩
 | succ d ih =>
  intro i h0 h1 hd hp
  have hlt : i < (l.length : Int) := by omega
  by_cases c : rd l i = rd m i
  ·obtain ⟨b, h2, h3⟩ := ih (i + 1) (by omega) (by omega) (by omega) (fun j hj => by
    rcases Nat.lt_or_ge j i.toNat with h | h
    ·exact hp j h
    ·obtain rfl : j = i.toNat := by omega
     exact c)
   exact ⟨b, Ev.step (fun k => by simp only [stratumref07_SameInts.l0]; rw [if_pos hlt, if_pos h0, if_pos (by omega), if_pos c, qQ h0 hlt hn]) h2, h3⟩
  ·refine ⟨false, Ev.step (f := fun _ => some false) (fun k => by simp only [stratumref07_SameInts.l0]; rw [if_pos hlt, if_pos h0, if_pos (by omega), if_neg c]) (Ev.now _), ?_⟩
   simp only [Bool.false_eq_true, false_iff]
   intro e
   rw [e] at c
   exact c rfl
theorem OV (l m : List Int) (hn : l.length ≤ 9223372036854775807) : ∃ b, Ev (fun k => stratumref07_SameInts.f k l m) b ∧ (b = true ↔ l = m) := by
 by_cases h : (l.length : Int) = (m.length : Int)
 ·obtain ⟨b, h1, h2⟩ := MS l m (by omega) hn l.length 0 (by omega) (by omega) (by omega) (fun j hj => by simp at hj)
  exact ⟨b, Ev.congr (fun k => by unfold stratumref07_SameInts.f; rw [if_pos h]) h1, h2⟩
 ·refine ⟨false, Ev.congr (f := fun _ => some false) (fun k => by unfold stratumref07_SameInts.f; rw [if_neg h]) (Ev.now _), ?_⟩
  simp only [Bool.false_eq_true, false_iff]
  intro e
  exact h (by rw [e])
theorem XM (l m : List kG) (h : l.length = m.length) (hk : ∀ i : Nat, i < l.length → (l.getD i z98).f0 = (m.getD i z98).f0 ∧ (l.getD i z98).f1 = (m.getD i z98).f1) : l = m := by
 apply List.ext_getElem h
 intro i h1 h2
 have := hk i h1
 rw [List.getD_eq_getElem?_getD, List.getD_eq_getElem?_getD, List.getElem?_eq_getElem h1, List.getElem?_eq_getElem h2] at this
 simp only [Option.getD_some] at this
 cases hx : l[i]
 cases hy : m[i]
 rw [hx, hy] at this
 simp only at this
 rw [this.1, this.2]
theorem NV (a b : Int) (l m : List kG) (h : l.length = m.length) (hn : l.length ≤ 9223372036854775807) (d : Nat) : ∀ i : Int, 0 ≤ i → i ≤ l.length → (l.length : Int) - i = d → (∀ j : Nat, j < i.toNat → (l.getD j z98).f0 = (m.getD j z98).f0 ∧ (l.getD j z98).f1 = (m.getD j z98).f1) → ∃ t, Ev (fun k => stratumref07_SameMap.l0 k i a l b m) t ∧ (t = true ↔ l = m) := by
 induction d with
 | zero =>
  intro i h0 h1 hd hp
  exact ⟨true, Ev.step (f := fun _ => some true) (fun k => by simp only [stratumref07_SameMap.l0]; rw [if_neg (by omega)]) (Ev.now _), by
   simp only [true_iff]
   exact XM l m h (fun j hj => hp j (by omega))⟩
 | succ d ih =>
  intro i h0 h1 hd hp
  have hlt : i < (l.length : Int) := by omega
  by_cases c : (kX l i).f0 = (kX m i).f0 ∧ (kX l i).f1 = (kX m i).f1
  ·obtain ⟨b, h2, h3⟩ := ih (i + 1) (by omega) (by omega) (by omega) (fun j hj => by
    rcases Nat.lt_or_ge j i.toNat with h | h
    ·exact hp j h
    ·obtain rfl : j = i.toNat := by omega
     exact c)
   exact ⟨b, Ev.step (fun k => by simp only [stratumref07_SameMap.l0]; rw [if_pos hlt, if_pos h0, if_pos (by omega), if_neg (by simp [c.1, c.2]), qQ h0 hlt hn]) h2, h3⟩
  ·refine ⟨false, Ev.step (f := fun _ => some false) (fun k => by simp only [stratumref07_SameMap.l0]; rw [if_pos hlt, if_pos h0, if_pos (by omega), if_pos (by simp; exact Classical.not_and_iff_not_or_not.mp c)]) (Ev.now _), ?_⟩
   simp only [Bool.false_eq_true, false_iff]
   intro e
   rw [e] at c
   exact c ⟨rfl, rfl⟩
theorem QA (a b : Int) (l m : List kG) (hn : l.length ≤ 9223372036854775807) : ∃ t, Ev (fun k => stratumref07_SameMap.f k a l b m) t ∧ (t = true ↔ (a = b ∧ l = m)) := by
 have hno : ∀ (x : Bool), x = true → Ev (fun k => stratumref07_SameMap.j0 k x a l b m) false := fun x hx => Ev.step (f := fun _ => some false) (fun k => by simp only [stratumref07_SameMap.j0]; rw [if_pos hx]) (Ev.now _)
 by_cases hab : a = b
 ·by_cases h : (l.length : Int) = (m.length : Int)
  ·obtain ⟨t, h1, h2⟩ := NV a b l m (by omega) hn l.length 0 (by omega) (by omega) (by omega) (fun j hj => by simp at hj)
   refine ⟨t, Ev.congr (fun k => by unfold stratumref07_SameMap.f; rw [if_pos hab]) (Ev.step (fun k => by simp only [stratumref07_SameMap.j0]; rw [if_neg (by simp [h])]) h1), ?_⟩
   rw [h2]; exact ⟨fun e => ⟨hab, e⟩, fun e => e.2⟩
  ·refine ⟨false, Ev.congr (fun k => by unfold stratumref07_SameMap.f; rw [if_pos hab]) (hno _ (by simpa [bne] using h)), ?_⟩
   simp only [Bool.false_eq_true, false_iff]
   intro e
   exact h (by rw [e.2])
 ·refine ⟨false, Ev.congr (fun k => by unfold stratumref07_SameMap.f; rw [if_neg hab]) (hno true rfl), ?_⟩
  simp only [Bool.false_eq_true, false_iff]
  exact fun e => hab e.1
def jd_ (x y : SRec) : Prop := x.f0 = y.f0 ∧ x.f1 = y.f1 ∧ x.f2 = y.f2 ∧ x.f6 = y.f6 ∧ x.f7 = y.f7 ∧ x.f3 = y.f3 ∧ kK x.f4 = kK y.f4 ∧ (x.f5.f0 = y.f5.f0 ∧ x.f5.f1 = y.f5.f1) ∧ jV x.f8 = jV y.f8
structure SLen (x : SRec) : Prop where
 n3 : x.f3.length ≤ 9223372036854775807
 n4 : (kK x.f4).length ≤ 140737488355328
 n6 : x.f5.f1.length ≤ 9223372036854775807
 n9 : (jV x.f8).length ≤ 140737488355328
theorem LM (l m : List jP) (hl : (kK l).length ≤ 140737488355328) (hm : (kK m).length ≤ 140737488355328) : ∃ t, Ev (fun k => stratumref07_SameFacts.f k l m) t ∧ (t = true ↔ kK l = kK m) := by
 have e1 := zB l [] (by simpa using hl)
 have e2 := zB m [] (by simpa using hm)
 rw [List.nil_append] at e1 e2
 refine ⟨decide (kK l = kK m), ?_, by simp⟩
 unfold stratumref07_SameFacts.f
 refine Ev.bind e1 (Ev.bind e2 ?_)
 rw [vS]
 exact Ev.now _
theorem zS (l m : List jI) (hl : (jV l).length ≤ 140737488355328) (hm : (jV m).length ≤ 140737488355328) : stratumref07_SameEntries.f l m = some (decide (jV l = jV m)) := by
 unfold stratumref07_SameEntries.f stratumref07_Entries.f
 rw [if_pos ⟨rfl, hl⟩, if_pos ⟨rfl, hm⟩]
 simp only [Option.bind_some]
 rw [vS]
theorem j9_ (x y : SRec) (hx : SLen x) (hy : SLen y) : ∃ t, Ev (fun k => stratumref07_Same.f k x.f0 x.f1 x.f2 x.f3 x.f4 x.f5.f0 x.f5.f1 x.f6 x.f7 x.f8 y.f0 y.f1 y.f2 y.f3 y.f4 y.f5.f0 y.f5.f1 y.f6 y.f7 y.f8) t ∧ (t = true ↔ jd_ x y) := by
 have hno : ∀ (b : Bool), b = false → Ev (fun k => stratumref07_Same.j0 k b x.f0 x.f1 x.f2 x.f3 x.f4 x.f5.f0 x.f5.f1 x.f6 x.f7 x.f8 y.f0 y.f1 y.f2 y.f3 y.f4 y.f5.f0 y.f5.f1 y.f6 y.f7 y.f8) false := fun b hb => Ev.step (f := fun _ => some false) (fun k => by simp only [stratumref07_Same.j0]; rw [if_neg (by rw [hb]; decide)]) (Ev.now _)
 have no : ∀ {p : Prop}, ¬ p → (false = true ↔ p) := fun h => ⟨(fun e => by cases e), fun e => absurd e h⟩
 by_cases h0 : x.f0 = y.f0
 case neg => exact ⟨false, Ev.congr (fun k => by unfold stratumref07_Same.f; rw [if_neg h0]) (hno false rfl), no (fun e => h0 e.1)⟩
 by_cases h1 : x.f1 = y.f1
 case neg => exact ⟨false, Ev.congr (fun k => by unfold stratumref07_Same.f; rw [if_pos h0, if_neg h1]) (hno false rfl), no (fun e => h1 e.2.1)⟩
 by_cases h2 : x.f2 = y.f2
 case neg => exact ⟨false, Ev.congr (fun k => by unfold stratumref07_Same.f; rw [if_pos h0, if_pos h1, if_neg h2]) (hno false rfl), no (fun e => h2 e.2.2.1)⟩
 by_cases h6 : x.f6 = y.f6
 case neg => exact ⟨false, Ev.congr (fun k => by unfold stratumref07_Same.f; rw [if_pos h0, if_pos h1, if_pos h2, if_neg h6]) (hno false rfl), no (fun e => h6 e.2.2.2.1)⟩
 by_cases h7 : x.f7 = y.f7
 case neg => exact ⟨false, Ev.congr (fun k => by unfold stratumref07_Same.f; rw [if_pos h0, if_pos h1, if_pos h2, if_pos h6]) (hno _ (by simpa using h7)), no (fun e => h7 e.2.2.2.2.1)⟩
 obtain ⟨t3, a3, b3⟩ := OV x.f3 y.f3 hx.n3
 obtain ⟨t4, a4, b4⟩ := LM x.f4 y.f4 hx.n4 hy.n4
 obtain ⟨t5, a5, b5⟩ := QA x.f5.f0 y.f5.f0 x.f5.f1 y.f5.f1 hx.n6
 have a9 := zS x.f8 y.f8 hx.n9 hy.n9
 refine ⟨t3 && (t4 && (t5 && decide (jV x.f8 = jV y.f8))), Ev.congr (fun k => by unfold stratumref07_Same.f; rw [if_pos h0, if_pos h1, if_pos h2, if_pos h6]) (Ev.step (fun k => by simp only [stratumref07_Same.j0]; rw [if_pos (by simpa using h7)]) (Ev.bind a3 (UU _ (Ev.bind a4 (UU _ (Ev.bind a5 (UU _ ?_))))))), ?_⟩
 ·exact Ev.congr (fun k => by rw [a9]; rfl) (Ev.now _)
 ·simp only [Bool.and_eq_true, decide_eq_true_eq, b3, b4, b5]
  exact ⟨fun e => ⟨h0, h1, h2, h6, h7, e.1, e.2.1, e.2.2.1, e.2.2.2⟩, fun e => ⟨e.2.2.2.2.2.1, e.2.2.2.2.2.2.1, e.2.2.2.2.2.2.2.1, e.2.2.2.2.2.2.2.2⟩⟩
end Go.Proofs.YtgfkgppomaapiaaDoor.K
end

section
namespace Go.Proofs.YtgfkgppomaapiaaDoor.K
open RowKit YtgfkgppomaapiaaDoorW.PrintWords YtgfkgppomaapiaaDoorW.PrintLast YtgfkgppomaapiaaDoorW.PrintMore My
theorem NU (r : SRec) (h : kC r = true) :
  (r.f0 = 1 ∧ lT (-1) r.f3 = true ∧ mV r.f4 = true ∧ r.f2 = 0 ∧ r.f5.f0 = 0 ∧ r.f5.f1 = [] ∧ r.f6 = 0 ∧ r.f7 = 0 ∧ r.f8 = []) ∨
  (r.f0 = 2 ∧ lT (-1) r.f3 = true ∧ r.f4 = [] ∧ r.f5.f0 = 0 ∧ r.f5.f1 = [] ∧ r.f6 = 0 ∧ r.f7 = 0 ∧ r.f8 = []) ∨
  ((r.f0 = 3 ∨ r.f0 = 4 ∨ r.f0 = 5) ∧ r.f2 = 0 ∧ r.f3 = [] ∧ r.f4 = [] ∧ r.f5.f0 = 0 ∧ r.f5.f1 = [] ∧ r.f6 = 0 ∧ r.f7 = 0 ∧ r.f8 = []) ∨
  (r.f0 = 6 ∧ r.f1 = 0 ∧ r.f5.f1.length ≤ 40 ∧ (∀ s ∈ r.f5.f1, oK s = true) ∧ r.f2 = 0 ∧ r.f3 = [] ∧ r.f4 = [] ∧ r.f6 = 0 ∧ r.f7 = 0 ∧ r.f8 = []) ∨
  (r.f0 = 7 ∧ nS r.f8 = true ∧ r.f8.length ≤ 5000 ∧ (0 ≤ r.f6 ∧ r.f6 ≤ 10000) ∧ (0 ≤ r.f7 ∧ r.f7 ≤ 10000) ∧ r.f2 = 0 ∧ r.f3 = [] ∧ r.f4 = [] ∧ r.f5.f0 = 0 ∧ r.f5.f1 = []) := by
 unfold kC at h
 by_cases h1 : r.f0 = 1
 ·rw [if_pos h1] at h
  simp only [Bool.and_eq_true, beq_iff_eq] at h
  obtain ⟨⟨⟨⟨⟨⟨⟨ha, hb⟩, hc⟩, hd⟩, he⟩, hf⟩, hg⟩, hi⟩ := h
  exact .inl ⟨h1, ha, hb, hc, hd, kY he, hf, hg, kY hi⟩
 rw [if_neg h1] at h
 by_cases h2 : r.f0 = 2
 ·rw [if_pos h2] at h
  simp only [Bool.and_eq_true, beq_iff_eq] at h
  obtain ⟨⟨⟨⟨⟨⟨ha, hb⟩, hc⟩, hd⟩, he⟩, hf⟩, hg⟩ := h
  exact .inr (.inl ⟨h2, ha, kY hb, hc, kY hd, he, hf, kY hg⟩)
 rw [if_neg h2] at h
 by_cases h3 : (decide (r.f0 = 3) || decide (r.f0 = 4) || decide (r.f0 = 5)) = true
 ·rw [if_pos h3] at h
  have h3' : r.f0 = 3 ∨ r.f0 = 4 ∨ r.f0 = 5 := by
   simp only [Bool.or_eq_true, decide_eq_true_eq] at h3
   omega
  simp only [Bool.and_eq_true, beq_iff_eq] at h
  obtain ⟨⟨⟨⟨⟨⟨⟨ha, hb⟩, hc⟩, hd⟩, he⟩, hf⟩, hg⟩, hi⟩ := h
  exact .inr (.inr (.inl ⟨h3', ha, kY hb, kY hc, hd, kY he, hf, hg, kY hi⟩))
 rw [if_neg h3] at h
 by_cases h6 : r.f0 = 6
 ·rw [if_pos h6] at h
  simp only [Bool.and_eq_true, beq_iff_eq, decide_eq_true_eq, List.all_eq_true] at h
  obtain ⟨⟨⟨⟨⟨⟨⟨⟨ha, hb⟩, hc⟩, hd⟩, he⟩, hf⟩, hg⟩, hi⟩, hj⟩ := h
  exact .inr (.inr (.inr (.inl ⟨h6, ha, hb, hc, hd, kY he, kY hf, hg, hi, kY hj⟩)))
 rw [if_neg h6] at h
 by_cases h7 : r.f0 = 7
 ·rw [if_pos h7] at h
  simp only [Bool.and_eq_true, beq_iff_eq, decide_eq_true_eq] at h
  obtain ⟨⟨⟨⟨⟨⟨⟨⟨⟨⟨ha, hb⟩, hc⟩, hd⟩, he⟩, hf⟩, hg⟩, hi⟩, hj⟩, hk⟩, hl⟩ := h
  exact .inr (.inr (.inr (.inr ⟨h7, ha, hb, ⟨hc, hd⟩, ⟨he, hf⟩, hg, kY hi, kY hj, hk, kY hl⟩)))
 rw [if_neg h7] at h
 cases h
theorem vI : (kK []).length ≤ 140737488355328 := by decide
theorem z32 : (0:Int) ≤ 0 ∧ (0:Int) < 4294967296 := by decide
theorem qI : (jV []).length ≤ 140737488355328 := by decide
theorem rQ (r : SRec) (h : kC r = true) : SLen r := by
 rcases NU r h with ⟨_, h3, h4, _, _, h6, _, _, h9⟩ | ⟨_, h3, h4, _, h6, _, _, h9⟩ | ⟨_, _, h3, h4, _, h6, _, _, h9⟩ | ⟨_, _, h6, _, _, h3, h4, _, _, h9⟩ | ⟨_, h9, h95, _, _, _, h3, h4, _, h6⟩
 ·exact ⟨by have := uV _ h3; omega, by have := yU _ h4; omega, by rw [h6]; decide, by rw [h9]; exact qI⟩
 ·exact ⟨by have := uV _ h3; omega, by rw [h4]; exact vI, by rw [h6]; decide, by rw [h9]; exact qI⟩
 ·exact ⟨by rw [h3]; decide, by rw [h4]; exact vI, by rw [h6]; decide, by rw [h9]; exact qI⟩
 ·exact ⟨by rw [h3]; decide, by rw [h4]; exact vI, by omega, by rw [h9]; exact qI⟩
 ·exact ⟨by rw [h3]; decide, by rw [h4]; exact vI, by rw [h6]; decide, by have := yV _ h9 h95; omega⟩
theorem zX (l : List jP) (h : ∀ f ∈ l, TC f) : ∀ f ∈ uB l, JW f := by
 intro f hf
 unfold uB at hf
 obtain ⟨g, hg, rfl⟩ := List.mem_map.1 hf
 exact (h g (List.mem_of_mem_take hg)).2
theorem V4 : ∀ (l : List jI) (last : Int), (∀ e ∈ l, MZ e) → ∀ e ∈ entM last l, JG e
 | [], _, _, e, h => by cases h
 | x :: l, last, hl, e, h => by
  rw [entM] at h
  rcases List.mem_cons.1 h with rfl | h
  ·exact ⟨by simp only; omega, by simp only; omega, zX _ (hl x List.mem_cons_self).2⟩
  ·exact V4 l _ (fun y hy => hl y (List.mem_cons_of_mem _ hy)) e h
theorem ZI (kind id at_ nodes : Int) (facts : List jP) (spans : List Int) (from_ to_ : Int) (entries : List jI) (hid : 0 ≤ id ∧ id < 4294967296) (hat : 0 ≤ at_ ∧ at_ < 4294967296) (hf : ∀ f ∈ facts, TC f) (he : ∀ e ∈ entries, MZ e) :
  zQ (JF kind id at_ nodes facts spans from_ to_ entries) := by
 have hk : 0 ≤ (1 + Int.tmod kind 7) % 256 ∧ (1 + Int.tmod kind 7) % 256 < 256 := by omega
 unfold JF
 simp only
 generalize (1 + Int.tmod kind 7) % 256 = k at hk
 split
 ·exact ⟨hk, hid, z32, zX _ hf, z32, fun e h => by cases h⟩
 split
 ·exact ⟨hk, hid, hat, fun e h => (by cases h), z32, fun e h => by cases h⟩
 split
 ·exact ⟨hk, z32, z32, fun e h => (by cases h), hat, fun e h => by cases h⟩
 split
 ·exact ⟨hk, hid, z32, fun e h => (by cases h), z32, V4 _ _ (fun e h => he e (List.mem_of_mem_take h))⟩
 ·exact ⟨hk, hid, z32, fun e h => (by cases h), z32, fun e h => by cases h⟩
end Go.Proofs.YtgfkgppomaapiaaDoor.K
end

section
namespace Go.Proofs.YtgfkgppomaapiaaDoor.K
open RowKit YtgfkgppomaapiaaDoorW.PrintWords YtgfkgppomaapiaaDoorW.PrintLast YtgfkgppomaapiaaDoorW.PrintMore My
structure Lies (w : World) (r : SRec) (A3 : Option Addr) (a3 : Nat) (A4 : Option Addr) (a4 : Nat) (A6 : Option Addr) (a6 : Nat) (A9 : Option Addr) (a9 : Nat) : Prop where
 h3 : Kd.C (Kd.int .i64) w A3 r.f3.length r.f3
 d3 : r.f3.length ≤ a3
 h4 : Kd.C k139 w A4 r.f4.length r.f4
 d4 : r.f4.length ≤ a4
 h6 : Kd.C k98 w A6 r.f5.f1.length r.f5.f1
 d6 : r.f5.f1.length ≤ a6
 h9 : Kd.C k86 w A9 r.f8.length r.f8
 d9 : r.f8.length ≤ a9
theorem Lies.below {w w' : World} {r : SRec} {A3 A4 A6 A9 : Option Addr} {a3 a4 a6 a9 : Nat} (h : Lies w r A3 a3 A4 a4 A6 a6 A9 a9) (hb : Below w.heap.size w w') : Lies w' r A3 a3 A4 a4 A6 a6 A9 a9 :=
 ⟨Kd.C_below h.h3 hb, h.d3, Kd.C_below h.h4 hb, h.d4, Kd.C_below h.h6 hb, h.d6, Kd.C_below h.h9 hb, h.d9⟩
theorem Q7 {w : World} {r : SRec} {A3 A4 A6 A9 : Option Addr} {a3 a4 a6 a9 : Nat} (h : Lies w r A3 a3 A4 a4 A6 a6 A9 a9) : ∃ v : Int, Calls Tryd.prog 15 #[.agg #[.int .u8 r.f0, .int .u32 r.f1, .int .u32 r.f2, .slice A3 r.f3.length a3, .slice A4 r.f4.length a4, .int .u32 r.f5.f0, .slice A6 r.f5.f1.length a6, .int .i64 r.f6, .int .i64 r.f7, .slice A9 r.f8.length a9]] w fun e w' => e = .returned (.int .i64 v) ∧ Below w.heap.size w w' :=
 TL _ _ _ _ _ _ _ _ _ _ _ _ _ _ _ _ _ _ _ h.h3 h.d3 h.h4 h.d4 h.h6 h.d6 h.h9 h.d9
theorem N9 {w : World} {r : SRec} {A3 A4 A6 A9 : Option Addr} {a3 a4 a6 a9 : Nat} (h : Lies w r A3 a3 A4 a4 A6 a6 A9 a9) {E1 : List Int} {E2 : Int} (hE : encR r = (E1, E2)) : Calls Tryd.prog 17 #[.agg #[.int .u8 r.f0, .int .u32 r.f1, .int .u32 r.f2, .slice A3 r.f3.length a3, .slice A4 r.f4.length a4, .int .u32 r.f5.f0, .slice A6 r.f5.f1.length a6, .int .i64 r.f6, .int .i64 r.f7, .slice A9 r.f8.length a9]] w fun e w' => ∃ v0_ : Value, e = .returned (.tuple #[v0_, .int .u16 E2]) ∧ Kd.R (Kd.int .u8) 5 w' w.heap.size (fun _ => True) v0_ E1 ∧ Below w.heap.size w w' :=
 code_Encode.calls r.f0 r.f1 r.f2 A3 a3 r.f3 A4 a4 r.f4 r.f5.f0 A6 a6 r.f5.f1 r.f6 r.f7 A9 a9 r.f8 E1 E2 w h.h3 h.d3 h.h4 h.d4 h.h6 h.d6 h.h9 h.d9 (congrArg some hE)
theorem yD {w : World} {r s : SRec} {A3 A4 A6 A9 B3 B4 B6 B9 : Option Addr} {a3 a4 a6 a9 b3 b4 b6 b9 : Nat} (h : Lies w r A3 a3 A4 a4 A6 a6 A9 a9) (g : Lies w s B3 b3 B4 b4 B6 b6 B9 b9) {t : Bool} (ht : ∃ k, stratumref07_Same.f k r.f0 r.f1 r.f2 r.f3 r.f4 r.f5.f0 r.f5.f1 r.f6 r.f7 r.f8 s.f0 s.f1 s.f2 s.f3 s.f4 s.f5.f0 s.f5.f1 s.f6 s.f7 s.f8 = some t) :
  Calls Tryd.prog 23 #[.agg #[.int .u8 r.f0, .int .u32 r.f1, .int .u32 r.f2, .slice A3 r.f3.length a3, .slice A4 r.f4.length a4, .int .u32 r.f5.f0, .slice A6 r.f5.f1.length a6, .int .i64 r.f6, .int .i64 r.f7, .slice A9 r.f8.length a9], .agg #[.int .u8 s.f0, .int .u32 s.f1, .int .u32 s.f2, .slice B3 s.f3.length b3, .slice B4 s.f4.length b4, .int .u32 s.f5.f0, .slice B6 s.f5.f1.length b6, .int .i64 s.f6, .int .i64 s.f7, .slice B9 s.f8.length b9]] w fun e w' => e = .returned (.bool t) ∧ Below w.heap.size w w' := by
 obtain ⟨k, hk⟩ := ht
 exact stratumref07_Same.calls k _ _ _ _ _ _ _ _ _ _ _ _ _ _ _ _ _ _ _ _ _ _ _ _ _ _ _ _ _ _ _ _ _ _ _ _ t w h.h3 h.d3 h.h4 h.d4 h.h6 h.d6 h.h9 h.d9 g.h3 g.d3 g.h4 g.d4 g.h6 g.d6 g.h9 g.d9 hk
end Go.Proofs.YtgfkgppomaapiaaDoor.K
end

section
namespace Go.Proofs.YtgfkgppomaapiaaDoor.K
open RowKit YtgfkgppomaapiaaDoorW.PrintWords YtgfkgppomaapiaaDoorW.PrintLast YtgfkgppomaapiaaDoorW.PrintMore My
structure Owns (base : Nat) (w : World) (x : SRec) (A3 : Option Addr) (a3 : Nat) (A4 : Option Addr) (a4 : Nat) (A6 : Option Addr) (a6 : Nat) (A9 : Option Addr) (a9 : Nat) : Prop where
 r3 : Kd.R (Kd.int .i64) 3 w base (fun _ => True) (.slice A3 x.f3.length a3) x.f3
 r4 : Kd.R k139 139 w base (fun _ => True) (.slice A4 x.f4.length a4) x.f4
 r6 : Kd.R k98 98 w base (fun _ => True) (.slice A6 x.f5.f1.length a6) x.f5.f1
 r9 : Kd.R k86 86 w base (fun _ => True) (.slice A9 x.f8.length a9) x.f8
section
variable {base : Nat} {w w' : World} {x : SRec} {A3 A4 A6 A9 : Option Addr} {a3 a4 a6 a9 : Nat}
theorem Owns.lies (h : Owns base w x A3 a3 A4 a4 A6 a6 A9 a9) : Lies w x A3 a3 A4 a4 A6 a6 A9 a9 := by
 obtain ⟨_, q3, C3⟩ := Kd.R_reads' h.r3
 obtain ⟨_, q4, C4⟩ := Kd.R_reads' h.r4
 obtain ⟨_, q6, C6⟩ := Kd.R_reads' h.r6
 obtain ⟨_, q9, C9⟩ := Kd.R_reads' h.r9
 exact ⟨C3, q3, C4, q4, C6, q6, C9, q9⟩
theorem Owns.below (h : Owns base w x A3 a3 A4 a4 A6 a6 A9 a9) (hb : Below w.heap.size w w') : Owns base w' x A3 a3 A4 a4 A6 a6 A9 a9 := ⟨Kd.R_below h.r3 hb, Kd.R_below h.r4 hb, Kd.R_below h.r6 hb, Kd.R_below h.r9 hb⟩
theorem Owns.keep (h : Owns base w x A3 a3 A4 a4 A6 a6 A9 a9) {g : Nat} (hG : w.grownBy w' (some g)) (hlt : g < base) : Owns base w' x A3 a3 A4 a4 A6 a6 A9 a9 := ⟨kT h.r3 hG hlt, kT h.r4 hG hlt, kT h.r6 hG hlt, kT h.r9 hG hlt⟩
theorem Owns.lower {base' : Nat} (h : Owns base w x A3 a3 A4 a4 A6 a6 A9 a9) (hb : base' ≤ base) : Owns base' w x A3 a3 A4 a4 A6 a6 A9 a9 := ⟨Kd.R_lower h.r3 hb, Kd.R_lower h.r4 hb, Kd.R_lower h.r6 hb, Kd.R_lower h.r9 hb⟩
end
end Go.Proofs.YtgfkgppomaapiaaDoor.K
end

section
namespace Go.Proofs.YtgfkgppomaapiaaDoor.K
open RowKit YtgfkgppomaapiaaDoorW.PrintWords YtgfkgppomaapiaaDoorW.PrintLast YtgfkgppomaapiaaDoorW.PrintMore My
def kR : Kd SRec := Kd.iso (Kd.pair (Kd.int .u8) (Kd.pair (Kd.int .u32) (Kd.pair (Kd.int .u32) (Kd.pair (Kd.slice 3 (Kd.int .i64)) (Kd.pair (Kd.slice 139 k139) (Kd.pair (Kd.int .u32) (Kd.pair (Kd.slice 98 k98) (Kd.pair (Kd.int .i64) (Kd.pair (Kd.int .i64) (Kd.slice 86 k86)))))))))) (fun x : SRec => (x.f0, x.f1, x.f2, x.f3, x.f4, x.f5.f0, x.f5.f1, x.f6, x.f7, x.f8))
theorem OO {w : World} {x : SRec} {cs : List Value} (h : kR.K w x cs) : ∃ A3 a3 A4 a4 A6 a6 A9 a9, cs = [.int .u8 x.f0, .int .u32 x.f1, .int .u32 x.f2, .slice A3 x.f3.length a3, .slice A4 x.f4.length a4, .int .u32 x.f5.f0, .slice A6 x.f5.f1.length a6, .int .i64 x.f6, .int .i64 x.f7, .slice A9 x.f8.length a9] ∧ Lies w x A3 a3 A4 a4 A6 a6 A9 a9 := by
 obtain ⟨_, _, rfl, rfl, _, _, rfl, rfl, _, _, rfl, rfl, _, _, rfl, ⟨A3, c3, rfl, l3, g3⟩, _, _, rfl, ⟨A4, c4, rfl, l4, g4⟩, _, _, rfl, rfl, _, _, rfl, ⟨A6, c6, rfl, l6, g6⟩, _, _, rfl, rfl, _, _, rfl, rfl, ⟨A9, c9, rfl, l9, g9⟩⟩ := h
 exact ⟨A3, c3, A4, c4, A6, c6, A9, c9, rfl, g3, l3, g4, l4, g6, l6, g9, l9⟩
theorem kR_K {w : World} {x : SRec} {A3 A4 A6 A9 : Option Addr} {a3 a4 a6 a9 : Nat} (h : Lies w x A3 a3 A4 a4 A6 a6 A9 a9) : kR.K w x [.int .u8 x.f0, .int .u32 x.f1, .int .u32 x.f2, .slice A3 x.f3.length a3, .slice A4 x.f4.length a4, .int .u32 x.f5.f0, .slice A6 x.f5.f1.length a6, .int .i64 x.f6, .int .i64 x.f7, .slice A9 x.f8.length a9] :=
 ⟨[.int .u8 x.f0], _, rfl, rfl, [.int .u32 x.f1], _, rfl, rfl, [.int .u32 x.f2], _, rfl, rfl, [.slice A3 x.f3.length a3], _, rfl, ⟨A3, a3, rfl, h.d3, h.h3⟩, [.slice A4 x.f4.length a4], _, rfl, ⟨A4, a4, rfl, h.d4, h.h4⟩, [.int .u32 x.f5.f0], _, rfl, rfl, [.slice A6 x.f5.f1.length a6], _, rfl, ⟨A6, a6, rfl, h.d6, h.h6⟩, [.int .i64 x.f6], _, rfl, rfl, [.int .i64 x.f7], _, rfl, rfl, ⟨A9, a9, rfl, h.d9, h.h9⟩⟩
theorem kR_M {base : Nat} {w : World} {x : SRec} {A3 A4 A6 A9 : Option Addr} {a3 a4 a6 a9 : Nat} (h : Owns base w x A3 a3 A4 a4 A6 a6 A9 a9) : kR.M w base (fun _ => True) x [.int .u8 x.f0, .int .u32 x.f1, .int .u32 x.f2, .slice A3 x.f3.length a3, .slice A4 x.f4.length a4, .int .u32 x.f5.f0, .slice A6 x.f5.f1.length a6, .int .i64 x.f6, .int .i64 x.f7, .slice A9 x.f8.length a9] :=
 ⟨[.int .u8 x.f0], _, rfl, rfl, [.int .u32 x.f1], _, rfl, rfl, [.int .u32 x.f2], _, rfl, rfl, [.slice A3 x.f3.length a3], _, rfl, ⟨_, rfl, h.r3⟩, [.slice A4 x.f4.length a4], _, rfl, ⟨_, rfl, h.r4⟩, [.int .u32 x.f5.f0], _, rfl, rfl, [.slice A6 x.f5.f1.length a6], _, rfl, ⟨_, rfl, h.r6⟩, [.int .i64 x.f6], _, rfl, rfl, [.int .i64 x.f7], _, rfl, rfl, ⟨_, rfl, h.r9⟩⟩
theorem kR_E : ∀ q ∈ kR.E, q ≠ 30 := by decide
theorem Y7 {base : Nat} {w : World} {x : SRec} {cs : List Value} {v : Value} {n s : Nat} {xs : List Value} {b0 : Nat} (h : kR.M w base (fun _ => True) x cs) (hv : w.ownsRow b0 30 s v n xs) : kR.M w base (fun k => some k ≠ v.ownBlock) x cs :=
 kR.M_mono (fun k hk e => by
  obtain ⟨_, _, _, q, hq, cells, hc⟩ := hk
  obtain ⟨cells', hc'⟩ := mM hv k e.symm
  rw [hc] at hc'
  injection hc' with hc'
  injection hc' with _ hc'
  exact kR_E q hq hc') (kR.M_bound h)
def RRs (w : World) (base : Nat) (v : Value) (l : List SRec) : Prop := kR.R 30 w base (fun _ => True) v l
theorem TQ {base : Nat} {w : World} {x : SRec} {cs : List Value} {v : Value} {l : List SRec} {b0 : Nat} (h : kR.M w base (fun _ => True) x cs) (hv : RRs w b0 v l) : kR.M w base (fun k => some k ≠ v.ownBlock) x cs := by
 obtain ⟨_, inner, ho, _⟩ := hv
 exact Y7 h ho
theorem PI : (Tryd.prog.info? 30).map (fun i => (i.zero, i.size, i.bytes)) = some (some (.agg #[.int .u8 0, .int .u32 0, .int .u32 0, .slice none 0 0, .slice none 0 0, .int .u32 0, .slice none 0 0, .int .i64 0, .int .i64 0, .slice none 0 0]), kR.sz, 136) := by kernel_rfl
theorem RRs.below {w w' : World} {base : Nat} {v : Value} {l : List SRec} (h : RRs w base v l) (hb : Below w.heap.size w w') : RRs w' base v l := Kd.R_below h hb
theorem RRs.lower {w : World} {base base' : Nat} {v : Value} {l : List SRec} (h : RRs w base v l) (hb : base' ≤ base) : RRs w base' v l := Kd.R_lower h hb
theorem LX {base : Nat} {x : SRec} {v : Value} {w : World} (h : RecV base x v w) : ∃ A3 a3 A4 a4 A6 a6 A9 a9, v = .agg #[.int .u8 x.f0, .int .u32 x.f1, .int .u32 x.f2, .slice A3 x.f3.length a3, .slice A4 x.f4.length a4, .int .u32 x.f5.f0, .slice A6 x.f5.f1.length a6, .int .i64 x.f6, .int .i64 x.f7, .slice A9 x.f8.length a9] ∧ Owns base w x A3 a3 A4 a4 A6 a6 A9 a9 := by
 obtain ⟨v3, v4, v6, v9, rfl, g3, g4, g6, g9⟩ := h
 obtain ⟨B3, b3, rfl⟩ := Kd.R_slice g3
 obtain ⟨B4, b4, rfl⟩ := Kd.R_slice g4
 obtain ⟨B6, b6, rfl⟩ := Kd.R_slice g6
 obtain ⟨B9, b9, rfl⟩ := Kd.R_slice g9
 exact ⟨B3, b3, B4, b4, B6, b6, B9, b9, rfl, g3, Kd.R_mono g4 (fun _ _ => trivial), g6, Kd.R_mono g9 (fun _ _ => trivial)⟩
def okL (ls : List (List UInt8)) : List (List UInt8) := ls.takeWhile fun x => (decR x).2 == 0
def qM (ls : List (List UInt8)) : List SRec := (okL ls).map fun x => (decR x).1
end Go.Proofs.YtgfkgppomaapiaaDoor.K
end

section
namespace Go.Proofs.YtgfkgppomaapiaaDoor.K
open Go Go.RowKit Go.Deep Go.ChangeShapes Go.WideShapes Go.ChangeAt Go.Proofs.YtgfkgppomaapiaaDoorW.PrintWords Go.Proofs.YtgfkgppomaapiaaDoorW.PrintLast Go.Proofs.YtgfkgppomaapiaaDoorW.PrintMore Go.Proofs.YtgfkgppomaapiaaDoor.My
instance : Inhabited SRec := ⟨mX⟩
structure SOp where
 k : Int
 r : SRec
 wh : Int
 n : Int
instance : Inhabited SOp := ⟨⟨0, mX, 0, 0⟩⟩
def kOp : Kd SOp := Kd.iso (Kd.pair (Kd.int .u8) (Kd.pair kR (Kd.pair (Kd.int .u8) (Kd.int .i64)))) (fun x : SOp => (x.k, x.r, x.wh, x.n))
theorem WV {w : World} {x : SOp} {cs : List Value} (h : kOp.K w x cs) : ∃ A3 a3 A4 a4 A6 a6 A9 a9, cs = #[.int .u8 x.k, .int .u8 x.r.f0, .int .u32 x.r.f1, .int .u32 x.r.f2, .slice A3 x.r.f3.length a3, .slice A4 x.r.f4.length a4, .int .u32 x.r.f5.f0, .slice A6 x.r.f5.f1.length a6, .int .i64 x.r.f6, .int .i64 x.r.f7, .slice A9 x.r.f8.length a9, .int .u8 x.wh, .int .i64 x.n].toList ∧ Lies w x.r A3 a3 A4 a4 A6 a6 A9 a9 := by
 obtain ⟨_, _, rfl, rfl, _, _, rfl, hr, _, _, rfl, rfl, rfl⟩ := h
 obtain ⟨A3, a3, A4, a4, A6, a6, A9, a9, rfl, hL⟩ := OO hr
 exact ⟨A3, a3, A4, a4, A6, a6, A9, a9, rfl, hL⟩
theorem vK {P : Program} (w : World) (a : Addr) (ty : TypeId) (cs : List Value) (d : TypeDesc) (hc : ∀ j v, cs[j]? = some v → w.cell? (a.add j) = some v)
  (hu : P.underlying ty = some d) (hd : d.isRow = true) (hi : (P.info? ty).map (·.size) = some cs.length) :
  (Instr.loadAt ty (.pointer (some a))).run P w = .ok (.agg cs.toArray) w := by
 have hl : (loadCells a cs.length).run P w = .ok cs.toArray w := run_loadCells_list (P := P) w a cs hc
 have hv : (loadVar ty a).run P w = .ok (.agg cs.toArray) w := by
  cases hq : P.info? ty with
  | none => simp [hq] at hi
  | some i =>
   have hs : i.size = cs.length := by simpa [hq] using hi
   have hagg : (isAgg ty).run P w = .ok true w := by
    unfold isAgg
    rw [Sem.run_bind, run_underlying hu w]
    cases d <;> simp_all
   simp [loadVar, Sem.run_bind, hagg, sizeOf, typeInfo, hq, hs, hl]
 simp only [Instr.loadAt, Instr.sureAddr, Sem.run_bind, Sem.run_pure, Result.andThen_ok, hv]
theorem jb4 {w : World} {A : Option Addr} {n : Nat} {l : List SOp} (h : kOp.C w A n l) (i : Nat) (hi : i < n) :
  ∃ ad A3 a3 A4 a4 A6 a6 A9 a9, A = some ad ∧ Lies w (l.getD i default).r A3 a3 A4 a4 A6 a6 A9 a9 ∧
   (True → (Instr.loadAt 78 (.pointer (some (ad.add (i * 13))))).run Tryd.prog w = .ok (.agg #[.int .u8 (l.getD i default).k, .int .u8 (l.getD i default).r.f0, .int .u32 (l.getD i default).r.f1, .int .u32 (l.getD i default).r.f2, .slice A3 (l.getD i default).r.f3.length a3, .slice A4 (l.getD i default).r.f4.length a4, .int .u32 (l.getD i default).r.f5.f0, .slice A6 (l.getD i default).r.f5.f1.length a6, .int .i64 (l.getD i default).r.f6, .int .i64 (l.getD i default).r.f7, .slice A9 (l.getD i default).r.f8.length a9, .int .u8 (l.getD i default).wh, .int .i64 (l.getD i default).n]) w) ∧
   (True → (Instr.loadAt 30 (.pointer (some ⟨(ad.add (i * 13)).block, (ad.add (i * 13)).off + 1, none⟩))).run Tryd.prog w = .ok (.agg #[.int .u8 (l.getD i default).r.f0, .int .u32 (l.getD i default).r.f1, .int .u32 (l.getD i default).r.f2, .slice A3 (l.getD i default).r.f3.length a3, .slice A4 (l.getD i default).r.f4.length a4, .int .u32 (l.getD i default).r.f5.f0, .slice A6 (l.getD i default).r.f5.f1.length a6, .int .i64 (l.getD i default).r.f6, .int .i64 (l.getD i default).r.f7, .slice A9 (l.getD i default).r.f8.length a9]) w) ∧
   w.cell? (ad.add (i * 13)) = some (.int .u8 (l.getD i default).k) ∧ w.cell? ⟨(ad.add (i * 13)).block, (ad.add (i * 13)).off + 12, none⟩ = some (.int .i64 (l.getD i default).n) := by
 obtain ⟨ad, c, e, _, hK, hc0⟩ := Kd.C_get h default (i : Int) (by omega) (by omega)
 rw [Int.toNat_natCast] at hK hc0
 have hc : ∀ j u, c[j]? = some u → w.cell? (ad.add (i * 13 + j)) = some u := hc0
 obtain ⟨A3, a3, A4, a4, A6, a6, A9, a9, rfl, hL⟩ := WV hK
 refine ⟨ad, A3, a3, A4, a4, A6, a6, A9, a9, e, hL, ?_, ?_, hc 0 _ rfl, by rw [← pU _ _ 12 (by omega)]; exact hc 12 _ rfl⟩
 ·exact fun _ => vK w _ _ #[.int .u8 (l.getD i default).k, .int .u8 (l.getD i default).r.f0, .int .u32 (l.getD i default).r.f1, .int .u32 (l.getD i default).r.f2, .slice A3 (l.getD i default).r.f3.length a3, .slice A4 (l.getD i default).r.f4.length a4, .int .u32 (l.getD i default).r.f5.f0, .slice A6 (l.getD i default).r.f5.f1.length a6, .int .i64 (l.getD i default).r.f6, .int .i64 (l.getD i default).r.f7, .slice A9 (l.getD i default).r.f8.length a9, .int .u8 (l.getD i default).wh, .int .i64 (l.getD i default).n].toList _ (fun j v hj => by rw [Go.Deep.add_add]; exact hc j v hj) Tryd.underlying78 rfl (by kernel_rfl)
 ·exact fun _ => run_loadAt_mid w _ _ 30 #[.int .u8 (l.getD i default).r.f0, .int .u32 (l.getD i default).r.f1, .int .u32 (l.getD i default).r.f2, .slice A3 (l.getD i default).r.f3.length a3, .slice A4 (l.getD i default).r.f4.length a4, .int .u32 (l.getD i default).r.f5.f0, .slice A6 (l.getD i default).r.f5.f1.length a6, .int .i64 (l.getD i default).r.f6, .int .i64 (l.getD i default).r.f7, .slice A9 (l.getD i default).r.f8.length a9].toList _ (fun j v hj => by
   have h10 : j < 10 := by
    have := (List.getElem?_eq_some_iff.1 hj).1
    exact this
   rw [Nat.add_assoc, ← pU _ _ (1 + j) (by omega)]
   exact hc (1 + j) v (by rw [Nat.add_comm]; match j, h10 with
    | 0, _ | 1, _ | 2, _ | 3, _ | 4, _ | 5, _ | 6, _ | 7, _ | 8, _ | 9, _ => exact hj)) Tryd.underlying30 rfl (by kernel_rfl)
end Go.Proofs.YtgfkgppomaapiaaDoor.K
end

section
namespace Go.Proofs.YtgfkgppomaapiaaDoor.K
open RowKit YtgfkgppomaapiaaDoorW.PrintWords YtgfkgppomaapiaaDoorW.PrintLast YtgfkgppomaapiaaDoorW.PrintMore My
def UZ (w : World) (r : SRec) (e : Ending) (w' : World) : Prop := ∃ A3 a3 A4 a4 A6 a6 A9 a9, e = .returned (.agg #[.int .u8 r.f0, .int .u32 r.f1, .int .u32 r.f2, .slice A3 r.f3.length a3, .slice A4 r.f4.length a4, .int .u32 r.f5.f0, .slice A6 r.f5.f1.length a6, .int .i64 r.f6, .int .i64 r.f7, .slice A9 r.f8.length a9]) ∧ Owns w.heap.size w' r A3 a3 A4 a4 A6 a6 A9 a9 ∧ Below w.heap.size w w'
theorem WL (kind id at_ nodes : Int) {A4 : Option Addr} {a4 : Nat} (l4 : List jP) {A5 : Option Addr} {a5 : Nat} (l5 : List Int) (from_ to_ : Int) {A8 : Option Addr} {a8 : Nat} (l8 : List jI) {w : World} (h4 : Kd.C k139 w A4 l4.length l4) (d4 : l4.length ≤ a4) (h5 : Kd.C (Kd.int .u16) w A5 l5.length l5) (d5 : l5.length ≤ a5) (h8 : Kd.C k86 w A8 l8.length l8) (d8 : l8.length ≤ a8) (hf : ∀ e ∈ l8, e.f1.length ≤ 9223372036854775807)
  {r : SRec} (hr : JF kind id at_ nodes l4 l5 from_ to_ l8 = r) :
  Calls Tryd.prog 21 #[.int .u8 kind, .int .u32 id, .int .u32 at_, .int .u8 nodes, .slice A4 l4.length a4, .slice A5 l5.length a5, .int .u16 from_, .int .u16 to_, .slice A8 l8.length a8] w (UZ w r) := by
 have hev := j09 kind id at_ nodes l4 l5 from_ to_ l8 (lC h4) hf
 rw [hr] at hev
 obtain ⟨k, hk⟩ := hev.rounds
 refine (stratumlaw07_Make.calls k kind id at_ nodes A4 a4 l4 A5 a5 l5 from_ to_ A8 a8 l8 _ _ _ _ _ _ _ _ _ _ w h4 d4 h5 d5 h8 d8 hk).mono ?_
 rintro e w1 ⟨v3, v4, v6, v9, rfl, g3, g4, g6, g9, hB⟩
 obtain ⟨B3, b3, rfl⟩ := Kd.R_slice g3
 obtain ⟨B4, b4, rfl⟩ := Kd.R_slice g4
 obtain ⟨B6, b6, rfl⟩ := Kd.R_slice g6
 obtain ⟨B9, b9, rfl⟩ := Kd.R_slice g9
 exact ⟨B3, b3, B4, b4, B6, b6, B9, b9, rfl, ⟨Kd.R_mono g3 (fun _ _ => trivial), Kd.R_mono g4 (fun _ _ => trivial), Kd.R_mono g6 (fun _ _ => trivial), Kd.R_mono g9 (fun _ _ => trivial)⟩, hB⟩
def IB (o : SOp) : SRec := JF o.wh o.r.f1 o.r.f2 o.wh o.r.f4 [] (IntKind.u16.wrap (Int.tmod o.n 9)) 10 o.r.f8
theorem VV {tmps : Array Value} {W : World} {p : Tmp} {b : Nat} {cs : Array Value} (h : Tryd.f42.results = #[.cell p 30]) (hp : tmps.getD p undef = .pointer (some ⟨b, 0, none⟩)) (hx : W.heap[b]? = some (.cells cs 30 (0, 0))) (hs : cs.size = 10) :
  (results Tryd.f42 tmps).run Tryd.prog W = .ok (.agg cs) W := by
 exact results_cell_row h _ _ _ _ _ _ _ hp hx Tryd.underlying30 rfl (by rw [hs]; kernel_rfl)
attribute [-go_sem] Instr.build Instr.storeAt
set_option maxRecDepth 20000 in
set_option maxHeartbeats 4000000 in
theorem j01 {w : World} {o : SOp} {A3 A4 A6 A9 : Option Addr} {a3 a4 a6 a9 : Nat} (h : Lies w o.r A3 a3 A4 a4 A6 a6 A9 a9) (hn : -9223372036854775808 ≤ o.n ∧ o.n ≤ 9223372036854775807) :
  Calls Tryd.prog 42 #[.agg #[.int .u8 o.k, .int .u8 o.r.f0, .int .u32 o.r.f1, .int .u32 o.r.f2, .slice A3 o.r.f3.length a3, .slice A4 o.r.f4.length a4, .int .u32 o.r.f5.f0, .slice A6 o.r.f5.f1.length a6, .int .i64 o.r.f6, .int .i64 o.r.f7, .slice A9 o.r.f8.length a9, .int .u8 o.wh, .int .i64 o.n]] w (UZ w (IB o)) := by
 obtain ⟨W, hW⟩ : ∃ W, W = (w.alloc (.cells #[.int .u8 o.k, .int .u8 o.r.f0, .int .u32 o.r.f1, .int .u32 o.r.f2, .slice A3 o.r.f3.length a3, .slice A4 o.r.f4.length a4, .int .u32 o.r.f5.f0, .slice A6 o.r.f5.f1.length a6, .int .i64 o.r.f6, .int .i64 o.r.f7, .slice A9 o.r.f8.length a9, .int .u8 o.wh, .int .i64 o.n] 78)).alloc (.cells #[.int .u8 0, .int .u32 0, .int .u32 0, .slice none 0 0, .slice none 0 0, .int .u32 0, .slice none 0 0, .int .i64 0, .int .i64 0, .slice none 0 0] 30) := ⟨_, rfl⟩
 have hb : Below w.heap.size w W := by rw [hW]; exact iG (iG (Below.refl _ _) _) _
 have hX : W.heap[w.heap.size]? = some (.cells #[.int .u8 o.k, .int .u8 o.r.f0, .int .u32 o.r.f1, .int .u32 o.r.f2, .slice A3 o.r.f3.length a3, .slice A4 o.r.f4.length a4, .int .u32 o.r.f5.f0, .slice A6 o.r.f5.f1.length a6, .int .i64 o.r.f6, .int .i64 o.r.f7, .slice A9 o.r.f8.length a9, .int .u8 o.wh, .int .i64 o.n] 78 (0, 0)) := by rw [hW]; exact jM (jB rfl)
 have HZ := iC.mk (show W.heap[w.heap.size + 1]? = some (.cells #[.int .u8 0, .int .u32 0, .int .u32 0, .slice none 0 0, .slice none 0 0, .int .u32 0, .slice none 0 0, .int .i64 0, .int .i64 0, .slice none 0 0] 30 (0, 0)) from by rw [hW]; exact jB (by simp))
 have HL := iC.mk (h.below hb)
 have HB := iC.mk hb
 have HW := iC.mk hW
 have HLT := iC.mk (jU HZ.out)
 have z2 : W.cell? ⟨w.heap.size, 2, none⟩ = some (.int .u32 o.r.f1) := (iE hX 2).trans rfl
 have z3 : W.cell? ⟨w.heap.size, 3, none⟩ = some (.int .u32 o.r.f2) := (iE hX 3).trans rfl
 have z5 : W.cell? ⟨w.heap.size, 5, none⟩ = some (.slice A4 o.r.f4.length a4) := (iE hX 5).trans rfl
 have z10 : W.cell? ⟨w.heap.size, 10, none⟩ = some (.slice A9 o.r.f8.length a9) := (iE hX 10).trans rfl
 have z11 : W.cell? ⟨w.heap.size, 11, none⟩ = some (.int .u8 o.wh) := (iE hX 11).trans rfl
 have z12 : W.cell? ⟨w.heap.size, 12, none⟩ = some (.int .i64 o.n) := (iE hX 12).trans rfl
 have hcall := WL o.wh o.r.f1 o.r.f2 o.wh (a4 := a4) o.r.f4 (A5 := none) (a5 := 0) [] (IntKind.u16.wrap (Int.tmod o.n 9)) 10 (a8 := a9) o.r.f8 HL.out.h4 HL.out.d4 (Kd.C_nil _ _) (Nat.le_refl _) HL.out.h9 HL.out.d9 (fun e he => ((V3 HL.out.h3 HL.out.h4 HL.out.h6 HL.out.h9).f9 e he).1) (show _ = IB o from rfl)
 obtain ⟨R, hR⟩ : ∃ R, R = IB o := ⟨_, rfl⟩
 rw [← hR] at hcall ⊢
 have hn0 := hn.1
 have hn1 := hn.2
 clear h hb hX hW hR hn
 go_enter Tryd.func42, Tryd.ntmps42
 go_upto_region 1 with fail
 rw [← HW.out]
 clear HW
 go_wp2_with fail
 go_at_call 21
 refine hcall.mono ?_
 rintro e w1 ⟨B3, b3, B4, b4, B6, b6, B9, b9, rfl, hO, hb1⟩
 have HZ1 := iC.mk (iO hb1 HZ.out)
 have HO1 := iC.mk hO
 have HB1 := iC.mk (iK HB.out hb1)
 have hst := fun (_ : True) => qL (a := R.f0) (k := R.f1) (i := R.f2) (x3 := .slice B3 R.f3.length b3) (x4 := .slice B4 R.f4.length b4) (j := R.f5.f0) (x6 := .slice B6 R.f5.f1.length b6) (p := R.f6) (q := R.f7) (x9 := .slice B9 R.f8.length b9) HZ1.out rfl rfl rfl rfl
 clear hcall hO hb1 z2 z3 z5 z10 z11 z12
 go_wp2
 ((try simp only [Exit.inBlock, Exit.then]); refine bodyPost_ret (VV rfl rfl (setRow_heap _ _ _ _ _ _ HZ1.out) rfl) rfl ?_)
 exact ⟨B3, b3, B4, b4, B6, b6, B9, b9, rfl, (HO1.out.keep (jR _ _ _) HLT.out).lower HB.out.size, below_grown HB1.out (jR _ _ _) (Nat.le_succ _) (Nat.le_refl _)⟩
def HvP (n : Nat) (w : World) (e : Ending) (w' : World) : Prop := ∃ B : Bool, e = .returned (.bool B) ∧ (B = false → (n : Int) ≤ 40) ∧ Below w.heap.size w w'
attribute [-go_sem] Instr.loadAt
set_option maxRecDepth 20000 in
set_option maxHeartbeats 4000000 in
theorem ZN (A : Option Addr) (c : Nat) (l : List SOp) (w : World) (h : kOp.C w A l.length l) :
  Calls Tryd.prog 36 #[.slice A l.length c] w (HvP l.length w) := by
 have hm := lC h
 have H := iC.mk h
 clear h
 go_enter Tryd.func36, Tryd.ntmps36
 go_wp2
 go_loopw [3, 4] (fun x i wr => ∃ (k : Nat) (v : Int), k ≤ l.length ∧ i = .int .i64 k ∧ x = .int .i64 v ∧ iC (Below w.heap.size w wr)) (fun _ i _ => l.length - (intOf i).toNat)
 case atStart => exact ⟨0, 0, Nat.zero_le _, rfl, rfl, ⟨Below.refl _ _⟩⟩
 case round =>
  obtain ⟨k, v, hk, rfl, rfl, HB⟩ := hrel
  by_cases hlt : k < l.length
  ·obtain ⟨ad, A3, a3, A4, a4, A6, a6, A9, a9, rfl, hL, hld0, hld, hc0, hc1⟩ := jb4 (Kd.C_below H.out HB.out) k hlt
   obtain ⟨hv, hcall⟩ := Q7 hL
   clear hL hld0 hc0 hc1
   generalize l.getD k default = o at hcall hld
   have hk1 : (k : Int) < (l.length : Int) := by omega
   obtain ⟨wr0, rfl⟩ : ∃ x : World, x = wr := ⟨_, rfl⟩
   go_wp2_with fail
   go_at_call 15
   refine hcall.mono ?_
   rintro e w2 ⟨rfl, hb2⟩
   have HB2 := iC.mk (iK HB.out hb2)
   clear hcall hb2 hld
   go_wp2
   go_roundw
   case rel => exact ⟨k + 1, _, by omega, by go_num, rfl, HB2⟩
   case measure => simp [intOf]; omega
  ·obtain rfl : k = l.length := by omega
   by_cases h40 : (l.length : Int) > 40
   ·go_wp2
    go_ret
    exact ⟨true, rfl, fun h => (by cases h), HB.out⟩
   ·have H40 := iC.mk h40
    by_cases h3 : v > 3000
    ·go_wp2
     go_ret
     exact ⟨true, rfl, fun h => (by cases h), HB.out⟩
    ·go_wp2
     go_ret
     exact ⟨false, rfl, fun _ => (by have := H40.out; omega), HB.out⟩
end Go.Proofs.YtgfkgppomaapiaaDoor.K
end

section
namespace Go.Proofs.YtgfkgppomaapiaaDoor.K
open Go.RowKit Go.Proofs.YtgfkgppomaapiaaDoorW.PrintWords Go.Proofs.YtgfkgppomaapiaaDoor.My
theorem JZ {x : SRec} (hs : kC x = true) (hk : zQ x) (hl : (recE x).length ≤ 60000) : decR (recE x) = (x, 0) := by
 unfold decR
 have h1 := VZ x [] hs hk
 rw [List.append_nil] at h1
 rw [if_neg (by omega), h1]
 simp only
 rw [if_pos]
 unfold encR
 rw [if_pos hs, if_neg (by omega)]
end Go.Proofs.YtgfkgppomaapiaaDoor.K
end

section
namespace Go.Proofs.YtgfkgppomaapiaaDoor.K
open RowKit YtgfkgppomaapiaaDoorW.PrintWords YtgfkgppomaapiaaDoorW.PrintLast YtgfkgppomaapiaaDoorW.PrintMore My
theorem yP {x : SRec} (h : SLen x) : ∃ k, stratumref07_Same.f k x.f0 x.f1 x.f2 x.f3 x.f4 x.f5.f0 x.f5.f1 x.f6 x.f7 x.f8 x.f0 x.f1 x.f2 x.f3 x.f4 x.f5.f0 x.f5.f1 x.f6 x.f7 x.f8 = some true := by
 obtain ⟨t, h1, h2⟩ := j9_ x x h h
 obtain ⟨k, hk⟩ := h1.rounds
 rw [h2.2 ⟨rfl, rfl, rfl, rfl, rfl, rfl, rfl, ⟨rfl, rfl⟩, rfl⟩] at hk
 exact ⟨k, hk⟩
end Go.Proofs.YtgfkgppomaapiaaDoor.K
end
