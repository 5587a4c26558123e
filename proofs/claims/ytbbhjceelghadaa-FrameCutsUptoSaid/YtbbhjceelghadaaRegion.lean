/- A region that draws its order and only makes memory: each operation is shown once; what is known of a value stays known while memory grows. -/
import Derived.Test.YtbbhjceelghadaaBase
import Derived.Test.YtbbhjceelghadaaWInv
import Derived.Test.YtbbhjceelghadaaWInvWords
namespace Go.Proofs.Ytbbhjceelghadaa.My
open Go Go.RowKit Go.Proofs.YtbbhjceelghadaaW.PrintWords Go.Proofs.YtbbhjceelghadaaW.PrintLast

def entries (D : List Tmp) (vs : Nat → Value) : List (Nat × Tmp × Value) := (List.range D.length).map fun i => (i, D.getD i 0, vs i)
theorem entries_get {D : List Tmp} {vs : Nat → Value} {i : Nat} (h : i < D.length) : (entries D vs)[i]? = some (i, D.getD i 0, vs i) := by
  unfold entries
  rw [List.getElem?_map, List.getElem?_range h]
  rfl
theorem entries_length (D : List Tmp) (vs : Nat → Value) : (entries D vs).length = D.length := by simp [entries]
theorem entries_set {D : List Tmp} {vs : Nat → Value} {i : Nat} (v : Value) : (entries D vs).set i (i, D.getD i 0, v) = entries D (fun j => if j = i then v else vs j) := by
  apply List.ext_getElem?
  intro j
  by_cases hj : j < D.length
  · by_cases hij : i = j
    · subst hij
      rw [List.getElem?_set_self (by rw [entries_length]; exact hj), entries_get hj, if_pos rfl]
    · rw [List.getElem?_set_ne hij, entries_get hj, entries_get hj, if_neg (Ne.symm hij)]
  · rw [List.getElem?_eq_none (by simp [entries_length]; omega), List.getElem?_eq_none (by rw [entries_length]; omega)]

/-- The places of D other than i do not hold D's i-th. -/
def distinctD (D : List Tmp) : Bool := decide D.Nodup

theorem nodup_getD {D : List Tmp} (h : D.Nodup) {i j : Nat} (hi : i < D.length) (hj : j < D.length) (e : D.getD i 0 = D.getD j 0) : i = j := by
  rw [List.getD_eq_getElem?_getD, List.getD_eq_getElem?_getD, List.getElem?_eq_getElem hi, List.getElem?_eq_getElem hj] at e
  simp only [Option.getD_some] at e
  have hp := List.pairwise_iff_getElem.1 h
  rcases Nat.lt_trichotomy i j with hij | hij | hij
  · exact absurd e (hp i j hi hj hij)
  · exact hij
  · exact absurd e.symm (hp j i hj hi hij)
theorem putSel_congr {b b' : Nat → Bool} : ∀ {L : List (Nat × Tmp × Value)} {a : Act}, (∀ e ∈ L, b e.1 = b' e.1) → putSel a b L = putSel a b' L
  | [], _, _ => rfl
  | e :: L, a, h => by
    unfold putSel
    rw [h e List.mem_cons_self]
    exact putSel_congr (fun x hx => h x (List.mem_cons_of_mem _ hx))

theorem entries_apart {D : List Tmp} {vs : Nat → Value} {i : Nat} (hD : distinctD D = true) (hi : i < D.length) :
    (((entries D vs).take i ++ (entries D vs).drop (i + 1)).all fun e => !(e.1 == i) && !(e.2.1 == D.getD i 0)) = true := by
  have hnd : D.Nodup := of_decide_eq_true hD
  rw [List.all_eq_true]
  intro e he
  obtain ⟨j, hj, hne⟩ : ∃ j, (entries D vs)[j]? = some e ∧ j ≠ i := by
    rcases List.mem_append.1 he with h | h
    · obtain ⟨j, hj⟩ := List.getElem?_of_mem h
      rw [List.getElem?_take] at hj
      split at hj
      · exact ⟨j, hj, by omega⟩
      · cases hj
    · obtain ⟨j, hj⟩ := List.getElem?_of_mem h
      rw [List.getElem?_drop] at hj
      exact ⟨_, hj, by omega⟩
  have hjl : j < D.length := by have := (List.getElem?_eq_some_iff.1 hj).1; rwa [entries_length] at this
  rw [entries_get hjl] at hj
  simp only [Option.some.injEq] at hj
  subst hj
  simp only [Bool.and_eq_true, Bool.not_eq_true', beq_eq_false_iff_ne]
  exact ⟨hne, fun e => hne (nodup_getD hnd hjl hi e)⟩

section
variable {P : Program} {ops : Array Oper} {Q : Exit → Act → World → Prop} {T : Bool × List (List Nat × List Nat)} {B : List Nat}

/-- One operation: whatever has come up before it, if all that it waits for has. -/
def GrowStep (P : Program) (ops : Array Oper) (Q : Exit → Act → World → Prop) (B : List Nat) (D : List Tmp) (R : Nat → Value → World → Prop) (a0 : Act) (w0 : World) (i : Nat) : Prop :=
  ∀ (a : Act) (w : World) (vs : Nat → Value), Below w0.heap.size w0 w → (∀ s, D.contains s = false → a.tmps[s]? = a0.tmps[s]?) →
    (∀ j, (B.getD i 0).testBit j = true → a.tmps[D.getD j 0]? = some (vs j) ∧ R j (vs j) w) →
    ∃ oi, ops[i]? = some oi ∧ oi.dst = some (D.getD i 0) ∧ ∀ K : Act → World → Prop, (∀ v w', R i v w' → Below w.heap.size w w' → K (a.put (some (D.getD i 0)) v) w') →
      if Region.wanted oi (yielded ops a.tmps) = true then Oper.wp P oi a w K Q else K (a.put (some (D.getD i 0)) undef) w

theorem gsteps_nil {D : List Tmp} {R : Nat → Value → World → Prop} {a0 : Act} {w0 : World} : ∀ i ∈ ([] : List Nat), GrowStep P ops Q B D R a0 w0 i := fun _ h => by cases h
theorem gsteps_cons {D : List Tmp} {R : Nat → Value → World → Prop} {a0 : Act} {w0 : World} {i : Nat} {rs : List Nat} (h : GrowStep P ops Q B D R a0 w0 i) (hs : ∀ j ∈ rs, GrowStep P ops Q B D R a0 w0 j) : ∀ j ∈ i :: rs, GrowStep P ops Q B D R a0 w0 j := fun j hj => by
  rcases List.mem_cons.1 hj with rfl | hj
  · exact h
  · exact hs j hj

/-- What stays known while memory grows. -/
def Rm (r : Value → World → Prop) : Prop := ∀ v w w', r v w → Below w.heap.size w w' → r v w'
theorem Rm_eq (t : Value) : Rm (fun v _ => v = t) := fun _ _ _ h _ => h
theorem Rm_pure (p : Value → Prop) : Rm (fun v _ => p v) := fun _ _ _ h _ => h
/-- A row made here, known whole. -/
def RLit (n : Nat) (cells : Array Value) (E : Nat) : Value → World → Prop := fun v w => ∃ b, v = .slice (some ⟨b, 0, none⟩) n n ∧ w.heap[b]? = some (.cells cells E (0, 0))
theorem Rm_lit (n : Nat) (cells : Array Value) (E : Nat) : Rm (RLit n cells E) := fun _ _ _ ⟨b, h1, h2⟩ hb => ⟨b, h1, heap_below hb h2⟩
theorem Rms_nil : ∀ r ∈ ([] : List (Value → World → Prop)), Rm r := fun _ h => by cases h
theorem Rms_cons {r : Value → World → Prop} {rs : List (Value → World → Prop)} (h : Rm r) (hs : ∀ r ∈ rs, Rm r) : ∀ x ∈ r :: rs, Rm x := fun x hx => by
  rcases List.mem_cons.1 hx with rfl | hx
  · exact h
  · exact hs x hx
def RR (Rs : List (Value → World → Prop)) : Nat → Value → World → Prop := fun i => Rs.getD i (fun _ _ => True)
theorem RR_mono {Rs : List (Value → World → Prop)} (h : ∀ r ∈ Rs, Rm r) : ∀ i v w w', RR Rs i v w → Below w.heap.size w w' → RR Rs i v w' := by
  intro i v w w' hr hb
  unfold RR at *
  rcases Nat.lt_or_ge i Rs.length with hl | hl
  · have e : Rs.getD i (fun _ _ => True) = Rs[i] := by rw [List.getD_eq_getElem?_getD, List.getElem?_eq_getElem hl]; rfl
    rw [e] at hr ⊢
    exact h _ (List.getElem_mem hl) v w w' hr hb
  · rw [List.getD_eq_getElem?_getD, List.getElem?_eq_none hl]
    trivial
theorem grow_region {id : Nat} {a0 : Act} {w0 : World} (D : List Tmp) (R : Nat → Value → World → Prop) (hm : P.follows .mixedOrders = true)
    (hT : rtab .any ops = T) (hw : waitsOk T.2 B = true) (hk : baseOk T.2 (List.range ops.size) = true) (hD : distinctD D = true) (hDn : D.length = ops.size)
    (hin : (D.all fun t => Nat.ble (t + 1) a0.tmps.size) = true) (hBn : ((List.range ops.size).all fun i => Nat.ble (B.getD i 0) (2 ^ ops.size - 1)) = true)
    (hmono : ∀ i v w w', R i v w → Below w.heap.size w w' → R i v w')
    (hs : ∀ i ∈ List.range ops.size, GrowStep P ops Q B D R a0 w0 i)
    (hend : ∀ (vs : Nat → Value) (w : World), Below w0.heap.size w0 w → (∀ i, i < ops.size → R i (vs i) w) → Q .normal (putSel a0 (fun _ => true) (entries D vs)) w) :
    (Code.region id ops true).wp P Q a0 w0 := by
  have hTl : T.2.length = ops.size := by rw [← hT, rtab_length]
  refine start_ (n := ops.size) (S := fun _ => True) (ds := []) (Array.replicate ops.size false) hm rfl rfl trivial (fun _ => ?_)
  refine inv_ (T := T) (B := B) (List.range ops.size) (fun b a w => ∃ vs : Nat → Value, a = putSel a0 b (entries D vs) ∧ (∀ i, i < ops.size → b i = true → R i (vs i) w) ∧ Below w0.heap.size w0 w) hT hw hk ?_ ?_ ?_ ?_
  · simp only [Bool.and_eq_true, beq_iff_eq, List.length_range, and_true]
    rw [hTl]
    apply List.ext_getElem
    · simp [lof]
    · intro i h1 h2
      simp [lof] at h1 ⊢
      exact h1
  · refine ⟨fun _ => undef, ?_, (fun _ _ h => by cases h), below_drew (Below.refl _ _)⟩
    have : ∀ (L : List (Nat × Tmp × Value)) (a : Act), putSel a (fun _ => false) L = a := by
      intro L
      induction L with
      | nil => intro a; rfl
      | cons e L ih => intro a; unfold putSel; rw [if_neg (by simp)]; exact ih a
    rw [this]
  · intro i hi
    have hil : i < ops.size := List.mem_range.1 hi
    have hiD : i < D.length := by omega
    intro b a w ⟨vs, ha, hR, hB⟩ hb hon hoff
    have hsz : ∀ s, D.contains s = false → a.tmps[s]? = a0.tmps[s]? := by
      intro s hsD
      rw [ha]
      refine putSel_off ?_
      rw [List.all_eq_true]
      intro e he
      obtain ⟨j, hj⟩ := List.getElem?_of_mem he
      have hjl : j < D.length := by have := (List.getElem?_eq_some_iff.1 hj).1; rwa [entries_length] at this
      rw [entries_get hjl] at hj
      simp only [Option.some.injEq] at hj
      subst hj
      simp only [Bool.not_eq_true', beq_eq_false_iff_ne]
      intro h
      have : D.contains s = true := by
        rw [List.contains_iff_mem, ← h, List.getD_eq_getElem?_getD, List.getElem?_eq_getElem hjl]
        exact List.getElem_mem hjl
      rw [this] at hsD
      cases hsD
    have hdep : ∀ j, (B.getD i 0).testBit j = true → a.tmps[D.getD j 0]? = some (vs j) ∧ R j (vs j) w := by
      intro j hj
      have hjn : j < ops.size := by
        rcases Nat.lt_or_ge j ops.size with h | h
        · exact h
        · have h1 := List.all_eq_true.1 hBn i hi
          have h2 : B.getD i 0 ≤ 2 ^ ops.size - 1 := Nat.le_of_ble_eq_true h1
          have h3 : B.getD i 0 < 2 ^ j := Nat.lt_of_le_of_lt h2 (Nat.lt_of_lt_of_le (Nat.sub_lt (Nat.two_pow_pos _) Nat.one_pos) (Nat.pow_le_pow_right (by decide) h))
          rw [Nat.testBit_lt_two_pow h3] at hj
          cases hj
      have hbj : b j = true := hon j (by rw [Bool.and_eq_true]; exact ⟨by simpa using hjn, hj⟩)
      refine ⟨?_, hR j hjn hbj⟩
      rw [ha]
      have hjD : j < D.length := by omega
      refine putSel_on (e := (j, D.getD j 0, vs j)) j (entries_get hjD) ?_ hbj ?_
      · have := entries_apart (vs := vs) hD hjD
        rw [List.all_append, Bool.and_eq_true] at this
        have h2 := this.2
        rw [List.all_eq_true] at h2 ⊢
        intro x hx
        have := h2 x hx
        rw [Bool.and_eq_true] at this
        exact this.2
      · have h1 := List.all_eq_true.1 hin (D.getD j 0) (by rw [List.getD_eq_getElem?_getD, List.getElem?_eq_getElem hjD]; exact List.getElem_mem hjD)
        exact h1
    obtain ⟨oi, ho, hdst, hstep⟩ := hs i hi a w vs hB hsz hdep
    refine ⟨oi, ho, fun K hK => ?_⟩
    rw [hdst]
    refine hstep K fun v w' hv hbw => ?_
    refine hK.out _ _ ⟨fun j => if j = i then v else vs j, ?_, ?_, below_step hB hbw⟩
    · rw [ha]
      exact putSel_upk i hb (entries_get hiD) (entries_set v) (entries_apart hD hiD)
    · intro j hj hbj
      by_cases hji : j = i
      · subst hji
        simp only [if_pos]
        exact hv
      · simp only [if_neg hji]
        rw [up_ne hji] at hbj
        exact hmono _ _ _ _ (hR j hj hbj) hbw
  · intro b a w hall ⟨vs, ha, hR, hB⟩
    have : putSel a0 b (entries D vs) = putSel a0 (fun _ => true) (entries D vs) := by
      have hlt : ∀ e ∈ entries D vs, b e.1 = true := by
        intro e he
        obtain ⟨j, hj⟩ := List.getElem?_of_mem he
        have hjl : j < D.length := by have := (List.getElem?_eq_some_iff.1 hj).1; rwa [entries_length] at this
        rw [entries_get hjl] at hj
        simp only [Option.some.injEq] at hj
        subst hj
        exact hall j (by simpa using (by omega : j < ops.size))
      exact putSel_congr (fun e he => hlt e he)
    rw [ha, this]
    exact hend vs w hB (fun i hi => hR i hi (hall i (by simpa using hi)))
/-- The same, as it is used. -/
theorem grow_rs {id : Nat} {a0 : Act} {w0 : World} (D : List Tmp) (Rs : List (Value → World → Prop)) (L : List Nat) (T : Bool × List (List Nat × List Nat)) (B : List Nat) (hm : P.follows .mixedOrders = true)
    (hT : rtab .any ops = T) (hL : List.range ops.size = L) (hw : waitsOk T.2 B = true) (hk : baseOk T.2 L = true) (hD : distinctD D = true) (hDn : D.length = ops.size)
    (hin : (D.all fun t => Nat.ble (t + 1) a0.tmps.size) = true) (hBn : (L.all fun i => Nat.ble (B.getD i 0) (2 ^ D.length - 1)) = true)
    (hmono : ∀ r ∈ Rs, Rm r) (hs : ∀ i ∈ L, GrowStep P ops Q B D (RR Rs) a0 w0 i)
    (hend : ∀ (vs : Nat → Value) (w : World), Below w0.heap.size w0 w → (∀ i, Nat.ble (i + 1) D.length = true → RR Rs i (vs i) w) → Q .normal (putSel a0 (fun _ => true) (entries D vs)) w) :
    (Code.region id ops true).wp P Q a0 w0 := by
  subst hL
  rw [hDn] at hBn
  exact grow_region D (RR Rs) hm hT hw hk hD hDn hin hBn (RR_mono hmono) hs (fun vs w hb h => hend vs w hb (fun i hi => h i (by have := Nat.le_of_ble_eq_true hi; omega)))
end

end Go.Proofs.Ytbbhjceelghadaa.My
