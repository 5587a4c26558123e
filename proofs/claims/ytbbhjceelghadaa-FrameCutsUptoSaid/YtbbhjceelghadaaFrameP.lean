/- Plain law of frames (layer 9): how bytes are wrapped and scanned. No program in sight. -/
import Derived.Test.YtbbhjceelghadaaAdler
namespace Go.Proofs.Ytbbhjceelghadaa.My

/-- A number's four bytes, the greatest first. -/
def be4 (n : Nat) : List UInt8 := [UInt8.ofNat (n / 16777216), UInt8.ofNat (n / 65536), UInt8.ofNat (n / 256), UInt8.ofNat n]
def spellB (n size : Nat) : List UInt8 := (be4 n).drop (4 - size)
def headB (n : Nat) : List UInt8 := spellB n 3
def tailB (l : List UInt8) : List UInt8 := spellB (sumN [l]) 4
def wrapB (l : List UInt8) : List UInt8 := headB l.length ++ l ++ tailB (headB l.length ++ l)

theorem head_len (n : Nat) : (headB n).length = 3 := rfl
theorem tail_len (l : List UInt8) : (tailB l).length = 4 := rfl
theorem wrap_len (l : List UInt8) : (wrapB l).length = l.length + 7 := by
  unfold wrapB
  rw [List.length_append, List.length_append, head_len, tail_len]
  omega
/-- What a head says. -/
def num3 (b : List UInt8) : Nat := (b.getD 0 0).toNat * 65536 + (b.getD 1 0).toNat * 256 + (b.getD 2 0).toNat
theorem num3_head (n : Nat) (h : n < 16777216) (r : List UInt8) : num3 (headB n ++ r) = n := by
  simp only [num3, headB, spellB, be4, List.drop, List.cons_append, List.nil_append, List.getD_cons_zero, List.getD_cons_succ, UInt8.toNat_ofNat']
  omega
theorem be4_inj {a b : Nat} (ha : a < 4294967296) (hb : b < 4294967296) (h : be4 a = be4 b) : a = b := by
  simp only [be4, List.cons.injEq, and_true, ← UInt8.toNat_inj, UInt8.toNat_ofNat'] at h
  omega
theorem tail_eq {a b : List UInt8} (h : tailB a = tailB b) : sumN [a] = sumN [b] := be4_inj (sumN_lt _) (sumN_lt _) h

/-- The first frame of bytes: what it holds. -/
def firstB (b : List UInt8) : Option (List UInt8) :=
  if b.length < 7 then none
  else if num3 b > 60000 ∨ num3 b > b.length - 7 then none
  else if tailB (b.take (3 + num3 b)) = (b.drop (3 + num3 b)).take 4 then some ((b.drop 3).take (num3 b)) else none
theorem head_num : ∀ b : List UInt8, 3 ≤ b.length → headB (num3 b) = b.take 3
  | b0 :: b1 :: b2 :: r, _ => by
    have e0 := b0.toNat_lt
    have e1 := b1.toNat_lt
    have e2 := b2.toNat_lt
    show [UInt8.ofNat (num3 (b0 :: b1 :: b2 :: r) / 65536), UInt8.ofNat (num3 (b0 :: b1 :: b2 :: r) / 256), UInt8.ofNat (num3 (b0 :: b1 :: b2 :: r))] = [b0, b1, b2]
    have hn : num3 (b0 :: b1 :: b2 :: r) = b0.toNat * 65536 + b1.toNat * 256 + b2.toNat := rfl
    rw [hn]
    simp only [List.cons.injEq, and_true, ← UInt8.toNat_inj, UInt8.toNat_ofNat']
    omega
  | [], h => by simp at h
  | [_], h => by simp at h
  | [_, _], h => by simp at h
theorem first_some {b x : List UInt8} (h : firstB b = some x) : x.length ≤ 60000 ∧ b = wrapB x ++ b.drop (x.length + 7) ∧ x.length + 7 ≤ b.length := by
  unfold firstB at h
  split at h
  · cases h
  · rename_i h7
    split at h
    · cases h
    · rename_i hn
      split at h
      · rename_i ht
        simp only [Option.some.injEq] at h
        have hxl : x.length = num3 b := by rw [← h, List.length_take, List.length_drop]; omega
        have hhead : headB x.length = b.take 3 := by rw [hxl]; exact head_num b (by omega)
        have hb3 : b.take 3 ++ x = b.take (3 + num3 b) := by rw [← h, List.take_add]
        refine ⟨by omega, ?_, by omega⟩
        unfold wrapB
        rw [hhead, hb3, ht, hxl]
        rw [← List.take_add, show 3 + num3 b + 4 = num3 b + 7 from by omega, List.take_append_drop]
      · cases h
/-- The first frame by wrapping again. -/
theorem first_again (b : List UInt8) (h7 : 7 ≤ b.length) (h1 : num3 b ≤ 60000) (h2 : num3 b ≤ b.length - 7) :
    firstB b = if wrapB ((b.take (3 + num3 b)).drop 3) = b.take (num3 b + 7) then some ((b.take (3 + num3 b)).drop 3) else none := by
  have hd : (b.take (3 + num3 b)).drop 3 = (b.drop 3).take (num3 b) := by
    rw [List.drop_take]
    congr 1
    omega
  have hxl : ((b.drop 3).take (num3 b)).length = num3 b := by rw [List.length_take, List.length_drop]; omega
  have hb3 : b.take 3 ++ (b.drop 3).take (num3 b) = b.take (3 + num3 b) := by rw [List.take_add]
  have hw : wrapB ((b.drop 3).take (num3 b)) = b.take (3 + num3 b) ++ tailB (b.take (3 + num3 b)) := by
    unfold wrapB
    rw [hxl, head_num b (by omega), hb3]
  have ht : b.take (num3 b + 7) = b.take (3 + num3 b) ++ (b.drop (3 + num3 b)).take 4 := by
    rw [← List.take_add]
    congr 1
    omega
  rw [hd, hw, ht]
  unfold firstB
  rw [if_neg (by omega), if_neg (by omega)]
  by_cases h : tailB (b.take (3 + num3 b)) = (b.drop (3 + num3 b)).take 4
  · rw [if_pos h, if_pos (by rw [h])]
  · rw [if_neg h, if_neg (fun e => h (List.append_cancel_left e))]
theorem first_wrap (x r : List UInt8) (h : x.length ≤ 60000) : firstB (wrapB x ++ r) = some x := by
  have hw := wrap_len x
  have hn : num3 (wrapB x ++ r) = x.length := by
    unfold wrapB
    rw [List.append_assoc, List.append_assoc]
    exact num3_head _ (by omega) _
  have hl : (wrapB x ++ r).length = x.length + 7 + r.length := by rw [List.length_append, hw]
  unfold firstB
  rw [if_neg (by omega), if_neg (by omega), hn]
  have e1 : (wrapB x ++ r).take (3 + x.length) = headB x.length ++ x := by
    unfold wrapB
    rw [List.append_assoc, List.take_append_of_le_length (by rw [List.length_append, head_len]; omega), List.take_of_length_le (by rw [List.length_append, head_len]; omega)]
  have e2 : ((wrapB x ++ r).drop (3 + x.length)).take 4 = tailB (headB x.length ++ x) := by
    unfold wrapB
    rw [List.append_assoc, List.drop_append_of_le_length (by rw [List.length_append, head_len]; omega), List.drop_of_length_le (by rw [List.length_append, head_len]; omega), List.nil_append, List.take_append_of_le_length (by rw [tail_len]; omega), List.take_of_length_le (by rw [tail_len]; omega)]
  have e3 : ((wrapB x ++ r).drop 3).take x.length = x := by
    unfold wrapB
    rw [List.append_assoc, List.append_assoc, List.drop_append_of_le_length (by rw [head_len]; omega), List.drop_of_length_le (by rw [head_len]; omega), List.nil_append, List.take_append_of_le_length (by omega), List.take_of_length_le (by omega)]
  rw [e1, e2, e3, if_pos rfl]

/-- The frames of a front. -/
def scanF : Nat → List UInt8 → List (List UInt8)
  | 0, _ => []
  | k + 1, b => match firstB b with
    | none => []
    | some x => x :: scanF k (b.drop (x.length + 7))
def scanB (b : List UInt8) : List (List UInt8) := scanF b.length b
def endB (l : List (List UInt8)) : Nat := (l.map fun x => x.length + 7).sum
theorem scanF_more : ∀ (k : Nat) (b : List UInt8), b.length ≤ k → scanF k b = scanF b.length b := by
  intro k
  induction k using Nat.strongRecOn with
  | _ k ih =>
    intro b hb
    rcases Nat.eq_zero_or_pos k with h0 | hk
    · subst h0
      rw [show b.length = 0 from by omega]
    · obtain ⟨k, rfl⟩ : ∃ m, k = m + 1 := ⟨k - 1, by omega⟩
      rcases Nat.eq_zero_or_pos b.length with h0 | hb0
      · have : b = [] := List.length_eq_zero_iff.1 h0
        subst this
        simp [scanF, firstB]
      · obtain ⟨m, hm⟩ : ∃ m, b.length = m + 1 := ⟨b.length - 1, by omega⟩
        rw [hm]
        unfold scanF
        cases hf : firstB b with
        | none => rfl
        | some x =>
          simp only
          have hl := (first_some hf).2.2
          have hd : (b.drop (x.length + 7)).length ≤ m := by rw [List.length_drop]; omega
          rw [ih k (by omega) _ (by omega), ← ih m (by omega) _ hd]
theorem scanB_none {b : List UInt8} (h : firstB b = none) : scanB b = [] := by
  unfold scanB
  cases b.length <;> simp [scanF, h]
theorem scanB_some {b x : List UInt8} (h : firstB b = some x) : scanB b = x :: scanB (b.drop (x.length + 7)) := by
  have hl := (first_some h).2.2
  unfold scanB
  obtain ⟨m, hm⟩ : ∃ m, b.length = m + 1 := ⟨b.length - 1, by omega⟩
  rw [hm]
  conv => lhs; unfold scanF
  rw [h]
  simp only
  rw [scanF_more m _ (by rw [List.length_drop]; omega)]
theorem endB_cons (x : List UInt8) (l : List (List UInt8)) : endB (x :: l) = x.length + 7 + endB l := by simp [endB]
theorem endB_append (a b : List (List UInt8)) : endB (a ++ b) = endB a + endB b := by simp [endB]
/-- Frames one behind the other. -/
def rowsB (l : List (List UInt8)) : List UInt8 := (l.map wrapB).flatten
theorem rowsB_cons (x : List UInt8) (l : List (List UInt8)) : rowsB (x :: l) = wrapB x ++ rowsB l := by simp [rowsB]
theorem rowsB_len (l : List (List UInt8)) : (rowsB l).length = endB l := by
  induction l with
  | nil => rfl
  | cons x l ih => rw [rowsB_cons, List.length_append, wrap_len, ih, endB_cons]
theorem scan_rows (l : List (List UInt8)) (r : List UInt8) (h : ∀ x ∈ l, x.length ≤ 60000) : scanB (rowsB l ++ r) = l ++ scanB r := by
  induction l with
  | nil => rfl
  | cons x l ih =>
    rw [rowsB_cons, List.append_assoc, scanB_some (first_wrap x _ (h x List.mem_cons_self)), List.cons_append]
    congr 1
    rw [List.drop_append_of_le_length (by rw [wrap_len]; omega), List.drop_of_length_le (by rw [wrap_len]; omega), List.nil_append]
    exact ih (fun y hy => h y (List.mem_cons_of_mem _ hy))
/-- What is scanned is rows. -/
theorem scan_is (b : List UInt8) : ∃ r, b = rowsB (scanB b) ++ r ∧ firstB r = none ∧ ∀ x ∈ scanB b, x.length ≤ 60000 := by
  generalize hk : b.length = k
  induction k using Nat.strongRecOn generalizing b with
  | _ k ih =>
    cases hf : firstB b with
    | none => exact ⟨b, by rw [scanB_none hf]; rfl, hf, fun x hx => by rw [scanB_none hf] at hx; cases hx⟩
    | some x =>
      obtain ⟨h1, h2, h3⟩ := first_some hf
      obtain ⟨r, e1, e2, e3⟩ := ih (b.drop (x.length + 7)).length (by rw [List.length_drop]; omega) _ rfl
      refine ⟨r, ?_, e2, ?_⟩
      · rw [scanB_some hf, rowsB_cons, List.append_assoc, ← e1]
        exact h2
      · rw [scanB_some hf]
        intro y hy
        rcases List.mem_cons.1 hy with rfl | hy
        · exact h1
        · exact e3 y hy
theorem end_le (b : List UInt8) : endB (scanB b) ≤ b.length := by
  obtain ⟨r, h, _⟩ := scan_is b
  conv => rhs; rw [h]
  rw [List.length_append, rowsB_len]
  omega

end Go.Proofs.Ytbbhjceelghadaa.My
