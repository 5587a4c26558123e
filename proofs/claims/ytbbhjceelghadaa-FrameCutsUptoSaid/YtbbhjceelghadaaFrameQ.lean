/- Plain law of frames: bent, cut. -/
import Derived.Test.YtbbhjceelghadaaFrameP
namespace Go.Proofs.Ytbbhjceelghadaa.My

theorem num3_of (b b' : List UInt8) (h : b.take 3 = b'.take 3) (h3 : 3 ≤ b.length) (h3' : 3 ≤ b'.length) : num3 b = num3 b' := by
  have e : ∀ i, i < 3 → b.getD i 0 = b'.getD i 0 := fun i hi => by
    have := congrArg (fun l => l.getD i 0) h
    simp only [List.getD_eq_getElem?_getD, List.getElem?_take, if_pos hi] at this
    simpa [List.getD_eq_getElem?_getD] using this
  unfold num3
  rw [e 0 (by omega), e 1 (by omega), e 2 (by omega)]
theorem wrap_head (x : List UInt8) : (wrapB x).take 3 = headB x.length := by
  unfold wrapB
  rw [List.append_assoc, List.take_append_of_le_length (by rw [head_len]; omega), List.take_of_length_le (by rw [head_len]; omega)]
theorem num3_wrap (x : List UInt8) (h : x.length ≤ 60000) : num3 (wrapB x) = x.length := by
  have := num3_head x.length (by omega) (x ++ tailB (headB x.length ++ x))
  rw [← List.append_assoc] at this
  exact this
/-- What a proper front of a frame is: none. -/
theorem cut_none (x : List UInt8) (m : Nat) (h : x.length ≤ 60000) (hm : m < x.length + 7) : firstB ((wrapB x).take m) = none := by
  have hl : ((wrapB x).take m).length = m := by rw [List.length_take, wrap_len]; omega
  unfold firstB
  by_cases h7 : m < 7
  · rw [if_pos (by omega)]
  · have hn : num3 ((wrapB x).take m) = x.length := by
      rw [← num3_wrap x h]
      exact num3_of _ _ (by rw [List.take_take, Nat.min_eq_left (by omega)]) (by omega) (by rw [wrap_len]; omega)
    rw [if_neg (by omega), if_pos (by omega)]
theorem wrap_front (x : List UInt8) : (wrapB x).take (3 + x.length) = headB x.length ++ x := by
  unfold wrapB
  rw [List.take_append_of_le_length (by rw [List.length_append, head_len]; omega), List.take_of_length_le (by rw [List.length_append, head_len]; omega)]
theorem wrap_back (x : List UInt8) : (wrapB x).drop (3 + x.length) = tailB (headB x.length ++ x) := by
  unfold wrapB
  rw [List.drop_append_of_le_length (by rw [List.length_append, head_len]; omega), List.drop_of_length_le (by rw [List.length_append, head_len]; omega), List.nil_append]
theorem xor_self_ne (y x : UInt8) (hx : x ≠ 0) : y ^^^ x ≠ y := by
  intro e
  apply hx
  have : y ^^^ (y ^^^ x) = y ^^^ y := by rw [e]
  rwa [← UInt8.xor_assoc, UInt8.xor_self, UInt8.zero_xor] at this
/-- A frame in which one byte behind the head is another one is none. -/
theorem bend (l : List UInt8) (k : Nat) (x : UInt8) (hl : l.length ≤ 60000) (h3 : 3 ≤ k) (hk : k < l.length + 7) (hx : x ≠ 0) :
    firstB ((wrapB l).set k ((wrapB l).getD k 0 ^^^ x)) = none := by
  have hlen : ((wrapB l).set k ((wrapB l).getD k 0 ^^^ x)).length = l.length + 7 := by rw [List.length_set, wrap_len]
  have hn : num3 ((wrapB l).set k ((wrapB l).getD k 0 ^^^ x)) = l.length := by
    rw [← num3_wrap l hl]
    refine num3_of _ _ ?_ (by omega) (by rw [wrap_len]; omega)
    rw [List.take_set_of_le (by omega)]
  unfold firstB
  rw [if_neg (by omega), hn, if_neg (by omega), if_neg]
  by_cases hkl : k < 3 + l.length
  · rw [List.take_set, List.drop_set_of_lt (by omega), wrap_front, wrap_back, List.take_of_length_le (by rw [tail_len]; omega)]
    intro e
    have hg : (wrapB l).getD k 0 = (headB l.length ++ l).getD k 0 := by
      rw [← wrap_front, List.getD_eq_getElem?_getD, List.getD_eq_getElem?_getD, List.getElem?_take, if_pos hkl]
    rw [hg] at e
    exact set_other _ k (by rw [List.length_append, head_len]; omega) x hx (tail_eq e).symm
  · rw [List.take_set_of_le (by omega), List.drop_set, if_neg (by omega), wrap_front, wrap_back, List.take_of_length_le (by rw [List.length_set, tail_len]; omega)]
    intro e
    have hj : k - (3 + l.length) < (tailB (headB l.length ++ l)).length := by rw [tail_len]; omega
    have hg : (wrapB l).getD k 0 = (tailB (headB l.length ++ l)).getD (k - (3 + l.length)) 0 := by
      rw [← wrap_back, List.getD_eq_getElem?_getD, List.getD_eq_getElem?_getD, List.getElem?_drop]
      congr 2
      omega
    have := congrArg (fun z => z.getD (k - (3 + l.length)) 0) e
    simp only [List.getD_eq_getElem?_getD, List.getElem?_set_self hj] at this
    rw [List.getD_eq_getElem?_getD, List.getD_eq_getElem?_getD] at hg
    rw [hg] at this
    simp only [Option.getD_some] at this
    exact xor_self_ne _ _ hx this.symm
theorem scan_bend (l : List UInt8) (k : Nat) (x : UInt8) (hl : l.length ≤ 60000) (h3 : 3 ≤ k) (hk : k < l.length + 7) (hx : x ≠ 0) :
    scanB ((wrapB l).set k ((wrapB l).getD k 0 ^^^ x)) = [] := scanB_none (bend l k x hl h3 hk hx)
/-- Two frames; the second one lacks its last byte. -/
theorem scan_two (a b : List UInt8) (ha : a.length ≤ 60000) (hb : b.length ≤ 60000) : scanB (wrapB a ++ wrapB b) = [a, b] := by
  have := scan_rows [a, b] [] (by simp; exact ⟨ha, hb⟩)
  rw [rowsB_cons, rowsB_cons, show rowsB [] = [] from rfl, List.append_nil, List.append_nil, show scanB [] = [] from rfl, List.append_nil] at this
  exact this
theorem scan_cut2 (a b : List UInt8) (ha : a.length ≤ 60000) (hb : b.length ≤ 60000) : scanB ((wrapB a ++ wrapB b).take ((wrapB a ++ wrapB b).length - 1)) = [a] := by
  have h1 : (wrapB a ++ wrapB b).take ((wrapB a ++ wrapB b).length - 1) = wrapB a ++ (wrapB b).take (b.length + 6) := by
    rw [List.take_append, List.take_of_length_le (by rw [List.length_append, wrap_len, wrap_len]; omega)]
    congr 2
    rw [List.length_append, wrap_len, wrap_len]
    omega
  rw [h1, scanB_some (first_wrap a _ ha), List.drop_append_of_le_length (by rw [wrap_len]; omega), List.drop_of_length_le (by rw [wrap_len]; omega), List.nil_append, scanB_none (cut_none b _ hb (by omega))]
/-- Frames that are cut: a front of them. -/
theorem cut_rows (l : List (List UInt8)) (h : ∀ x ∈ l, x.length ≤ 60000) : ∀ m, ∃ j, j ≤ l.length ∧ scanB ((rowsB l).take m) = l.take j ∧ ((rowsB l).length ≤ m → j = l.length) := by
  induction l with
  | nil => exact fun m => ⟨0, Nat.le_refl _, by simp [rowsB]; rfl, fun _ => rfl⟩
  | cons x l ih =>
    intro m
    have hx := h x List.mem_cons_self
    by_cases hm : m < x.length + 7
    · refine ⟨0, Nat.zero_le _, ?_, fun hle => ?_⟩
      · rw [rowsB_cons, List.take_append_of_le_length (by rw [wrap_len]; omega), scanB_none (cut_none x m hx hm)]; rfl
      · rw [rowsB_cons, List.length_append, wrap_len] at hle
        omega
    · obtain ⟨j, h1, h2, h3⟩ := ih (fun y hy => h y (List.mem_cons_of_mem _ hy)) (m - (x.length + 7))
      refine ⟨j + 1, by rw [List.length_cons]; omega, ?_, fun hle => ?_⟩
      · rw [rowsB_cons, List.take_append, List.take_of_length_le (by rw [wrap_len]; omega), wrap_len, scanB_some (first_wrap x _ hx), List.drop_append_of_le_length (by rw [wrap_len]; omega), List.drop_of_length_le (by rw [wrap_len]; omega), List.nil_append, h2]
        rfl
      · rw [rowsB_cons, List.length_append, wrap_len] at hle
        rw [List.length_cons, h3 (by omega)]

end Go.Proofs.Ytbbhjceelghadaa.My
