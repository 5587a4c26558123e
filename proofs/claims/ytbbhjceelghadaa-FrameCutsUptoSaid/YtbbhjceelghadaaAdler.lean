/- Plain law of the check sum (layer 8): what it computes on lists of bytes, and what follows of it. No program in sight. -/
namespace Go.Proofs.Ytbbhjceelghadaa.My

/-- One step of the sum: the two numbers, and a byte. -/
def adStep (s : Nat × Nat) (c : UInt8) : Nat × Nat := ((s.1 + c.toNat) % 65521, (s.2 + (s.1 + c.toNat) % 65521) % 65521)
def adl (s : Nat × Nat) (l : List UInt8) : Nat × Nat := l.foldl adStep s
def adls (s : Nat × Nat) (l : List (List UInt8)) : Nat × Nat := l.foldl adl s
def sumOf (s : Nat × Nat) : Nat := s.2 * 65536 + s.1
/-- The check sum of lists of bytes, one behind the other. -/
def sumN (l : List (List UInt8)) : Nat := sumOf (adls (1, 0) l)
def Fine (s : Nat × Nat) : Prop := s.1 < 65521 ∧ s.2 < 65521

theorem fine_start : Fine (1, 0) := by unfold Fine; decide
theorem fine_step {s : Nat × Nat} (c : UInt8) : Fine (adStep s c) := ⟨Nat.mod_lt _ (by decide), Nat.mod_lt _ (by decide)⟩
theorem fine_adl {s : Nat × Nat} (h : Fine s) (l : List UInt8) : Fine (adl s l) := by
  induction l generalizing s with
  | nil => exact h
  | cons c l ih => exact ih (fine_step c)
theorem fine_adls {s : Nat × Nat} (h : Fine s) (l : List (List UInt8)) : Fine (adls s l) := by
  induction l generalizing s with
  | nil => exact h
  | cons c l ih => exact ih (fine_adl h c)

theorem adl_nil (s : Nat × Nat) : adl s [] = s := rfl
theorem adl_append (s : Nat × Nat) (a b : List UInt8) : adl s (a ++ b) = adl (adl s a) b := List.foldl_append
theorem adl_snoc (s : Nat × Nat) (a : List UInt8) (c : UInt8) : adl s (a ++ [c]) = adStep (adl s a) c := by rw [adl_append]; rfl
theorem adls_snoc (s : Nat × Nat) (a : List (List UInt8)) (c : List UInt8) : adls s (a ++ [c]) = adl (adls s a) c := by unfold adls; rw [List.foldl_append]; rfl
theorem adls_flat (s : Nat × Nat) (l : List (List UInt8)) : adls s l = adl s l.flatten := by
  induction l generalizing s with
  | nil => rfl
  | cons a l ih => rw [List.flatten_cons, adl_append]; exact ih _
theorem sumN_flat (l : List (List UInt8)) : sumN l = sumN [l.flatten] := by unfold sumN; rw [adls_flat, adls_flat]; simp
theorem sumN_lt (l : List (List UInt8)) : sumN l < 4294967296 := by
  have h := fine_adls fine_start l
  unfold sumN sumOf
  obtain ⟨h1, h2⟩ := h
  omega
theorem sumOf_inj {s t : Nat × Nat} (hs : Fine s) (ht : Fine t) (h : sumOf s = sumOf t) : s = t := by
  unfold sumOf at h
  obtain ⟨h1, h2⟩ := hs
  obtain ⟨h3, h4⟩ := ht
  have e1 : s.1 = t.1 := by omega
  have e2 : s.2 = t.2 := by omega
  exact Prod.ext e1 e2
theorem sum_eq_iff (a b : List UInt8) : sumN [a] = sumN [b] ↔ adl (1, 0) a = adl (1, 0) b :=
  ⟨fun h => sumOf_inj (fine_adl fine_start a) (fine_adl fine_start b) h, fun h => by show sumOf (adl (1, 0) a) = sumOf (adl (1, 0) b); rw [h]⟩

/-! The low number counts the bytes. -/
def tot (l : List UInt8) : Nat := (l.map UInt8.toNat).sum
theorem tot_append (a b : List UInt8) : tot (a ++ b) = tot a + tot b := by simp [tot]
theorem tot_cons (c : UInt8) (b : List UInt8) : tot (c :: b) = c.toNat + tot b := by simp [tot]
theorem adl_low (s : Nat × Nat) (l : List UInt8) (h : s.1 < 65521) : (adl s l).1 = (s.1 + tot l) % 65521 := by
  induction l generalizing s with
  | nil => simp [adl, tot]; omega
  | cons c l ih =>
    have : (adl s (c :: l)).1 = (adl (adStep s c) l).1 := rfl
    rw [this, ih _ (fine_step c).1, tot_cons]
    unfold adStep
    simp only
    omega
/-- The high number, of a start, in a form in which the start's numbers stand apart: 'wt' weighs each byte. -/
def wt : List UInt8 → Nat
  | [] => 0
  | c :: l => c.toNat * (l.length + 1) + wt l
theorem adl_high (s : Nat × Nat) (l : List UInt8) (h : Fine s) : (adl s l).2 = (s.2 + l.length * s.1 + wt l) % 65521 := by
  induction l generalizing s with
  | nil => obtain ⟨h1, h2⟩ := h; simp [adl, wt]; omega
  | cons c l ih =>
    have : (adl s (c :: l)).2 = (adl (adStep s c) l).2 := rfl
    rw [this, ih _ (fine_step c)]
    unfold adStep
    simp only [List.length_cons, wt]
    generalize l.length = n
    generalize wt l = m
    generalize c.toNat = k
    obtain ⟨a, b⟩ := s
    simp only
    have e1 : ((b + (a + k) % 65521) % 65521 + n * ((a + k) % 65521) + m) % 65521 = (b + (a + k) + n * (a + k) + m) % 65521 := by
      rw [Nat.add_mod, Nat.add_mod ((b + (a + k) % 65521) % 65521), Nat.mod_mod, Nat.mul_mod n ((a + k) % 65521), Nat.mod_mod, ← Nat.mul_mod, Nat.add_mod b ((a + k) % 65521), Nat.mod_mod, ← Nat.add_mod b (a + k)]
      rw [← Nat.add_mod (b + (a + k)) (n * (a + k)), ← Nat.add_mod]
    rw [e1]
    congr 1
    rw [Nat.mul_add n a k, Nat.mul_add k n 1, Nat.add_mul n 1 a, Nat.mul_comm n k]
    omega
theorem wt_append (a b : List UInt8) : wt (a ++ b) = wt a + b.length * tot a + wt b := by
  induction a with
  | nil => simp [wt, tot]
  | cons c a ih =>
    rw [List.cons_append, wt, ih, wt, tot_cons, List.length_append, Nat.mul_add b.length, Nat.mul_add c.toNat, Nat.mul_add c.toNat a.length b.length, Nat.mul_comm b.length c.toNat]
    have := Nat.mul_add c.toNat a.length 1
    omega

/-! One byte is another one. -/
theorem one_other (p q : List UInt8) (x y : UInt8) (h : x ≠ y) : sumN [p ++ x :: q] ≠ sumN [p ++ y :: q] := by
  intro e
  have e := congrArg Prod.fst ((sum_eq_iff _ _).1 e)
  rw [adl_low _ _ (by decide), adl_low _ _ (by decide), tot_append, tot_append, tot_cons, tot_cons] at e
  have hx := x.toNat_lt
  have hy := y.toNat_lt
  have hne : x.toNat ≠ y.toNat := fun he => h (UInt8.toNat_inj.1 he)
  omega
theorem swapped (p q : List UInt8) (x y : UInt8) : sumN [p ++ x :: y :: q] = sumN [p ++ y :: x :: q] ↔ x = y := by
  constructor
  · intro e
    have e := congrArg Prod.snd ((sum_eq_iff _ _).1 e)
    rw [adl_high _ _ fine_start, adl_high _ _ fine_start, wt_append, wt_append] at e
    simp only [List.length_append, List.length_cons, wt, Nat.mul_add] at e
    have hx := x.toNat_lt
    have hy := y.toNat_lt
    apply UInt8.toNat_inj.1
    generalize x.toNat * q.length = a at e
    generalize y.toNat * q.length = b at e
    omega
  · rintro rfl; rfl

theorem list_at (l : List UInt8) (n : Nat) (h : n < l.length) (z : UInt8) : l = l.take n ++ l.getD n z :: l.drop (n + 1) := by
  have := List.take_append_drop n l
  rw [List.drop_eq_getElem_cons h] at this
  rw [List.getD_eq_getElem?_getD, List.getElem?_eq_getElem h]
  exact this.symm
theorem set_at (l : List UInt8) (n : Nat) (h : n < l.length) (z : UInt8) : l.set n z = l.take n ++ z :: l.drop (n + 1) := by
  rw [List.set_eq_take_append_cons_drop, if_pos h]
theorem set_other (l : List UInt8) (n : Nat) (h : n < l.length) (x : UInt8) (hx : x ≠ 0) : sumN [l] ≠ sumN [l.set n (l.getD n 0 ^^^ x)] := by
  rw [set_at l n h]
  conv => lhs; rw [list_at l n h 0]
  apply one_other
  intro e
  apply hx
  have h1 : l.getD n 0 ^^^ (l.getD n 0 ^^^ x) = l.getD n 0 ^^^ l.getD n 0 := by rw [← e]
  rw [← UInt8.xor_assoc, UInt8.xor_self, UInt8.zero_xor] at h1
  exact h1
theorem set_two (a b a' b' : UInt8) (q : List UInt8) : ∀ p : List UInt8, ((p ++ a :: b :: q).set p.length b').set (p.length + 1) a' = p ++ b' :: a' :: q
  | [] => rfl
  | c :: p => by
    have ih := set_two a b a' b' q p
    simp only [List.cons_append, List.length_cons, List.set_cons_succ]
    rw [ih]
theorem swap_at (l : List UInt8) (n : Nat) (h : n + 1 < l.length) : sumN [l] = sumN [(l.set n (l.getD (n + 1) 0)).set (n + 1) (l.getD n 0)] ↔ l.getD n 0 = l.getD (n + 1) 0 := by
  have e2 : l = l.take n ++ l.getD n 0 :: l.getD (n + 1) 0 :: l.drop (n + 2) := by
    have h2 := list_at l n (by omega) 0
    have h3 : l.drop (n + 1) = l.getD (n + 1) 0 :: l.drop (n + 2) := by
      rw [List.drop_eq_getElem_cons h, List.getD_eq_getElem?_getD, List.getElem?_eq_getElem h]; rfl
    rw [h3] at h2
    exact h2
  have hl : (l.take n).length = n := by rw [List.length_take]; omega
  have e1 : (l.set n (l.getD (n + 1) 0)).set (n + 1) (l.getD n 0) = l.take n ++ l.getD (n + 1) 0 :: l.getD n 0 :: l.drop (n + 2) := by
    have := set_two (l.getD n 0) (l.getD (n + 1) 0) (l.getD n 0) (l.getD (n + 1) 0) (l.drop (n + 2)) (l.take n)
    rw [hl, ← e2] at this
    exact this
  rw [e1]
  conv => lhs; lhs; rw [e2]
  exact swapped _ _ _ _

/-! Bytes 0 behind. -/
theorem low_zeros (n : Nat) : tot (List.replicate n 0) = 0 := by
  induction n with
  | zero => rfl
  | succ n ih => rw [List.replicate_succ, tot_cons, ih]; rfl
theorem wt_zeros (n : Nat) : wt (List.replicate n 0) = 0 := by
  induction n with
  | zero => rfl
  | succ n ih => rw [List.replicate_succ, wt, ih]; simp
theorem coprimes : ∀ d, d < 200 → 0 < d → Nat.gcd 65521 d = 1 := by decide +kernel
theorem apart_zeros (A n m : Nat) (hA : A ≠ 0) (hA' : A < 65521) (hn : n < 200) (hm : m < 200) (hlt : n < m) (b : Nat) (h : (b + n * A) % 65521 = (b + m * A) % 65521) : False := by
  have h2 : 65521 ∣ (m - n) * A := by
    rw [Nat.sub_mul]
    have : n * A ≤ m * A := Nat.mul_le_mul_right _ (by omega)
    omega
  have hc : Nat.gcd 65521 (m - n) = 1 := coprimes _ (by omega) (by omega)
  have h3 : 65521 ∣ A := Nat.Coprime.dvd_of_dvd_mul_left hc h2
  have := Nat.le_of_dvd (by omega) h3
  omega
theorem zeros_apart (a : List UInt8) (n m : Nat) (hn : n < 200) (hm : m < 200) (h0 : sumN [a] % 65536 ≠ 0) :
    sumN [a, List.replicate n 0] = sumN [a, List.replicate m 0] ↔ n = m := by
  have hF := fine_adl fine_start a
  have hlow : (adl (1, 0) a).1 ≠ 0 := by
    intro e
    apply h0
    show (sumOf (adl (1, 0) a)) % 65536 = 0
    unfold sumOf
    omega
  have key : ∀ k, adls (1, 0) [a, List.replicate k 0] = adl (adl (1, 0) a) (List.replicate k 0) := fun k => rfl
  have high : ∀ k, (adls (1, 0) [a, List.replicate k 0]).2 = ((adl (1, 0) a).2 + k * (adl (1, 0) a).1) % 65521 := by
    intro k
    rw [key, adl_high _ _ hF, List.length_replicate, wt_zeros]
    simp
  constructor
  · intro e
    have e := congrArg Prod.snd (sumOf_inj (fine_adls fine_start _) (fine_adls fine_start _) e)
    rw [high, high] at e
    rcases Nat.lt_trichotomy n m with h | h | h
    · exact (apart_zeros _ _ _ hlow hF.1 hn hm h _ e).elim
    · exact h
    · exact (apart_zeros _ _ _ hlow hF.1 hm hn h _ e.symm).elim
  · rintro rfl; rfl

end Go.Proofs.Ytbbhjceelghadaa.My
