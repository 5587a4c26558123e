/- The walks of frame.Wrap, of the reference's, and what they use. -/
import Derived.Test.YtbbhjceelghadaaBytesW
import Derived.Test.YtbbhjceelghadaaSumW
import Derived.Test.YtbbhjceelghadaaFrameP
namespace Go.Proofs.Ytbbhjceelghadaa.My
open Go Go.RowKit Go.Proofs.YtbbhjceelghadaaW.PrintWords Go.Proofs.YtbbhjceelghadaaW.PrintMore

theorem add_plain' (g o j : Nat) : (⟨g, o, none⟩ : Addr).add j = ⟨g, o + j, none⟩ := by unfold Addr.add; split <;> simp_all
theorem C_row {W : World} {b e off n : Nat} {fz : Nat × Nat} {cells : Array Value} {l : List UInt8} (hb : W.heap[b]? = some (.cells cells e fz)) (hn : n = l.length) (hm : l.length ≤ 9223372036854775807)
    (hc : ∀ j p, l[j]? = some p → cells[off + j]? = some (.int .u8 (p.toNat : Int))) : kb.C W (some ⟨b, off, none⟩) n l := by
  subst hn
  refine ⟨rfl, hm, fun _ => ⟨_, rfl, fun j p hj => ⟨[.int .u8 (p.toNat : Int)], rfl, rfl, fun i u hi => ?_⟩⟩⟩
  have hi0 : i = 0 := by
    rcases i with _ | i
    · rfl
    · simp at hi
  subst hi0
  have hu : u = .int .u8 (p.toNat : Int) := by simpa using hi.symm
  subst hu
  rw [add_plain', show kb.sz = 1 from rfl, Nat.mul_one, Nat.add_zero]
  simp [World.cell?, hb, hc j p hj]
theorem byte_div (n k : Nat) : ((UInt8.ofNat (n / k)).toNat : Int) = (n : Int) / k % 256 := by rw [UInt8.toNat_ofNat']; omega
theorem byte_mod (n : Nat) : ((UInt8.ofNat n).toNat : Int) = (n : Int) % 256 := by rw [UInt8.toNat_ofNat']; omega

theorem be4_at (n : Nat) : ∀ (j : Nat) (p : UInt8), (be4 n)[j]? = some p → #[Value.int .u8 ((n : Int) / 16777216 % 256), Value.int .u8 ((n : Int) / 65536 % 256), Value.int .u8 ((n : Int) / 256 % 256), Value.int .u8 ((n : Int) % 256)][j]? = some (Value.int .u8 (p.toNat : Int)) := by
  intro j p hj
  have b1 := byte_div n 16777216
  have b2 := byte_div n 65536
  have b3 := byte_div n 256
  have b4 := byte_mod n
  rcases j with _ | _ | _ | _ | j
  · obtain rfl : UInt8.ofNat (n / 16777216) = p := by simpa [be4] using hj
    rw [b1]; rfl
  · obtain rfl : UInt8.ofNat (n / 65536) = p := by simpa [be4] using hj
    rw [b2]; rfl
  · obtain rfl : UInt8.ofNat (n / 256) = p := by simpa [be4] using hj
    rw [b3]; rfl
  · obtain rfl : UInt8.ofNat n = p := by simpa [be4] using hj
    rw [b4]; rfl
  · simp [be4] at hj

set_option maxHeartbeats 1000000 in
theorem spell4 (n : Nat) (w : World) :
    Calls Try.prog 27 #[.int .u32 (n : Int), .int .i64 4] w fun e w' => ∃ v, e = .returned v ∧ OB w' w.heap.size v (spellB n 4) ∧ Below w.heap.size w w' := by
  go_enter Try.func27, Try.ntmps27
  go_wp2_with fail
  refine (sclone_any _ _ (spellB n 4) _ (C_row (heap_new' rfl) rfl (by show 4 ≤ _; omega) (fun j p hj => by rw [Nat.zero_add]; exact be4_at n j p hj)) (Nat.le_refl _) (by show 4 ≤ _; omega)).mono ?_
  rintro e w1 ⟨v, rfl, ho, hb⟩
  go_wp2
  go_ret
  exact ⟨_, rfl, ho.lower (by simp), below_step (by (repeat (first | exact Below.refl _ _ | apply below_alloc | apply below_drew | apply pw_below_drewN | apply below_bytesWorld | (refine below_set ?_ (by first | assumption | omega)) | refine below_step ?_ (by assumption)))) hb⟩
set_option maxHeartbeats 1000000 in
theorem spell3 (n : Nat) (w : World) :
    Calls Try.prog 27 #[.int .u32 (n : Int), .int .i64 3] w fun e w' => ∃ v, e = .returned v ∧ OB w' w.heap.size v (spellB n 3) ∧ Below w.heap.size w w' := by
  go_enter Try.func27, Try.ntmps27
  go_wp2_with fail
  refine (sclone_any _ _ (spellB n 3) _ (C_row (heap_new' rfl) rfl (by show 3 ≤ _; omega) (fun j p hj => by rw [Nat.add_comm]; exact be4_at n (j + 1) p (by simpa [spellB, be4] using hj))) (Nat.le_refl _) (by show 3 ≤ _; omega)).mono ?_
  rintro e w1 ⟨v, rfl, ho, hb⟩
  go_wp2
  go_ret
  exact ⟨_, rfl, ho.lower (by simp), below_step (by (repeat (first | exact Below.refl _ _ | apply below_alloc | apply below_drew | apply pw_below_drewN | apply below_bytesWorld | (refine below_set ?_ (by first | assumption | omega)) | refine below_step ?_ (by assumption)))) hb⟩

theorem flatten_three (a b c : List UInt8) : ([a, b, c] : List (List UInt8)).flatten = a ++ b ++ c := by simp

set_option maxHeartbeats 1000000 in
theorem wrap_any (A : Option Addr) (c : Nat) (l : List UInt8) (w : World) (hr : kb.C w A l.length l) (hc : l.length ≤ c) (hs : l.length ≤ 60000) :
    Calls Try.prog 19 #[.slice A l.length c] w fun e w' => ∃ v, e = .returned (.tuple #[v, .int .u16 0]) ∧ OB w' w.heap.size v (wrapB l) ∧ Below w.heap.size w w' := by
  have HL := Aside0.mk hr
  clear hr
  have hs1 : (l.length : Int) ≤ 60000 := by omega
  go_enter Try.func19, Try.ntmps19
  go_wp2_with fail
  refine (spell3 l.length _).mono ?_
  rintro e w1 ⟨v1, rfl, ho1, hb1⟩
  obtain ⟨A1, c1, rfl, hc1, hC1⟩ := ho1.reads
  have HC1 := Aside0.mk hC1
  clear hC1 ho1
  go_wp2_with fail
  refine (sum_blk [headB l.length, l] (by (repeat (first | (refine heap_new' ?_; simp; done) | apply heap_drew' | apply heap_old' | refine heap_below (by assumption) ?_))) rfl (by simp) (Cs.cons (n := (spellB l.length 3).length) (Kd.C_below HC1.out (by (repeat (first | exact Below.refl _ _ | apply below_alloc | apply below_drew | apply pw_below_drewN | apply below_bytesWorld | (refine below_set ?_ (by first | assumption | omega)) | refine below_step ?_ (by assumption))))) hc1 (Cs.cons (Kd.C_below HL.out (by (repeat (first | exact Below.refl _ _ | apply below_alloc | apply below_drew | apply pw_below_drewN | apply below_bytesWorld | (refine below_set ?_ (by first | assumption | omega)) | refine below_step ?_ (by assumption))))) hc (Cs.nil _)))).mono ?_
  rintro e w2 ⟨rfl, hb2⟩
  go_wp2_with fail
  have hsum : sumN [headB l.length, l] = sumN [headB l.length ++ l] := by rw [sumN_flat]; simp
  rw [hsum]
  have HSUM := Aside0.mk hsum
  clear hsum
  refine (spell4 _ _).mono ?_
  rintro e w3 ⟨v3, rfl, ho3, hb3⟩
  obtain ⟨A3, c3, rfl, hc3, hC3⟩ := ho3.reads
  have HC3 := Aside0.mk hC3
  clear hC3 ho3
  go_wp2_with fail
  refine (bconcat_any _ _ [headB l.length, l, tailB (headB l.length ++ l)] _ (CC_blk (by (repeat (first | (refine heap_new' ?_; simp; done) | apply heap_drew' | apply heap_old' | refine heap_below (by assumption) ?_))) rfl (by simp) (Cs.cons (n := (spellB l.length 3).length) (Kd.C_below HC1.out (by (repeat (first | exact Below.refl _ _ | apply below_alloc | apply below_drew | apply pw_below_drewN | apply below_bytesWorld | (refine below_set ?_ (by first | assumption | omega)) | refine below_step ?_ (by assumption))))) hc1 (Cs.cons (Kd.C_below HL.out (by (repeat (first | exact Below.refl _ _ | apply below_alloc | apply below_drew | apply pw_below_drewN | apply below_bytesWorld | (refine below_set ?_ (by first | assumption | omega)) | refine below_step ?_ (by assumption))))) hc (Cs.cons (n := (spellB (sumN [headB l.length ++ l]) 4).length) (Kd.C_below HC3.out (by (repeat (first | exact Below.refl _ _ | apply below_alloc | apply below_drew | apply pw_below_drewN | apply below_bytesWorld | (refine below_set ?_ (by first | assumption | omega)) | refine below_step ?_ (by assumption))))) hc3 (Cs.nil _))))) (by rw [flatten_three]; have := wrap_len l; unfold wrapB at this; omega)).mono ?_
  rintro e w4 ⟨v4, rfl, ho4, hb4⟩
  rw [flatten_three] at ho4
  have HO4 := Aside0.mk ho4
  clear ho4
  go_wp2
  go_ret2
  exact ⟨_, rfl, HO4.out.lower (below_size (by (repeat (first | exact Below.refl _ _ | apply below_alloc | apply below_drew | apply pw_below_drewN | apply below_bytesWorld | (refine below_set ?_ (by first | assumption | omega)) | refine below_step ?_ (by assumption))))), by (repeat (first | exact Below.refl _ _ | apply below_alloc | apply below_drew | apply pw_below_drewN | apply below_bytesWorld | (refine below_set ?_ (by first | assumption | omega)) | refine below_step ?_ (by assumption)))⟩

theorem spell_snoc (n size k : Nat) (hs : size ≤ 4) (hk : k < size) : (spellB n size).take (size - k) = (spellB n size).take (size - (k + 1)) ++ [UInt8.ofNat (n / 256 ^ k)] := by
  have h : size = 0 ∨ size = 1 ∨ size = 2 ∨ size = 3 ∨ size = 4 := by omega
  have h' : k = 0 ∨ k = 1 ∨ k = 2 ∨ k = 3 := by omega
  rcases h with rfl | rfl | rfl | rfl | rfl <;> rcases h' with rfl | rfl | rfl | rfl <;> first | omega | simp [spellB, be4]

/-- One byte, by its number. -/
theorem OB.one {W : World} {b : Nat} {n k : Nat} (hb : b = W.heap.size) (e : Nat) : kb.C (W.alloc (.cells #[.int .u8 ((n : Int) / k % 256)] e)) (some ⟨b, 0, none⟩) 1 [UInt8.ofNat (n / k)] :=
  C_new hb rfl (by simp) (by rw [List.map_cons, List.map_nil, byte_div])
theorem OB.one0 {W : World} {b : Nat} {n : Nat} (hb : b = W.heap.size) (e : Nat) : kb.C (W.alloc (.cells #[.int .u8 ((n : Int) % 256)] e)) (some ⟨b, 0, none⟩) 1 [UInt8.ofNat n] :=
  C_new hb rfl (by simp) (by rw [List.map_cons, List.map_nil, byte_mod])

set_option maxHeartbeats 2000000 in
theorem put_any (v : Value) (xs : List UInt8) (n size : Nat) (w0 w : World) (ho : OB w w0.heap.size v xs) (hB : Below w0.heap.size w0 w) (hsz : size ≤ 4) (hx : xs.length ≤ 140737488355000) :
    Calls Try.prog 30 #[v, .int .u32 (n : Int), .int .i64 (size : Int)] w fun e w' => ∃ v', e = .returned v' ∧ OB w' w0.heap.size v' (xs ++ spellB n size) ∧ Below w0.heap.size w0 w' := by
  have HO0 := Aside0.mk ho
  have HB0 := Aside0.mk hB
  clear ho hB
  have hsz' : (size : Int) ≤ 4 := by omega
  go_enter Try.func30, Try.ntmps30
  go_wp2
  go_loopw [0, 7] (fun v i wr => ∃ k : Nat, k ≤ size ∧ i = .int .i64 ((k : Int) - 1) ∧ Aside0 (OB wr w0.heap.size v (xs ++ (spellB n size).take (size - k))) ∧ Aside0 (Below w0.heap.size w0 wr)) (fun _ i _ => (intOf i + 1).toNat)
  case atStart => exact ⟨size, Nat.le_refl _, rfl, ⟨by rw [Nat.sub_self, List.take_zero, List.append_nil]; exact HO0.out⟩, HB0⟩
  case round =>
    obtain ⟨k, hk, rfl, HO, HB⟩ := hrel
    have hlen : (xs ++ (spellB n size).take (size - k)).length ≤ 140737488355100 := by
      rw [List.length_append, List.length_take]; omega
    rcases Nat.eq_zero_or_pos k with h0 | hkp
    · subst h0
      go_wp2
      go_ret
      refine ⟨_, rfl, ?_, HB.out⟩
      have := HO.out
      rw [Nat.sub_zero, List.take_of_length_le (by simp [spellB, be4]; omega)] at this
      exact this
    · obtain ⟨k, rfl⟩ : ∃ m, k = m + 1 := ⟨k - 1, by omega⟩
      have h' : k = 0 ∨ k = 1 ∨ k = 2 ∨ k = 3 := by omega
      rcases h' with rfl | rfl | rfl | rfl
      · have hsn' := Aside0.mk (show (spellB n size).take (size - 0) = (spellB n size).take (size - (0 + 1)) ++ [UInt8.ofNat n] from by have := spell_snoc n size 0 hsz (by omega); simpa using this)
        have hB := HB.out
        go_wp2_with (at_builtin; refine Kd.R_append_rows kb (w0 := w0) w0.heap.size rfl (.tmp 14) (.tmp 21) 22 5 (.int .u8 0) 1 rfl Try.underlying22 info_u8' rfl (by decide) (by omega) _ _ [UInt8.ofNat n] _ _ _ (fun _ => True) (fun _ => False) rfl rfl (Kd.R_below HO.out (below_alloc (Below.refl _ _) _)) (OB.one0 rfl _) (fun _ _ h => h) (fun _ h => h.elim) (fun _ _ => trivial) ?aB ?aS ?aL ?_; (case aB => (repeat (first | exact Below.refl _ _ | apply below_alloc | apply below_drew | apply pw_below_drewN | apply below_bytesWorld | (refine below_set ?_ (by first | assumption | omega)) | refine below_step ?_ (by assumption)))); (case aS => exact below_size (by (repeat (first | exact Below.refl _ _ | apply below_alloc | apply below_drew | apply pw_below_drewN | apply below_bytesWorld | (refine below_set ?_ (by first | assumption | omega)) | refine below_step ?_ (by assumption))))); (case aL => (try simp only [List.length_cons, List.length_nil]); omega); intro v1 w2 HO1 HB1 hg hat; have HO1' := Aside0.mk HO1; have HB1' := Aside0.mk HB1; clear HO1 HB1 hg hat)
        clear hB
        go_roundw
        case rel => exact ⟨0, by omega, by go_num, ⟨by rw [hsn'.out, ← List.append_assoc]; exact HO1'.out⟩, HB1'⟩
        case measure => simp [intOf]; try omega
      · have hsn' := Aside0.mk (show (spellB n size).take (size - 1) = (spellB n size).take (size - (1 + 1)) ++ [UInt8.ofNat (n / 256)] from by have := spell_snoc n size 1 hsz (by omega); simpa using this)
        have hB := HB.out
        go_wp2_with (at_builtin; refine Kd.R_append_rows kb (w0 := w0) w0.heap.size rfl (.tmp 14) (.tmp 21) 22 5 (.int .u8 0) 1 rfl Try.underlying22 info_u8' rfl (by decide) (by omega) _ _ [UInt8.ofNat (n / 256)] _ _ _ (fun _ => True) (fun _ => False) rfl rfl (Kd.R_below HO.out (below_alloc (Below.refl _ _) _)) (OB.one rfl _) (fun _ _ h => h) (fun _ h => h.elim) (fun _ _ => trivial) ?aB ?aS ?aL ?_; (case aB => (repeat (first | exact Below.refl _ _ | apply below_alloc | apply below_drew | apply pw_below_drewN | apply below_bytesWorld | (refine below_set ?_ (by first | assumption | omega)) | refine below_step ?_ (by assumption)))); (case aS => exact below_size (by (repeat (first | exact Below.refl _ _ | apply below_alloc | apply below_drew | apply pw_below_drewN | apply below_bytesWorld | (refine below_set ?_ (by first | assumption | omega)) | refine below_step ?_ (by assumption))))); (case aL => (try simp only [List.length_cons, List.length_nil]); omega); intro v1 w2 HO1 HB1 hg hat; have HO1' := Aside0.mk HO1; have HB1' := Aside0.mk HB1; clear HO1 HB1 hg hat)
        clear hB
        go_roundw
        case rel => exact ⟨1, by omega, by go_num, ⟨by rw [hsn'.out, ← List.append_assoc]; exact HO1'.out⟩, HB1'⟩
        case measure => simp [intOf]; try omega
      · have hsn' := Aside0.mk (show (spellB n size).take (size - 2) = (spellB n size).take (size - (2 + 1)) ++ [UInt8.ofNat (n / 65536)] from by have := spell_snoc n size 2 hsz (by omega); simpa using this)
        have hB := HB.out
        go_wp2_with (at_builtin; refine Kd.R_append_rows kb (w0 := w0) w0.heap.size rfl (.tmp 14) (.tmp 21) 22 5 (.int .u8 0) 1 rfl Try.underlying22 info_u8' rfl (by decide) (by omega) _ _ [UInt8.ofNat (n / 65536)] _ _ _ (fun _ => True) (fun _ => False) rfl rfl (Kd.R_below HO.out (below_alloc (Below.refl _ _) _)) (OB.one rfl _) (fun _ _ h => h) (fun _ h => h.elim) (fun _ _ => trivial) ?aB ?aS ?aL ?_; (case aB => (repeat (first | exact Below.refl _ _ | apply below_alloc | apply below_drew | apply pw_below_drewN | apply below_bytesWorld | (refine below_set ?_ (by first | assumption | omega)) | refine below_step ?_ (by assumption)))); (case aS => exact below_size (by (repeat (first | exact Below.refl _ _ | apply below_alloc | apply below_drew | apply pw_below_drewN | apply below_bytesWorld | (refine below_set ?_ (by first | assumption | omega)) | refine below_step ?_ (by assumption))))); (case aL => (try simp only [List.length_cons, List.length_nil]); omega); intro v1 w2 HO1 HB1 hg hat; have HO1' := Aside0.mk HO1; have HB1' := Aside0.mk HB1; clear HO1 HB1 hg hat)
        clear hB
        go_roundw
        case rel => exact ⟨2, by omega, by go_num, ⟨by rw [hsn'.out, ← List.append_assoc]; exact HO1'.out⟩, HB1'⟩
        case measure => simp [intOf]; try omega
      · have hsn' := Aside0.mk (show (spellB n size).take (size - 3) = (spellB n size).take (size - (3 + 1)) ++ [UInt8.ofNat (n / 16777216)] from by have := spell_snoc n size 3 hsz (by omega); simpa using this)
        have hB := HB.out
        go_wp2_with (at_builtin; refine Kd.R_append_rows kb (w0 := w0) w0.heap.size rfl (.tmp 14) (.tmp 21) 22 5 (.int .u8 0) 1 rfl Try.underlying22 info_u8' rfl (by decide) (by omega) _ _ [UInt8.ofNat (n / 16777216)] _ _ _ (fun _ => True) (fun _ => False) rfl rfl (Kd.R_below HO.out (below_alloc (Below.refl _ _) _)) (OB.one rfl _) (fun _ _ h => h) (fun _ h => h.elim) (fun _ _ => trivial) ?aB ?aS ?aL ?_; (case aB => (repeat (first | exact Below.refl _ _ | apply below_alloc | apply below_drew | apply pw_below_drewN | apply below_bytesWorld | (refine below_set ?_ (by first | assumption | omega)) | refine below_step ?_ (by assumption)))); (case aS => exact below_size (by (repeat (first | exact Below.refl _ _ | apply below_alloc | apply below_drew | apply pw_below_drewN | apply below_bytesWorld | (refine below_set ?_ (by first | assumption | omega)) | refine below_step ?_ (by assumption))))); (case aL => (try simp only [List.length_cons, List.length_nil]); omega); intro v1 w2 HO1 HB1 hg hat; have HO1' := Aside0.mk HO1; have HB1' := Aside0.mk HB1; clear HO1 HB1 hg hat)
        clear hB
        go_roundw
        case rel => exact ⟨3, by omega, by go_num, ⟨by rw [hsn'.out, ← List.append_assoc]; exact HO1'.out⟩, HB1'⟩
        case measure => simp [intOf]; try omega

end Go.Proofs.Ytbbhjceelghadaa.My
