/- Parts of the proof, one behind the other: Region, DiskE. -/
import Derived.Test.YtbbhjceelghadaaDoorQDiskDoes2
set_option linter.unusedVariables false
set_option linter.unusedSimpArgs false
section
-- from Region
namespace Go.Proofs.YtbbhjceelghadaaDoor.My
open Go Go.RowKit Go.Proofs.YtbbhjceelghadaaDoorW.PrintWords Go.Proofs.YtbbhjceelghadaaDoorW.PrintLast
def entries (D : List Tmp) (vs : Nat → Value) : List (Nat × Tmp × Value) := (List.range D.length).map fun i => (i, D.getD i 0, vs i)
theorem entries_get {D : List Tmp} {vs : Nat → Value} {i : Nat} (h : i < D.length) : (entries D vs)[i]? = some (i, D.getD i 0, vs i) := by
  unfold entries
  rw [List.getElem?_map, List.getElem?_range h]
  rfl
theorem entries_length (D : List Tmp) (vs : Nat → Value) : (entries D vs).length = D.length := by simp [entries]
theorem entries_set {D : List Tmp} {vs : Nat → Value} {i : Nat} (v : Value) : (entries D vs).set i (i, D.getD i 0, v) = entries D (fun j => if j = i then v else vs j) := by
  apply List.ext_getElem?
  intro j
  by_cases hj : j < D.length
  · by_cases hij : i = j
    · subst hij
      rw [List.getElem?_set_self (by rw [entries_length]; exact hj), entries_get hj, if_pos rfl]
    · rw [List.getElem?_set_ne hij, entries_get hj, entries_get hj, if_neg (Ne.symm hij)]
  · rw [List.getElem?_eq_none (by simp [entries_length]; omega), List.getElem?_eq_none (by rw [entries_length]; omega)]
/-- The places of D other than i do not hold D's i-th. -/
def distinctD (D : List Tmp) : Bool := decide D.Nodup
theorem nodup_getD {D : List Tmp} (h : D.Nodup) {i j : Nat} (hi : i < D.length) (hj : j < D.length) (e : D.getD i 0 = D.getD j 0) : i = j := by
  rw [List.getD_eq_getElem?_getD, List.getD_eq_getElem?_getD, List.getElem?_eq_getElem hi, List.getElem?_eq_getElem hj] at e
  simp only [Option.getD_some] at e
  have hp := List.pairwise_iff_getElem.1 h
  rcases Nat.lt_trichotomy i j with hij | hij | hij
  · exact absurd e (hp i j hi hj hij)
  · exact hij
  · exact absurd e.symm (hp j i hj hi hij)
theorem putSel_congr {b b' : Nat → Bool} : ∀ {L : List (Nat × Tmp × Value)} {a : Act}, (∀ e ∈ L, b e.1 = b' e.1) → putSel a b L = putSel a b' L
  | [], _, _ => rfl
  | e :: L, a, h => by
    unfold putSel
    rw [h e List.mem_cons_self]
    exact putSel_congr (fun x hx => h x (List.mem_cons_of_mem _ hx))
theorem entries_apart {D : List Tmp} {vs : Nat → Value} {i : Nat} (hD : distinctD D = true) (hi : i < D.length) :
    (((entries D vs).take i ++ (entries D vs).drop (i + 1)).all fun e => !(e.1 == i) && !(e.2.1 == D.getD i 0)) = true := by
  have hnd : D.Nodup := of_decide_eq_true hD
  rw [List.all_eq_true]
  intro e he
  obtain ⟨j, hj, hne⟩ : ∃ j, (entries D vs)[j]? = some e ∧ j ≠ i := by
    rcases List.mem_append.1 he with h | h
    · obtain ⟨j, hj⟩ := List.getElem?_of_mem h
      rw [List.getElem?_take] at hj
      split at hj
      · exact ⟨j, hj, by omega⟩
      · cases hj
    · obtain ⟨j, hj⟩ := List.getElem?_of_mem h
      rw [List.getElem?_drop] at hj
      exact ⟨_, hj, by omega⟩
  have hjl : j < D.length := by have := (List.getElem?_eq_some_iff.1 hj).1; rwa [entries_length] at this
  rw [entries_get hjl] at hj
  simp only [Option.some.injEq] at hj
  subst hj
  simp only [Bool.and_eq_true, Bool.not_eq_true', beq_eq_false_iff_ne]
  exact ⟨hne, fun e => hne (nodup_getD hnd hjl hi e)⟩
section
variable {P : Program} {ops : Array Oper} {Q : Exit → Act → World → Prop} {T : Bool × List (List Nat × List Nat)} {B : List Nat}
/-- One operation: whatever has come up before it, if all that it waits for has. -/
def GrowStep (P : Program) (ops : Array Oper) (Q : Exit → Act → World → Prop) (B : List Nat) (D : List Tmp) (R : Nat → Value → World → Prop) (a0 : Act) (w0 : World) (i : Nat) : Prop :=
  ∀ (a : Act) (w : World) (vs : Nat → Value), Below w0.heap.size w0 w → (∀ s, D.contains s = false → a.tmps[s]? = a0.tmps[s]?) →
    (∀ j, (B.getD i 0).testBit j = true → a.tmps[D.getD j 0]? = some (vs j) ∧ R j (vs j) w) →
    ∃ oi, ops[i]? = some oi ∧ oi.dst = some (D.getD i 0) ∧ ∀ K : Act → World → Prop, (∀ v w', R i v w' → Below w.heap.size w w' → K (a.put (some (D.getD i 0)) v) w') →
      if Region.wanted oi (yielded ops a.tmps) = true then Oper.wp P oi a w K Q else K (a.put (some (D.getD i 0)) undef) w
theorem gsteps_nil {D : List Tmp} {R : Nat → Value → World → Prop} {a0 : Act} {w0 : World} : ∀ i ∈ ([] : List Nat), GrowStep P ops Q B D R a0 w0 i := fun _ h => by cases h
theorem gsteps_cons {D : List Tmp} {R : Nat → Value → World → Prop} {a0 : Act} {w0 : World} {i : Nat} {rs : List Nat} (h : GrowStep P ops Q B D R a0 w0 i) (hs : ∀ j ∈ rs, GrowStep P ops Q B D R a0 w0 j) : ∀ j ∈ i :: rs, GrowStep P ops Q B D R a0 w0 j := fun j hj => by
  rcases List.mem_cons.1 hj with rfl | hj
  · exact h
  · exact hs j hj
/-- What stays known while memory grows. -/
def Rm (r : Value → World → Prop) : Prop := ∀ v w w', r v w → Below w.heap.size w w' → r v w'
theorem Rm_eq (t : Value) : Rm (fun v _ => v = t) := fun _ _ _ h _ => h
theorem Rms_nil : ∀ r ∈ ([] : List (Value → World → Prop)), Rm r := fun _ h => by cases h
theorem Rms_cons {r : Value → World → Prop} {rs : List (Value → World → Prop)} (h : Rm r) (hs : ∀ r ∈ rs, Rm r) : ∀ x ∈ r :: rs, Rm x := fun x hx => by
  rcases List.mem_cons.1 hx with rfl | hx
  · exact h
  · exact hs x hx
def RR (Rs : List (Value → World → Prop)) : Nat → Value → World → Prop := fun i => Rs.getD i (fun _ _ => True)
theorem RR_mono {Rs : List (Value → World → Prop)} (h : ∀ r ∈ Rs, Rm r) : ∀ i v w w', RR Rs i v w → Below w.heap.size w w' → RR Rs i v w' := by
  intro i v w w' hr hb
  unfold RR at *
  rcases Nat.lt_or_ge i Rs.length with hl | hl
  · have e : Rs.getD i (fun _ _ => True) = Rs[i] := by rw [List.getD_eq_getElem?_getD, List.getElem?_eq_getElem hl]; rfl
    rw [e] at hr ⊢
    exact h _ (List.getElem_mem hl) v w w' hr hb
  · rw [List.getD_eq_getElem?_getD, List.getElem?_eq_none hl]
    trivial
theorem grow_region {id : Nat} {a0 : Act} {w0 : World} (D : List Tmp) (R : Nat → Value → World → Prop) (hm : P.follows .mixedOrders = true)
    (hT : rtab .any ops = T) (hw : waitsOk T.2 B = true) (hk : baseOk T.2 (List.range ops.size) = true) (hD : distinctD D = true) (hDn : D.length = ops.size)
    (hin : (D.all fun t => Nat.ble (t + 1) a0.tmps.size) = true) (hBn : ((List.range ops.size).all fun i => Nat.ble (B.getD i 0) (2 ^ ops.size - 1)) = true)
    (hmono : ∀ i v w w', R i v w → Below w.heap.size w w' → R i v w')
    (hs : ∀ i ∈ List.range ops.size, GrowStep P ops Q B D R a0 w0 i)
    (hend : ∀ (vs : Nat → Value) (w : World), Below w0.heap.size w0 w → (∀ i, i < ops.size → R i (vs i) w) → Q .normal (putSel a0 (fun _ => true) (entries D vs)) w) :
    (Code.region id ops true).wp P Q a0 w0 := by
  have hTl : T.2.length = ops.size := by rw [← hT, rtab_length]
  refine start_ (n := ops.size) (S := fun _ => True) (ds := []) (Array.replicate ops.size false) hm rfl rfl trivial (fun _ => ?_)
  refine inv_ (T := T) (B := B) (List.range ops.size) (fun b a w => ∃ vs : Nat → Value, a = putSel a0 b (entries D vs) ∧ (∀ i, i < ops.size → b i = true → R i (vs i) w) ∧ Below w0.heap.size w0 w) hT hw hk ?_ ?_ ?_ ?_
  · simp only [Bool.and_eq_true, beq_iff_eq, List.length_range, and_true]
    rw [hTl]
    apply List.ext_getElem
    · simp [lof]
    · intro i h1 h2
      simp [lof] at h1 ⊢
      exact h1
  · refine ⟨fun _ => undef, ?_, (fun _ _ h => by cases h), below_drew (Below.refl _ _)⟩
    have : ∀ (L : List (Nat × Tmp × Value)) (a : Act), putSel a (fun _ => false) L = a := by
      intro L
      induction L with
      | nil => intro a; rfl
      | cons e L ih => intro a; unfold putSel; rw [if_neg (by simp)]; exact ih a
    rw [this]
  · intro i hi
    have hil : i < ops.size := List.mem_range.1 hi
    have hiD : i < D.length := by omega
    intro b a w ⟨vs, ha, hR, hB⟩ hb hon hoff
    have hsz : ∀ s, D.contains s = false → a.tmps[s]? = a0.tmps[s]? := by
      intro s hsD
      rw [ha]
      refine putSel_off ?_
      rw [List.all_eq_true]
      intro e he
      obtain ⟨j, hj⟩ := List.getElem?_of_mem he
      have hjl : j < D.length := by have := (List.getElem?_eq_some_iff.1 hj).1; rwa [entries_length] at this
      rw [entries_get hjl] at hj
      simp only [Option.some.injEq] at hj
      subst hj
      simp only [Bool.not_eq_true', beq_eq_false_iff_ne]
      intro h
      have : D.contains s = true := by
        rw [List.contains_iff_mem, ← h, List.getD_eq_getElem?_getD, List.getElem?_eq_getElem hjl]
        exact List.getElem_mem hjl
      rw [this] at hsD
      cases hsD
    have hdep : ∀ j, (B.getD i 0).testBit j = true → a.tmps[D.getD j 0]? = some (vs j) ∧ R j (vs j) w := by
      intro j hj
      have hjn : j < ops.size := by
        rcases Nat.lt_or_ge j ops.size with h | h
        · exact h
        · have h1 := List.all_eq_true.1 hBn i hi
          have h2 : B.getD i 0 ≤ 2 ^ ops.size - 1 := Nat.le_of_ble_eq_true h1
          have h3 : B.getD i 0 < 2 ^ j := Nat.lt_of_le_of_lt h2 (Nat.lt_of_lt_of_le (Nat.sub_lt (Nat.two_pow_pos _) Nat.one_pos) (Nat.pow_le_pow_right (by decide) h))
          rw [Nat.testBit_lt_two_pow h3] at hj
          cases hj
      have hbj : b j = true := hon j (by rw [Bool.and_eq_true]; exact ⟨by simpa using hjn, hj⟩)
      refine ⟨?_, hR j hjn hbj⟩
      rw [ha]
      have hjD : j < D.length := by omega
      refine putSel_on (e := (j, D.getD j 0, vs j)) j (entries_get hjD) ?_ hbj ?_
      · have := entries_apart (vs := vs) hD hjD
        rw [List.all_append, Bool.and_eq_true] at this
        have h2 := this.2
        rw [List.all_eq_true] at h2 ⊢
        intro x hx
        have := h2 x hx
        rw [Bool.and_eq_true] at this
        exact this.2
      · have h1 := List.all_eq_true.1 hin (D.getD j 0) (by rw [List.getD_eq_getElem?_getD, List.getElem?_eq_getElem hjD]; exact List.getElem_mem hjD)
        exact h1
    obtain ⟨oi, ho, hdst, hstep⟩ := hs i hi a w vs hB hsz hdep
    refine ⟨oi, ho, fun K hK => ?_⟩
    rw [hdst]
    refine hstep K fun v w' hv hbw => ?_
    refine hK.out _ _ ⟨fun j => if j = i then v else vs j, ?_, ?_, below_step hB hbw⟩
    · rw [ha]
      exact putSel_upk i hb (entries_get hiD) (entries_set v) (entries_apart hD hiD)
    · intro j hj hbj
      by_cases hji : j = i
      · subst hji
        simp only [if_pos]
        exact hv
      · simp only [if_neg hji]
        rw [up_ne hji] at hbj
        exact hmono _ _ _ _ (hR j hj hbj) hbw
  · intro b a w hall ⟨vs, ha, hR, hB⟩
    have : putSel a0 b (entries D vs) = putSel a0 (fun _ => true) (entries D vs) := by
      have hlt : ∀ e ∈ entries D vs, b e.1 = true := by
        intro e he
        obtain ⟨j, hj⟩ := List.getElem?_of_mem he
        have hjl : j < D.length := by have := (List.getElem?_eq_some_iff.1 hj).1; rwa [entries_length] at this
        rw [entries_get hjl] at hj
        simp only [Option.some.injEq] at hj
        subst hj
        exact hall j (by simpa using (by omega : j < ops.size))
      exact putSel_congr (fun e he => hlt e he)
    rw [ha, this]
    exact hend vs w hB (fun i hi => hR i hi (hall i (by simpa using hi)))
/-- The same, as it is used. -/
theorem grow_rs {id : Nat} {a0 : Act} {w0 : World} (D : List Tmp) (Rs : List (Value → World → Prop)) (L : List Nat) (T : Bool × List (List Nat × List Nat)) (B : List Nat) (hm : P.follows .mixedOrders = true)
    (hT : rtab .any ops = T) (hL : List.range ops.size = L) (hw : waitsOk T.2 B = true) (hk : baseOk T.2 L = true) (hD : distinctD D = true) (hDn : D.length = ops.size)
    (hin : (D.all fun t => Nat.ble (t + 1) a0.tmps.size) = true) (hBn : (L.all fun i => Nat.ble (B.getD i 0) (2 ^ D.length - 1)) = true)
    (hmono : ∀ r ∈ Rs, Rm r) (hs : ∀ i ∈ L, GrowStep P ops Q B D (RR Rs) a0 w0 i)
    (hend : ∀ (vs : Nat → Value) (w : World), Below w0.heap.size w0 w → (∀ i, Nat.ble (i + 1) D.length = true → RR Rs i (vs i) w) → Q .normal (putSel a0 (fun _ => true) (entries D vs)) w) :
    (Code.region id ops true).wp P Q a0 w0 := by
  subst hL
  rw [hDn] at hBn
  exact grow_region D (RR Rs) hm hT hw hk hD hDn hin hBn (RR_mono hmono) hs (fun vs w hb h => hend vs w hb (fun i hi => h i (by have := Nat.le_of_ble_eq_true hi; omega)))
end
end Go.Proofs.YtbbhjceelghadaaDoor.My
end

section
-- from DiskE
namespace Go.Proofs.YtbbhjceelghadaaDoor.K
open Go Go.RowKit Go.Proofs.YtbbhjceelghadaaDoorW.PrintWords Go.Proofs.YtbbhjceelghadaaDoorW.PrintLast Go.Proofs.YtbbhjceelghadaaDoorW.PrintMore Go.Proofs.YtbbhjceelghadaaDoor.My
attribute [local go_sem] max2_mx min2_mn max_two min_two
def RRead (l : List UInt8) : Value → World → Prop := fun v w => ∃ A c, v = .slice A l.length c ∧ kb.C w A l.length l
theorem Rm_read (l : List UInt8) : Rm (RRead l) := fun _ _ _ ⟨A, c, h1, h2⟩ hb => ⟨A, c, h1, Kd.C_below h2 hb⟩
theorem m_halted_b {w : World} {b : Nat} {row : Option Nat} {d : DM} {Z : Bool} (hZ : Z = decide (d.left = 0)) (h : DD w b row d) : Calls Tryd.prog 32 #[.pointer (some ⟨b, 0, none⟩)] w fun e w' => e = .returned (.bool Z) ∧ Below w.heap.size w w' :=
  (m_halted h).mono fun _ _ ⟨h1, h2⟩ => ⟨by rw [hZ]; exact h1, by rw [h2]; exact Below.refl _ _⟩
theorem r_halted_b {w : World} {b : Nat} {row : Option Nat} {d : DM} {Z : Bool} (hZ : Z = decide (d.left = 0)) (h : RR w b row d) : Calls Tryd.prog 36 #[.pointer (some ⟨b, 0, none⟩)] w fun e w' => e = .returned (.bool Z) ∧ Below w.heap.size w w' :=
  (r_halted h).mono fun _ _ ⟨h1, h2⟩ => ⟨by rw [hZ]; exact h1, by rw [h2]; exact Below.refl _ _⟩
/-- Behind k calls. -/
def At (w0 w : World) (b r : Nat) : Prop := ∃ row rr d, Two w0 w b row r rr d
theorem two_new {w0 w w1 w2 : World} {room : Nat} (h0 : Below w0.heap.size w0 w) (h1 : DD w1 w.heap.size none (DM.new room)) (hb1 : Below w.heap.size w w1) (h2 : RR w2 w1.heap.size none (DM.new room)) (hb2 : Below w1.heap.size w1 w2) : Two w0 w2 w.heap.size none w1.heap.size none (DM.new room) := by
  have hlt := h1.lt
  exact ⟨h1.below hb2, h2, (h0.trans (hb1.mono h0.size)).trans (hb2.mono (Nat.le_trans h0.size hb1.size)), h0.size, Nat.le_trans h0.size hb1.size, (fun _ e => by cases e), (fun _ e => by cases e), by omega⟩
set_option maxRecDepth 20000 in
set_option maxHeartbeats 6400000 in
theorem diskDoes_walk (room : Int) (A : Option Addr) (c : Nat) (l : List SOp) (w0 : World) (hroom : -9223372036854775808 ≤ room ∧ room ≤ 9223372036854775807) (h : kOp.C w0 A l.length l) (hc : l.length ≤ c) (hok : l.length ≤ 140737488351232 ∧ ∀ x ∈ l, OpS x) :
    Calls Tryd.prog 7 #[.int .i64 room, .slice A l.length c] w0 fun e w' => e = .returned (.bool true) ∧ Below w0.heap.size w0 w' := by
  have hhe := heavy_any A c l w0 h hok.1 hok.2
  have H := Aside0.mk h
  have HOK := Aside0.mk hok.2
  clear h hok
  obtain ⟨hv, hhvB⟩ : ∃ hv, hv = hvB l := ⟨_, rfl⟩
  rw [← hhvB] at hhe
  cases hv
  · obtain ⟨hl100, hn5⟩ := hvB_not hhvB.symm
    have HBL := Aside0.mk (fun x hx => Nat.le_trans (mem_hv l x hx) hn5)
    have hl32 : (l.length : Int) ≤ 100 := by omega
    clear hhvB hl100 hn5
    by_cases hr : room < 0 ∨ 1048576 < room
    · go_enter Tryd.func7, Tryd.ntmps7
      go_wp2_with fail
      refine hhe.mono ?_
      rintro e w' ⟨rfl, rfl⟩
      clear hhe
      go_wp2_with fail
      refine (known10 _).mono ?_
      rintro e w1 ⟨rfl, hb1⟩
      have HB1 := Aside0.mk hb1
      clear hb1
      go_wp2_with fail
      refine (dnew_none room w1 hr).mono ?_
      rintro e w2 ⟨rfl, k2, hk2⟩
      have hb2 : Below w'.heap.size w' w2 := by rw [hk2]; exact pw_below_drewN HB1.out _
      have HB2 := Aside0.mk hb2
      clear hk2 hb2
      go_wp2_with fail
      refine (rnew_none room w2 hr).mono ?_
      rintro e w3 ⟨rfl, k3, hk3⟩
      have hb3 : Below w'.heap.size w' w3 := by rw [hk3]; exact pw_below_drewN HB2.out _
      have HB3 := Aside0.mk hb3
      clear hk3 hb3 hr
      go_wp2
      go_ret
      exact ⟨rfl, HB3.out⟩
    · obtain ⟨m, rfl⟩ : ∃ m : Nat, room = m := ⟨room.toNat, by omega⟩
      have hm : m ≤ 1048576 := by omega
      clear hr
      go_enter Tryd.func7, Tryd.ntmps7
      go_wp2_with fail
      refine hhe.mono ?_
      rintro e w' ⟨rfl, rfl⟩
      clear hhe
      go_wp2_with fail
      refine (known10 _).mono ?_
      rintro e w1 ⟨rfl, hb1⟩
      have HB1 := Aside0.mk hb1
      clear hb1
      go_wp2_with fail
      refine (m_new m w1 hm).mono ?_
      rintro e w2 ⟨rfl, hd2, hb2⟩
      have HD2 := Aside0.mk hd2
      have HB2 := Aside0.mk hb2
      clear hd2 hb2
      go_wp2_with fail
      refine (r_new m w2 hm).mono ?_
      rintro e w3 ⟨rfl, hr3, hb3⟩
      have hT := two_new HB1.out HD2.out HB2.out hr3 hb3
      obtain ⟨b, hb⟩ : ∃ b, b = w1.heap.size := ⟨_, rfl⟩
      obtain ⟨r, hr⟩ : ∃ r, r = w2.heap.size := ⟨_, rfl⟩
      rw [← hb, ← hr] at hT
      rw [← hb, ← hr]
      have HA := Aside0.mk (show At w' w3 b r from ⟨_, _, _, hT⟩)
      clear hr3 hb3 hT hb hr HD2 HB2
      go_wp2
      go_loopw [7] (fun i wr => ∃ k : Nat, k ≤ l.length ∧ i = .int .i64 k ∧ At w' wr b r) (fun i _ => l.length - (intOf i).toNat)
      case atStart => exact ⟨0, Nat.zero_le _, rfl, HA.out⟩
      case round =>
        obtain ⟨k, hk, rfl, row, rr, d, hT⟩ := hrel
        have HT := Aside0.mk hT
        clear hT HA
        by_cases hlt : k < l.length
        · obtain ⟨ad, A1, c1, rfl, h1, h2, h3, _, hC1⟩ := op_at H.out k hlt
          obtain ⟨x, hx⟩ : ∃ x, x = l.getD k default := ⟨_, rfl⟩
          have hmem : x ∈ l := by rw [hx, List.getD_eq_getElem?_getD, List.getElem?_eq_getElem hlt]; exact List.getElem_mem hlt
          rw [← hx] at h1 h2 h3 hC1
          have g1 := bcell HT.out.bel h1
          have g2 := bcell HT.out.bel h2
          have g3 := bcell HT.out.bel h3
          have hdo := does_any (c := c1) x.k x.n HT.out hC1 (by have := HBL.out x hmem; omega) (HOK.out x hmem).1.1.1 (HOK.out x hmem).1.1.2 (HOK.out x hmem).1.2.2
          clear h1 h2 h3 hC1 hmem hx
          go_wp2_with fail
          refine hdo.mono ?_
          rintro e w4 ⟨rfl, row4, rr4, h4⟩
          obtain ⟨d4, hd4⟩ : ∃ d4, d4 = d.op x.k x.b x.n := ⟨_, rfl⟩
          rw [← hd4] at h4
          have H4 := Aside0.mk h4
          obtain ⟨ao, cap, hR, hRw⟩ := h4.rk.1
          have hrc := hR.c0
          obtain ⟨Z, hZ⟩ : ∃ Z, Z = decide (d4.left = 0) := ⟨_, rfl⟩
          have HZ := Aside0.mk hZ
          obtain ⟨bl, hbl⟩ : ∃ bl, bl = d4.bs := ⟨_, rfl⟩
          rw [← hbl] at hrc
          have HRd := Aside0.mk (show kb.C w4 ao bl.length bl from by rw [hbl]; exact hRw.reads.1)
          have HBB := Aside0.mk hbl
          clear hdo g1 g2 g3 h4 hd4 hR hRw hZ hbl
          go_wp2
          refine grow_rs [45, 46, 47, 48, 49, 50, 51, 52, 53, 54, 55, 56, 57, 58, 59, 60, 61, 62, 63, 64] [fun v _ => v = (.bool true), fun v _ => v = (.bool false), fun v _ => v = (.bool false), fun v _ => v = (.pointer (some ⟨b, 0, none⟩)), RRead bl, fun v _ => v = (.string (bs bl)), fun v _ => v = (.pointer (some ⟨r, 0, none⟩)), fun v _ => v = (.pointer (some ⟨r, 0, none⟩)), fun v _ => v = (.pointer (some ⟨r, 0, none⟩)), fun v _ => v = (.slice ao bl.length cap), fun v _ => v = (.string (bs bl)), fun v _ => v = (.bool false), fun v _ => v = (.bool false), fun v _ => v = (.bool false), fun v _ => v = (.pointer (some ⟨b, 0, none⟩)), fun v _ => v = (.bool Z), fun v _ => v = (.pointer (some ⟨r, 0, none⟩)), fun v _ => v = (.bool Z), fun v _ => v = (.bool false), fun v _ => v = (.bool false)] [0, 1, 2, 3, 4, 5, 6, 7, 8, 9, 10, 11, 12, 13, 14, 15, 16, 17, 18, 19] (true, [([], []), ([0], [0]), ([1], [1]), ([2], [2]), ([3, 2, 2], [2, 3]), ([4, 2], [2, 4]), ([2], [2]), ([6, 2], [2, 6]), ([7, 2], [2, 7]), ([8, 2], [2, 8]), ([9, 2], [2, 9]), ([5, 10, 2], [2, 5, 10]), ([2, 11], [2, 11]), ([12, 4], [12]), ([13], [13]), ([14, 13, 13], [13, 14]), ([13], [13]), ([16, 15, 13], [13, 16]), ([15, 17, 13], [13, 15, 17]), ([13, 18], [13, 18])]) [0, 1, 3, 7, 15, 31, 7, 71, 199, 455, 967, 2047, 4095, 8191, 16383, 32767, 16383, 131071, 262143, 524287] (by kernel_rfl) (by kernel_rfl) (by kernel_rfl) (by kernel_rfl) (by kernel_rfl) (by kernel_rfl) (by kernel_rfl) (by rfl) (by kernel_rfl) ?_ ?_ ?_
          · exact (Rms_cons (Rm_eq _) (Rms_cons (Rm_eq _) (Rms_cons (Rm_eq _) (Rms_cons (Rm_eq _) (Rms_cons (Rm_read bl) (Rms_cons (Rm_eq _) (Rms_cons (Rm_eq _) (Rms_cons (Rm_eq _) (Rms_cons (Rm_eq _) (Rms_cons (Rm_eq _) (Rms_cons (Rm_eq _) (Rms_cons (Rm_eq _) (Rms_cons (Rm_eq _) (Rms_cons (Rm_eq _) (Rms_cons (Rm_eq _) (Rms_cons (Rm_eq _) (Rms_cons (Rm_eq _) (Rms_cons (Rm_eq _) (Rms_cons (Rm_eq _) (Rms_cons (Rm_eq _) Rms_nil))))))))))))))))))))
          · refine gsteps_cons ?_ ?_
            · intro a w' vs hB hel hd
              have e8 : a.tmps[8]? = some (.bool true) := (hel 8 (by kernel_rfl)).trans (by rfl)
              refine ⟨_, rfl, rfl, fun K hK => ?_⟩
              refine value_ (w1 := w') (v := .bool true) (by rfl) rfl ?_ (hK _ _ (by exact rfl) (Below.refl _ _))
              · go_simp
                (try simp only [i64_w, bs_list])
                (try rfl)
                (try (unfold Go.RowKit.wrap64; omega))
            refine gsteps_cons ?_ ?_
            · intro a w' vs hB hel hd
              obtain ⟨f45, r45⟩ := hd 0 (by kernel_rfl)
              have e45 : a.tmps[45]? = some (.bool true) := f45.trans (congrArg some (r45 : vs 0 = (.bool true)))
              refine ⟨_, rfl, rfl, fun K hK => ?_⟩
              refine value_ (w1 := w') (v := .bool false) (by rfl) rfl ?_ (hK _ _ (by exact rfl) (Below.refl _ _))
              · go_simp
                (try simp only [i64_w, bs_list])
                (try rfl)
                (try (unfold Go.RowKit.wrap64; omega))
            refine gsteps_cons ?_ ?_
            · intro a w' vs hB hel hd
              obtain ⟨f46, r46⟩ := hd 1 (by kernel_rfl)
              have e46 : a.tmps[46]? = some (.bool false) := f46.trans (congrArg some (r46 : vs 1 = (.bool false)))
              refine ⟨_, rfl, rfl, fun K hK => ?_⟩
              refine value_ (w1 := w') (v := .bool false) (by rfl) rfl ?_ (hK _ _ (by exact rfl) (Below.refl _ _))
              · go_simp
                (try simp only [i64_w, bs_list])
                (try rfl)
                (try (unfold Go.RowKit.wrap64; omega))
            refine gsteps_cons ?_ ?_
            · intro a w' vs hB hel hd
              have e5 : a.tmps[5]? = some (.pointer (some ⟨b, 0, none⟩)) := (hel 5 (by kernel_rfl)).trans (by rfl)
              obtain ⟨f47, r47⟩ := hd 2 (by kernel_rfl)
              have e47 : a.tmps[47]? = some (.bool false) := f47.trans (congrArg some (r47 : vs 2 = (.bool false)))
              refine ⟨_, rfl, rfl, fun K hK => ?_⟩
              refine value_ (w1 := w') (v := .pointer (some ⟨b, 0, none⟩)) (wanted_on rfl rfl rfl e47) rfl ?_ (hK _ _ (by exact rfl) (Below.refl _ _))
              · go_simp
                (try simp only [i64_w, bs_list])
                (try rfl)
                (try (unfold Go.RowKit.wrap64; omega))
            refine gsteps_cons ?_ ?_
            · intro a w' vs hB hel hd
              obtain ⟨f48, r48⟩ := hd 3 (by kernel_rfl)
              have e48 : a.tmps[48]? = some (.pointer (some ⟨b, 0, none⟩)) := f48.trans (congrArg some (r48 : vs 3 = (.pointer (some ⟨b, 0, none⟩))))
              obtain ⟨f47, r47⟩ := hd 2 (by kernel_rfl)
              have e47 : a.tmps[47]? = some (.bool false) := f47.trans (congrArg some (r47 : vs 2 = (.bool false)))
              refine ⟨_, rfl, rfl, fun K hK => ?_⟩
              refine goes_ Tryd.func29 (by kernel_rfl) rfl #[.pointer (some ⟨b, 0, none⟩)] (wanted_on rfl rfl rfl e47) rfl rfl (by first | (simp only [List.map_toArray, List.map_cons, List.map_nil, Act.eval, Array.getD_eq_getD_getElem?, Option.getD_some, e48, e47]; done) | (simp only [List.map_toArray, List.map_cons, List.map_nil, Act.eval, Array.getD_eq_getD_getElem?, Option.getD_some, e48, e47]; rfl)) ?_
              refine (m_read (H4.out.dd.below hB)).mono ?_
              rintro e_ w2_ ⟨v_, rfl, hv_, hb2_⟩
              rw [← HBB.out] at hv_
              obtain ⟨A_, c_, rfl, _, hC_⟩ := hv_.reads
              exact ⟨_, rfl, hK _ _ ⟨A_, c_, rfl, hC_⟩ hb2_⟩
            refine gsteps_cons ?_ ?_
            · intro a w' vs hB hel hd
              obtain ⟨f49, r49⟩ := hd 4 (by kernel_rfl)
              obtain ⟨A4_, c4_, hv4_, hC4_⟩ := (r49 : (RRead bl) (vs 4) w')
              have e49 : a.tmps[49]? = some (.slice A4_ bl.length c4_) := f49.trans (congrArg some hv4_)
              obtain ⟨f47, r47⟩ := hd 2 (by kernel_rfl)
              have e47 : a.tmps[47]? = some (.bool false) := f47.trans (congrArg some (r47 : vs 2 = (.bool false)))
              have q1 := conv_string (c := c4_) hC4_
              refine ⟨_, rfl, rfl, fun K hK => ?_⟩
              refine value_ (w1 := w') (v := .string (bs bl)) (wanted_on rfl rfl rfl e47) rfl ?_ (hK _ _ (by exact rfl) (Below.refl _ _))
              · go_simp
                (try simp only [i64_w, bs_list])
                (try rfl)
                (try (unfold Go.RowKit.wrap64; omega))
            refine gsteps_cons ?_ ?_
            · intro a w' vs hB hel hd
              have e6 : a.tmps[6]? = some (.pointer (some ⟨r, 0, none⟩)) := (hel 6 (by kernel_rfl)).trans (by rfl)
              obtain ⟨f47, r47⟩ := hd 2 (by kernel_rfl)
              have e47 : a.tmps[47]? = some (.bool false) := f47.trans (congrArg some (r47 : vs 2 = (.bool false)))
              refine ⟨_, rfl, rfl, fun K hK => ?_⟩
              refine value_ (w1 := w') (v := .pointer (some ⟨r, 0, none⟩)) (wanted_on rfl rfl rfl e47) rfl ?_ (hK _ _ (by exact rfl) (Below.refl _ _))
              · go_simp
                (try simp only [i64_w, bs_list])
                (try rfl)
                (try (unfold Go.RowKit.wrap64; omega))
            refine gsteps_cons ?_ ?_
            · intro a w' vs hB hel hd
              obtain ⟨f51, r51⟩ := hd 6 (by kernel_rfl)
              have e51 : a.tmps[51]? = some (.pointer (some ⟨r, 0, none⟩)) := f51.trans (congrArg some (r51 : vs 6 = (.pointer (some ⟨r, 0, none⟩))))
              obtain ⟨f47, r47⟩ := hd 2 (by kernel_rfl)
              have e47 : a.tmps[47]? = some (.bool false) := f47.trans (congrArg some (r47 : vs 2 = (.bool false)))
              refine ⟨_, rfl, rfl, fun K hK => ?_⟩
              refine value_ (w1 := w') (v := .pointer (some ⟨r, 0, none⟩)) (wanted_on rfl rfl rfl e47) rfl ?_ (hK _ _ (by exact rfl) (Below.refl _ _))
              · go_simp
                (try simp only [i64_w, bs_list])
                (try rfl)
                (try (unfold Go.RowKit.wrap64; omega))
            refine gsteps_cons ?_ ?_
            · intro a w' vs hB hel hd
              obtain ⟨f52, r52⟩ := hd 7 (by kernel_rfl)
              have e52 : a.tmps[52]? = some (.pointer (some ⟨r, 0, none⟩)) := f52.trans (congrArg some (r52 : vs 7 = (.pointer (some ⟨r, 0, none⟩))))
              obtain ⟨f47, r47⟩ := hd 2 (by kernel_rfl)
              have e47 : a.tmps[47]? = some (.bool false) := f47.trans (congrArg some (r47 : vs 2 = (.bool false)))
              refine ⟨_, rfl, rfl, fun K hK => ?_⟩
              refine value_ (w1 := w') (v := .pointer (some ⟨r, 0, none⟩)) (wanted_on rfl rfl rfl e47) rfl ?_ (hK _ _ (by exact rfl) (Below.refl _ _))
              · go_simp
                (try simp only [i64_w, bs_list])
                (try rfl)
                (try (unfold Go.RowKit.wrap64; omega))
            refine gsteps_cons ?_ ?_
            · intro a w' vs hB hel hd
              obtain ⟨f53, r53⟩ := hd 8 (by kernel_rfl)
              have e53 : a.tmps[53]? = some (.pointer (some ⟨r, 0, none⟩)) := f53.trans (congrArg some (r53 : vs 8 = (.pointer (some ⟨r, 0, none⟩))))
              obtain ⟨f47, r47⟩ := hd 2 (by kernel_rfl)
              have e47 : a.tmps[47]? = some (.bool false) := f47.trans (congrArg some (r47 : vs 2 = (.bool false)))
              have q1 := bcell hB hrc
              refine ⟨_, rfl, rfl, fun K hK => ?_⟩
              refine value_ (w1 := w') (v := .slice ao bl.length cap) (wanted_on rfl rfl rfl e47) rfl ?_ (hK _ _ (by exact rfl) (Below.refl _ _))
              · go_simp
                (try simp only [i64_w, bs_list])
                (try rfl)
                (try (unfold Go.RowKit.wrap64; omega))
            refine gsteps_cons ?_ ?_
            · intro a w' vs hB hel hd
              obtain ⟨f54, r54⟩ := hd 9 (by kernel_rfl)
              have e54 : a.tmps[54]? = some (.slice ao bl.length cap) := f54.trans (congrArg some (r54 : vs 9 = (.slice ao bl.length cap)))
              obtain ⟨f47, r47⟩ := hd 2 (by kernel_rfl)
              have e47 : a.tmps[47]? = some (.bool false) := f47.trans (congrArg some (r47 : vs 2 = (.bool false)))
              have q1 := conv_string (c := cap) (Kd.C_below HRd.out hB)
              refine ⟨_, rfl, rfl, fun K hK => ?_⟩
              refine value_ (w1 := w') (v := .string (bs bl)) (wanted_on rfl rfl rfl e47) rfl ?_ (hK _ _ (by exact rfl) (Below.refl _ _))
              · go_simp
                (try simp only [i64_w, bs_list])
                (try rfl)
                (try (unfold Go.RowKit.wrap64; omega))
            refine gsteps_cons ?_ ?_
            · intro a w' vs hB hel hd
              obtain ⟨f50, r50⟩ := hd 5 (by kernel_rfl)
              have e50 : a.tmps[50]? = some (.string (bs bl)) := f50.trans (congrArg some (r50 : vs 5 = (.string (bs bl))))
              obtain ⟨f55, r55⟩ := hd 10 (by kernel_rfl)
              have e55 : a.tmps[55]? = some (.string (bs bl)) := f55.trans (congrArg some (r55 : vs 10 = (.string (bs bl))))
              obtain ⟨f47, r47⟩ := hd 2 (by kernel_rfl)
              have e47 : a.tmps[47]? = some (.bool false) := f47.trans (congrArg some (r47 : vs 2 = (.bool false)))
              refine ⟨_, rfl, rfl, fun K hK => ?_⟩
              refine value_ (w1 := w') (v := .bool false) (wanted_on rfl rfl rfl e47) rfl ?_ (hK _ _ (by exact rfl) (Below.refl _ _))
              · go_simp
                (try simp only [i64_w, bs_list])
                (try rfl)
                (try (unfold Go.RowKit.wrap64; omega))
            refine gsteps_cons ?_ ?_
            · intro a w' vs hB hel hd
              obtain ⟨f47, r47⟩ := hd 2 (by kernel_rfl)
              have e47 : a.tmps[47]? = some (.bool false) := f47.trans (congrArg some (r47 : vs 2 = (.bool false)))
              obtain ⟨f56, r56⟩ := hd 11 (by kernel_rfl)
              have e56 : a.tmps[56]? = some (.bool false) := f56.trans (congrArg some (r56 : vs 11 = (.bool false)))
              refine ⟨_, rfl, rfl, fun K hK => ?_⟩
              refine value_ (w1 := w') (v := .bool false) (by rfl) rfl ?_ (hK _ _ (by exact rfl) (Below.refl _ _))
              · go_simp
                (try simp only [i64_w, bs_list])
                (try rfl)
                (try (unfold Go.RowKit.wrap64; omega))
            refine gsteps_cons ?_ ?_
            · intro a w' vs hB hel hd
              obtain ⟨f57, r57⟩ := hd 12 (by kernel_rfl)
              have e57 : a.tmps[57]? = some (.bool false) := f57.trans (congrArg some (r57 : vs 12 = (.bool false)))
              refine ⟨_, rfl, rfl, fun K hK => ?_⟩
              refine value_ (w1 := w') (v := .bool false) (by rfl) rfl ?_ (hK _ _ (by exact rfl) (Below.refl _ _))
              · go_simp
                (try simp only [i64_w, bs_list])
                (try rfl)
                (try (unfold Go.RowKit.wrap64; omega))
            refine gsteps_cons ?_ ?_
            · intro a w' vs hB hel hd
              have e5 : a.tmps[5]? = some (.pointer (some ⟨b, 0, none⟩)) := (hel 5 (by kernel_rfl)).trans (by rfl)
              obtain ⟨f58, r58⟩ := hd 13 (by kernel_rfl)
              have e58 : a.tmps[58]? = some (.bool false) := f58.trans (congrArg some (r58 : vs 13 = (.bool false)))
              refine ⟨_, rfl, rfl, fun K hK => ?_⟩
              refine value_ (w1 := w') (v := .pointer (some ⟨b, 0, none⟩)) (wanted_on rfl rfl rfl e58) rfl ?_ (hK _ _ (by exact rfl) (Below.refl _ _))
              · go_simp
                (try simp only [i64_w, bs_list])
                (try rfl)
                (try (unfold Go.RowKit.wrap64; omega))
            refine gsteps_cons ?_ ?_
            · intro a w' vs hB hel hd
              obtain ⟨f59, r59⟩ := hd 14 (by kernel_rfl)
              have e59 : a.tmps[59]? = some (.pointer (some ⟨b, 0, none⟩)) := f59.trans (congrArg some (r59 : vs 14 = (.pointer (some ⟨b, 0, none⟩))))
              obtain ⟨f58, r58⟩ := hd 13 (by kernel_rfl)
              have e58 : a.tmps[58]? = some (.bool false) := f58.trans (congrArg some (r58 : vs 13 = (.bool false)))
              refine ⟨_, rfl, rfl, fun K hK => ?_⟩
              refine goes_ Tryd.func32 (by kernel_rfl) rfl #[.pointer (some ⟨b, 0, none⟩)] (wanted_on rfl rfl rfl e58) rfl rfl (by first | (simp only [List.map_toArray, List.map_cons, List.map_nil, Act.eval, Array.getD_eq_getD_getElem?, Option.getD_some, e59, e58]; done) | (simp only [List.map_toArray, List.map_cons, List.map_nil, Act.eval, Array.getD_eq_getD_getElem?, Option.getD_some, e59, e58]; rfl)) ?_
              refine (m_halted_b HZ.out (H4.out.dd.below hB)).mono ?_
              rintro e_ w2_ ⟨rfl, hb2_⟩
              exact ⟨_, rfl, hK _ _ (by exact rfl) hb2_⟩
            refine gsteps_cons ?_ ?_
            · intro a w' vs hB hel hd
              have e6 : a.tmps[6]? = some (.pointer (some ⟨r, 0, none⟩)) := (hel 6 (by kernel_rfl)).trans (by rfl)
              obtain ⟨f58, r58⟩ := hd 13 (by kernel_rfl)
              have e58 : a.tmps[58]? = some (.bool false) := f58.trans (congrArg some (r58 : vs 13 = (.bool false)))
              refine ⟨_, rfl, rfl, fun K hK => ?_⟩
              refine value_ (w1 := w') (v := .pointer (some ⟨r, 0, none⟩)) (wanted_on rfl rfl rfl e58) rfl ?_ (hK _ _ (by exact rfl) (Below.refl _ _))
              · go_simp
                (try simp only [i64_w, bs_list])
                (try rfl)
                (try (unfold Go.RowKit.wrap64; omega))
            refine gsteps_cons ?_ ?_
            · intro a w' vs hB hel hd
              obtain ⟨f61, r61⟩ := hd 16 (by kernel_rfl)
              have e61 : a.tmps[61]? = some (.pointer (some ⟨r, 0, none⟩)) := f61.trans (congrArg some (r61 : vs 16 = (.pointer (some ⟨r, 0, none⟩))))
              obtain ⟨f58, r58⟩ := hd 13 (by kernel_rfl)
              have e58 : a.tmps[58]? = some (.bool false) := f58.trans (congrArg some (r58 : vs 13 = (.bool false)))
              refine ⟨_, rfl, rfl, fun K hK => ?_⟩
              refine goes_ Tryd.func36 (by kernel_rfl) rfl #[.pointer (some ⟨r, 0, none⟩)] (wanted_on rfl rfl rfl e58) rfl rfl (by first | (simp only [List.map_toArray, List.map_cons, List.map_nil, Act.eval, Array.getD_eq_getD_getElem?, Option.getD_some, e61, e58]; done) | (simp only [List.map_toArray, List.map_cons, List.map_nil, Act.eval, Array.getD_eq_getD_getElem?, Option.getD_some, e61, e58]; rfl)) ?_
              refine (r_halted_b HZ.out (H4.out.rk.below hB)).mono ?_
              rintro e_ w2_ ⟨rfl, hb2_⟩
              exact ⟨_, rfl, hK _ _ (by exact rfl) hb2_⟩
            refine gsteps_cons ?_ ?_
            · intro a w' vs hB hel hd
              obtain ⟨f60, r60⟩ := hd 15 (by kernel_rfl)
              have e60 : a.tmps[60]? = some (.bool Z) := f60.trans (congrArg some (r60 : vs 15 = (.bool Z)))
              obtain ⟨f62, r62⟩ := hd 17 (by kernel_rfl)
              have e62 : a.tmps[62]? = some (.bool Z) := f62.trans (congrArg some (r62 : vs 17 = (.bool Z)))
              obtain ⟨f58, r58⟩ := hd 13 (by kernel_rfl)
              have e58 : a.tmps[58]? = some (.bool false) := f58.trans (congrArg some (r58 : vs 13 = (.bool false)))
              refine ⟨_, rfl, rfl, fun K hK => ?_⟩
              refine value_ (w1 := w') (v := .bool false) (wanted_on rfl rfl rfl e58) rfl ?_ (hK _ _ (by exact rfl) (Below.refl _ _))
              · go_simp
                (try simp only [i64_w, bs_list])
                (try rfl)
                (try (unfold Go.RowKit.wrap64; omega))
            refine gsteps_cons ?_ ?_
            · intro a w' vs hB hel hd
              obtain ⟨f58, r58⟩ := hd 13 (by kernel_rfl)
              have e58 : a.tmps[58]? = some (.bool false) := f58.trans (congrArg some (r58 : vs 13 = (.bool false)))
              obtain ⟨f63, r63⟩ := hd 18 (by kernel_rfl)
              have e63 : a.tmps[63]? = some (.bool false) := f63.trans (congrArg some (r63 : vs 18 = (.bool false)))
              refine ⟨_, rfl, rfl, fun K hK => ?_⟩
              refine value_ (w1 := w') (v := .bool false) (by rfl) rfl ?_ (hK _ _ (by exact rfl) (Below.refl _ _))
              · go_simp
                (try simp only [i64_w, bs_list])
                (try rfl)
                (try (unfold Go.RowKit.wrap64; omega))
            exact gsteps_nil
          · intro vs w' hB hR
            have hv0_ : vs 0 = (.bool true) := hR 0 (by kernel_rfl)
            have hv1_ : vs 1 = (.bool false) := hR 1 (by kernel_rfl)
            have hv2_ : vs 2 = (.bool false) := hR 2 (by kernel_rfl)
            have hv3_ : vs 3 = (.pointer (some ⟨b, 0, none⟩)) := hR 3 (by kernel_rfl)
            obtain ⟨A4_, c4_, hv4_, hC4_⟩ := (hR 4 (by kernel_rfl) : (RRead bl) (vs 4) w')
            have hv5_ : vs 5 = (.string (bs bl)) := hR 5 (by kernel_rfl)
            have hv6_ : vs 6 = (.pointer (some ⟨r, 0, none⟩)) := hR 6 (by kernel_rfl)
            have hv7_ : vs 7 = (.pointer (some ⟨r, 0, none⟩)) := hR 7 (by kernel_rfl)
            have hv8_ : vs 8 = (.pointer (some ⟨r, 0, none⟩)) := hR 8 (by kernel_rfl)
            have hv9_ : vs 9 = (.slice ao bl.length cap) := hR 9 (by kernel_rfl)
            have hv10_ : vs 10 = (.string (bs bl)) := hR 10 (by kernel_rfl)
            have hv11_ : vs 11 = (.bool false) := hR 11 (by kernel_rfl)
            have hv12_ : vs 12 = (.bool false) := hR 12 (by kernel_rfl)
            have hv13_ : vs 13 = (.bool false) := hR 13 (by kernel_rfl)
            have hv14_ : vs 14 = (.pointer (some ⟨b, 0, none⟩)) := hR 14 (by kernel_rfl)
            have hv15_ : vs 15 = (.bool Z) := hR 15 (by kernel_rfl)
            have hv16_ : vs 16 = (.pointer (some ⟨r, 0, none⟩)) := hR 16 (by kernel_rfl)
            have hv17_ : vs 17 = (.bool Z) := hR 17 (by kernel_rfl)
            have hv18_ : vs 18 = (.bool false) := hR 18 (by kernel_rfl)
            have hv19_ : vs 19 = (.bool false) := hR 19 (by kernel_rfl)
            rw [show entries [45, 46, 47, 48, 49, 50, 51, 52, 53, 54, 55, 56, 57, 58, 59, 60, 61, 62, 63, 64] vs = [(0, 45, vs 0), (1, 46, vs 1), (2, 47, vs 2), (3, 48, vs 3), (4, 49, vs 4), (5, 50, vs 5), (6, 51, vs 6), (7, 52, vs 7), (8, 53, vs 8), (9, 54, vs 9), (10, 55, vs 10), (11, 56, vs 11), (12, 57, vs 12), (13, 58, vs 13), (14, 59, vs 14), (15, 60, vs 15), (16, 61, vs 16), (17, 62, vs 17), (18, 63, vs 18), (19, 64, vs 19)] from rfl]
            simp only [putSel, if_true, Act.put, List.setIfInBounds_toArray, List.set_cons_zero, List.set_cons_succ, hv0_, hv1_, hv2_, hv3_, hv4_, hv5_, hv6_, hv7_, hv8_, hv9_, hv10_, hv11_, hv12_, hv13_, hv14_, hv15_, hv16_, hv17_, hv18_, hv19_]
            clear hR hv0_ hv1_ hv2_ hv3_ hv5_ hv6_ hv7_ hv8_ hv9_ hv10_ hv11_ hv12_ hv13_ hv14_ hv15_ hv16_ hv17_ hv18_ hv19_
            go_wp2
            go_roundw
            case rel => exact ⟨k + 1, by omega, by go_num, row4, rr4, d4, H4.out.below hB⟩
            case measure => simp [intOf]; omega
        · go_wp2
          go_ret
          exact ⟨rfl, HT.out.bel⟩
  · clear hhvB
    go_enter Tryd.func7, Tryd.ntmps7
    go_wp2_with fail
    refine hhe.mono ?_
    rintro e w' ⟨rfl, rfl⟩
    clear hhe
    go_wp2_with fail
    refine (known10 _).mono ?_
    rintro e w1 ⟨rfl, hb1⟩
    have HB1 := Aside0.mk hb1
    clear hb1
    go_wp2
    go_ret
    exact ⟨rfl, HB1.out⟩
end Go.Proofs.YtbbhjceelghadaaDoor.K
end
