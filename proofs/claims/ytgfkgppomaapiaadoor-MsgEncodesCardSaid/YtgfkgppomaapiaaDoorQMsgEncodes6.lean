/- Parts of the proof, one behind the other: RefP, RefN, RefE, Came, CameR, K2, K3, LawE, LawF. -/
import Derived.Test.YtgfkgppomaapiaaDoorQMsgEncodes5
import Derived.Deep.Slices
import Derived.ChangeSame
set_option linter.unusedVariables false
set_option linter.unusedSimpArgs false
section
namespace Go.Proofs.YtgfkgppomaapiaaDoor.K
open RowKit YtgfkgppomaapiaaDoorW.PrintWords YtgfkgppomaapiaaDoorW.PrintLast YtgfkgppomaapiaaDoorW.PrintMore My
theorem wrap_u64 (x : Int) : IntKind.u64.wrap x = x % 18446744073709551616 := by rfl
theorem UM (x : Int) (m : Nat) (hm : m < 8) : (shr .u64 (IntKind.u64.wrap x) (8 * (m : Int))) % 256 = (x / 256 ^ m) % 256 := by
  rw [wrap_u64]
  have h : m = 0 ∨ m = 1 ∨ m = 2 ∨ m = 3 ∨ m = 4 ∨ m = 5 ∨ m = 6 ∨ m = 7 := by omega
  unfold shr
  rw [show IntKind.u64.bits = 64 from rfl]
  rcases h with rfl | rfl | rfl | rfl | rfl | rfl | rfl | rfl <;> simp <;> omega
theorem nums_append (l m : List UInt8) : nums (l ++ m) = nums l ++ nums m := List.map_append ..
theorem QA (b : UInt8) (l : List UInt8) : nums (b :: l) = (b.toNat : Int) :: nums l := rfl
theorem XQ (v : Int) : ((UInt8.ofNat (v % 256).toNat).toNat : Int) = v % 256 := by
  rw [UInt8.toNat_ofNat']
  omega
theorem Q7 (x : Int) : ∀ (n : Nat) (l : List Int), n ≤ 8 → l.length + n ≤ 140737488355328 → Ev (fun k => stratumref07_Put.l0 k l (IntKind.u64.wrap x) ((n : Int) - 1)) (l ++ nums (layB x n))
  | 0, l, _, _ => by
    refine Ev.step (f := fun _ => some l) (fun k => by simp only [stratumref07_Put.l0]; rw [if_neg (by omega)]) ?_
    simp only [layB, nums, List.map_nil, List.append_nil]
    exact Ev.now _
  | n + 1, l, hn, hl => by
    have e1 : ((n + 1 : Nat) : Int) - 1 = n := by omega
    have e2 : IntKind.u64.wrap ((n : Nat) : Int) = n := by rw [wrap_u64]; omega
    have e3 : IntKind.u64.wrap (8 * (n : Int)) = 8 * n := by rw [wrap_u64]; omega
    have e4 : wrap64 ((n : Int) - 1) = n - 1 := by unfold wrap64; omega
    rw [e1, layB, QA, XQ]
    refine Ev.step (f := fun k => stratumref07_Put.l0 k (l ++ [x / 256 ^ n % 256]) (IntKind.u64.wrap x) ((n : Int) - 1)) (fun k => by simp only [stratumref07_Put.l0]; rw [if_pos (by omega), e2, e3, if_pos (by omega), if_pos (by omega), UM x n (by omega), e4]) ?_
    have := Q7 x n (l ++ [x / 256 ^ n % 256]) (by omega) (by rw [List.length_append]; simp only [List.length_cons, List.length_nil]; omega)
    rw [List.append_assoc] at this
    exact this
theorem xH (x : Int) (n : Nat) (l : List Int) (hn : n ≤ 8) (hl : l.length + n ≤ 140737488355328) : Ev (fun k => stratumref07_Put.f k l (IntKind.u64.wrap x) (n : Int)) (l ++ nums (layB x n)) := by
  unfold stratumref07_Put.f
  rw [show wrap64 ((n : Int) - 1) = n - 1 from by unfold wrap64; omega]
  exact Q7 x n l hn hl
theorem ND (l1 : List Int) (hn : l1.length ≤ 9223372036854775807) (d : Nat) : ∀ (i : Int) (l : List Int), 0 ≤ i → i ≤ l1.length → (l1.length : Int) - i = d → l.length + d ≤ 140737488355328 → Ev (fun k => stratumref07_Nodes.l0 k l l1 i) (l ++ nums ((l1.drop i.toNat).flatMap (layB · 1))) := by
  induction d with
  | zero =>
    intro i l h0 h1 hd hl
    rw [drop_end _ i (by omega)]
    refine Ev.step (f := fun _ => some l) (fun k => by simp only [stratumref07_Nodes.l0]; rw [if_neg (by omega)]) ?_
    simp only [List.flatMap_nil, nums, List.map_nil, List.append_nil]
    exact Ev.now _
  | succ d ih =>
    intro i l h0 h1 hd hl
    have hlt : i < (l1.length : Int) := by omega
    rw [qM 0 l1 i (by omega) h0, List.flatMap_cons, nums_append, ← List.append_assoc]
    refine Ev.step (f := fun k => (stratumref07_Put.f k l (IntKind.u64.wrap (rd l1 i)) 1).bind fun t => stratumref07_Nodes.l0 k t l1 (i + 1)) (fun k => by simp only [stratumref07_Nodes.l0]; rw [if_pos hlt, if_pos h0, nM h0 hlt hn]) ?_
    exact Ev.bind (xH (rd l1 i) 1 l (by omega) (by omega)) (ih (i + 1) _ (by omega) (by omega) (by omega) (by rw [List.length_append, jH, iP]; omega))
theorem QK (l1 : List Int) (l : List Int) (hl : l.length + (lY l1).length ≤ 140737488355328) : Ev (fun k => stratumref07_Nodes.f k l l1) (l ++ nums (lY l1)) := by
  have hlen : (lY l1).length = 1 + l1.length := by
    unfold lY
    rw [List.length_append, iP]
    congr 1
    induction l1 with
    | nil => rfl
    | cons x l ih => rw [List.flatMap_cons, List.length_append, iP, List.length_cons]; have := ih (by rw [show (lY l).length = 1 + (l.flatMap (layB · 1)).length from by unfold lY; rw [List.length_append, iP]]; rw [show (lY (x :: l)).length = 1 + (1 + (l.flatMap (layB · 1)).length) from by unfold lY; rw [List.length_append, iP, List.flatMap_cons, List.length_append, iP]] at hl; omega); omega
  unfold lY
  rw [nums_append, ← List.append_assoc]
  exact Ev.bind (xH (l1.length : Int) 1 l (by omega) (by omega)) (ND l1 (by omega) l1.length 0 _ (by omega) (by omega) (by omega) (by rw [List.length_append, jH, iP]; omega))
theorem TY (l1 : List jO) (i : Int) (h0 : 0 ≤ i) (hlt : i < l1.length) (hn : l1.length ≤ 9223372036854775807) (hk : (iQ l1 i).f0.length ≤ 9223372036854775807) (R : List Int)
    (m : Nat) (hR : ∀ l : List Int, l.length + m ≤ 140737488355328 → Ev (fun k => stratumref07_Facts.l0 k l l1 (i + 1)) (l ++ R)) (d : Nat) : ∀ (j : Int) (l : List Int), 0 ≤ j → j ≤ (iQ l1 i).f0.length → ((iQ l1 i).f0.length : Int) - j = d → l.length + 4 * d + 8 + m ≤ 140737488355328 →
    Ev (fun k => stratumref07_Facts.l1 k l l1 i j) (l ++ nums (((iQ l1 i).f0.drop j.toNat).flatMap (layB · 4)) ++ nums (layB (iQ l1 i).f1 8) ++ R) := by
  induction d with
  | zero =>
    intro j l g0 g1 hd hl
    rw [drop_end _ j (by omega)]
    refine Ev.step (f := fun k => (stratumref07_Put.f k l (IntKind.u64.wrap (iQ l1 i).f1) 8).bind fun t => stratumref07_Facts.l0 k t l1 (i + 1)) (fun k => by simp only [stratumref07_Facts.l1]; rw [if_pos h0, if_pos hlt, if_neg (by omega), nM h0 hlt hn]) ?_
    simp only [List.flatMap_nil, nums, List.map_nil, List.append_nil]
    exact Ev.bind (xH _ 8 l (by omega) (by omega)) (hR _ (by rw [List.length_append, jH, iP]; omega))
  | succ d ih =>
    intro j l g0 g1 hd hl
    have hj : j < ((iQ l1 i).f0.length : Int) := by omega
    rw [qM 0 _ j (by omega) g0, List.flatMap_cons, nums_append, ← List.append_assoc l]
    refine Ev.step (f := fun k => (stratumref07_Put.f k l (IntKind.u64.wrap (rd (iQ l1 i).f0 j)) 4).bind fun t => stratumref07_Facts.l1 k t l1 i (j + 1)) (fun k => by simp only [stratumref07_Facts.l1]; rw [if_pos h0, if_pos hlt, if_pos hj, if_pos g0, nM g0 hj hk]) ?_
    exact Ev.bind (xH _ 4 l (by omega) (by omega)) (ih (j + 1) _ (by omega) (by omega) (by omega) (by rw [List.length_append, jH, iP]; omega))
theorem O0 (l1 : List jO) (hn : l1.length ≤ 9223372036854775807) (hk : ∀ f ∈ l1, f.f0.length ≤ 9223372036854775807) (d : Nat) : ∀ (i : Int) (l : List Int), 0 ≤ i → i ≤ l1.length → (l1.length : Int) - i = d → l.length + ((l1.drop i.toNat).flatMap nN).length ≤ 140737488355328 →
    Ev (fun k => stratumref07_Facts.l0 k l l1 i) (l ++ nums ((l1.drop i.toNat).flatMap nN)) := by
  induction d with
  | zero =>
    intro i l h0 h1 hd hl
    rw [drop_end _ i (by omega)]
    refine Ev.step (f := fun _ => some l) (fun k => by simp only [stratumref07_Facts.l0]; rw [if_neg (by omega)]) ?_
    simp only [List.flatMap_nil, nums, List.map_nil, List.append_nil]
    exact Ev.now _
  | succ d ih =>
    intro i l h0 h1 hd hl
    have hlt : i < (l1.length : Int) := by omega
    have hm : iQ l1 i ∈ l1 := by
      unfold iQ
      rw [List.getD_eq_getElem?_getD, List.getElem?_eq_getElem (show i.toNat < l1.length by omega)]
      exact List.getElem_mem _
    rw [qM z139 l1 i (by omega) h0, List.flatMap_cons, show l1.getD i.toNat z139 = iQ l1 i from rfl] at hl ⊢
    rw [List.length_append, xA] at hl
    rw [nums_append]
    refine Ev.step (f := fun k => (stratumref07_Put.f k l (IntKind.u64.wrap ((iQ l1 i).f0.length : Int)) 1).bind fun t => stratumref07_Facts.l1 k t l1 i 0) (fun k => by simp only [stratumref07_Facts.l0]; rw [if_pos hlt, if_pos h0]) ?_
    have hr := TY l1 i h0 hlt hn (hk _ hm) (nums ((l1.drop (i + 1).toNat).flatMap nN)) ((l1.drop (i + 1).toNat).flatMap nN).length (fun t ht => ih (i + 1) t (by omega) (by omega) (by omega) ht) (iQ l1 i).f0.length 0 (l ++ nums (layB ((iQ l1 i).f0.length : Int) 1)) (by omega) (by omega) (by omega) (by rw [List.length_append, jH, iP]; omega)
    have e : l ++ (nums (nN (iQ l1 i)) ++ nums ((l1.drop (i + 1).toNat).flatMap nN)) = l ++ nums (layB ((iQ l1 i).f0.length : Int) 1) ++ nums (((iQ l1 i).f0.drop (0 : Int).toNat).flatMap (layB · 4)) ++ nums (layB (iQ l1 i).f1 8) ++ nums ((l1.drop (i + 1).toNat).flatMap nN) := by
      unfold nN
      rw [nums_append, nums_append]
      simp only [List.append_assoc]
      rfl
    rw [e]
    exact Ev.bind (xH _ 1 l (by omega) (by omega)) hr
theorem QP (l1 : List jO) : (kZ l1).length = 4 + (l1.flatMap nN).length := by unfold kZ; rw [List.length_append, iP]
theorem WT (l1 : List jO) : 9 * l1.length ≤ (l1.flatMap nN).length ∧ ∀ f ∈ l1, 4 * f.f0.length ≤ (l1.flatMap nN).length := by
  induction l1 with
  | nil => exact ⟨by simp, fun f h => by cases h⟩
  | cons x l ih =>
    rw [List.flatMap_cons, List.length_append, xA, List.length_cons]
    refine ⟨by omega, fun f hf => ?_⟩
    rcases List.mem_cons.1 hf with rfl | hf
    · omega
    · have := ih.2 f hf; omega
theorem PV (l1 : List jO) (l : List Int) (hl : l.length + (kZ l1).length ≤ 140737488355328) : Ev (fun k => stratumref07_Facts.f k l l1) (l ++ nums (kZ l1)) := by
  rw [QP] at hl
  have hg := WT l1
  unfold kZ
  rw [nums_append, ← List.append_assoc]
  exact Ev.bind (xH (l1.length : Int) 4 l (by omega) (by omega)) (O0 l1 (by omega) (fun f hf => by have := hg.2 f hf; omega) l1.length 0 _ (by omega) (by omega) (by omega) (by rw [List.length_append, jH, iP]; show _ + (l1.flatMap nN).length ≤ _; omega))
end Go.Proofs.YtgfkgppomaapiaaDoor.K
end

section
namespace Go.Proofs.YtgfkgppomaapiaaDoor.K
open RowKit YtgfkgppomaapiaaDoorW.PrintWords YtgfkgppomaapiaaDoorW.PrintLast YtgfkgppomaapiaaDoorW.PrintMore My
def I8 (P0 : Nat → Prop) (r : List Int) (w0 w : World) (e : Ending) (w' : World) : Prop :=
  ∃ v' : Value, e = .returned v' ∧ Kd.R (Kd.int .u8) 5 w' w0.heap.size (fun k => P0 k ∨ w.heap.size ≤ k) v' r ∧ Below w0.heap.size w0 w' ∧ Kept w w' P0
theorem kV (P0 : Nat → Prop) (v : Value) (l : List Int) (x X : Int) (n : Nat) (nI : Int) (w0 w : World) (hX : X = IntKind.u64.wrap x) (hI : nI = n) (hn : n ≤ 8) (hl : l.length + n ≤ 140737488355328) (hB : Below w0.heap.size w0 w) (ho : Kd.R (Kd.int .u8) 5 w w0.heap.size P0 v l) :
    Calls Tryd.prog 57 #[v, .int .u64 X, .int .i64 nI] w (I8 P0 (l ++ nums (layB x n)) w0 w) := by
  subst hI; subst hX
  obtain ⟨k, hk⟩ := (xH x n l hn hl).rounds
  exact stratumref07_Put.calls k P0 v l _ _ _ w0 w hB ho hk
theorem yY (P0 : Nat → Prop) (v : Value) (l : List Int) (A1 : Option Addr) (c1 : Nat) (l1 : List Int) (w0 w : World) (hl : l.length + (lY l1).length ≤ 140737488355328) (hB : Below w0.heap.size w0 w) (ho : Kd.R (Kd.int .u8) 5 w w0.heap.size P0 v l) (hr1 : ∀ W_, Kept w W_ (fun k_ => P0 k_) → Kd.C (Kd.int .i64) W_ A1 l1.length l1) (hc1 : l1.length ≤ c1) :
    Calls Tryd.prog 58 #[v, .slice A1 l1.length c1] w (I8 P0 (l ++ nums (lY l1)) w0 w) := by
  obtain ⟨k, hk⟩ := (QK l1 l hl).rounds
  exact stratumref07_Nodes.calls k P0 v l A1 c1 l1 _ w0 w hB ho hr1 hc1 hk
theorem zG (P0 : Nat → Prop) (v : Value) (l : List Int) (A1 : Option Addr) (c1 : Nat) (l1 : List jO) (w0 w : World) (hl : l.length + (kZ l1).length ≤ 140737488355328) (hB : Below w0.heap.size w0 w) (ho : Kd.R (Kd.int .u8) 5 w w0.heap.size P0 v l) (hr1 : ∀ W_, Kept w W_ (fun k_ => P0 k_) → Kd.C k139 W_ A1 l1.length l1) (hc1 : l1.length ≤ c1) :
    Calls Tryd.prog 59 #[v, .slice A1 l1.length c1] w (I8 P0 (l ++ nums (kZ l1)) w0 w) := by
  obtain ⟨k, hk⟩ := (PV l1 l hl).rounds
  exact stratumref07_Facts.calls k P0 v l A1 c1 l1 _ w0 w hB ho hr1 hc1 hk
theorem zS (l : List jJ) (k : Nat) (h : k < l.length) : (l.take (k + 1)).flatMap lM = (l.take k).flatMap lM ++ (layB (iR l k).f0 4 ++ kZ (iR l k).f1) := by
  rw [lW z86 l k h, List.flatMap_append]
  congr 1
  simp only [List.flatMap_cons, List.flatMap_nil, List.append_nil]
  rfl
theorem QF (l : List jJ) (k : Nat) (h : k < l.length) : ((l.take k).flatMap lM).length + 4 + (kZ (iR l k).f1).length ≤ (l.flatMap lM).length := by
  have e : l = l.take (k + 1) ++ l.drop (k + 1) := (List.take_append_drop _ _).symm
  conv => rhs; rw [e]
  rw [List.flatMap_append, zS l k h]
  simp only [List.length_append, iP]
  omega
theorem vM (l : List jJ) : (kN l).length = 4 + (l.flatMap lM).length := by unfold kN; rw [List.length_append, iP]
theorem LM (l : List jJ) : l.length ≤ (kN l).length := by
  rw [vM]
  induction l with
  | nil => simp
  | cons e l ih =>
    rw [List.flatMap_cons, List.length_append, List.length_cons]
    have : 4 ≤ (lM e).length := by unfold lM; rw [List.length_append, iP]; omega
    omega
set_option maxRecDepth 20000 in
set_option maxHeartbeats 4000000 in
theorem JC (P0 : Nat → Prop) (v : Value) (l0 : List Int) (A1 : Option Addr) (c1 : Nat) (l1 : List jJ) (w0 w : World) (hl : l0.length + (kN l1).length ≤ 140737488355328) (hB : Below w0.heap.size w0 w) (ho : Kd.R (Kd.int .u8) 5 w w0.heap.size P0 v l0) (hP : ∀ k, P0 k → w0.heap.size ≤ k) (hr1 : Kd.C k86 w0 A1 l1.length l1) (hc1 : l1.length ≤ c1) :
    Calls Tryd.prog 60 #[v, .slice A1 l1.length c1] w (I8 P0 (l0 ++ nums (kN l1)) w0 w) := by
  have HO := iC.mk (show Kd.R (Kd.int .u8) 5 w w0.heap.size (fun k => P0 k ∨ w.heap.size ≤ k) v l0 from Kd.R_mono ho (fun _ h => .inl h))
  have HR := iC.mk hr1
  have HP := iC.mk (show ∀ k, (P0 k ∨ w.heap.size ≤ k) → w0.heap.size ≤ k from fun k h => h.elim (hP k) (Nat.le_trans hB.size))
  have HB := iC.mk hB
  have HL := iC.mk hl
  have HK := iC.mk (Kept.refl w P0)
  have hge := LM l1
  have hmax : l1.length ≤ 140737488355328 := by omega
  rw [vM] at hl
  clear hr1 hB ho hge hP
  obtain ⟨Ao, co, rfl⟩ := Kd.R_slice HO.out
  go_enter Tryd.func60, Tryd.ntmps60
  go_wp2_with fail
  refine (kV _ _ l0 (l1.length : Int) _ 4 4 w0 _ (by rw [wrap_u64]; omega) rfl (by omega) (by omega) HB.out HO.out).mono ?_
  rintro e w1 ⟨v1, rfl, ho1, hb1, hk1⟩
  have HO1 := iC.mk (Kd.R_mono (ok' := fun k => P0 k ∨ w.heap.size ≤ k) ho1 (fun k h => h.elim id .inr))
  have HB1 := iC.mk hb1
  have HK1 := iC.mk (HK.out.then_ hk1 (fun _ h => h))
  clear ho1 hb1 hk1
  go_wp2_with fail
  go_loopg [0, 5] l1.length (fun gg s0 s5 wr => ∃ k : Nat, k ≤ l1.length ∧ l1.length - k ≤ gg ∧ s5 = .int .i64 k ∧ iC (Kd.R (Kd.int .u8) 5 wr w0.heap.size (fun k => P0 k ∨ w.heap.size ≤ k) s0 (l0 ++ nums (layB (l1.length : Int) 4) ++ nums ((l1.take k).flatMap lM))) ∧ iC (Below w0.heap.size w0 wr) ∧ iC (Kept w wr P0))
  case atStart => exact ⟨0, Nat.zero_le _, by omega, rfl, ⟨by simpa [nums] using HO1.out⟩, HB1, HK1⟩
  case round =>
    clear HO1 HB1 HK1 HO HB HK
    obtain ⟨k, hk, hg, rfl, HO, HB, HK⟩ := hrel
    obtain ⟨Ao, co, rfl⟩ := Kd.R_slice HO.out
    by_cases hlt : k < l1.length
    · have hln := QF l1 k hlt
      have HT := iC.mk (zS l1 k hlt)
      obtain ⟨L, hL⟩ : ∃ L, L = l0 ++ nums (layB (l1.length : Int) 4) ++ nums ((l1.take k).flatMap lM) := ⟨_, rfl⟩
      have hLl : L.length + 4 + (kZ (iR l1 k).f1).length ≤ 140737488355328 := by rw [hL]; simp only [List.length_append, jH, iP]; omega
      rw [← hL] at HO ⊢
      have HLq := iC.mk hL
      clear hL hln
      obtain ⟨ad, A', c', eA, gx0, gx1, hl', hC'⟩ := kT HR.out k (by omega) (by omega)
      cases eA
      simp only [Int.toNat_natCast] at gx0 gx1
      have hx0 := kC HB.out gx0
      have hx1 := kC HB.out gx1
      have HC' := iC.mk hC'
      have HG := iC.mk (And.intro gx0 gx1)
      clear hC' gx0 gx1
      have hcall := kV (fun k => P0 k ∨ w.heap.size ≤ k) (.slice Ao L.length co) L (iR l1 k).f0 (IntKind.u64.wrap (iR l1 k).f0) 4 4 w0 wr rfl rfl (by omega) (by omega) HB.out HO.out
      go_wp2_with fail
      go_at_call 57
      (with_reducible refine hcall.mono ?_)
      clear hcall
      rintro e w2 ⟨v2, rfl, ho2, hb2, hk2⟩
      have HO2 := iC.mk (Kd.R_mono (ok' := fun k => P0 k ∨ w.heap.size ≤ k) ho2 (fun k h => h.elim id (fun h => .inr (Nat.le_trans HK.out.1 h))))
      have HB2 := iC.mk hb2
      have HK2 := iC.mk (HK.out.then_ hk2 (fun _ h => h))
      clear ho2 hb2 hk2 hx0 hx1
      have hx0 := kC HB2.out HG.out.1
      have hx1 := kC HB2.out HG.out.2
      obtain ⟨Ao2, co2, rfl⟩ := Kd.R_slice HO2.out
      have hlen2 : (L ++ nums (layB (iR l1 k).f0 4)).length + (kZ (iR l1 k).f1).length ≤ 140737488355328 := by rw [List.length_append, jH, iP]; omega
      have HE := iC.mk (show (L ++ nums (layB (iR l1 k).f0 4)) ++ nums (kZ (iR l1 k).f1) = l0 ++ nums (layB (l1.length : Int) 4) ++ nums ((l1.take (k + 1)).flatMap lM) from by rw [HT.out, HLq.out, nums_append, nums_append]; simp only [List.append_assoc])
      generalize (L ++ nums (layB (iR l1 k).f0 4)) = L2 at *
      have hcall := zG (fun k => P0 k ∨ w.heap.size ≤ k) (.slice Ao2 L2.length co2) L2 A' c' (iR l1 k).f1 w0 w2 hlen2 HB2.out HO2.out (Kd.C_kept_came JB HC'.out HB2.out HP.out) hl'
      go_wp2_with fail
      go_at_call 59
      (with_reducible refine hcall.mono ?_)
      clear hcall
      rintro e w3 ⟨v3, rfl, ho3, hb3, hk3⟩
      have HO3 := iC.mk (Kd.R_mono (ok' := fun k => P0 k ∨ w.heap.size ≤ k) ho3 (fun k h => h.elim id (fun h => .inr (Nat.le_trans HK2.out.1 h))))
      have HB3 := iC.mk hb3
      have HK3 := iC.mk (HK2.out.then_ hk3 (fun _ h => h))
      clear ho3 hb3 hk3 hx0 hx1
      go_wp2_with fail
      go_roundg (l1.length - (k + 1))
      case measure => omega
      case rel => exact ⟨k + 1, by omega, by omega, by go_num, ⟨by rw [← HE.out]; exact HO3.out⟩, HB3, HK3⟩
    · have : k = l1.length := by omega
      subst this
      have HE := iC.mk (show l0 ++ nums (layB (l1.length : Int) 4) ++ nums ((l1.take l1.length).flatMap lM) = l0 ++ nums (kN l1) from by rw [List.take_length, List.append_assoc, ← nums_append]; rfl)
      go_wp2
      go_ret
      exact ⟨_, rfl, by rw [← HE.out]; exact HO.out, HB.out, HK.out⟩
def stratumref07_Entries.f (l0 : List Int) (l1 : List jJ) : Option (List Int) := if l0 = [] ∧ (kN l1).length ≤ 140737488355328 then some (nums (kN l1)) else none
end Go.Proofs.YtgfkgppomaapiaaDoor.K
end

section
namespace Go.Proofs.YtgfkgppomaapiaaDoor.K
open RowKit YtgfkgppomaapiaaDoorW.PrintWords YtgfkgppomaapiaaDoorW.PrintLast YtgfkgppomaapiaaDoorW.PrintMore My
theorem kR {w1 w2 : World} {B : Nat} {o : Obj} (hk : Kept w1 w2 (fun k => B < k)) (hx : w1.heap[B]? = some o) : w2.heap[B]? = some o := (hk.2 B (jR hx) (Nat.lt_irrefl B)).trans hx
theorem IR (w : World) (base : Nat) (x : Int) (B : Nat) (hb : base ≤ w.heap.size) (hB : B < w.heap.size) : Kd.R (Kd.int .u8) 5 (w.alloc (.cells #[.int .u8 x] 5)) base (fun k => B < k) (.slice (some ⟨w.heap.size, 0, none⟩) 1 1) [x] := by
  refine Kd.R_of_own (enc := Value.int .u8) (h1 := fun _ => rfl) ⟨rfl, .inr ⟨w.heap.size, 1, #[.int .u8 x], rfl, hb, iV rfl, Nat.le_refl _, by unfold maxLen; omega, rfl, rfl⟩⟩ ?_
  intro k hk
  have : w.heap.size = k := by simpa [Value.ownBlock] using hk
  omega
def nU (w : World) (r : List Int × Int) (e : Ending) (w' : World) : Prop := ∃ v0_ : Value, e = .returned (.tuple #[v0_, .int .i64 r.2]) ∧ Kd.R (Kd.int .u8) 5 w' w.heap.size (fun _ => True) v0_ r.1 ∧ Below w.heap.size w w'
theorem oK {w : World} {A4 A9 : Option Addr} {l3 : List Int} {l4 : List jO} {l6 : List kD} {l9 : List jJ} {A3 A6 : Option Addr} (h3 : Kd.C (Kd.int .i64) w A3 l3.length l3) (h4 : Kd.C k139 w A4 l4.length l4) (h6 : Kd.C k98 w A6 l6.length l6) (h9 : Kd.C k86 w A9 l9.length l9) : QW l3 l4 l6 l9 := by
  have key : ∀ {A : Option Addr} {l : List jO}, Kd.C k139 w A l.length l → ∀ f ∈ l, f.f0.length ≤ 9223372036854775807 := by
    intro A l h f hf
    obtain ⟨i, hi, rfl⟩ := List.getElem_of_mem hf
    obtain ⟨_, _, _, _, _, _, _, hC⟩ := kK h i (by omega) (by omega)
    have e : iQ l i = l[i] := by unfold iQ; rw [Int.toNat_natCast, List.getD_eq_getElem?_getD, List.getElem?_eq_getElem hi]; rfl
    rw [e] at hC
    exact lC hC
  refine ⟨lC h3, lC h4, key h4, lC h6, lC h9, fun e he => ?_⟩
  obtain ⟨i, hi, rfl⟩ := List.getElem_of_mem he
  obtain ⟨_, _, _, _, _, _, _, hC⟩ := kT h9 i (by omega) (by omega)
  have e : iR l9 i = l9[i] := by unfold iR; rw [Int.toNat_natCast, List.getD_eq_getElem?_getD, List.getElem?_eq_getElem hi]; rfl
  rw [e] at hC
  exact ⟨lC hC, key hC⟩
section
variable (a1 a2 : Int) (A3 : Option Addr) (c3 : Nat) (l3 : List Int) (A4 : Option Addr) (c4 : Nat) (l4 : List jO) (a5 : Int) (A6 : Option Addr) (c6 : Nat) (l6 : List kD) (a7 a8 : Int) (A9 : Option Addr) (c9 : Nat) (l9 : List jJ) (w : World)
    (h3 : Kd.C (Kd.int .i64) w A3 l3.length l3) (d3 : l3.length ≤ c3) (h4 : Kd.C k139 w A4 l4.length l4) (d4 : l4.length ≤ c4) (h6 : Kd.C k98 w A6 l6.length l6) (d6 : l6.length ≤ c6) (h9 : Kd.C k86 w A9 l9.length l9) (d9 : l9.length ≤ c9)
include h3 d3 h4 d4 h6 d6 h9 d9
set_option maxHeartbeats 8000000 in
set_option maxRecDepth 20000 in
theorem RG (hs : jM ⟨1, a1, a2, l3, l4, ⟨a5, l6⟩, a7, a8, l9⟩ = true) : Calls Tryd.prog 18 #[.agg #[.int .u8 1, .int .u32 a1, .int .u32 a2, .slice A3 l3.length c3, .slice A4 l4.length c4, .int .u32 a5, .slice A6 l6.length c6, .int .i64 a7, .int .i64 a8, .slice A9 l9.length c9]] w (nU w (encR ⟨1, a1, a2, l3, l4, ⟨a5, l6⟩, a7, a8, l9⟩)) := by
  obtain ⟨kk, hsk⟩ := (oH 1 a1 a2 l3 l4 a5 l6 a7 a8 l9 (oK h3 h4 h6 h9)).rounds
  rw [hs] at hsk
  have H3 := iC.mk h3; have H4 := iC.mk h4; have H6 := iC.mk h6; have H9 := iC.mk h9
  have hbw : Below w.heap.size w (w.alloc (.cells #[.int .u8 1, .int .u32 a1, .int .u32 a2, .slice A3 l3.length c3, .slice A4 l4.length c4, .int .u32 a5, .slice A6 l6.length c6, .int .i64 a7, .int .i64 a8, .slice A9 l9.length c9] 30)) := iF (Below.refl _ _) _
  have hsnd := stratumref07_Sound.calls kk 1 a1 a2 A3 c3 l3 A4 c4 l4 a5 A6 c6 l6 a7 a8 A9 c9 l9 true (w.alloc (.cells #[.int .u8 1, .int .u32 a1, .int .u32 a2, .slice A3 l3.length c3, .slice A4 l4.length c4, .int .u32 a5, .slice A6 l6.length c6, .int .i64 a7, .int .i64 a8, .slice A9 l9.length c9] 30)) (Kd.C_below h3 hbw) d3 (Kd.C_below h4 hbw) d4 (Kd.C_below h6 hbw) d6 (Kd.C_below h9 hbw) d9 hsk
  have HS := iC.mk hs
  have q3 : l3.length ≤ 6 ∧ (kZ l4).length ≤ 5004 := by
    have h := HS.out
    rw [PR, Bool.and_eq_true, Bool.and_eq_true] at h
    exact ⟨uK _ h.1.1, yL _ h.1.2⟩
  unfold encR
  rw [if_pos HS.out]
  obtain ⟨X, hX⟩ : ∃ X : List UInt8, X = recE ⟨1, a1, a2, l3, l4, ⟨a5, l6⟩, a7, a8, l9⟩ := ⟨_, rfl⟩
  rw [← hX]
  have HXX := iC.mk hX
  obtain ⟨r, hr⟩ : ∃ r : List Int × Int, r = (if 60000 < X.length then ([], 3) else (nums X, 0)) := ⟨_, rfl⟩
  rw [← hr]
  have HRR := iC.mk hr
  clear hr hs hX hsk hbw h3 h4 h6 h9
  go_enter Tryd.func18, Tryd.ntmps18
  go_wp2_with fail
  go_at_call 20
  (with_reducible refine hsnd.mono ?_)
  clear hsnd
  rintro e w0 ⟨rfl, hb1⟩
  have hB0 : Below w.heap.size w w0 := iI (iF (Below.refl _ _) _) hb1
  have hX0 : w0.heap[w.heap.size]? = some (.cells #[.int .u8 1, .int .u32 a1, .int .u32 a2, .slice A3 l3.length c3, .slice A4 l4.length c4, .int .u32 a5, .slice A6 l6.length c6, .int .i64 a7, .int .i64 a8, .slice A9 l9.length c9] 30 (0, 0)) := iL hb1 (iV rfl)
  obtain ⟨z0, z1, z2, z3, z4, z5, z6, z7, z8, z9, y0, y1, y2, y3, y4, y5, y6, y7, y8, y9⟩ := ten hX0
  have HO := iC.mk (IR w0 w.heap.size 1 w.heap.size hB0.size (jR hX0))
  have HB := iC.mk (iF hB0 (.cells #[.int .u8 1] 5))
  have HX := iC.mk (jI (o := .cells #[.int .u8 1] 5) hX0)
  have HW1 := iC.mk (show w0.alloc (.cells #[.int .u8 1] 5) = w0.alloc (.cells #[.int .u8 1] 5) from rfl)
  clear hb1 hB0 hX0
  go_upto_region 4 with fail
  clear z0 z1 z2 z3 z4 z5 z6 z7 z8 z9 y0 y1 y2 y3 y4 y5 y6 y7 y8 y9
  obtain ⟨w1, hw1⟩ : ∃ x, x = w0.alloc (.cells #[.int .u8 1] 5) := ⟨_, rfl⟩
  rw [← hw1] at HO HB HX ⊢
  clear HW1
  have HW1 := iC.mk hw1
  clear hw1
  obtain ⟨L1, hL⟩ : ∃ l, l = [(1 : Int)] := ⟨_, rfl⟩
  have hn1 : L1.length ≤ 1 := by rw [hL]; simp
  rw [← hL] at HO
  have HL1 := iC.mk hL
  clear hL
  obtain ⟨z0, z1, z2, z3, z4, z5, z6, z7, z8, z9, y0, y1, y2, y3, y4, y5, y6, y7, y8, y9⟩ := ten HX.out
  have hcall := kV (fun k => w.heap.size < k) (.slice (some ⟨w0.heap.size, 0, none⟩) 1 1) L1 (a1) (IntKind.u64.wrap a1) 4 4 w w1 (by first | rfl | (rw [wrap_u64]; omega)) rfl (by omega) (by omega) HB.out HO.out
  go_wp2_with fail
  go_at_call 57
  (with_reducible refine hcall.mono ?_)
  clear hcall z0 z1 z2 z3 z4 z5 z6 z7 z8 z9 y0 y1 y2 y3 y4 y5 y6 y7 y8 y9
  rintro e w2 ⟨v2, rfl, ho, hb, hk⟩
  have HO' := iC.mk (Kd.R_mono (ok' := fun k => w.heap.size < k) ho (fun k h => h.elim id (fun h => Nat.lt_of_lt_of_le (jR HX.out) h)))
  have HX' := iC.mk (kR hk HX.out)
  have HB' := iC.mk hb
  clear ho hb hk HO HX HB
  obtain ⟨HO, HX, HB⟩ : _ ∧ _ ∧ _ := ⟨HO', HX', HB'⟩
  clear HO' HX' HB'
  obtain ⟨Ao, co, rfl⟩ := Kd.R_slice HO.out
  obtain ⟨L2, hL⟩ : ∃ l, l = L1 ++ nums (layB a1 4) := ⟨_, rfl⟩
  have hn2 : L2.length ≤ 5 := by rw [hL]; simp only [List.length_append, jH, iP]; omega
  rw [← hL] at HO ⊢
  have HL2 := iC.mk hL
  clear hL hn1
  obtain ⟨z0, z1, z2, z3, z4, z5, z6, z7, z8, z9, y0, y1, y2, y3, y4, y5, y6, y7, y8, y9⟩ := ten HX.out
  have hcall := yY (fun k => w.heap.size < k) _ L2 A3 c3 l3 w w2 (by rw [jA]; omega) HB.out HO.out (Kd.C_kept_came (Kd.heap_int .i64) H3.out HB.out (fun k h => Nat.le_of_lt h)) d3
  go_wp2_with fail
  go_at_call 58
  (with_reducible refine hcall.mono ?_)
  clear hcall z0 z1 z2 z3 z4 z5 z6 z7 z8 z9 y0 y1 y2 y3 y4 y5 y6 y7 y8 y9
  rintro e w3 ⟨v3, rfl, ho, hb, hk⟩
  have HO' := iC.mk (Kd.R_mono (ok' := fun k => w.heap.size < k) ho (fun k h => h.elim id (fun h => Nat.lt_of_lt_of_le (jR HX.out) h)))
  have HX' := iC.mk (kR hk HX.out)
  have HB' := iC.mk hb
  clear ho hb hk HO HX HB
  obtain ⟨HO, HX, HB⟩ : _ ∧ _ ∧ _ := ⟨HO', HX', HB'⟩
  clear HO' HX' HB'
  obtain ⟨Ao, co, rfl⟩ := Kd.R_slice HO.out
  obtain ⟨L3, hL⟩ : ∃ l, l = L2 ++ nums (lY l3) := ⟨_, rfl⟩
  have hn3 : L3.length ≤ 12 := by rw [hL]; simp only [List.length_append, jH, iP, jA]; omega
  rw [← hL] at HO ⊢
  have HL3 := iC.mk hL
  clear hL hn2
  obtain ⟨z0, z1, z2, z3, z4, z5, z6, z7, z8, z9, y0, y1, y2, y3, y4, y5, y6, y7, y8, y9⟩ := ten HX.out
  have hcall := zG (fun k => w.heap.size < k) _ L3 A4 c4 l4 w w3 (by omega) HB.out HO.out (Kd.C_kept_came JB H4.out HB.out (fun k h => Nat.le_of_lt h)) d4
  go_wp2_with fail
  go_at_call 59
  (with_reducible refine hcall.mono ?_)
  clear hcall z0 z1 z2 z3 z4 z5 z6 z7 z8 z9 y0 y1 y2 y3 y4 y5 y6 y7 y8 y9
  rintro e w4 ⟨v4, rfl, ho, hb, hk⟩
  have HO' := iC.mk (Kd.R_mono (ok' := fun k => w.heap.size < k) ho (fun k h => h.elim id (fun h => Nat.lt_of_lt_of_le (jR HX.out) h)))
  have HX' := iC.mk (kR hk HX.out)
  have HB' := iC.mk hb
  clear ho hb hk HO HX HB
  obtain ⟨HO, HX, HB⟩ : _ ∧ _ ∧ _ := ⟨HO', HX', HB'⟩
  clear HO' HX' HB'
  obtain ⟨Ao, co, rfl⟩ := Kd.R_slice HO.out
  obtain ⟨L4, hL⟩ : ∃ l, l = L3 ++ nums (kZ l4) := ⟨_, rfl⟩
  have hn4 : L4.length ≤ 5016 := by rw [hL]; simp only [List.length_append, jH, iP]; omega
  rw [← hL] at HO ⊢
  have HL4 := iC.mk hL
  clear hL hn3
  obtain ⟨z0, z1, z2, z3, z4, z5, z6, z7, z8, z9, y0, y1, y2, y3, y4, y5, y6, y7, y8, y9⟩ := ten HX.out
  have HLX := iC.mk (show L4 = nums X from by rw [HL4.out, HL3.out, HL2.out, HL1.out, HXX.out, VR]; simp only [List.nil_append, nums_append]; rfl)
  by_cases hq : (60000 : Int) < (L4.length : Int)
  · have HP : iC (r = ([], 3)) := ⟨by rw [HRR.out, if_pos (by rw [HLX.out, jH] at hq; omega)]⟩
    go_wp2_with fail
    go_ret2
    rw [HP.out]
    exact ⟨_, rfl, Kd.R_nil _ _ _ _ _, HB.out⟩
  · have HP : iC (r = (nums X, 0)) := ⟨by rw [HRR.out, if_neg (by rw [HLX.out, jH] at hq; omega)]⟩
    go_wp2_with fail
    go_ret2
    rw [HP.out]
    exact ⟨_, rfl, by rw [← HLX.out]; exact Kd.R_mono HO.out (fun _ _ => trivial), HB.out⟩
set_option maxHeartbeats 8000000 in
set_option maxRecDepth 20000 in
theorem TJ (hs : jM ⟨2, a1, a2, l3, l4, ⟨a5, l6⟩, a7, a8, l9⟩ = true) : Calls Tryd.prog 18 #[.agg #[.int .u8 2, .int .u32 a1, .int .u32 a2, .slice A3 l3.length c3, .slice A4 l4.length c4, .int .u32 a5, .slice A6 l6.length c6, .int .i64 a7, .int .i64 a8, .slice A9 l9.length c9]] w (nU w (encR ⟨2, a1, a2, l3, l4, ⟨a5, l6⟩, a7, a8, l9⟩)) := by
  obtain ⟨kk, hsk⟩ := (oH 2 a1 a2 l3 l4 a5 l6 a7 a8 l9 (oK h3 h4 h6 h9)).rounds
  rw [hs] at hsk
  have H3 := iC.mk h3; have H4 := iC.mk h4; have H6 := iC.mk h6; have H9 := iC.mk h9
  have hbw : Below w.heap.size w (w.alloc (.cells #[.int .u8 2, .int .u32 a1, .int .u32 a2, .slice A3 l3.length c3, .slice A4 l4.length c4, .int .u32 a5, .slice A6 l6.length c6, .int .i64 a7, .int .i64 a8, .slice A9 l9.length c9] 30)) := iF (Below.refl _ _) _
  have hsnd := stratumref07_Sound.calls kk 2 a1 a2 A3 c3 l3 A4 c4 l4 a5 A6 c6 l6 a7 a8 A9 c9 l9 true (w.alloc (.cells #[.int .u8 2, .int .u32 a1, .int .u32 a2, .slice A3 l3.length c3, .slice A4 l4.length c4, .int .u32 a5, .slice A6 l6.length c6, .int .i64 a7, .int .i64 a8, .slice A9 l9.length c9] 30)) (Kd.C_below h3 hbw) d3 (Kd.C_below h4 hbw) d4 (Kd.C_below h6 hbw) d6 (Kd.C_below h9 hbw) d9 hsk
  have HS := iC.mk hs
  have q3 : l3.length ≤ 6 := by
    have h := HS.out
    rw [RS, Bool.and_eq_true] at h
    exact uK _ h.1
  unfold encR
  rw [if_pos HS.out]
  obtain ⟨X, hX⟩ : ∃ X : List UInt8, X = recE ⟨2, a1, a2, l3, l4, ⟨a5, l6⟩, a7, a8, l9⟩ := ⟨_, rfl⟩
  rw [← hX]
  have HXX := iC.mk hX
  obtain ⟨r, hr⟩ : ∃ r : List Int × Int, r = (if 60000 < X.length then ([], 3) else (nums X, 0)) := ⟨_, rfl⟩
  rw [← hr]
  have HRR := iC.mk hr
  clear hr hs hX hsk hbw h3 h4 h6 h9
  go_enter Tryd.func18, Tryd.ntmps18
  go_wp2_with fail
  go_at_call 20
  (with_reducible refine hsnd.mono ?_)
  clear hsnd
  rintro e w0 ⟨rfl, hb1⟩
  have hB0 : Below w.heap.size w w0 := iI (iF (Below.refl _ _) _) hb1
  have hX0 : w0.heap[w.heap.size]? = some (.cells #[.int .u8 2, .int .u32 a1, .int .u32 a2, .slice A3 l3.length c3, .slice A4 l4.length c4, .int .u32 a5, .slice A6 l6.length c6, .int .i64 a7, .int .i64 a8, .slice A9 l9.length c9] 30 (0, 0)) := iL hb1 (iV rfl)
  obtain ⟨z0, z1, z2, z3, z4, z5, z6, z7, z8, z9, y0, y1, y2, y3, y4, y5, y6, y7, y8, y9⟩ := ten hX0
  have HO := iC.mk (IR w0 w.heap.size 2 w.heap.size hB0.size (jR hX0))
  have HB := iC.mk (iF hB0 (.cells #[.int .u8 2] 5))
  have HX := iC.mk (jI (o := .cells #[.int .u8 2] 5) hX0)
  have HW1 := iC.mk (show w0.alloc (.cells #[.int .u8 2] 5) = w0.alloc (.cells #[.int .u8 2] 5) from rfl)
  clear hb1 hB0 hX0
  go_upto_region 4 with fail
  clear z0 z1 z2 z3 z4 z5 z6 z7 z8 z9 y0 y1 y2 y3 y4 y5 y6 y7 y8 y9
  obtain ⟨w1, hw1⟩ : ∃ x, x = w0.alloc (.cells #[.int .u8 2] 5) := ⟨_, rfl⟩
  rw [← hw1] at HO HB HX ⊢
  clear HW1
  have HW1 := iC.mk hw1
  clear hw1
  obtain ⟨L1, hL⟩ : ∃ l, l = [(2 : Int)] := ⟨_, rfl⟩
  have hn1 : L1.length ≤ 1 := by rw [hL]; simp
  rw [← hL] at HO
  have HL1 := iC.mk hL
  clear hL
  obtain ⟨z0, z1, z2, z3, z4, z5, z6, z7, z8, z9, y0, y1, y2, y3, y4, y5, y6, y7, y8, y9⟩ := ten HX.out
  have hcall := kV (fun k => w.heap.size < k) (.slice (some ⟨w0.heap.size, 0, none⟩) 1 1) L1 (a1) (IntKind.u64.wrap a1) 4 4 w w1 (by first | rfl | (rw [wrap_u64]; omega)) rfl (by omega) (by omega) HB.out HO.out
  go_wp2_with fail
  go_at_call 57
  (with_reducible refine hcall.mono ?_)
  clear hcall z0 z1 z2 z3 z4 z5 z6 z7 z8 z9 y0 y1 y2 y3 y4 y5 y6 y7 y8 y9
  rintro e w2 ⟨v2, rfl, ho, hb, hk⟩
  have HO' := iC.mk (Kd.R_mono (ok' := fun k => w.heap.size < k) ho (fun k h => h.elim id (fun h => Nat.lt_of_lt_of_le (jR HX.out) h)))
  have HX' := iC.mk (kR hk HX.out)
  have HB' := iC.mk hb
  clear ho hb hk HO HX HB
  obtain ⟨HO, HX, HB⟩ : _ ∧ _ ∧ _ := ⟨HO', HX', HB'⟩
  clear HO' HX' HB'
  obtain ⟨Ao, co, rfl⟩ := Kd.R_slice HO.out
  obtain ⟨L2, hL⟩ : ∃ l, l = L1 ++ nums (layB a1 4) := ⟨_, rfl⟩
  have hn2 : L2.length ≤ 5 := by rw [hL]; simp only [List.length_append, jH, iP]; omega
  rw [← hL] at HO ⊢
  have HL2 := iC.mk hL
  clear hL hn1
  obtain ⟨z0, z1, z2, z3, z4, z5, z6, z7, z8, z9, y0, y1, y2, y3, y4, y5, y6, y7, y8, y9⟩ := ten HX.out
  have hcall := kV (fun k => w.heap.size < k) _ L2 (a2) (IntKind.u64.wrap a2) 4 4 w w2 (by first | rfl | (rw [wrap_u64]; omega)) rfl (by omega) (by omega) HB.out HO.out
  go_wp2_with fail
  go_at_call 57
  (with_reducible refine hcall.mono ?_)
  clear hcall z0 z1 z2 z3 z4 z5 z6 z7 z8 z9 y0 y1 y2 y3 y4 y5 y6 y7 y8 y9
  rintro e w3 ⟨v3, rfl, ho, hb, hk⟩
  have HO' := iC.mk (Kd.R_mono (ok' := fun k => w.heap.size < k) ho (fun k h => h.elim id (fun h => Nat.lt_of_lt_of_le (jR HX.out) h)))
  have HX' := iC.mk (kR hk HX.out)
  have HB' := iC.mk hb
  clear ho hb hk HO HX HB
  obtain ⟨HO, HX, HB⟩ : _ ∧ _ ∧ _ := ⟨HO', HX', HB'⟩
  clear HO' HX' HB'
  obtain ⟨Ao, co, rfl⟩ := Kd.R_slice HO.out
  obtain ⟨L3, hL⟩ : ∃ l, l = L2 ++ nums (layB a2 4) := ⟨_, rfl⟩
  have hn3 : L3.length ≤ 9 := by rw [hL]; simp only [List.length_append, jH, iP]; omega
  rw [← hL] at HO ⊢
  have HL3 := iC.mk hL
  clear hL hn2
  obtain ⟨z0, z1, z2, z3, z4, z5, z6, z7, z8, z9, y0, y1, y2, y3, y4, y5, y6, y7, y8, y9⟩ := ten HX.out
  have hcall := yY (fun k => w.heap.size < k) _ L3 A3 c3 l3 w w3 (by rw [jA]; omega) HB.out HO.out (Kd.C_kept_came (Kd.heap_int .i64) H3.out HB.out (fun k h => Nat.le_of_lt h)) d3
  go_wp2_with fail
  go_at_call 58
  (with_reducible refine hcall.mono ?_)
  clear hcall z0 z1 z2 z3 z4 z5 z6 z7 z8 z9 y0 y1 y2 y3 y4 y5 y6 y7 y8 y9
  rintro e w4 ⟨v4, rfl, ho, hb, hk⟩
  have HO' := iC.mk (Kd.R_mono (ok' := fun k => w.heap.size < k) ho (fun k h => h.elim id (fun h => Nat.lt_of_lt_of_le (jR HX.out) h)))
  have HX' := iC.mk (kR hk HX.out)
  have HB' := iC.mk hb
  clear ho hb hk HO HX HB
  obtain ⟨HO, HX, HB⟩ : _ ∧ _ ∧ _ := ⟨HO', HX', HB'⟩
  clear HO' HX' HB'
  obtain ⟨Ao, co, rfl⟩ := Kd.R_slice HO.out
  obtain ⟨L4, hL⟩ : ∃ l, l = L3 ++ nums (lY l3) := ⟨_, rfl⟩
  have hn4 : L4.length ≤ 16 := by rw [hL]; simp only [List.length_append, jH, iP, jA]; omega
  rw [← hL] at HO ⊢
  have HL4 := iC.mk hL
  clear hL hn3
  obtain ⟨z0, z1, z2, z3, z4, z5, z6, z7, z8, z9, y0, y1, y2, y3, y4, y5, y6, y7, y8, y9⟩ := ten HX.out
  have HLX := iC.mk (show L4 = nums X from by rw [HL4.out, HL3.out, HL2.out, HL1.out, HXX.out, WO]; simp only [List.nil_append, nums_append]; rfl)
  by_cases hq : (60000 : Int) < (L4.length : Int)
  · have HP : iC (r = ([], 3)) := ⟨by rw [HRR.out, if_pos (by rw [HLX.out, jH] at hq; omega)]⟩
    go_wp2_with fail
    go_ret2
    rw [HP.out]
    exact ⟨_, rfl, Kd.R_nil _ _ _ _ _, HB.out⟩
  · have HP : iC (r = (nums X, 0)) := ⟨by rw [HRR.out, if_neg (by rw [HLX.out, jH] at hq; omega)]⟩
    go_wp2_with fail
    go_ret2
    rw [HP.out]
    exact ⟨_, rfl, by rw [← HLX.out]; exact Kd.R_mono HO.out (fun _ _ => trivial), HB.out⟩
set_option maxHeartbeats 8000000 in
set_option maxRecDepth 20000 in
theorem PW (hs : jM ⟨3, a1, a2, l3, l4, ⟨a5, l6⟩, a7, a8, l9⟩ = true) : Calls Tryd.prog 18 #[.agg #[.int .u8 3, .int .u32 a1, .int .u32 a2, .slice A3 l3.length c3, .slice A4 l4.length c4, .int .u32 a5, .slice A6 l6.length c6, .int .i64 a7, .int .i64 a8, .slice A9 l9.length c9]] w (nU w (encR ⟨3, a1, a2, l3, l4, ⟨a5, l6⟩, a7, a8, l9⟩)) := by
  obtain ⟨kk, hsk⟩ := (oH 3 a1 a2 l3 l4 a5 l6 a7 a8 l9 (oK h3 h4 h6 h9)).rounds
  rw [hs] at hsk
  have H3 := iC.mk h3; have H4 := iC.mk h4; have H6 := iC.mk h6; have H9 := iC.mk h9
  have hbw : Below w.heap.size w (w.alloc (.cells #[.int .u8 3, .int .u32 a1, .int .u32 a2, .slice A3 l3.length c3, .slice A4 l4.length c4, .int .u32 a5, .slice A6 l6.length c6, .int .i64 a7, .int .i64 a8, .slice A9 l9.length c9] 30)) := iF (Below.refl _ _) _
  have hsnd := stratumref07_Sound.calls kk 3 a1 a2 A3 c3 l3 A4 c4 l4 a5 A6 c6 l6 a7 a8 A9 c9 l9 true (w.alloc (.cells #[.int .u8 3, .int .u32 a1, .int .u32 a2, .slice A3 l3.length c3, .slice A4 l4.length c4, .int .u32 a5, .slice A6 l6.length c6, .int .i64 a7, .int .i64 a8, .slice A9 l9.length c9] 30)) (Kd.C_below h3 hbw) d3 (Kd.C_below h4 hbw) d4 (Kd.C_below h6 hbw) d6 (Kd.C_below h9 hbw) d9 hsk
  have HS := iC.mk hs
  unfold encR
  rw [if_pos HS.out]
  obtain ⟨X, hX⟩ : ∃ X : List UInt8, X = recE ⟨3, a1, a2, l3, l4, ⟨a5, l6⟩, a7, a8, l9⟩ := ⟨_, rfl⟩
  rw [← hX]
  have HXX := iC.mk hX
  obtain ⟨r, hr⟩ : ∃ r : List Int × Int, r = (if 60000 < X.length then ([], 3) else (nums X, 0)) := ⟨_, rfl⟩
  rw [← hr]
  have HRR := iC.mk hr
  clear hr hs hX hsk hbw h3 h4 h6 h9
  go_enter Tryd.func18, Tryd.ntmps18
  go_wp2_with fail
  go_at_call 20
  (with_reducible refine hsnd.mono ?_)
  clear hsnd
  rintro e w0 ⟨rfl, hb1⟩
  have hB0 : Below w.heap.size w w0 := iI (iF (Below.refl _ _) _) hb1
  have hX0 : w0.heap[w.heap.size]? = some (.cells #[.int .u8 3, .int .u32 a1, .int .u32 a2, .slice A3 l3.length c3, .slice A4 l4.length c4, .int .u32 a5, .slice A6 l6.length c6, .int .i64 a7, .int .i64 a8, .slice A9 l9.length c9] 30 (0, 0)) := iL hb1 (iV rfl)
  obtain ⟨z0, z1, z2, z3, z4, z5, z6, z7, z8, z9, y0, y1, y2, y3, y4, y5, y6, y7, y8, y9⟩ := ten hX0
  have HO := iC.mk (IR w0 w.heap.size 3 w.heap.size hB0.size (jR hX0))
  have HB := iC.mk (iF hB0 (.cells #[.int .u8 3] 5))
  have HX := iC.mk (jI (o := .cells #[.int .u8 3] 5) hX0)
  have HW1 := iC.mk (show w0.alloc (.cells #[.int .u8 3] 5) = w0.alloc (.cells #[.int .u8 3] 5) from rfl)
  clear hb1 hB0 hX0
  go_upto_region 4 with fail
  clear z0 z1 z2 z3 z4 z5 z6 z7 z8 z9 y0 y1 y2 y3 y4 y5 y6 y7 y8 y9
  obtain ⟨w1, hw1⟩ : ∃ x, x = w0.alloc (.cells #[.int .u8 3] 5) := ⟨_, rfl⟩
  rw [← hw1] at HO HB HX ⊢
  clear HW1
  have HW1 := iC.mk hw1
  clear hw1
  obtain ⟨L1, hL⟩ : ∃ l, l = [(3 : Int)] := ⟨_, rfl⟩
  have hn1 : L1.length ≤ 1 := by rw [hL]; simp
  rw [← hL] at HO
  have HL1 := iC.mk hL
  clear hL
  obtain ⟨z0, z1, z2, z3, z4, z5, z6, z7, z8, z9, y0, y1, y2, y3, y4, y5, y6, y7, y8, y9⟩ := ten HX.out
  have hcall := kV (fun k => w.heap.size < k) (.slice (some ⟨w0.heap.size, 0, none⟩) 1 1) L1 (a1) (IntKind.u64.wrap a1) 4 4 w w1 (by first | rfl | (rw [wrap_u64]; omega)) rfl (by omega) (by omega) HB.out HO.out
  go_wp2_with fail
  go_at_call 57
  (with_reducible refine hcall.mono ?_)
  clear hcall z0 z1 z2 z3 z4 z5 z6 z7 z8 z9 y0 y1 y2 y3 y4 y5 y6 y7 y8 y9
  rintro e w2 ⟨v2, rfl, ho, hb, hk⟩
  have HO' := iC.mk (Kd.R_mono (ok' := fun k => w.heap.size < k) ho (fun k h => h.elim id (fun h => Nat.lt_of_lt_of_le (jR HX.out) h)))
  have HX' := iC.mk (kR hk HX.out)
  have HB' := iC.mk hb
  clear ho hb hk HO HX HB
  obtain ⟨HO, HX, HB⟩ : _ ∧ _ ∧ _ := ⟨HO', HX', HB'⟩
  clear HO' HX' HB'
  obtain ⟨Ao, co, rfl⟩ := Kd.R_slice HO.out
  obtain ⟨L2, hL⟩ : ∃ l, l = L1 ++ nums (layB a1 4) := ⟨_, rfl⟩
  have hn2 : L2.length ≤ 5 := by rw [hL]; simp only [List.length_append, jH, iP]; omega
  rw [← hL] at HO ⊢
  have HL2 := iC.mk hL
  clear hL hn1
  obtain ⟨z0, z1, z2, z3, z4, z5, z6, z7, z8, z9, y0, y1, y2, y3, y4, y5, y6, y7, y8, y9⟩ := ten HX.out
  have HLX := iC.mk (show L2 = nums X from by rw [HL2.out, HL1.out, HXX.out, VF]; simp only [List.nil_append, nums_append]; rfl)
  have HP : iC (r = (nums X, 0)) := ⟨by rw [HRR.out, if_neg (by have h := congrArg List.length HLX.out; rw [jH] at h; omega)]⟩
  go_wp2_with fail
  go_ret2
  rw [HP.out]
  exact ⟨_, rfl, by rw [← HLX.out]; exact Kd.R_mono HO.out (fun _ _ => trivial), HB.out⟩
set_option maxHeartbeats 8000000 in
set_option maxRecDepth 20000 in
theorem RF (hs : jM ⟨4, a1, a2, l3, l4, ⟨a5, l6⟩, a7, a8, l9⟩ = true) : Calls Tryd.prog 18 #[.agg #[.int .u8 4, .int .u32 a1, .int .u32 a2, .slice A3 l3.length c3, .slice A4 l4.length c4, .int .u32 a5, .slice A6 l6.length c6, .int .i64 a7, .int .i64 a8, .slice A9 l9.length c9]] w (nU w (encR ⟨4, a1, a2, l3, l4, ⟨a5, l6⟩, a7, a8, l9⟩)) := by
  obtain ⟨kk, hsk⟩ := (oH 4 a1 a2 l3 l4 a5 l6 a7 a8 l9 (oK h3 h4 h6 h9)).rounds
  rw [hs] at hsk
  have H3 := iC.mk h3; have H4 := iC.mk h4; have H6 := iC.mk h6; have H9 := iC.mk h9
  have hbw : Below w.heap.size w (w.alloc (.cells #[.int .u8 4, .int .u32 a1, .int .u32 a2, .slice A3 l3.length c3, .slice A4 l4.length c4, .int .u32 a5, .slice A6 l6.length c6, .int .i64 a7, .int .i64 a8, .slice A9 l9.length c9] 30)) := iF (Below.refl _ _) _
  have hsnd := stratumref07_Sound.calls kk 4 a1 a2 A3 c3 l3 A4 c4 l4 a5 A6 c6 l6 a7 a8 A9 c9 l9 true (w.alloc (.cells #[.int .u8 4, .int .u32 a1, .int .u32 a2, .slice A3 l3.length c3, .slice A4 l4.length c4, .int .u32 a5, .slice A6 l6.length c6, .int .i64 a7, .int .i64 a8, .slice A9 l9.length c9] 30)) (Kd.C_below h3 hbw) d3 (Kd.C_below h4 hbw) d4 (Kd.C_below h6 hbw) d6 (Kd.C_below h9 hbw) d9 hsk
  have HS := iC.mk hs
  unfold encR
  rw [if_pos HS.out]
  obtain ⟨X, hX⟩ : ∃ X : List UInt8, X = recE ⟨4, a1, a2, l3, l4, ⟨a5, l6⟩, a7, a8, l9⟩ := ⟨_, rfl⟩
  rw [← hX]
  have HXX := iC.mk hX
  obtain ⟨r, hr⟩ : ∃ r : List Int × Int, r = (if 60000 < X.length then ([], 3) else (nums X, 0)) := ⟨_, rfl⟩
  rw [← hr]
  have HRR := iC.mk hr
  clear hr hs hX hsk hbw h3 h4 h6 h9
  go_enter Tryd.func18, Tryd.ntmps18
  go_wp2_with fail
  go_at_call 20
  (with_reducible refine hsnd.mono ?_)
  clear hsnd
  rintro e w0 ⟨rfl, hb1⟩
  have hB0 : Below w.heap.size w w0 := iI (iF (Below.refl _ _) _) hb1
  have hX0 : w0.heap[w.heap.size]? = some (.cells #[.int .u8 4, .int .u32 a1, .int .u32 a2, .slice A3 l3.length c3, .slice A4 l4.length c4, .int .u32 a5, .slice A6 l6.length c6, .int .i64 a7, .int .i64 a8, .slice A9 l9.length c9] 30 (0, 0)) := iL hb1 (iV rfl)
  obtain ⟨z0, z1, z2, z3, z4, z5, z6, z7, z8, z9, y0, y1, y2, y3, y4, y5, y6, y7, y8, y9⟩ := ten hX0
  have HO := iC.mk (IR w0 w.heap.size 4 w.heap.size hB0.size (jR hX0))
  have HB := iC.mk (iF hB0 (.cells #[.int .u8 4] 5))
  have HX := iC.mk (jI (o := .cells #[.int .u8 4] 5) hX0)
  have HW1 := iC.mk (show w0.alloc (.cells #[.int .u8 4] 5) = w0.alloc (.cells #[.int .u8 4] 5) from rfl)
  clear hb1 hB0 hX0
  go_upto_region 4 with fail
  clear z0 z1 z2 z3 z4 z5 z6 z7 z8 z9 y0 y1 y2 y3 y4 y5 y6 y7 y8 y9
  obtain ⟨w1, hw1⟩ : ∃ x, x = w0.alloc (.cells #[.int .u8 4] 5) := ⟨_, rfl⟩
  rw [← hw1] at HO HB HX ⊢
  clear HW1
  have HW1 := iC.mk hw1
  clear hw1
  obtain ⟨L1, hL⟩ : ∃ l, l = [(4 : Int)] := ⟨_, rfl⟩
  have hn1 : L1.length ≤ 1 := by rw [hL]; simp
  rw [← hL] at HO
  have HL1 := iC.mk hL
  clear hL
  obtain ⟨z0, z1, z2, z3, z4, z5, z6, z7, z8, z9, y0, y1, y2, y3, y4, y5, y6, y7, y8, y9⟩ := ten HX.out
  have hcall := kV (fun k => w.heap.size < k) (.slice (some ⟨w0.heap.size, 0, none⟩) 1 1) L1 (a1) (IntKind.u64.wrap a1) 4 4 w w1 (by first | rfl | (rw [wrap_u64]; omega)) rfl (by omega) (by omega) HB.out HO.out
  go_wp2_with fail
  go_at_call 57
  (with_reducible refine hcall.mono ?_)
  clear hcall z0 z1 z2 z3 z4 z5 z6 z7 z8 z9 y0 y1 y2 y3 y4 y5 y6 y7 y8 y9
  rintro e w2 ⟨v2, rfl, ho, hb, hk⟩
  have HO' := iC.mk (Kd.R_mono (ok' := fun k => w.heap.size < k) ho (fun k h => h.elim id (fun h => Nat.lt_of_lt_of_le (jR HX.out) h)))
  have HX' := iC.mk (kR hk HX.out)
  have HB' := iC.mk hb
  clear ho hb hk HO HX HB
  obtain ⟨HO, HX, HB⟩ : _ ∧ _ ∧ _ := ⟨HO', HX', HB'⟩
  clear HO' HX' HB'
  obtain ⟨Ao, co, rfl⟩ := Kd.R_slice HO.out
  obtain ⟨L2, hL⟩ : ∃ l, l = L1 ++ nums (layB a1 4) := ⟨_, rfl⟩
  have hn2 : L2.length ≤ 5 := by rw [hL]; simp only [List.length_append, jH, iP]; omega
  rw [← hL] at HO ⊢
  have HL2 := iC.mk hL
  clear hL hn1
  obtain ⟨z0, z1, z2, z3, z4, z5, z6, z7, z8, z9, y0, y1, y2, y3, y4, y5, y6, y7, y8, y9⟩ := ten HX.out
  have HLX := iC.mk (show L2 = nums X from by rw [HL2.out, HL1.out, HXX.out, VK]; simp only [List.nil_append, nums_append]; rfl)
  have HP : iC (r = (nums X, 0)) := ⟨by rw [HRR.out, if_neg (by have h := congrArg List.length HLX.out; rw [jH] at h; omega)]⟩
  go_wp2_with fail
  go_ret2
  rw [HP.out]
  exact ⟨_, rfl, by rw [← HLX.out]; exact Kd.R_mono HO.out (fun _ _ => trivial), HB.out⟩
set_option maxHeartbeats 8000000 in
set_option maxRecDepth 20000 in
theorem TC (hs : jM ⟨5, a1, a2, l3, l4, ⟨a5, l6⟩, a7, a8, l9⟩ = true) : Calls Tryd.prog 18 #[.agg #[.int .u8 5, .int .u32 a1, .int .u32 a2, .slice A3 l3.length c3, .slice A4 l4.length c4, .int .u32 a5, .slice A6 l6.length c6, .int .i64 a7, .int .i64 a8, .slice A9 l9.length c9]] w (nU w (encR ⟨5, a1, a2, l3, l4, ⟨a5, l6⟩, a7, a8, l9⟩)) := by
  obtain ⟨kk, hsk⟩ := (oH 5 a1 a2 l3 l4 a5 l6 a7 a8 l9 (oK h3 h4 h6 h9)).rounds
  rw [hs] at hsk
  have H3 := iC.mk h3; have H4 := iC.mk h4; have H6 := iC.mk h6; have H9 := iC.mk h9
  have hbw : Below w.heap.size w (w.alloc (.cells #[.int .u8 5, .int .u32 a1, .int .u32 a2, .slice A3 l3.length c3, .slice A4 l4.length c4, .int .u32 a5, .slice A6 l6.length c6, .int .i64 a7, .int .i64 a8, .slice A9 l9.length c9] 30)) := iF (Below.refl _ _) _
  have hsnd := stratumref07_Sound.calls kk 5 a1 a2 A3 c3 l3 A4 c4 l4 a5 A6 c6 l6 a7 a8 A9 c9 l9 true (w.alloc (.cells #[.int .u8 5, .int .u32 a1, .int .u32 a2, .slice A3 l3.length c3, .slice A4 l4.length c4, .int .u32 a5, .slice A6 l6.length c6, .int .i64 a7, .int .i64 a8, .slice A9 l9.length c9] 30)) (Kd.C_below h3 hbw) d3 (Kd.C_below h4 hbw) d4 (Kd.C_below h6 hbw) d6 (Kd.C_below h9 hbw) d9 hsk
  have HS := iC.mk hs
  unfold encR
  rw [if_pos HS.out]
  obtain ⟨X, hX⟩ : ∃ X : List UInt8, X = recE ⟨5, a1, a2, l3, l4, ⟨a5, l6⟩, a7, a8, l9⟩ := ⟨_, rfl⟩
  rw [← hX]
  have HXX := iC.mk hX
  obtain ⟨r, hr⟩ : ∃ r : List Int × Int, r = (if 60000 < X.length then ([], 3) else (nums X, 0)) := ⟨_, rfl⟩
  rw [← hr]
  have HRR := iC.mk hr
  clear hr hs hX hsk hbw h3 h4 h6 h9
  go_enter Tryd.func18, Tryd.ntmps18
  go_wp2_with fail
  go_at_call 20
  (with_reducible refine hsnd.mono ?_)
  clear hsnd
  rintro e w0 ⟨rfl, hb1⟩
  have hB0 : Below w.heap.size w w0 := iI (iF (Below.refl _ _) _) hb1
  have hX0 : w0.heap[w.heap.size]? = some (.cells #[.int .u8 5, .int .u32 a1, .int .u32 a2, .slice A3 l3.length c3, .slice A4 l4.length c4, .int .u32 a5, .slice A6 l6.length c6, .int .i64 a7, .int .i64 a8, .slice A9 l9.length c9] 30 (0, 0)) := iL hb1 (iV rfl)
  obtain ⟨z0, z1, z2, z3, z4, z5, z6, z7, z8, z9, y0, y1, y2, y3, y4, y5, y6, y7, y8, y9⟩ := ten hX0
  have HO := iC.mk (IR w0 w.heap.size 5 w.heap.size hB0.size (jR hX0))
  have HB := iC.mk (iF hB0 (.cells #[.int .u8 5] 5))
  have HX := iC.mk (jI (o := .cells #[.int .u8 5] 5) hX0)
  have HW1 := iC.mk (show w0.alloc (.cells #[.int .u8 5] 5) = w0.alloc (.cells #[.int .u8 5] 5) from rfl)
  clear hb1 hB0 hX0
  go_upto_region 4 with fail
  clear z0 z1 z2 z3 z4 z5 z6 z7 z8 z9 y0 y1 y2 y3 y4 y5 y6 y7 y8 y9
  obtain ⟨w1, hw1⟩ : ∃ x, x = w0.alloc (.cells #[.int .u8 5] 5) := ⟨_, rfl⟩
  rw [← hw1] at HO HB HX ⊢
  clear HW1
  have HW1 := iC.mk hw1
  clear hw1
  obtain ⟨L1, hL⟩ : ∃ l, l = [(5 : Int)] := ⟨_, rfl⟩
  have hn1 : L1.length ≤ 1 := by rw [hL]; simp
  rw [← hL] at HO
  have HL1 := iC.mk hL
  clear hL
  obtain ⟨z0, z1, z2, z3, z4, z5, z6, z7, z8, z9, y0, y1, y2, y3, y4, y5, y6, y7, y8, y9⟩ := ten HX.out
  have hcall := kV (fun k => w.heap.size < k) (.slice (some ⟨w0.heap.size, 0, none⟩) 1 1) L1 (a1) (IntKind.u64.wrap a1) 4 4 w w1 (by first | rfl | (rw [wrap_u64]; omega)) rfl (by omega) (by omega) HB.out HO.out
  go_wp2_with fail
  go_at_call 57
  (with_reducible refine hcall.mono ?_)
  clear hcall z0 z1 z2 z3 z4 z5 z6 z7 z8 z9 y0 y1 y2 y3 y4 y5 y6 y7 y8 y9
  rintro e w2 ⟨v2, rfl, ho, hb, hk⟩
  have HO' := iC.mk (Kd.R_mono (ok' := fun k => w.heap.size < k) ho (fun k h => h.elim id (fun h => Nat.lt_of_lt_of_le (jR HX.out) h)))
  have HX' := iC.mk (kR hk HX.out)
  have HB' := iC.mk hb
  clear ho hb hk HO HX HB
  obtain ⟨HO, HX, HB⟩ : _ ∧ _ ∧ _ := ⟨HO', HX', HB'⟩
  clear HO' HX' HB'
  obtain ⟨Ao, co, rfl⟩ := Kd.R_slice HO.out
  obtain ⟨L2, hL⟩ : ∃ l, l = L1 ++ nums (layB a1 4) := ⟨_, rfl⟩
  have hn2 : L2.length ≤ 5 := by rw [hL]; simp only [List.length_append, jH, iP]; omega
  rw [← hL] at HO ⊢
  have HL2 := iC.mk hL
  clear hL hn1
  obtain ⟨z0, z1, z2, z3, z4, z5, z6, z7, z8, z9, y0, y1, y2, y3, y4, y5, y6, y7, y8, y9⟩ := ten HX.out
  have HLX := iC.mk (show L2 = nums X from by rw [HL2.out, HL1.out, HXX.out, WG]; simp only [List.nil_append, nums_append]; rfl)
  have HP : iC (r = (nums X, 0)) := ⟨by rw [HRR.out, if_neg (by have h := congrArg List.length HLX.out; rw [jH] at h; omega)]⟩
  go_wp2_with fail
  go_ret2
  rw [HP.out]
  exact ⟨_, rfl, by rw [← HLX.out]; exact Kd.R_mono HO.out (fun _ _ => trivial), HB.out⟩
set_option maxHeartbeats 8000000 in
set_option maxRecDepth 20000 in
theorem TI (hs : jM ⟨7, a1, a2, l3, l4, ⟨a5, l6⟩, a7, a8, l9⟩ = true) : Calls Tryd.prog 18 #[.agg #[.int .u8 7, .int .u32 a1, .int .u32 a2, .slice A3 l3.length c3, .slice A4 l4.length c4, .int .u32 a5, .slice A6 l6.length c6, .int .i64 a7, .int .i64 a8, .slice A9 l9.length c9]] w (nU w (encR ⟨7, a1, a2, l3, l4, ⟨a5, l6⟩, a7, a8, l9⟩)) := by
  obtain ⟨kk, hsk⟩ := (oH 7 a1 a2 l3 l4 a5 l6 a7 a8 l9 (oK h3 h4 h6 h9)).rounds
  rw [hs] at hsk
  have H3 := iC.mk h3; have H4 := iC.mk h4; have H6 := iC.mk h6; have H9 := iC.mk h9
  have hbw : Below w.heap.size w (w.alloc (.cells #[.int .u8 7, .int .u32 a1, .int .u32 a2, .slice A3 l3.length c3, .slice A4 l4.length c4, .int .u32 a5, .slice A6 l6.length c6, .int .i64 a7, .int .i64 a8, .slice A9 l9.length c9] 30)) := iF (Below.refl _ _) _
  have hsnd := stratumref07_Sound.calls kk 7 a1 a2 A3 c3 l3 A4 c4 l4 a5 A6 c6 l6 a7 a8 A9 c9 l9 true (w.alloc (.cells #[.int .u8 7, .int .u32 a1, .int .u32 a2, .slice A3 l3.length c3, .slice A4 l4.length c4, .int .u32 a5, .slice A6 l6.length c6, .int .i64 a7, .int .i64 a8, .slice A9 l9.length c9] 30)) (Kd.C_below h3 hbw) d3 (Kd.C_below h4 hbw) d4 (Kd.C_below h6 hbw) d6 (Kd.C_below h9 hbw) d9 hsk
  have HS := iC.mk hs
  have q9 : (kN l9).length ≤ 25040004 := by
    have h := HS.out
    rw [MM] at h
    simp only [Bool.and_eq_true, decide_eq_true_eq] at h
    exact xW _ h.1.1.1.1.1.1 (by have := h.1.1.1.1.1.2; omega)
  unfold encR
  rw [if_pos HS.out]
  obtain ⟨X, hX⟩ : ∃ X : List UInt8, X = recE ⟨7, a1, a2, l3, l4, ⟨a5, l6⟩, a7, a8, l9⟩ := ⟨_, rfl⟩
  rw [← hX]
  have HXX := iC.mk hX
  obtain ⟨r, hr⟩ : ∃ r : List Int × Int, r = (if 60000 < X.length then ([], 3) else (nums X, 0)) := ⟨_, rfl⟩
  rw [← hr]
  have HRR := iC.mk hr
  clear hr hs hX hsk hbw h3 h4 h6 h9
  go_enter Tryd.func18, Tryd.ntmps18
  go_wp2_with fail
  go_at_call 20
  (with_reducible refine hsnd.mono ?_)
  clear hsnd
  rintro e w0 ⟨rfl, hb1⟩
  have hB0 : Below w.heap.size w w0 := iI (iF (Below.refl _ _) _) hb1
  have hX0 : w0.heap[w.heap.size]? = some (.cells #[.int .u8 7, .int .u32 a1, .int .u32 a2, .slice A3 l3.length c3, .slice A4 l4.length c4, .int .u32 a5, .slice A6 l6.length c6, .int .i64 a7, .int .i64 a8, .slice A9 l9.length c9] 30 (0, 0)) := iL hb1 (iV rfl)
  obtain ⟨z0, z1, z2, z3, z4, z5, z6, z7, z8, z9, y0, y1, y2, y3, y4, y5, y6, y7, y8, y9⟩ := ten hX0
  have HO := iC.mk (IR w0 w.heap.size 7 w.heap.size hB0.size (jR hX0))
  have HB := iC.mk (iF hB0 (.cells #[.int .u8 7] 5))
  have HX := iC.mk (jI (o := .cells #[.int .u8 7] 5) hX0)
  have HW1 := iC.mk (show w0.alloc (.cells #[.int .u8 7] 5) = w0.alloc (.cells #[.int .u8 7] 5) from rfl)
  clear hb1 hB0 hX0
  go_upto_region 4 with fail
  clear z0 z1 z2 z3 z4 z5 z6 z7 z8 z9 y0 y1 y2 y3 y4 y5 y6 y7 y8 y9
  obtain ⟨w1, hw1⟩ : ∃ x, x = w0.alloc (.cells #[.int .u8 7] 5) := ⟨_, rfl⟩
  rw [← hw1] at HO HB HX ⊢
  clear HW1
  have HW1 := iC.mk hw1
  clear hw1
  obtain ⟨L1, hL⟩ : ∃ l, l = [(7 : Int)] := ⟨_, rfl⟩
  have hn1 : L1.length ≤ 1 := by rw [hL]; simp
  rw [← hL] at HO
  have HL1 := iC.mk hL
  clear hL
  obtain ⟨z0, z1, z2, z3, z4, z5, z6, z7, z8, z9, y0, y1, y2, y3, y4, y5, y6, y7, y8, y9⟩ := ten HX.out
  have hcall := kV (fun k => w.heap.size < k) (.slice (some ⟨w0.heap.size, 0, none⟩) 1 1) L1 (a1) (IntKind.u64.wrap a1) 4 4 w w1 (by first | rfl | (rw [wrap_u64]; omega)) rfl (by omega) (by omega) HB.out HO.out
  go_wp2_with fail
  go_at_call 57
  (with_reducible refine hcall.mono ?_)
  clear hcall z0 z1 z2 z3 z4 z5 z6 z7 z8 z9 y0 y1 y2 y3 y4 y5 y6 y7 y8 y9
  rintro e w2 ⟨v2, rfl, ho, hb, hk⟩
  have HO' := iC.mk (Kd.R_mono (ok' := fun k => w.heap.size < k) ho (fun k h => h.elim id (fun h => Nat.lt_of_lt_of_le (jR HX.out) h)))
  have HX' := iC.mk (kR hk HX.out)
  have HB' := iC.mk hb
  clear ho hb hk HO HX HB
  obtain ⟨HO, HX, HB⟩ : _ ∧ _ ∧ _ := ⟨HO', HX', HB'⟩
  clear HO' HX' HB'
  obtain ⟨Ao, co, rfl⟩ := Kd.R_slice HO.out
  obtain ⟨L2, hL⟩ : ∃ l, l = L1 ++ nums (layB a1 4) := ⟨_, rfl⟩
  have hn2 : L2.length ≤ 5 := by rw [hL]; simp only [List.length_append, jH, iP]; omega
  rw [← hL] at HO ⊢
  have HL2 := iC.mk hL
  clear hL hn1
  obtain ⟨z0, z1, z2, z3, z4, z5, z6, z7, z8, z9, y0, y1, y2, y3, y4, y5, y6, y7, y8, y9⟩ := ten HX.out
  have hcall := kV (fun k => w.heap.size < k) _ L2 (a7) (IntKind.u64.wrap a7) 4 4 w w2 (by first | rfl | (rw [wrap_u64]; omega)) rfl (by omega) (by omega) HB.out HO.out
  go_wp2_with fail
  go_at_call 57
  (with_reducible refine hcall.mono ?_)
  clear hcall z0 z1 z2 z3 z4 z5 z6 z7 z8 z9 y0 y1 y2 y3 y4 y5 y6 y7 y8 y9
  rintro e w3 ⟨v3, rfl, ho, hb, hk⟩
  have HO' := iC.mk (Kd.R_mono (ok' := fun k => w.heap.size < k) ho (fun k h => h.elim id (fun h => Nat.lt_of_lt_of_le (jR HX.out) h)))
  have HX' := iC.mk (kR hk HX.out)
  have HB' := iC.mk hb
  clear ho hb hk HO HX HB
  obtain ⟨HO, HX, HB⟩ : _ ∧ _ ∧ _ := ⟨HO', HX', HB'⟩
  clear HO' HX' HB'
  obtain ⟨Ao, co, rfl⟩ := Kd.R_slice HO.out
  obtain ⟨L3, hL⟩ : ∃ l, l = L2 ++ nums (layB a7 4) := ⟨_, rfl⟩
  have hn3 : L3.length ≤ 9 := by rw [hL]; simp only [List.length_append, jH, iP]; omega
  rw [← hL] at HO ⊢
  have HL3 := iC.mk hL
  clear hL hn2
  obtain ⟨z0, z1, z2, z3, z4, z5, z6, z7, z8, z9, y0, y1, y2, y3, y4, y5, y6, y7, y8, y9⟩ := ten HX.out
  have hcall := kV (fun k => w.heap.size < k) _ L3 (a8) (IntKind.u64.wrap a8) 4 4 w w3 (by first | rfl | (rw [wrap_u64]; omega)) rfl (by omega) (by omega) HB.out HO.out
  go_wp2_with fail
  go_at_call 57
  (with_reducible refine hcall.mono ?_)
  clear hcall z0 z1 z2 z3 z4 z5 z6 z7 z8 z9 y0 y1 y2 y3 y4 y5 y6 y7 y8 y9
  rintro e w4 ⟨v4, rfl, ho, hb, hk⟩
  have HO' := iC.mk (Kd.R_mono (ok' := fun k => w.heap.size < k) ho (fun k h => h.elim id (fun h => Nat.lt_of_lt_of_le (jR HX.out) h)))
  have HX' := iC.mk (kR hk HX.out)
  have HB' := iC.mk hb
  clear ho hb hk HO HX HB
  obtain ⟨HO, HX, HB⟩ : _ ∧ _ ∧ _ := ⟨HO', HX', HB'⟩
  clear HO' HX' HB'
  obtain ⟨Ao, co, rfl⟩ := Kd.R_slice HO.out
  obtain ⟨L4, hL⟩ : ∃ l, l = L3 ++ nums (layB a8 4) := ⟨_, rfl⟩
  have hn4 : L4.length ≤ 13 := by rw [hL]; simp only [List.length_append, jH, iP]; omega
  rw [← hL] at HO ⊢
  have HL4 := iC.mk hL
  clear hL hn3
  obtain ⟨z0, z1, z2, z3, z4, z5, z6, z7, z8, z9, y0, y1, y2, y3, y4, y5, y6, y7, y8, y9⟩ := ten HX.out
  have hcall := JC (fun k => w.heap.size < k) _ L4 A9 c9 l9 w w4 (by omega) HB.out HO.out (fun k h => Nat.le_of_lt h) H9.out d9
  go_wp2_with fail
  go_at_call 60
  (with_reducible refine hcall.mono ?_)
  clear hcall z0 z1 z2 z3 z4 z5 z6 z7 z8 z9 y0 y1 y2 y3 y4 y5 y6 y7 y8 y9
  rintro e w5 ⟨v5, rfl, ho, hb, hk⟩
  have HO' := iC.mk (Kd.R_mono (ok' := fun k => w.heap.size < k) ho (fun k h => h.elim id (fun h => Nat.lt_of_lt_of_le (jR HX.out) h)))
  have HX' := iC.mk (kR hk HX.out)
  have HB' := iC.mk hb
  clear ho hb hk HO HX HB
  obtain ⟨HO, HX, HB⟩ : _ ∧ _ ∧ _ := ⟨HO', HX', HB'⟩
  clear HO' HX' HB'
  obtain ⟨Ao, co, rfl⟩ := Kd.R_slice HO.out
  obtain ⟨L5, hL⟩ : ∃ l, l = L4 ++ nums (kN l9) := ⟨_, rfl⟩
  have hn5 : L5.length ≤ 25040017 := by rw [hL]; simp only [List.length_append, jH, iP]; omega
  rw [← hL] at HO ⊢
  have HL5 := iC.mk hL
  clear hL hn4
  obtain ⟨z0, z1, z2, z3, z4, z5, z6, z7, z8, z9, y0, y1, y2, y3, y4, y5, y6, y7, y8, y9⟩ := ten HX.out
  have HLX := iC.mk (show L5 = nums X from by rw [HL5.out, HL4.out, HL3.out, HL2.out, HL1.out, HXX.out, WP]; simp only [List.nil_append, nums_append]; rfl)
  by_cases hq : (60000 : Int) < (L5.length : Int)
  · have HP : iC (r = ([], 3)) := ⟨by rw [HRR.out, if_pos (by rw [HLX.out, jH] at hq; omega)]⟩
    go_wp2_with fail
    go_ret2
    rw [HP.out]
    exact ⟨_, rfl, Kd.R_nil _ _ _ _ _, HB.out⟩
  · have HP : iC (r = (nums X, 0)) := ⟨by rw [HRR.out, if_neg (by rw [HLX.out, jH] at hq; omega)]⟩
    go_wp2_with fail
    go_ret2
    rw [HP.out]
    exact ⟨_, rfl, by rw [← HLX.out]; exact Kd.R_mono HO.out (fun _ _ => trivial), HB.out⟩
set_option maxHeartbeats 8000000 in
set_option maxRecDepth 20000 in
theorem PZ (hs : jM ⟨6, a1, a2, l3, l4, ⟨a5, l6⟩, a7, a8, l9⟩ = true) : Calls Tryd.prog 18 #[.agg #[.int .u8 6, .int .u32 a1, .int .u32 a2, .slice A3 l3.length c3, .slice A4 l4.length c4, .int .u32 a5, .slice A6 l6.length c6, .int .i64 a7, .int .i64 a8, .slice A9 l9.length c9]] w (nU w (encR ⟨6, a1, a2, l3, l4, ⟨a5, l6⟩, a7, a8, l9⟩)) := by
  obtain ⟨kk, hsk⟩ := (oH 6 a1 a2 l3 l4 a5 l6 a7 a8 l9 (oK h3 h4 h6 h9)).rounds
  rw [hs] at hsk
  have H3 := iC.mk h3; have H4 := iC.mk h4; have H6 := iC.mk h6; have H9 := iC.mk h9
  have hbw : Below w.heap.size w (w.alloc (.cells #[.int .u8 6, .int .u32 a1, .int .u32 a2, .slice A3 l3.length c3, .slice A4 l4.length c4, .int .u32 a5, .slice A6 l6.length c6, .int .i64 a7, .int .i64 a8, .slice A9 l9.length c9] 30)) := iF (Below.refl _ _) _
  have hsnd := stratumref07_Sound.calls kk 6 a1 a2 A3 c3 l3 A4 c4 l4 a5 A6 c6 l6 a7 a8 A9 c9 l9 true (w.alloc (.cells #[.int .u8 6, .int .u32 a1, .int .u32 a2, .slice A3 l3.length c3, .slice A4 l4.length c4, .int .u32 a5, .slice A6 l6.length c6, .int .i64 a7, .int .i64 a8, .slice A9 l9.length c9] 30)) (Kd.C_below h3 hbw) d3 (Kd.C_below h4 hbw) d4 (Kd.C_below h6 hbw) d6 (Kd.C_below h9 hbw) d9 hsk
  have HS := iC.mk hs
  have q6 : l6.length ≤ 40 := by
    have h := HS.out
    rw [QL, Bool.and_eq_true, Bool.and_eq_true, Bool.and_eq_true] at h
    have := of_decide_eq_true h.1.1.2
    omega
  unfold encR
  rw [if_pos HS.out]
  obtain ⟨X, hX⟩ : ∃ X : List UInt8, X = recE ⟨6, a1, a2, l3, l4, ⟨a5, l6⟩, a7, a8, l9⟩ := ⟨_, rfl⟩
  rw [← hX]
  have HXX := iC.mk hX
  obtain ⟨r, hr⟩ : ∃ r : List Int × Int, r = (if 60000 < X.length then ([], 3) else (nums X, 0)) := ⟨_, rfl⟩
  rw [← hr]
  have HRR := iC.mk hr
  clear hr hs hX hsk hbw h3 h4 h6 h9
  go_enter Tryd.func18, Tryd.ntmps18
  go_wp2_with fail
  go_at_call 20
  (with_reducible refine hsnd.mono ?_)
  clear hsnd
  rintro e w0 ⟨rfl, hb1⟩
  have hB0 : Below w.heap.size w w0 := iI (iF (Below.refl _ _) _) hb1
  have hX0 : w0.heap[w.heap.size]? = some (.cells #[.int .u8 6, .int .u32 a1, .int .u32 a2, .slice A3 l3.length c3, .slice A4 l4.length c4, .int .u32 a5, .slice A6 l6.length c6, .int .i64 a7, .int .i64 a8, .slice A9 l9.length c9] 30 (0, 0)) := iL hb1 (iV rfl)
  obtain ⟨z0, z1, z2, z3, z4, z5, z6, z7, z8, z9, y0, y1, y2, y3, y4, y5, y6, y7, y8, y9⟩ := ten hX0
  have HO := iC.mk (IR w0 w.heap.size 6 w.heap.size hB0.size (jR hX0))
  have HB := iC.mk (iF hB0 (.cells #[.int .u8 6] 5))
  have HX := iC.mk (jI (o := .cells #[.int .u8 6] 5) hX0)
  have HW1 := iC.mk (show w0.alloc (.cells #[.int .u8 6] 5) = w0.alloc (.cells #[.int .u8 6] 5) from rfl)
  clear hb1 hB0 hX0
  go_upto_region 4 with fail
  clear z0 z1 z2 z3 z4 z5 z6 z7 z8 z9 y0 y1 y2 y3 y4 y5 y6 y7 y8 y9
  obtain ⟨w1, hw1⟩ : ∃ x, x = w0.alloc (.cells #[.int .u8 6] 5) := ⟨_, rfl⟩
  rw [← hw1] at HO HB HX ⊢
  clear HW1
  have HW1 := iC.mk hw1
  clear hw1
  obtain ⟨L1, hL⟩ : ∃ l, l = [(6 : Int)] := ⟨_, rfl⟩
  have hn1 : L1.length ≤ 1 := by rw [hL]; simp
  rw [← hL] at HO
  have HL1 := iC.mk hL
  clear hL
  obtain ⟨z0, z1, z2, z3, z4, z5, z6, z7, z8, z9, y0, y1, y2, y3, y4, y5, y6, y7, y8, y9⟩ := ten HX.out
  have hcall := kV (fun k => w.heap.size < k) (.slice (some ⟨w0.heap.size, 0, none⟩) 1 1) L1 (a1) (IntKind.u64.wrap a1) 4 4 w w1 (by first | rfl | (rw [wrap_u64]; omega)) rfl (by omega) (by omega) HB.out HO.out
  go_wp2_with fail
  go_at_call 57
  (with_reducible refine hcall.mono ?_)
  clear hcall z0 z1 z2 z3 z4 z5 z6 z7 z8 z9 y0 y1 y2 y3 y4 y5 y6 y7 y8 y9
  rintro e w2 ⟨v2, rfl, ho, hb, hk⟩
  have HO' := iC.mk (Kd.R_mono (ok' := fun k => w.heap.size < k) ho (fun k h => h.elim id (fun h => Nat.lt_of_lt_of_le (jR HX.out) h)))
  have HX' := iC.mk (kR hk HX.out)
  have HB' := iC.mk hb
  clear ho hb hk HO HX HB
  obtain ⟨HO, HX, HB⟩ : _ ∧ _ ∧ _ := ⟨HO', HX', HB'⟩
  clear HO' HX' HB'
  obtain ⟨Ao, co, rfl⟩ := Kd.R_slice HO.out
  obtain ⟨L2, hL⟩ : ∃ l, l = L1 ++ nums (layB a1 4) := ⟨_, rfl⟩
  have hn2 : L2.length ≤ 5 := by rw [hL]; simp only [List.length_append, jH, iP]; omega
  rw [← hL] at HO ⊢
  have HL2 := iC.mk hL
  clear hL hn1
  obtain ⟨z0, z1, z2, z3, z4, z5, z6, z7, z8, z9, y0, y1, y2, y3, y4, y5, y6, y7, y8, y9⟩ := ten HX.out
  have hcall := kV (fun k => w.heap.size < k) _ L2 (a5) (IntKind.u64.wrap a5) 4 4 w w2 (by first | rfl | (rw [wrap_u64]; omega)) rfl (by omega) (by omega) HB.out HO.out
  go_wp2_with fail
  go_at_call 57
  (with_reducible refine hcall.mono ?_)
  clear hcall z0 z1 z2 z3 z4 z5 z6 z7 z8 z9 y0 y1 y2 y3 y4 y5 y6 y7 y8 y9
  rintro e w3 ⟨v3, rfl, ho, hb, hk⟩
  have HO' := iC.mk (Kd.R_mono (ok' := fun k => w.heap.size < k) ho (fun k h => h.elim id (fun h => Nat.lt_of_lt_of_le (jR HX.out) h)))
  have HX' := iC.mk (kR hk HX.out)
  have HB' := iC.mk hb
  clear ho hb hk HO HX HB
  obtain ⟨HO, HX, HB⟩ : _ ∧ _ ∧ _ := ⟨HO', HX', HB'⟩
  clear HO' HX' HB'
  obtain ⟨Ao, co, rfl⟩ := Kd.R_slice HO.out
  obtain ⟨L3, hL⟩ : ∃ l, l = L2 ++ nums (layB a5 4) := ⟨_, rfl⟩
  have hn3 : L3.length ≤ 9 := by rw [hL]; simp only [List.length_append, jH, iP]; omega
  rw [← hL] at HO ⊢
  have HL3 := iC.mk hL
  clear hL hn2
  obtain ⟨z0, z1, z2, z3, z4, z5, z6, z7, z8, z9, y0, y1, y2, y3, y4, y5, y6, y7, y8, y9⟩ := ten HX.out
  have hcall := kV (fun k => w.heap.size < k) _ L3 ((l6.length : Int)) ((l6.length : Int)) 1 1 w w3 (by first | rfl | (rw [wrap_u64]; omega)) rfl (by omega) (by omega) HB.out HO.out
  go_wp2_with fail
  go_at_call 57
  (with_reducible refine hcall.mono ?_)
  clear hcall z0 z1 z2 z3 z4 z5 z6 z7 z8 z9 y0 y1 y2 y3 y4 y5 y6 y7 y8 y9
  rintro e w4 ⟨v4, rfl, ho, hb, hk⟩
  have HO' := iC.mk (Kd.R_mono (ok' := fun k => w.heap.size < k) ho (fun k h => h.elim id (fun h => Nat.lt_of_lt_of_le (jR HX.out) h)))
  have HX' := iC.mk (kR hk HX.out)
  have HB' := iC.mk hb
  clear ho hb hk HO HX HB
  obtain ⟨HO, HX, HB⟩ : _ ∧ _ ∧ _ := ⟨HO', HX', HB'⟩
  clear HO' HX' HB'
  obtain ⟨Ao, co, rfl⟩ := Kd.R_slice HO.out
  obtain ⟨L4, hL⟩ : ∃ l, l = L3 ++ nums (layB (l6.length : Int) 1) := ⟨_, rfl⟩
  have hn4 : L4.length ≤ 10 := by rw [hL]; simp only [List.length_append, jH, iP]; omega
  rw [← hL] at HO ⊢
  have HL4 := iC.mk hL
  clear hL hn3
  obtain ⟨z0, z1, z2, z3, z4, z5, z6, z7, z8, z9, y0, y1, y2, y3, y4, y5, y6, y7, y8, y9⟩ := ten HX.out
  go_wp2_with fail
  clear z0 z1 z2 z3 z4 z5 z6 z7 z8 z9 y0 y1 y2 y3 y4 y5 y6 y7 y8 y9
  go_loopg [4, 5] l6.length (fun gg s4 s5 wr => ∃ k : Nat, k ≤ l6.length ∧ l6.length - k ≤ gg ∧ s5 = .int .i64 k ∧ iC (Kd.R (Kd.int .u8) 5 wr w.heap.size (fun k => w.heap.size < k) s4 (L4 ++ nums ((l6.take k).flatMap nK))) ∧ iC (Below w.heap.size w wr) ∧ iC (wr.heap[w.heap.size]? = some (.cells #[.int .u8 6, .int .u32 a1, .int .u32 a2, .slice A3 l3.length c3, .slice A4 l4.length c4, .int .u32 a5, .slice A6 l6.length c6, .int .i64 a7, .int .i64 a8, .slice A9 l9.length c9] 30 (0, 0))))
  case atStart => exact ⟨0, Nat.zero_le _, by omega, rfl, ⟨by simpa [nums] using HO.out⟩, HB, HX⟩
  case round =>
    clear HO HB HX
    obtain ⟨k, hk, hg, rfl, HO, HB, HX⟩ := hrel
    obtain ⟨Ao, co, rfl⟩ := Kd.R_slice HO.out
    by_cases hlt : k < l6.length
    · have HT := iC.mk (kL nK z98 l6 k hlt)
      obtain ⟨w5, rfl⟩ : ∃ x : World, x = wr := ⟨_, rfl⟩
      obtain ⟨L5, hL⟩ : ∃ L, L = L4 ++ nums ((l6.take k).flatMap nK) := ⟨_, rfl⟩
      have hn5 : L5.length ≤ 210 := by rw [hL]; have h1 := nZ nK l6 k; rw [vK l6] at h1; simp only [List.length_append, jH]; omega
      rw [← hL] at HO ⊢
      have HL5 := iC.mk hL
      clear hL
      obtain ⟨ad, eA, gx0, gx1⟩ := mW H6.out k (by omega) (by omega)
      cases eA
      simp only [Int.toNat_natCast] at gx0 gx1
      have hx0 := kC HB.out gx0
      have hx1 := kC HB.out gx1
      have HG := iC.mk (And.intro gx0 gx1)
      clear gx0 gx1
      have HSP := iC.mk (show kG l6 k = l6.getD k z98 from by unfold kG; rw [Int.toNat_natCast])
      generalize kG l6 k = sp at HSP hx0 hx1 HG ⊢
      obtain ⟨z0, z1, z2, z3, z4, z5, z6, z7, z8, z9, y0, y1, y2, y3, y4, y5, y6, y7, y8, y9⟩ := ten HX.out
      have hcall := kV (fun k => w.heap.size < k) _ L5 (sp.f0) (IntKind.u64.wrap sp.f0) 4 4 w w5 (by first | rfl | (rw [wrap_u64]; omega)) rfl (by omega) (by omega) HB.out HO.out
      go_wp2_with fail
      go_at_call 57
      (with_reducible refine hcall.mono ?_)
      clear hcall z0 z1 z2 z3 z4 z5 z6 z7 z8 z9 y0 y1 y2 y3 y4 y5 y6 y7 y8 y9
      rintro e w6 ⟨v6, rfl, ho, hb, hk⟩
      have HO' := iC.mk (Kd.R_mono (ok' := fun k => w.heap.size < k) ho (fun k h => h.elim id (fun h => Nat.lt_of_lt_of_le (jR HX.out) h)))
      have HX' := iC.mk (kR hk HX.out)
      have HB' := iC.mk hb
      clear ho hb hk HO HX HB
      obtain ⟨HO, HX, HB⟩ : _ ∧ _ ∧ _ := ⟨HO', HX', HB'⟩
      clear HO' HX' HB'
      obtain ⟨Ao, co, rfl⟩ := Kd.R_slice HO.out
      obtain ⟨L6, hL⟩ : ∃ l, l = L5 ++ nums (layB sp.f0 4) := ⟨_, rfl⟩
      have hn6 : L6.length ≤ 214 := by rw [hL]; simp only [List.length_append, jH, iP]; omega
      rw [← hL] at HO ⊢
      have HL6 := iC.mk hL
      clear hL hn5
      clear hx0 hx1
      have hx0 := kC HB.out HG.out.1
      have hx1 := kC HB.out HG.out.2
      obtain ⟨z0, z1, z2, z3, z4, z5, z6, z7, z8, z9, y0, y1, y2, y3, y4, y5, y6, y7, y8, y9⟩ := ten HX.out
      have hcall := kV (fun k => w.heap.size < k) _ L6 (sp.f1) (IntKind.u64.wrap sp.f1) 1 1 w w6 (by first | rfl | (rw [wrap_u64]; omega)) rfl (by omega) (by omega) HB.out HO.out
      go_wp2_with fail
      go_at_call 57
      (with_reducible refine hcall.mono ?_)
      clear hcall z0 z1 z2 z3 z4 z5 z6 z7 z8 z9 y0 y1 y2 y3 y4 y5 y6 y7 y8 y9
      rintro e w7 ⟨v7, rfl, ho, hb, hk⟩
      have HO' := iC.mk (Kd.R_mono (ok' := fun k => w.heap.size < k) ho (fun k h => h.elim id (fun h => Nat.lt_of_lt_of_le (jR HX.out) h)))
      have HX' := iC.mk (kR hk HX.out)
      have HB' := iC.mk hb
      clear ho hb hk HO HX HB
      obtain ⟨HO, HX, HB⟩ : _ ∧ _ ∧ _ := ⟨HO', HX', HB'⟩
      clear HO' HX' HB'
      obtain ⟨Ao, co, rfl⟩ := Kd.R_slice HO.out
      obtain ⟨L7, hL⟩ : ∃ l, l = L6 ++ nums (layB sp.f1 1) := ⟨_, rfl⟩
      have hn7 : L7.length ≤ 215 := by rw [hL]; simp only [List.length_append, jH, iP]; omega
      rw [← hL] at HO ⊢
      have HL7 := iC.mk hL
      clear hL hn6
      clear hx0 hx1
      have HE := iC.mk (show L7 = L4 ++ nums ((l6.take (k + 1)).flatMap nK) from by rw [HT.out, ← HSP.out, HL7.out, HL6.out, HL5.out]; unfold nK; simp only [nums_append, List.append_assoc])
      go_wp2_with fail
      go_roundg (l6.length - (k + 1))
      case measure => omega
      case rel => exact ⟨k + 1, by omega, by omega, by go_num, ⟨by rw [← HE.out]; exact HO.out⟩, HB, HX⟩
    · have : k = l6.length := by omega
      subst this
      obtain ⟨w5, rfl⟩ : ∃ x : World, x = wr := ⟨_, rfl⟩
      obtain ⟨L5, hL⟩ : ∃ L, L = L4 ++ nums (l6.flatMap nK) := ⟨_, rfl⟩
      rw [List.take_length] at HO ⊢
      rw [← hL] at HO ⊢
      have HL5 := iC.mk hL
      clear hL
      obtain ⟨z0, z1, z2, z3, z4, z5, z6, z7, z8, z9, y0, y1, y2, y3, y4, y5, y6, y7, y8, y9⟩ := ten HX.out
      have HLX := iC.mk (show L5 = nums X from by rw [HL5.out, HL4.out, HL3.out, HL2.out, HL1.out, HXX.out, WI]; simp only [List.nil_append, nums_append]; rfl)
      by_cases hq : (60000 : Int) < (L5.length : Int)
      · have HP : iC (r = ([], 3)) := ⟨by rw [HRR.out, if_pos (by rw [HLX.out, jH] at hq; omega)]⟩
        go_wp2_with fail
        go_ret2
        rw [HP.out]
        exact ⟨_, rfl, Kd.R_nil _ _ _ _ _, HB.out⟩
      · have HP : iC (r = (nums X, 0)) := ⟨by rw [HRR.out, if_neg (by rw [HLX.out, jH] at hq; omega)]⟩
        go_wp2_with fail
        go_ret2
        rw [HP.out]
        exact ⟨_, rfl, by rw [← HLX.out]; exact Kd.R_mono HO.out (fun _ _ => trivial), HB.out⟩
end
end Go.Proofs.YtgfkgppomaapiaaDoor.K
end

section
namespace Go.Proofs.YtgfkgppomaapiaaDoor.My
open Go Go.RowKit Go.Deep Go.ChangeShapes Go.WideShapes Go.ChangeAt Go.Proofs.YtgfkgppomaapiaaDoorW.PrintWords
def Came {α : Type} (d : Kd α) (t : TypeId) (ok : α → Prop) (wt : α → Nat) : Prop :=
  ∀ {H : Type} (enc : TypeId × Value → H) (w : World) (fuel : Nat) (cs : List Value) (x : DataW H × List MemPlace), DataW.trod enc Tryd.prog w 0 (fun _ => true) true fuel t cs = some x → ∃ v : α, d.K w v cs ∧ ok v ∧ wt v ≤ Rows.uptoBulk x.1
theorem mQ {k : IntKind} {t : TypeId} (ht : Tryd.prog.underlying t = some (.int k)) : Came (Kd.int k) t (fun n => (Lit.int k n).wf = true) (fun _ => 1) := by
  intro H enc w fuel cs x h
  obtain ⟨n, rfl, hx, hw⟩ := DataW.trod_int ht h
  exact ⟨n, rfl, hw, by rw [hx]; simp [Rows.uptoBulk]⟩
def qC {α : Type} (wt : α → Nat) (l : List α) : Nat := (l.map wt).sum
theorem O6 {α : Type} (wt : α → Nat) (x : α) (l : List α) : qC wt (x :: l) = wt x + qC wt l := by simp [qC]
theorem U2 {α : Type} [Inhabited α] {n : Nat} {p : Nat → α → Prop} (h : ∀ i, i < n → ∃ x, p i x) : ∃ f : Nat → α, ∀ i, i < n → p i (f i) := by
  classical
  refine ⟨fun i => if h' : i < n then Classical.choose (h i h') else default, fun i hi => ?_⟩
  simp only [dif_pos hi]
  exact Classical.choose_spec (h i hi)
theorem QV {w : World} {a : Addr} {n : Nat} {cs : List Value} (h : w.cells? 0 a n = some cs) (i : Nat) (v : Value) (hi : cs[i]? = some v) : w.cell? (a.add i) = some v := by
  obtain ⟨_, hl, hc⟩ := World.cells?_some h
  have hil : i < n := by have := (List.getElem?_eq_some_iff.1 hi).1; omega
  rw [hc i hil]
  exact hi
theorem qW {α : Type} [Inhabited α] {d : Kd α} {t e : TypeId} {ok : α → Prop} {wt : α → Nat} (ht : Tryd.prog.underlying t = some (.slice e)) (hc : Tryd.prog.cellsOf e = d.sz) (he : Came d e ok wt) :
    Came (Kd.slice e d) t (fun l => ∀ x ∈ l, ok x) (fun l => qC wt l + 1) := by
  intro H enc w fuel cs x h
  rcases open_slice ht h with ⟨rfl, rfl⟩ | ⟨ad, len, cap, m, n, D, Pl, rfl, _, hl, hmax, hm, rfl, hel⟩
  · exact ⟨[], ⟨none, 0, rfl, Nat.le_refl _, ⟨rfl, by simp, fun h => absurd h (Nat.lt_irrefl 0)⟩⟩, (by simp), by simp [qC, Rows.uptoBulk]⟩
  · have hlm : len ≤ m := by rw [hm]; simp; exact hl
    have one : ∀ i, i < len → ∃ v : α, (∃ cs', w.cells? 0 (ad.add (i * Tryd.prog.cellsOf e)) (Tryd.prog.cellsOf e) = some cs' ∧ d.K w v cs') ∧ ok v ∧ wt v ≤ Rows.uptoBulk (D i) := by
      intro i hi
      obtain ⟨cs', h1, h2⟩ := hel i (by omega)
      obtain ⟨v, h3, h4, h5⟩ := he enc w n cs' _ h2
      exact ⟨v, ⟨cs', h1, h3⟩, h4, h5⟩
    obtain ⟨L, hL⟩ := U2 one
    have hlen : ((List.range len).map L).length = len := by simp
    refine ⟨(List.range len).map L, ⟨some ad, cap, by rw [hlen], by rw [hlen]; exact hl, ?_⟩, ?_, ?_⟩
    · rw [hlen]
      refine ⟨hlen, by unfold maxLen at hmax; omega, fun _ => ⟨ad, rfl, fun j p hj => ?_⟩⟩
      have hjl : j < len := by have := (List.getElem?_eq_some_iff.1 hj).1; simpa using this
      have hp : p = L j := by
        rw [List.getElem?_map, List.getElem?_range hjl] at hj
        simp only [Option.map_some, Option.some.injEq] at hj
        exact hj.symm
      subst hp
      obtain ⟨⟨cs', h1, h2⟩, _, _⟩ := hL j hjl
      rw [hc] at h1
      refine ⟨cs', d.K_len h2, h2, fun i u hi => ?_⟩
      have := QV h1 i u hi
      rwa [Go.Deep.add_add] at this
    · intro y hy
      obtain ⟨i, hi, rfl⟩ := List.mem_map.1 hy
      exact (hL i (List.mem_range.1 hi)).2.1
    · have key : ∀ is : List Nat, (∀ i ∈ is, i < len) → qC wt (is.map L) ≤ Rows.uptoBulkAll (is.map D) := by
        intro is
        induction is with
        | nil => intro _; simp [qC, Rows.uptoBulkAll]
        | cons i is ih =>
          intro hi
          have h3 := ih (fun k hk => hi k (List.mem_cons_of_mem _ hk))
          have h4 := (hL i (hi i List.mem_cons_self)).2.2
          rw [List.map_cons, List.map_cons, O6]
          simp only [Rows.uptoBulkAll]
          omega
      have := key (List.range len) (fun i hi => List.mem_range.1 hi)
      simp only [Rows.uptoBulk]
      omega
theorem uT {α β : Type} {da : Kd α} {db : Kd β} {t : TypeId} {f0 f1 : Field} {oka : α → Prop} {okb : β → Prop} {wta : α → Nat} {wtb : β → Nat} (ht : Tryd.prog.underlying t = some (.struct #[f0, f1])) (ct : Tryd.prog.cellsOf t = da.sz + db.sz)
    (h0 : f0.offset = 0) (h1 : f1.offset = da.sz) (c0 : Tryd.prog.cellsOf f0.type = da.sz) (c1 : Tryd.prog.cellsOf f1.type = db.sz) (A : Came da f0.type oka wta) (B : Came db f1.type okb wtb) :
    Came (Kd.pair da db) t (fun x => oka x.1 ∧ okb x.2) (fun x => wta x.1 + wtb x.2 + 1) := by
  intro H enc w fuel cs x h
  obtain ⟨y0, y1, n, rfl, hl, e0, e1⟩ := trod_struct2 ht h
  rw [h0, c0, List.drop_zero] at e0
  rw [h1, c1] at e1
  obtain ⟨v0, k0, o0, b0⟩ := A enc w n _ _ e0
  obtain ⟨v1, k1, o1, b1⟩ := B enc w n _ _ e1
  refine ⟨(v0, v1), ⟨_, _, ?_, k0, k1⟩, ⟨o0, o1⟩, ?_⟩
  · rw [List.take_of_length_le (l := cs.drop da.sz) (by rw [List.length_drop]; omega), List.take_append_drop]
  · simp only [Rows.uptoBulk, Rows.uptoBulkAll]
    omega
theorem zX {α β : Type} {d : Kd α} {t : TypeId} {ok : α → Prop} {wt : α → Nat} (f : β → α) (g : α → β) (hfg : ∀ x, f (g x) = x) (h : Came d t ok wt) : Came (Kd.iso d f) t (fun y => ok (f y)) (fun y => wt (f y)) := by
  intro H enc w fuel cs x hx
  obtain ⟨v, h1, h2, h3⟩ := h enc w fuel cs x hx
  exact ⟨g v, by show d.K w (f (g v)) cs; rw [hfg]; exact h1, by show ok (f (g v)); rw [hfg]; exact h2, by show wt (f (g v)) ≤ _; rw [hfg]; exact h3⟩
theorem qF {α : Type} {d : Kd α} {t : TypeId} {ok ok' : α → Prop} {wt : α → Nat} (h : Came d t ok wt) (hok : ∀ x, ok x → ok' x) : Came d t ok' wt := by
  intro H enc w fuel cs x hx
  obtain ⟨v, h1, h2, h3⟩ := h enc w fuel cs x hx
  exact ⟨v, h1, hok v h2, h3⟩
end Go.Proofs.YtgfkgppomaapiaaDoor.My
end

section
namespace Go.Proofs.YtgfkgppomaapiaaDoor.K
open Go Go.RowKit Go.Deep Go.ChangeShapes Go.WideShapes Go.ChangeAt Go.Proofs.YtgfkgppomaapiaaDoorW.PrintWords Go.Proofs.YtgfkgppomaapiaaDoor.My
instance : Inhabited jO := ⟨⟨[], 0⟩⟩
instance : Inhabited jJ := ⟨⟨0, []⟩⟩
instance : Inhabited kD := ⟨⟨0, 0⟩⟩
def I64 (n : Int) : Prop := -9223372036854775808 ≤ n ∧ n < 9223372036854775808
def NJ (f : jO) : Prop := (∀ v ∈ f.f0, I64 v) ∧ I64 f.f1
def J9 (e : jJ) : Prop := (0 ≤ e.f0 ∧ e.f0 < 4294967296) ∧ ∀ f ∈ e.f1, NJ f
def UK (s : kD) : Prop := I64 s.f0 ∧ I64 s.f1
def wtI (_ : Int) : Nat := 1
def wtF (f : jO) : Nat := qC wtI f.f0 + 1 + 1 + 1
def wtE (e : jJ) : Nat := 1 + (qC wtF e.f1 + 1) + 1
def wtS (_ : kD) : Nat := 3
theorem yU {n : Int} (h : (Lit.int .i64 n).wf = true) : I64 n := by have := wf_i64 h; unfold I64; omega
theorem came_ints : Came (Kd.slice 3 (Kd.int .i64)) 23 (fun l => ∀ v ∈ l, I64 v) (fun l => qC wtI l + 1) :=
  qF (qW (wt := wtI) Tryd.underlying23 (by kernel_rfl) (mQ Tryd.underlying3)) (fun _ h x hx => yU (h x hx))
theorem TG : Came k139 139 NJ wtF :=
  qF (zX (fun x : jO => (x.f0, x.f1)) (fun p => ⟨p.1, p.2⟩) (fun _ => rfl) (uT Tryd.underlying139 (by kernel_rfl) rfl rfl (by kernel_rfl) (by kernel_rfl) came_ints (mQ Tryd.underlying2))) (fun _ h => ⟨h.1, yU h.2⟩)
theorem zJ : Came (Kd.slice 139 k139) 24 (fun l => ∀ v ∈ l, NJ v) (fun l => qC wtF l + 1) :=
  qW Tryd.underlying24 (by kernel_rfl) TG
theorem NQ : Came k86 86 J9 wtE :=
  qF (zX (fun x : jJ => (x.f0, x.f1)) (fun p => ⟨p.1, p.2⟩) (fun _ => rfl) (uT Tryd.underlying86 (by kernel_rfl) rfl rfl (by kernel_rfl) (by kernel_rfl) (mQ Tryd.underlying22) zJ)) (fun _ h => ⟨wf_u32 h.1, h.2⟩)
theorem J6 : Came (Kd.slice 86 k86) 28 (fun l => ∀ v ∈ l, J9 v) (fun l => qC wtE l + 1) :=
  qW Tryd.underlying28 (by kernel_rfl) NQ
theorem TB : Came k98 98 UK wtS :=
  qF (zX (fun x : kD => (x.f0, x.f1)) (fun p => ⟨p.1, p.2⟩) (fun _ => rfl) (uT Tryd.underlying98 (by kernel_rfl) rfl rfl (by kernel_rfl) (by kernel_rfl) (mQ Tryd.underlying3) (mQ Tryd.underlying3))) (fun _ h => ⟨yU h.1, yU h.2⟩)
theorem NS : Came (Kd.slice 98 k98) 25 (fun l => ∀ v ∈ l, UK v) (fun l => qC wtS l + 1) :=
  qW Tryd.underlying25 (by kernel_rfl) TB
theorem U1 : Came (Kd.pair (Kd.int .u32) (Kd.slice 98 k98)) 27 (fun m => (0 ≤ m.1 ∧ m.1 < 4294967296) ∧ ∀ v ∈ m.2, UK v) (fun m => 1 + (qC wtS m.2 + 1) + 1) :=
  qF (uT Tryd.underlying27 (by kernel_rfl) rfl rfl (by kernel_rfl) (by kernel_rfl) (mQ Tryd.underlying22) NS) (fun _ h => ⟨wf_u32 h.1, h.2⟩)
theorem oJ {α : Type} {n : Nat} : ∀ {l : List α}, l.length = n + 1 → ∃ x t, l = x :: t ∧ t.length = n
  | x :: t, h => ⟨x, t, rfl, by simpa using h⟩
theorem UA {α : Type} {l : List α} (h : l.length = 10) : ∃ z0 z1 z2 z3 z4 z5 z6 z7 z8 z9, l = [z0, z1, z2, z3, z4, z5, z6, z7, z8, z9] := by
  obtain ⟨z0, l0, rfl, h0⟩ := oJ h
  obtain ⟨z1, l1, rfl, h1⟩ := oJ h0
  obtain ⟨z2, l2, rfl, h2⟩ := oJ h1
  obtain ⟨z3, l3, rfl, h3⟩ := oJ h2
  obtain ⟨z4, l4, rfl, h4⟩ := oJ h3
  obtain ⟨z5, l5, rfl, h5⟩ := oJ h4
  obtain ⟨z6, l6, rfl, h6⟩ := oJ h5
  obtain ⟨z7, l7, rfl, h7⟩ := oJ h6
  obtain ⟨z8, l8, rfl, h8⟩ := oJ h7
  obtain ⟨z9, l9, rfl, h9⟩ := oJ h8
  have := List.eq_nil_of_length_eq_zero h9
  subst this
  exact ⟨z0, z1, z2, z3, z4, z5, z6, z7, z8, z9, rfl⟩
def XF (w : World) (r : SRec) (cs : List Value) : Prop :=
  ∃ A3 c3 A4 c4 A6 c6 A9 c9, cs = [.int .u8 r.f0, .int .u32 r.f1, .int .u32 r.f2, .slice A3 r.f3.length c3, .slice A4 r.f4.length c4, .int .u32 r.f5.f0, .slice A6 r.f5.f1.length c6, .int .i64 r.f6, .int .i64 r.f7, .slice A9 r.f8.length c9] ∧
    (Kd.int .i64).C w A3 r.f3.length r.f3 ∧ r.f3.length ≤ c3 ∧ k139.C w A4 r.f4.length r.f4 ∧ r.f4.length ≤ c4 ∧ k98.C w A6 r.f5.f1.length r.f5.f1 ∧ r.f5.f1.length ≤ c6 ∧ k86.C w A9 r.f8.length r.f8 ∧ r.f8.length ≤ c9
structure RecW (r : SRec) : Prop where
  ok : WH r
  n3 : ∀ v ∈ r.f3, I64 v
  n4 : ∀ f ∈ r.f4, NJ f
  n6 : ∀ s ∈ r.f5.f1, UK s
  n7 : I64 r.f6
  n8 : I64 r.f7
  n9 : ∀ e ∈ r.f8, J9 e
def wtR (r : SRec) : Nat := qC wtI r.f3 + qC wtF r.f4 + qC wtS r.f5.f1 + qC wtE r.f8
theorem rec_of_trod {H : Type} (enc : TypeId × Value → H) {w : World} {fuel : Nat} {cs : List Value} {x : DataW H × List MemPlace} (h : DataW.trod enc Tryd.prog w 0 (fun _ => true) true fuel 30 cs = some x) :
    ∃ r : SRec, XF w r cs ∧ RecW r ∧ wtR r ≤ Rows.uptoBulk x.1 := by
  obtain ⟨xs, n, rfl, rfl, hl, hlen, hf⟩ := DataW.trod_struct Tryd.underlying30 h
  match xs, hlen with
  | [y0, y1, y2, y3, y4, y5, y6, y7, y8], _ =>
    rw [show Tryd.prog.cellsOf 30 = 10 from by kernel_rfl] at hl
    obtain ⟨a0, p0, o0, b0⟩ := mQ Tryd.underlying5 enc w n _ y0 (hf 0 _ rfl)
    obtain ⟨a1, p1, o1, b1⟩ := mQ Tryd.underlying22 enc w n _ y1 (hf 1 _ rfl)
    obtain ⟨a2, p2, o2, b2⟩ := mQ Tryd.underlying22 enc w n _ y2 (hf 2 _ rfl)
    obtain ⟨a3, ⟨A3, c3, p3, q3, r3⟩, o3, b3⟩ := came_ints enc w n _ y3 (hf 3 _ rfl)
    obtain ⟨a4, ⟨A4, c4, p4, q4, r4⟩, o4, b4⟩ := zJ enc w n _ y4 (hf 4 _ rfl)
    obtain ⟨a5, ⟨c50, c51, p5, q5, ⟨A6, c6, p6, q6, r6⟩⟩, o5, b5⟩ := U1 enc w n _ y5 (hf 5 _ rfl)
    obtain ⟨a7, p7, o7, b7⟩ := mQ Tryd.underlying3 enc w n _ y6 (hf 6 _ rfl)
    obtain ⟨a8, p8, o8, b8⟩ := mQ Tryd.underlying3 enc w n _ y7 (hf 7 _ rfl)
    obtain ⟨a9, ⟨A9, c9, p9, q9, r9⟩, o9, b9⟩ := J6 enc w n _ y8 (hf 8 _ rfl)
    have p0 : List.take (Tryd.prog.cellsOf 5) (List.drop 0 cs) = [.int .u8 a0] := p0
    rw [show Tryd.prog.cellsOf 5 = 1 from by kernel_rfl] at p0
    have p1 : List.take (Tryd.prog.cellsOf 22) (List.drop 1 cs) = [.int .u32 a1] := p1
    rw [show Tryd.prog.cellsOf 22 = 1 from by kernel_rfl] at p1
    have p2 : List.take (Tryd.prog.cellsOf 22) (List.drop 2 cs) = [.int .u32 a2] := p2
    rw [show Tryd.prog.cellsOf 22 = 1 from by kernel_rfl] at p2
    have p3 : List.take (Tryd.prog.cellsOf 23) (List.drop 3 cs) = [.slice A3 a3.length c3] := p3
    rw [show Tryd.prog.cellsOf 23 = 1 from by kernel_rfl] at p3
    have p4 : List.take (Tryd.prog.cellsOf 24) (List.drop 4 cs) = [.slice A4 a4.length c4] := p4
    rw [show Tryd.prog.cellsOf 24 = 1 from by kernel_rfl] at p4
    have p5 : List.take (Tryd.prog.cellsOf 27) (List.drop 5 cs) = c50 ++ c51 := p5
    rw [show Tryd.prog.cellsOf 27 = 2 from by kernel_rfl] at p5
    have p7 : List.take (Tryd.prog.cellsOf 3) (List.drop 7 cs) = [.int .i64 a7] := p7
    rw [show Tryd.prog.cellsOf 3 = 1 from by kernel_rfl] at p7
    have p8 : List.take (Tryd.prog.cellsOf 3) (List.drop 8 cs) = [.int .i64 a8] := p8
    rw [show Tryd.prog.cellsOf 3 = 1 from by kernel_rfl] at p8
    have p9 : List.take (Tryd.prog.cellsOf 28) (List.drop 9 cs) = [.slice A9 a9.length c9] := p9
    rw [show Tryd.prog.cellsOf 28 = 1 from by kernel_rfl] at p9
    obtain ⟨z0, z1, z2, z3, z4, z5, z6, z7, z8, z9, rfl⟩ := UA hl
    have s0 : [z0] = [.int .u8 a0] := p0
    have s1 : [z1] = [.int .u32 a1] := p1
    have s2 : [z2] = [.int .u32 a2] := p2
    have s3 : [z3] = [.slice A3 a3.length c3] := p3
    have s4 : [z4] = [.slice A4 a4.length c4] := p4
    have s5 : [z5, z6] = c50 ++ c51 := p5
    have q5 : c50 = [.int .u32 a5.1] := q5
    have s7 : [z7] = [.int .i64 a7] := p7
    have s8 : [z8] = [.int .i64 a8] := p8
    have s9 : [z9] = [.slice A9 a9.length c9] := p9
    rw [q5, p6] at s5
    simp only [List.cons.injEq, and_true, List.cons_append, List.nil_append] at s0 s1 s2 s3 s4 s5 s7 s8 s9
    obtain ⟨rfl, rfl⟩ := s5
    subst s0; subst s1; subst s2; subst s3; subst s4; subst s7; subst s8; subst s9
    refine ⟨⟨a0, a1, a2, a3, a4, ⟨a5.1, a5.2⟩, a7, a8, a9⟩, ⟨A3, c3, A4, c4, A6, c6, A9, c9, rfl, r3, q3, r4, q4, r6, q6, r9, q9⟩, ⟨⟨wf_u8 o0, wf_u32 o1, wf_u32 o2, fun f hf => (o4 f hf).2, o5.1, fun e he => ⟨(o9 e he).1.1, (o9 e he).1.2, fun f hf => ((o9 e he).2 f hf).2⟩⟩, o3, o4, o5.2, yU o7, yU o8, o9⟩, ?_⟩
    simp only at b3 b4 b5 b9
    simp only [wtR, Rows.uptoBulk, Rows.uptoBulkAll, List.map_cons, List.map_nil]
    omega
end Go.Proofs.YtgfkgppomaapiaaDoor.K
end

section
namespace Go.Proofs.YtgfkgppomaapiaaDoor.K
open Go.RowKit Go.Proofs.YtgfkgppomaapiaaDoorW.PrintWords Go.Proofs.YtgfkgppomaapiaaDoorW.PrintLast Go.Proofs.YtgfkgppomaapiaaDoorW.PrintMore
attribute [local go_sem] kH kS
def stratumlaw07_heavy.l0 : Nat → List (S139) → Int → Int → Option (Int)
  | 0, _, _, _ => none
  | k + 1, x0, x3, x4 => if x4 < (x0.length : Int) then (if 0 ≤ x4 then (stratumlaw07_heavy.l0 k x0 (wrap64 (x3 + (wrap64 (1 + (((iQ x0 x4).f0).length : Int))))) (wrap64 (x4 + 1))) else (none)) else (some x3)
def stratumlaw07_heavy.f (k : Nat) (l0 : List (S139)) : Option (Int) := stratumlaw07_heavy.l0 k l0 0 0
set_option maxHeartbeats 8000000 in
set_option maxRecDepth 100000 in
theorem stratumlaw07_heavy.calls (k : Nat) (A0 : Option Addr) (c0 : Nat) (l0 : List (S139)) (r : Int) (w : World) (hr0 : Kd.C k139 w A0 l0.length l0) (hc0 : l0.length ≤ c0) (h : stratumlaw07_heavy.f k l0 = some r) :
    Calls Tryd.prog 48 #[.slice A0 l0.length c0] w fun e w' => e = .returned (.int .i64 r) ∧ jG w w' := by
  have HR0 := iC.mk hr0
  have HC0 := iC.mk hc0
  clear hr0 hc0
  have H : (stratumlaw07_heavy.l0 k l0 0 0) = some r := h
  clear h
  have H' := iC.mk H
  clear H
  go_enter Tryd.func48, Tryd.ntmps48
  go_wp2
  go_loopg [3, 4] k (fun kq v3 v4 w' => ∃ (x3_1 : Int) (x4_1 : Int), v3 = .int .i64 x3_1 ∧ v4 = .int .i64 x4_1 ∧ iC (stratumlaw07_heavy.l0 kq l0 x3_1 x4_1 = some r) ∧ iC (kq ≤ k) ∧ jG w w')
  case atStart => exact ⟨(0), (0), (by first | rfl | (simp; done) | (simp [*]; done)), (by first | rfl | (simp; done) | (simp [*]; done)), H', ⟨Nat.le_refl _⟩, by repeat (first | exact jG.refl _ | apply jG.step)⟩
  case round =>
    clear H'
    obtain ⟨x3_1, x4_1, rfl, rfl, HA, HK1, ⟨m1, rfl⟩⟩ := hrel
    cases gk with
    | zero => exact absurd HA.out (by simp [stratumlaw07_heavy.l0])
    | succ k1 =>
      have H := HA.out
      clear HA
      simp only [stratumlaw07_heavy.l0] at H
      by_cases c2 : x4_1 < (l0.length : Int)
      · rw [if_pos c2] at H
        have c2b0 : decide (x4_1 < (l0.length : Int)) = true := decide_eq_true c2
        clear c2
        by_cases c3 : 0 ≤ x4_1
        · rw [if_pos c3] at H
          have c3b0 : decide (0 ≤ x4_1) = true := decide_eq_true c3
          clear c3
          have H' := iC.mk H
          clear H
          have p101 : 0 ≤ (x4_1 : Int) := of_decide_eq_true asm_
          have q101 : x4_1 < (l0.length : Int) := of_decide_eq_true asm_
          obtain ⟨ad101, A101_0, c101_0, e101, hx101_0, hx101_1, hl101_0, hi101_0⟩ := kK HR0.out x4_1 p101 q101
          cases e101
          have HR101_0 := iC.mk hi101_0
          have HC101_0 := iC.mk hl101_0
          clear hi101_0 hl101_0
          replace p101 := eq_true p101
          replace q101 := eq_true q101
          go_wp2
          go_roundg k1
          case measure => have := HK1.out; omega
          case rel => exact ⟨(wrap64 (x3_1 + (wrap64 (1 + (((iQ l0 x4_1).f0).length : Int))))), (wrap64 (x4_1 + 1)), (by first | rfl | (simp; done) | (simp [*]; done)), (by first | rfl | (simp; done) | (simp [*]; done)), H', ⟨by have := HK1.out; omega⟩, by repeat (first | exact jG.refl _ | apply jG.step)⟩
        · rw [if_neg c3] at H
          exact absurd H (by simp)
      · rw [if_neg c2] at H
        have c2b0 : decide (x4_1 < (l0.length : Int)) = false := decide_eq_false c2
        clear c2
        obtain rfl := Option.some.inj H
        go_wp2
        go_ret
        exact ⟨by first | rfl | (simp; done) | (simp [*]; done), by repeat (first | exact jG.refl _ | apply jG.step)⟩
end Go.Proofs.YtgfkgppomaapiaaDoor.K
end

section
namespace Go.Proofs.YtgfkgppomaapiaaDoor.K
open Go.RowKit Go.Proofs.YtgfkgppomaapiaaDoorW.PrintWords Go.Proofs.YtgfkgppomaapiaaDoorW.PrintLast Go.Proofs.YtgfkgppomaapiaaDoorW.PrintMore
attribute [local go_sem] kH kS
def stratumlaw07_Heavy.l0 : Nat → Int → Int → Int → Int → Int → List Int → List (S139) → Int → List (S98) → Int → Int → List (S86) → Option (Int)
  | 0, _, _, _, _, _, _, _, _, _, _, _, _ => none
  | k + 1, x3, x4, x103000, x103001, x103002, x103003, x103004, x103005, x103006, x103007, x103008, x103009 => if x4 < (x103009.length : Int) then (if 0 ≤ x4 then ((stratumlaw07_heavy.f k ((iR x103009 x4).f1)).bind fun t105 => (stratumlaw07_Heavy.l0 k (wrap64 (x3 + (wrap64 (1 + t105)))) (wrap64 (x4 + 1)) x103000 x103001 x103002 x103003 x103004 x103005 x103006 x103007 x103008 x103009)) else (none)) else (some x3)
def stratumlaw07_Heavy.f (k : Nat) (a0_0 : Int) (a0_1 : Int) (a0_2 : Int) (l0_3 : List Int) (l0_4 : List (S139)) (a0_5 : Int) (l0_6 : List (S98)) (a0_7 : Int) (a0_8 : Int) (l0_9 : List (S86)) : Option (Int) := (stratumlaw07_heavy.f k l0_4).bind fun t103 => (stratumlaw07_Heavy.l0 k (wrap64 ((wrap64 ((l0_3.length : Int) + (l0_6.length : Int))) + t103)) 0 a0_0 a0_1 a0_2 l0_3 l0_4 a0_5 l0_6 a0_7 a0_8 l0_9)
set_option maxHeartbeats 8000000 in
set_option maxRecDepth 100000 in
theorem stratumlaw07_Heavy.calls (k : Nat) (a0_0 : Int) (a0_1 : Int) (a0_2 : Int) (A0_3 : Option Addr) (c0_3 : Nat) (l0_3 : List Int) (A0_4 : Option Addr) (c0_4 : Nat) (l0_4 : List (S139)) (a0_5 : Int) (A0_6 : Option Addr) (c0_6 : Nat) (l0_6 : List (S98)) (a0_7 : Int) (a0_8 : Int) (A0_9 : Option Addr) (c0_9 : Nat) (l0_9 : List (S86)) (r : Int) (w : World) (hr0_3 : Kd.C (Kd.int .i64) w A0_3 l0_3.length l0_3) (hc0_3 : l0_3.length ≤ c0_3) (hr0_4 : Kd.C k139 w A0_4 l0_4.length l0_4) (hc0_4 : l0_4.length ≤ c0_4) (hr0_6 : Kd.C k98 w A0_6 l0_6.length l0_6) (hc0_6 : l0_6.length ≤ c0_6) (hr0_9 : Kd.C k86 w A0_9 l0_9.length l0_9) (hc0_9 : l0_9.length ≤ c0_9) (h : stratumlaw07_Heavy.f k a0_0 a0_1 a0_2 l0_3 l0_4 a0_5 l0_6 a0_7 a0_8 l0_9 = some r) :
    Calls Tryd.prog 15 #[.agg #[.int .u8 a0_0, .int .u32 a0_1, .int .u32 a0_2, .slice A0_3 l0_3.length c0_3, .slice A0_4 l0_4.length c0_4, .int .u32 a0_5, .slice A0_6 l0_6.length c0_6, .int .i64 a0_7, .int .i64 a0_8, .slice A0_9 l0_9.length c0_9]] w fun e w' => e = .returned (.int .i64 r) ∧ Below w.heap.size w w' := by
  have hu30 := Tryd.underlying30
  have HR0_3 := iC.mk hr0_3
  have HC0_3 := iC.mk hc0_3
  clear hr0_3 hc0_3
  have HR0_4 := iC.mk hr0_4
  have HC0_4 := iC.mk hc0_4
  clear hr0_4 hc0_4
  have HR0_6 := iC.mk hr0_6
  have HC0_6 := iC.mk hc0_6
  clear hr0_6 hc0_6
  have HR0_9 := iC.mk hr0_9
  have HC0_9 := iC.mk hc0_9
  clear hr0_9 hc0_9
  have HB := iC.mk (Below.refl w.heap.size w)
  have H : ((stratumlaw07_heavy.f k l0_4).bind fun t103 => (stratumlaw07_Heavy.l0 k (wrap64 ((wrap64 ((l0_3.length : Int) + (l0_6.length : Int))) + t103)) 0 a0_0 a0_1 a0_2 l0_3 l0_4 a0_5 l0_6 a0_7 a0_8 l0_9)) = some r := h
  clear h
  replace H := Option.bind_eq_some_iff.mp H
  obtain ⟨t103, A20, H⟩ := H
  replace H : (stratumlaw07_Heavy.l0 k (wrap64 ((wrap64 ((l0_3.length : Int) + (l0_6.length : Int))) + t103)) 0 a0_0 a0_1 a0_2 l0_3 l0_4 a0_5 l0_6 a0_7 a0_8 l0_9) = some r := H
  have A2 := iC.mk A20
  clear A20
  have H' := iC.mk H
  clear H
  go_enter Tryd.func15, Tryd.ntmps15
  go_wp2_with (first | ((with_reducible refine jY (N := 1) rfl ?_); refine jV ?hg (N := 1) ?hd (cs := #[.int .u8 a0_0, .int .u32 a0_1, .int .u32 a0_2, .slice A0_3 l0_3.length c0_3, .slice A0_4 l0_4.length c0_4, .int .u32 a0_5, .slice A0_6 l0_6.length c0_6, .int .i64 a0_7, .int .i64 a0_8, .slice A0_9 l0_9.length c0_9]) (t := 30) ?hr ?_; (case hd => rfl); (case hg => rfl); (case hr => first | (go_simp; done) | (go_simp; rfl)); intro gb102 hg w3 hbox hb; have n0_ := iC.mk (iI hb_ hb); have n1_ := iC.mk (hbox); have n2_ := iC.mk ((by rw [hg]; exact (iW hb_) : w.heap.size ≤ gb102)); have n3_ := iC.mk ((by rw [hg]; exact (iW hb_) : w.heap.size ≤ gb102)); clear HB; have HB := n0_; have BK102 := n1_; have GW102 := n2_; have GE102 := n3_; clear n0_ n1_ n2_ n3_; clear hb hbox hg; have hcz4_0 : w3.cell? ⟨gb102, 0, none⟩ = some (.int .u8 a0_0) := (iE BK102.out 0).trans rfl; have hcz4_1 : w3.cell? ⟨gb102, 1, none⟩ = some (.int .u32 a0_1) := (iE BK102.out 1).trans rfl; have hcz4_2 : w3.cell? ⟨gb102, 2, none⟩ = some (.int .u32 a0_2) := (iE BK102.out 2).trans rfl; have hcz4_3 : w3.cell? ⟨gb102, 3, none⟩ = some (.slice A0_3 l0_3.length c0_3) := (iE BK102.out 3).trans rfl; have hcz4_4 : w3.cell? ⟨gb102, 4, none⟩ = some (.slice A0_4 l0_4.length c0_4) := (iE BK102.out 4).trans rfl; have hcz4_5 : w3.cell? ⟨gb102, 5, none⟩ = some (.int .u32 a0_5) := (iE BK102.out 5).trans rfl; have hcz4_6 : w3.cell? ⟨gb102, 6, none⟩ = some (.slice A0_6 l0_6.length c0_6) := (iE BK102.out 6).trans rfl; have hcz4_7 : w3.cell? ⟨gb102, 7, none⟩ = some (.int .i64 a0_7) := (iE BK102.out 7).trans rfl; have hcz4_8 : w3.cell? ⟨gb102, 8, none⟩ = some (.int .i64 a0_8) := (iE BK102.out 8).trans rfl; have hcz4_9 : w3.cell? ⟨gb102, 9, none⟩ = some (.slice A0_9 l0_9.length c0_9) := (iE BK102.out 9).trans rfl; have hfz4_0 := iD BK102.out 0; have hfz4_1 := iD BK102.out 1; have hfz4_2 := iD BK102.out 2; have hfz4_3 := iD BK102.out 3; have hfz4_4 := iD BK102.out 4; have hfz4_5 := iD BK102.out 5; have hfz4_6 := iD BK102.out 6; have hfz4_7 := iD BK102.out 7; have hfz4_8 := iD BK102.out 8; have hfz4_9 := iD BK102.out 9) | (go_at_call 48; (with_reducible refine (stratumlaw07_heavy.calls k _ _ l0_4 t103 _ ?side1 ?side2 A2.out).mono ?_); (case side1 => repeat (first | exact (Kd.C_below HR0_4.out HB.out) | (with_reducible refine Kd.C_alloc ?_ _) | (with_reducible refine Kd.C_drewN ?_ _) | (with_reducible refine Kd.C_drew ?_))); (case side2 => exact HC0_4.out); rintro e w' ⟨rfl, ⟨nd, rfl⟩⟩; (try first | exact ⟨rfl, _, World.drewN_drewN _ _ _⟩ | exact ⟨rfl, _, Eq.trans (World.drewN_drewN _ _ _) (congrArg (World.drewN _) (Nat.add_assoc _ _ _))⟩)))
  repeat (go_quiet (first | ((with_reducible refine jY (N := 1) rfl ?_); refine jV ?hg (N := 1) ?hd (cs := #[.int .u8 a0_0, .int .u32 a0_1, .int .u32 a0_2, .slice A0_3 l0_3.length c0_3, .slice A0_4 l0_4.length c0_4, .int .u32 a0_5, .slice A0_6 l0_6.length c0_6, .int .i64 a0_7, .int .i64 a0_8, .slice A0_9 l0_9.length c0_9]) (t := 30) ?hr ?_; (case hd => rfl); (case hg => rfl); (case hr => first | (go_simp; done) | (go_simp; rfl)); intro gb102 hg w3 hbox hb; have n0_ := iC.mk (iI hb_ hb); have n1_ := iC.mk (hbox); have n2_ := iC.mk ((by rw [hg]; exact (iW hb_) : w.heap.size ≤ gb102)); have n3_ := iC.mk ((by rw [hg]; exact (iW hb_) : w.heap.size ≤ gb102)); clear HB; have HB := n0_; have BK102 := n1_; have GW102 := n2_; have GE102 := n3_; clear n0_ n1_ n2_ n3_; clear hb hbox hg; have hcz4_0 : w3.cell? ⟨gb102, 0, none⟩ = some (.int .u8 a0_0) := (iE BK102.out 0).trans rfl; have hcz4_1 : w3.cell? ⟨gb102, 1, none⟩ = some (.int .u32 a0_1) := (iE BK102.out 1).trans rfl; have hcz4_2 : w3.cell? ⟨gb102, 2, none⟩ = some (.int .u32 a0_2) := (iE BK102.out 2).trans rfl; have hcz4_3 : w3.cell? ⟨gb102, 3, none⟩ = some (.slice A0_3 l0_3.length c0_3) := (iE BK102.out 3).trans rfl; have hcz4_4 : w3.cell? ⟨gb102, 4, none⟩ = some (.slice A0_4 l0_4.length c0_4) := (iE BK102.out 4).trans rfl; have hcz4_5 : w3.cell? ⟨gb102, 5, none⟩ = some (.int .u32 a0_5) := (iE BK102.out 5).trans rfl; have hcz4_6 : w3.cell? ⟨gb102, 6, none⟩ = some (.slice A0_6 l0_6.length c0_6) := (iE BK102.out 6).trans rfl; have hcz4_7 : w3.cell? ⟨gb102, 7, none⟩ = some (.int .i64 a0_7) := (iE BK102.out 7).trans rfl; have hcz4_8 : w3.cell? ⟨gb102, 8, none⟩ = some (.int .i64 a0_8) := (iE BK102.out 8).trans rfl; have hcz4_9 : w3.cell? ⟨gb102, 9, none⟩ = some (.slice A0_9 l0_9.length c0_9) := (iE BK102.out 9).trans rfl; have hfz4_0 := iD BK102.out 0; have hfz4_1 := iD BK102.out 1; have hfz4_2 := iD BK102.out 2; have hfz4_3 := iD BK102.out 3; have hfz4_4 := iD BK102.out 4; have hfz4_5 := iD BK102.out 5; have hfz4_6 := iD BK102.out 6; have hfz4_7 := iD BK102.out 7; have hfz4_8 := iD BK102.out 8; have hfz4_9 := iD BK102.out 9) | (go_at_call 48; (with_reducible refine (stratumlaw07_heavy.calls k _ _ l0_4 t103 _ ?side1 ?side2 A2.out).mono ?_); (case side1 => repeat (first | exact (Kd.C_below HR0_4.out HB.out) | (with_reducible refine Kd.C_alloc ?_ _) | (with_reducible refine Kd.C_drewN ?_ _) | (with_reducible refine Kd.C_drew ?_))); (case side2 => exact HC0_4.out); rintro e w' ⟨rfl, ⟨nd, rfl⟩⟩; (try first | exact ⟨rfl, _, World.drewN_drewN _ _ _⟩ | exact ⟨rfl, _, Eq.trans (World.drewN_drewN _ _ _) (congrArg (World.drewN _) (Nat.add_assoc _ _ _))⟩))); try go_wp2_with (first | ((with_reducible refine jY (N := 1) rfl ?_); refine jV ?hg (N := 1) ?hd (cs := #[.int .u8 a0_0, .int .u32 a0_1, .int .u32 a0_2, .slice A0_3 l0_3.length c0_3, .slice A0_4 l0_4.length c0_4, .int .u32 a0_5, .slice A0_6 l0_6.length c0_6, .int .i64 a0_7, .int .i64 a0_8, .slice A0_9 l0_9.length c0_9]) (t := 30) ?hr ?_; (case hd => rfl); (case hg => rfl); (case hr => first | (go_simp; done) | (go_simp; rfl)); intro gb102 hg w3 hbox hb; have n0_ := iC.mk (iI hb_ hb); have n1_ := iC.mk (hbox); have n2_ := iC.mk ((by rw [hg]; exact (iW hb_) : w.heap.size ≤ gb102)); have n3_ := iC.mk ((by rw [hg]; exact (iW hb_) : w.heap.size ≤ gb102)); clear HB; have HB := n0_; have BK102 := n1_; have GW102 := n2_; have GE102 := n3_; clear n0_ n1_ n2_ n3_; clear hb hbox hg; have hcz4_0 : w3.cell? ⟨gb102, 0, none⟩ = some (.int .u8 a0_0) := (iE BK102.out 0).trans rfl; have hcz4_1 : w3.cell? ⟨gb102, 1, none⟩ = some (.int .u32 a0_1) := (iE BK102.out 1).trans rfl; have hcz4_2 : w3.cell? ⟨gb102, 2, none⟩ = some (.int .u32 a0_2) := (iE BK102.out 2).trans rfl; have hcz4_3 : w3.cell? ⟨gb102, 3, none⟩ = some (.slice A0_3 l0_3.length c0_3) := (iE BK102.out 3).trans rfl; have hcz4_4 : w3.cell? ⟨gb102, 4, none⟩ = some (.slice A0_4 l0_4.length c0_4) := (iE BK102.out 4).trans rfl; have hcz4_5 : w3.cell? ⟨gb102, 5, none⟩ = some (.int .u32 a0_5) := (iE BK102.out 5).trans rfl; have hcz4_6 : w3.cell? ⟨gb102, 6, none⟩ = some (.slice A0_6 l0_6.length c0_6) := (iE BK102.out 6).trans rfl; have hcz4_7 : w3.cell? ⟨gb102, 7, none⟩ = some (.int .i64 a0_7) := (iE BK102.out 7).trans rfl; have hcz4_8 : w3.cell? ⟨gb102, 8, none⟩ = some (.int .i64 a0_8) := (iE BK102.out 8).trans rfl; have hcz4_9 : w3.cell? ⟨gb102, 9, none⟩ = some (.slice A0_9 l0_9.length c0_9) := (iE BK102.out 9).trans rfl; have hfz4_0 := iD BK102.out 0; have hfz4_1 := iD BK102.out 1; have hfz4_2 := iD BK102.out 2; have hfz4_3 := iD BK102.out 3; have hfz4_4 := iD BK102.out 4; have hfz4_5 := iD BK102.out 5; have hfz4_6 := iD BK102.out 6; have hfz4_7 := iD BK102.out 7; have hfz4_8 := iD BK102.out 8; have hfz4_9 := iD BK102.out 9) | (go_at_call 48; (with_reducible refine (stratumlaw07_heavy.calls k _ _ l0_4 t103 _ ?side1 ?side2 A2.out).mono ?_); (case side1 => repeat (first | exact (Kd.C_below HR0_4.out HB.out) | (with_reducible refine Kd.C_alloc ?_ _) | (with_reducible refine Kd.C_drewN ?_ _) | (with_reducible refine Kd.C_drew ?_))); (case side2 => exact HC0_4.out); rintro e w' ⟨rfl, ⟨nd, rfl⟩⟩; (try first | exact ⟨rfl, _, World.drewN_drewN _ _ _⟩ | exact ⟨rfl, _, Eq.trans (World.drewN_drewN _ _ _) (congrArg (World.drewN _) (Nat.add_assoc _ _ _))⟩))))
  go_loopg [3, 4] k (fun kq v3 v4 w' => ∃ (x3_1 : Int) (x4_1 : Int), v3 = .int .i64 x3_1 ∧ v4 = .int .i64 x4_1 ∧ iC (stratumlaw07_Heavy.l0 kq x3_1 x4_1 a0_0 a0_1 a0_2 l0_3 l0_4 a0_5 l0_6 a0_7 a0_8 l0_9 = some r) ∧ iC (kq ≤ k) ∧ iC (w'.heap[gb102]? = some (.cells #[.int .u8 a0_0, .int .u32 a0_1, .int .u32 a0_2, (.slice A0_3 l0_3.length c0_3), (.slice A0_4 l0_4.length c0_4), .int .u32 a0_5, (.slice A0_6 l0_6.length c0_6), .int .i64 a0_7, .int .i64 a0_8, (.slice A0_9 l0_9.length c0_9)] 30 (0, 0))) ∧ iC (Below w.heap.size w w'))
  case atStart => exact ⟨(wrap64 ((wrap64 ((l0_3.length : Int) + (l0_6.length : Int))) + t103)), (0), (by first | rfl | (simp; done) | (simp [*]; done)), (by first | rfl | (simp; done) | (simp [*]; done)), H', ⟨Nat.le_refl _⟩, ⟨bk_ BK102.out⟩, ⟨by repeat (first | (with_reducible first | exact HB.out | apply iF | apply iG | apply iJ | refine iM ?_ GE102.out) | exact HB.out)⟩⟩
  case round =>
    clear H'
    try clear c1
    try clear p2
    try clear hcz4_0
    try clear hcz4_1
    try clear hcz4_2
    try clear hcz4_3
    try clear hcz4_4
    try clear hcz4_5
    try clear hcz4_6
    try clear hcz4_7
    try clear hcz4_8
    try clear hcz4_9
    try clear hfz4_0
    try clear hfz4_1
    try clear hfz4_2
    try clear hfz4_3
    try clear hfz4_4
    try clear hfz4_5
    try clear hfz4_6
    try clear hfz4_7
    try clear hfz4_8
    try clear hfz4_9
    obtain ⟨x3_1, x4_1, rfl, rfl, HA, HK1, BK102, HB⟩ := hrel
    cases gk with
    | zero => exact absurd HA.out (by simp [stratumlaw07_Heavy.l0])
    | succ k1 =>
      have H := HA.out
      clear HA
      simp only [stratumlaw07_Heavy.l0] at H
      by_cases c5 : x4_1 < (l0_9.length : Int)
      · rw [if_pos c5] at H
        have c5b0 : decide (x4_1 < (l0_9.length : Int)) = true := decide_eq_true c5
        clear c5
        by_cases c6 : 0 ≤ x4_1
        · rw [if_pos c6] at H
          have c6b0 : decide (0 ≤ x4_1) = true := decide_eq_true c6
          clear c6
          replace H := Option.bind_eq_some_iff.mp H
          obtain ⟨t105, A70, H⟩ := H
          replace H : (stratumlaw07_Heavy.l0 k1 (wrap64 (x3_1 + (wrap64 (1 + t105)))) (wrap64 (x4_1 + 1)) a0_0 a0_1 a0_2 l0_3 l0_4 a0_5 l0_6 a0_7 a0_8 l0_9) = some r := H
          have A7 := iC.mk A70
          clear A70
          have H' := iC.mk H
          clear H
          have hcz8_0 : wr.cell? ⟨gb102, 0, none⟩ = some (.int .u8 a0_0) := (iE BK102.out 0).trans rfl
          have hcz8_1 : wr.cell? ⟨gb102, 1, none⟩ = some (.int .u32 a0_1) := (iE BK102.out 1).trans rfl
          have hcz8_2 : wr.cell? ⟨gb102, 2, none⟩ = some (.int .u32 a0_2) := (iE BK102.out 2).trans rfl
          have hcz8_3 : wr.cell? ⟨gb102, 3, none⟩ = some (.slice A0_3 l0_3.length c0_3) := (iE BK102.out 3).trans rfl
          have hcz8_4 : wr.cell? ⟨gb102, 4, none⟩ = some (.slice A0_4 l0_4.length c0_4) := (iE BK102.out 4).trans rfl
          have hcz8_5 : wr.cell? ⟨gb102, 5, none⟩ = some (.int .u32 a0_5) := (iE BK102.out 5).trans rfl
          have hcz8_6 : wr.cell? ⟨gb102, 6, none⟩ = some (.slice A0_6 l0_6.length c0_6) := (iE BK102.out 6).trans rfl
          have hcz8_7 : wr.cell? ⟨gb102, 7, none⟩ = some (.int .i64 a0_7) := (iE BK102.out 7).trans rfl
          have hcz8_8 : wr.cell? ⟨gb102, 8, none⟩ = some (.int .i64 a0_8) := (iE BK102.out 8).trans rfl
          have hcz8_9 : wr.cell? ⟨gb102, 9, none⟩ = some (.slice A0_9 l0_9.length c0_9) := (iE BK102.out 9).trans rfl
          have hfz8_0 := iD BK102.out 0
          have hfz8_1 := iD BK102.out 1
          have hfz8_2 := iD BK102.out 2
          have hfz8_3 := iD BK102.out 3
          have hfz8_4 := iD BK102.out 4
          have hfz8_5 := iD BK102.out 5
          have hfz8_6 := iD BK102.out 6
          have hfz8_7 := iD BK102.out 7
          have hfz8_8 := iD BK102.out 8
          have hfz8_9 := iD BK102.out 9
          have p104 : 0 ≤ (x4_1 : Int) := of_decide_eq_true asm_
          have q104 : x4_1 < (l0_9.length : Int) := of_decide_eq_true asm_
          obtain ⟨ad104, A104_1, c104_1, e104, hx104_0, hx104_1, hl104_1, hi104_1⟩ := kT HR0_9.out x4_1 p104 q104
          cases e104
          replace hx104_0 := (HB.out.cell (World.block_lt_of_cell? w _ hx104_0)).trans hx104_0
          replace hx104_1 := (HB.out.cell (World.block_lt_of_cell? w _ hx104_1)).trans hx104_1
          have HR104_1 := iC.mk hi104_1
          have HC104_1 := iC.mk hl104_1
          clear hi104_1 hl104_1
          replace p104 := eq_true p104
          replace q104 := eq_true q104
          go_wp2_with (first | (go_at_call 48; (with_reducible refine (stratumlaw07_heavy.calls k1 _ _ ((iR l0_9 x4_1).f1) t105 _ ?side1 ?side2 A7.out).mono ?_); (case side1 => repeat (first | exact (Kd.C_below HR104_1.out HB.out) | (with_reducible refine Kd.C_alloc ?_ _) | (with_reducible refine Kd.C_drewN ?_ _) | (with_reducible refine Kd.C_drew ?_))); (case side2 => exact HC104_1.out); rintro e w' ⟨rfl, ⟨nd, rfl⟩⟩; (try first | exact ⟨rfl, _, World.drewN_drewN _ _ _⟩ | exact ⟨rfl, _, Eq.trans (World.drewN_drewN _ _ _) (congrArg (World.drewN _) (Nat.add_assoc _ _ _))⟩)))
          repeat (go_quiet (first | (go_at_call 48; (with_reducible refine (stratumlaw07_heavy.calls k1 _ _ ((iR l0_9 x4_1).f1) t105 _ ?side1 ?side2 A7.out).mono ?_); (case side1 => repeat (first | exact (Kd.C_below HR104_1.out HB.out) | (with_reducible refine Kd.C_alloc ?_ _) | (with_reducible refine Kd.C_drewN ?_ _) | (with_reducible refine Kd.C_drew ?_))); (case side2 => exact HC104_1.out); rintro e w' ⟨rfl, ⟨nd, rfl⟩⟩; (try first | exact ⟨rfl, _, World.drewN_drewN _ _ _⟩ | exact ⟨rfl, _, Eq.trans (World.drewN_drewN _ _ _) (congrArg (World.drewN _) (Nat.add_assoc _ _ _))⟩))); try go_wp2_with (first | (go_at_call 48; (with_reducible refine (stratumlaw07_heavy.calls k1 _ _ ((iR l0_9 x4_1).f1) t105 _ ?side1 ?side2 A7.out).mono ?_); (case side1 => repeat (first | exact (Kd.C_below HR104_1.out HB.out) | (with_reducible refine Kd.C_alloc ?_ _) | (with_reducible refine Kd.C_drewN ?_ _) | (with_reducible refine Kd.C_drew ?_))); (case side2 => exact HC104_1.out); rintro e w' ⟨rfl, ⟨nd, rfl⟩⟩; (try first | exact ⟨rfl, _, World.drewN_drewN _ _ _⟩ | exact ⟨rfl, _, Eq.trans (World.drewN_drewN _ _ _) (congrArg (World.drewN _) (Nat.add_assoc _ _ _))⟩))))
          go_roundg k1
          case measure => have := HK1.out; omega
          case rel => exact ⟨(wrap64 (x3_1 + (wrap64 (1 + t105)))), (wrap64 (x4_1 + 1)), (by first | rfl | (simp; done) | (simp [*]; done)), (by first | rfl | (simp; done) | (simp [*]; done)), H', ⟨by have := HK1.out; omega⟩, ⟨bk_ BK102.out⟩, ⟨by repeat (first | (with_reducible first | exact HB.out | apply iF | apply iG | apply iJ | refine iM ?_ GE102.out) | exact HB.out)⟩⟩
        · rw [if_neg c6] at H
          exact absurd H (by simp)
      · rw [if_neg c5] at H
        have c5b0 : decide (x4_1 < (l0_9.length : Int)) = false := decide_eq_false c5
        clear c5
        obtain rfl := Option.some.inj H
        have hcz9_0 : wr.cell? ⟨gb102, 0, none⟩ = some (.int .u8 a0_0) := (iE BK102.out 0).trans rfl
        have hcz9_1 : wr.cell? ⟨gb102, 1, none⟩ = some (.int .u32 a0_1) := (iE BK102.out 1).trans rfl
        have hcz9_2 : wr.cell? ⟨gb102, 2, none⟩ = some (.int .u32 a0_2) := (iE BK102.out 2).trans rfl
        have hcz9_3 : wr.cell? ⟨gb102, 3, none⟩ = some (.slice A0_3 l0_3.length c0_3) := (iE BK102.out 3).trans rfl
        have hcz9_4 : wr.cell? ⟨gb102, 4, none⟩ = some (.slice A0_4 l0_4.length c0_4) := (iE BK102.out 4).trans rfl
        have hcz9_5 : wr.cell? ⟨gb102, 5, none⟩ = some (.int .u32 a0_5) := (iE BK102.out 5).trans rfl
        have hcz9_6 : wr.cell? ⟨gb102, 6, none⟩ = some (.slice A0_6 l0_6.length c0_6) := (iE BK102.out 6).trans rfl
        have hcz9_7 : wr.cell? ⟨gb102, 7, none⟩ = some (.int .i64 a0_7) := (iE BK102.out 7).trans rfl
        have hcz9_8 : wr.cell? ⟨gb102, 8, none⟩ = some (.int .i64 a0_8) := (iE BK102.out 8).trans rfl
        have hcz9_9 : wr.cell? ⟨gb102, 9, none⟩ = some (.slice A0_9 l0_9.length c0_9) := (iE BK102.out 9).trans rfl
        have hfz9_0 := iD BK102.out 0
        have hfz9_1 := iD BK102.out 1
        have hfz9_2 := iD BK102.out 2
        have hfz9_3 := iD BK102.out 3
        have hfz9_4 := iD BK102.out 4
        have hfz9_5 := iD BK102.out 5
        have hfz9_6 := iD BK102.out 6
        have hfz9_7 := iD BK102.out 7
        have hfz9_8 := iD BK102.out 8
        have hfz9_9 := iD BK102.out 9
        go_wp2
        repeat (go_quiet (fail); try go_wp2)
        go_ret
        exact ⟨by first | rfl | (simp [iT, iU] <;> rfl) | (simp [*, iT, iU] <;> rfl), by repeat (first | (with_reducible first | exact HB.out | apply iF | apply iG | apply iJ | refine iM ?_ GE102.out) | exact HB.out)⟩
end Go.Proofs.YtgfkgppomaapiaaDoor.K
end

section
namespace Go.Proofs.YtgfkgppomaapiaaDoor.K
open RowKit YtgfkgppomaapiaaDoorW.PrintWords YtgfkgppomaapiaaDoorW.PrintLast YtgfkgppomaapiaaDoorW.PrintMore My
theorem QT (l : List jO) (hn : l.length ≤ 9223372036854775807) (d : Nat) : ∀ i x : Int, 0 ≤ i → i ≤ l.length → (l.length : Int) - i = d → ∃ v, Ev (fun k => stratumlaw07_heavy.l0 k l x i) v := by
  induction d with
  | zero =>
    intro i x h0 h1 hd
    exact ⟨x, Ev.step (f := fun _ => some x) (fun k => by simp only [stratumlaw07_heavy.l0]; rw [if_neg (by omega)]) (Ev.now _)⟩
  | succ d ih =>
    intro i x h0 h1 hd
    have hlt : i < (l.length : Int) := by omega
    obtain ⟨v, hv⟩ := ih (i + 1) (wrap64 (x + wrap64 (1 + ((iQ l i).f0.length : Int)))) (by omega) (by omega) (by omega)
    exact ⟨v, Ev.step (fun k => by simp only [stratumlaw07_heavy.l0]; rw [if_pos hlt, if_pos h0, nM h0 hlt hn]) hv⟩
theorem MR (l : List jO) (hn : l.length ≤ 9223372036854775807) : ∃ v, Ev (fun k => stratumlaw07_heavy.f k l) v := QT l hn l.length 0 0 (by omega) (by omega) (by omega)
theorem Q5 (a0 a1 a2 : Int) (l3 : List Int) (l4 : List jO) (a5 : Int) (l6 : List kD) (a7 a8 : Int) (l9 : List jJ) (hn : l9.length ≤ 9223372036854775807) (hf : ∀ e ∈ l9, e.f1.length ≤ 9223372036854775807) (d : Nat) : ∀ i x : Int, 0 ≤ i → i ≤ l9.length → (l9.length : Int) - i = d →
    ∃ v, Ev (fun k => stratumlaw07_Heavy.l0 k x i a0 a1 a2 l3 l4 a5 l6 a7 a8 l9) v := by
  induction d with
  | zero =>
    intro i x h0 h1 hd
    exact ⟨x, Ev.step (f := fun _ => some x) (fun k => by simp only [stratumlaw07_Heavy.l0]; rw [if_neg (by omega)]) (Ev.now _)⟩
  | succ d ih =>
    intro i x h0 h1 hd
    have hlt : i < (l9.length : Int) := by omega
    have hm : iR l9 i ∈ l9 := by
      unfold iR
      rw [List.getD_eq_getElem?_getD, List.getElem?_eq_getElem (show i.toNat < l9.length by omega)]
      exact List.getElem_mem _
    obtain ⟨u, hu⟩ := MR _ (hf _ hm)
    obtain ⟨v, hv⟩ := ih (i + 1) (wrap64 (x + wrap64 (1 + u))) (by omega) (by omega) (by omega)
    exact ⟨v, Ev.step (fun k => by simp only [stratumlaw07_Heavy.l0]; rw [if_pos hlt, if_pos h0, nM h0 hlt hn]) (Ev.bind hu hv)⟩
theorem TT (a0 a1 a2 : Int) (l3 : List Int) (l4 : List jO) (a5 : Int) (l6 : List kD) (a7 a8 : Int) (l9 : List jJ) (h : QW l3 l4 l6 l9) : ∃ v, Ev (fun k => stratumlaw07_Heavy.f k a0 a1 a2 l3 l4 a5 l6 a7 a8 l9) v := by
  obtain ⟨u, hu⟩ := MR l4 h.n4
  obtain ⟨v, hv⟩ := Q5 a0 a1 a2 l3 l4 a5 l6 a7 a8 l9 h.n9 (fun e he => (h.f9 e he).1) l9.length 0 (wrap64 ((wrap64 ((l3.length : Int) + (l6.length : Int))) + u)) (by omega) (by omega) (by omega)
  exact ⟨v, Ev.bind hu hv⟩
section
variable (a0 a1 a2 : Int) (A3 : Option Addr) (c3 : Nat) (l3 : List Int) (A4 : Option Addr) (c4 : Nat) (l4 : List jO) (a5 : Int) (A6 : Option Addr) (c6 : Nat) (l6 : List kD) (a7 a8 : Int) (A9 : Option Addr) (c9 : Nat) (l9 : List jJ) (w : World)
    (h3 : Kd.C (Kd.int .i64) w A3 l3.length l3) (d3 : l3.length ≤ c3) (h4 : Kd.C k139 w A4 l4.length l4) (d4 : l4.length ≤ c4) (h6 : Kd.C k98 w A6 l6.length l6) (d6 : l6.length ≤ c6) (h9 : Kd.C k86 w A9 l9.length l9) (d9 : l9.length ≤ c9)
include h3 d3 h4 d4 h6 d6 h9 d9
theorem RU : ∃ v : Int, Calls Tryd.prog 15 #[.agg #[.int .u8 a0, .int .u32 a1, .int .u32 a2, .slice A3 l3.length c3, .slice A4 l4.length c4, .int .u32 a5, .slice A6 l6.length c6, .int .i64 a7, .int .i64 a8, .slice A9 l9.length c9]] w fun e w' => e = .returned (.int .i64 v) ∧ Below w.heap.size w w' := by
  obtain ⟨v, hv⟩ := TT a0 a1 a2 l3 l4 a5 l6 a7 a8 l9 (oK h3 h4 h6 h9)
  obtain ⟨k, hk⟩ := hv.rounds
  exact ⟨v, stratumlaw07_Heavy.calls k a0 a1 a2 A3 c3 l3 A4 c4 l4 a5 A6 c6 l6 a7 a8 A9 c9 l9 v w h3 d3 h4 d4 h6 d6 h9 d9 hk⟩
theorem vV : Calls Tryd.prog 20 #[.agg #[.int .u8 a0, .int .u32 a1, .int .u32 a2, .slice A3 l3.length c3, .slice A4 l4.length c4, .int .u32 a5, .slice A6 l6.length c6, .int .i64 a7, .int .i64 a8, .slice A9 l9.length c9]] w fun e w' => e = .returned (.bool (jM ⟨a0, a1, a2, l3, l4, ⟨a5, l6⟩, a7, a8, l9⟩)) ∧ Below w.heap.size w w' := by
  obtain ⟨kk, hsk⟩ := (oH a0 a1 a2 l3 l4 a5 l6 a7 a8 l9 (oK h3 h4 h6 h9)).rounds
  exact stratumref07_Sound.calls kk a0 a1 a2 A3 c3 l3 A4 c4 l4 a5 A6 c6 l6 a7 a8 A9 c9 l9 _ w h3 d3 h4 d4 h6 d6 h9 d9 hsk
theorem LP {S : Bool} (hS : jM ⟨a0, a1, a2, l3, l4, ⟨a5, l6⟩, a7, a8, l9⟩ = S) : Calls Tryd.prog 20 #[.agg #[.int .u8 a0, .int .u32 a1, .int .u32 a2, .slice A3 l3.length c3, .slice A4 l4.length c4, .int .u32 a5, .slice A6 l6.length c6, .int .i64 a7, .int .i64 a8, .slice A9 l9.length c9]] w fun e w' => e = .returned (.bool S) ∧ Below w.heap.size w w' := by
  subst hS
  exact vV a0 a1 a2 A3 c3 l3 A4 c4 l4 a5 A6 c6 l6 a7 a8 A9 c9 l9 w h3 d3 h4 d4 h6 d6 h9 d9
set_option maxHeartbeats 4000000 in
theorem Q4 (hs : jM ⟨a0, a1, a2, l3, l4, ⟨a5, l6⟩, a7, a8, l9⟩ = false) : Calls Tryd.prog 18 #[.agg #[.int .u8 a0, .int .u32 a1, .int .u32 a2, .slice A3 l3.length c3, .slice A4 l4.length c4, .int .u32 a5, .slice A6 l6.length c6, .int .i64 a7, .int .i64 a8, .slice A9 l9.length c9]] w (nU w (encR ⟨a0, a1, a2, l3, l4, ⟨a5, l6⟩, a7, a8, l9⟩)) := by
  have hbw : Below w.heap.size w (w.alloc (.cells #[.int .u8 a0, .int .u32 a1, .int .u32 a2, .slice A3 l3.length c3, .slice A4 l4.length c4, .int .u32 a5, .slice A6 l6.length c6, .int .i64 a7, .int .i64 a8, .slice A9 l9.length c9] 30)) := iF (Below.refl _ _) _
  have hsnd := vV a0 a1 a2 A3 c3 l3 A4 c4 l4 a5 A6 c6 l6 a7 a8 A9 c9 l9 _ (Kd.C_below h3 hbw) d3 (Kd.C_below h4 hbw) d4 (Kd.C_below h6 hbw) d6 (Kd.C_below h9 hbw) d9
  rw [hs] at hsnd
  have hr : encR ⟨a0, a1, a2, l3, l4, ⟨a5, l6⟩, a7, a8, l9⟩ = ([], 1) := by unfold encR; rw [if_neg (by rw [hs]; decide)]
  rw [hr]
  clear hs hr hbw h3 h4 h6 h9
  go_enter Tryd.func18, Tryd.ntmps18
  go_wp2_with fail
  go_at_call 20
  (with_reducible refine hsnd.mono ?_)
  clear hsnd
  rintro e w0 ⟨rfl, hb1⟩
  go_wp2_with fail
  go_ret2
  exact ⟨_, rfl, Kd.R_nil _ _ _ _ _, iI (iF (Below.refl _ _) _) hb1⟩
theorem IE : Calls Tryd.prog 18 #[.agg #[.int .u8 a0, .int .u32 a1, .int .u32 a2, .slice A3 l3.length c3, .slice A4 l4.length c4, .int .u32 a5, .slice A6 l6.length c6, .int .i64 a7, .int .i64 a8, .slice A9 l9.length c9]] w (nU w (encR ⟨a0, a1, a2, l3, l4, ⟨a5, l6⟩, a7, a8, l9⟩)) := by
  cases hs : jM ⟨a0, a1, a2, l3, l4, ⟨a5, l6⟩, a7, a8, l9⟩ with
  | false => exact Q4 a0 a1 a2 A3 c3 l3 A4 c4 l4 a5 A6 c6 l6 a7 a8 A9 c9 l9 w h3 d3 h4 d4 h6 d6 h9 d9 hs
  | true =>
    have h7 : ¬ (a0 < 1 ∨ 7 < a0) := by
      intro h
      rw [P6 _ _ _ _ _ _ _ _ _ _ h] at hs
      cases hs
    have h7 : a0 = 1 ∨ a0 = 2 ∨ a0 = 3 ∨ a0 = 4 ∨ a0 = 5 ∨ a0 = 6 ∨ a0 = 7 := by omega
    rcases h7 with rfl | rfl | rfl | rfl | rfl | rfl | rfl
    · exact RG a1 a2 A3 c3 l3 A4 c4 l4 a5 A6 c6 l6 a7 a8 A9 c9 l9 w h3 d3 h4 d4 h6 d6 h9 d9 hs
    · exact TJ a1 a2 A3 c3 l3 A4 c4 l4 a5 A6 c6 l6 a7 a8 A9 c9 l9 w h3 d3 h4 d4 h6 d6 h9 d9 hs
    · exact PW a1 a2 A3 c3 l3 A4 c4 l4 a5 A6 c6 l6 a7 a8 A9 c9 l9 w h3 d3 h4 d4 h6 d6 h9 d9 hs
    · exact RF a1 a2 A3 c3 l3 A4 c4 l4 a5 A6 c6 l6 a7 a8 A9 c9 l9 w h3 d3 h4 d4 h6 d6 h9 d9 hs
    · exact TC a1 a2 A3 c3 l3 A4 c4 l4 a5 A6 c6 l6 a7 a8 A9 c9 l9 w h3 d3 h4 d4 h6 d6 h9 d9 hs
    · exact PZ a1 a2 A3 c3 l3 A4 c4 l4 a5 A6 c6 l6 a7 a8 A9 c9 l9 w h3 d3 h4 d4 h6 d6 h9 d9 hs
    · exact TI a1 a2 A3 c3 l3 A4 c4 l4 a5 A6 c6 l6 a7 a8 A9 c9 l9 w h3 d3 h4 d4 h6 d6 h9 d9 hs
end
end Go.Proofs.YtgfkgppomaapiaaDoor.K
end

section
namespace Go.Proofs.YtgfkgppomaapiaaDoor.K
open Go.RowKit Go.Proofs.YtgfkgppomaapiaaDoorW.PrintWords Go.Proofs.YtgfkgppomaapiaaDoorW.PrintLast Go.Proofs.YtgfkgppomaapiaaDoorW.PrintMore
attribute [local go_sem] kH kS
theorem QH : (Tryd.prog.info? 139).map (fun i => (i.zero, i.size, i.bytes)) = some (some (.agg #[(.slice none 0 0), (.int .i64 0)]), 2, 32) := by kernel_rfl
mutual
def stratumlaw07_Facts.l0 : Nat → List (S139) → List (S139) → Int → Option ((List (S139)))
  | 0, _, _, _ => none
  | k + 1, x0, x3, x4 => if x4 < (x0.length : Int) then (stratumlaw07_Facts.j1 k x0 x3 x4 (decide (x4 < 60))) else (stratumlaw07_Facts.j1 k x0 x3 x4 false)
def stratumlaw07_Facts.j1 : Nat → List (S139) → List (S139) → Int → Bool → Option ((List (S139)))
  | 0, _, _, _, _ => none
  | k + 1, x0, x3, x4, x14 => if x14 = true then (if 0 ≤ x4 then (if x4 < (x0.length : Int) then (stratumlaw07_Facts.l1 k x0 x3 x4 0 ([] : List Int) ((iQ x0 x4).f1)) else (none)) else (none)) else (some x3)
def stratumlaw07_Facts.l1 : Nat → List (S139) → List (S139) → Int → Int → List Int → Int → Option ((List (S139)))
  | 0, _, _, _, _, _, _ => none
  | k + 1, x0, x3, x4, x6, x178000, x178001 => if 0 ≤ x4 then (if x4 < (x0.length : Int) then (if x6 < (((iQ x0 x4).f0).length : Int) then (if x6 < 4 then (if 0 ≤ x6 then (if x178000.length < 17592186044416 then (stratumlaw07_Facts.l1 k x0 x3 x4 (wrap64 (x6 + 1)) (x178000 ++ [(mx (rd ((iQ x0 x4).f0) x6) 0) % 10000]) x178001) else (none)) else (none)) else (if x3.length < 4398046511104 then (stratumlaw07_Facts.l0 k x0 (x3 ++ [(⟨x178000, x178001⟩ : S139)]) (wrap64 (x4 + 1))) else (none))) else (if x3.length < 4398046511104 then (stratumlaw07_Facts.l0 k x0 (x3 ++ [(⟨x178000, x178001⟩ : S139)]) (wrap64 (x4 + 1))) else (none))) else (none)) else (none)
end
def stratumlaw07_Facts.f (k : Nat) (l0 : List (S139)) : Option ((List (S139))) := stratumlaw07_Facts.l0 k l0 ([] : List (S139)) 0
def stratumlaw07_Facts.T9 : Bool × List (List Nat × List Nat) := (true, [([], []), ([0], [0]), ([], []), ([], []), ([2, 3], [2, 3]), ([4], [4]), ([5], [5]), ([], []), ([6, 7], [6, 7]), ([8], [8]), ([9], [9]), ([10], [10]), ([11], [11]), ([1, 12], [1, 12]), ([0, 1, 2, 3, 4, 5, 6, 7, 8, 9, 10, 11, 12, 13], []), ([14, 13, 13, 0, 1, 2, 3, 4, 5, 6, 7, 8, 9, 10, 11, 12, 13], [13, 14])])
def stratumlaw07_Facts.B9 : List Nat := [0, 1, 0, 0, 12, 28, 60, 0, 252, 508, 1020, 2044, 4092, 8191, 16383, 32767]
theorem stratumlaw07_Facts.tab9 : rtab .any (opsOf Tryd.f73 9) = stratumlaw07_Facts.T9 := by kernel_rfl
theorem stratumlaw07_Facts.bits9 : mF stratumlaw07_Facts.T9.2 stratumlaw07_Facts.B9 = true := by kernel_rfl
set_option maxHeartbeats 8000000 in
set_option maxRecDepth 100000 in
theorem stratumlaw07_Facts.callsS (k : Nat) (A0 : Option Addr) (c0 : Nat) (l0 : List (S139)) (r : List (S139)) (w : World) (hr0 : Kd.C k139 w A0 l0.length l0) (hc0 : l0.length ≤ c0) (h : stratumlaw07_Facts.f k l0 = some r) :
    Calls Tryd.prog 73 #[.slice A0 l0.length c0] w fun e w' => ∃ v0_ : Value, e = .returned (v0_) ∧ Kd.S k139 139 w' w.heap.size (fun _ => True) v0_ r ∧ Below w.heap.size w w' := by
  have hu139 := Tryd.underlying139
  have HR0 := iC.mk hr0
  have HC0 := iC.mk hc0
  clear hr0 hc0
  have HB := iC.mk (Below.refl w.heap.size w)
  have H : (stratumlaw07_Facts.l0 k l0 ([] : List (S139)) 0) = some r := h
  clear h
  have H' := iC.mk H
  clear H
  go_enter Tryd.func73, Tryd.ntmps73
  go_wp2
  go_loopg [3, 4] k (fun kq v3 v4 w' => ∃ (x3_1 : List (S139)) (x4_1 : Int), v4 = .int .i64 x4_1 ∧ iC (stratumlaw07_Facts.l0 kq l0 x3_1 x4_1 = some r) ∧ iC (kq ≤ k) ∧ iC (Kd.S k139 139 w' w.heap.size (fun _ => True) v3 x3_1) ∧ iC (Below w.heap.size w w'))
  case atStart => exact ⟨(([] : List (S139))), (0), (by first | rfl | (simp; done) | (simp [*]; done)), H', ⟨Nat.le_refl _⟩, ⟨by first | exact Kd.S_nil _ _ _ _ _ | exact Kd.N_nil _ _ _ _ _ | exact Kd.V_nil _ _ _ _ _ | exact Kd.Q_nil _ _ _ _ _ | exact Kd.R_nil _ _ _ _ _⟩, ⟨hb_⟩⟩
  case round =>
    clear H'
    obtain ⟨x3_1, x4_1, rfl, HA, HK1, HO_3, HB⟩ := hrel
    cases gk with
    | zero => exact absurd HA.out (by simp [stratumlaw07_Facts.l0])
    | succ k1 =>
      have H := HA.out
      clear HA
      simp only [stratumlaw07_Facts.l0] at H
      have HC2 := iC.mk H
      clear H
      go_upto_region 3 with (fail)
      go_cut [14] (fun v14 wc => ∃ (kq : Nat) (x14_1 : Bool), v14 = .bool x14_1 ∧ iC (stratumlaw07_Facts.j1 kq l0 x3_1 x4_1 x14_1 = some r) ∧ iC (kq ≤ k1) ∧ iC (Kd.S k139 139 wc w.heap.size (fun _ => True) u3 x3_1) ∧ iC (Below w.heap.size w wc))
      case first =>
        have H := HC2.out
        clear HC2
        by_cases c3 : x4_1 < (l0.length : Int)
        · rw [if_pos c3] at H
          have c3b0 : decide (x4_1 < (l0.length : Int)) = true := decide_eq_true c3
          clear c3
          (first | rw [c3b0] | (simp only [iY, jD]; rw [c3b0]) | skip)
          have H' := iC.mk H
          clear H
          go_wp2
          go_meet
          case rel => exact ⟨_, (decide (x4_1 < 60)), (by first | rfl | (simp; done) | (simp [*]; done)), H', ⟨by have := HK1.out; first | omega | exact Nat.le_refl _⟩, ⟨by (with_reducible repeat (first | apply Kd.S_alloc | apply Kd.S_drewN | apply Kd.S_drew)); exact HO_3.out⟩, ⟨hb_⟩⟩
        · rw [if_neg c3] at H
          have c3b0 : decide (x4_1 < (l0.length : Int)) = false := decide_eq_false c3
          clear c3
          (first | rw [c3b0] | (simp only [iY, jD]; rw [c3b0]) | skip)
          have H' := iC.mk H
          clear H
          go_wp2
          go_meet
          case rel => exact ⟨_, (false), (by first | rfl | (simp; done) | (simp [*]; done)), H', ⟨by have := HK1.out; first | omega | exact Nat.le_refl _⟩, ⟨by (with_reducible repeat (first | apply Kd.S_alloc | apply Kd.S_drewN | apply Kd.S_drew)); exact HO_3.out⟩, ⟨hb_⟩⟩
      case rest =>
        clear HC2
        try clear p2
        try clear c3
        try clear c3b0
        obtain ⟨kq, x14_1, rfl, HA, HJ1, HO_3, HB⟩ := hcut
        cases kq with
        | zero => exact absurd HA.out (by simp [stratumlaw07_Facts.j1])
        | succ kj1 =>
          have H := HA.out
          clear HA
          simp only [stratumlaw07_Facts.j1] at H
          by_cases c4 : x14_1 = true
          · subst c4
            have H1 : (if 0 ≤ x4_1 then (if x4_1 < (l0.length : Int) then (stratumlaw07_Facts.l1 kj1 l0 x3_1 x4_1 0 ([] : List Int) ((iQ l0 x4_1).f1)) else (none)) else (none)) = some r := by rw [if_pos rfl] at H; exact H
            clear H
            have H := H1
            clear H1
            by_cases c5 : 0 ≤ x4_1
            · rw [if_pos c5] at H
              have c5b0 : decide (0 ≤ x4_1) = true := decide_eq_true c5
              clear c5
              by_cases c6 : x4_1 < (l0.length : Int)
              · rw [if_pos c6] at H
                have c6b0 : decide (x4_1 < (l0.length : Int)) = true := decide_eq_true c6
                clear c6
                have H' := iC.mk H
                clear H
                have p176 : 0 ≤ (x4_1 : Int) := of_decide_eq_true asm_
                have q176 : x4_1 < (l0.length : Int) := of_decide_eq_true asm_
                obtain ⟨ad176, A176_0, c176_0, e176, hx176_0, hx176_1, hl176_0, hi176_0⟩ := kK HR0.out x4_1 p176 q176
                cases e176
                replace hx176_0 := (HB.out.cell (World.block_lt_of_cell? w _ hx176_0)).trans hx176_0
                replace hx176_1 := (HB.out.cell (World.block_lt_of_cell? w _ hx176_1)).trans hx176_1
                have HR176_0 := iC.mk hi176_0
                have HC176_0 := iC.mk hl176_0
                clear hi176_0 hl176_0
                replace p176 := eq_true p176
                replace q176 := eq_true q176
                go_wp2_with (first | ((with_reducible refine jY (N := 5) rfl ?_); refine jV ?hg (N := 5) ?hd (cs := #[.slice none 0 0, .int .i64 0]) (t := 139) ?hr ?_; (case hd => rfl); (case hg => rfl); (case hr => first | (go_simp; done) | (go_simp; rfl)); intro gb177 hg w7 hbox hb; have n0_ := iC.mk (Kd.S_below (Kd.S_elderB (by (with_reducible repeat (first | apply Kd.S_alloc | apply Kd.S_drewN | apply Kd.S_drew)); exact HO_3.out) gb177 (Nat.le_of_eq hg.symm)) hb); have n1_ := iC.mk (iI hb_ hb); have n2_ := iC.mk (hbox); have n3_ := iC.mk ((by rw [hg]; exact (iW hb_) : w.heap.size ≤ gb177)); have n4_ := iC.mk ((by rw [hg]; exact (iW hb_) : w.heap.size ≤ gb177)); clear HO_3; clear HB; have HO_3 := n0_; have HB := n1_; have BK177 := n2_; have GW177 := n3_; have GE177 := n4_; clear n0_ n1_ n2_ n3_ n4_; clear hb hbox hg; have hcz8_0 : w7.cell? ⟨gb177, 0, none⟩ = some (.slice none 0 0) := (iE BK177.out 0).trans rfl; have hcz8_1 : w7.cell? ⟨gb177, 1, none⟩ = some (.int .i64 0) := (iE BK177.out 1).trans rfl; have hfz8_0 := iD BK177.out 0; have hfz8_1 := iD BK177.out 1))
                go_loopg [6] kj1 (fun kq v6 w' => ∃ (x6_3 : Int) (x178000_3 : List Int) (u178000 : Value), v6 = .int .i64 x6_3 ∧ iC (stratumlaw07_Facts.l1 kq l0 x3_1 x4_1 x6_3 x178000_3 ((iQ l0 x4_1).f1) = some r) ∧ iC (kq ≤ kj1) ∧ iC (Kd.S k139 139 w' w.heap.size (fun k_ => some k_ ≠ (u178000 : Value).ownBlock ∧ k_ ≠ gb177) u3 x3_1) ∧ iC (Kd.R (Kd.int .i64) 3 w' w.heap.size (fun _ => True) u178000 x178000_3) ∧ iC (w'.heap[gb177]? = some (.cells #[u178000, .int .i64 ((iQ l0 x4_1).f1)] 139 (0, 0))) ∧ iC (Below w.heap.size w w'))
                case atStart => exact ⟨(0), (([] : List Int)), (.slice none 0 0), (by first | rfl | (simp; done) | (simp [*]; done)), H', ⟨Nat.le_refl _⟩, ⟨by (with_reducible repeat (first | apply Kd.S_alloc | apply Kd.S_drewN | apply Kd.S_drew)); exact Kd.S_mono (Kd.S_far (p := ⟨gb177, 1, none⟩) (Kd.S_far (p := ⟨gb177, 0, none⟩) (Kd.S_mono HO_3.out (fun k_ hk => (⟨hk, hk.2⟩ : _ ∧ k_ ≠ gb177))) (fun _ hk => hk.2) (.slice none 0 0)) (fun _ hk => hk.2) (.int .i64 ((iQ l0 x4_1).f1))) (fun _ hk => ⟨(by simp [Value.ownBlock]), hk.1.2⟩)⟩, ⟨by first | exact Kd.R_nil _ _ _ _ _ | exact Kd.N_nil _ _ _ _ _ | exact Kd.V_nil _ _ _ _ _ | exact Kd.Q_nil _ _ _ _ _ | exact Kd.S_nil _ _ _ _ _⟩, ⟨by (with_reducible repeat (first | refine iK ?_ _ | refine iO ?_ | refine iH ?_ _)); refine iZ (cs := #[.slice none 0 0, .int .i64 0]) ?_ 1 _ rfl; (with_reducible repeat (first | refine iK ?_ _ | refine iO ?_ | refine iH ?_ _)); refine iZ (cs := #[.slice none 0 0, .int .i64 0]) ?_ 0 _ rfl; (with_reducible repeat (first | refine iK ?_ _ | refine iO ?_ | refine iH ?_ _)); exact BK177.out⟩, ⟨by repeat (first | (with_reducible first | exact HB.out | apply iF | apply iG | apply iJ | refine iM ?_ GE177.out) | exact HB.out)⟩⟩
                case round =>
                  clear H'
                  try clear c1
                  try clear p1
                  try clear q1
                  try clear hx1
                  try clear p2
                  try clear c3
                  try clear c3b0
                  try clear c4
                  try clear c5
                  try clear c5b0
                  try clear c6
                  try clear c6b0
                  try clear c7
                  try clear hcz8_0
                  try clear hcz8_1
                  try clear hfz8_0
                  try clear hfz8_1
                  try clear hx176_0
                  try clear hx176_1
                  try clear p176
                  try clear p2
                  try clear q176
                  obtain ⟨x6_3, x178000_3, u178000, rfl, HA, HK3, HO_3, HO_178000, BK177, HB⟩ := hrel
                  cases gk with
                  | zero => exact absurd HA.out (by simp [stratumlaw07_Facts.l1])
                  | succ k3 =>
                    have H := HA.out
                    clear HA
                    simp only [stratumlaw07_Facts.l1] at H
                    by_cases c9 : 0 ≤ x4_1
                    · rw [if_pos c9] at H
                      have c9b0 : decide (0 ≤ x4_1) = true := decide_eq_true c9
                      clear c9
                      by_cases c10 : x4_1 < (l0.length : Int)
                      · rw [if_pos c10] at H
                        have c10b0 : decide (x4_1 < (l0.length : Int)) = true := decide_eq_true c10
                        clear c10
                        by_cases c11 : x6_3 < (((iQ l0 x4_1).f0).length : Int)
                        · rw [if_pos c11] at H
                          have c11b0 : decide (x6_3 < (((iQ l0 x4_1).f0).length : Int)) = true := decide_eq_true c11
                          clear c11
                          by_cases c12 : x6_3 < 4
                          · rw [if_pos c12] at H
                            have c12b0 : decide (x6_3 < 4) = true := decide_eq_true c12
                            clear c12
                            by_cases c13 : 0 ≤ x6_3
                            · rw [if_pos c13] at H
                              have c13b0 : decide (0 ≤ x6_3) = true := decide_eq_true c13
                              clear c13
                              obtain ⟨ji14, hji14⟩ : ∃ j_ : Int, (mx (rd ((iQ l0 x4_1).f0) x6_3) 0) = j_ := ⟨_, rfl⟩
                              replace H : (if x178000_3.length < 17592186044416 then (stratumlaw07_Facts.l1 k3 l0 x3_1 x4_1 (wrap64 (x6_3 + 1)) (x178000_3 ++ [(ji14) % 10000]) ((iQ l0 x4_1).f1)) else (none)) = some r := by first | (rw [hji14] at H; exact H) | (simp only [hji14] at H ⊢; exact H)
                              have hji14_ : (if (rd ((iQ l0 x4_1).f0) x6_3) < 0 then 0 else (rd ((iQ l0 x4_1).f0) x6_3)) = ji14 := hji14
                              have hpos_ : 0 ≤ ji14 := by rw [← hji14_]; split <;> omega
                              have hmod_ : ji14.tmod 10000 = ji14 % 10000 := Int.tmod_eq_emod_of_nonneg hpos_
                              by_cases c15 : x178000_3.length < 17592186044416
                              · rw [if_pos c15] at H
                                have LMc15 := iC.mk c15
                                clear c15
                                obtain ⟨y181, hy181⟩ : ∃ y_ : List Int, y_ = (x178000_3 ++ [(ji14) % 10000]) := ⟨_, rfl⟩
                                replace H : (stratumlaw07_Facts.l1 k3 l0 x3_1 x4_1 (wrap64 (x6_3 + 1)) y181 ((iQ l0 x4_1).f1)) = some r := by first | (rw [hy181]; with_reducible exact H) | (have H2_ := (Option.bind_some _ _).symm.trans H; rw [hy181]; with_reducible exact H2_) | (have H2_ := (Option.bind_some _ _).symm.trans H; with_reducible exact H2_) | with_reducible exact H | (rw [hy181]; exact H) | exact H
                                have Ny181 := iC.mk hy181
                                clear hy181
                                have H' := iC.mk H
                                clear H
                                have p178 : 0 ≤ (x4_1 : Int) := of_decide_eq_true asm_
                                have q178 : x4_1 < (l0.length : Int) := of_decide_eq_true asm_
                                obtain ⟨ad178, A178_0, c178_0, e178, hx178_0, hx178_1, hl178_0, hi178_0⟩ := kK HR0.out x4_1 p178 q178
                                obtain rfl : ad176 = ad178 := (by injection e178)
                                replace hx178_0 := (HB.out.cell (World.block_lt_of_cell? w _ hx178_0)).trans hx178_0
                                replace hx178_1 := (HB.out.cell (World.block_lt_of_cell? w _ hx178_1)).trans hx178_1
                                have HR178_0 := iC.mk hi178_0
                                have HC178_0 := iC.mk hl178_0
                                clear hi178_0 hl178_0
                                replace p178 := eq_true p178
                                replace q178 := eq_true q178
                                try go_wp2
                                have n0_ := iC.mk (Kd.S_drew HO_3.out)
                                have n1_ := iC.mk (Kd.R_drew HO_178000.out)
                                have n2_ := iC.mk (iO BK177.out)
                                have n3_ := iC.mk (iJ HB.out)
                                clear HO_3
                                clear HO_178000
                                clear BK177
                                clear HB
                                have HO_3 := n0_
                                have HO_178000 := n1_
                                have BK177 := n2_
                                have HB := n3_
                                clear n0_ n1_ n2_ n3_
                                have p179 : 0 ≤ (x4_1 : Int) := of_decide_eq_true asm_
                                have q179 : x4_1 < (l0.length : Int) := of_decide_eq_true asm_
                                obtain ⟨ad179, A179_0, c179_0, e179, hx179_0, hx179_1, hl179_0, hi179_0⟩ := kK HR0.out x4_1 p179 q179
                                have hw179_1 := hx179_1
                                have hw179_0 := hx179_0
                                obtain rfl : ad176 = ad179 := (by injection e179)
                                replace hx179_0 := (HB.out.cell (World.block_lt_of_cell? w _ hx179_0)).trans hx179_0
                                replace hx179_1 := (HB.out.cell (World.block_lt_of_cell? w _ hx179_1)).trans hx179_1
                                have HR179_0 := iC.mk hi179_0
                                have HC179_0 := iC.mk hl179_0
                                clear hi179_0 hl179_0
                                replace p179 := eq_true p179
                                replace q179 := eq_true q179
                                have p180 : 0 ≤ (x6_3 : Int) := of_decide_eq_true asm_
                                have q180 : x6_3 < (((iQ l0 x4_1).f0).length : Int) := of_decide_eq_true asm_
                                obtain ⟨ad180, e180, hx180_0⟩ := Kd.at_int HR179_0.out x6_3 p180 q180
                                have hw180_0 := hx180_0
                                cases e180
                                replace hx180_0 := (HB.out.cell (World.block_lt_of_cell? w _ hx180_0)).trans hx180_0
                                replace p180 := eq_true p180
                                replace q180 := eq_true q180
                                refine qP (n := 16) (S := fun w' => w'.cell? ⟨gb177, 0, none⟩ = some (u178000) ∧ w'.cell? ⟨gb177, 1, none⟩ = some (.int .i64 ((iQ l0 x4_1).f1)) ∧ w'.cell? (ad176.add ((x4_1).toNat * 2)) = some (.slice (some ad180) ((iQ l0 x4_1).f0).length c179_0) ∧ w'.cell? ⟨(ad176.add ((x4_1).toNat * 2)).block, (ad176.add ((x4_1).toNat * 2)).off + 1, none⟩ = some (.int .i64 ((iQ l0 x4_1).f1)) ∧ w'.cell? (ad180.add (x6_3).toNat) = some (.int .i64 (rd ((iQ l0 x4_1).f0) x6_3))) (ds := [15]) #[false, false, false, false, false, false, false, false, false, false, false, false, false, false, false, false] (by kernel_rfl) rfl rfl ⟨(iE BK177.out 0).trans rfl, (iE BK177.out 1).trans rfl, ((HB.out.cell (World.block_lt_of_cell? w _ hw179_0)).trans hw179_0), ((HB.out.cell (World.block_lt_of_cell? w _ hw179_1)).trans hw179_1), ((HB.out.cell (World.block_lt_of_cell? w _ hw180_0)).trans hw180_0)⟩ (fun hHeld => ?_); refine mG stratumlaw07_Facts.tab9 stratumlaw07_Facts.bits9 (fun HT_ HW_ => ?_)
                                generalize wr.drew = w16 at HO_3 HO_178000 BK177 HB HR179_0 hx179_0 hx179_1 hx180_0 hHeld ⊢
                                refine jK (i := 0) (N := some 37) (v := ?_) (a' := ?_) #[true, false, false, false, false, false, false, false, false, false, false, false, false, false, false, false] rfl rfl (jB HT_.out (by kernel_rfl)) (fun _ _ _ h => h) (Or.inl ⟨by rfl, ?_⟩) ?_ ?_
                                rotate_left
                                · intro w'
                                  go_simp
                                  with_reducible rfl
                                rotate_left
                                · simp only [Act.put, List.setIfInBounds_toArray, List.set_cons_zero, List.set_cons_succ, iY, jD]
                                  rfl
                                refine jK (i := 2) (N := some 39) (v := ?_) (a' := ?_) #[true, false, true, false, false, false, false, false, false, false, false, false, false, false, false, false] rfl rfl (jB HT_.out (by kernel_rfl)) (fun _ _ _ h => h) (Or.inl ⟨by rfl, ?_⟩) ?_ ?_
                                rotate_left
                                · intro w'
                                  go_simp
                                  with_reducible rfl
                                rotate_left
                                · simp only [Act.put, List.setIfInBounds_toArray, List.set_cons_zero, List.set_cons_succ, iY, jD]
                                  rfl
                                refine jK (i := 3) (N := some 40) (v := ?_) (a' := ?_) #[true, false, true, true, false, false, false, false, false, false, false, false, false, false, false, false] rfl rfl (jB HT_.out (by kernel_rfl)) (fun _ _ _ h => h) (Or.inl ⟨by rfl, ?_⟩) ?_ ?_
                                rotate_left
                                · intro w'
                                  go_simp
                                  with_reducible rfl
                                rotate_left
                                · simp only [Act.put, List.setIfInBounds_toArray, List.set_cons_zero, List.set_cons_succ, iY, jD]
                                  rfl
                                refine jK (i := 4) (N := some 41) (v := ?_) (a' := ?_) #[true, false, true, true, true, false, false, false, false, false, false, false, false, false, false, false] rfl rfl (jB HT_.out (by kernel_rfl)) (fun _ _ _ h => h) (Or.inl ⟨by rfl, ?_⟩) ?_ ?_
                                rotate_left
                                · intro w'
                                  go_simp
                                  with_reducible rfl
                                rotate_left
                                · simp only [Act.put, List.setIfInBounds_toArray, List.set_cons_zero, List.set_cons_succ, iY, jD]
                                  rfl
                                refine jK (i := 5) (N := some 42) (v := ?_) (a' := ?_) #[true, false, true, true, true, true, false, false, false, false, false, false, false, false, false, false] rfl rfl (jB HT_.out (by kernel_rfl)) (fun _ _ _ h => h) (Or.inl ⟨by rfl, ?_⟩) ?_ ?_
                                rotate_left
                                · intro w'
                                  go_simp
                                  with_reducible rfl
                                rotate_left
                                · simp only [Act.put, List.setIfInBounds_toArray, List.set_cons_zero, List.set_cons_succ, iY, jD]
                                  rfl
                                refine jK (i := 7) (N := some 44) (v := ?_) (a' := ?_) #[true, false, true, true, true, true, false, true, false, false, false, false, false, false, false, false] rfl rfl (jB HT_.out (by kernel_rfl)) (fun _ _ _ h => h) (Or.inl ⟨by rfl, ?_⟩) ?_ ?_
                                rotate_left
                                · intro w'
                                  go_simp
                                  with_reducible rfl
                                rotate_left
                                · simp only [Act.put, List.setIfInBounds_toArray, List.set_cons_zero, List.set_cons_succ, iY, jD]
                                  rfl
                                refine lZ (i := 1) (N := some 38) (v := ?_) (a' := ?_) #[true, true, true, true, true, true, false, true, false, false, false, false, false, false, false, false] rfl rfl (jU HT_.out HW_.out (by kernel_rfl)) (fun _ _ _ h => h) (Or.inl ⟨by rfl, ?_⟩) hHeld ?_ ?_
                                rotate_left
                                · rintro w' ⟨s0, s1, s2, s3, s4⟩
                                  go_simp
                                  with_reducible rfl
                                rotate_left
                                · simp only [Act.put, List.setIfInBounds_toArray, List.set_cons_zero, List.set_cons_succ, iY, jD]
                                  rfl
                                refine lZ (i := 6) (N := some 43) (v := ?_) (a' := ?_) #[true, true, true, true, true, true, true, true, false, false, false, false, false, false, false, false] rfl rfl (jU HT_.out HW_.out (by kernel_rfl)) (fun _ _ _ h => h) (Or.inl ⟨by rfl, ?_⟩) hHeld ?_ ?_
                                rotate_left
                                · rintro w' ⟨s0, s1, s2, s3, s4⟩
                                  go_simp
                                  with_reducible rfl
                                rotate_left
                                · simp only [Act.put, List.setIfInBounds_toArray, List.set_cons_zero, List.set_cons_succ, iY, jD]
                                  rfl
                                refine jK (i := 8) (N := some 45) (v := ?_) (a' := ?_) #[true, true, true, true, true, true, true, true, true, false, false, false, false, false, false, false] rfl rfl (jB HT_.out (by kernel_rfl)) (fun _ _ _ h => h) (Or.inl ⟨by rfl, ?_⟩) ?_ ?_
                                rotate_left
                                · intro w'
                                  go_simp
                                  with_reducible rfl
                                rotate_left
                                · simp only [Act.put, List.setIfInBounds_toArray, List.set_cons_zero, List.set_cons_succ, iY, jD]
                                  rfl
                                refine lZ (i := 9) (N := some 46) (v := ?_) (a' := ?_) #[true, true, true, true, true, true, true, true, true, true, false, false, false, false, false, false] rfl rfl (jU HT_.out HW_.out (by kernel_rfl)) (fun _ _ _ h => h) (Or.inl ⟨by rfl, ?_⟩) hHeld ?_ ?_
                                rotate_left
                                · rintro w' ⟨s0, s1, s2, s3, s4⟩
                                  go_simp
                                  with_reducible rfl
                                rotate_left
                                · simp only [Act.put, List.setIfInBounds_toArray, List.set_cons_zero, List.set_cons_succ, iY, jD]
                                  rfl
                                refine jK (i := 10) (N := some 47) (v := ?_) (a' := ?_) #[true, true, true, true, true, true, true, true, true, true, true, false, false, false, false, false] rfl rfl (jB HT_.out (by kernel_rfl)) (fun _ _ _ h => h) (Or.inl ⟨by rfl, ?_⟩) ?_ ?_
                                rotate_left
                                · intro w'
                                  go_simp
                                  with_reducible rfl
                                rotate_left
                                · simp only [Act.put, List.setIfInBounds_toArray, List.set_cons_zero, List.set_cons_succ, iY, jD]
                                  rfl
                                refine jK (i := 11) (N := some 48) (v := ?_) (a' := ?_) #[true, true, true, true, true, true, true, true, true, true, true, true, false, false, false, false] rfl rfl (jB HT_.out (by kernel_rfl)) (fun _ _ _ h => h) (Or.inl ⟨by rfl, ?_⟩) ?_ ?_
                                rotate_left
                                · intro w'
                                  go_simp
                                  with_reducible rfl
                                rotate_left
                                · simp only [Act.put, List.setIfInBounds_toArray, List.set_cons_zero, List.set_cons_succ, iY, jD]
                                  rfl
                                refine one_ (i := 12) (N := some 49) #[true, true, true, true, true, true, true, true, true, true, true, true, true, false, false, false] rfl rfl (mX HT_.out (by kernel_rfl)) (by decide) (fun K hK => ?_)
                                refine jT (w1 := ?_) (v := ?_) (by rfl) rfl ?_ ?_
                                rotate_left 2
                                · go_simp
                                  constructor
                                  · rfl
                                  · rfl
                                refine hK.out _ _ ⟨(iE (iH BK177.out _) 0).trans rfl, (iE (iH BK177.out _) 1).trans rfl, (World.cell?_alloc_lt _ _ _ (World.block_lt_of_cell? _ _ (((HB.out.cell (World.block_lt_of_cell? w _ hw179_0)).trans hw179_0)))).trans (((HB.out.cell (World.block_lt_of_cell? w _ hw179_0)).trans hw179_0)), (World.cell?_alloc_lt _ _ _ (World.block_lt_of_cell? _ _ (((HB.out.cell (World.block_lt_of_cell? w _ hw179_1)).trans hw179_1)))).trans (((HB.out.cell (World.block_lt_of_cell? w _ hw179_1)).trans hw179_1)), (World.cell?_alloc_lt _ _ _ (World.block_lt_of_cell? _ _ (((HB.out.cell (World.block_lt_of_cell? w _ hw180_0)).trans hw180_0)))).trans (((HB.out.cell (World.block_lt_of_cell? w _ hw180_0)).trans hw180_0))⟩ (fun hHeld => ?_)
                                clear hK K
                                refine uX (a' := ?_) ?_ ?_
                                rotate_left
                                · show Act.put _ (some 49) _ = _
                                  simp only [Act.put, List.setIfInBounds_toArray, List.set_cons_zero, List.set_cons_succ, iY, jD]
                                  rfl
                                refine one_ (i := 13) (N := some 50) #[true, true, true, true, true, true, true, true, true, true, true, true, true, true, false, false] rfl rfl (mX HT_.out (by kernel_rfl)) (by decide) (fun K hK => ?_)
                                refine Kd.R_append_step (Kd.int .i64) (w0 := w) w.heap.size (by rfl) (.tmp 38) (.tmp 49) 23 3 (.int .i64 0) 8 rfl Tryd.underlying23 info3 rfl (by decide) (by omega) u178000 x178000_3 ((ji14) % 10000) [.int .i64 ((ji14) % 10000)] (fun _ => True) (fun _ => False) rfl rfl ?aP (fun _ hk => hk.elim) ?aF ?aO ?aB ?aS ?aL ?_
                                (case aP => exact rfl)
                                (case aB => exact (by repeat (first | (with_reducible first | exact HB.out | apply iF | apply iG | apply iJ | refine iM ?_ GE177.out) | exact HB.out)))
                                (case aF => exact (fun _ _ => trivial))
                                (case aO => exact (by (with_reducible repeat (first | apply Kd.R_alloc | apply Kd.R_drewN | apply Kd.R_drew)); exact HO_178000.out))
                                (case aS => exact (iW (by repeat (first | (with_reducible first | exact HB.out | apply iF | apply iG | apply iJ | refine iM ?_ GE177.out) | exact HB.out))))
                                (case aL => have := LMc15.out; omega)
                                intro v182 w17 ho hb hg hat
                                rw [← Ny181.out] at ho
                                have n0_ := iC.mk (Kd.S_after (ok := (fun k_ => k_ ≠ gb177)) (by (with_reducible repeat (first | apply Kd.S_alloc | apply Kd.S_drewN | apply Kd.S_drew)); exact Kd.S_mono HO_3.out (fun _ hk => ⟨hk.2, hk.1⟩)) hg hat)
                                have n1_ := iC.mk (mO (g := gb177) (o := .cells #[u178000, .int .i64 ((iQ l0 x4_1).f1)] 139 (0, 0)) (bk_ BK177.out) hg (Kd.R_ne HO_178000.out BK177.out (by decide)))
                                have n2_ := iC.mk (hb)
                                have n3_ := iC.mk (ho)
                                clear HO_3
                                clear BK177
                                clear HB
                                clear HO_178000
                                have HO_3 := n0_
                                have BK177 := n1_
                                have HB := n2_
                                have HO183 := n3_
                                clear n0_ n1_ n2_ n3_
                                clear ho hb hg hat
                                obtain ⟨Ao18, co18, eo18⟩ := Kd.R_slice HO183.out
                                (first | subst eo18 | (injection eo18 with f1_ f2_ f3_; have f4_ := f1_.symm; have f5_ := f3_.symm; clear f1_ f2_ f3_; subst f4_; subst f5_))
                                refine hK.out _ _ ⟨(iE BK177.out 0).trans rfl, (iE BK177.out 1).trans rfl, ((HB.out.cell (World.block_lt_of_cell? w _ hw179_0)).trans hw179_0), ((HB.out.cell (World.block_lt_of_cell? w _ hw179_1)).trans hw179_1), ((HB.out.cell (World.block_lt_of_cell? w _ hw180_0)).trans hw180_0)⟩ (fun hHeld => ?_)
                                clear hK K
                                refine uX (a' := ?_) ?_ ?_
                                rotate_left
                                · show Act.put _ (some 50) _ = _
                                  simp only [Act.put, List.setIfInBounds_toArray, List.set_cons_zero, List.set_cons_succ, iY, jD]
                                  rfl
                                refine jK (i := 14) (N := some 51) (v := ?_) (a' := ?_) #[true, true, true, true, true, true, true, true, true, true, true, true, true, true, true, false] rfl rfl (jB HT_.out (by kernel_rfl)) (fun _ _ _ h => h) (Or.inl ⟨by rfl, ?_⟩) ?_ ?_
                                rotate_left
                                · intro w'
                                  go_simp
                                  with_reducible rfl
                                rotate_left
                                · simp only [Act.put, List.setIfInBounds_toArray, List.set_cons_zero, List.set_cons_succ, iY, jD]
                                  rfl
                                refine PS (i := 15) (N := none) #[true, true, true, true, true, true, true, true, true, true, true, true, true, true, true, true] rfl rfl (mX HT_.out (by kernel_rfl)) (by decide) (fun K hK => ?_)
                                have hs19 : w17.cell? ⟨gb177, 0, none⟩ = some (u178000) := (iE BK177.out 0).trans rfl
                                have hfs19 := iD BK177.out 0
                                refine OZ (w1 := ?_) (by rfl) rfl ?_ ?_
                                rotate_left
                                · go_simp
                                  rfl
                                refine hK.out _ _ ?_
                                clear hK K
                                refine I7 (pW HT_.out (by kernel_rfl)) ?_
                                try go_wp2
                                go_roundg k3
                                case measure => have := HK1.out; have := HJ1.out; have := HK3.out; omega
                                case rel => exact ⟨(wrap64 (x6_3 + 1)), (y181), (.slice Ao18 y181.length co18), (by first | rfl | (simp; done) | (simp [*]; done)), H', ⟨by have := HK1.out; have := HJ1.out; have := HK3.out; omega⟩, ⟨by (with_reducible repeat (first | apply Kd.S_alloc | apply Kd.S_drewN | apply Kd.S_drew)); exact Kd.S_mono (Kd.S_far (p := ⟨gb177, 0, none⟩) (Kd.S_mono HO_3.out (fun k_ hk => (⟨hk, hk.1⟩ : _ ∧ k_ ≠ gb177))) (fun _ hk => hk.2) (.slice Ao18 y181.length co18)) (fun _ hk => ⟨hk.1.2, hk.1.1⟩)⟩, ⟨by (with_reducible repeat (first | apply Kd.R_alloc | apply Kd.R_drewN | apply Kd.R_drew)); exact Kd.R_mono (Kd.R_far (p := ⟨gb177, 0, none⟩) (Kd.R_types HO183.out BK177.out (by decide)) (fun _ hk => hk.2) (.slice Ao18 y181.length co18)) (fun _ hk => trivial)⟩, ⟨by (with_reducible repeat (first | refine iK ?_ _ | refine iO ?_ | refine iH ?_ _)); refine iZ (cs := #[u178000, .int .i64 ((iQ l0 x4_1).f1)]) ?_ 0 _ rfl; (with_reducible repeat (first | refine iK ?_ _ | refine iO ?_ | refine iH ?_ _)); exact BK177.out⟩, ⟨by repeat (first | (with_reducible first | exact HB.out | apply iF | apply iG | apply iJ | refine iM ?_ GE177.out) | exact HB.out)⟩⟩
                              · rw [if_neg c15] at H
                                exact absurd H (by simp)
                            · rw [if_neg c13] at H
                              exact absurd H (by simp)
                          · rw [if_neg c12] at H
                            have c12b0 : decide (x6_3 < 4) = false := decide_eq_false c12
                            clear c12
                            by_cases c20 : x3_1.length < 4398046511104
                            · rw [if_pos c20] at H
                              have LMc20 := iC.mk c20
                              clear c20
                              obtain ⟨y184, hy184⟩ : ∃ y_ : List (S139), y_ = (x3_1 ++ [(⟨x178000_3, ((iQ l0 x4_1).f1)⟩ : S139)]) := ⟨_, rfl⟩
                              replace H : (stratumlaw07_Facts.l0 k3 l0 y184 (wrap64 (x4_1 + 1))) = some r := by first | (rw [hy184]; with_reducible exact H) | (have H2_ := (Option.bind_some _ _).symm.trans H; rw [hy184]; with_reducible exact H2_) | (have H2_ := (Option.bind_some _ _).symm.trans H; with_reducible exact H2_) | with_reducible exact H | (rw [hy184]; exact H) | exact H
                              have Ny184 := iC.mk hy184
                              clear hy184
                              have H' := iC.mk H
                              clear H
                              have p178 : 0 ≤ (x4_1 : Int) := of_decide_eq_true asm_
                              have q178 : x4_1 < (l0.length : Int) := of_decide_eq_true asm_
                              obtain ⟨ad178, A178_0, c178_0, e178, hx178_0, hx178_1, hl178_0, hi178_0⟩ := kK HR0.out x4_1 p178 q178
                              obtain rfl : ad176 = ad178 := (by injection e178)
                              replace hx178_0 := (HB.out.cell (World.block_lt_of_cell? w _ hx178_0)).trans hx178_0
                              replace hx178_1 := (HB.out.cell (World.block_lt_of_cell? w _ hx178_1)).trans hx178_1
                              have HR178_0 := iC.mk hi178_0
                              have HC178_0 := iC.mk hl178_0
                              clear hi178_0 hl178_0
                              replace p178 := eq_true p178
                              replace q178 := eq_true q178
                              have hcz21_0 : wr.cell? ⟨gb177, 0, none⟩ = some (u178000) := (iE BK177.out 0).trans rfl
                              have hcz21_1 : wr.cell? ⟨gb177, 1, none⟩ = some (.int .i64 ((iQ l0 x4_1).f1)) := (iE BK177.out 1).trans rfl
                              have hfz21_0 := iD BK177.out 0
                              have hfz21_1 := iD BK177.out 1
                              obtain ⟨Ao23, co23, eo23⟩ := Kd.R_slice HO_178000.out
                              subst eo23
                              go_wp2_with (first | ((with_reducible refine oD (b := .append) (xs := #[.tmp 52, .tmp 54]) rfl ?_); at_builtin; refine Kd.S_append k139 (w0 := w) w.heap.size rfl (.tmp 52) (.tmp 54) 24 139 (.agg #[(.slice none 0 0), (.int .i64 0)]) 32 rfl Tryd.underlying24 QH rfl (by decide) (by omega) u3 x3_1 (⟨x178000_3, ((iQ l0 x4_1).f1)⟩ : S139) [.slice Ao23 x178000_3.length co23, .int .i64 ((iQ l0 x4_1).f1)] (fun k_ => k_ ≠ gb177) (fun k_ => some k_ = (.slice Ao23 x178000_3.length co23 : Value).ownBlock) rfl rfl ?aP (fun k_ hk_ => ((Kd.R_mono (ok' := fun k_ => ((fun k_ => k_ ≠ gb177)) k_ ∧ some k_ ≠ (u3 : Value).ownBlock) (Kd.R_types (Kd.R_apart' (HO_178000.out) (Kd.S_typed HO_3.out) (by decide)) BK177.out (by decide)) (fun k_ hk => ⟨hk.2, hk.1.2⟩))).1 k_ hk_.symm) ?aF ?aO ?aB ?aS ?aL ?_; (case aP => exact IC _ _ _ (⟨x178000_3, ((iQ l0 x4_1).f1)⟩ : S139) (Kd.R_mono (Kd.R_tight rfl (Kd.R_mono (ok' := fun k_ => ((fun k_ => k_ ≠ gb177)) k_ ∧ some k_ ≠ (u3 : Value).ownBlock) (Kd.R_types (Kd.R_apart' (HO_178000.out) (Kd.S_typed HO_3.out) (by decide)) BK177.out (by decide)) (fun k_ hk => ⟨hk.2, hk.1.2⟩))) (fun _ h_ => h_))); (case aB => exact (by repeat (first | (with_reducible first | exact HB.out | apply iF | apply iG | apply iJ | refine iM ?_ GE177.out) | exact HB.out))); (case aF => exact (fun k_ hk => Kd.freshB (g := gb177) (o := .cells #[.slice Ao23 x178000_3.length co23, .int .i64 ((iQ l0 x4_1).f1)] 139 (0, 0)) (bk_ BK177.out) k_ hk)); (case aO => exact (by (with_reducible repeat (first | apply Kd.S_alloc | apply Kd.S_drewN | apply Kd.S_drew)); exact Kd.S_mono HO_3.out (fun k_ hk => ⟨hk.2, fun e_ => hk.1 e_⟩))); (case aS => exact (iW (by repeat (first | (with_reducible first | exact HB.out | apply iF | apply iG | apply iJ | refine iM ?_ GE177.out) | exact HB.out)))); (case aL => have := LMc20.out; omega); intro v185 w22 ho hb hg hat; rw [← Ny184.out] at ho; have n0_ := iC.mk (mO (g := gb177) (o := .cells #[.slice Ao23 x178000_3.length co23, .int .i64 ((iQ l0 x4_1).f1)] 139 (0, 0)) (bk_ BK177.out) hg (Kd.S_away HO_3.out (fun _ hk => hk.2))); have n1_ := iC.mk (hb); have n2_ := iC.mk (ho); clear BK177; clear HB; clear HO_3; clear HO_178000; have BK177 := n0_; have HB := n1_; have HO186 := n2_; clear n0_ n1_ n2_; clear ho hb hg hat))
                              go_roundg k3
                              case measure => have := HK1.out; have := HJ1.out; have := HK3.out; omega
                              case rel => exact ⟨(y184), (wrap64 (x4_1 + 1)), (by first | rfl | (simp; done) | (simp [*]; done)), H', ⟨by have := HK1.out; have := HJ1.out; have := HK3.out; omega⟩, ⟨by (with_reducible repeat (first | apply Kd.S_alloc | apply Kd.S_drewN | apply Kd.S_drew)); exact Kd.S_mono HO186.out (fun _ hk => trivial)⟩, ⟨by repeat (first | (with_reducible first | exact HB.out | apply iF | apply iG | apply iJ | refine iM ?_ GE177.out) | exact HB.out)⟩⟩
                            · rw [if_neg c20] at H
                              exact absurd H (by simp)
                        · rw [if_neg c11] at H
                          have c11b0 : decide (x6_3 < (((iQ l0 x4_1).f0).length : Int)) = false := decide_eq_false c11
                          clear c11
                          by_cases c24 : x3_1.length < 4398046511104
                          · rw [if_pos c24] at H
                            have LMc24 := iC.mk c24
                            clear c24
                            obtain ⟨y187, hy187⟩ : ∃ y_ : List (S139), y_ = (x3_1 ++ [(⟨x178000_3, ((iQ l0 x4_1).f1)⟩ : S139)]) := ⟨_, rfl⟩
                            replace H : (stratumlaw07_Facts.l0 k3 l0 y187 (wrap64 (x4_1 + 1))) = some r := by first | (rw [hy187]; with_reducible exact H) | (have H2_ := (Option.bind_some _ _).symm.trans H; rw [hy187]; with_reducible exact H2_) | (have H2_ := (Option.bind_some _ _).symm.trans H; with_reducible exact H2_) | with_reducible exact H | (rw [hy187]; exact H) | exact H
                            have Ny187 := iC.mk hy187
                            clear hy187
                            have H' := iC.mk H
                            clear H
                            have p178 : 0 ≤ (x4_1 : Int) := of_decide_eq_true asm_
                            have q178 : x4_1 < (l0.length : Int) := of_decide_eq_true asm_
                            obtain ⟨ad178, A178_0, c178_0, e178, hx178_0, hx178_1, hl178_0, hi178_0⟩ := kK HR0.out x4_1 p178 q178
                            obtain rfl : ad176 = ad178 := (by injection e178)
                            replace hx178_0 := (HB.out.cell (World.block_lt_of_cell? w _ hx178_0)).trans hx178_0
                            replace hx178_1 := (HB.out.cell (World.block_lt_of_cell? w _ hx178_1)).trans hx178_1
                            have HR178_0 := iC.mk hi178_0
                            have HC178_0 := iC.mk hl178_0
                            clear hi178_0 hl178_0
                            replace p178 := eq_true p178
                            replace q178 := eq_true q178
                            have hcz25_0 : wr.cell? ⟨gb177, 0, none⟩ = some (u178000) := (iE BK177.out 0).trans rfl
                            have hcz25_1 : wr.cell? ⟨gb177, 1, none⟩ = some (.int .i64 ((iQ l0 x4_1).f1)) := (iE BK177.out 1).trans rfl
                            have hfz25_0 := iD BK177.out 0
                            have hfz25_1 := iD BK177.out 1
                            obtain ⟨Ao27, co27, eo27⟩ := Kd.R_slice HO_178000.out
                            subst eo27
                            go_wp2_with (first | ((with_reducible refine oD (b := .append) (xs := #[.tmp 52, .tmp 54]) rfl ?_); at_builtin; refine Kd.S_append k139 (w0 := w) w.heap.size rfl (.tmp 52) (.tmp 54) 24 139 (.agg #[(.slice none 0 0), (.int .i64 0)]) 32 rfl Tryd.underlying24 QH rfl (by decide) (by omega) u3 x3_1 (⟨x178000_3, ((iQ l0 x4_1).f1)⟩ : S139) [.slice Ao27 x178000_3.length co27, .int .i64 ((iQ l0 x4_1).f1)] (fun k_ => k_ ≠ gb177) (fun k_ => some k_ = (.slice Ao27 x178000_3.length co27 : Value).ownBlock) rfl rfl ?aP (fun k_ hk_ => ((Kd.R_mono (ok' := fun k_ => ((fun k_ => k_ ≠ gb177)) k_ ∧ some k_ ≠ (u3 : Value).ownBlock) (Kd.R_types (Kd.R_apart' (HO_178000.out) (Kd.S_typed HO_3.out) (by decide)) BK177.out (by decide)) (fun k_ hk => ⟨hk.2, hk.1.2⟩))).1 k_ hk_.symm) ?aF ?aO ?aB ?aS ?aL ?_; (case aP => exact IC _ _ _ (⟨x178000_3, ((iQ l0 x4_1).f1)⟩ : S139) (Kd.R_mono (Kd.R_tight rfl (Kd.R_mono (ok' := fun k_ => ((fun k_ => k_ ≠ gb177)) k_ ∧ some k_ ≠ (u3 : Value).ownBlock) (Kd.R_types (Kd.R_apart' (HO_178000.out) (Kd.S_typed HO_3.out) (by decide)) BK177.out (by decide)) (fun k_ hk => ⟨hk.2, hk.1.2⟩))) (fun _ h_ => h_))); (case aB => exact (by repeat (first | (with_reducible first | exact HB.out | apply iF | apply iG | apply iJ | refine iM ?_ GE177.out) | exact HB.out))); (case aF => exact (fun k_ hk => Kd.freshB (g := gb177) (o := .cells #[.slice Ao27 x178000_3.length co27, .int .i64 ((iQ l0 x4_1).f1)] 139 (0, 0)) (bk_ BK177.out) k_ hk)); (case aO => exact (by (with_reducible repeat (first | apply Kd.S_alloc | apply Kd.S_drewN | apply Kd.S_drew)); exact Kd.S_mono HO_3.out (fun k_ hk => ⟨hk.2, fun e_ => hk.1 e_⟩))); (case aS => exact (iW (by repeat (first | (with_reducible first | exact HB.out | apply iF | apply iG | apply iJ | refine iM ?_ GE177.out) | exact HB.out)))); (case aL => have := LMc24.out; omega); intro v188 w26 ho hb hg hat; rw [← Ny187.out] at ho; have n0_ := iC.mk (mO (g := gb177) (o := .cells #[.slice Ao27 x178000_3.length co27, .int .i64 ((iQ l0 x4_1).f1)] 139 (0, 0)) (bk_ BK177.out) hg (Kd.S_away HO_3.out (fun _ hk => hk.2))); have n1_ := iC.mk (hb); have n2_ := iC.mk (ho); clear BK177; clear HB; clear HO_3; clear HO_178000; have BK177 := n0_; have HB := n1_; have HO189 := n2_; clear n0_ n1_ n2_; clear ho hb hg hat))
                            go_roundg k3
                            case measure => have := HK1.out; have := HJ1.out; have := HK3.out; omega
                            case rel => exact ⟨(y187), (wrap64 (x4_1 + 1)), (by first | rfl | (simp; done) | (simp [*]; done)), H', ⟨by have := HK1.out; have := HJ1.out; have := HK3.out; omega⟩, ⟨by (with_reducible repeat (first | apply Kd.S_alloc | apply Kd.S_drewN | apply Kd.S_drew)); exact Kd.S_mono HO189.out (fun _ hk => trivial)⟩, ⟨by repeat (first | (with_reducible first | exact HB.out | apply iF | apply iG | apply iJ | refine iM ?_ GE177.out) | exact HB.out)⟩⟩
                          · rw [if_neg c24] at H
                            exact absurd H (by simp)
                      · rw [if_neg c10] at H
                        exact absurd H (by simp)
                    · rw [if_neg c9] at H
                      exact absurd H (by simp)
              · rw [if_neg c6] at H
                exact absurd H (by simp)
            · rw [if_neg c5] at H
              exact absurd H (by simp)
          · replace c4 := Bool.eq_false_iff.mpr c4
            subst c4
            have H1 : (some x3_1) = some r := by rw [if_neg (show ¬ (false = true) by decide)] at H; exact H
            clear H
            have H := H1
            clear H1
            obtain rfl := Option.some.inj H
            go_wp2
            go_ret
            exact ⟨_, by first | rfl | (simp [iT, iU] <;> rfl) | (simp [*, iT, iU] <;> rfl), by (with_reducible repeat (first | apply Kd.S_alloc | apply Kd.S_drewN | apply Kd.S_drew)); exact HO_3.out, hb_⟩
theorem stratumlaw07_Facts.calls (k : Nat) (A0 : Option Addr) (c0 : Nat) (l0 : List (S139)) (r : List (S139)) (w : World) (hr0 : Kd.C k139 w A0 l0.length l0) (hc0 : l0.length ≤ c0) (h : stratumlaw07_Facts.f k l0 = some r) :
    Calls Tryd.prog 73 #[.slice A0 l0.length c0] w fun e w' => ∃ v0_ : Value, e = .returned (v0_) ∧ Kd.R k139 139 w' w.heap.size (fun _ => True) v0_ r ∧ Below w.heap.size w w' :=
  (stratumlaw07_Facts.callsS k A0 c0 l0 r w hr0 hc0 h).mono fun _ _ ⟨v, he, hs, hb⟩ => ⟨v, he, Kd.S_R hs, hb⟩
end Go.Proofs.YtgfkgppomaapiaaDoor.K
end
