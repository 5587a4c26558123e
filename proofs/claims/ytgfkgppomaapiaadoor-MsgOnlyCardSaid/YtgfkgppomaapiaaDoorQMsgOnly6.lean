/- Parts of the proof, one behind the other: MsgD, MsgN, MsgQ, MsgT, MsgW2. -/
import Derived.Test.YtgfkgppomaapiaaDoorQMsgOnly5
set_option linter.unusedVariables false
set_option linter.unusedSimpArgs false
section
namespace Go.Proofs.YtgfkgppomaapiaaDoor.K
open Go Go.RowKit Go.Proofs.YtgfkgppomaapiaaDoorW.PrintWords Go.Proofs.YtgfkgppomaapiaaDoorW.PrintLast Go.Proofs.YtgfkgppomaapiaaDoorW.PrintMore Go.Proofs.YtgfkgppomaapiaaDoor.My
theorem mY {w : World} {A : Option Addr} {n : Nat} {l : List UInt8} (h : kb.C w A n l) : (Kd.int .u8).C w A n (nums l) := by
  refine ⟨by rw [jS]; exact h.1, h.2.1, fun hn => ?_⟩
  obtain ⟨ad, e, hc⟩ := h.2.2 hn
  refine ⟨ad, e, fun j p hj => ?_⟩
  unfold nums at hj
  rw [List.getElem?_map] at hj
  obtain ⟨b, hb, rfl⟩ := Option.map_eq_some_iff.1 hj
  exact hc j b hb
def qR (w : World) (d : SMsg × Int) (e : Ending) (w' : World) : Prop := ∃ A3 a3 A4 a4 A9 a9, e = .returned (.tuple #[.agg #[.int .u8 d.1.f0, .int .u32 d.1.f1, .int .u32 d.1.f2, .slice A3 d.1.f3.length a3, .slice A4 d.1.f4.length a4, .int .i64 d.1.f5, .int .i64 d.1.f6, .slice A9 d.1.f7.length a9], .int .u16 d.2]) ∧ pK w' d.1 A3 a3 A4 a4 A9 a9 ∧ Below w.heap.size w w'
theorem vV (w : World) : pK w kN none 0 none 0 none 0 := ⟨Kd.C_nil _ _, Nat.le_refl _, Kd.C_nil _ _, Nat.le_refl _, Kd.C_nil _ _, Nat.le_refl _⟩
theorem PN (w w' : World) (c : Int) (h : Below w.heap.size w w') : qR w (kN, c) (.returned (.tuple #[.agg #[.int .u8 0, .int .u32 0, .int .u32 0, .slice none 0 0, .slice none 0 0, .int .i64 0, .int .i64 0, .slice none 0 0], .int .u16 c])) w' := ⟨none, 0, none, 0, none, 0, rfl, vV _, h⟩
theorem qO (w W : World) (h : Below w.heap.size w W) (c : Int) : qR w (kN, c) (.returned (.tuple #[.agg #[.int .u8 0, .int .u32 0, .int .u32 0, .slice none 0 0, .slice none 0 0, .int .i64 0, .int .i64 0, .slice none 0 0], .int .u16 c])) (W.setRow w.heap.size #[.int .u8 0, .int .u32 0, .int .u32 0, .slice none 0 0, .slice none 0 0, .int .i64 0, .int .i64 0, .slice none 0 0]) :=
  PN w _ c (below_grown h (jA W w.heap.size _) (Nat.le_refl _) (Nat.le_refl _))
theorem pF {tmps : Array Value} {W : World} {p u : Tmp} {b : Nat} {cs : Array Value} {x : Value} (h : Tryd.f32.results = #[.cell p 51, .tmp u]) (hp : tmps.getD p undef = .pointer (some ⟨b, 0, none⟩)) (hu : tmps.getD u undef = x) (hx : W.heap[b]? = some (.cells cs 51 (0, 0))) (hs : cs.size = 8) :
    (results Tryd.f32 tmps).run Tryd.prog W = .ok (.tuple #[.agg cs, x]) W := by
  have h1 := run_loadVar_row (P := Tryd.prog) W b 51 51 cs (0, 0) _ hx Tryd.underlying51 rfl (by rw [hs]; kernel_rfl)
  rw [results_cell_tmp h, hp, hu]
  simp [asAddr, h1, Result.andThen]
theorem zV : (Tryd.prog).built 51 (#[] : Array (Nat × Value)).toList = some #[.int .u8 0, .int .u32 0, .int .u32 0, .slice none 0 0, .slice none 0 0, .int .i64 0, .int .i64 0, .slice none 0 0] := by kernel_rfl
theorem J6 (w : World) : (Instr.build 51 #[]).run Tryd.prog w = .ok (.agg #[.int .u8 0, .int .u32 0, .int .u32 0, .slice none 0 0, .slice none 0 0, .int .i64 0, .int .i64 0, .slice none 0 0]) w := run_build w _ _ _ zV
theorem NY (k i a p q : Int) (A3 : Option Addr) (n3 c3 : Nat) (A4 : Option Addr) (n4 c4 : Nat) (A9 : Option Addr) (n9 c9 : Nat) : (Tryd.prog).built 51 (#[(0, .int .u8 k), (1, .int .u32 i), (2, .int .u32 a), (3, .slice A3 n3 c3), (4, .slice A4 n4 c4), (5, .int .i64 p), (6, .int .i64 q), (7, .slice A9 n9 c9)] : Array (Nat × Value)).toList = some #[.int .u8 k, .int .u32 i, .int .u32 a, .slice A3 n3 c3, .slice A4 n4 c4, .int .i64 p, .int .i64 q, .slice A9 n9 c9] := by kernel_rfl
theorem RV (w : World) (k i a p q : Int) (A3 : Option Addr) (n3 c3 : Nat) (A4 : Option Addr) (n4 c4 : Nat) (A9 : Option Addr) (n9 c9 : Nat) : (Instr.build 51 #[(0, .int .u8 k), (1, .int .u32 i), (2, .int .u32 a), (3, .slice A3 n3 c3), (4, .slice A4 n4 c4), (5, .int .i64 p), (6, .int .i64 q), (7, .slice A9 n9 c9)]).run Tryd.prog w = .ok (.agg #[.int .u8 k, .int .u32 i, .int .u32 a, .slice A3 n3 c3, .slice A4 n4 c4, .int .i64 p, .int .i64 q, .slice A9 n9 c9]) w := run_build w _ _ _ (NY k i a p q A3 n3 c3 A4 n4 c4 A9 n9 c9)
theorem TA {w : World} {b : Nat} {cs : Array Value} (h : w.heap[b]? = some (.cells cs 51 (0, 0))) (hs : cs.size = 8) : (Instr.loadAt 51 (.pointer (some ⟨b, 0, none⟩))).run Tryd.prog w = .ok (.agg cs) w := by
  simp only [Instr.loadAt, Instr.sureAddr, Sem.run_bind, Sem.run_pure, Result.andThen]
  exact run_loadVar_row w b 51 51 cs (0, 0) _ h Tryd.underlying51 rfl (by rw [hs]; kernel_rfl)
theorem MN {w : World} {b : Nat} {cs : Array Value} {a k i : Int} {x3 x4 x7 : Value} {p q : Int} (hs : cs.size = 8) (h : w.heap[b]? = some (.cells cs 51 (0, 0))) (o3 : x3.oneCell' = true) (o4 : x4.oneCell' = true) (o7 : x7.oneCell' = true) :
    (Instr.storeAt 51 (.pointer (some ⟨b, 0, none⟩)) (.agg #[.int .u8 a, .int .u32 k, .int .u32 i, x3, x4, .int .i64 p, .int .i64 q, x7])).run Tryd.prog w = .ok () (w.setRow b #[.int .u8 a, .int .u32 k, .int .u32 i, x3, x4, .int .i64 p, .int .i64 q, x7]) := by
  simp only [Instr.storeAt, Instr.sureAddr, Sem.run_bind, Sem.run_pure, Result.andThen]
  exact run_storeVar_row w b 51 51 _ _ h (by kernel_rfl) hs (by simp [o3, o4, o7, show ∀ k n, (Value.int k n).oneCell' = true from fun _ _ => rfl])
theorem qP {w : World} {b : Nat} {cs : Array Value} (hs : cs.size = 8) (h : w.heap[b]? = some (.cells cs 51 (0, 0))) : (Instr.storeAt 51 (.pointer (some ⟨b, 0, none⟩)) (.agg #[.int .u8 0, .int .u32 0, .int .u32 0, .slice none 0 0, .slice none 0 0, .int .i64 0, .int .i64 0, .slice none 0 0])).run Tryd.prog w = .ok () (w.setRow b #[.int .u8 0, .int .u32 0, .int .u32 0, .slice none 0 0, .slice none 0 0, .int .i64 0, .int .i64 0, .slice none 0 0]) := MN (a := 0) (k := 0) (i := 0) (x3 := .slice none 0 0) (x4 := .slice none 0 0) (p := 0) (q := 0) (x7 := .slice none 0 0) hs h rfl rfl rfl
theorem MJ (k8 : UInt8) (t : List UInt8) (x : SRec) (h : decR t = (x, 0)) : decM (k8 :: t) = if encM (msgR k8.toNat x) = (nums (k8 :: t), 0) then (msgR k8.toNat x, 0) else (kN, 160) := by
  show (if (decR t).2 = 0 then _ else _) = _
  rw [h, if_pos rfl]
theorem PQ (k8 : UInt8) (t : List UInt8) (h : (decR t).2 ≠ 0) : decM (k8 :: t) = (kN, 160) := by
  show (if (decR t).2 = 0 then _ else _) = _
  rw [if_neg h]
theorem MP {base : Nat} {x : SRec} {A3 A4 A6 A9 : Option Addr} {d3 d4 d6 d9 : Nat} {w : World} (h : RecV base x (.agg #[.int .u8 x.f0, .int .u32 x.f1, .int .u32 x.f2, .slice A3 x.f3.length d3, .slice A4 x.f4.length d4, .int .u32 x.f5.f0, .slice A6 x.f5.f1.length d6, .int .i64 x.f6, .int .i64 x.f7, .slice A9 x.f8.length d9]) w) (k : Int) : pK w (msgR k x) A3 d3 A4 d4 A9 d9 := by
  obtain ⟨v3, v4, v6, v9, he, h3, h4, h6, h9⟩ := h
  simp only [Value.agg.injEq, Array.mk.injEq, List.cons.injEq, true_and, and_true] at he
  obtain ⟨rfl, rfl, rfl, rfl⟩ := he
  obtain ⟨_, q3, C3⟩ := Kd.R_reads' h3
  obtain ⟨_, q4, C4⟩ := Kd.R_reads' h4
  obtain ⟨_, q9, C9⟩ := Kd.R_reads' h9
  exact ⟨C3, q3, C4, q4, C9, q9⟩
theorem oM {w : World} {o : Obj} {p : Addr} {v : Value} (h : w.cell? p = some v) : (w.alloc o).cell? p = some v := ((iF (Below.refl w.heap.size w) o).cell (World.block_lt_of_cell? w p h)).trans h
attribute [-go_sem] Instr.build Instr.storeAt
attribute [local go_sem] J6 RV
set_option maxRecDepth 20000 in
set_option maxHeartbeats 16000000 in
theorem qC (A : Option Addr) (c : Nat) (l : List UInt8) (w : World) (hCi : (Kd.int .u8).C w A l.length (nums l)) (hc : l.length ≤ c) :
    Calls Tryd.prog 32 #[.slice A l.length c] w (qR w (decM l)) := by
  cases l with
  | nil =>
    have hst := fun (_ : True) => qP rfl (show (w.alloc (.cells #[.int .u8 0, .int .u32 0, .int .u32 0, .slice none 0 0, .slice none 0 0, .int .i64 0, .int .i64 0, .slice none 0 0] 51)).heap[w.heap.size]? = _ from iM rfl)
    show Calls _ _ _ _ (qR w (kN, 160))
    simp only [List.length_nil]
    go_enter Tryd.func32, Tryd.ntmps32
    go_wp2
    ((try simp only [Exit.inBlock, Exit.then]); exact bodyPost_ret (pF rfl rfl rfl (setRow_heap _ _ _ _ _ _ (iM rfl)) rfl) rfl (qO w _ (iF (Below.refl _ _) _) 160))
  | cons k8 t =>
    obtain ⟨Wa, hWa⟩ : ∃ Wa, Wa = w.alloc (.cells #[.int .u8 0, .int .u32 0, .int .u32 0, .slice none 0 0, .slice none 0 0, .int .i64 0, .int .i64 0, .slice none 0 0] 51) := ⟨_, rfl⟩
    have hBa : Below w.heap.size w Wa := by rw [hWa]; exact iF (Below.refl _ _) _
    have HXA := iC.mk (show Wa.heap[w.heap.size]? = some (.cells #[.int .u8 0, .int .u32 0, .int .u32 0, .slice none 0 0, .slice none 0 0, .int .i64 0, .int .i64 0, .slice none 0 0] 51 (0, 0)) from by rw [hWa]; exact iM rfl)
    have HBA := iC.mk hBa
    have hC := lZ (Kd.C_below hCi hBa)
    have hm := kY hC
    obtain ⟨A2, hcut, hC2⟩ := TM hC hc 1 1 rfl (by simp)
    obtain ⟨ad, rfl, hk0⟩ := C_at hC 0 (by simp)
    have hk0 : Wa.cell? (ad.add 0) = some (.int .u8 (k8.toNat : Int)) := hk0
    rw [Addr.add_zero'] at hk0
    have HC := iC.mk hC
    have HC2 := iC.mk (show kb.C Wa A2 t.length t from hC2)
    have HWA := iC.mk hWa
    have HK0 := iC.mk hk0
    have hcall := decode_any A2 (c - 1) t Wa (mY HC2.out) (by simp at hc; omega)
    simp only [List.length_cons, Nat.add_sub_cancel] at hcut hc hm ⊢
    have hnz : ¬ ((t.length : Int) + 1 = 0) := by omega
    have hk255 := k8.toNat_lt
    clear hCi hBa hC hC2 hWa hk0
    obtain ⟨⟨x, E⟩, hD⟩ : ∃ D, decR t = D := ⟨_, rfl⟩
    rw [hD] at hcall
    have HD := iC.mk hD
    clear hD
    go_enter Tryd.func32, Tryd.ntmps32
    go_wp2_with fail
    rw [← HWA.out]
    go_at_call 22
    refine hcall.mono ?_
    rintro e w1 ⟨v, rfl, ⟨v3, v4, v6, v9, rfl, h3, h4, h6, h9⟩, hB⟩
    obtain ⟨A3, d3, rfl⟩ := Kd.R_slice h3
    obtain ⟨A4, d4, rfl⟩ := Kd.R_slice h4
    obtain ⟨A6, d6, rfl⟩ := Kd.R_slice h6
    obtain ⟨A9, d9, rfl⟩ := Kd.R_slice h9
    obtain ⟨_, q3, C3⟩ := Kd.R_reads' h3
    obtain ⟨_, q4, C4⟩ := Kd.R_reads' h4
    obtain ⟨_, q9, C9⟩ := Kd.R_reads' h9
    have hbw : Below w1.heap.size w1 (w1.alloc (.cells #[.int .u8 x.f0, .int .u32 x.f1, .int .u32 x.f2, .slice A3 x.f3.length d3, .slice A4 x.f4.length d4, .int .u32 x.f5.f0, .slice A6 x.f5.f1.length d6, .int .i64 x.f6, .int .i64 x.f7, .slice A9 x.f8.length d9] 30)) := iF (Below.refl _ _) _
    have hsx := fun (_ : True) => run_storeAt_new (P := Tryd.prog) w1 30 #[.int .u8 0, .int .u32 0, .int .u32 0, .slice none 0 0, .slice none 0 0, .int .u32 0, .slice none 0 0, .int .i64 0, .int .i64 0, .slice none 0 0] #[.int .u8 x.f0, .int .u32 x.f1, .int .u32 x.f2, .slice A3 x.f3.length d3, .slice A4 x.f4.length d4, .int .u32 x.f5.f0, .slice A6 x.f5.f1.length d6, .int .i64 x.f6, .int .i64 x.f7, .slice A9 x.f8.length d9] (by kernel_rfl) rfl (by simp [Value.oneCell'])
    have HXR := iC.mk (show (w1.alloc (.cells #[.int .u8 x.f0, .int .u32 x.f1, .int .u32 x.f2, .slice A3 x.f3.length d3, .slice A4 x.f4.length d4, .int .u32 x.f5.f0, .slice A6 x.f5.f1.length d6, .int .i64 x.f6, .int .i64 x.f7, .slice A9 x.f8.length d9] 30)).heap[w1.heap.size]? = some (.cells #[.int .u8 x.f0, .int .u32 x.f1, .int .u32 x.f2, .slice A3 x.f3.length d3, .slice A4 x.f4.length d4, .int .u32 x.f5.f0, .slice A6 x.f5.f1.length d6, .int .i64 x.f6, .int .i64 x.f7, .slice A9 x.f8.length d9] 30 (0, 0)) from iM rfl)
    have hb1 := hB.trans (hbw.mono hB.size)
    have HX1 := iC.mk (iI hb1 HXA.out)
    have HB1 := iC.mk (HBA.out.trans (hb1.mono HBA.out.size))
    have HC1 := iC.mk (Kd.C_below HC.out hb1)
    have HK1 := iC.mk ((hb1.cell (World.block_lt_of_cell? _ _ HK0.out)).trans HK0.out)
    have HLM := iC.mk (show pK _ (msgR k8.toNat x) A3 d3 A4 d4 A9 d9 from ⟨Kd.C_below C3 hbw, q3, Kd.C_below C4 hbw, q4, Kd.C_below C9 hbw, q9⟩)
    have HV := iC.mk (lK (show RecV Wa.heap.size x _ w1 from ⟨_, _, _, _, rfl, h3, h4, h6, h9⟩) hbw)
    have HLT := iC.mk (kD HXA.out)
    clear h3 h4 h6 h9 C3 C4 C9 q3 q4 q9 hB hbw hcall hb1 HK0 HXA HBA
    by_cases hE : E = 0
    · subst hE
      obtain ⟨W, hW⟩ : ∃ W, W = w1.alloc (.cells #[.int .u8 x.f0, .int .u32 x.f1, .int .u32 x.f2, .slice A3 x.f3.length d3, .slice A4 x.f4.length d4, .int .u32 x.f5.f0, .slice A6 x.f5.f1.length d6, .int .i64 x.f6, .int .i64 x.f7, .slice A9 x.f8.length d9] 30) := ⟨_, rfl⟩
      have HW := iC.mk hW
      rw [← hW] at HXR HX1 HB1 HC1 HK1 HLM HV
      have hgs : w1.heap.size + 1 = W.heap.size := by rw [hW]; simp
      clear hW
      have hR := MJ k8 t x HD.out
      go_wp2
      rw [← HW.out]
      clear hsx
      have hsn := fun (_ : True) => MN (a := (k8.toNat : Int)) (k := x.f1) (i := x.f2) (x3 := .slice A3 x.f3.length d3) (x4 := .slice A4 x.f4.length d4) (p := x.f6) (q := x.f7) (x7 := .slice A9 x.f8.length d9) rfl (show ((W.alloc (.cells #[.int .u8 0, .int .u32 0, .int .u32 0, .slice none 0 0, .slice none 0 0, .int .i64 0, .int .i64 0, .slice none 0 0] 51)).drew).heap[W.heap.size]? = some (.cells #[.int .u8 0, .int .u32 0, .int .u32 0, .slice none 0 0, .slice none 0 0, .int .i64 0, .int .i64 0, .slice none 0 0] 51 (0, 0)) from iM rfl) rfl rfl rfl
      have h0t : (0 : Int) < (((t.length + 1 : Nat)) : Int) := by omega
      have h0u : (0 : Nat) < t.length + 1 := by omega
      refine pR (n := 20) (S := fun w' => w'.cell? ad = some (.int .u8 (k8.toNat : Int)) ∧ w'.cell? ⟨w1.heap.size, 1, none⟩ = some (.int .u32 x.f1) ∧ w'.cell? ⟨w1.heap.size, 2, none⟩ = some (.int .u32 x.f2) ∧ w'.cell? ⟨w1.heap.size, 3, none⟩ = some (.slice A3 x.f3.length d3) ∧ w'.cell? ⟨w1.heap.size, 4, none⟩ = some (.slice A4 x.f4.length d4) ∧ w'.cell? ⟨w1.heap.size, 7, none⟩ = some (.int .i64 x.f6) ∧ w'.cell? ⟨w1.heap.size, 8, none⟩ = some (.int .i64 x.f7) ∧ w'.cell? ⟨w1.heap.size, 9, none⟩ = some (.slice A9 x.f8.length d9)) (ds := [19]) #[false, false, false, false, false, false, false, false, false, false, false, false, false, false, false, false, false, false, false, false] (by kernel_rfl) rfl rfl ⟨HK1.out, (iE HXR.out 1).trans rfl, (iE HXR.out 2).trans rfl, (iE HXR.out 3).trans rfl, (iE HXR.out 4).trans rfl, (iE HXR.out 7).trans rfl, (iE HXR.out 8).trans rfl, (iE HXR.out 9).trans rfl⟩ (fun hHeld => ?_)
      refine lS (T := (true, [([], []), ([0], [0]), ([1], [1]), ([], []), ([3], [3]), ([], []), ([5], [5]), ([], []), ([7], [7]), ([], []), ([9], [9]), ([], []), ([11], [11]), ([], []), ([13], [13]), ([], []), ([15], [15]), ([2, 4, 6, 8, 10, 12, 14, 16], [2, 4, 6, 8, 10, 12, 14, 16]), ([], []), ([18, 17, 0, 1, 2, 3, 4, 5, 6, 7, 8, 9, 10, 11, 12, 13, 14, 15, 16, 17, 18], [17, 18])])) (B := [0, 1, 3, 0, 8, 0, 32, 0, 128, 0, 512, 0, 2048, 0, 8192, 0, 32768, 131071, 0, 524287]) (by kernel_rfl) (by kernel_rfl) (fun HT_ HW_ => ?_)
      refine jD (i := 0) (N := some 21) (v := ?_) (a' := ?_) #[true, false, false, false, false, false, false, false, false, false, false, false, false, false, false, false, false, false, false, false] rfl rfl (iY HT_.out (by kernel_rfl)) (fun _ _ _ h => h) (Or.inl ⟨by rfl, ?_⟩) ?_ ?_
      rotate_left
      · intro w'
        go_simp
        with_reducible rfl
      rotate_left
      · simp only [Act.put, List.setIfInBounds_toArray, List.set_cons_zero, List.set_cons_succ, iQ, iW]
        rfl
      refine jD (i := 1) (N := some 22) (v := ?_) (a' := ?_) #[true, true, false, false, false, false, false, false, false, false, false, false, false, false, false, false, false, false, false, false] rfl rfl (iY HT_.out (by kernel_rfl)) (fun _ _ _ h => h) (Or.inl ⟨by rfl, ?_⟩) ?_ ?_
      rotate_left
      · intro w'
        go_simp
        with_reducible rfl
      rotate_left
      · simp only [Act.put, List.setIfInBounds_toArray, List.set_cons_zero, List.set_cons_succ, iQ, iW]
        rfl
      refine jD (i := 3) (N := some 24) (v := ?_) (a' := ?_) #[true, true, false, true, false, false, false, false, false, false, false, false, false, false, false, false, false, false, false, false] rfl rfl (iY HT_.out (by kernel_rfl)) (fun _ _ _ h => h) (Or.inl ⟨by rfl, ?_⟩) ?_ ?_
      rotate_left
      · intro w'
        go_simp
        with_reducible rfl
      rotate_left
      · simp only [Act.put, List.setIfInBounds_toArray, List.set_cons_zero, List.set_cons_succ, iQ, iW]
        rfl
      refine jD (i := 5) (N := some 26) (v := ?_) (a' := ?_) #[true, true, false, true, false, true, false, false, false, false, false, false, false, false, false, false, false, false, false, false] rfl rfl (iY HT_.out (by kernel_rfl)) (fun _ _ _ h => h) (Or.inl ⟨by rfl, ?_⟩) ?_ ?_
      rotate_left
      · intro w'
        go_simp
        with_reducible rfl
      rotate_left
      · simp only [Act.put, List.setIfInBounds_toArray, List.set_cons_zero, List.set_cons_succ, iQ, iW]
        rfl
      refine jD (i := 7) (N := some 28) (v := ?_) (a' := ?_) #[true, true, false, true, false, true, false, true, false, false, false, false, false, false, false, false, false, false, false, false] rfl rfl (iY HT_.out (by kernel_rfl)) (fun _ _ _ h => h) (Or.inl ⟨by rfl, ?_⟩) ?_ ?_
      rotate_left
      · intro w'
        go_simp
        with_reducible rfl
      rotate_left
      · simp only [Act.put, List.setIfInBounds_toArray, List.set_cons_zero, List.set_cons_succ, iQ, iW]
        rfl
      refine jD (i := 9) (N := some 30) (v := ?_) (a' := ?_) #[true, true, false, true, false, true, false, true, false, true, false, false, false, false, false, false, false, false, false, false] rfl rfl (iY HT_.out (by kernel_rfl)) (fun _ _ _ h => h) (Or.inl ⟨by rfl, ?_⟩) ?_ ?_
      rotate_left
      · intro w'
        go_simp
        with_reducible rfl
      rotate_left
      · simp only [Act.put, List.setIfInBounds_toArray, List.set_cons_zero, List.set_cons_succ, iQ, iW]
        rfl
      refine jD (i := 11) (N := some 32) (v := ?_) (a' := ?_) #[true, true, false, true, false, true, false, true, false, true, false, true, false, false, false, false, false, false, false, false] rfl rfl (iY HT_.out (by kernel_rfl)) (fun _ _ _ h => h) (Or.inl ⟨by rfl, ?_⟩) ?_ ?_
      rotate_left
      · intro w'
        go_simp
        with_reducible rfl
      rotate_left
      · simp only [Act.put, List.setIfInBounds_toArray, List.set_cons_zero, List.set_cons_succ, iQ, iW]
        rfl
      refine jD (i := 13) (N := some 34) (v := ?_) (a' := ?_) #[true, true, false, true, false, true, false, true, false, true, false, true, false, true, false, false, false, false, false, false] rfl rfl (iY HT_.out (by kernel_rfl)) (fun _ _ _ h => h) (Or.inl ⟨by rfl, ?_⟩) ?_ ?_
      rotate_left
      · intro w'
        go_simp
        with_reducible rfl
      rotate_left
      · simp only [Act.put, List.setIfInBounds_toArray, List.set_cons_zero, List.set_cons_succ, iQ, iW]
        rfl
      refine jD (i := 15) (N := some 36) (v := ?_) (a' := ?_) #[true, true, false, true, false, true, false, true, false, true, false, true, false, true, false, true, false, false, false, false] rfl rfl (iY HT_.out (by kernel_rfl)) (fun _ _ _ h => h) (Or.inl ⟨by rfl, ?_⟩) ?_ ?_
      rotate_left
      · intro w'
        go_simp
        with_reducible rfl
      rotate_left
      · simp only [Act.put, List.setIfInBounds_toArray, List.set_cons_zero, List.set_cons_succ, iQ, iW]
        rfl
      refine lW (i := 2) (N := some 23) (v := ?_) (a' := ?_) #[true, true, true, true, false, true, false, true, false, true, false, true, false, true, false, true, false, false, false, false] rfl rfl (jO HT_.out HW_.out (by kernel_rfl)) (fun _ _ _ h => h) (Or.inl ⟨by rfl, ?_⟩) hHeld ?_ ?_
      rotate_left
      · rintro w' ⟨s0, s1, s2, s3, s4, s5, s6, s7⟩
        go_simp
        with_reducible rfl
      rotate_left
      · simp only [Act.put, List.setIfInBounds_toArray, List.set_cons_zero, List.set_cons_succ, iQ, iW]
        rfl
      refine lW (i := 4) (N := some 25) (v := ?_) (a' := ?_) #[true, true, true, true, true, true, false, true, false, true, false, true, false, true, false, true, false, false, false, false] rfl rfl (jO HT_.out HW_.out (by kernel_rfl)) (fun _ _ _ h => h) (Or.inl ⟨by rfl, ?_⟩) hHeld ?_ ?_
      rotate_left
      · rintro w' ⟨s0, s1, s2, s3, s4, s5, s6, s7⟩
        go_simp
        with_reducible rfl
      rotate_left
      · simp only [Act.put, List.setIfInBounds_toArray, List.set_cons_zero, List.set_cons_succ, iQ, iW]
        rfl
      refine lW (i := 6) (N := some 27) (v := ?_) (a' := ?_) #[true, true, true, true, true, true, true, true, false, true, false, true, false, true, false, true, false, false, false, false] rfl rfl (jO HT_.out HW_.out (by kernel_rfl)) (fun _ _ _ h => h) (Or.inl ⟨by rfl, ?_⟩) hHeld ?_ ?_
      rotate_left
      · rintro w' ⟨s0, s1, s2, s3, s4, s5, s6, s7⟩
        go_simp
        with_reducible rfl
      rotate_left
      · simp only [Act.put, List.setIfInBounds_toArray, List.set_cons_zero, List.set_cons_succ, iQ, iW]
        rfl
      refine lW (i := 8) (N := some 29) (v := ?_) (a' := ?_) #[true, true, true, true, true, true, true, true, true, true, false, true, false, true, false, true, false, false, false, false] rfl rfl (jO HT_.out HW_.out (by kernel_rfl)) (fun _ _ _ h => h) (Or.inl ⟨by rfl, ?_⟩) hHeld ?_ ?_
      rotate_left
      · rintro w' ⟨s0, s1, s2, s3, s4, s5, s6, s7⟩
        go_simp
        with_reducible rfl
      rotate_left
      · simp only [Act.put, List.setIfInBounds_toArray, List.set_cons_zero, List.set_cons_succ, iQ, iW]
        rfl
      refine lW (i := 10) (N := some 31) (v := ?_) (a' := ?_) #[true, true, true, true, true, true, true, true, true, true, true, true, false, true, false, true, false, false, false, false] rfl rfl (jO HT_.out HW_.out (by kernel_rfl)) (fun _ _ _ h => h) (Or.inl ⟨by rfl, ?_⟩) hHeld ?_ ?_
      rotate_left
      · rintro w' ⟨s0, s1, s2, s3, s4, s5, s6, s7⟩
        go_simp
        with_reducible rfl
      rotate_left
      · simp only [Act.put, List.setIfInBounds_toArray, List.set_cons_zero, List.set_cons_succ, iQ, iW]
        rfl
      refine lW (i := 12) (N := some 33) (v := ?_) (a' := ?_) #[true, true, true, true, true, true, true, true, true, true, true, true, true, true, false, true, false, false, false, false] rfl rfl (jO HT_.out HW_.out (by kernel_rfl)) (fun _ _ _ h => h) (Or.inl ⟨by rfl, ?_⟩) hHeld ?_ ?_
      rotate_left
      · rintro w' ⟨s0, s1, s2, s3, s4, s5, s6, s7⟩
        go_simp
        with_reducible rfl
      rotate_left
      · simp only [Act.put, List.setIfInBounds_toArray, List.set_cons_zero, List.set_cons_succ, iQ, iW]
        rfl
      refine lW (i := 14) (N := some 35) (v := ?_) (a' := ?_) #[true, true, true, true, true, true, true, true, true, true, true, true, true, true, true, true, false, false, false, false] rfl rfl (jO HT_.out HW_.out (by kernel_rfl)) (fun _ _ _ h => h) (Or.inl ⟨by rfl, ?_⟩) hHeld ?_ ?_
      rotate_left
      · rintro w' ⟨s0, s1, s2, s3, s4, s5, s6, s7⟩
        go_simp
        with_reducible rfl
      rotate_left
      · simp only [Act.put, List.setIfInBounds_toArray, List.set_cons_zero, List.set_cons_succ, iQ, iW]
        rfl
      refine lW (i := 16) (N := some 37) (v := ?_) (a' := ?_) #[true, true, true, true, true, true, true, true, true, true, true, true, true, true, true, true, true, false, false, false] rfl rfl (jO HT_.out HW_.out (by kernel_rfl)) (fun _ _ _ h => h) (Or.inl ⟨by rfl, ?_⟩) hHeld ?_ ?_
      rotate_left
      · rintro w' ⟨s0, s1, s2, s3, s4, s5, s6, s7⟩
        go_simp
        with_reducible rfl
      rotate_left
      · simp only [Act.put, List.setIfInBounds_toArray, List.set_cons_zero, List.set_cons_succ, iQ, iW]
        rfl
      refine jD (i := 17) (N := some 38) (v := ?_) (a' := ?_) #[true, true, true, true, true, true, true, true, true, true, true, true, true, true, true, true, true, true, false, false] rfl rfl (iY HT_.out (by kernel_rfl)) (fun _ _ _ h => h) (Or.inl ⟨by rfl, ?_⟩) ?_ ?_
      rotate_left
      · intro w'
        go_simp
        with_reducible rfl
      rotate_left
      · simp only [Act.put, List.setIfInBounds_toArray, List.set_cons_zero, List.set_cons_succ, iQ, iW]
        rfl
      refine one_ (i := 18) (N := some 6) #[true, true, true, true, true, true, true, true, true, true, true, true, true, true, true, true, true, true, true, false] rfl rfl (lI HT_.out (by kernel_rfl)) (by decide) (fun K hK => ?_)
      refine jL (w1 := ?_) (v := ?_) (by rfl) rfl ?_ ?_
      rotate_left 2
      · go_simp
        constructor
        · rfl
        · rfl
      refine hK.out _ _ ⟨(oM (w := W.drew) HK1.out), (oM (w := W.drew) ((iE HXR.out 1).trans rfl)), (oM (w := W.drew) ((iE HXR.out 2).trans rfl)), (oM (w := W.drew) ((iE HXR.out 3).trans rfl)), (oM (w := W.drew) ((iE HXR.out 4).trans rfl)), (oM (w := W.drew) ((iE HXR.out 7).trans rfl)), (oM (w := W.drew) ((iE HXR.out 8).trans rfl)), (oM (w := W.drew) ((iE HXR.out 9).trans rfl))⟩ (fun hHeld => ?_)
      clear hK K
      refine lC (a' := ?_) ?_ ?_
      rotate_left
      · show Act.put _ (some 6) _ = _
        simp only [Act.put, List.setIfInBounds_toArray, List.set_cons_zero, List.set_cons_succ, iQ, iW]
        rfl
      refine RF (i := 19) (N := none) #[true, true, true, true, true, true, true, true, true, true, true, true, true, true, true, true, true, true, true, true] rfl rfl (lI HT_.out (by kernel_rfl)) (by decide) (fun K hK => ?_)
      refine QN (w1 := ?_) (by rfl) rfl ?_ ?_
      rotate_left
      · go_simp
        rfl
      refine hK.out _ _ ?_
      clear hK K
      refine yV (oO HT_.out (by kernel_rfl)) ?_
      have hbW : Below W.heap.size W (((W.alloc (.cells #[.int .u8 0, .int .u32 0, .int .u32 0, .slice none 0 0, .slice none 0 0, .int .i64 0, .int .i64 0, .slice none 0 0] 51)).drew).setRow W.heap.size #[.int .u8 (k8.toNat : Int), .int .u32 x.f1, .int .u32 x.f2, .slice A3 x.f3.length d3, .slice A4 x.f4.length d4, .int .i64 x.f6, .int .i64 x.f7, .slice A9 x.f8.length d9]) := below_grown (g := W.heap.size) (iJ (iF (Below.refl W.heap.size W) _)) (jA _ _ _) (Nat.le_refl _) (Nat.le_refl _)
      have hm2 : (((W.alloc (.cells #[.int .u8 0, .int .u32 0, .int .u32 0, .slice none 0 0, .slice none 0 0, .int .i64 0, .int .i64 0, .slice none 0 0] 51)).drew).setRow W.heap.size #[.int .u8 (k8.toNat : Int), .int .u32 x.f1, .int .u32 x.f2, .slice A3 x.f3.length d3, .slice A4 x.f4.length d4, .int .i64 x.f6, .int .i64 x.f7, .slice A9 x.f8.length d9]).heap[W.heap.size]? = some (.cells #[.int .u8 (k8.toNat : Int), .int .u32 x.f1, .int .u32 x.f2, .slice A3 x.f3.length d3, .slice A4 x.f4.length d4, .int .i64 x.f6, .int .i64 x.f7, .slice A9 x.f8.length d9] 51 (0, 0)) := setRow_heap _ _ _ _ _ _ (iM rfl)
      obtain ⟨W2, hW2⟩ : ∃ W2, W2 = ((W.alloc (.cells #[.int .u8 0, .int .u32 0, .int .u32 0, .slice none 0 0, .slice none 0 0, .int .i64 0, .int .i64 0, .slice none 0 0] 51)).drew).setRow W.heap.size #[.int .u8 (k8.toNat : Int), .int .u32 x.f1, .int .u32 x.f2, .slice A3 x.f3.length d3, .slice A4 x.f4.length d4, .int .i64 x.f6, .int .i64 x.f7, .slice A9 x.f8.length d9] := ⟨_, rfl⟩
      rw [← hW2] at hbW hm2 ⊢
      have HM2 := iC.mk hm2
      have HX2 := iC.mk (iI hbW HX1.out)
      have HB2 := iC.mk (iH HB1.out hbW)
      have HLM2 := iC.mk (HLM.out.below hbW)
      have HC3 := iC.mk (Kd.C_below HC1.out hbW)
      have HV2 := iC.mk (lK HV.out hbW)
      clear hbW hm2 hW2 hsn hHeld HT_ HW_ HX1 HB1 HLM HC1 HK1 HXR hgs HW
      obtain ⟨⟨E1, E2⟩, hEE⟩ : ∃ E : List Int × Int, encM (msgR k8.toNat x) = E := ⟨_, rfl⟩
      have hcs := JG (msgR k8.toNat x)
      rw [hEE] at hR hcs
      have hcall := pW (msgR k8.toNat x) A3 d3 A4 d4 A9 d9 W2 HLM2.out ⟨by show (0 : Int) ≤ (k8.toNat : Int); omega, by show (k8.toNat : Int) < 256; omega⟩ hEE
      have HR := iC.mk hR
      clear hEE hR
      obtain ⟨z0, z1, z2, z3, z4, z5, z6, z7, y0, y1, y2, y3, y4, y5, y6, y7⟩ := eight HM2.out
      go_wp2_with fail
      go_at_call 28
      refine hcall.mono ?_
      rintro e w4 ⟨v0, rfl, h0, hb4⟩
      obtain ⟨A0, c0, rfl⟩ := Kd.R_slice h0
      obtain ⟨_, q0, C0⟩ := Kd.R_reads' h0
      have HM4 := iC.mk (iI hb4 HM2.out)
      have HX4 := iC.mk (iI hb4 HX2.out)
      have HB4 := iC.mk (iH HB2.out hb4)
      have HV4 := iC.mk (lK HV2.out hb4)
      have HC4 := iC.mk (mY (Kd.C_below HC3.out hb4))
      clear hcall hb4 h0 HM2 HX2 HB2 HLM2 HC3 z0 z1 z2 z3 z4 z5 z6 z7 y0 y1 y2 y3 y4 y5 y6 y7
      rcases hcs with hc2 | hc2 | ⟨hsd, hc2⟩
      · obtain ⟨rfl, rfl⟩ := Prod.mk.inj hc2
        have HDM := iC.mk (show decM (k8 :: t) = (kN, 160) from HR.out.trans (if_neg (by intro h; injection h with _ h2; cases h2)))
        have hst := fun (_ : True) => qP rfl HX4.out
        clear C0 q0 hc2
        go_wp2
        ((try simp only [Exit.inBlock, Exit.then]); exact bodyPost_ret (pF rfl rfl rfl (setRow_heap _ _ _ _ _ _ HX4.out) rfl) rfl (by rw [HDM.out]; exact qO w _ HB4.out 160))
      · obtain ⟨rfl, rfl⟩ := Prod.mk.inj hc2
        have HDM := iC.mk (show decM (k8 :: t) = (kN, 160) from HR.out.trans (if_neg (by intro h; injection h with _ h2; cases h2)))
        have hst := fun (_ : True) => qP rfl HX4.out
        clear C0 q0 hc2
        go_wp2
        ((try simp only [Exit.inBlock, Exit.then]); exact bodyPost_ret (pF rfl rfl rfl (setRow_heap _ _ _ _ _ _ HX4.out) rfl) rfl (by rw [HDM.out]; exact qO w _ HB4.out 160))
      · obtain ⟨rfl, rfl⟩ := Prod.mk.inj hc2
        have q0 : (nums (recE (recM (msgR k8.toNat x)))).length + 1 ≤ c0 := q0
        have hlen : (nums (k8 :: recE (recM (msgR k8.toNat x)))).length = (nums (recE (recM (msgR k8.toNat x)))).length + 1 := rfl
        have C0 : (Kd.int .u8).C w4 A0 (nums (k8 :: recE (recM (msgR k8.toNat x)))).length (nums (k8 :: recE (recM (msgR k8.toNat x)))) := C0
        have hcall := bytes_Equal.calls A0 c0 (nums (k8 :: recE (recM (msgR k8.toNat x)))) (some ad) c (nums (k8 :: t)) _ w4 C0 q0 (by rw [jS]; exact HC4.out) (by rw [jS]; simpa using hc) rfl
        rw [pI] at hcall
        obtain ⟨L, hL⟩ : ∃ L, L = recE (recM (msgR k8.toNat x)) := ⟨_, rfl⟩
        rw [← hL] at hcall
        have HLE := iC.mk hL
        rw [show (nums (k8 :: L)).length = (nums L).length + 1 from rfl, show (nums (k8 :: t)).length = t.length + 1 from by rw [jS]; rfl] at hcall
        simp only [List.length_cons, ← hL]
        clear hlen C0 q0 hc2 hsd hL
        by_cases hq : k8 :: L = k8 :: t
        · rw [decide_eq_true hq] at hcall
          have HDM := iC.mk (show decM (k8 :: t) = (msgR k8.toNat x, 0) from HR.out.trans (if_pos (by rw [← hq, HLE.out]; rfl)))
          clear hq
          go_wp2_with fail
          go_at_call 75
          refine hcall.mono ?_
          rintro e w5 ⟨rfl, hD⟩
          have hb5 := hD.below
          have HX5 := iC.mk (iI hb5 HX4.out)
          have hl5 := fun (_ : True) => TA (iI hb5 HM4.out) rfl
          have HB5 := iC.mk (iH HB4.out hb5)
          have HV5 := iC.mk (lK HV4.out hb5)
          obtain ⟨z0, z1, z2, z3, z4, z5, z6, z7, y0, y1, y2, y3, y4, y5, y6, y7⟩ := eight (iI hb5 HM4.out)
          have hst := fun (_ : True) => MN (a := (k8.toNat : Int)) (k := x.f1) (i := x.f2) (x3 := .slice A3 x.f3.length d3) (x4 := .slice A4 x.f4.length d4) (p := x.f6) (q := x.f7) (x7 := .slice A9 x.f8.length d9) rfl HX5.out rfl rfl rfl
          clear hcall hD hb5
          go_wp2
          ((try simp only [Exit.inBlock, Exit.then]); refine bodyPost_ret (pF rfl rfl rfl (setRow_heap _ _ _ _ _ _ HX5.out) rfl) rfl ?_)
          rw [HDM.out]
          exact ⟨A3, d3, A4, d4, A9, d9, rfl, MP (pG HV5.out (jA _ w.heap.size _) HLT.out) _, below_grown HB5.out (jA _ w.heap.size _) (Nat.le_refl _) (Nat.le_refl _)⟩
        · rw [decide_eq_false hq] at hcall
          have HDM := iC.mk (show decM (k8 :: t) = (kN, 160) from HR.out.trans (if_neg (by
            intro h
            injection h with h1 _
            apply hq
            rw [HLE.out]
            exact IX h1)))
          clear hq
          go_wp2_with fail
          go_at_call 75
          refine hcall.mono ?_
          rintro e w5 ⟨rfl, hD⟩
          have HX5 := iC.mk (iI hD.below HX4.out)
          have HB5 := iC.mk (iH HB4.out hD.below)
          have hst := fun (_ : True) => qP rfl HX5.out
          clear hcall hD
          go_wp2
          ((try simp only [Exit.inBlock, Exit.then]); exact bodyPost_ret (pF rfl rfl rfl (setRow_heap _ _ _ _ _ _ HX5.out) rfl) rfl (by rw [HDM.out]; exact qO w _ HB5.out 160))
    · have HDM := iC.mk (PQ k8 t (by rw [HD.out]; exact hE))
      have hst := fun (_ : True) => qP rfl HX1.out
      go_wp2
      ((try simp only [Exit.inBlock, Exit.then]); exact bodyPost_ret (pF rfl rfl rfl (setRow_heap _ _ _ _ _ _ HX1.out) rfl) rfl (by rw [HDM.out]; exact qO w _ HB1.out 160))
end Go.Proofs.YtgfkgppomaapiaaDoor.K
end

section
namespace Go.Proofs.YtgfkgppomaapiaaDoor.K
open Go Go.RowKit Go.Proofs.YtgfkgppomaapiaaDoorW.PrintWords Go.Proofs.YtgfkgppomaapiaaDoorW.PrintLast Go.Proofs.YtgfkgppomaapiaaDoorW.PrintMore Go.Proofs.YtgfkgppomaapiaaDoor.My
theorem OH (a b : Int) : (Tryd.prog).built 51 (#[(0, .int .u8 a), (1, .int .u32 b)] : Array (Nat × Value)).toList = some #[.int .u8 a, .int .u32 b, .int .u32 0, .slice none 0 0, .slice none 0 0, .int .i64 0, .int .i64 0, .slice none 0 0] := by kernel_rfl
theorem TU (w : World) (a b : Int) : (Instr.build 51 #[(0, .int .u8 a), (1, .int .u32 b)]).run Tryd.prog w = .ok (.agg #[.int .u8 a, .int .u32 b, .int .u32 0, .slice none 0 0, .slice none 0 0, .int .i64 0, .int .i64 0, .slice none 0 0]) w := run_build w _ _ _ (OH a b)
/-- A message with no more than a number. -/
theorem LU (w : World) (k i a : Int) : pK w ⟨k, i, a, [], [], 0, 0, []⟩ none 0 none 0 none 0 := ⟨Kd.C_nil _ _, Nat.le_refl _, Kd.C_nil _ _, Nat.le_refl _, Kd.C_nil _ _, Nat.le_refl _⟩
attribute [-go_sem] Instr.build Instr.storeAt
attribute [local go_sem] TU
set_option maxRecDepth 20000 in
set_option maxHeartbeats 8000000 in
theorem xG (w : World) : Calls Tryd.prog 25 #[] w fun e w' => e = .returned (.bool true) ∧ Below w.heap.size w w' := by
  have henc : Calls Tryd.prog 28 #[.agg #[.int .u8 2, .int .u32 5, .int .u32 0, .slice none 0 0, .slice none 0 0, .int .i64 0, .int .i64 0, .slice none 0 0]] w _ := pW nS none 0 none 0 none 0 w (LU w 2 5 0) (by decide) LC
  go_enter Tryd.func25, Tryd.ntmps25
  go_wp2_with fail
  go_at_call 28
  refine henc.mono ?_
  rintro e w1 ⟨v0, rfl, h0, hB⟩
  clear henc
  obtain ⟨A0, d0, rfl⟩ := Kd.R_slice h0
  obtain ⟨_, q0, C0⟩ := Kd.R_reads' h0
  have q0 : 6 ≤ d0 := q0
  have C0 : (Kd.int .u8).C w1 A0 6 (nums [2, 4, 0, 0, 0, 5]) := C0
  simp only [show (nums [2, 4, 0, 0, 0, 5]).length = 6 from rfl]
  have HB := iC.mk hB
  have HC := iC.mk C0
  have hdec : Calls Tryd.prog 32 #[.slice A0 6 d0] w1 (qR w1 (decM [2, 4, 0, 0, 0, 5])) := qC A0 d0 [2, 4, 0, 0, 0, 5] w1 C0 q0
  rw [JC] at hdec
  clear h0 hB C0
  go_wp2_with fail
  go_at_call 32
  refine hdec.mono ?_
  rintro e w2 ⟨A3, d3, A4, d4, A9, d9, rfl, hL, hB⟩
  clear hdec
  have hbw : Below w2.heap.size w2 (w2.alloc (.cells #[.int .u8 2, .int .u32 5, .int .u32 0, .slice A3 0 d3, .slice A4 0 d4, .int .i64 0, .int .i64 0, .slice A9 0 d9] 51)) := iF (Below.refl _ _) _
  have hbv : Below w2.heap.size w2 ((w2.alloc (.cells #[.int .u8 2, .int .u32 5, .int .u32 0, .slice A3 0 d3, .slice A4 0 d4, .int .i64 0, .int .i64 0, .slice A9 0 d9] 51)).alloc (.cells #[.int .u8 99] 5)) := iF hbw _
  have HB2 := iC.mk (HB.out.trans ((hB.trans (hbv.mono hB.size)).mono HB.out.size))
  have HC2 := iC.mk (Kd.C_below HC.out (hB.trans (hbv.mono hB.size)))
  have HL2 := iC.mk (hL.below hbv)
  have HX2 := iC.mk (show ((w2.alloc (.cells #[.int .u8 2, .int .u32 5, .int .u32 0, .slice A3 0 d3, .slice A4 0 d4, .int .i64 0, .int .i64 0, .slice A9 0 d9] 51)).alloc (.cells #[.int .u8 99] 5)).heap[w2.heap.size]? = some (.cells #[.int .u8 2, .int .u32 5, .int .u32 0, .slice A3 0 d3, .slice A4 0 d4, .int .i64 0, .int .i64 0, .slice A9 0 d9] 51 (0, 0)) from jB (iM rfl))
  have hsx := fun (_ : True) => run_storeAt_new (P := Tryd.prog) w2 51 #[.int .u8 0, .int .u32 0, .int .u32 0, .slice none 0 0, .slice none 0 0, .int .i64 0, .int .i64 0, .slice none 0 0] #[.int .u8 2, .int .u32 5, .int .u32 0, .slice A3 0 d3, .slice A4 0 d4, .int .i64 0, .int .i64 0, .slice A9 0 d9] (by kernel_rfl) rfl (by simp [Value.oneCell'])
  have hdec := qC (some ⟨w2.heap.size + 1, 0, none⟩) 1 [99] ((w2.alloc (.cells #[.int .u8 2, .int .u32 5, .int .u32 0, .slice A3 0 d3, .slice A4 0 d4, .int .i64 0, .int .i64 0, .slice A9 0 d9] 51)).alloc (.cells #[.int .u8 99] 5)) (mY (RH (by simp) rfl (by decide) (by rfl))) (Nat.le_refl _)
  rw [JQ] at hdec
  simp only [List.length_cons, List.length_nil, Nat.zero_add] at hdec
  clear hL hB hbw hbv
  simp only [nS, List.length_nil]
  go_wp2_with fail
  go_at_call 32
  refine hdec.mono ?_
  rintro e w3 ⟨B3, e3, B4, e4, B9, e9, rfl, hL3, hB⟩
  clear hdec hsx
  have hbw : Below w3.heap.size w3 (w3.alloc (.cells #[.int .u8 0, .int .u32 0, .int .u32 0, .slice B3 0 e3, .slice B4 0 e4, .int .i64 0, .int .i64 0, .slice B9 0 e9] 51)) := iF (Below.refl _ _) _
  have hb' := hB.trans (hbw.mono hB.size)
  have HB3 := iC.mk (HB2.out.trans (hb'.mono HB2.out.size))
  have hcv := fun (_ : True) => qA (c := d0) (lZ (n := 6) (l := [2, 4, 0, 0, 0, 5]) (Kd.C_below HC2.out hb'))
  have hsx := fun (_ : True) => run_storeAt_new (P := Tryd.prog) w3 51 #[.int .u8 0, .int .u32 0, .int .u32 0, .slice none 0 0, .slice none 0 0, .int .i64 0, .int .i64 0, .slice none 0 0] #[.int .u8 0, .int .u32 0, .int .u32 0, .slice B3 0 e3, .slice B4 0 e4, .int .i64 0, .int .i64 0, .slice B9 0 e9] (by kernel_rfl) rfl (by simp [Value.oneCell'])
  obtain ⟨z0, z1, z2, z3, z4, z5, z6, z7, y0, y1, y2, y3, y4, y5, y6, y7⟩ := eight (iI hb' HX2.out)
  have hsd := xE nS A3 d3 A4 d4 A9 d9 _ (HL2.out.below hb')
  rw [yM] at hsd
  simp only [nS, List.length_nil] at hsd
  clear hB hb' hbw hL3
  simp only [kN, List.length_nil]
  have hbl : True → (bs [2, 4, 0, 0, 0, 5]).toList = [2, 4, 0, 0, 0, 5] := fun _ => jJ _
  go_wp2_with fail
  go_at_call 30
  refine hsd.mono ?_
  rintro e w4 ⟨rfl, hB⟩
  have HB4 := iC.mk (HB3.out.trans (hB.mono HB3.out.size))
  clear hsd hB
  go_wp2
  go_ret
  exact ⟨rfl, HB4.out⟩
end Go.Proofs.YtgfkgppomaapiaaDoor.K
end

section
namespace Go.Proofs.YtgfkgppomaapiaaDoor.K
open Go Go.RowKit Go.Proofs.YtgfkgppomaapiaaDoorW.PrintWords Go.Proofs.YtgfkgppomaapiaaDoorW.PrintLast Go.Proofs.YtgfkgppomaapiaaDoorW.PrintMore Go.Proofs.YtgfkgppomaapiaaDoor.My
def nT (k : Int) : Int := if k = 1 then 1 else if k = 4 then 2 else if k = 8 then 7 else if k = 9 then 7 else if k = 10 then 7 else 4
/-- The document's record of a message. -/
def recR (m : SMsg) : SRec := ⟨nT m.f0, m.f1, m.f2, m.f3, m.f4, ⟨0, []⟩, m.f5, m.f6, m.f7⟩
theorem st_0 {w : World} {b : Nat} {c0 c1 c2 c3 c4 c5 c6 c7 c8 c9 : Value} (x : Int) (h : w.heap[b]? = some (.cells #[c0, c1, c2, c3, c4, c5, c6, c7, c8, c9] 30 (0, 0))) : (Instr.storeAt 5 (.pointer (some ⟨b, 0, none⟩)) (.int .u8 x)).run Tryd.prog w = .ok () (w.setRow b #[.int .u8 x, c1, c2, c3, c4, c5, c6, c7, c8, c9]) := by
  have z : w.cell? ⟨b, 0, none⟩ = some c0 := (iE h 0).trans rfl
  have y : w.frozen? ⟨b, 0, none⟩ = false := iD h 0
  rw [show w.setRow b #[.int .u8 x, c1, c2, c3, c4, c5, c6, c7, c8, c9] = w.setCell ⟨b, 0, none⟩ (.int .u8 x) from (setCell_eq_setRow w b 0 _ _ _ (.int .u8 x) h).symm]
  simp [go_sem, z, y]
theorem oU {tmps : Array Value} {W : World} {p : Tmp} {b : Nat} {cs : Array Value} (h : Tryd.f82.results = #[.cell p 30]) (hp : tmps.getD p undef = .pointer (some ⟨b, 0, none⟩)) (hx : W.heap[b]? = some (.cells cs 30 (0, 0))) (hs : cs.size = 10) :
    (results Tryd.f82 tmps).run Tryd.prog W = .ok (.agg cs) W := by
  exact results_cell_row h _ _ _ _ _ _ _ hp hx Tryd.underlying30 rfl (by rw [hs]; kernel_rfl)
attribute [-go_sem] Instr.build Instr.storeAt
attribute [local go_sem] NI
set_option maxRecDepth 20000 in
set_option maxHeartbeats 16000000 in
theorem uQ (k i a p q : Int) (A3 : Option Addr) (n3 c3 : Nat) (A4 : Option Addr) (n4 c4 : Nat) (A9 : Option Addr) (n9 c9 : Nat) (w : World) :
    Calls Tryd.prog 82 #[.agg #[.int .u8 k, .int .u32 i, .int .u32 a, .slice A3 n3 c3, .slice A4 n4 c4, .int .i64 p, .int .i64 q, .slice A9 n9 c9]] w fun e w' => e = .returned (.agg #[.int .u8 (nT k), .int .u32 i, .int .u32 a, .slice A3 n3 c3, .slice A4 n4 c4, .int .u32 0, .slice none 0 0, .int .i64 p, .int .i64 q, .slice A9 n9 c9]) ∧ Below w.heap.size w w' := by
  obtain ⟨W0, hW0⟩ : ∃ W0, W0 = ((w.alloc (.cells #[.int .u8 k, .int .u32 i, .int .u32 a, .slice A3 n3 c3, .slice A4 n4 c4, .int .i64 p, .int .i64 q, .slice A9 n9 c9] 51)).alloc (.cells #[.int .u8 0, .int .u32 0, .int .u32 0, .slice none 0 0, .slice none 0 0, .int .u32 0, .slice none 0 0, .int .i64 0, .int .i64 0, .slice none 0 0] 30)) := ⟨_, rfl⟩
  have hs0 : W0.heap.size = w.heap.size + 1 + 1 := by rw [hW0]; simp
  have hsx := fun (_ : True) => run_storeAt_new (P := Tryd.prog) W0 30 #[.int .u8 0, .int .u32 0, .int .u32 0, .slice none 0 0, .slice none 0 0, .int .u32 0, .slice none 0 0, .int .i64 0, .int .i64 0, .slice none 0 0] #[.int .u8 4, .int .u32 i, .int .u32 a, .slice A3 n3 c3, .slice A4 n4 c4, .int .u32 0, .slice none 0 0, .int .i64 p, .int .i64 q, .slice A9 n9 c9] (by kernel_rfl) rfl (by simp [Value.oneCell'])
  rw [hs0] at hsx
  obtain ⟨W1, hW1⟩ : ∃ W1, W1 = W0.alloc (.cells #[.int .u8 4, .int .u32 i, .int .u32 a, .slice A3 n3 c3, .slice A4 n4 c4, .int .u32 0, .slice none 0 0, .int .i64 p, .int .i64 q, .slice A9 n9 c9] 30) := ⟨_, rfl⟩
  have HR := iC.mk (show W1.heap[w.heap.size + 1 + 1]? = some (.cells #[.int .u8 4, .int .u32 i, .int .u32 a, .slice A3 n3 c3, .slice A4 n4 c4, .int .u32 0, .slice none 0 0, .int .i64 p, .int .i64 q, .slice A9 n9 c9] 30 (0, 0)) from by rw [hW1]; exact iM hs0.symm)
  have HZ := iC.mk (show W1.heap[w.heap.size + 1]? = some (.cells #[.int .u8 0, .int .u32 0, .int .u32 0, .slice none 0 0, .slice none 0 0, .int .u32 0, .slice none 0 0, .int .i64 0, .int .i64 0, .slice none 0 0] 30 (0, 0)) from by rw [hW1, hW0]; exact jB (iM (by simp)))
  have HB := iC.mk (show Below w.heap.size w W1 from by rw [hW1, hW0]; exact iF (iF (iF (Below.refl _ _) _) _) _)
  obtain ⟨z0, z1, z2, z3, z4, z5, z6, z7, y0, y1, y2, y3, y4, y5, y6, y7⟩ := eight (show W0.heap[w.heap.size]? = some (.cells #[.int .u8 k, .int .u32 i, .int .u32 a, .slice A3 n3 c3, .slice A4 n4 c4, .int .i64 p, .int .i64 q, .slice A9 n9 c9] 51 (0, 0)) from by rw [hW0]; exact jB (iM rfl))
  obtain ⟨x0, x1, x2, x3, x4, x5, x6, x7, _⟩ := eight (show W1.heap[w.heap.size]? = some (.cells #[.int .u8 k, .int .u32 i, .int .u32 a, .slice A3 n3 c3, .slice A4 n4 c4, .int .i64 p, .int .i64 q, .slice A9 n9 c9] 51 (0, 0)) from by rw [hW1, hW0]; exact jB (jB (iM rfl)))
  clear hs0 x1 x2 x3 x4 x5 x6 x7
  by_cases h1 : k = 1
  · subst h1
    have hk : nT 1 = 1 := rfl
    (have hset := fun (_ : True) => st_0 (1) HR.out; have HR2 := iC.mk (setRow_heap _ _ _ #[.int .u8 1, .int .u32 i, .int .u32 a, .slice A3 n3 c3, .slice A4 n4 c4, .int .u32 0, .slice none 0 0, .int .i64 p, .int .i64 q, .slice A9 n9 c9] _ _ HR.out); have HZ2 := iC.mk ((setRow_other W1 (w.heap.size + 1 + 1) (w.heap.size + 1) #[.int .u8 1, .int .u32 i, .int .u32 a, .slice A3 n3 c3, .slice A4 n4 c4, .int .u32 0, .slice none 0 0, .int .i64 p, .int .i64 q, .slice A9 n9 c9] (by omega)).trans HZ.out); have HB2 := iC.mk (show Below w.heap.size w (W1.setRow (w.heap.size + 1 + 1) #[.int .u8 1, .int .u32 i, .int .u32 a, .slice A3 n3 c3, .slice A4 n4 c4, .int .u32 0, .slice none 0 0, .int .i64 p, .int .i64 q, .slice A9 n9 c9]) from below_grown (g := w.heap.size + 1 + 1) HB.out (jA _ _ _) (by omega) (Nat.le_refl _)); have hld := fun (_ : True) => lH HR2.out rfl; have hst := fun (_ : True) => lV (a := 1) (k := i) (i := a) (x3 := .slice A3 n3 c3) (x4 := .slice A4 n4 c4) (j := 0) (x6 := .slice none 0 0) (p := p) (q := q) (x9 := .slice A9 n9 c9) HZ2.out rfl rfl rfl rfl; obtain ⟨xz0, xz1, xz2, xz3, xz4, xz5, xz6, xz7, xz8, xz9, xy0, xy1, xy2, xy3, xy4, xy5, xy6, xy7, xy8, xy9⟩ := ten HR2.out; clear HR HZ HB hld; subst hW1; subst hW0; go_enter Tryd.func82, Tryd.ntmps82; go_wp2; ((try simp only [Exit.inBlock, Exit.then]); exact bodyPost_ret (oU rfl rfl (setRow_heap _ _ _ _ _ _ HZ2.out) rfl) rfl ⟨by rw [hk], below_grown (g := w.heap.size + 1) HB2.out (jA _ _ _) (Nat.le_succ _) (Nat.le_refl _)⟩))
  by_cases h4 : k = 4
  · subst h4
    have hk : nT 4 = 2 := rfl
    (have hset := fun (_ : True) => st_0 (2) HR.out; have HR2 := iC.mk (setRow_heap _ _ _ #[.int .u8 2, .int .u32 i, .int .u32 a, .slice A3 n3 c3, .slice A4 n4 c4, .int .u32 0, .slice none 0 0, .int .i64 p, .int .i64 q, .slice A9 n9 c9] _ _ HR.out); have HZ2 := iC.mk ((setRow_other W1 (w.heap.size + 1 + 1) (w.heap.size + 1) #[.int .u8 2, .int .u32 i, .int .u32 a, .slice A3 n3 c3, .slice A4 n4 c4, .int .u32 0, .slice none 0 0, .int .i64 p, .int .i64 q, .slice A9 n9 c9] (by omega)).trans HZ.out); have HB2 := iC.mk (show Below w.heap.size w (W1.setRow (w.heap.size + 1 + 1) #[.int .u8 2, .int .u32 i, .int .u32 a, .slice A3 n3 c3, .slice A4 n4 c4, .int .u32 0, .slice none 0 0, .int .i64 p, .int .i64 q, .slice A9 n9 c9]) from below_grown (g := w.heap.size + 1 + 1) HB.out (jA _ _ _) (by omega) (Nat.le_refl _)); have hld := fun (_ : True) => lH HR2.out rfl; have hst := fun (_ : True) => lV (a := 2) (k := i) (i := a) (x3 := .slice A3 n3 c3) (x4 := .slice A4 n4 c4) (j := 0) (x6 := .slice none 0 0) (p := p) (q := q) (x9 := .slice A9 n9 c9) HZ2.out rfl rfl rfl rfl; obtain ⟨xz0, xz1, xz2, xz3, xz4, xz5, xz6, xz7, xz8, xz9, xy0, xy1, xy2, xy3, xy4, xy5, xy6, xy7, xy8, xy9⟩ := ten HR2.out; clear HR HZ HB hld; subst hW1; subst hW0; go_enter Tryd.func82, Tryd.ntmps82; go_wp2; ((try simp only [Exit.inBlock, Exit.then]); exact bodyPost_ret (oU rfl rfl (setRow_heap _ _ _ _ _ _ HZ2.out) rfl) rfl ⟨by rw [hk], below_grown (g := w.heap.size + 1) HB2.out (jA _ _ _) (Nat.le_succ _) (Nat.le_refl _)⟩))
  by_cases h8 : k = 8
  · subst h8
    have hk : nT 8 = 7 := rfl
    (have hset := fun (_ : True) => st_0 (7) HR.out; have HR2 := iC.mk (setRow_heap _ _ _ #[.int .u8 7, .int .u32 i, .int .u32 a, .slice A3 n3 c3, .slice A4 n4 c4, .int .u32 0, .slice none 0 0, .int .i64 p, .int .i64 q, .slice A9 n9 c9] _ _ HR.out); have HZ2 := iC.mk ((setRow_other W1 (w.heap.size + 1 + 1) (w.heap.size + 1) #[.int .u8 7, .int .u32 i, .int .u32 a, .slice A3 n3 c3, .slice A4 n4 c4, .int .u32 0, .slice none 0 0, .int .i64 p, .int .i64 q, .slice A9 n9 c9] (by omega)).trans HZ.out); have HB2 := iC.mk (show Below w.heap.size w (W1.setRow (w.heap.size + 1 + 1) #[.int .u8 7, .int .u32 i, .int .u32 a, .slice A3 n3 c3, .slice A4 n4 c4, .int .u32 0, .slice none 0 0, .int .i64 p, .int .i64 q, .slice A9 n9 c9]) from below_grown (g := w.heap.size + 1 + 1) HB.out (jA _ _ _) (by omega) (Nat.le_refl _)); have hld := fun (_ : True) => lH HR2.out rfl; have hst := fun (_ : True) => lV (a := 7) (k := i) (i := a) (x3 := .slice A3 n3 c3) (x4 := .slice A4 n4 c4) (j := 0) (x6 := .slice none 0 0) (p := p) (q := q) (x9 := .slice A9 n9 c9) HZ2.out rfl rfl rfl rfl; obtain ⟨xz0, xz1, xz2, xz3, xz4, xz5, xz6, xz7, xz8, xz9, xy0, xy1, xy2, xy3, xy4, xy5, xy6, xy7, xy8, xy9⟩ := ten HR2.out; clear HR HZ HB hld; subst hW1; subst hW0; go_enter Tryd.func82, Tryd.ntmps82; go_wp2; ((try simp only [Exit.inBlock, Exit.then]); exact bodyPost_ret (oU rfl rfl (setRow_heap _ _ _ _ _ _ HZ2.out) rfl) rfl ⟨by rw [hk], below_grown (g := w.heap.size + 1) HB2.out (jA _ _ _) (Nat.le_succ _) (Nat.le_refl _)⟩))
  by_cases h9 : k = 9
  · subst h9
    have hk : nT 9 = 7 := rfl
    (have hset := fun (_ : True) => st_0 (7) HR.out; have HR2 := iC.mk (setRow_heap _ _ _ #[.int .u8 7, .int .u32 i, .int .u32 a, .slice A3 n3 c3, .slice A4 n4 c4, .int .u32 0, .slice none 0 0, .int .i64 p, .int .i64 q, .slice A9 n9 c9] _ _ HR.out); have HZ2 := iC.mk ((setRow_other W1 (w.heap.size + 1 + 1) (w.heap.size + 1) #[.int .u8 7, .int .u32 i, .int .u32 a, .slice A3 n3 c3, .slice A4 n4 c4, .int .u32 0, .slice none 0 0, .int .i64 p, .int .i64 q, .slice A9 n9 c9] (by omega)).trans HZ.out); have HB2 := iC.mk (show Below w.heap.size w (W1.setRow (w.heap.size + 1 + 1) #[.int .u8 7, .int .u32 i, .int .u32 a, .slice A3 n3 c3, .slice A4 n4 c4, .int .u32 0, .slice none 0 0, .int .i64 p, .int .i64 q, .slice A9 n9 c9]) from below_grown (g := w.heap.size + 1 + 1) HB.out (jA _ _ _) (by omega) (Nat.le_refl _)); have hld := fun (_ : True) => lH HR2.out rfl; have hst := fun (_ : True) => lV (a := 7) (k := i) (i := a) (x3 := .slice A3 n3 c3) (x4 := .slice A4 n4 c4) (j := 0) (x6 := .slice none 0 0) (p := p) (q := q) (x9 := .slice A9 n9 c9) HZ2.out rfl rfl rfl rfl; obtain ⟨xz0, xz1, xz2, xz3, xz4, xz5, xz6, xz7, xz8, xz9, xy0, xy1, xy2, xy3, xy4, xy5, xy6, xy7, xy8, xy9⟩ := ten HR2.out; clear HR HZ HB hld; subst hW1; subst hW0; go_enter Tryd.func82, Tryd.ntmps82; go_wp2; ((try simp only [Exit.inBlock, Exit.then]); exact bodyPost_ret (oU rfl rfl (setRow_heap _ _ _ _ _ _ HZ2.out) rfl) rfl ⟨by rw [hk], below_grown (g := w.heap.size + 1) HB2.out (jA _ _ _) (Nat.le_succ _) (Nat.le_refl _)⟩))
  by_cases h10 : k = 10
  · subst h10
    have hk : nT 10 = 7 := rfl
    (have hset := fun (_ : True) => st_0 (7) HR.out; have HR2 := iC.mk (setRow_heap _ _ _ #[.int .u8 7, .int .u32 i, .int .u32 a, .slice A3 n3 c3, .slice A4 n4 c4, .int .u32 0, .slice none 0 0, .int .i64 p, .int .i64 q, .slice A9 n9 c9] _ _ HR.out); have HZ2 := iC.mk ((setRow_other W1 (w.heap.size + 1 + 1) (w.heap.size + 1) #[.int .u8 7, .int .u32 i, .int .u32 a, .slice A3 n3 c3, .slice A4 n4 c4, .int .u32 0, .slice none 0 0, .int .i64 p, .int .i64 q, .slice A9 n9 c9] (by omega)).trans HZ.out); have HB2 := iC.mk (show Below w.heap.size w (W1.setRow (w.heap.size + 1 + 1) #[.int .u8 7, .int .u32 i, .int .u32 a, .slice A3 n3 c3, .slice A4 n4 c4, .int .u32 0, .slice none 0 0, .int .i64 p, .int .i64 q, .slice A9 n9 c9]) from below_grown (g := w.heap.size + 1 + 1) HB.out (jA _ _ _) (by omega) (Nat.le_refl _)); have hld := fun (_ : True) => lH HR2.out rfl; have hst := fun (_ : True) => lV (a := 7) (k := i) (i := a) (x3 := .slice A3 n3 c3) (x4 := .slice A4 n4 c4) (j := 0) (x6 := .slice none 0 0) (p := p) (q := q) (x9 := .slice A9 n9 c9) HZ2.out rfl rfl rfl rfl; obtain ⟨xz0, xz1, xz2, xz3, xz4, xz5, xz6, xz7, xz8, xz9, xy0, xy1, xy2, xy3, xy4, xy5, xy6, xy7, xy8, xy9⟩ := ten HR2.out; clear HR HZ HB hld; subst hW1; subst hW0; go_enter Tryd.func82, Tryd.ntmps82; go_wp2; ((try simp only [Exit.inBlock, Exit.then]); exact bodyPost_ret (oU rfl rfl (setRow_heap _ _ _ _ _ _ HZ2.out) rfl) rfl ⟨by rw [hk], below_grown (g := w.heap.size + 1) HB2.out (jA _ _ _) (Nat.le_succ _) (Nat.le_refl _)⟩))
  · have hk : nT k = 4 := by unfold nT; simp [h1, h4, h8, h9, h10]
    have hld := fun (_ : True) => lH HR.out rfl
    have hst := fun (_ : True) => lV (a := 4) (k := i) (i := a) (x3 := .slice A3 n3 c3) (x4 := .slice A4 n4 c4) (j := 0) (x6 := .slice none 0 0) (p := p) (q := q) (x9 := .slice A9 n9 c9) HZ.out rfl rfl rfl rfl
    clear HR
    subst hW1
    subst hW0
    go_enter Tryd.func82, Tryd.ntmps82
    go_wp2
    ((try simp only [Exit.inBlock, Exit.then]); exact bodyPost_ret (oU rfl rfl (setRow_heap _ _ _ _ _ _ HZ.out) rfl) rfl ⟨by rw [hk], below_grown (g := w.heap.size + 1) HB.out (jA _ _ _) (Nat.le_succ _) (Nat.le_refl _)⟩)
end Go.Proofs.YtgfkgppomaapiaaDoor.K
end

section
namespace Go.Proofs.YtgfkgppomaapiaaDoor.K
open Go Go.RowKit Go.Proofs.YtgfkgppomaapiaaDoorW.PrintWords Go.Proofs.YtgfkgppomaapiaaDoorW.PrintLast Go.Proofs.YtgfkgppomaapiaaDoorW.PrintMore Go.Proofs.YtgfkgppomaapiaaDoor.My
theorem pK.rlies {w : World} {m : SMsg} {A3 A4 A9 : Option Addr} {a3 a4 a9 : Nat} (h : pK w m A3 a3 A4 a4 A9 a9) : Lies w (recR m) A3 a3 A4 a4 none 0 A9 a9 := ⟨h.h3, h.d3, h.h4, h.d4, Kd.C_nil _ _, Nat.le_refl _, h.h9, h.d9⟩
set_option maxRecDepth 20000 in
set_option maxHeartbeats 8000000 in
theorem OD (m q : SMsg) (hk : m.f0 = q.f0) (A3 : Option Addr) (a3 : Nat) (A4 : Option Addr) (a4 : Nat) (A9 : Option Addr) (a9 : Nat) (B3 : Option Addr) (b3 : Nat) (B4 : Option Addr) (b4 : Nat) (B9 : Option Addr) (b9 : Nat) (w : World) (ha : pK w m A3 a3 A4 a4 A9 a9) (hb : pK w q B3 b3 B4 b4 B9 b9)
    {t : Bool} (ht : ∃ k, stratumref07_Same.f k (recR m).f0 (recR m).f1 (recR m).f2 (recR m).f3 (recR m).f4 (recR m).f5.f0 (recR m).f5.f1 (recR m).f6 (recR m).f7 (recR m).f8 (recR q).f0 (recR q).f1 (recR q).f2 (recR q).f3 (recR q).f4 (recR q).f5.f0 (recR q).f5.f1 (recR q).f6 (recR q).f7 (recR q).f8 = some t) :
    Calls Tryd.prog 34 #[.agg #[.int .u8 m.f0, .int .u32 m.f1, .int .u32 m.f2, .slice A3 m.f3.length a3, .slice A4 m.f4.length a4, .int .i64 m.f5, .int .i64 m.f6, .slice A9 m.f7.length a9], .agg #[.int .u8 q.f0, .int .u32 q.f1, .int .u32 q.f2, .slice B3 q.f3.length b3, .slice B4 q.f4.length b4, .int .i64 q.f5, .int .i64 q.f6, .slice B9 q.f7.length b9]] w fun e w' => e = .returned (.bool t) ∧ Below w.heap.size w w' := by
  have hbw : Below w.heap.size w ((w.alloc (.cells #[.int .u8 m.f0, .int .u32 m.f1, .int .u32 m.f2, .slice A3 m.f3.length a3, .slice A4 m.f4.length a4, .int .i64 m.f5, .int .i64 m.f6, .slice A9 m.f7.length a9] 51)).alloc (.cells #[.int .u8 q.f0, .int .u32 q.f1, .int .u32 q.f2, .slice B3 q.f3.length b3, .slice B4 q.f4.length b4, .int .i64 q.f5, .int .i64 q.f6, .slice B9 q.f7.length b9] 51)) := iF (iF (Below.refl _ _) _) _
  have HA := iC.mk (ha.below hbw)
  have HBB := iC.mk (hb.below hbw)
  have HX := iC.mk (show ((w.alloc (.cells #[.int .u8 m.f0, .int .u32 m.f1, .int .u32 m.f2, .slice A3 m.f3.length a3, .slice A4 m.f4.length a4, .int .i64 m.f5, .int .i64 m.f6, .slice A9 m.f7.length a9] 51)).alloc (.cells #[.int .u8 q.f0, .int .u32 q.f1, .int .u32 q.f2, .slice B3 q.f3.length b3, .slice B4 q.f4.length b4, .int .i64 q.f5, .int .i64 q.f6, .slice B9 q.f7.length b9] 51)).heap[w.heap.size]? = some (.cells #[.int .u8 m.f0, .int .u32 m.f1, .int .u32 m.f2, .slice A3 m.f3.length a3, .slice A4 m.f4.length a4, .int .i64 m.f5, .int .i64 m.f6, .slice A9 m.f7.length a9] 51 (0, 0)) from jB (iM rfl))
  have HY := iC.mk (show ((w.alloc (.cells #[.int .u8 m.f0, .int .u32 m.f1, .int .u32 m.f2, .slice A3 m.f3.length a3, .slice A4 m.f4.length a4, .int .i64 m.f5, .int .i64 m.f6, .slice A9 m.f7.length a9] 51)).alloc (.cells #[.int .u8 q.f0, .int .u32 q.f1, .int .u32 q.f2, .slice B3 q.f3.length b3, .slice B4 q.f4.length b4, .int .i64 q.f5, .int .i64 q.f6, .slice B9 q.f7.length b9] 51)).heap[w.heap.size + 1]? = some (.cells #[.int .u8 q.f0, .int .u32 q.f1, .int .u32 q.f2, .slice B3 q.f3.length b3, .slice B4 q.f4.length b4, .int .i64 q.f5, .int .i64 q.f6, .slice B9 q.f7.length b9] 51 (0, 0)) from iM (by simp))
  have HB := iC.mk hbw
  have HT := iC.mk ht
  have HK := iC.mk hk
  clear ha hb hbw ht hk
  go_enter Tryd.func34, Tryd.ntmps34
  go_wp2
  generalize ((w.alloc (.cells #[.int .u8 m.f0, .int .u32 m.f1, .int .u32 m.f2, .slice A3 m.f3.length a3, .slice A4 m.f4.length a4, .int .i64 m.f5, .int .i64 m.f6, .slice A9 m.f7.length a9] 51)).alloc (.cells #[.int .u8 q.f0, .int .u32 q.f1, .int .u32 q.f2, .slice B3 q.f3.length b3, .slice B4 q.f4.length b4, .int .i64 q.f5, .int .i64 q.f6, .slice B9 q.f7.length b9] 51)) = W at HA HBB HX HY HB ⊢
  have hkk : (m.f0 == q.f0) = true := by rw [HK.out]; simp
  refine QZ [5, 6, 7, 8, 9, 10, 11, 12, 13, 14, 15, 16, 4] [fun v _ => v = (.pointer (some ⟨w.heap.size, 0, none⟩)), fun v _ => v = (.int .u8 m.f0), fun v _ => v = (.pointer (some ⟨w.heap.size + 1, 0, none⟩)), fun v _ => v = (.int .u8 q.f0), fun v _ => v = (.bool true), fun v _ => v = (.bool true), fun v _ => v = (.agg #[.int .u8 m.f0, .int .u32 m.f1, .int .u32 m.f2, .slice A3 m.f3.length a3, .slice A4 m.f4.length a4, .int .i64 m.f5, .int .i64 m.f6, .slice A9 m.f7.length a9]), fun v _ => v = (.agg #[.int .u8 (nT m.f0), .int .u32 m.f1, .int .u32 m.f2, .slice A3 m.f3.length a3, .slice A4 m.f4.length a4, .int .u32 0, .slice none 0 0, .int .i64 m.f5, .int .i64 m.f6, .slice A9 m.f7.length a9]), fun v _ => v = (.agg #[.int .u8 q.f0, .int .u32 q.f1, .int .u32 q.f2, .slice B3 q.f3.length b3, .slice B4 q.f4.length b4, .int .i64 q.f5, .int .i64 q.f6, .slice B9 q.f7.length b9]), fun v _ => v = (.agg #[.int .u8 (nT q.f0), .int .u32 q.f1, .int .u32 q.f2, .slice B3 q.f3.length b3, .slice B4 q.f4.length b4, .int .u32 0, .slice none 0 0, .int .i64 q.f5, .int .i64 q.f6, .slice B9 q.f7.length b9]), fun v _ => v = (.bool t), fun v _ => v = (.bool t), fun v _ => v = (.bool t)] [0, 1, 2, 3, 4, 5, 6, 7, 8, 9, 10, 11, 12] (true, [([], []), ([0], [0]), ([], []), ([2], [2]), ([1, 3], [1, 3]), ([4], [4]), ([5], [5]), ([6, 5, 5], [5, 6]), ([5], [5]), ([8, 7, 5], [5, 8]), ([7, 9, 9, 5], [5, 7, 9]), ([5, 10], [5, 10]), ([11, 10, 0, 1, 2, 3, 4, 5, 6, 7, 8, 9, 10, 11], [11])]) [0, 1, 0, 4, 15, 31, 63, 127, 63, 511, 1023, 2047, 4095] (by kernel_rfl) (by kernel_rfl) (by kernel_rfl) (by kernel_rfl) (by kernel_rfl) (by kernel_rfl) (by kernel_rfl) (by rfl) (by kernel_rfl) ?_ ?_ ?_
  · exact (kX (qY _) (kX (qY _) (kX (qY _) (kX (qY _) (kX (qY _) (kX (qY _) (kX (qY _) (kX (qY _) (kX (qY _) (kX (qY _) (kX (qY _) (kX (qY _) (kX (qY _) QY)))))))))))))
  · refine jU ?_ ?_
    · intro a w' vs hB hel hd
      have e2 : a.tmps[2]? = some (.pointer (some ⟨w.heap.size, 0, none⟩)) := (hel 2 (by kernel_rfl)).trans (by rfl)
      refine ⟨_, rfl, rfl, fun K hK => ?_⟩
      refine jL (w1 := w') (v := .pointer (some ⟨w.heap.size, 0, none⟩)) (by rfl) rfl ?_ (hK _ _ (by exact rfl) (Below.refl _ _))
      · go_simp
        (try simp only [iQ, jJ])
        (try rfl)
        (try (unfold Go.RowKit.wrap64; omega))
    refine jU ?_ ?_
    · intro a w' vs hB hel hd
      obtain ⟨f5, r5⟩ := hd 0 (by kernel_rfl)
      have e5 : a.tmps[5]? = some (.pointer (some ⟨w.heap.size, 0, none⟩)) := f5.trans (congrArg some (r5 : vs 0 = (.pointer (some ⟨w.heap.size, 0, none⟩))))
      obtain ⟨z0, z1, z2, z3, z4, z5, z6, z7, y0, y1, y2, y3, y4, y5, y6, y7⟩ := eight (iI hB HX.out)
      refine ⟨_, rfl, rfl, fun K hK => ?_⟩
      refine jL (w1 := w') (v := .int .u8 m.f0) (by rfl) rfl ?_ (hK _ _ (by exact rfl) (Below.refl _ _))
      · go_simp
        (try simp only [iQ, jJ])
        (try rfl)
        (try (unfold Go.RowKit.wrap64; omega))
    refine jU ?_ ?_
    · intro a w' vs hB hel hd
      have e3 : a.tmps[3]? = some (.pointer (some ⟨w.heap.size + 1, 0, none⟩)) := (hel 3 (by kernel_rfl)).trans (by rfl)
      refine ⟨_, rfl, rfl, fun K hK => ?_⟩
      refine jL (w1 := w') (v := .pointer (some ⟨w.heap.size + 1, 0, none⟩)) (by rfl) rfl ?_ (hK _ _ (by exact rfl) (Below.refl _ _))
      · go_simp
        (try simp only [iQ, jJ])
        (try rfl)
        (try (unfold Go.RowKit.wrap64; omega))
    refine jU ?_ ?_
    · intro a w' vs hB hel hd
      obtain ⟨f7, r7⟩ := hd 2 (by kernel_rfl)
      have e7 : a.tmps[7]? = some (.pointer (some ⟨w.heap.size + 1, 0, none⟩)) := f7.trans (congrArg some (r7 : vs 2 = (.pointer (some ⟨w.heap.size + 1, 0, none⟩))))
      obtain ⟨z0, z1, z2, z3, z4, z5, z6, z7, y0, y1, y2, y3, y4, y5, y6, y7⟩ := eight (iI hB HY.out)
      refine ⟨_, rfl, rfl, fun K hK => ?_⟩
      refine jL (w1 := w') (v := .int .u8 q.f0) (by rfl) rfl ?_ (hK _ _ (by exact rfl) (Below.refl _ _))
      · go_simp
        (try simp only [iQ, jJ])
        (try rfl)
        (try (unfold Go.RowKit.wrap64; omega))
    refine jU ?_ ?_
    · intro a w' vs hB hel hd
      obtain ⟨f6, r6⟩ := hd 1 (by kernel_rfl)
      have e6 : a.tmps[6]? = some (.int .u8 m.f0) := f6.trans (congrArg some (r6 : vs 1 = (.int .u8 m.f0)))
      obtain ⟨f8, r8⟩ := hd 3 (by kernel_rfl)
      have e8 : a.tmps[8]? = some (.int .u8 q.f0) := f8.trans (congrArg some (r8 : vs 3 = (.int .u8 q.f0)))
      refine ⟨_, rfl, rfl, fun K hK => ?_⟩
      refine jL (w1 := w') (v := .bool true) (by rfl) rfl ?_ (hK _ _ (by exact rfl) (Below.refl _ _))
      · go_simp
        (try simp only [iQ, jJ])
        (try rfl)
        (try (unfold Go.RowKit.wrap64; omega))
    refine jU ?_ ?_
    · intro a w' vs hB hel hd
      obtain ⟨f9, r9⟩ := hd 4 (by kernel_rfl)
      have e9 : a.tmps[9]? = some (.bool true) := f9.trans (congrArg some (r9 : vs 4 = (.bool true)))
      refine ⟨_, rfl, rfl, fun K hK => ?_⟩
      refine jL (w1 := w') (v := .bool true) (by rfl) rfl ?_ (hK _ _ (by exact rfl) (Below.refl _ _))
      · go_simp
        (try simp only [iQ, jJ])
        (try rfl)
        (try (unfold Go.RowKit.wrap64; omega))
    refine jU ?_ ?_
    · intro a w' vs hB hel hd
      have e2 : a.tmps[2]? = some (.pointer (some ⟨w.heap.size, 0, none⟩)) := (hel 2 (by kernel_rfl)).trans (by rfl)
      obtain ⟨f10, r10⟩ := hd 5 (by kernel_rfl)
      have e10 : a.tmps[10]? = some (.bool true) := f10.trans (congrArg some (r10 : vs 5 = (.bool true)))
      obtain ⟨z0, z1, z2, z3, z4, z5, z6, z7, y0, y1, y2, y3, y4, y5, y6, y7⟩ := eight (iI hB HX.out)
      refine ⟨_, rfl, rfl, fun K hK => ?_⟩
      refine jL (w1 := w') (v := .agg #[.int .u8 m.f0, .int .u32 m.f1, .int .u32 m.f2, .slice A3 m.f3.length a3, .slice A4 m.f4.length a4, .int .i64 m.f5, .int .i64 m.f6, .slice A9 m.f7.length a9]) (oN rfl rfl rfl e10) rfl ?_ (hK _ _ (by exact rfl) (Below.refl _ _))
      · go_simp
        (try simp only [iQ, jJ])
        (try rfl)
        (try (unfold Go.RowKit.wrap64; omega))
    refine jU ?_ ?_
    · intro a w' vs hB hel hd
      obtain ⟨f11, r11⟩ := hd 6 (by kernel_rfl)
      have e11 : a.tmps[11]? = some (.agg #[.int .u8 m.f0, .int .u32 m.f1, .int .u32 m.f2, .slice A3 m.f3.length a3, .slice A4 m.f4.length a4, .int .i64 m.f5, .int .i64 m.f6, .slice A9 m.f7.length a9]) := f11.trans (congrArg some (r11 : vs 6 = (.agg #[.int .u8 m.f0, .int .u32 m.f1, .int .u32 m.f2, .slice A3 m.f3.length a3, .slice A4 m.f4.length a4, .int .i64 m.f5, .int .i64 m.f6, .slice A9 m.f7.length a9])))
      obtain ⟨f10, r10⟩ := hd 5 (by kernel_rfl)
      have e10 : a.tmps[10]? = some (.bool true) := f10.trans (congrArg some (r10 : vs 5 = (.bool true)))
      refine ⟨_, rfl, rfl, fun K hK => ?_⟩
      refine pJ Tryd.func82 (by kernel_rfl) rfl #[.agg #[.int .u8 m.f0, .int .u32 m.f1, .int .u32 m.f2, .slice A3 m.f3.length a3, .slice A4 m.f4.length a4, .int .i64 m.f5, .int .i64 m.f6, .slice A9 m.f7.length a9]] (oN rfl rfl rfl e10) rfl rfl (by first | (simp only [List.map_toArray, List.map_cons, List.map_nil, Act.eval, Array.getD_eq_getD_getElem?, Option.getD_some, e11, e10]; done) | (simp only [List.map_toArray, List.map_cons, List.map_nil, Act.eval, Array.getD_eq_getD_getElem?, Option.getD_some, e11, e10]; rfl)) ?_
      refine (uQ m.f0 m.f1 m.f2 m.f5 m.f6 A3 m.f3.length a3 A4 m.f4.length a4 A9 m.f7.length a9 w').mono ?_
      rintro e_ w2_ ⟨rfl, hb2_⟩
      exact ⟨_, rfl, hK _ _ (by exact rfl) hb2_⟩
    refine jU ?_ ?_
    · intro a w' vs hB hel hd
      have e3 : a.tmps[3]? = some (.pointer (some ⟨w.heap.size + 1, 0, none⟩)) := (hel 3 (by kernel_rfl)).trans (by rfl)
      obtain ⟨f10, r10⟩ := hd 5 (by kernel_rfl)
      have e10 : a.tmps[10]? = some (.bool true) := f10.trans (congrArg some (r10 : vs 5 = (.bool true)))
      obtain ⟨z0, z1, z2, z3, z4, z5, z6, z7, y0, y1, y2, y3, y4, y5, y6, y7⟩ := eight (iI hB HY.out)
      refine ⟨_, rfl, rfl, fun K hK => ?_⟩
      refine jL (w1 := w') (v := .agg #[.int .u8 q.f0, .int .u32 q.f1, .int .u32 q.f2, .slice B3 q.f3.length b3, .slice B4 q.f4.length b4, .int .i64 q.f5, .int .i64 q.f6, .slice B9 q.f7.length b9]) (oN rfl rfl rfl e10) rfl ?_ (hK _ _ (by exact rfl) (Below.refl _ _))
      · go_simp
        (try simp only [iQ, jJ])
        (try rfl)
        (try (unfold Go.RowKit.wrap64; omega))
    refine jU ?_ ?_
    · intro a w' vs hB hel hd
      obtain ⟨f13, r13⟩ := hd 8 (by kernel_rfl)
      have e13 : a.tmps[13]? = some (.agg #[.int .u8 q.f0, .int .u32 q.f1, .int .u32 q.f2, .slice B3 q.f3.length b3, .slice B4 q.f4.length b4, .int .i64 q.f5, .int .i64 q.f6, .slice B9 q.f7.length b9]) := f13.trans (congrArg some (r13 : vs 8 = (.agg #[.int .u8 q.f0, .int .u32 q.f1, .int .u32 q.f2, .slice B3 q.f3.length b3, .slice B4 q.f4.length b4, .int .i64 q.f5, .int .i64 q.f6, .slice B9 q.f7.length b9])))
      obtain ⟨f10, r10⟩ := hd 5 (by kernel_rfl)
      have e10 : a.tmps[10]? = some (.bool true) := f10.trans (congrArg some (r10 : vs 5 = (.bool true)))
      refine ⟨_, rfl, rfl, fun K hK => ?_⟩
      refine pJ Tryd.func82 (by kernel_rfl) rfl #[.agg #[.int .u8 q.f0, .int .u32 q.f1, .int .u32 q.f2, .slice B3 q.f3.length b3, .slice B4 q.f4.length b4, .int .i64 q.f5, .int .i64 q.f6, .slice B9 q.f7.length b9]] (oN rfl rfl rfl e10) rfl rfl (by first | (simp only [List.map_toArray, List.map_cons, List.map_nil, Act.eval, Array.getD_eq_getD_getElem?, Option.getD_some, e13, e10]; done) | (simp only [List.map_toArray, List.map_cons, List.map_nil, Act.eval, Array.getD_eq_getD_getElem?, Option.getD_some, e13, e10]; rfl)) ?_
      refine (uQ q.f0 q.f1 q.f2 q.f5 q.f6 B3 q.f3.length b3 B4 q.f4.length b4 B9 q.f7.length b9 w').mono ?_
      rintro e_ w2_ ⟨rfl, hb2_⟩
      exact ⟨_, rfl, hK _ _ (by exact rfl) hb2_⟩
    refine jU ?_ ?_
    · intro a w' vs hB hel hd
      obtain ⟨f12, r12⟩ := hd 7 (by kernel_rfl)
      have e12 : a.tmps[12]? = some (.agg #[.int .u8 (nT m.f0), .int .u32 m.f1, .int .u32 m.f2, .slice A3 m.f3.length a3, .slice A4 m.f4.length a4, .int .u32 0, .slice none 0 0, .int .i64 m.f5, .int .i64 m.f6, .slice A9 m.f7.length a9]) := f12.trans (congrArg some (r12 : vs 7 = (.agg #[.int .u8 (nT m.f0), .int .u32 m.f1, .int .u32 m.f2, .slice A3 m.f3.length a3, .slice A4 m.f4.length a4, .int .u32 0, .slice none 0 0, .int .i64 m.f5, .int .i64 m.f6, .slice A9 m.f7.length a9])))
      obtain ⟨f14, r14⟩ := hd 9 (by kernel_rfl)
      have e14 : a.tmps[14]? = some (.agg #[.int .u8 (nT q.f0), .int .u32 q.f1, .int .u32 q.f2, .slice B3 q.f3.length b3, .slice B4 q.f4.length b4, .int .u32 0, .slice none 0 0, .int .i64 q.f5, .int .i64 q.f6, .slice B9 q.f7.length b9]) := f14.trans (congrArg some (r14 : vs 9 = (.agg #[.int .u8 (nT q.f0), .int .u32 q.f1, .int .u32 q.f2, .slice B3 q.f3.length b3, .slice B4 q.f4.length b4, .int .u32 0, .slice none 0 0, .int .i64 q.f5, .int .i64 q.f6, .slice B9 q.f7.length b9])))
      obtain ⟨f10, r10⟩ := hd 5 (by kernel_rfl)
      have e10 : a.tmps[10]? = some (.bool true) := f10.trans (congrArg some (r10 : vs 5 = (.bool true)))
      refine ⟨_, rfl, rfl, fun K hK => ?_⟩
      refine pJ Tryd.func23 (by kernel_rfl) rfl #[.agg #[.int .u8 (nT m.f0), .int .u32 m.f1, .int .u32 m.f2, .slice A3 m.f3.length a3, .slice A4 m.f4.length a4, .int .u32 0, .slice none 0 0, .int .i64 m.f5, .int .i64 m.f6, .slice A9 m.f7.length a9], .agg #[.int .u8 (nT q.f0), .int .u32 q.f1, .int .u32 q.f2, .slice B3 q.f3.length b3, .slice B4 q.f4.length b4, .int .u32 0, .slice none 0 0, .int .i64 q.f5, .int .i64 q.f6, .slice B9 q.f7.length b9]] (oN rfl rfl rfl e10) rfl rfl (by first | (simp only [List.map_toArray, List.map_cons, List.map_nil, Act.eval, Array.getD_eq_getD_getElem?, Option.getD_some, e12, e14, e10]; done) | (simp only [List.map_toArray, List.map_cons, List.map_nil, Act.eval, Array.getD_eq_getD_getElem?, Option.getD_some, e12, e14, e10]; rfl)) ?_
      refine (MM (HA.out.below hB).rlies (HBB.out.below hB).rlies HT.out).mono ?_
      rintro e_ w2_ ⟨rfl, hb2_⟩
      exact ⟨_, rfl, hK _ _ (by exact rfl) hb2_⟩
    refine jU ?_ ?_
    · intro a w' vs hB hel hd
      obtain ⟨f10, r10⟩ := hd 5 (by kernel_rfl)
      have e10 : a.tmps[10]? = some (.bool true) := f10.trans (congrArg some (r10 : vs 5 = (.bool true)))
      obtain ⟨f15, r15⟩ := hd 10 (by kernel_rfl)
      have e15 : a.tmps[15]? = some (.bool t) := f15.trans (congrArg some (r15 : vs 10 = (.bool t)))
      refine ⟨_, rfl, rfl, fun K hK => ?_⟩
      refine jL (w1 := w') (v := .bool t) (by rfl) rfl ?_ (hK _ _ (by exact rfl) (Below.refl _ _))
      · go_simp
        (try simp only [iQ, jJ])
        (try rfl)
        (try (unfold Go.RowKit.wrap64; omega))
    refine jU ?_ ?_
    · intro a w' vs hB hel hd
      obtain ⟨f16, r16⟩ := hd 11 (by kernel_rfl)
      have e16 : a.tmps[16]? = some (.bool t) := f16.trans (congrArg some (r16 : vs 11 = (.bool t)))
      refine ⟨_, rfl, rfl, fun K hK => ?_⟩
      refine jL (w1 := w') (v := .bool t) (by rfl) rfl ?_ (hK _ _ (by exact rfl) (Below.refl _ _))
      · go_simp
        (try simp only [iQ, jJ])
        (try rfl)
        (try (unfold Go.RowKit.wrap64; omega))
    exact JW
  · intro vs w' hB hR
    have hv0_ : vs 0 = (.pointer (some ⟨w.heap.size, 0, none⟩)) := hR 0 (by kernel_rfl)
    have hv1_ : vs 1 = (.int .u8 m.f0) := hR 1 (by kernel_rfl)
    have hv2_ : vs 2 = (.pointer (some ⟨w.heap.size + 1, 0, none⟩)) := hR 2 (by kernel_rfl)
    have hv3_ : vs 3 = (.int .u8 q.f0) := hR 3 (by kernel_rfl)
    have hv4_ : vs 4 = (.bool true) := hR 4 (by kernel_rfl)
    have hv5_ : vs 5 = (.bool true) := hR 5 (by kernel_rfl)
    have hv6_ : vs 6 = (.agg #[.int .u8 m.f0, .int .u32 m.f1, .int .u32 m.f2, .slice A3 m.f3.length a3, .slice A4 m.f4.length a4, .int .i64 m.f5, .int .i64 m.f6, .slice A9 m.f7.length a9]) := hR 6 (by kernel_rfl)
    have hv7_ : vs 7 = (.agg #[.int .u8 (nT m.f0), .int .u32 m.f1, .int .u32 m.f2, .slice A3 m.f3.length a3, .slice A4 m.f4.length a4, .int .u32 0, .slice none 0 0, .int .i64 m.f5, .int .i64 m.f6, .slice A9 m.f7.length a9]) := hR 7 (by kernel_rfl)
    have hv8_ : vs 8 = (.agg #[.int .u8 q.f0, .int .u32 q.f1, .int .u32 q.f2, .slice B3 q.f3.length b3, .slice B4 q.f4.length b4, .int .i64 q.f5, .int .i64 q.f6, .slice B9 q.f7.length b9]) := hR 8 (by kernel_rfl)
    have hv9_ : vs 9 = (.agg #[.int .u8 (nT q.f0), .int .u32 q.f1, .int .u32 q.f2, .slice B3 q.f3.length b3, .slice B4 q.f4.length b4, .int .u32 0, .slice none 0 0, .int .i64 q.f5, .int .i64 q.f6, .slice B9 q.f7.length b9]) := hR 9 (by kernel_rfl)
    have hv10_ : vs 10 = (.bool t) := hR 10 (by kernel_rfl)
    have hv11_ : vs 11 = (.bool t) := hR 11 (by kernel_rfl)
    have hv12_ : vs 12 = (.bool t) := hR 12 (by kernel_rfl)
    rw [show entries [5, 6, 7, 8, 9, 10, 11, 12, 13, 14, 15, 16, 4] vs = [(0, 5, vs 0), (1, 6, vs 1), (2, 7, vs 2), (3, 8, vs 3), (4, 9, vs 4), (5, 10, vs 5), (6, 11, vs 6), (7, 12, vs 7), (8, 13, vs 8), (9, 14, vs 9), (10, 15, vs 10), (11, 16, vs 11), (12, 4, vs 12)] from rfl]
    simp only [jI, if_true, Act.put, List.setIfInBounds_toArray, List.set_cons_zero, List.set_cons_succ, hv0_, hv1_, hv2_, hv3_, hv4_, hv5_, hv6_, hv7_, hv8_, hv9_, hv10_, hv11_, hv12_]
    clear hR hv0_ hv1_ hv2_ hv3_ hv4_ hv5_ hv6_ hv7_ hv8_ hv9_ hv10_ hv11_ hv12_
    go_wp2
    go_ret
    exact ⟨rfl, iH HB.out hB⟩
end Go.Proofs.YtgfkgppomaapiaaDoor.K
end

section
namespace Go.Proofs.YtgfkgppomaapiaaDoor.K
open Go Go.RowKit Go.Proofs.YtgfkgppomaapiaaDoorW.PrintWords Go.Proofs.YtgfkgppomaapiaaDoorW.PrintLast Go.Proofs.YtgfkgppomaapiaaDoorW.PrintMore Go.Proofs.YtgfkgppomaapiaaDoor.My
theorem Q5 (l0 : List Int) (h : ∀ x ∈ l0, 0 ≤ x ∧ x < 256) : nums (bytesOf l0) = l0 := by
  unfold nums bytesOf
  rw [List.map_map]
  conv => rhs; rw [← List.map_id l0]
  apply List.map_congr_left
  intro x hx
  have hb := h x hx
  simp only [Function.comp, id]
  rw [UInt8.toNat_ofNat']
  omega
theorem QX (l : List UInt8) : decM l = (kN, 160) ∨ ∃ m, decM l = (m, 0) ∧ encM m = (nums l, 0) ∧ 0 ≤ m.f0 ∧ m.f0 < 256 := by
  cases l with
  | nil => exact .inl rfl
  | cons k t =>
    show (if (decR t).2 = 0 then _ else _) = _ ∨ ∃ m, (if (decR t).2 = 0 then _ else _) = _ ∧ _
    by_cases h : (decR t).2 = 0
    · rw [if_pos h]
      by_cases h2 : encM (msgR k.toNat (decR t).1) = (nums (k :: t), 0)
      · rw [if_pos h2]
        have := k.toNat_lt
        exact .inr ⟨_, rfl, h2, by show (0 : Int) ≤ (k.toNat : Int); omega, by show (k.toNat : Int) < 256; omega⟩
      · rw [if_neg h2]; exact .inl rfl
    · rw [if_neg h]; exact .inl rfl
theorem LX : SLen (recR kN) := ⟨by decide, by decide, by decide, by decide⟩
theorem OI (m : SMsg) (h : SLen (recR m)) : ∃ k, stratumref07_Same.f k (recR m).f0 (recR m).f1 (recR m).f2 (recR m).f3 (recR m).f4 (recR m).f5.f0 (recR m).f5.f1 (recR m).f6 (recR m).f7 (recR m).f8 (recR m).f0 (recR m).f1 (recR m).f2 (recR m).f3 (recR m).f4 (recR m).f5.f0 (recR m).f5.f1 (recR m).f6 (recR m).f7 (recR m).f8 = some true := by
  obtain ⟨t, h1, h2⟩ := QE (recR m) (recR m) h h
  obtain ⟨k, hk⟩ := h1.rounds
  rw [h2.2 ⟨rfl, rfl, rfl, rfl, rfl, rfl, rfl, ⟨rfl, rfl⟩, rfl⟩] at hk
  exact ⟨k, hk⟩
attribute [-go_sem] Instr.build Instr.storeAt
attribute [local go_sem] J6
set_option maxRecDepth 20000 in
set_option maxHeartbeats 8000000 in
theorem zL (A : Option Addr) (c : Nat) (l : List UInt8) (w : World) (hCi : (Kd.int .u8).C w A l.length (nums l)) (hc : l.length ≤ c) :
    Calls Tryd.prog 9 #[.slice A l.length c] w fun e w' => e = .returned (.bool true) ∧ Below w.heap.size w w' := by
  have HC := iC.mk hCi
  clear hCi
  by_cases hl : (l.length : Int) > 3000
  · go_enter Tryd.func9, Tryd.ntmps9
    go_wp2_with fail
    go_at_call 25
    refine (xG _).mono ?_
    rintro e w1 ⟨rfl, hb1⟩
    go_wp2
    go_ret
    exact ⟨rfl, hb1⟩
  · go_enter Tryd.func9, Tryd.ntmps9
    go_wp2_with fail
    go_at_call 25
    refine (xG _).mono ?_
    rintro e w1 ⟨rfl, hb1⟩
    have HB1 := iC.mk hb1
    have hdec := qC A c l w1 (Kd.C_below HC.out hb1) hc
    have hcs := QX l
    obtain ⟨⟨m, E⟩, hD⟩ : ∃ D, decM l = D := ⟨_, rfl⟩
    rw [hD] at hdec hcs
    clear hb1 hD
    go_wp2_with fail
    go_at_call 32
    refine hdec.mono ?_
    rintro e w2 ⟨A3, a3, A4, a4, A9, a9, rfl, hL, hb2⟩
    have hsx := fun (_ : True) => run_storeAt_new (P := Tryd.prog) w2 51 #[.int .u8 0, .int .u32 0, .int .u32 0, .slice none 0 0, .slice none 0 0, .int .i64 0, .int .i64 0, .slice none 0 0] #[.int .u8 m.f0, .int .u32 m.f1, .int .u32 m.f2, .slice A3 m.f3.length a3, .slice A4 m.f4.length a4, .int .i64 m.f5, .int .i64 m.f6, .slice A9 m.f7.length a9] (by kernel_rfl) rfl (by simp [Value.oneCell'])
    have hbw : Below w2.heap.size w2 (w2.alloc (.cells #[.int .u8 m.f0, .int .u32 m.f1, .int .u32 m.f2, .slice A3 m.f3.length a3, .slice A4 m.f4.length a4, .int .i64 m.f5, .int .i64 m.f6, .slice A9 m.f7.length a9] 51)) := iF (Below.refl _ _) _
    have HX2 := iC.mk (show (w2.alloc (.cells #[.int .u8 m.f0, .int .u32 m.f1, .int .u32 m.f2, .slice A3 m.f3.length a3, .slice A4 m.f4.length a4, .int .i64 m.f5, .int .i64 m.f6, .slice A9 m.f7.length a9] 51)).heap[w2.heap.size]? = some (.cells #[.int .u8 m.f0, .int .u32 m.f1, .int .u32 m.f2, .slice A3 m.f3.length a3, .slice A4 m.f4.length a4, .int .i64 m.f5, .int .i64 m.f6, .slice A9 m.f7.length a9] 51 (0, 0)) from iM rfl)
    have HL2 := iC.mk (hL.below hbw)
    have HB2 := iC.mk (iH HB1.out (hb2.trans (hbw.mono hb2.size)))
    clear hdec hL hb2 hbw HB1
    obtain ⟨z0, z1, z2, z3, z4, z5, z6, z7, y0, y1, y2, y3, y4, y5, y6, y7⟩ := eight HX2.out
    rcases hcs with hcs | ⟨m', hcs, hen, hk0, hk1⟩
    · obtain ⟨rfl, rfl⟩ := Prod.mk.inj hcs
      clear hcs
      have hsame := OD kN kN rfl A3 a3 A4 a4 A9 a9 none 0 none 0 none 0 _ HL2.out (vV _) (OI kN LX)
      simp only [kN, List.length_nil] at hsame z0 z1 z2 z3 z4 z5 z6 z7 y0 y1 y2 y3 y4 y5 y6 y7 hsx HB2 ⊢
      go_wp2_with fail
      go_at_call 34
      refine hsame.mono ?_
      rintro e w3 ⟨rfl, hb3⟩
      clear hsame hsx
      go_wp2
      go_ret
      exact ⟨rfl, iH HB2.out hb3⟩
    · obtain ⟨rfl, rfl⟩ := Prod.mk.inj hcs
      clear hcs
      have hcall := pW m A3 a3 A4 a4 A9 a9 _ HL2.out ⟨hk0, hk1⟩ hen
      go_wp2_with fail
      go_at_call 28
      refine hcall.mono ?_
      rintro e w3 ⟨v0, rfl, h0, hb3⟩
      obtain ⟨A0, c0, rfl⟩ := Kd.R_slice h0
      obtain ⟨_, q0, C0⟩ := Kd.R_reads' h0
      have HX3 := iC.mk (iI hb3 HX2.out)
      have HB3 := iC.mk (iH HB2.out hb3)
      have HL3 := iC.mk (HL2.out.below hb3)
      rw [jS] at C0
      have hcv1 := fun (_ : True) => qA (c := c0) (lZ C0)
      have hcv2 := fun (_ : True) => qA (c := c) (lZ (Kd.C_below HC.out HB3.out))
      clear hcall hb3 h0 hsx C0 q0 z0 z1 z2 z3 z4 z5 z6 z7 y0 y1 y2 y3 y4 y5 y6 y7 HX2 HB2 HL2
      obtain ⟨z0, z1, z2, z3, z4, z5, z6, z7, y0, y1, y2, y3, y4, y5, y6, y7⟩ := eight HX3.out
      have hsi : ∃ k, stratumref07_SameInts.f k m.f3 m.f3 = some true := by
        obtain ⟨b, h1, h2⟩ := vG m.f3 m.f3 HL3.out.h3.2.1
        obtain ⟨k, hk⟩ := h1.rounds
        rw [h2.2 rfl] at hk
        exact ⟨k, hk⟩
      obtain ⟨ks, hks⟩ := hsi
      have hcall := stratumref07_SameInts.calls ks A3 a3 m.f3 A3 a3 m.f3 true w3 HL3.out.h3 HL3.out.d3 HL3.out.h3 HL3.out.d3 hks
      simp only [jS]
      clear hks
      go_wp2_with fail
      go_at_call 35
      refine hcall.mono ?_
      rintro e w4 ⟨rfl, hd4⟩
      have HB4 := iC.mk (iH HB3.out hd4.below)
      clear hcall hd4
      go_wp2
      go_ret
      exact ⟨rfl, HB4.out⟩
theorem msgOnly_walk (A : Option Addr) (c : Nat) (l : List Int) (W : World) (hC : (Kd.int .u8).C W A l.length l) (hc : l.length ≤ c) (hw : ∀ x ∈ l, 0 ≤ x ∧ x < 256) :
    Calls Tryd.prog 9 #[.slice A l.length c] W fun e w' => e = .returned (.bool true) ∧ Below W.heap.size W w' := by
  have hn := Q5 l hw
  have hlen : (bytesOf l).length = l.length := by unfold bytesOf; simp
  have := zL A c (bytesOf l) W (by rw [hn, hlen]; exact hC) (by omega)
  rwa [hlen] at this
end Go.Proofs.YtgfkgppomaapiaaDoor.K
end
