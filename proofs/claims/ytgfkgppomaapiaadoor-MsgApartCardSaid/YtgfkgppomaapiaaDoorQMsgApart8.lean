/- Parts of the proof, one behind the other: MsgD, MsgN, MsgQ, MsgT, MsgM, MsgB, MsgU, MsgW4. -/
import Derived.Test.YtgfkgppomaapiaaDoorQMsgApart7
set_option linter.unusedVariables false
set_option linter.unusedSimpArgs false
section
namespace Go.Proofs.YtgfkgppomaapiaaDoor.K
open Go Go.RowKit Go.Proofs.YtgfkgppomaapiaaDoorW.PrintWords Go.Proofs.YtgfkgppomaapiaaDoorW.PrintLast Go.Proofs.YtgfkgppomaapiaaDoorW.PrintMore Go.Proofs.YtgfkgppomaapiaaDoor.My
theorem oV {w : World} {A : Option Addr} {n : Nat} {l : List UInt8} (h : kb.C w A n l) : (Kd.int .u8).C w A n (nums l) := by
  refine ⟨by rw [kH]; exact h.1, h.2.1, fun hn => ?_⟩
  obtain ⟨ad, e, hc⟩ := h.2.2 hn
  refine ⟨ad, e, fun j p hj => ?_⟩
  unfold nums at hj
  rw [List.getElem?_map] at hj
  obtain ⟨b, hb, rfl⟩ := Option.map_eq_some_iff.1 hj
  exact hc j b hb
def uT (w : World) (d : SMsg × Int) (e : Ending) (w' : World) : Prop := ∃ A3 a3 A4 a4 A9 a9, e = .returned (.tuple #[.agg #[.int .u8 d.1.f0, .int .u32 d.1.f1, .int .u32 d.1.f2, .slice A3 d.1.f3.length a3, .slice A4 d.1.f4.length a4, .int .i64 d.1.f5, .int .i64 d.1.f6, .slice A9 d.1.f7.length a9], .int .u16 d.2]) ∧ pG w' d.1 A3 a3 A4 a4 A9 a9 ∧ Below w.heap.size w w'
theorem OH (w : World) : pG w lZ none 0 none 0 none 0 := ⟨Kd.C_nil _ _, Nat.le_refl _, Kd.C_nil _ _, Nat.le_refl _, Kd.C_nil _ _, Nat.le_refl _⟩
theorem UA (w w' : World) (c : Int) (h : Below w.heap.size w w') : uT w (lZ, c) (.returned (.tuple #[.agg #[.int .u8 0, .int .u32 0, .int .u32 0, .slice none 0 0, .slice none 0 0, .int .i64 0, .int .i64 0, .slice none 0 0], .int .u16 c])) w' := ⟨none, 0, none, 0, none, 0, rfl, OH _, h⟩
theorem uS (w W : World) (h : Below w.heap.size w W) (c : Int) : uT w (lZ, c) (.returned (.tuple #[.agg #[.int .u8 0, .int .u32 0, .int .u32 0, .slice none 0 0, .slice none 0 0, .int .i64 0, .int .i64 0, .slice none 0 0], .int .u16 c])) (W.setRow w.heap.size #[.int .u8 0, .int .u32 0, .int .u32 0, .slice none 0 0, .slice none 0 0, .int .i64 0, .int .i64 0, .slice none 0 0]) :=
  UA w _ c (below_grown h (jC W w.heap.size _) (Nat.le_refl _) (Nat.le_refl _))
theorem qW {tmps : Array Value} {W : World} {p u : Tmp} {b : Nat} {cs : Array Value} {x : Value} (h : Tryd.f32.results = #[.cell p 51, .tmp u]) (hp : tmps.getD p undef = .pointer (some ⟨b, 0, none⟩)) (hu : tmps.getD u undef = x) (hx : W.heap[b]? = some (.cells cs 51 (0, 0))) (hs : cs.size = 8) :
    (results Tryd.f32 tmps).run Tryd.prog W = .ok (.tuple #[.agg cs, x]) W := by
  have h1 := run_loadVar_row (P := Tryd.prog) W b 51 51 cs (0, 0) _ hx Tryd.underlying51 rfl (by rw [hs]; kernel_rfl)
  rw [results_cell_tmp h, hp, hu]
  simp [asAddr, h1, Result.andThen]
theorem LG : (Tryd.prog).built 51 (#[] : Array (Nat × Value)).toList = some #[.int .u8 0, .int .u32 0, .int .u32 0, .slice none 0 0, .slice none 0 0, .int .i64 0, .int .i64 0, .slice none 0 0] := by kernel_rfl
theorem U1 (w : World) : (Instr.build 51 #[]).run Tryd.prog w = .ok (.agg #[.int .u8 0, .int .u32 0, .int .u32 0, .slice none 0 0, .slice none 0 0, .int .i64 0, .int .i64 0, .slice none 0 0]) w := run_build w _ _ _ LG
theorem PU (k i a p q : Int) (A3 : Option Addr) (n3 c3 : Nat) (A4 : Option Addr) (n4 c4 : Nat) (A9 : Option Addr) (n9 c9 : Nat) : (Tryd.prog).built 51 (#[(0, .int .u8 k), (1, .int .u32 i), (2, .int .u32 a), (3, .slice A3 n3 c3), (4, .slice A4 n4 c4), (5, .int .i64 p), (6, .int .i64 q), (7, .slice A9 n9 c9)] : Array (Nat × Value)).toList = some #[.int .u8 k, .int .u32 i, .int .u32 a, .slice A3 n3 c3, .slice A4 n4 c4, .int .i64 p, .int .i64 q, .slice A9 n9 c9] := by kernel_rfl
theorem X5 (w : World) (k i a p q : Int) (A3 : Option Addr) (n3 c3 : Nat) (A4 : Option Addr) (n4 c4 : Nat) (A9 : Option Addr) (n9 c9 : Nat) : (Instr.build 51 #[(0, .int .u8 k), (1, .int .u32 i), (2, .int .u32 a), (3, .slice A3 n3 c3), (4, .slice A4 n4 c4), (5, .int .i64 p), (6, .int .i64 q), (7, .slice A9 n9 c9)]).run Tryd.prog w = .ok (.agg #[.int .u8 k, .int .u32 i, .int .u32 a, .slice A3 n3 c3, .slice A4 n4 c4, .int .i64 p, .int .i64 q, .slice A9 n9 c9]) w := run_build w _ _ _ (PU k i a p q A3 n3 c3 A4 n4 c4 A9 n9 c9)
theorem XF {w : World} {b : Nat} {cs : Array Value} (h : w.heap[b]? = some (.cells cs 51 (0, 0))) (hs : cs.size = 8) : (Instr.loadAt 51 (.pointer (some ⟨b, 0, none⟩))).run Tryd.prog w = .ok (.agg cs) w := by
  simp only [Instr.loadAt, Instr.sureAddr, Sem.run_bind, Sem.run_pure, Result.andThen]
  exact run_loadVar_row w b 51 51 cs (0, 0) _ h Tryd.underlying51 rfl (by rw [hs]; kernel_rfl)
theorem uJ {w : World} {b : Nat} {cs : Array Value} {a k i : Int} {x3 x4 x7 : Value} {p q : Int} (hs : cs.size = 8) (h : w.heap[b]? = some (.cells cs 51 (0, 0))) (o3 : x3.oneCell' = true) (o4 : x4.oneCell' = true) (o7 : x7.oneCell' = true) :
    (Instr.storeAt 51 (.pointer (some ⟨b, 0, none⟩)) (.agg #[.int .u8 a, .int .u32 k, .int .u32 i, x3, x4, .int .i64 p, .int .i64 q, x7])).run Tryd.prog w = .ok () (w.setRow b #[.int .u8 a, .int .u32 k, .int .u32 i, x3, x4, .int .i64 p, .int .i64 q, x7]) := by
  simp only [Instr.storeAt, Instr.sureAddr, Sem.run_bind, Sem.run_pure, Result.andThen]
  exact run_storeVar_row w b 51 51 _ _ h (by kernel_rfl) hs (by simp [o3, o4, o7, show ∀ k n, (Value.int k n).oneCell' = true from fun _ _ => rfl])
theorem rV {w : World} {b : Nat} {cs : Array Value} (hs : cs.size = 8) (h : w.heap[b]? = some (.cells cs 51 (0, 0))) : (Instr.storeAt 51 (.pointer (some ⟨b, 0, none⟩)) (.agg #[.int .u8 0, .int .u32 0, .int .u32 0, .slice none 0 0, .slice none 0 0, .int .i64 0, .int .i64 0, .slice none 0 0])).run Tryd.prog w = .ok () (w.setRow b #[.int .u8 0, .int .u32 0, .int .u32 0, .slice none 0 0, .slice none 0 0, .int .i64 0, .int .i64 0, .slice none 0 0]) := uJ (a := 0) (k := 0) (i := 0) (x3 := .slice none 0 0) (x4 := .slice none 0 0) (p := 0) (q := 0) (x7 := .slice none 0 0) hs h rfl rfl rfl
theorem Q9 (k8 : UInt8) (t : List UInt8) (x : SRec) (h : decR t = (x, 0)) : decM (k8 :: t) = if encM (msgR k8.toNat x) = (nums (k8 :: t), 0) then (msgR k8.toNat x, 0) else (lZ, 160) := by
  show (if (decR t).2 = 0 then _ else _) = _
  rw [h, if_pos rfl]
theorem U5 (k8 : UInt8) (t : List UInt8) (h : (decR t).2 ≠ 0) : decM (k8 :: t) = (lZ, 160) := by
  show (if (decR t).2 = 0 then _ else _) = _
  rw [if_neg h]
theorem PV {base : Nat} {x : SRec} {A3 A4 A6 A9 : Option Addr} {d3 d4 d6 d9 : Nat} {w : World} (h : RecV base x (.agg #[.int .u8 x.f0, .int .u32 x.f1, .int .u32 x.f2, .slice A3 x.f3.length d3, .slice A4 x.f4.length d4, .int .u32 x.f5.f0, .slice A6 x.f5.f1.length d6, .int .i64 x.f6, .int .i64 x.f7, .slice A9 x.f8.length d9]) w) (k : Int) : pG w (msgR k x) A3 d3 A4 d4 A9 d9 := by
  obtain ⟨v3, v4, v6, v9, he, h3, h4, h6, h9⟩ := h
  simp only [Value.agg.injEq, Array.mk.injEq, List.cons.injEq, true_and, and_true] at he
  obtain ⟨rfl, rfl, rfl, rfl⟩ := he
  obtain ⟨_, q3, C3⟩ := Kd.R_reads' h3
  obtain ⟨_, q4, C4⟩ := Kd.R_reads' h4
  obtain ⟨_, q9, C9⟩ := Kd.R_reads' h9
  exact ⟨C3, q3, C4, q4, C9, q9⟩
theorem qL {w : World} {o : Obj} {p : Addr} {v : Value} (h : w.cell? p = some v) : (w.alloc o).cell? p = some v := ((iF (Below.refl w.heap.size w) o).cell (World.block_lt_of_cell? w p h)).trans h
attribute [-go_sem] Instr.build Instr.storeAt
attribute [local go_sem] U1 X5
set_option maxRecDepth 20000 in
set_option maxHeartbeats 16000000 in
theorem yC (A : Option Addr) (c : Nat) (l : List UInt8) (w : World) (hCi : (Kd.int .u8).C w A l.length (nums l)) (hc : l.length ≤ c) :
    Calls Tryd.prog 32 #[.slice A l.length c] w (uT w (decM l)) := by
  cases l with
  | nil =>
    have hst := fun (_ : True) => rV rfl (show (w.alloc (.cells #[.int .u8 0, .int .u32 0, .int .u32 0, .slice none 0 0, .slice none 0 0, .int .i64 0, .int .i64 0, .slice none 0 0] 51)).heap[w.heap.size]? = _ from iT rfl)
    show Calls _ _ _ _ (uT w (lZ, 160))
    simp only [List.length_nil]
    go_enter Tryd.func32, Tryd.ntmps32
    go_wp2
    ((try simp only [Exit.inBlock, Exit.then]); exact bodyPost_ret (qW rfl rfl rfl (setRow_heap _ _ _ _ _ _ (iT rfl)) rfl) rfl (uS w _ (iF (Below.refl _ _) _) 160))
  | cons k8 t =>
    obtain ⟨Wa, hWa⟩ : ∃ Wa, Wa = w.alloc (.cells #[.int .u8 0, .int .u32 0, .int .u32 0, .slice none 0 0, .slice none 0 0, .int .i64 0, .int .i64 0, .slice none 0 0] 51) := ⟨_, rfl⟩
    have hBa : Below w.heap.size w Wa := by rw [hWa]; exact iF (Below.refl _ _) _
    have HXA := iD.mk (show Wa.heap[w.heap.size]? = some (.cells #[.int .u8 0, .int .u32 0, .int .u32 0, .slice none 0 0, .slice none 0 0, .int .i64 0, .int .i64 0, .slice none 0 0] 51 (0, 0)) from by rw [hWa]; exact iT rfl)
    have HBA := iD.mk hBa
    have hC := qV (Kd.C_below hCi hBa)
    have hm := lC hC
    obtain ⟨A2, hcut, hC2⟩ := WT hC hc 1 1 rfl (by simp)
    obtain ⟨ad, rfl, hk0⟩ := C_at hC 0 (by simp)
    have hk0 : Wa.cell? (ad.add 0) = some (.int .u8 (k8.toNat : Int)) := hk0
    rw [Addr.add_zero'] at hk0
    have HC := iD.mk hC
    have HC2 := iD.mk (show kb.C Wa A2 t.length t from hC2)
    have HWA := iD.mk hWa
    have HK0 := iD.mk hk0
    have hcall := decode_any A2 (c - 1) t Wa (oV HC2.out) (by simp at hc; omega)
    simp only [List.length_cons, Nat.add_sub_cancel] at hcut hc hm ⊢
    have hnz : ¬ ((t.length : Int) + 1 = 0) := by omega
    have hk255 := k8.toNat_lt
    clear hCi hBa hC hC2 hWa hk0
    obtain ⟨⟨x, E⟩, hD⟩ : ∃ D, decR t = D := ⟨_, rfl⟩
    rw [hD] at hcall
    have HD := iD.mk hD
    clear hD
    go_enter Tryd.func32, Tryd.ntmps32
    go_wp2_with fail
    rw [← HWA.out]
    go_at_call 22
    refine hcall.mono ?_
    rintro e w1 ⟨v, rfl, ⟨v3, v4, v6, v9, rfl, h3, h4, h6, h9⟩, hB⟩
    obtain ⟨A3, d3, rfl⟩ := Kd.R_slice h3
    obtain ⟨A4, d4, rfl⟩ := Kd.R_slice h4
    obtain ⟨A6, d6, rfl⟩ := Kd.R_slice h6
    obtain ⟨A9, d9, rfl⟩ := Kd.R_slice h9
    obtain ⟨_, q3, C3⟩ := Kd.R_reads' h3
    obtain ⟨_, q4, C4⟩ := Kd.R_reads' h4
    obtain ⟨_, q9, C9⟩ := Kd.R_reads' h9
    have hbw : Below w1.heap.size w1 (w1.alloc (.cells #[.int .u8 x.f0, .int .u32 x.f1, .int .u32 x.f2, .slice A3 x.f3.length d3, .slice A4 x.f4.length d4, .int .u32 x.f5.f0, .slice A6 x.f5.f1.length d6, .int .i64 x.f6, .int .i64 x.f7, .slice A9 x.f8.length d9] 30)) := iF (Below.refl _ _) _
    have hsx := fun (_ : True) => run_storeAt_new (P := Tryd.prog) w1 30 #[.int .u8 0, .int .u32 0, .int .u32 0, .slice none 0 0, .slice none 0 0, .int .u32 0, .slice none 0 0, .int .i64 0, .int .i64 0, .slice none 0 0] #[.int .u8 x.f0, .int .u32 x.f1, .int .u32 x.f2, .slice A3 x.f3.length d3, .slice A4 x.f4.length d4, .int .u32 x.f5.f0, .slice A6 x.f5.f1.length d6, .int .i64 x.f6, .int .i64 x.f7, .slice A9 x.f8.length d9] (by kernel_rfl) rfl (by simp [Value.oneCell'])
    have HXR := iD.mk (show (w1.alloc (.cells #[.int .u8 x.f0, .int .u32 x.f1, .int .u32 x.f2, .slice A3 x.f3.length d3, .slice A4 x.f4.length d4, .int .u32 x.f5.f0, .slice A6 x.f5.f1.length d6, .int .i64 x.f6, .int .i64 x.f7, .slice A9 x.f8.length d9] 30)).heap[w1.heap.size]? = some (.cells #[.int .u8 x.f0, .int .u32 x.f1, .int .u32 x.f2, .slice A3 x.f3.length d3, .slice A4 x.f4.length d4, .int .u32 x.f5.f0, .slice A6 x.f5.f1.length d6, .int .i64 x.f6, .int .i64 x.f7, .slice A9 x.f8.length d9] 30 (0, 0)) from iT rfl)
    have hb1 := hB.trans (hbw.mono hB.size)
    have HX1 := iD.mk (iM hb1 HXA.out)
    have HB1 := iD.mk (HBA.out.trans (hb1.mono HBA.out.size))
    have HC1 := iD.mk (Kd.C_below HC.out hb1)
    have HK1 := iD.mk ((hb1.cell (World.block_lt_of_cell? _ _ HK0.out)).trans HK0.out)
    have HLM := iD.mk (show pG _ (msgR k8.toNat x) A3 d3 A4 d4 A9 d9 from ⟨Kd.C_below C3 hbw, q3, Kd.C_below C4 hbw, q4, Kd.C_below C9 hbw, q9⟩)
    have HV := iD.mk (lF (show RecV Wa.heap.size x _ w1 from ⟨_, _, _, _, rfl, h3, h4, h6, h9⟩) hbw)
    have HLT := iD.mk (kD HXA.out)
    clear h3 h4 h6 h9 C3 C4 C9 q3 q4 q9 hB hbw hcall hb1 HK0 HXA HBA
    by_cases hE : E = 0
    · subst hE
      obtain ⟨W, hW⟩ : ∃ W, W = w1.alloc (.cells #[.int .u8 x.f0, .int .u32 x.f1, .int .u32 x.f2, .slice A3 x.f3.length d3, .slice A4 x.f4.length d4, .int .u32 x.f5.f0, .slice A6 x.f5.f1.length d6, .int .i64 x.f6, .int .i64 x.f7, .slice A9 x.f8.length d9] 30) := ⟨_, rfl⟩
      have HW := iD.mk hW
      rw [← hW] at HXR HX1 HB1 HC1 HK1 HLM HV
      have hgs : w1.heap.size + 1 = W.heap.size := by rw [hW]; simp
      clear hW
      have hR := Q9 k8 t x HD.out
      go_wp2
      rw [← HW.out]
      clear hsx
      have hsn := fun (_ : True) => uJ (a := (k8.toNat : Int)) (k := x.f1) (i := x.f2) (x3 := .slice A3 x.f3.length d3) (x4 := .slice A4 x.f4.length d4) (p := x.f6) (q := x.f7) (x7 := .slice A9 x.f8.length d9) rfl (show ((W.alloc (.cells #[.int .u8 0, .int .u32 0, .int .u32 0, .slice none 0 0, .slice none 0 0, .int .i64 0, .int .i64 0, .slice none 0 0] 51)).drew).heap[W.heap.size]? = some (.cells #[.int .u8 0, .int .u32 0, .int .u32 0, .slice none 0 0, .slice none 0 0, .int .i64 0, .int .i64 0, .slice none 0 0] 51 (0, 0)) from iT rfl) rfl rfl rfl
      have h0t : (0 : Int) < (((t.length + 1 : Nat)) : Int) := by omega
      have h0u : (0 : Nat) < t.length + 1 := by omega
      refine nZ (n := 20) (S := fun w' => w'.cell? ad = some (.int .u8 (k8.toNat : Int)) ∧ w'.cell? ⟨w1.heap.size, 1, none⟩ = some (.int .u32 x.f1) ∧ w'.cell? ⟨w1.heap.size, 2, none⟩ = some (.int .u32 x.f2) ∧ w'.cell? ⟨w1.heap.size, 3, none⟩ = some (.slice A3 x.f3.length d3) ∧ w'.cell? ⟨w1.heap.size, 4, none⟩ = some (.slice A4 x.f4.length d4) ∧ w'.cell? ⟨w1.heap.size, 7, none⟩ = some (.int .i64 x.f6) ∧ w'.cell? ⟨w1.heap.size, 8, none⟩ = some (.int .i64 x.f7) ∧ w'.cell? ⟨w1.heap.size, 9, none⟩ = some (.slice A9 x.f8.length d9)) (ds := [19]) #[false, false, false, false, false, false, false, false, false, false, false, false, false, false, false, false, false, false, false, false] (by kernel_rfl) rfl rfl ⟨HK1.out, (iE HXR.out 1).trans rfl, (iE HXR.out 2).trans rfl, (iE HXR.out 3).trans rfl, (iE HXR.out 4).trans rfl, (iE HXR.out 7).trans rfl, (iE HXR.out 8).trans rfl, (iE HXR.out 9).trans rfl⟩ (fun hHeld => ?_)
      refine lD (T := (true, [([], []), ([0], [0]), ([1], [1]), ([], []), ([3], [3]), ([], []), ([5], [5]), ([], []), ([7], [7]), ([], []), ([9], [9]), ([], []), ([11], [11]), ([], []), ([13], [13]), ([], []), ([15], [15]), ([2, 4, 6, 8, 10, 12, 14, 16], [2, 4, 6, 8, 10, 12, 14, 16]), ([], []), ([18, 17, 0, 1, 2, 3, 4, 5, 6, 7, 8, 9, 10, 11, 12, 13, 14, 15, 16, 17, 18], [17, 18])])) (B := [0, 1, 3, 0, 8, 0, 32, 0, 128, 0, 512, 0, 2048, 0, 8192, 0, 32768, 131071, 0, 524287]) (by kernel_rfl) (by kernel_rfl) (fun HT_ HW_ => ?_)
      refine jF (i := 0) (N := some 21) (v := ?_) (a' := ?_) #[true, false, false, false, false, false, false, false, false, false, false, false, false, false, false, false, false, false, false, false] rfl rfl (iZ HT_.out (by kernel_rfl)) (fun _ _ _ h => h) (Or.inl ⟨by rfl, ?_⟩) ?_ ?_
      rotate_left
      · intro w'
        go_simp
        with_reducible rfl
      rotate_left
      · simp only [Act.put, List.setIfInBounds_toArray, List.set_cons_zero, List.set_cons_succ, iP, iY]
        rfl
      refine jF (i := 1) (N := some 22) (v := ?_) (a' := ?_) #[true, true, false, false, false, false, false, false, false, false, false, false, false, false, false, false, false, false, false, false] rfl rfl (iZ HT_.out (by kernel_rfl)) (fun _ _ _ h => h) (Or.inl ⟨by rfl, ?_⟩) ?_ ?_
      rotate_left
      · intro w'
        go_simp
        with_reducible rfl
      rotate_left
      · simp only [Act.put, List.setIfInBounds_toArray, List.set_cons_zero, List.set_cons_succ, iP, iY]
        rfl
      refine jF (i := 3) (N := some 24) (v := ?_) (a' := ?_) #[true, true, false, true, false, false, false, false, false, false, false, false, false, false, false, false, false, false, false, false] rfl rfl (iZ HT_.out (by kernel_rfl)) (fun _ _ _ h => h) (Or.inl ⟨by rfl, ?_⟩) ?_ ?_
      rotate_left
      · intro w'
        go_simp
        with_reducible rfl
      rotate_left
      · simp only [Act.put, List.setIfInBounds_toArray, List.set_cons_zero, List.set_cons_succ, iP, iY]
        rfl
      refine jF (i := 5) (N := some 26) (v := ?_) (a' := ?_) #[true, true, false, true, false, true, false, false, false, false, false, false, false, false, false, false, false, false, false, false] rfl rfl (iZ HT_.out (by kernel_rfl)) (fun _ _ _ h => h) (Or.inl ⟨by rfl, ?_⟩) ?_ ?_
      rotate_left
      · intro w'
        go_simp
        with_reducible rfl
      rotate_left
      · simp only [Act.put, List.setIfInBounds_toArray, List.set_cons_zero, List.set_cons_succ, iP, iY]
        rfl
      refine jF (i := 7) (N := some 28) (v := ?_) (a' := ?_) #[true, true, false, true, false, true, false, true, false, false, false, false, false, false, false, false, false, false, false, false] rfl rfl (iZ HT_.out (by kernel_rfl)) (fun _ _ _ h => h) (Or.inl ⟨by rfl, ?_⟩) ?_ ?_
      rotate_left
      · intro w'
        go_simp
        with_reducible rfl
      rotate_left
      · simp only [Act.put, List.setIfInBounds_toArray, List.set_cons_zero, List.set_cons_succ, iP, iY]
        rfl
      refine jF (i := 9) (N := some 30) (v := ?_) (a' := ?_) #[true, true, false, true, false, true, false, true, false, true, false, false, false, false, false, false, false, false, false, false] rfl rfl (iZ HT_.out (by kernel_rfl)) (fun _ _ _ h => h) (Or.inl ⟨by rfl, ?_⟩) ?_ ?_
      rotate_left
      · intro w'
        go_simp
        with_reducible rfl
      rotate_left
      · simp only [Act.put, List.setIfInBounds_toArray, List.set_cons_zero, List.set_cons_succ, iP, iY]
        rfl
      refine jF (i := 11) (N := some 32) (v := ?_) (a' := ?_) #[true, true, false, true, false, true, false, true, false, true, false, true, false, false, false, false, false, false, false, false] rfl rfl (iZ HT_.out (by kernel_rfl)) (fun _ _ _ h => h) (Or.inl ⟨by rfl, ?_⟩) ?_ ?_
      rotate_left
      · intro w'
        go_simp
        with_reducible rfl
      rotate_left
      · simp only [Act.put, List.setIfInBounds_toArray, List.set_cons_zero, List.set_cons_succ, iP, iY]
        rfl
      refine jF (i := 13) (N := some 34) (v := ?_) (a' := ?_) #[true, true, false, true, false, true, false, true, false, true, false, true, false, true, false, false, false, false, false, false] rfl rfl (iZ HT_.out (by kernel_rfl)) (fun _ _ _ h => h) (Or.inl ⟨by rfl, ?_⟩) ?_ ?_
      rotate_left
      · intro w'
        go_simp
        with_reducible rfl
      rotate_left
      · simp only [Act.put, List.setIfInBounds_toArray, List.set_cons_zero, List.set_cons_succ, iP, iY]
        rfl
      refine jF (i := 15) (N := some 36) (v := ?_) (a' := ?_) #[true, true, false, true, false, true, false, true, false, true, false, true, false, true, false, true, false, false, false, false] rfl rfl (iZ HT_.out (by kernel_rfl)) (fun _ _ _ h => h) (Or.inl ⟨by rfl, ?_⟩) ?_ ?_
      rotate_left
      · intro w'
        go_simp
        with_reducible rfl
      rotate_left
      · simp only [Act.put, List.setIfInBounds_toArray, List.set_cons_zero, List.set_cons_succ, iP, iY]
        rfl
      refine lQ (i := 2) (N := some 23) (v := ?_) (a' := ?_) #[true, true, true, true, false, true, false, true, false, true, false, true, false, true, false, true, false, false, false, false] rfl rfl (jL HT_.out HW_.out (by kernel_rfl)) (fun _ _ _ h => h) (Or.inl ⟨by rfl, ?_⟩) hHeld ?_ ?_
      rotate_left
      · rintro w' ⟨s0, s1, s2, s3, s4, s5, s6, s7⟩
        go_simp
        with_reducible rfl
      rotate_left
      · simp only [Act.put, List.setIfInBounds_toArray, List.set_cons_zero, List.set_cons_succ, iP, iY]
        rfl
      refine lQ (i := 4) (N := some 25) (v := ?_) (a' := ?_) #[true, true, true, true, true, true, false, true, false, true, false, true, false, true, false, true, false, false, false, false] rfl rfl (jL HT_.out HW_.out (by kernel_rfl)) (fun _ _ _ h => h) (Or.inl ⟨by rfl, ?_⟩) hHeld ?_ ?_
      rotate_left
      · rintro w' ⟨s0, s1, s2, s3, s4, s5, s6, s7⟩
        go_simp
        with_reducible rfl
      rotate_left
      · simp only [Act.put, List.setIfInBounds_toArray, List.set_cons_zero, List.set_cons_succ, iP, iY]
        rfl
      refine lQ (i := 6) (N := some 27) (v := ?_) (a' := ?_) #[true, true, true, true, true, true, true, true, false, true, false, true, false, true, false, true, false, false, false, false] rfl rfl (jL HT_.out HW_.out (by kernel_rfl)) (fun _ _ _ h => h) (Or.inl ⟨by rfl, ?_⟩) hHeld ?_ ?_
      rotate_left
      · rintro w' ⟨s0, s1, s2, s3, s4, s5, s6, s7⟩
        go_simp
        with_reducible rfl
      rotate_left
      · simp only [Act.put, List.setIfInBounds_toArray, List.set_cons_zero, List.set_cons_succ, iP, iY]
        rfl
      refine lQ (i := 8) (N := some 29) (v := ?_) (a' := ?_) #[true, true, true, true, true, true, true, true, true, true, false, true, false, true, false, true, false, false, false, false] rfl rfl (jL HT_.out HW_.out (by kernel_rfl)) (fun _ _ _ h => h) (Or.inl ⟨by rfl, ?_⟩) hHeld ?_ ?_
      rotate_left
      · rintro w' ⟨s0, s1, s2, s3, s4, s5, s6, s7⟩
        go_simp
        with_reducible rfl
      rotate_left
      · simp only [Act.put, List.setIfInBounds_toArray, List.set_cons_zero, List.set_cons_succ, iP, iY]
        rfl
      refine lQ (i := 10) (N := some 31) (v := ?_) (a' := ?_) #[true, true, true, true, true, true, true, true, true, true, true, true, false, true, false, true, false, false, false, false] rfl rfl (jL HT_.out HW_.out (by kernel_rfl)) (fun _ _ _ h => h) (Or.inl ⟨by rfl, ?_⟩) hHeld ?_ ?_
      rotate_left
      · rintro w' ⟨s0, s1, s2, s3, s4, s5, s6, s7⟩
        go_simp
        with_reducible rfl
      rotate_left
      · simp only [Act.put, List.setIfInBounds_toArray, List.set_cons_zero, List.set_cons_succ, iP, iY]
        rfl
      refine lQ (i := 12) (N := some 33) (v := ?_) (a' := ?_) #[true, true, true, true, true, true, true, true, true, true, true, true, true, true, false, true, false, false, false, false] rfl rfl (jL HT_.out HW_.out (by kernel_rfl)) (fun _ _ _ h => h) (Or.inl ⟨by rfl, ?_⟩) hHeld ?_ ?_
      rotate_left
      · rintro w' ⟨s0, s1, s2, s3, s4, s5, s6, s7⟩
        go_simp
        with_reducible rfl
      rotate_left
      · simp only [Act.put, List.setIfInBounds_toArray, List.set_cons_zero, List.set_cons_succ, iP, iY]
        rfl
      refine lQ (i := 14) (N := some 35) (v := ?_) (a' := ?_) #[true, true, true, true, true, true, true, true, true, true, true, true, true, true, true, true, false, false, false, false] rfl rfl (jL HT_.out HW_.out (by kernel_rfl)) (fun _ _ _ h => h) (Or.inl ⟨by rfl, ?_⟩) hHeld ?_ ?_
      rotate_left
      · rintro w' ⟨s0, s1, s2, s3, s4, s5, s6, s7⟩
        go_simp
        with_reducible rfl
      rotate_left
      · simp only [Act.put, List.setIfInBounds_toArray, List.set_cons_zero, List.set_cons_succ, iP, iY]
        rfl
      refine lQ (i := 16) (N := some 37) (v := ?_) (a' := ?_) #[true, true, true, true, true, true, true, true, true, true, true, true, true, true, true, true, true, false, false, false] rfl rfl (jL HT_.out HW_.out (by kernel_rfl)) (fun _ _ _ h => h) (Or.inl ⟨by rfl, ?_⟩) hHeld ?_ ?_
      rotate_left
      · rintro w' ⟨s0, s1, s2, s3, s4, s5, s6, s7⟩
        go_simp
        with_reducible rfl
      rotate_left
      · simp only [Act.put, List.setIfInBounds_toArray, List.set_cons_zero, List.set_cons_succ, iP, iY]
        rfl
      refine jF (i := 17) (N := some 38) (v := ?_) (a' := ?_) #[true, true, true, true, true, true, true, true, true, true, true, true, true, true, true, true, true, true, false, false] rfl rfl (iZ HT_.out (by kernel_rfl)) (fun _ _ _ h => h) (Or.inl ⟨by rfl, ?_⟩) ?_ ?_
      rotate_left
      · intro w'
        go_simp
        with_reducible rfl
      rotate_left
      · simp only [Act.put, List.setIfInBounds_toArray, List.set_cons_zero, List.set_cons_succ, iP, iY]
        rfl
      refine one_ (i := 18) (N := some 6) #[true, true, true, true, true, true, true, true, true, true, true, true, true, true, true, true, true, true, true, false] rfl rfl (kU HT_.out (by kernel_rfl)) (by decide) (fun K hK => ?_)
      refine jQ (w1 := ?_) (v := ?_) (by rfl) rfl ?_ ?_
      rotate_left 2
      · go_simp
        constructor
        · rfl
        · rfl
      refine hK.out _ _ ⟨(qL (w := W.drew) HK1.out), (qL (w := W.drew) ((iE HXR.out 1).trans rfl)), (qL (w := W.drew) ((iE HXR.out 2).trans rfl)), (qL (w := W.drew) ((iE HXR.out 3).trans rfl)), (qL (w := W.drew) ((iE HXR.out 4).trans rfl)), (qL (w := W.drew) ((iE HXR.out 7).trans rfl)), (qL (w := W.drew) ((iE HXR.out 8).trans rfl)), (qL (w := W.drew) ((iE HXR.out 9).trans rfl))⟩ (fun hHeld => ?_)
      clear hK K
      refine kY (a' := ?_) ?_ ?_
      rotate_left
      · show Act.put _ (some 6) _ = _
        simp only [Act.put, List.setIfInBounds_toArray, List.set_cons_zero, List.set_cons_succ, iP, iY]
        rfl
      refine QE (i := 19) (N := none) #[true, true, true, true, true, true, true, true, true, true, true, true, true, true, true, true, true, true, true, true] rfl rfl (kU HT_.out (by kernel_rfl)) (by decide) (fun K hK => ?_)
      refine NZ (w1 := ?_) (by rfl) rfl ?_ ?_
      rotate_left
      · go_simp
        rfl
      refine hK.out _ _ ?_
      clear hK K
      refine vW (mZ HT_.out (by kernel_rfl)) ?_
      have hbW : Below W.heap.size W (((W.alloc (.cells #[.int .u8 0, .int .u32 0, .int .u32 0, .slice none 0 0, .slice none 0 0, .int .i64 0, .int .i64 0, .slice none 0 0] 51)).drew).setRow W.heap.size #[.int .u8 (k8.toNat : Int), .int .u32 x.f1, .int .u32 x.f2, .slice A3 x.f3.length d3, .slice A4 x.f4.length d4, .int .i64 x.f6, .int .i64 x.f7, .slice A9 x.f8.length d9]) := below_grown (g := W.heap.size) (iJ (iF (Below.refl W.heap.size W) _)) (jC _ _ _) (Nat.le_refl _) (Nat.le_refl _)
      have hm2 : (((W.alloc (.cells #[.int .u8 0, .int .u32 0, .int .u32 0, .slice none 0 0, .slice none 0 0, .int .i64 0, .int .i64 0, .slice none 0 0] 51)).drew).setRow W.heap.size #[.int .u8 (k8.toNat : Int), .int .u32 x.f1, .int .u32 x.f2, .slice A3 x.f3.length d3, .slice A4 x.f4.length d4, .int .i64 x.f6, .int .i64 x.f7, .slice A9 x.f8.length d9]).heap[W.heap.size]? = some (.cells #[.int .u8 (k8.toNat : Int), .int .u32 x.f1, .int .u32 x.f2, .slice A3 x.f3.length d3, .slice A4 x.f4.length d4, .int .i64 x.f6, .int .i64 x.f7, .slice A9 x.f8.length d9] 51 (0, 0)) := setRow_heap _ _ _ _ _ _ (iT rfl)
      obtain ⟨W2, hW2⟩ : ∃ W2, W2 = ((W.alloc (.cells #[.int .u8 0, .int .u32 0, .int .u32 0, .slice none 0 0, .slice none 0 0, .int .i64 0, .int .i64 0, .slice none 0 0] 51)).drew).setRow W.heap.size #[.int .u8 (k8.toNat : Int), .int .u32 x.f1, .int .u32 x.f2, .slice A3 x.f3.length d3, .slice A4 x.f4.length d4, .int .i64 x.f6, .int .i64 x.f7, .slice A9 x.f8.length d9] := ⟨_, rfl⟩
      rw [← hW2] at hbW hm2 ⊢
      have HM2 := iD.mk hm2
      have HX2 := iD.mk (iM hbW HX1.out)
      have HB2 := iD.mk (iL HB1.out hbW)
      have HLM2 := iD.mk (HLM.out.below hbW)
      have HC3 := iD.mk (Kd.C_below HC1.out hbW)
      have HV2 := iD.mk (lF HV.out hbW)
      clear hbW hm2 hW2 hsn hHeld HT_ HW_ HX1 HB1 HLM HC1 HK1 HXR hgs HW
      obtain ⟨⟨E1, E2⟩, hEE⟩ : ∃ E : List Int × Int, encM (msgR k8.toNat x) = E := ⟨_, rfl⟩
      have hcs := O8 (msgR k8.toNat x)
      rw [hEE] at hR hcs
      have hcall := pK (msgR k8.toNat x) A3 d3 A4 d4 A9 d9 W2 HLM2.out ⟨by show (0 : Int) ≤ (k8.toNat : Int); omega, by show (k8.toNat : Int) < 256; omega⟩ hEE
      have HR := iD.mk hR
      clear hEE hR
      obtain ⟨z0, z1, z2, z3, z4, z5, z6, z7, y0, y1, y2, y3, y4, y5, y6, y7⟩ := eight HM2.out
      go_wp2_with fail
      go_at_call 28
      refine hcall.mono ?_
      rintro e w4 ⟨v0, rfl, h0, hb4⟩
      obtain ⟨A0, c0, rfl⟩ := Kd.R_slice h0
      obtain ⟨_, q0, C0⟩ := Kd.R_reads' h0
      have HM4 := iD.mk (iM hb4 HM2.out)
      have HX4 := iD.mk (iM hb4 HX2.out)
      have HB4 := iD.mk (iL HB2.out hb4)
      have HV4 := iD.mk (lF HV2.out hb4)
      have HC4 := iD.mk (oV (Kd.C_below HC3.out hb4))
      clear hcall hb4 h0 HM2 HX2 HB2 HLM2 HC3 z0 z1 z2 z3 z4 z5 z6 z7 y0 y1 y2 y3 y4 y5 y6 y7
      rcases hcs with hc2 | hc2 | ⟨hsd, hc2⟩
      · obtain ⟨rfl, rfl⟩ := Prod.mk.inj hc2
        have HDM := iD.mk (show decM (k8 :: t) = (lZ, 160) from HR.out.trans (if_neg (by intro h; injection h with _ h2; cases h2)))
        have hst := fun (_ : True) => rV rfl HX4.out
        clear C0 q0 hc2
        go_wp2
        ((try simp only [Exit.inBlock, Exit.then]); exact bodyPost_ret (qW rfl rfl rfl (setRow_heap _ _ _ _ _ _ HX4.out) rfl) rfl (by rw [HDM.out]; exact uS w _ HB4.out 160))
      · obtain ⟨rfl, rfl⟩ := Prod.mk.inj hc2
        have HDM := iD.mk (show decM (k8 :: t) = (lZ, 160) from HR.out.trans (if_neg (by intro h; injection h with _ h2; cases h2)))
        have hst := fun (_ : True) => rV rfl HX4.out
        clear C0 q0 hc2
        go_wp2
        ((try simp only [Exit.inBlock, Exit.then]); exact bodyPost_ret (qW rfl rfl rfl (setRow_heap _ _ _ _ _ _ HX4.out) rfl) rfl (by rw [HDM.out]; exact uS w _ HB4.out 160))
      · obtain ⟨rfl, rfl⟩ := Prod.mk.inj hc2
        have q0 : (nums (recE (recM (msgR k8.toNat x)))).length + 1 ≤ c0 := q0
        have hlen : (nums (k8 :: recE (recM (msgR k8.toNat x)))).length = (nums (recE (recM (msgR k8.toNat x)))).length + 1 := rfl
        have C0 : (Kd.int .u8).C w4 A0 (nums (k8 :: recE (recM (msgR k8.toNat x)))).length (nums (k8 :: recE (recM (msgR k8.toNat x)))) := C0
        have hcall := bytes_Equal.calls A0 c0 (nums (k8 :: recE (recM (msgR k8.toNat x)))) (some ad) c (nums (k8 :: t)) _ w4 C0 q0 (by rw [kH]; exact HC4.out) (by rw [kH]; simpa using hc) rfl
        rw [oM] at hcall
        obtain ⟨L, hL⟩ : ∃ L, L = recE (recM (msgR k8.toNat x)) := ⟨_, rfl⟩
        rw [← hL] at hcall
        have HLE := iD.mk hL
        rw [show (nums (k8 :: L)).length = (nums L).length + 1 from rfl, show (nums (k8 :: t)).length = t.length + 1 from by rw [kH]; rfl] at hcall
        simp only [List.length_cons, ← hL]
        clear hlen C0 q0 hc2 hsd hL
        by_cases hq : k8 :: L = k8 :: t
        · rw [decide_eq_true hq] at hcall
          have HDM := iD.mk (show decM (k8 :: t) = (msgR k8.toNat x, 0) from HR.out.trans (if_pos (by rw [← hq, HLE.out]; rfl)))
          clear hq
          go_wp2_with fail
          go_at_call 75
          refine hcall.mono ?_
          rintro e w5 ⟨rfl, hD⟩
          have hb5 := hD.below
          have HX5 := iD.mk (iM hb5 HX4.out)
          have hl5 := fun (_ : True) => XF (iM hb5 HM4.out) rfl
          have HB5 := iD.mk (iL HB4.out hb5)
          have HV5 := iD.mk (lF HV4.out hb5)
          obtain ⟨z0, z1, z2, z3, z4, z5, z6, z7, y0, y1, y2, y3, y4, y5, y6, y7⟩ := eight (iM hb5 HM4.out)
          have hst := fun (_ : True) => uJ (a := (k8.toNat : Int)) (k := x.f1) (i := x.f2) (x3 := .slice A3 x.f3.length d3) (x4 := .slice A4 x.f4.length d4) (p := x.f6) (q := x.f7) (x7 := .slice A9 x.f8.length d9) rfl HX5.out rfl rfl rfl
          clear hcall hD hb5
          go_wp2
          ((try simp only [Exit.inBlock, Exit.then]); refine bodyPost_ret (qW rfl rfl rfl (setRow_heap _ _ _ _ _ _ HX5.out) rfl) rfl ?_)
          rw [HDM.out]
          exact ⟨A3, d3, A4, d4, A9, d9, rfl, PV (kN HV5.out (jC _ w.heap.size _) HLT.out) _, below_grown HB5.out (jC _ w.heap.size _) (Nat.le_refl _) (Nat.le_refl _)⟩
        · rw [decide_eq_false hq] at hcall
          have HDM := iD.mk (show decM (k8 :: t) = (lZ, 160) from HR.out.trans (if_neg (by
            intro h
            injection h with h1 _
            apply hq
            rw [HLE.out]
            exact N8 h1)))
          clear hq
          go_wp2_with fail
          go_at_call 75
          refine hcall.mono ?_
          rintro e w5 ⟨rfl, hD⟩
          have HX5 := iD.mk (iM hD.below HX4.out)
          have HB5 := iD.mk (iL HB4.out hD.below)
          have hst := fun (_ : True) => rV rfl HX5.out
          clear hcall hD
          go_wp2
          ((try simp only [Exit.inBlock, Exit.then]); exact bodyPost_ret (qW rfl rfl rfl (setRow_heap _ _ _ _ _ _ HX5.out) rfl) rfl (by rw [HDM.out]; exact uS w _ HB5.out 160))
    · have HDM := iD.mk (U5 k8 t (by rw [HD.out]; exact hE))
      have hst := fun (_ : True) => rV rfl HX1.out
      go_wp2
      ((try simp only [Exit.inBlock, Exit.then]); exact bodyPost_ret (qW rfl rfl rfl (setRow_heap _ _ _ _ _ _ HX1.out) rfl) rfl (by rw [HDM.out]; exact uS w _ HB1.out 160))
end Go.Proofs.YtgfkgppomaapiaaDoor.K
end

section
namespace Go.Proofs.YtgfkgppomaapiaaDoor.K
open Go Go.RowKit Go.Proofs.YtgfkgppomaapiaaDoorW.PrintWords Go.Proofs.YtgfkgppomaapiaaDoorW.PrintLast Go.Proofs.YtgfkgppomaapiaaDoorW.PrintMore Go.Proofs.YtgfkgppomaapiaaDoor.My
theorem TR (a b : Int) : (Tryd.prog).built 51 (#[(0, .int .u8 a), (1, .int .u32 b)] : Array (Nat × Value)).toList = some #[.int .u8 a, .int .u32 b, .int .u32 0, .slice none 0 0, .slice none 0 0, .int .i64 0, .int .i64 0, .slice none 0 0] := by kernel_rfl
theorem WY (w : World) (a b : Int) : (Instr.build 51 #[(0, .int .u8 a), (1, .int .u32 b)]).run Tryd.prog w = .ok (.agg #[.int .u8 a, .int .u32 b, .int .u32 0, .slice none 0 0, .slice none 0 0, .int .i64 0, .int .i64 0, .slice none 0 0]) w := run_build w _ _ _ (TR a b)
/-- A message with no more than a number. -/
theorem O5 (w : World) (k i a : Int) : pG w ⟨k, i, a, [], [], 0, 0, []⟩ none 0 none 0 none 0 := ⟨Kd.C_nil _ _, Nat.le_refl _, Kd.C_nil _ _, Nat.le_refl _, Kd.C_nil _ _, Nat.le_refl _⟩
attribute [-go_sem] Instr.build Instr.storeAt
attribute [local go_sem] WY
set_option maxRecDepth 20000 in
set_option maxHeartbeats 8000000 in
theorem uV (w : World) : Calls Tryd.prog 25 #[] w fun e w' => e = .returned (.bool true) ∧ Below w.heap.size w w' := by
  have henc : Calls Tryd.prog 28 #[.agg #[.int .u8 2, .int .u32 5, .int .u32 0, .slice none 0 0, .slice none 0 0, .int .i64 0, .int .i64 0, .slice none 0 0]] w _ := pK pM none 0 none 0 none 0 w (O5 w 2 5 0) (by decide) OT
  go_enter Tryd.func25, Tryd.ntmps25
  go_wp2_with fail
  go_at_call 28
  refine henc.mono ?_
  rintro e w1 ⟨v0, rfl, h0, hB⟩
  clear henc
  obtain ⟨A0, d0, rfl⟩ := Kd.R_slice h0
  obtain ⟨_, q0, C0⟩ := Kd.R_reads' h0
  have q0 : 6 ≤ d0 := q0
  have C0 : (Kd.int .u8).C w1 A0 6 (nums [2, 4, 0, 0, 0, 5]) := C0
  simp only [show (nums [2, 4, 0, 0, 0, 5]).length = 6 from rfl]
  have HB := iD.mk hB
  have HC := iD.mk C0
  have hdec : Calls Tryd.prog 32 #[.slice A0 6 d0] w1 (uT w1 (decM [2, 4, 0, 0, 0, 5])) := yC A0 d0 [2, 4, 0, 0, 0, 5] w1 C0 q0
  rw [NQ] at hdec
  clear h0 hB C0
  go_wp2_with fail
  go_at_call 32
  refine hdec.mono ?_
  rintro e w2 ⟨A3, d3, A4, d4, A9, d9, rfl, hL, hB⟩
  clear hdec
  have hbw : Below w2.heap.size w2 (w2.alloc (.cells #[.int .u8 2, .int .u32 5, .int .u32 0, .slice A3 0 d3, .slice A4 0 d4, .int .i64 0, .int .i64 0, .slice A9 0 d9] 51)) := iF (Below.refl _ _) _
  have hbv : Below w2.heap.size w2 ((w2.alloc (.cells #[.int .u8 2, .int .u32 5, .int .u32 0, .slice A3 0 d3, .slice A4 0 d4, .int .i64 0, .int .i64 0, .slice A9 0 d9] 51)).alloc (.cells #[.int .u8 99] 5)) := iF hbw _
  have HB2 := iD.mk (HB.out.trans ((hB.trans (hbv.mono hB.size)).mono HB.out.size))
  have HC2 := iD.mk (Kd.C_below HC.out (hB.trans (hbv.mono hB.size)))
  have HL2 := iD.mk (hL.below hbv)
  have HX2 := iD.mk (show ((w2.alloc (.cells #[.int .u8 2, .int .u32 5, .int .u32 0, .slice A3 0 d3, .slice A4 0 d4, .int .i64 0, .int .i64 0, .slice A9 0 d9] 51)).alloc (.cells #[.int .u8 99] 5)).heap[w2.heap.size]? = some (.cells #[.int .u8 2, .int .u32 5, .int .u32 0, .slice A3 0 d3, .slice A4 0 d4, .int .i64 0, .int .i64 0, .slice A9 0 d9] 51 (0, 0)) from jH (iT rfl))
  have hsx := fun (_ : True) => run_storeAt_new (P := Tryd.prog) w2 51 #[.int .u8 0, .int .u32 0, .int .u32 0, .slice none 0 0, .slice none 0 0, .int .i64 0, .int .i64 0, .slice none 0 0] #[.int .u8 2, .int .u32 5, .int .u32 0, .slice A3 0 d3, .slice A4 0 d4, .int .i64 0, .int .i64 0, .slice A9 0 d9] (by kernel_rfl) rfl (by simp [Value.oneCell'])
  have hdec := yC (some ⟨w2.heap.size + 1, 0, none⟩) 1 [99] ((w2.alloc (.cells #[.int .u8 2, .int .u32 5, .int .u32 0, .slice A3 0 d3, .slice A4 0 d4, .int .i64 0, .int .i64 0, .slice A9 0 d9] 51)).alloc (.cells #[.int .u8 99] 5)) (oV (XA (by simp) rfl (by decide) (by rfl))) (Nat.le_refl _)
  rw [O4] at hdec
  simp only [List.length_cons, List.length_nil, Nat.zero_add] at hdec
  clear hL hB hbw hbv
  simp only [pM, List.length_nil]
  go_wp2_with fail
  go_at_call 32
  refine hdec.mono ?_
  rintro e w3 ⟨B3, e3, B4, e4, B9, e9, rfl, hL3, hB⟩
  clear hdec hsx
  have hbw : Below w3.heap.size w3 (w3.alloc (.cells #[.int .u8 0, .int .u32 0, .int .u32 0, .slice B3 0 e3, .slice B4 0 e4, .int .i64 0, .int .i64 0, .slice B9 0 e9] 51)) := iF (Below.refl _ _) _
  have hb' := hB.trans (hbw.mono hB.size)
  have HB3 := iD.mk (HB2.out.trans (hb'.mono HB2.out.size))
  have hcv := fun (_ : True) => LZ (c := d0) (qV (n := 6) (l := [2, 4, 0, 0, 0, 5]) (Kd.C_below HC2.out hb'))
  have hsx := fun (_ : True) => run_storeAt_new (P := Tryd.prog) w3 51 #[.int .u8 0, .int .u32 0, .int .u32 0, .slice none 0 0, .slice none 0 0, .int .i64 0, .int .i64 0, .slice none 0 0] #[.int .u8 0, .int .u32 0, .int .u32 0, .slice B3 0 e3, .slice B4 0 e4, .int .i64 0, .int .i64 0, .slice B9 0 e9] (by kernel_rfl) rfl (by simp [Value.oneCell'])
  obtain ⟨z0, z1, z2, z3, z4, z5, z6, z7, y0, y1, y2, y3, y4, y5, y6, y7⟩ := eight (iM hb' HX2.out)
  have hsd := zN pM A3 d3 A4 d4 A9 d9 _ (HL2.out.below hb')
  rw [JD] at hsd
  simp only [pM, List.length_nil] at hsd
  clear hB hb' hbw hL3
  simp only [lZ, List.length_nil]
  have hbl : True → (bs [2, 4, 0, 0, 0, 5]).toList = [2, 4, 0, 0, 0, 5] := fun _ => jO _
  go_wp2_with fail
  go_at_call 30
  refine hsd.mono ?_
  rintro e w4 ⟨rfl, hB⟩
  have HB4 := iD.mk (HB3.out.trans (hB.mono HB3.out.size))
  clear hsd hB
  go_wp2
  go_ret
  exact ⟨rfl, HB4.out⟩
end Go.Proofs.YtgfkgppomaapiaaDoor.K
end

section
namespace Go.Proofs.YtgfkgppomaapiaaDoor.K
open Go Go.RowKit Go.Proofs.YtgfkgppomaapiaaDoorW.PrintWords Go.Proofs.YtgfkgppomaapiaaDoorW.PrintLast Go.Proofs.YtgfkgppomaapiaaDoorW.PrintMore Go.Proofs.YtgfkgppomaapiaaDoor.My
def oC (k : Int) : Int := if k = 1 then 1 else if k = 4 then 2 else if k = 8 then 7 else if k = 9 then 7 else if k = 10 then 7 else 4
/-- The document's record of a message. -/
def recR (m : SMsg) : SRec := ⟨oC m.f0, m.f1, m.f2, m.f3, m.f4, ⟨0, []⟩, m.f5, m.f6, m.f7⟩
theorem VU (k : Int) (h : 1 ≤ k ∧ k ≤ 11) : oC k = mY k := by
  unfold oC mY
  (repeat' split) <;> omega
theorem st_0 {w : World} {b : Nat} {c0 c1 c2 c3 c4 c5 c6 c7 c8 c9 : Value} (x : Int) (h : w.heap[b]? = some (.cells #[c0, c1, c2, c3, c4, c5, c6, c7, c8, c9] 30 (0, 0))) : (Instr.storeAt 5 (.pointer (some ⟨b, 0, none⟩)) (.int .u8 x)).run Tryd.prog w = .ok () (w.setRow b #[.int .u8 x, c1, c2, c3, c4, c5, c6, c7, c8, c9]) := by
  have z : w.cell? ⟨b, 0, none⟩ = some c0 := (iE h 0).trans rfl
  have y : w.frozen? ⟨b, 0, none⟩ = false := iC h 0
  rw [show w.setRow b #[.int .u8 x, c1, c2, c3, c4, c5, c6, c7, c8, c9] = w.setCell ⟨b, 0, none⟩ (.int .u8 x) from (setCell_eq_setRow w b 0 _ _ _ (.int .u8 x) h).symm]
  simp [go_sem, z, y]
theorem qX {tmps : Array Value} {W : World} {p : Tmp} {b : Nat} {cs : Array Value} (h : Tryd.f82.results = #[.cell p 30]) (hp : tmps.getD p undef = .pointer (some ⟨b, 0, none⟩)) (hx : W.heap[b]? = some (.cells cs 30 (0, 0))) (hs : cs.size = 10) :
    (results Tryd.f82 tmps).run Tryd.prog W = .ok (.agg cs) W := by
  exact results_cell_row h _ _ _ _ _ _ _ hp hx Tryd.underlying30 rfl (by rw [hs]; kernel_rfl)
attribute [-go_sem] Instr.build Instr.storeAt
attribute [local go_sem] PN
set_option maxRecDepth 20000 in
set_option maxHeartbeats 16000000 in
theorem xQ (k i a p q : Int) (A3 : Option Addr) (n3 c3 : Nat) (A4 : Option Addr) (n4 c4 : Nat) (A9 : Option Addr) (n9 c9 : Nat) (w : World) :
    Calls Tryd.prog 82 #[.agg #[.int .u8 k, .int .u32 i, .int .u32 a, .slice A3 n3 c3, .slice A4 n4 c4, .int .i64 p, .int .i64 q, .slice A9 n9 c9]] w fun e w' => e = .returned (.agg #[.int .u8 (oC k), .int .u32 i, .int .u32 a, .slice A3 n3 c3, .slice A4 n4 c4, .int .u32 0, .slice none 0 0, .int .i64 p, .int .i64 q, .slice A9 n9 c9]) ∧ Below w.heap.size w w' := by
  obtain ⟨W0, hW0⟩ : ∃ W0, W0 = ((w.alloc (.cells #[.int .u8 k, .int .u32 i, .int .u32 a, .slice A3 n3 c3, .slice A4 n4 c4, .int .i64 p, .int .i64 q, .slice A9 n9 c9] 51)).alloc (.cells #[.int .u8 0, .int .u32 0, .int .u32 0, .slice none 0 0, .slice none 0 0, .int .u32 0, .slice none 0 0, .int .i64 0, .int .i64 0, .slice none 0 0] 30)) := ⟨_, rfl⟩
  have hs0 : W0.heap.size = w.heap.size + 1 + 1 := by rw [hW0]; simp
  have hsx := fun (_ : True) => run_storeAt_new (P := Tryd.prog) W0 30 #[.int .u8 0, .int .u32 0, .int .u32 0, .slice none 0 0, .slice none 0 0, .int .u32 0, .slice none 0 0, .int .i64 0, .int .i64 0, .slice none 0 0] #[.int .u8 4, .int .u32 i, .int .u32 a, .slice A3 n3 c3, .slice A4 n4 c4, .int .u32 0, .slice none 0 0, .int .i64 p, .int .i64 q, .slice A9 n9 c9] (by kernel_rfl) rfl (by simp [Value.oneCell'])
  rw [hs0] at hsx
  obtain ⟨W1, hW1⟩ : ∃ W1, W1 = W0.alloc (.cells #[.int .u8 4, .int .u32 i, .int .u32 a, .slice A3 n3 c3, .slice A4 n4 c4, .int .u32 0, .slice none 0 0, .int .i64 p, .int .i64 q, .slice A9 n9 c9] 30) := ⟨_, rfl⟩
  have HR := iD.mk (show W1.heap[w.heap.size + 1 + 1]? = some (.cells #[.int .u8 4, .int .u32 i, .int .u32 a, .slice A3 n3 c3, .slice A4 n4 c4, .int .u32 0, .slice none 0 0, .int .i64 p, .int .i64 q, .slice A9 n9 c9] 30 (0, 0)) from by rw [hW1]; exact iT hs0.symm)
  have HZ := iD.mk (show W1.heap[w.heap.size + 1]? = some (.cells #[.int .u8 0, .int .u32 0, .int .u32 0, .slice none 0 0, .slice none 0 0, .int .u32 0, .slice none 0 0, .int .i64 0, .int .i64 0, .slice none 0 0] 30 (0, 0)) from by rw [hW1, hW0]; exact jH (iT (by simp)))
  have HB := iD.mk (show Below w.heap.size w W1 from by rw [hW1, hW0]; exact iF (iF (iF (Below.refl _ _) _) _) _)
  obtain ⟨z0, z1, z2, z3, z4, z5, z6, z7, y0, y1, y2, y3, y4, y5, y6, y7⟩ := eight (show W0.heap[w.heap.size]? = some (.cells #[.int .u8 k, .int .u32 i, .int .u32 a, .slice A3 n3 c3, .slice A4 n4 c4, .int .i64 p, .int .i64 q, .slice A9 n9 c9] 51 (0, 0)) from by rw [hW0]; exact jH (iT rfl))
  obtain ⟨x0, x1, x2, x3, x4, x5, x6, x7, _⟩ := eight (show W1.heap[w.heap.size]? = some (.cells #[.int .u8 k, .int .u32 i, .int .u32 a, .slice A3 n3 c3, .slice A4 n4 c4, .int .i64 p, .int .i64 q, .slice A9 n9 c9] 51 (0, 0)) from by rw [hW1, hW0]; exact jH (jH (iT rfl)))
  clear hs0 x1 x2 x3 x4 x5 x6 x7
  by_cases h1 : k = 1
  · subst h1
    have hk : oC 1 = 1 := rfl
    (have hset := fun (_ : True) => st_0 (1) HR.out; have HR2 := iD.mk (setRow_heap _ _ _ #[.int .u8 1, .int .u32 i, .int .u32 a, .slice A3 n3 c3, .slice A4 n4 c4, .int .u32 0, .slice none 0 0, .int .i64 p, .int .i64 q, .slice A9 n9 c9] _ _ HR.out); have HZ2 := iD.mk ((setRow_other W1 (w.heap.size + 1 + 1) (w.heap.size + 1) #[.int .u8 1, .int .u32 i, .int .u32 a, .slice A3 n3 c3, .slice A4 n4 c4, .int .u32 0, .slice none 0 0, .int .i64 p, .int .i64 q, .slice A9 n9 c9] (by omega)).trans HZ.out); have HB2 := iD.mk (show Below w.heap.size w (W1.setRow (w.heap.size + 1 + 1) #[.int .u8 1, .int .u32 i, .int .u32 a, .slice A3 n3 c3, .slice A4 n4 c4, .int .u32 0, .slice none 0 0, .int .i64 p, .int .i64 q, .slice A9 n9 c9]) from below_grown (g := w.heap.size + 1 + 1) HB.out (jC _ _ _) (by omega) (Nat.le_refl _)); have hld := fun (_ : True) => mM HR2.out rfl; have hst := fun (_ : True) => nD (a := 1) (k := i) (i := a) (x3 := .slice A3 n3 c3) (x4 := .slice A4 n4 c4) (j := 0) (x6 := .slice none 0 0) (p := p) (q := q) (x9 := .slice A9 n9 c9) HZ2.out rfl rfl rfl rfl; obtain ⟨xz0, xz1, xz2, xz3, xz4, xz5, xz6, xz7, xz8, xz9, xy0, xy1, xy2, xy3, xy4, xy5, xy6, xy7, xy8, xy9⟩ := ten HR2.out; clear HR HZ HB hld; subst hW1; subst hW0; go_enter Tryd.func82, Tryd.ntmps82; go_wp2; ((try simp only [Exit.inBlock, Exit.then]); exact bodyPost_ret (qX rfl rfl (setRow_heap _ _ _ _ _ _ HZ2.out) rfl) rfl ⟨by rw [hk], below_grown (g := w.heap.size + 1) HB2.out (jC _ _ _) (Nat.le_succ _) (Nat.le_refl _)⟩))
  by_cases h4 : k = 4
  · subst h4
    have hk : oC 4 = 2 := rfl
    (have hset := fun (_ : True) => st_0 (2) HR.out; have HR2 := iD.mk (setRow_heap _ _ _ #[.int .u8 2, .int .u32 i, .int .u32 a, .slice A3 n3 c3, .slice A4 n4 c4, .int .u32 0, .slice none 0 0, .int .i64 p, .int .i64 q, .slice A9 n9 c9] _ _ HR.out); have HZ2 := iD.mk ((setRow_other W1 (w.heap.size + 1 + 1) (w.heap.size + 1) #[.int .u8 2, .int .u32 i, .int .u32 a, .slice A3 n3 c3, .slice A4 n4 c4, .int .u32 0, .slice none 0 0, .int .i64 p, .int .i64 q, .slice A9 n9 c9] (by omega)).trans HZ.out); have HB2 := iD.mk (show Below w.heap.size w (W1.setRow (w.heap.size + 1 + 1) #[.int .u8 2, .int .u32 i, .int .u32 a, .slice A3 n3 c3, .slice A4 n4 c4, .int .u32 0, .slice none 0 0, .int .i64 p, .int .i64 q, .slice A9 n9 c9]) from below_grown (g := w.heap.size + 1 + 1) HB.out (jC _ _ _) (by omega) (Nat.le_refl _)); have hld := fun (_ : True) => mM HR2.out rfl; have hst := fun (_ : True) => nD (a := 2) (k := i) (i := a) (x3 := .slice A3 n3 c3) (x4 := .slice A4 n4 c4) (j := 0) (x6 := .slice none 0 0) (p := p) (q := q) (x9 := .slice A9 n9 c9) HZ2.out rfl rfl rfl rfl; obtain ⟨xz0, xz1, xz2, xz3, xz4, xz5, xz6, xz7, xz8, xz9, xy0, xy1, xy2, xy3, xy4, xy5, xy6, xy7, xy8, xy9⟩ := ten HR2.out; clear HR HZ HB hld; subst hW1; subst hW0; go_enter Tryd.func82, Tryd.ntmps82; go_wp2; ((try simp only [Exit.inBlock, Exit.then]); exact bodyPost_ret (qX rfl rfl (setRow_heap _ _ _ _ _ _ HZ2.out) rfl) rfl ⟨by rw [hk], below_grown (g := w.heap.size + 1) HB2.out (jC _ _ _) (Nat.le_succ _) (Nat.le_refl _)⟩))
  by_cases h8 : k = 8
  · subst h8
    have hk : oC 8 = 7 := rfl
    (have hset := fun (_ : True) => st_0 (7) HR.out; have HR2 := iD.mk (setRow_heap _ _ _ #[.int .u8 7, .int .u32 i, .int .u32 a, .slice A3 n3 c3, .slice A4 n4 c4, .int .u32 0, .slice none 0 0, .int .i64 p, .int .i64 q, .slice A9 n9 c9] _ _ HR.out); have HZ2 := iD.mk ((setRow_other W1 (w.heap.size + 1 + 1) (w.heap.size + 1) #[.int .u8 7, .int .u32 i, .int .u32 a, .slice A3 n3 c3, .slice A4 n4 c4, .int .u32 0, .slice none 0 0, .int .i64 p, .int .i64 q, .slice A9 n9 c9] (by omega)).trans HZ.out); have HB2 := iD.mk (show Below w.heap.size w (W1.setRow (w.heap.size + 1 + 1) #[.int .u8 7, .int .u32 i, .int .u32 a, .slice A3 n3 c3, .slice A4 n4 c4, .int .u32 0, .slice none 0 0, .int .i64 p, .int .i64 q, .slice A9 n9 c9]) from below_grown (g := w.heap.size + 1 + 1) HB.out (jC _ _ _) (by omega) (Nat.le_refl _)); have hld := fun (_ : True) => mM HR2.out rfl; have hst := fun (_ : True) => nD (a := 7) (k := i) (i := a) (x3 := .slice A3 n3 c3) (x4 := .slice A4 n4 c4) (j := 0) (x6 := .slice none 0 0) (p := p) (q := q) (x9 := .slice A9 n9 c9) HZ2.out rfl rfl rfl rfl; obtain ⟨xz0, xz1, xz2, xz3, xz4, xz5, xz6, xz7, xz8, xz9, xy0, xy1, xy2, xy3, xy4, xy5, xy6, xy7, xy8, xy9⟩ := ten HR2.out; clear HR HZ HB hld; subst hW1; subst hW0; go_enter Tryd.func82, Tryd.ntmps82; go_wp2; ((try simp only [Exit.inBlock, Exit.then]); exact bodyPost_ret (qX rfl rfl (setRow_heap _ _ _ _ _ _ HZ2.out) rfl) rfl ⟨by rw [hk], below_grown (g := w.heap.size + 1) HB2.out (jC _ _ _) (Nat.le_succ _) (Nat.le_refl _)⟩))
  by_cases h9 : k = 9
  · subst h9
    have hk : oC 9 = 7 := rfl
    (have hset := fun (_ : True) => st_0 (7) HR.out; have HR2 := iD.mk (setRow_heap _ _ _ #[.int .u8 7, .int .u32 i, .int .u32 a, .slice A3 n3 c3, .slice A4 n4 c4, .int .u32 0, .slice none 0 0, .int .i64 p, .int .i64 q, .slice A9 n9 c9] _ _ HR.out); have HZ2 := iD.mk ((setRow_other W1 (w.heap.size + 1 + 1) (w.heap.size + 1) #[.int .u8 7, .int .u32 i, .int .u32 a, .slice A3 n3 c3, .slice A4 n4 c4, .int .u32 0, .slice none 0 0, .int .i64 p, .int .i64 q, .slice A9 n9 c9] (by omega)).trans HZ.out); have HB2 := iD.mk (show Below w.heap.size w (W1.setRow (w.heap.size + 1 + 1) #[.int .u8 7, .int .u32 i, .int .u32 a, .slice A3 n3 c3, .slice A4 n4 c4, .int .u32 0, .slice none 0 0, .int .i64 p, .int .i64 q, .slice A9 n9 c9]) from below_grown (g := w.heap.size + 1 + 1) HB.out (jC _ _ _) (by omega) (Nat.le_refl _)); have hld := fun (_ : True) => mM HR2.out rfl; have hst := fun (_ : True) => nD (a := 7) (k := i) (i := a) (x3 := .slice A3 n3 c3) (x4 := .slice A4 n4 c4) (j := 0) (x6 := .slice none 0 0) (p := p) (q := q) (x9 := .slice A9 n9 c9) HZ2.out rfl rfl rfl rfl; obtain ⟨xz0, xz1, xz2, xz3, xz4, xz5, xz6, xz7, xz8, xz9, xy0, xy1, xy2, xy3, xy4, xy5, xy6, xy7, xy8, xy9⟩ := ten HR2.out; clear HR HZ HB hld; subst hW1; subst hW0; go_enter Tryd.func82, Tryd.ntmps82; go_wp2; ((try simp only [Exit.inBlock, Exit.then]); exact bodyPost_ret (qX rfl rfl (setRow_heap _ _ _ _ _ _ HZ2.out) rfl) rfl ⟨by rw [hk], below_grown (g := w.heap.size + 1) HB2.out (jC _ _ _) (Nat.le_succ _) (Nat.le_refl _)⟩))
  by_cases h10 : k = 10
  · subst h10
    have hk : oC 10 = 7 := rfl
    (have hset := fun (_ : True) => st_0 (7) HR.out; have HR2 := iD.mk (setRow_heap _ _ _ #[.int .u8 7, .int .u32 i, .int .u32 a, .slice A3 n3 c3, .slice A4 n4 c4, .int .u32 0, .slice none 0 0, .int .i64 p, .int .i64 q, .slice A9 n9 c9] _ _ HR.out); have HZ2 := iD.mk ((setRow_other W1 (w.heap.size + 1 + 1) (w.heap.size + 1) #[.int .u8 7, .int .u32 i, .int .u32 a, .slice A3 n3 c3, .slice A4 n4 c4, .int .u32 0, .slice none 0 0, .int .i64 p, .int .i64 q, .slice A9 n9 c9] (by omega)).trans HZ.out); have HB2 := iD.mk (show Below w.heap.size w (W1.setRow (w.heap.size + 1 + 1) #[.int .u8 7, .int .u32 i, .int .u32 a, .slice A3 n3 c3, .slice A4 n4 c4, .int .u32 0, .slice none 0 0, .int .i64 p, .int .i64 q, .slice A9 n9 c9]) from below_grown (g := w.heap.size + 1 + 1) HB.out (jC _ _ _) (by omega) (Nat.le_refl _)); have hld := fun (_ : True) => mM HR2.out rfl; have hst := fun (_ : True) => nD (a := 7) (k := i) (i := a) (x3 := .slice A3 n3 c3) (x4 := .slice A4 n4 c4) (j := 0) (x6 := .slice none 0 0) (p := p) (q := q) (x9 := .slice A9 n9 c9) HZ2.out rfl rfl rfl rfl; obtain ⟨xz0, xz1, xz2, xz3, xz4, xz5, xz6, xz7, xz8, xz9, xy0, xy1, xy2, xy3, xy4, xy5, xy6, xy7, xy8, xy9⟩ := ten HR2.out; clear HR HZ HB hld; subst hW1; subst hW0; go_enter Tryd.func82, Tryd.ntmps82; go_wp2; ((try simp only [Exit.inBlock, Exit.then]); exact bodyPost_ret (qX rfl rfl (setRow_heap _ _ _ _ _ _ HZ2.out) rfl) rfl ⟨by rw [hk], below_grown (g := w.heap.size + 1) HB2.out (jC _ _ _) (Nat.le_succ _) (Nat.le_refl _)⟩))
  · have hk : oC k = 4 := by unfold oC; simp [h1, h4, h8, h9, h10]
    have hld := fun (_ : True) => mM HR.out rfl
    have hst := fun (_ : True) => nD (a := 4) (k := i) (i := a) (x3 := .slice A3 n3 c3) (x4 := .slice A4 n4 c4) (j := 0) (x6 := .slice none 0 0) (p := p) (q := q) (x9 := .slice A9 n9 c9) HZ.out rfl rfl rfl rfl
    clear HR
    subst hW1
    subst hW0
    go_enter Tryd.func82, Tryd.ntmps82
    go_wp2
    ((try simp only [Exit.inBlock, Exit.then]); exact bodyPost_ret (qX rfl rfl (setRow_heap _ _ _ _ _ _ HZ.out) rfl) rfl ⟨by rw [hk], below_grown (g := w.heap.size + 1) HB.out (jC _ _ _) (Nat.le_succ _) (Nat.le_refl _)⟩)
end Go.Proofs.YtgfkgppomaapiaaDoor.K
end

section
namespace Go.Proofs.YtgfkgppomaapiaaDoor.K
open Go Go.RowKit Go.Proofs.YtgfkgppomaapiaaDoorW.PrintWords Go.Proofs.YtgfkgppomaapiaaDoorW.PrintLast Go.Proofs.YtgfkgppomaapiaaDoorW.PrintMore Go.Proofs.YtgfkgppomaapiaaDoor.My
theorem pG.rlies {w : World} {m : SMsg} {A3 A4 A9 : Option Addr} {a3 a4 a9 : Nat} (h : pG w m A3 a3 A4 a4 A9 a9) : Lies w (recR m) A3 a3 A4 a4 none 0 A9 a9 := ⟨h.h3, h.d3, h.h4, h.d4, Kd.C_nil _ _, Nat.le_refl _, h.h9, h.d9⟩
set_option maxRecDepth 20000 in
set_option maxHeartbeats 8000000 in
theorem UD (m q : SMsg) (hk : m.f0 = q.f0) (A3 : Option Addr) (a3 : Nat) (A4 : Option Addr) (a4 : Nat) (A9 : Option Addr) (a9 : Nat) (B3 : Option Addr) (b3 : Nat) (B4 : Option Addr) (b4 : Nat) (B9 : Option Addr) (b9 : Nat) (w : World) (ha : pG w m A3 a3 A4 a4 A9 a9) (hb : pG w q B3 b3 B4 b4 B9 b9)
    {t : Bool} (ht : ∃ k, stratumref07_Same.f k (recR m).f0 (recR m).f1 (recR m).f2 (recR m).f3 (recR m).f4 (recR m).f5.f0 (recR m).f5.f1 (recR m).f6 (recR m).f7 (recR m).f8 (recR q).f0 (recR q).f1 (recR q).f2 (recR q).f3 (recR q).f4 (recR q).f5.f0 (recR q).f5.f1 (recR q).f6 (recR q).f7 (recR q).f8 = some t) :
    Calls Tryd.prog 34 #[.agg #[.int .u8 m.f0, .int .u32 m.f1, .int .u32 m.f2, .slice A3 m.f3.length a3, .slice A4 m.f4.length a4, .int .i64 m.f5, .int .i64 m.f6, .slice A9 m.f7.length a9], .agg #[.int .u8 q.f0, .int .u32 q.f1, .int .u32 q.f2, .slice B3 q.f3.length b3, .slice B4 q.f4.length b4, .int .i64 q.f5, .int .i64 q.f6, .slice B9 q.f7.length b9]] w fun e w' => e = .returned (.bool t) ∧ Below w.heap.size w w' := by
  have hbw : Below w.heap.size w ((w.alloc (.cells #[.int .u8 m.f0, .int .u32 m.f1, .int .u32 m.f2, .slice A3 m.f3.length a3, .slice A4 m.f4.length a4, .int .i64 m.f5, .int .i64 m.f6, .slice A9 m.f7.length a9] 51)).alloc (.cells #[.int .u8 q.f0, .int .u32 q.f1, .int .u32 q.f2, .slice B3 q.f3.length b3, .slice B4 q.f4.length b4, .int .i64 q.f5, .int .i64 q.f6, .slice B9 q.f7.length b9] 51)) := iF (iF (Below.refl _ _) _) _
  have HA := iD.mk (ha.below hbw)
  have HBB := iD.mk (hb.below hbw)
  have HX := iD.mk (show ((w.alloc (.cells #[.int .u8 m.f0, .int .u32 m.f1, .int .u32 m.f2, .slice A3 m.f3.length a3, .slice A4 m.f4.length a4, .int .i64 m.f5, .int .i64 m.f6, .slice A9 m.f7.length a9] 51)).alloc (.cells #[.int .u8 q.f0, .int .u32 q.f1, .int .u32 q.f2, .slice B3 q.f3.length b3, .slice B4 q.f4.length b4, .int .i64 q.f5, .int .i64 q.f6, .slice B9 q.f7.length b9] 51)).heap[w.heap.size]? = some (.cells #[.int .u8 m.f0, .int .u32 m.f1, .int .u32 m.f2, .slice A3 m.f3.length a3, .slice A4 m.f4.length a4, .int .i64 m.f5, .int .i64 m.f6, .slice A9 m.f7.length a9] 51 (0, 0)) from jH (iT rfl))
  have HY := iD.mk (show ((w.alloc (.cells #[.int .u8 m.f0, .int .u32 m.f1, .int .u32 m.f2, .slice A3 m.f3.length a3, .slice A4 m.f4.length a4, .int .i64 m.f5, .int .i64 m.f6, .slice A9 m.f7.length a9] 51)).alloc (.cells #[.int .u8 q.f0, .int .u32 q.f1, .int .u32 q.f2, .slice B3 q.f3.length b3, .slice B4 q.f4.length b4, .int .i64 q.f5, .int .i64 q.f6, .slice B9 q.f7.length b9] 51)).heap[w.heap.size + 1]? = some (.cells #[.int .u8 q.f0, .int .u32 q.f1, .int .u32 q.f2, .slice B3 q.f3.length b3, .slice B4 q.f4.length b4, .int .i64 q.f5, .int .i64 q.f6, .slice B9 q.f7.length b9] 51 (0, 0)) from iT (by simp))
  have HB := iD.mk hbw
  have HT := iD.mk ht
  have HK := iD.mk hk
  clear ha hb hbw ht hk
  go_enter Tryd.func34, Tryd.ntmps34
  go_wp2
  generalize ((w.alloc (.cells #[.int .u8 m.f0, .int .u32 m.f1, .int .u32 m.f2, .slice A3 m.f3.length a3, .slice A4 m.f4.length a4, .int .i64 m.f5, .int .i64 m.f6, .slice A9 m.f7.length a9] 51)).alloc (.cells #[.int .u8 q.f0, .int .u32 q.f1, .int .u32 q.f2, .slice B3 q.f3.length b3, .slice B4 q.f4.length b4, .int .i64 q.f5, .int .i64 q.f6, .slice B9 q.f7.length b9] 51)) = W at HA HBB HX HY HB ⊢
  have hkk : (m.f0 == q.f0) = true := by rw [HK.out]; simp
  refine QZ [5, 6, 7, 8, 9, 10, 11, 12, 13, 14, 15, 16, 4] [fun v _ => v = (.pointer (some ⟨w.heap.size, 0, none⟩)), fun v _ => v = (.int .u8 m.f0), fun v _ => v = (.pointer (some ⟨w.heap.size + 1, 0, none⟩)), fun v _ => v = (.int .u8 q.f0), fun v _ => v = (.bool true), fun v _ => v = (.bool true), fun v _ => v = (.agg #[.int .u8 m.f0, .int .u32 m.f1, .int .u32 m.f2, .slice A3 m.f3.length a3, .slice A4 m.f4.length a4, .int .i64 m.f5, .int .i64 m.f6, .slice A9 m.f7.length a9]), fun v _ => v = (.agg #[.int .u8 (oC m.f0), .int .u32 m.f1, .int .u32 m.f2, .slice A3 m.f3.length a3, .slice A4 m.f4.length a4, .int .u32 0, .slice none 0 0, .int .i64 m.f5, .int .i64 m.f6, .slice A9 m.f7.length a9]), fun v _ => v = (.agg #[.int .u8 q.f0, .int .u32 q.f1, .int .u32 q.f2, .slice B3 q.f3.length b3, .slice B4 q.f4.length b4, .int .i64 q.f5, .int .i64 q.f6, .slice B9 q.f7.length b9]), fun v _ => v = (.agg #[.int .u8 (oC q.f0), .int .u32 q.f1, .int .u32 q.f2, .slice B3 q.f3.length b3, .slice B4 q.f4.length b4, .int .u32 0, .slice none 0 0, .int .i64 q.f5, .int .i64 q.f6, .slice B9 q.f7.length b9]), fun v _ => v = (.bool t), fun v _ => v = (.bool t), fun v _ => v = (.bool t)] [0, 1, 2, 3, 4, 5, 6, 7, 8, 9, 10, 11, 12] (true, [([], []), ([0], [0]), ([], []), ([2], [2]), ([1, 3], [1, 3]), ([4], [4]), ([5], [5]), ([6, 5, 5], [5, 6]), ([5], [5]), ([8, 7, 5], [5, 8]), ([7, 9, 9, 5], [5, 7, 9]), ([5, 10], [5, 10]), ([11, 10, 0, 1, 2, 3, 4, 5, 6, 7, 8, 9, 10, 11], [11])]) [0, 1, 0, 4, 15, 31, 63, 127, 63, 511, 1023, 2047, 4095] (by kernel_rfl) (by kernel_rfl) (by kernel_rfl) (by kernel_rfl) (by kernel_rfl) (by kernel_rfl) (by kernel_rfl) (by rfl) (by kernel_rfl) ?_ ?_ ?_
  · exact (jZ (nM _) (jZ (nM _) (jZ (nM _) (jZ (nM _) (jZ (nM _) (jZ (nM _) (jZ (nM _) (jZ (nM _) (jZ (nM _) (jZ (nM _) (jZ (nM _) (jZ (nM _) (jZ (nM _) PW)))))))))))))
  · refine jJ ?_ ?_
    · intro a w' vs hB hel hd
      have e2 : a.tmps[2]? = some (.pointer (some ⟨w.heap.size, 0, none⟩)) := (hel 2 (by kernel_rfl)).trans (by rfl)
      refine ⟨_, rfl, rfl, fun K hK => ?_⟩
      refine jQ (w1 := w') (v := .pointer (some ⟨w.heap.size, 0, none⟩)) (by rfl) rfl ?_ (hK _ _ (by exact rfl) (Below.refl _ _))
      · go_simp
        (try simp only [iP, jO])
        (try rfl)
        (try (unfold Go.RowKit.wrap64; omega))
    refine jJ ?_ ?_
    · intro a w' vs hB hel hd
      obtain ⟨f5, r5⟩ := hd 0 (by kernel_rfl)
      have e5 : a.tmps[5]? = some (.pointer (some ⟨w.heap.size, 0, none⟩)) := f5.trans (congrArg some (r5 : vs 0 = (.pointer (some ⟨w.heap.size, 0, none⟩))))
      obtain ⟨z0, z1, z2, z3, z4, z5, z6, z7, y0, y1, y2, y3, y4, y5, y6, y7⟩ := eight (iM hB HX.out)
      refine ⟨_, rfl, rfl, fun K hK => ?_⟩
      refine jQ (w1 := w') (v := .int .u8 m.f0) (by rfl) rfl ?_ (hK _ _ (by exact rfl) (Below.refl _ _))
      · go_simp
        (try simp only [iP, jO])
        (try rfl)
        (try (unfold Go.RowKit.wrap64; omega))
    refine jJ ?_ ?_
    · intro a w' vs hB hel hd
      have e3 : a.tmps[3]? = some (.pointer (some ⟨w.heap.size + 1, 0, none⟩)) := (hel 3 (by kernel_rfl)).trans (by rfl)
      refine ⟨_, rfl, rfl, fun K hK => ?_⟩
      refine jQ (w1 := w') (v := .pointer (some ⟨w.heap.size + 1, 0, none⟩)) (by rfl) rfl ?_ (hK _ _ (by exact rfl) (Below.refl _ _))
      · go_simp
        (try simp only [iP, jO])
        (try rfl)
        (try (unfold Go.RowKit.wrap64; omega))
    refine jJ ?_ ?_
    · intro a w' vs hB hel hd
      obtain ⟨f7, r7⟩ := hd 2 (by kernel_rfl)
      have e7 : a.tmps[7]? = some (.pointer (some ⟨w.heap.size + 1, 0, none⟩)) := f7.trans (congrArg some (r7 : vs 2 = (.pointer (some ⟨w.heap.size + 1, 0, none⟩))))
      obtain ⟨z0, z1, z2, z3, z4, z5, z6, z7, y0, y1, y2, y3, y4, y5, y6, y7⟩ := eight (iM hB HY.out)
      refine ⟨_, rfl, rfl, fun K hK => ?_⟩
      refine jQ (w1 := w') (v := .int .u8 q.f0) (by rfl) rfl ?_ (hK _ _ (by exact rfl) (Below.refl _ _))
      · go_simp
        (try simp only [iP, jO])
        (try rfl)
        (try (unfold Go.RowKit.wrap64; omega))
    refine jJ ?_ ?_
    · intro a w' vs hB hel hd
      obtain ⟨f6, r6⟩ := hd 1 (by kernel_rfl)
      have e6 : a.tmps[6]? = some (.int .u8 m.f0) := f6.trans (congrArg some (r6 : vs 1 = (.int .u8 m.f0)))
      obtain ⟨f8, r8⟩ := hd 3 (by kernel_rfl)
      have e8 : a.tmps[8]? = some (.int .u8 q.f0) := f8.trans (congrArg some (r8 : vs 3 = (.int .u8 q.f0)))
      refine ⟨_, rfl, rfl, fun K hK => ?_⟩
      refine jQ (w1 := w') (v := .bool true) (by rfl) rfl ?_ (hK _ _ (by exact rfl) (Below.refl _ _))
      · go_simp
        (try simp only [iP, jO])
        (try rfl)
        (try (unfold Go.RowKit.wrap64; omega))
    refine jJ ?_ ?_
    · intro a w' vs hB hel hd
      obtain ⟨f9, r9⟩ := hd 4 (by kernel_rfl)
      have e9 : a.tmps[9]? = some (.bool true) := f9.trans (congrArg some (r9 : vs 4 = (.bool true)))
      refine ⟨_, rfl, rfl, fun K hK => ?_⟩
      refine jQ (w1 := w') (v := .bool true) (by rfl) rfl ?_ (hK _ _ (by exact rfl) (Below.refl _ _))
      · go_simp
        (try simp only [iP, jO])
        (try rfl)
        (try (unfold Go.RowKit.wrap64; omega))
    refine jJ ?_ ?_
    · intro a w' vs hB hel hd
      have e2 : a.tmps[2]? = some (.pointer (some ⟨w.heap.size, 0, none⟩)) := (hel 2 (by kernel_rfl)).trans (by rfl)
      obtain ⟨f10, r10⟩ := hd 5 (by kernel_rfl)
      have e10 : a.tmps[10]? = some (.bool true) := f10.trans (congrArg some (r10 : vs 5 = (.bool true)))
      obtain ⟨z0, z1, z2, z3, z4, z5, z6, z7, y0, y1, y2, y3, y4, y5, y6, y7⟩ := eight (iM hB HX.out)
      refine ⟨_, rfl, rfl, fun K hK => ?_⟩
      refine jQ (w1 := w') (v := .agg #[.int .u8 m.f0, .int .u32 m.f1, .int .u32 m.f2, .slice A3 m.f3.length a3, .slice A4 m.f4.length a4, .int .i64 m.f5, .int .i64 m.f6, .slice A9 m.f7.length a9]) (qJ rfl rfl rfl e10) rfl ?_ (hK _ _ (by exact rfl) (Below.refl _ _))
      · go_simp
        (try simp only [iP, jO])
        (try rfl)
        (try (unfold Go.RowKit.wrap64; omega))
    refine jJ ?_ ?_
    · intro a w' vs hB hel hd
      obtain ⟨f11, r11⟩ := hd 6 (by kernel_rfl)
      have e11 : a.tmps[11]? = some (.agg #[.int .u8 m.f0, .int .u32 m.f1, .int .u32 m.f2, .slice A3 m.f3.length a3, .slice A4 m.f4.length a4, .int .i64 m.f5, .int .i64 m.f6, .slice A9 m.f7.length a9]) := f11.trans (congrArg some (r11 : vs 6 = (.agg #[.int .u8 m.f0, .int .u32 m.f1, .int .u32 m.f2, .slice A3 m.f3.length a3, .slice A4 m.f4.length a4, .int .i64 m.f5, .int .i64 m.f6, .slice A9 m.f7.length a9])))
      obtain ⟨f10, r10⟩ := hd 5 (by kernel_rfl)
      have e10 : a.tmps[10]? = some (.bool true) := f10.trans (congrArg some (r10 : vs 5 = (.bool true)))
      refine ⟨_, rfl, rfl, fun K hK => ?_⟩
      refine pW Tryd.func82 (by kernel_rfl) rfl #[.agg #[.int .u8 m.f0, .int .u32 m.f1, .int .u32 m.f2, .slice A3 m.f3.length a3, .slice A4 m.f4.length a4, .int .i64 m.f5, .int .i64 m.f6, .slice A9 m.f7.length a9]] (qJ rfl rfl rfl e10) rfl rfl (by first | (simp only [List.map_toArray, List.map_cons, List.map_nil, Act.eval, Array.getD_eq_getD_getElem?, Option.getD_some, e11, e10]; done) | (simp only [List.map_toArray, List.map_cons, List.map_nil, Act.eval, Array.getD_eq_getD_getElem?, Option.getD_some, e11, e10]; rfl)) ?_
      refine (xQ m.f0 m.f1 m.f2 m.f5 m.f6 A3 m.f3.length a3 A4 m.f4.length a4 A9 m.f7.length a9 w').mono ?_
      rintro e_ w2_ ⟨rfl, hb2_⟩
      exact ⟨_, rfl, hK _ _ (by exact rfl) hb2_⟩
    refine jJ ?_ ?_
    · intro a w' vs hB hel hd
      have e3 : a.tmps[3]? = some (.pointer (some ⟨w.heap.size + 1, 0, none⟩)) := (hel 3 (by kernel_rfl)).trans (by rfl)
      obtain ⟨f10, r10⟩ := hd 5 (by kernel_rfl)
      have e10 : a.tmps[10]? = some (.bool true) := f10.trans (congrArg some (r10 : vs 5 = (.bool true)))
      obtain ⟨z0, z1, z2, z3, z4, z5, z6, z7, y0, y1, y2, y3, y4, y5, y6, y7⟩ := eight (iM hB HY.out)
      refine ⟨_, rfl, rfl, fun K hK => ?_⟩
      refine jQ (w1 := w') (v := .agg #[.int .u8 q.f0, .int .u32 q.f1, .int .u32 q.f2, .slice B3 q.f3.length b3, .slice B4 q.f4.length b4, .int .i64 q.f5, .int .i64 q.f6, .slice B9 q.f7.length b9]) (qJ rfl rfl rfl e10) rfl ?_ (hK _ _ (by exact rfl) (Below.refl _ _))
      · go_simp
        (try simp only [iP, jO])
        (try rfl)
        (try (unfold Go.RowKit.wrap64; omega))
    refine jJ ?_ ?_
    · intro a w' vs hB hel hd
      obtain ⟨f13, r13⟩ := hd 8 (by kernel_rfl)
      have e13 : a.tmps[13]? = some (.agg #[.int .u8 q.f0, .int .u32 q.f1, .int .u32 q.f2, .slice B3 q.f3.length b3, .slice B4 q.f4.length b4, .int .i64 q.f5, .int .i64 q.f6, .slice B9 q.f7.length b9]) := f13.trans (congrArg some (r13 : vs 8 = (.agg #[.int .u8 q.f0, .int .u32 q.f1, .int .u32 q.f2, .slice B3 q.f3.length b3, .slice B4 q.f4.length b4, .int .i64 q.f5, .int .i64 q.f6, .slice B9 q.f7.length b9])))
      obtain ⟨f10, r10⟩ := hd 5 (by kernel_rfl)
      have e10 : a.tmps[10]? = some (.bool true) := f10.trans (congrArg some (r10 : vs 5 = (.bool true)))
      refine ⟨_, rfl, rfl, fun K hK => ?_⟩
      refine pW Tryd.func82 (by kernel_rfl) rfl #[.agg #[.int .u8 q.f0, .int .u32 q.f1, .int .u32 q.f2, .slice B3 q.f3.length b3, .slice B4 q.f4.length b4, .int .i64 q.f5, .int .i64 q.f6, .slice B9 q.f7.length b9]] (qJ rfl rfl rfl e10) rfl rfl (by first | (simp only [List.map_toArray, List.map_cons, List.map_nil, Act.eval, Array.getD_eq_getD_getElem?, Option.getD_some, e13, e10]; done) | (simp only [List.map_toArray, List.map_cons, List.map_nil, Act.eval, Array.getD_eq_getD_getElem?, Option.getD_some, e13, e10]; rfl)) ?_
      refine (xQ q.f0 q.f1 q.f2 q.f5 q.f6 B3 q.f3.length b3 B4 q.f4.length b4 B9 q.f7.length b9 w').mono ?_
      rintro e_ w2_ ⟨rfl, hb2_⟩
      exact ⟨_, rfl, hK _ _ (by exact rfl) hb2_⟩
    refine jJ ?_ ?_
    · intro a w' vs hB hel hd
      obtain ⟨f12, r12⟩ := hd 7 (by kernel_rfl)
      have e12 : a.tmps[12]? = some (.agg #[.int .u8 (oC m.f0), .int .u32 m.f1, .int .u32 m.f2, .slice A3 m.f3.length a3, .slice A4 m.f4.length a4, .int .u32 0, .slice none 0 0, .int .i64 m.f5, .int .i64 m.f6, .slice A9 m.f7.length a9]) := f12.trans (congrArg some (r12 : vs 7 = (.agg #[.int .u8 (oC m.f0), .int .u32 m.f1, .int .u32 m.f2, .slice A3 m.f3.length a3, .slice A4 m.f4.length a4, .int .u32 0, .slice none 0 0, .int .i64 m.f5, .int .i64 m.f6, .slice A9 m.f7.length a9])))
      obtain ⟨f14, r14⟩ := hd 9 (by kernel_rfl)
      have e14 : a.tmps[14]? = some (.agg #[.int .u8 (oC q.f0), .int .u32 q.f1, .int .u32 q.f2, .slice B3 q.f3.length b3, .slice B4 q.f4.length b4, .int .u32 0, .slice none 0 0, .int .i64 q.f5, .int .i64 q.f6, .slice B9 q.f7.length b9]) := f14.trans (congrArg some (r14 : vs 9 = (.agg #[.int .u8 (oC q.f0), .int .u32 q.f1, .int .u32 q.f2, .slice B3 q.f3.length b3, .slice B4 q.f4.length b4, .int .u32 0, .slice none 0 0, .int .i64 q.f5, .int .i64 q.f6, .slice B9 q.f7.length b9])))
      obtain ⟨f10, r10⟩ := hd 5 (by kernel_rfl)
      have e10 : a.tmps[10]? = some (.bool true) := f10.trans (congrArg some (r10 : vs 5 = (.bool true)))
      refine ⟨_, rfl, rfl, fun K hK => ?_⟩
      refine pW Tryd.func23 (by kernel_rfl) rfl #[.agg #[.int .u8 (oC m.f0), .int .u32 m.f1, .int .u32 m.f2, .slice A3 m.f3.length a3, .slice A4 m.f4.length a4, .int .u32 0, .slice none 0 0, .int .i64 m.f5, .int .i64 m.f6, .slice A9 m.f7.length a9], .agg #[.int .u8 (oC q.f0), .int .u32 q.f1, .int .u32 q.f2, .slice B3 q.f3.length b3, .slice B4 q.f4.length b4, .int .u32 0, .slice none 0 0, .int .i64 q.f5, .int .i64 q.f6, .slice B9 q.f7.length b9]] (qJ rfl rfl rfl e10) rfl rfl (by first | (simp only [List.map_toArray, List.map_cons, List.map_nil, Act.eval, Array.getD_eq_getD_getElem?, Option.getD_some, e12, e14, e10]; done) | (simp only [List.map_toArray, List.map_cons, List.map_nil, Act.eval, Array.getD_eq_getD_getElem?, Option.getD_some, e12, e14, e10]; rfl)) ?_
      refine (QU (HA.out.below hB).rlies (HBB.out.below hB).rlies HT.out).mono ?_
      rintro e_ w2_ ⟨rfl, hb2_⟩
      exact ⟨_, rfl, hK _ _ (by exact rfl) hb2_⟩
    refine jJ ?_ ?_
    · intro a w' vs hB hel hd
      obtain ⟨f10, r10⟩ := hd 5 (by kernel_rfl)
      have e10 : a.tmps[10]? = some (.bool true) := f10.trans (congrArg some (r10 : vs 5 = (.bool true)))
      obtain ⟨f15, r15⟩ := hd 10 (by kernel_rfl)
      have e15 : a.tmps[15]? = some (.bool t) := f15.trans (congrArg some (r15 : vs 10 = (.bool t)))
      refine ⟨_, rfl, rfl, fun K hK => ?_⟩
      refine jQ (w1 := w') (v := .bool t) (by rfl) rfl ?_ (hK _ _ (by exact rfl) (Below.refl _ _))
      · go_simp
        (try simp only [iP, jO])
        (try rfl)
        (try (unfold Go.RowKit.wrap64; omega))
    refine jJ ?_ ?_
    · intro a w' vs hB hel hd
      obtain ⟨f16, r16⟩ := hd 11 (by kernel_rfl)
      have e16 : a.tmps[16]? = some (.bool t) := f16.trans (congrArg some (r16 : vs 11 = (.bool t)))
      refine ⟨_, rfl, rfl, fun K hK => ?_⟩
      refine jQ (w1 := w') (v := .bool t) (by rfl) rfl ?_ (hK _ _ (by exact rfl) (Below.refl _ _))
      · go_simp
        (try simp only [iP, jO])
        (try rfl)
        (try (unfold Go.RowKit.wrap64; omega))
    exact zM
  · intro vs w' hB hR
    have hv0_ : vs 0 = (.pointer (some ⟨w.heap.size, 0, none⟩)) := hR 0 (by kernel_rfl)
    have hv1_ : vs 1 = (.int .u8 m.f0) := hR 1 (by kernel_rfl)
    have hv2_ : vs 2 = (.pointer (some ⟨w.heap.size + 1, 0, none⟩)) := hR 2 (by kernel_rfl)
    have hv3_ : vs 3 = (.int .u8 q.f0) := hR 3 (by kernel_rfl)
    have hv4_ : vs 4 = (.bool true) := hR 4 (by kernel_rfl)
    have hv5_ : vs 5 = (.bool true) := hR 5 (by kernel_rfl)
    have hv6_ : vs 6 = (.agg #[.int .u8 m.f0, .int .u32 m.f1, .int .u32 m.f2, .slice A3 m.f3.length a3, .slice A4 m.f4.length a4, .int .i64 m.f5, .int .i64 m.f6, .slice A9 m.f7.length a9]) := hR 6 (by kernel_rfl)
    have hv7_ : vs 7 = (.agg #[.int .u8 (oC m.f0), .int .u32 m.f1, .int .u32 m.f2, .slice A3 m.f3.length a3, .slice A4 m.f4.length a4, .int .u32 0, .slice none 0 0, .int .i64 m.f5, .int .i64 m.f6, .slice A9 m.f7.length a9]) := hR 7 (by kernel_rfl)
    have hv8_ : vs 8 = (.agg #[.int .u8 q.f0, .int .u32 q.f1, .int .u32 q.f2, .slice B3 q.f3.length b3, .slice B4 q.f4.length b4, .int .i64 q.f5, .int .i64 q.f6, .slice B9 q.f7.length b9]) := hR 8 (by kernel_rfl)
    have hv9_ : vs 9 = (.agg #[.int .u8 (oC q.f0), .int .u32 q.f1, .int .u32 q.f2, .slice B3 q.f3.length b3, .slice B4 q.f4.length b4, .int .u32 0, .slice none 0 0, .int .i64 q.f5, .int .i64 q.f6, .slice B9 q.f7.length b9]) := hR 9 (by kernel_rfl)
    have hv10_ : vs 10 = (.bool t) := hR 10 (by kernel_rfl)
    have hv11_ : vs 11 = (.bool t) := hR 11 (by kernel_rfl)
    have hv12_ : vs 12 = (.bool t) := hR 12 (by kernel_rfl)
    rw [show entries [5, 6, 7, 8, 9, 10, 11, 12, 13, 14, 15, 16, 4] vs = [(0, 5, vs 0), (1, 6, vs 1), (2, 7, vs 2), (3, 8, vs 3), (4, 9, vs 4), (5, 10, vs 5), (6, 11, vs 6), (7, 12, vs 7), (8, 13, vs 8), (9, 14, vs 9), (10, 15, vs 10), (11, 16, vs 11), (12, 4, vs 12)] from rfl]
    simp only [jV, if_true, Act.put, List.setIfInBounds_toArray, List.set_cons_zero, List.set_cons_succ, hv0_, hv1_, hv2_, hv3_, hv4_, hv5_, hv6_, hv7_, hv8_, hv9_, hv10_, hv11_, hv12_]
    clear hR hv0_ hv1_ hv2_ hv3_ hv4_ hv5_ hv6_ hv7_ hv8_ hv9_ hv10_ hv11_ hv12_
    go_wp2
    go_ret
    exact ⟨rfl, iL HB.out hB⟩
end Go.Proofs.YtgfkgppomaapiaaDoor.K
end

section
namespace Go.Proofs.YtgfkgppomaapiaaDoor.K
open Go Go.RowKit Go.Proofs.YtgfkgppomaapiaaDoorW.PrintWords Go.Proofs.YtgfkgppomaapiaaDoorW.PrintLast Go.Proofs.YtgfkgppomaapiaaDoorW.PrintMore Go.Proofs.YtgfkgppomaapiaaDoor.My
theorem JB (kind id at_ nodes : Int) {A4 : Option Addr} {a4 : Nat} (l4 : List jK) {A5 : Option Addr} {a5 : Nat} (l5 : List Int) (from_ to_ : Int) {A8 : Option Addr} {a8 : Nat} (l8 : List jG) {w : World} (h4 : Kd.C k139 w A4 l4.length l4) (d4 : l4.length ≤ a4) (h5 : Kd.C (Kd.int .u16) w A5 l5.length l5) (d5 : l5.length ≤ a5) (h8 : Kd.C k86 w A8 l8.length l8) (d8 : l8.length ≤ a8) (hf : ∀ e ∈ l8, e.f1.length ≤ 9223372036854775807)
    {r : SRec} (hr : rC kind id at_ nodes l4 l5 from_ to_ l8 = r) :
    Calls Tryd.prog 21 #[.int .u8 kind, .int .u32 id, .int .u32 at_, .int .u8 nodes, .slice A4 l4.length a4, .slice A5 l5.length a5, .int .u16 from_, .int .u16 to_, .slice A8 l8.length a8] w fun e w' => ∃ A3 a3 A4 a4 A6 a6 A9 a9, e = .returned (.agg #[.int .u8 r.f0, .int .u32 r.f1, .int .u32 r.f2, .slice A3 r.f3.length a3, .slice A4 r.f4.length a4, .int .u32 r.f5.f0, .slice A6 r.f5.f1.length a6, .int .i64 r.f6, .int .i64 r.f7, .slice A9 r.f8.length a9]) ∧ RecV w.heap.size r (.agg #[.int .u8 r.f0, .int .u32 r.f1, .int .u32 r.f2, .slice A3 r.f3.length a3, .slice A4 r.f4.length a4, .int .u32 r.f5.f0, .slice A6 r.f5.f1.length a6, .int .i64 r.f6, .int .i64 r.f7, .slice A9 r.f8.length a9]) w' ∧ Below w.heap.size w w' := by
  have hev := VV kind id at_ nodes l4 l5 from_ to_ l8 (lC h4) hf
  rw [hr] at hev
  obtain ⟨k, hk⟩ := hev.rounds
  refine (stratumlaw07_Make.calls k kind id at_ nodes A4 a4 l4 A5 a5 l5 from_ to_ A8 a8 l8 _ _ _ _ _ _ _ _ _ _ w h4 d4 h5 d5 h8 d8 hk).mono ?_
  rintro e w1 ⟨v3, v4, v6, v9, rfl, g3, g4, g6, g9, hB⟩
  obtain ⟨B3, b3, rfl⟩ := Kd.R_slice g3
  obtain ⟨B4, b4, rfl⟩ := Kd.R_slice g4
  obtain ⟨B6, b6, rfl⟩ := Kd.R_slice g6
  obtain ⟨B9, b9, rfl⟩ := Kd.R_slice g9
  exact ⟨B3, b3, B4, b4, B6, b6, B9, b9, rfl, ⟨_, _, _, _, rfl, g3, g4, g6, g9⟩, hB⟩
theorem nY {base : Nat} {x : SRec} {A3 A4 A6 A9 : Option Addr} {d3 d4 d6 d9 : Nat} {w : World} (h : RecV base x (.agg #[.int .u8 x.f0, .int .u32 x.f1, .int .u32 x.f2, .slice A3 x.f3.length d3, .slice A4 x.f4.length d4, .int .u32 x.f5.f0, .slice A6 x.f5.f1.length d6, .int .i64 x.f6, .int .i64 x.f7, .slice A9 x.f8.length d9]) w) : Lies w x A3 d3 A4 d4 A6 d6 A9 d9 := by
  obtain ⟨v3, v4, v6, v9, he, h3, h4, h6, h9⟩ := h
  simp only [Value.agg.injEq, Array.mk.injEq, List.cons.injEq, true_and, and_true] at he
  obtain ⟨rfl, rfl, rfl, rfl⟩ := he
  obtain ⟨_, q3, C3⟩ := Kd.R_reads' h3
  obtain ⟨_, q4, C4⟩ := Kd.R_reads' h4
  obtain ⟨_, q6, C6⟩ := Kd.R_reads' h6
  obtain ⟨_, q9, C9⟩ := Kd.R_reads' h9
  exact ⟨C3, q3, C4, q4, C6, q6, C9, q9⟩
/-- Made of a record, as choices say. -/
def NR (kind : Int) (r : SRec) (nodes : Int) : SMsg :=
  let k := 1 + kind % 11
  let t := rC 6 r.f1 0 0 [] [] (IntKind.u16.wrap (Int.tmod r.f6 60000)) (IntKind.u16.wrap (Int.tmod r.f7 60000)) r.f8
  let x := rC 0 r.f1 0 nodes r.f4 [] 0 0 []
  if k = 1 then ⟨k, r.f1, 0, x.f3, x.f4, 0, 0, []⟩
  else if k = 4 then ⟨k, r.f1, r.f2, [], [], 0, 0, []⟩
  else if k = 8 then ⟨k, r.f1, 0, [], [], t.f6, t.f7, []⟩
  else if k = 9 then ⟨k, r.f1, 0, [], [], 0, 0, t.f8⟩
  else if k = 10 then ⟨k, r.f1, 0, [], [], t.f6, t.f7, t.f8⟩
  else ⟨k, r.f1, 0, [], [], 0, 0, []⟩
section
variable {w : World} {b : Nat} {c0 c1 c2 c3 c4 c5 c6 c7 : Value}
theorem XN (x : Int) (h : w.heap[b]? = some (.cells #[c0, c1, c2, c3, c4, c5, c6, c7] 51 (0, 0))) : (Instr.storeAt 22 (.pointer (some ⟨b, 2, none⟩)) (.int .u32 x)).run Tryd.prog w = .ok () (w.setRow b #[c0, c1, .int .u32 x, c3, c4, c5, c6, c7]) := by
  have z : w.cell? ⟨b, 2, none⟩ = some c2 := (iE h 2).trans rfl
  have y : w.frozen? ⟨b, 2, none⟩ = false := iC h 2
  rw [show w.setRow b #[c0, c1, .int .u32 x, c3, c4, c5, c6, c7] = w.setCell ⟨b, 2, none⟩ (.int .u32 x) from (setCell_eq_setRow w b 2 _ _ _ (.int .u32 x) h).symm]
  simp [go_sem, z, y]
theorem XU (A : Option Addr) (n c : Nat) (h : w.heap[b]? = some (.cells #[c0, c1, c2, c3, c4, c5, c6, c7] 51 (0, 0))) : (Instr.storeAt 23 (.pointer (some ⟨b, 3, none⟩)) (.slice A n c)).run Tryd.prog w = .ok () (w.setRow b #[c0, c1, c2, .slice A n c, c4, c5, c6, c7]) := by
  have z : w.cell? ⟨b, 3, none⟩ = some c3 := (iE h 3).trans rfl
  have y : w.frozen? ⟨b, 3, none⟩ = false := iC h 3
  rw [show w.setRow b #[c0, c1, c2, .slice A n c, c4, c5, c6, c7] = w.setCell ⟨b, 3, none⟩ (.slice A n c) from (setCell_eq_setRow w b 3 _ _ _ (.slice A n c) h).symm]
  simp [go_sem, z, y]
theorem XQ (A : Option Addr) (n c : Nat) (h : w.heap[b]? = some (.cells #[c0, c1, c2, c3, c4, c5, c6, c7] 51 (0, 0))) : (Instr.storeAt 24 (.pointer (some ⟨b, 4, none⟩)) (.slice A n c)).run Tryd.prog w = .ok () (w.setRow b #[c0, c1, c2, c3, .slice A n c, c5, c6, c7]) := by
  have z : w.cell? ⟨b, 4, none⟩ = some c4 := (iE h 4).trans rfl
  have y : w.frozen? ⟨b, 4, none⟩ = false := iC h 4
  rw [show w.setRow b #[c0, c1, c2, c3, .slice A n c, c5, c6, c7] = w.setCell ⟨b, 4, none⟩ (.slice A n c) from (setCell_eq_setRow w b 4 _ _ _ (.slice A n c) h).symm]
  simp [go_sem, z, y]
theorem WW (x : Int) (h : w.heap[b]? = some (.cells #[c0, c1, c2, c3, c4, c5, c6, c7] 51 (0, 0))) : (Instr.storeAt 3 (.pointer (some ⟨b, 5, none⟩)) (.int .i64 x)).run Tryd.prog w = .ok () (w.setRow b #[c0, c1, c2, c3, c4, .int .i64 x, c6, c7]) := by
  have z : w.cell? ⟨b, 5, none⟩ = some c5 := (iE h 5).trans rfl
  have y : w.frozen? ⟨b, 5, none⟩ = false := iC h 5
  rw [show w.setRow b #[c0, c1, c2, c3, c4, .int .i64 x, c6, c7] = w.setCell ⟨b, 5, none⟩ (.int .i64 x) from (setCell_eq_setRow w b 5 _ _ _ (.int .i64 x) h).symm]
  simp [go_sem, z, y]
theorem WQ (x : Int) (h : w.heap[b]? = some (.cells #[c0, c1, c2, c3, c4, c5, c6, c7] 51 (0, 0))) : (Instr.storeAt 3 (.pointer (some ⟨b, 6, none⟩)) (.int .i64 x)).run Tryd.prog w = .ok () (w.setRow b #[c0, c1, c2, c3, c4, c5, .int .i64 x, c7]) := by
  have z : w.cell? ⟨b, 6, none⟩ = some c6 := (iE h 6).trans rfl
  have y : w.frozen? ⟨b, 6, none⟩ = false := iC h 6
  rw [show w.setRow b #[c0, c1, c2, c3, c4, c5, .int .i64 x, c7] = w.setCell ⟨b, 6, none⟩ (.int .i64 x) from (setCell_eq_setRow w b 6 _ _ _ (.int .i64 x) h).symm]
  simp [go_sem, z, y]
theorem WM (A : Option Addr) (n c : Nat) (h : w.heap[b]? = some (.cells #[c0, c1, c2, c3, c4, c5, c6, c7] 51 (0, 0))) : (Instr.storeAt 28 (.pointer (some ⟨b, 7, none⟩)) (.slice A n c)).run Tryd.prog w = .ok () (w.setRow b #[c0, c1, c2, c3, c4, c5, c6, .slice A n c]) := by
  have z : w.cell? ⟨b, 7, none⟩ = some c7 := (iE h 7).trans rfl
  have y : w.frozen? ⟨b, 7, none⟩ = false := iC h 7
  rw [show w.setRow b #[c0, c1, c2, c3, c4, c5, c6, .slice A n c] = w.setCell ⟨b, 7, none⟩ (.slice A n c) from (setCell_eq_setRow w b 7 _ _ _ (.slice A n c) h).symm]
  simp [go_sem, z, y]
end
theorem oN {tmps : Array Value} {W : World} {p : Tmp} {b : Nat} {cs : Array Value} (h : Tryd.f27.results = #[.cell p 51]) (hp : tmps.getD p undef = .pointer (some ⟨b, 0, none⟩)) (hx : W.heap[b]? = some (.cells cs 51 (0, 0))) (hs : cs.size = 8) :
    (results Tryd.f27 tmps).run Tryd.prog W = .ok (.agg cs) W := by
  exact results_cell_row h _ _ _ _ _ _ _ hp hx Tryd.underlying51 rfl (by rw [hs]; kernel_rfl)
def QY (w : World) (m : SMsg) (e : Ending) (w' : World) : Prop := ∃ A3 a3 A4 a4 A9 a9, e = .returned (.agg #[.int .u8 m.f0, .int .u32 m.f1, .int .u32 m.f2, .slice A3 m.f3.length a3, .slice A4 m.f4.length a4, .int .i64 m.f5, .int .i64 m.f6, .slice A9 m.f7.length a9]) ∧ pG w' m A3 a3 A4 a4 A9 a9 ∧ Below w.heap.size w w'
/-- Held through the walk: the record's box, the result's, the message's, the taken one's. -/
structure MO (w W : World) (r t : SRec) (A3 : Option Addr) (a3 : Nat) (A4 : Option Addr) (a4 : Nat) (A6 : Option Addr) (a6 : Nat) (A9 : Option Addr) (a9 : Nat) (T3 : Option Addr) (t3 : Nat) (T4 : Option Addr) (t4 : Nat) (T6 : Option Addr) (t6 : Nat) (T9 : Option Addr) (t9 : Nat) (g : Nat) (cs : Array Value) : Prop where
  rb : W.heap[w.heap.size]? = some (.cells #[.int .u8 r.f0, .int .u32 r.f1, .int .u32 r.f2, .slice A3 r.f3.length a3, .slice A4 r.f4.length a4, .int .u32 r.f5.f0, .slice A6 r.f5.f1.length a6, .int .i64 r.f6, .int .i64 r.f7, .slice A9 r.f8.length a9] 30 (0, 0))
  zb : W.heap[w.heap.size + 1]? = some (.cells #[.int .u8 0, .int .u32 0, .int .u32 0, .slice none 0 0, .slice none 0 0, .int .i64 0, .int .i64 0, .slice none 0 0] 51 (0, 0))
  mb : W.heap[w.heap.size + 1 + 1]? = some (.cells cs 51 (0, 0))
  tb : W.heap[g]? = some (.cells #[.int .u8 t.f0, .int .u32 t.f1, .int .u32 t.f2, .slice T3 t.f3.length t3, .slice T4 t.f4.length t4, .int .u32 t.f5.f0, .slice T6 t.f5.f1.length t6, .int .i64 t.f6, .int .i64 t.f7, .slice T9 t.f8.length t9] 30 (0, 0))
  gl : w.heap.size + 1 + 1 < g
  tv : RecV (w.heap.size + 1 + 1 + 1) t (.agg #[.int .u8 t.f0, .int .u32 t.f1, .int .u32 t.f2, .slice T3 t.f3.length t3, .slice T4 t.f4.length t4, .int .u32 t.f5.f0, .slice T6 t.f5.f1.length t6, .int .i64 t.f6, .int .i64 t.f7, .slice T9 t.f8.length t9]) W
  bel : Below w.heap.size w W
theorem MO.set {w W : World} {r t : SRec} {A3 : Option Addr} {a3 : Nat} {A4 : Option Addr} {a4 : Nat} {A6 : Option Addr} {a6 : Nat} {A9 : Option Addr} {a9 : Nat} {T3 : Option Addr} {t3 : Nat} {T4 : Option Addr} {t4 : Nat} {T6 : Option Addr} {t6 : Nat} {T9 : Option Addr} {t9 : Nat} {g : Nat} {cs : Array Value} (h : MO w W r t A3 a3 A4 a4 A6 a6 A9 a9 T3 t3 T4 t4 T6 t6 T9 t9 g cs) (cs' : Array Value) :
    MO w (W.setRow (w.heap.size + 1 + 1) cs') r t A3 a3 A4 a4 A6 a6 A9 a9 T3 t3 T4 t4 T6 t6 T9 t9 g cs' :=
  ⟨(setRow_other W (w.heap.size + 1 + 1) _ cs' (by omega)).trans h.rb, (setRow_other W (w.heap.size + 1 + 1) _ cs' (by omega)).trans h.zb, setRow_heap _ _ _ cs' _ _ h.mb, (setRow_other W (w.heap.size + 1 + 1) g cs' (by have := h.gl; omega)).trans h.tb, h.gl,
   kN h.tv (jC _ _ _) (by omega), below_grown (g := w.heap.size + 1 + 1) h.bel (jC _ _ _) (by omega) (Nat.le_refl _)⟩
theorem MO.below {w W W' : World} {r t : SRec} {A3 : Option Addr} {a3 : Nat} {A4 : Option Addr} {a4 : Nat} {A6 : Option Addr} {a6 : Nat} {A9 : Option Addr} {a9 : Nat} {T3 : Option Addr} {t3 : Nat} {T4 : Option Addr} {t4 : Nat} {T6 : Option Addr} {t6 : Nat} {T9 : Option Addr} {t9 : Nat} {g : Nat} {cs : Array Value} (h : MO w W r t A3 a3 A4 a4 A6 a6 A9 a9 T3 t3 T4 t4 T6 t6 T9 t9 g cs) (hb : Below W.heap.size W W') :
    MO w W' r t A3 a3 A4 a4 A6 a6 A9 a9 T3 t3 T4 t4 T6 t6 T9 t9 g cs :=
  ⟨iM hb h.rb, iM hb h.zb, iM hb h.mb, iM hb h.tb, h.gl, lF h.tv hb, iL h.bel hb⟩
attribute [-go_sem] Instr.build Instr.storeAt
attribute [local go_sem] WY
set_option maxRecDepth 20000 in
set_option maxHeartbeats 16000000 in
theorem JP (kind nodes : Int) (hk : 0 ≤ kind ∧ kind < 256) (r : SRec) (A3 : Option Addr) (a3 : Nat) (A4 : Option Addr) (a4 : Nat) (A6 : Option Addr) (a6 : Nat) (A9 : Option Addr) (a9 : Nat) (w : World) (h : Lies w r A3 a3 A4 a4 A6 a6 A9 a9) (hf : ∀ e ∈ r.f8, e.f1.length ≤ 9223372036854775807) :
    Calls Tryd.prog 27 #[.int .u8 kind, .agg #[.int .u8 r.f0, .int .u32 r.f1, .int .u32 r.f2, .slice A3 r.f3.length a3, .slice A4 r.f4.length a4, .int .u32 r.f5.f0, .slice A6 r.f5.f1.length a6, .int .i64 r.f6, .int .i64 r.f7, .slice A9 r.f8.length a9], .int .u8 nodes] w (QY w (NR kind r nodes)) := by
  have HL := iD.mk h
  have HF := iD.mk hf
  clear h hf
  obtain ⟨W0, hW0⟩ : ∃ W0, W0 = ((w.alloc (.cells #[.int .u8 r.f0, .int .u32 r.f1, .int .u32 r.f2, .slice A3 r.f3.length a3, .slice A4 r.f4.length a4, .int .u32 r.f5.f0, .slice A6 r.f5.f1.length a6, .int .i64 r.f6, .int .i64 r.f7, .slice A9 r.f8.length a9] 30)).alloc (.cells #[.int .u8 0, .int .u32 0, .int .u32 0, .slice none 0 0, .slice none 0 0, .int .i64 0, .int .i64 0, .slice none 0 0] 51)) := ⟨_, rfl⟩
  have hs0 : W0.heap.size = w.heap.size + 1 + 1 := by rw [hW0]; simp
  have hsx := fun (_ : True) => run_storeAt_new (P := Tryd.prog) W0 51 #[.int .u8 0, .int .u32 0, .int .u32 0, .slice none 0 0, .slice none 0 0, .int .i64 0, .int .i64 0, .slice none 0 0] #[.int .u8 (1 + kind % 11), .int .u32 r.f1, .int .u32 0, .slice none 0 0, .slice none 0 0, .int .i64 0, .int .i64 0, .slice none 0 0] (by kernel_rfl) rfl (by simp [Value.oneCell'])
  rw [hs0] at hsx
  obtain ⟨W1, hW1⟩ : ∃ W1, W1 = W0.alloc (.cells #[.int .u8 (1 + kind % 11), .int .u32 r.f1, .int .u32 0, .slice none 0 0, .slice none 0 0, .int .i64 0, .int .i64 0, .slice none 0 0] 51) := ⟨_, rfl⟩
  have HR := iD.mk (show W1.heap[w.heap.size]? = some (.cells #[.int .u8 r.f0, .int .u32 r.f1, .int .u32 r.f2, .slice A3 r.f3.length a3, .slice A4 r.f4.length a4, .int .u32 r.f5.f0, .slice A6 r.f5.f1.length a6, .int .i64 r.f6, .int .i64 r.f7, .slice A9 r.f8.length a9] 30 (0, 0)) from by rw [hW1, hW0]; exact jH (jH (iT rfl)))
  have HZ := iD.mk (show W1.heap[w.heap.size + 1]? = some (.cells #[.int .u8 0, .int .u32 0, .int .u32 0, .slice none 0 0, .slice none 0 0, .int .i64 0, .int .i64 0, .slice none 0 0] 51 (0, 0)) from by rw [hW1, hW0]; exact jH (iT (by simp)))
  have HM := iD.mk (show W1.heap[w.heap.size + 1 + 1]? = some (.cells #[.int .u8 (1 + kind % 11), .int .u32 r.f1, .int .u32 0, .slice none 0 0, .slice none 0 0, .int .i64 0, .int .i64 0, .slice none 0 0] 51 (0, 0)) from by rw [hW1]; exact iT hs0.symm)
  have HB := iD.mk (show Below w.heap.size w W1 from by rw [hW1, hW0]; exact iF (iF (iF (Below.refl _ _) _) _) _)
  have hs1 : W1.heap.size = w.heap.size + 1 + 1 + 1 := by rw [hW1]; simp [hs0]
  obtain ⟨z0, z1, z2, z3, z4, z5, z6, z7, z8, z9, y0, y1, y2, y3, y4, y5, y6, y7, y8, y9⟩ := ten (show W0.heap[w.heap.size]? = some (.cells #[.int .u8 r.f0, .int .u32 r.f1, .int .u32 r.f2, .slice A3 r.f3.length a3, .slice A4 r.f4.length a4, .int .u32 r.f5.f0, .slice A6 r.f5.f1.length a6, .int .i64 r.f6, .int .i64 r.f7, .slice A9 r.f8.length a9] 30 (0, 0)) from by rw [hW0]; exact jH (iT rfl))
  have hx := ten HR.out
  obtain ⟨x0, x1, x2, x3, x4, x5, x6, x7, x8, x9, _⟩ := hx
  have GL := HL.out.below HB.out
  have hcall := fun fr tt => JB 6 r.f1 0 0 (A4 := none) (a4 := 0) [] (A5 := none) (a5 := 0) [] fr tt (A8 := A9) (a8 := a9) r.f8 (Kd.C_nil _ W1) (Nat.le_refl _) (Kd.C_nil _ _) (Nat.le_refl _) GL.h9 GL.d9 HF.out rfl
  simp only [List.length_nil] at hcall
  have HW1 := iD.mk hW1
  have HW0 := iD.mk hW0
  subst hW0
  clear hW1 hs0 GL
  obtain ⟨M, hM⟩ : ∃ M, NR kind r nodes = M := ⟨_, rfl⟩
  rw [hM]
  have HMM := iD.mk hM
  clear hM
  go_enter Tryd.func27, Tryd.ntmps27
  go_wp2_with fail
  rw [← HW1.out]
  go_at_call 21
  obtain ⟨t, ht⟩ : ∃ t, rC 6 r.f1 0 0 [] [] (IntKind.u16.wrap (Int.tmod r.f6 60000)) (IntKind.u16.wrap (Int.tmod r.f7 60000)) r.f8 = t := ⟨_, rfl⟩
  have hcall := hcall (IntKind.u16.wrap (Int.tmod r.f6 60000)) (IntKind.u16.wrap (Int.tmod r.f7 60000))
  rw [ht] at hcall
  refine hcall.mono ?_
  rintro e w2 ⟨T3, t3, T4, t4, T6, t6, T9, t9, rfl, hv, hb2⟩
  have hbw : Below w2.heap.size w2 (w2.alloc (.cells #[.int .u8 t.f0, .int .u32 t.f1, .int .u32 t.f2, .slice T3 t.f3.length t3, .slice T4 t.f4.length t4, .int .u32 t.f5.f0, .slice T6 t.f5.f1.length t6, .int .i64 t.f6, .int .i64 t.f7, .slice T9 t.f8.length t9] 30)) := iF (Below.refl _ _) _
  have hb3 := hb2.trans (hbw.mono hb2.size)
  obtain ⟨K, hK⟩ : ∃ K, K = 1 + kind % 11 := ⟨_, rfl⟩
  rw [← hK] at HM ⊢
  have H := iD.mk (show MO w (w2.alloc (.cells #[.int .u8 t.f0, .int .u32 t.f1, .int .u32 t.f2, .slice T3 t.f3.length t3, .slice T4 t.f4.length t4, .int .u32 t.f5.f0, .slice T6 t.f5.f1.length t6, .int .i64 t.f6, .int .i64 t.f7, .slice T9 t.f8.length t9] 30)) r t A3 a3 A4 a4 A6 a6 A9 a9 T3 t3 T4 t4 T6 t6 T9 t9 w2.heap.size #[.int .u8 K, .int .u32 r.f1, .int .u32 0, .slice none 0 0, .slice none 0 0, .int .i64 0, .int .i64 0, .slice none 0 0] from
    ⟨iM hb3 HR.out, iM hb3 HZ.out, iM hb3 HM.out, iT rfl, by have := hb2.size; omega, hs1 ▸ lF hv hbw, iL HB.out hb3⟩)
  have hst2 := fun (_ : True) => run_storeAt_new (P := Tryd.prog) w2 30 #[.int .u8 0, .int .u32 0, .int .u32 0, .slice none 0 0, .slice none 0 0, .int .u32 0, .slice none 0 0, .int .i64 0, .int .i64 0, .slice none 0 0] #[.int .u8 t.f0, .int .u32 t.f1, .int .u32 t.f2, .slice T3 t.f3.length t3, .slice T4 t.f4.length t4, .int .u32 t.f5.f0, .slice T6 t.f5.f1.length t6, .int .i64 t.f6, .int .i64 t.f7, .slice T9 t.f8.length t9] (by kernel_rfl) rfl (by simp [Value.oneCell'])
  have hM := HMM.out
  have hMM : M = if K = 1 then ⟨K, r.f1, 0, (rC 0 r.f1 0 nodes r.f4 [] 0 0 []).f3, (rC 0 r.f1 0 nodes r.f4 [] 0 0 []).f4, 0, 0, []⟩ else if K = 4 then ⟨K, r.f1, r.f2, [], [], 0, 0, []⟩ else if K = 8 then ⟨K, r.f1, 0, [], [], t.f6, t.f7, []⟩ else if K = 9 then ⟨K, r.f1, 0, [], [], 0, 0, t.f8⟩ else if K = 10 then ⟨K, r.f1, 0, [], [], t.f6, t.f7, t.f8⟩ else ⟨K, r.f1, 0, [], [], 0, 0, []⟩ := by
    rw [← hM, hK, ← ht]; rfl
  clear hcall hv hbw hb3 hb2 hsx hM HMM hK ht HR HZ HM HB z0 z1 z2 z3 z4 z5 z6 z7 z8 z9 y0 y1 y2 y3 y4 y5 y6 y7 y8 y9 x0 x1 x2 x3 x4 x5 x6 x7 x8 x9 HW1 hs1
  obtain ⟨mz0, mz1, mz2, mz3, mz4, mz5, mz6, mz7, my0, my1, my2, my3, my4, my5, my6, my7⟩ := eight H.out.mb
  obtain ⟨rz0, rz1, rz2, rz3, rz4, rz5, rz6, rz7, rz8, rz9, ry0, ry1, ry2, ry3, ry4, ry5, ry6, ry7, ry8, ry9⟩ := ten H.out.rb
  obtain ⟨tz0, tz1, tz2, tz3, tz4, tz5, tz6, tz7, tz8, tz9, ty0, ty1, ty2, ty3, ty4, ty5, ty6, ty7, ty8, ty9⟩ := ten H.out.tb
  by_cases h1 : K = 1
  · subst h1
    rw [if_pos rfl] at hMM
    obtain ⟨x, hx⟩ : ∃ x, rC 0 r.f1 0 nodes r.f4 [] 0 0 [] = x := ⟨_, rfl⟩
    rw [hx] at hMM
    subst hMM
    have GL := HL.out.below H.out.bel
    have hcall := JB 0 r.f1 0 nodes (A4 := A4) (a4 := a4) r.f4 (A5 := none) (a5 := 0) [] 0 0 (A8 := none) (a8 := 0) [] GL.h4 GL.d4 (Kd.C_nil _ _) (Nat.le_refl _) (Kd.C_nil _ _) (Nat.le_refl _) (fun e he => by cases he) hx
    simp only [List.length_nil] at hcall
    clear GL hx
    go_wp2_with fail
    go_at_call 21
    refine hcall.mono ?_
    rintro e w3 ⟨X3, x3, X4, x4, X6, x6, X9, x9, rfl, hv, hb4⟩
    have hbw : Below w3.heap.size w3 (w3.alloc (.cells #[.int .u8 x.f0, .int .u32 x.f1, .int .u32 x.f2, .slice X3 x.f3.length x3, .slice X4 x.f4.length x4, .int .u32 x.f5.f0, .slice X6 x.f5.f1.length x6, .int .i64 x.f6, .int .i64 x.f7, .slice X9 x.f8.length x9] 30)) := iF (Below.refl _ _) _
    have HW := iD.mk H.out
    have hb5 := hb4.trans (hbw.mono hb4.size)
    have H1 := iD.mk (H.out.below hb5)
    have hgx : w.heap.size + 1 + 1 < w3.heap.size := by have := kD H.out.mb; have := hb4.size; omega
    have hgy : w.heap.size + 1 + 1 < (w2.alloc (.cells #[.int .u8 t.f0, .int .u32 t.f1, .int .u32 t.f2, .slice T3 t.f3.length t3, .slice T4 t.f4.length t4, .int .u32 t.f5.f0, .slice T6 t.f5.f1.length t6, .int .i64 t.f6, .int .i64 t.f7, .slice T9 t.f8.length t9] 30)).heap.size := kD H.out.mb
    have HV := iD.mk (lF hv hbw)
    have hxb : (w3.alloc (.cells #[.int .u8 x.f0, .int .u32 x.f1, .int .u32 x.f2, .slice X3 x.f3.length x3, .slice X4 x.f4.length x4, .int .u32 x.f5.f0, .slice X6 x.f5.f1.length x6, .int .i64 x.f6, .int .i64 x.f7, .slice X9 x.f8.length x9] 30)).heap[w3.heap.size]? = some (.cells #[.int .u8 x.f0, .int .u32 x.f1, .int .u32 x.f2, .slice X3 x.f3.length x3, .slice X4 x.f4.length x4, .int .u32 x.f5.f0, .slice X6 x.f5.f1.length x6, .int .i64 x.f6, .int .i64 x.f7, .slice X9 x.f8.length x9] 30 (0, 0)) := iT rfl
    have hst3 := fun (_ : True) => run_storeAt_new (P := Tryd.prog) w3 30 #[.int .u8 0, .int .u32 0, .int .u32 0, .slice none 0 0, .slice none 0 0, .int .u32 0, .slice none 0 0, .int .i64 0, .int .i64 0, .slice none 0 0] #[.int .u8 x.f0, .int .u32 x.f1, .int .u32 x.f2, .slice X3 x.f3.length x3, .slice X4 x.f4.length x4, .int .u32 x.f5.f0, .slice X6 x.f5.f1.length x6, .int .i64 x.f6, .int .i64 x.f7, .slice X9 x.f8.length x9] (by kernel_rfl) rfl (by simp [Value.oneCell'])
    have hs3 := fun (_ : True) => XU X3 x.f3.length x3 H1.out.mb
    have H2 := iD.mk (H1.out.set #[.int .u8 1, .int .u32 r.f1, .int .u32 0, .slice X3 x.f3.length x3, .slice none 0 0, .int .i64 0, .int .i64 0, .slice none 0 0])
    have hs4 := fun (_ : True) => XQ X4 x.f4.length x4 H2.out.mb
    have H3 := iD.mk (H2.out.set #[.int .u8 1, .int .u32 r.f1, .int .u32 0, .slice X3 x.f3.length x3, .slice X4 x.f4.length x4, .int .i64 0, .int .i64 0, .slice none 0 0])
    have hxb2 := (setRow_other _ (w.heap.size + 1 + 1) w3.heap.size #[.int .u8 1, .int .u32 r.f1, .int .u32 0, .slice X3 x.f3.length x3, .slice none 0 0, .int .i64 0, .int .i64 0, .slice none 0 0] (by omega)).trans hxb
    obtain ⟨uz0, uz1, uz2, uz3, uz4, uz5, uz6, uz7, uz8, uz9, _⟩ := ten hxb
    obtain ⟨vz0, vz1, vz2, vz3, vz4, vz5, vz6, vz7, vz8, vz9, _⟩ := ten hxb2
    obtain ⟨mz0, mz1, mz2, mz3, mz4, mz5, mz6, mz7, my0, my1, my2, my3, my4, my5, my6, my7⟩ := eight H3.out.mb
    have hst := fun (_ : True) => uJ (a := 1) (k := r.f1) (i := 0) (x3 := .slice X3 x.f3.length x3) (x4 := .slice X4 x.f4.length x4) (p := 0) (q := 0) (x7 := .slice none 0 0) rfl H3.out.zb rfl rfl rfl
    clear hcall hv hb4 hbw hb5 hxb hxb2
    go_wp2
    ((try simp only [Exit.inBlock, Exit.then]); exact bodyPost_ret (oN rfl rfl (setRow_heap _ _ _ _ _ _ H3.out.zb) rfl) rfl ⟨_, _, _, _, _, _, rfl, ⟨(nY (kN (kN (kN HV.out (jC _ (w.heap.size + 1 + 1) #[.int .u8 1, .int .u32 r.f1, .int .u32 0, .slice X3 x.f3.length x3, .slice none 0 0, .int .i64 0, .int .i64 0, .slice none 0 0]) hgy) (jC _ (w.heap.size + 1 + 1) #[.int .u8 1, .int .u32 r.f1, .int .u32 0, .slice X3 x.f3.length x3, .slice X4 x.f4.length x4, .int .i64 0, .int .i64 0, .slice none 0 0]) hgy) (jC _ (w.heap.size + 1) _) (by omega))).h3, (nY HV.out).d3, (nY (kN (kN (kN HV.out (jC _ (w.heap.size + 1 + 1) #[.int .u8 1, .int .u32 r.f1, .int .u32 0, .slice X3 x.f3.length x3, .slice none 0 0, .int .i64 0, .int .i64 0, .slice none 0 0]) hgy) (jC _ (w.heap.size + 1 + 1) #[.int .u8 1, .int .u32 r.f1, .int .u32 0, .slice X3 x.f3.length x3, .slice X4 x.f4.length x4, .int .i64 0, .int .i64 0, .slice none 0 0]) hgy) (jC _ (w.heap.size + 1) _) (by omega))).h4, (nY HV.out).d4, Kd.C_nil _ _, Nat.le_refl _⟩, below_grown (g := w.heap.size + 1) H3.out.bel (jC _ _ _) (Nat.le_succ _) (Nat.le_refl _)⟩)
  by_cases h4 : K = 4
  · subst h4
    rw [if_neg (by decide), if_pos rfl] at hMM
    subst hMM
    have hs0 := fun (_ : True) => XN r.f2 H.out.mb
    have H1 := iD.mk (H.out.set #[.int .u8 4, .int .u32 r.f1, .int .u32 r.f2, .slice none 0 0, .slice none 0 0, .int .i64 0, .int .i64 0, .slice none 0 0])
    obtain ⟨a00, a01, a02, a03, a04, a05, a06, a07, a08, a09, _⟩ := ten H1.out.tb
    obtain ⟨mz0, mz1, mz2, mz3, mz4, mz5, mz6, mz7, my0, my1, my2, my3, my4, my5, my6, my7⟩ := eight H1.out.mb
    have hst := fun (_ : True) => uJ (a := 4) (k := r.f1) (i := r.f2) (x3 := .slice none 0 0) (x4 := .slice none 0 0) (p := 0) (q := 0) (x7 := .slice none 0 0) rfl H1.out.zb rfl rfl rfl
    go_wp2
    ((try simp only [Exit.inBlock, Exit.then]); exact bodyPost_ret (oN rfl rfl (setRow_heap _ _ _ _ _ _ H1.out.zb) rfl) rfl ⟨_, _, _, _, _, _, rfl, ⟨Kd.C_nil _ _, Nat.le_refl _, Kd.C_nil _ _, Nat.le_refl _, Kd.C_nil _ _, Nat.le_refl _⟩, below_grown (g := w.heap.size + 1) H1.out.bel (jC _ _ _) (Nat.le_succ _) (Nat.le_refl _)⟩)
  by_cases h8 : K = 8
  · subst h8
    rw [if_neg (by decide), if_neg (by decide), if_pos rfl] at hMM
    subst hMM
    have hs0 := fun (_ : True) => WW t.f6 H.out.mb
    have H1 := iD.mk (H.out.set #[.int .u8 8, .int .u32 r.f1, .int .u32 0, .slice none 0 0, .slice none 0 0, .int .i64 t.f6, .int .i64 0, .slice none 0 0])
    obtain ⟨a00, a01, a02, a03, a04, a05, a06, a07, a08, a09, _⟩ := ten H1.out.tb
    have hs1 := fun (_ : True) => WQ t.f7 H1.out.mb
    have H2 := iD.mk (H1.out.set #[.int .u8 8, .int .u32 r.f1, .int .u32 0, .slice none 0 0, .slice none 0 0, .int .i64 t.f6, .int .i64 t.f7, .slice none 0 0])
    obtain ⟨a10, a11, a12, a13, a14, a15, a16, a17, a18, a19, _⟩ := ten H2.out.tb
    obtain ⟨mz0, mz1, mz2, mz3, mz4, mz5, mz6, mz7, my0, my1, my2, my3, my4, my5, my6, my7⟩ := eight H2.out.mb
    have hst := fun (_ : True) => uJ (a := 8) (k := r.f1) (i := 0) (x3 := .slice none 0 0) (x4 := .slice none 0 0) (p := t.f6) (q := t.f7) (x7 := .slice none 0 0) rfl H2.out.zb rfl rfl rfl
    go_wp2
    ((try simp only [Exit.inBlock, Exit.then]); exact bodyPost_ret (oN rfl rfl (setRow_heap _ _ _ _ _ _ H2.out.zb) rfl) rfl ⟨_, _, _, _, _, _, rfl, ⟨Kd.C_nil _ _, Nat.le_refl _, Kd.C_nil _ _, Nat.le_refl _, Kd.C_nil _ _, Nat.le_refl _⟩, below_grown (g := w.heap.size + 1) H2.out.bel (jC _ _ _) (Nat.le_succ _) (Nat.le_refl _)⟩)
  by_cases h9 : K = 9
  · subst h9
    rw [if_neg (by decide), if_neg (by decide), if_neg (by decide), if_pos rfl] at hMM
    subst hMM
    have hs0 := fun (_ : True) => WM T9 t.f8.length t9 H.out.mb
    have H1 := iD.mk (H.out.set #[.int .u8 9, .int .u32 r.f1, .int .u32 0, .slice none 0 0, .slice none 0 0, .int .i64 0, .int .i64 0, .slice T9 t.f8.length t9])
    obtain ⟨a00, a01, a02, a03, a04, a05, a06, a07, a08, a09, _⟩ := ten H1.out.tb
    obtain ⟨mz0, mz1, mz2, mz3, mz4, mz5, mz6, mz7, my0, my1, my2, my3, my4, my5, my6, my7⟩ := eight H1.out.mb
    have hst := fun (_ : True) => uJ (a := 9) (k := r.f1) (i := 0) (x3 := .slice none 0 0) (x4 := .slice none 0 0) (p := 0) (q := 0) (x7 := .slice T9 t.f8.length t9) rfl H1.out.zb rfl rfl rfl
    go_wp2
    ((try simp only [Exit.inBlock, Exit.then]); exact bodyPost_ret (oN rfl rfl (setRow_heap _ _ _ _ _ _ H1.out.zb) rfl) rfl ⟨_, _, _, _, _, _, rfl, ⟨Kd.C_nil _ _, Nat.le_refl _, Kd.C_nil _ _, Nat.le_refl _, (nY (kN H1.out.tv (jC _ (w.heap.size + 1) _) (by omega))).h9, (nY H1.out.tv).d9⟩, below_grown (g := w.heap.size + 1) H1.out.bel (jC _ _ _) (Nat.le_succ _) (Nat.le_refl _)⟩)
  by_cases h10 : K = 10
  · subst h10
    rw [if_neg (by decide), if_neg (by decide), if_neg (by decide), if_neg (by decide), if_pos rfl] at hMM
    subst hMM
    have hs0 := fun (_ : True) => WW t.f6 H.out.mb
    have H1 := iD.mk (H.out.set #[.int .u8 10, .int .u32 r.f1, .int .u32 0, .slice none 0 0, .slice none 0 0, .int .i64 t.f6, .int .i64 0, .slice none 0 0])
    obtain ⟨a00, a01, a02, a03, a04, a05, a06, a07, a08, a09, _⟩ := ten H1.out.tb
    have hs1 := fun (_ : True) => WQ t.f7 H1.out.mb
    have H2 := iD.mk (H1.out.set #[.int .u8 10, .int .u32 r.f1, .int .u32 0, .slice none 0 0, .slice none 0 0, .int .i64 t.f6, .int .i64 t.f7, .slice none 0 0])
    obtain ⟨a10, a11, a12, a13, a14, a15, a16, a17, a18, a19, _⟩ := ten H2.out.tb
    have hs2 := fun (_ : True) => WM T9 t.f8.length t9 H2.out.mb
    have H3 := iD.mk (H2.out.set #[.int .u8 10, .int .u32 r.f1, .int .u32 0, .slice none 0 0, .slice none 0 0, .int .i64 t.f6, .int .i64 t.f7, .slice T9 t.f8.length t9])
    obtain ⟨a20, a21, a22, a23, a24, a25, a26, a27, a28, a29, _⟩ := ten H3.out.tb
    obtain ⟨mz0, mz1, mz2, mz3, mz4, mz5, mz6, mz7, my0, my1, my2, my3, my4, my5, my6, my7⟩ := eight H3.out.mb
    have hst := fun (_ : True) => uJ (a := 10) (k := r.f1) (i := 0) (x3 := .slice none 0 0) (x4 := .slice none 0 0) (p := t.f6) (q := t.f7) (x7 := .slice T9 t.f8.length t9) rfl H3.out.zb rfl rfl rfl
    go_wp2
    ((try simp only [Exit.inBlock, Exit.then]); exact bodyPost_ret (oN rfl rfl (setRow_heap _ _ _ _ _ _ H3.out.zb) rfl) rfl ⟨_, _, _, _, _, _, rfl, ⟨Kd.C_nil _ _, Nat.le_refl _, Kd.C_nil _ _, Nat.le_refl _, (nY (kN H3.out.tv (jC _ (w.heap.size + 1) _) (by omega))).h9, (nY H3.out.tv).d9⟩, below_grown (g := w.heap.size + 1) H3.out.bel (jC _ _ _) (Nat.le_succ _) (Nat.le_refl _)⟩)
  · rw [if_neg h1, if_neg h4, if_neg h8, if_neg h9, if_neg h10] at hMM
    subst hMM
    have hst := fun (_ : True) => uJ (a := K) (k := r.f1) (i := 0) (x3 := .slice none 0 0) (x4 := .slice none 0 0) (p := 0) (q := 0) (x7 := .slice none 0 0) rfl H.out.zb rfl rfl rfl
    go_wp2
    ((try simp only [Exit.inBlock, Exit.then]); exact bodyPost_ret (oN rfl rfl (setRow_heap _ _ _ _ _ _ H.out.zb) rfl) rfl ⟨_, _, _, _, _, _, rfl, ⟨Kd.C_nil _ _, Nat.le_refl _, Kd.C_nil _ _, Nat.le_refl _, Kd.C_nil _ _, Nat.le_refl _⟩, below_grown (g := w.heap.size + 1) H.out.bel (jC _ _ _) (Nat.le_succ _) (Nat.le_refl _)⟩)
end Go.Proofs.YtgfkgppomaapiaaDoor.K
end

section
namespace Go.Proofs.YtgfkgppomaapiaaDoor.K
open Go Go.RowKit Go.Proofs.YtgfkgppomaapiaaDoorW.PrintWords Go.Proofs.YtgfkgppomaapiaaDoorW.PrintLast Go.Proofs.YtgfkgppomaapiaaDoorW.PrintMore Go.Proofs.YtgfkgppomaapiaaDoor.My
theorem MW (x : Int) : 0 ≤ IntKind.u16.wrap x ∧ IntKind.u16.wrap x < 65536 := by
  have : IntKind.u16.wrap x = x % 65536 := by simp [IntKind.wrap, IntKind.bits, IntKind.signed]
  rw [this]
  exact ⟨Int.emod_nonneg _ (by decide), Int.emod_lt_of_pos _ (by decide)⟩
structure rU (m : SMsg) : Prop where
  kind : 1 ≤ m.f0 ∧ m.f0 ≤ 11
  sound : mW m = true
  ok : JM (recM m)
theorem PR (kind : Int) (hk : 0 ≤ kind ∧ kind < 256) (r : SRec) (wr : RecW r) (nodes : Int) : rU (NR kind r nodes) := by
  have hsT := zB 6 r.f1 0 0 [] [] (IntKind.u16.wrap (Int.tmod r.f6 60000)) (IntKind.u16.wrap (Int.tmod r.f7 60000)) r.f8 (by decide) (fun v hv => by cases hv) (MW _) (MW _) (fun e he => (wr.n9 e he).1.1)
  have hsX := zB 0 r.f1 0 nodes r.f4 [] 0 0 [] (by decide) (fun v hv => by cases hv) ⟨by decide, by decide⟩ ⟨by decide, by decide⟩ (fun e he => by cases he)
  have okT := Q7 6 r.f1 0 0 [] [] (IntKind.u16.wrap (Int.tmod r.f6 60000)) (IntKind.u16.wrap (Int.tmod r.f7 60000)) r.f8 wr.ok.id (by decide) (fun e he => by cases he) wr.n9
  have okX := Q7 0 r.f1 0 nodes r.f4 [] 0 0 [] wr.ok.id (by decide) wr.n4 (fun e he => by cases he)
  have hT : ∃ p q es, rC 6 r.f1 0 0 [] [] (IntKind.u16.wrap (Int.tmod r.f6 60000)) (IntKind.u16.wrap (Int.tmod r.f7 60000)) r.f8 = ⟨7, r.f1, 0, [], [], ⟨0, []⟩, p, q, es⟩ := ⟨_, _, _, rfl⟩
  have hX : ∃ n f, rC 0 r.f1 0 nodes r.f4 [] 0 0 [] = ⟨1, r.f1, 0, n, f, ⟨0, []⟩, 0, 0, []⟩ := ⟨_, _, rfl⟩
  unfold NR
  simp only
  obtain ⟨p, q, es, hT⟩ := hT
  obtain ⟨n, f, hX⟩ := hX
  rw [hT] at hsT okT ⊢
  rw [hX] at hsX okX ⊢
  have hid := wr.ok.id
  have hat := wr.ok.at_
  have z32 : (0 : Int) ≤ 0 ∧ (0 : Int) < 4294967296 := by decide
  have h7 : 0 ≤ p ∧ p ≤ 10000 ∧ 0 ≤ q ∧ q ≤ 10000 ∧ lV es = true ∧ es.length ≤ 5000 := by
    have hq := hsT
    rw [RJ] at hq
    simp only [Bool.and_eq_true, decide_eq_true_eq] at hq
    obtain ⟨⟨⟨⟨⟨⟨he, hel⟩, p0⟩, p1⟩, q0⟩, q1⟩, _⟩ := hq
    exact ⟨p0, p1, q0, q1, he, by omega⟩
  obtain ⟨p0, p1, q0, q1, he, hel⟩ := h7
  by_cases h1 : 1 + kind % 11 = 1
  · rw [if_pos h1, h1]
    exact ⟨(show (1 : Int) ≤ 1 ∧ (1 : Int) ≤ 11 from by decide), hsX, okX⟩
  rw [if_neg h1]
  by_cases h4 : 1 + kind % 11 = 4
  · rw [if_pos h4, h4]
    exact ⟨(show (1 : Int) ≤ 4 ∧ (4 : Int) ≤ 11 from by decide), rfl, ⟨by show (0 : Int) ≤ 2 ∧ (2 : Int) < 256; decide, hid, hat, fun e h => (by cases h), z32, fun e h => by cases h⟩⟩
  rw [if_neg h4]
  by_cases h8 : 1 + kind % 11 = 8
  · rw [if_pos h8, h8]
    refine ⟨(show (1 : Int) ≤ 8 ∧ (8 : Int) ≤ 11 from by decide), ?_, ⟨by show (0 : Int) ≤ 7 ∧ (7 : Int) < 256; decide, hid, z32, fun e h => (by cases h), z32, fun e h => by cases h⟩⟩
    rw [qQ (by rfl)]
    simp [recM, mY, jP, lV, nG, p0, p1, q0, q1]
  rw [if_neg h8]
  by_cases h9 : 1 + kind % 11 = 9
  · rw [if_pos h9, h9]
    refine ⟨(show (1 : Int) ≤ 9 ∧ (9 : Int) ≤ 11 from by decide), ?_, ⟨by show (0 : Int) ≤ 7 ∧ (7 : Int) < 256; decide, hid, z32, fun e h => (by cases h), z32, okT.entries⟩⟩
    rw [qQ (by rfl)]
    simp [recM, mY, jP, he, hel]
  rw [if_neg h9]
  by_cases h10 : 1 + kind % 11 = 10
  · rw [if_pos h10, h10]
    exact ⟨(show (1 : Int) ≤ 10 ∧ (10 : Int) ≤ 11 from by decide), hsT, okT⟩
  rw [if_neg h10]
  have hr : 1 ≤ 1 + kind % 11 ∧ 1 + kind % 11 ≤ 11 := by omega
  generalize 1 + kind % 11 = k at *
  have hkm : mY k = 4 := by
    rcases RG k with e | ⟨e, e2⟩ | ⟨e, e2⟩ | ⟨e, e2, e3⟩ | ⟨e, _⟩
    · have := NK k e; omega
    · exact absurd e2 h1
    · exact absurd e2 h4
    · omega
    · exact e
  refine ⟨hr, ?_, ⟨by show (0 : Int) ≤ mY k ∧ mY k < 256; rw [hkm]; decide, hid, z32, fun e h => (by cases h), z32, fun e h => by cases h⟩⟩
  rw [qQ (by simp [preM, h4, h8, h9])]
  unfold recM
  simp only
  rw [hkm]
  rfl
theorem MS {m : SMsg} (h : rU m) : encM m = ([], 3) ∨ (encM m = (m.f0 :: nums (recE (recM m)), 0) ∧ (recE (recM m)).length ≤ 60000) := by
  have hs := h.sound
  have hb : jP (recM m) = true := by unfold mW at hs; simp only [Bool.and_eq_true] at hs; exact hs.2
  unfold encM
  rw [if_pos hs]
  unfold encR
  rw [if_pos hb]
  by_cases hl : 60000 < (recE (recM m)).length
  · rw [if_pos hl]; exact .inl (if_neg (by decide))
  · rw [if_neg hl]; exact .inr ⟨if_pos rfl, by omega⟩
theorem xC {m : SMsg} (h : rU m) : recR m = recM m := by
  unfold recR recM
  rw [VU m.f0 h.kind]
theorem JG {m : SMsg} (h : rU m) : SLen (recR m) := by
  have hs := h.sound
  rw [xC h]
  exact O1 _ (by unfold mW at hs; simp only [Bool.and_eq_true] at hs; exact hs.2)
end Go.Proofs.YtgfkgppomaapiaaDoor.K
end

section
namespace Go.Proofs.YtgfkgppomaapiaaDoor.K
open Go Go.RowKit Go.Proofs.YtgfkgppomaapiaaDoorW.PrintWords Go.Proofs.YtgfkgppomaapiaaDoorW.PrintLast Go.Proofs.YtgfkgppomaapiaaDoorW.PrintMore Go.Proofs.YtgfkgppomaapiaaDoor.My
set_option maxRecDepth 20000 in
set_option maxHeartbeats 8000000 in
theorem UN (m q : SMsg) (hk : m.f0 ≠ q.f0) (A3 : Option Addr) (a3 : Nat) (A4 : Option Addr) (a4 : Nat) (A9 : Option Addr) (a9 : Nat) (B3 : Option Addr) (b3 : Nat) (B4 : Option Addr) (b4 : Nat) (B9 : Option Addr) (b9 : Nat) (w : World) :
    Calls Tryd.prog 34 #[.agg #[.int .u8 m.f0, .int .u32 m.f1, .int .u32 m.f2, .slice A3 m.f3.length a3, .slice A4 m.f4.length a4, .int .i64 m.f5, .int .i64 m.f6, .slice A9 m.f7.length a9], .agg #[.int .u8 q.f0, .int .u32 q.f1, .int .u32 q.f2, .slice B3 q.f3.length b3, .slice B4 q.f4.length b4, .int .i64 q.f5, .int .i64 q.f6, .slice B9 q.f7.length b9]] w fun e w' => e = .returned (.bool false) ∧ Below w.heap.size w w' := by
  have hbw : Below w.heap.size w ((w.alloc (.cells #[.int .u8 m.f0, .int .u32 m.f1, .int .u32 m.f2, .slice A3 m.f3.length a3, .slice A4 m.f4.length a4, .int .i64 m.f5, .int .i64 m.f6, .slice A9 m.f7.length a9] 51)).alloc (.cells #[.int .u8 q.f0, .int .u32 q.f1, .int .u32 q.f2, .slice B3 q.f3.length b3, .slice B4 q.f4.length b4, .int .i64 q.f5, .int .i64 q.f6, .slice B9 q.f7.length b9] 51)) := iF (iF (Below.refl _ _) _) _
  have HX := iD.mk (show ((w.alloc (.cells #[.int .u8 m.f0, .int .u32 m.f1, .int .u32 m.f2, .slice A3 m.f3.length a3, .slice A4 m.f4.length a4, .int .i64 m.f5, .int .i64 m.f6, .slice A9 m.f7.length a9] 51)).alloc (.cells #[.int .u8 q.f0, .int .u32 q.f1, .int .u32 q.f2, .slice B3 q.f3.length b3, .slice B4 q.f4.length b4, .int .i64 q.f5, .int .i64 q.f6, .slice B9 q.f7.length b9] 51)).heap[w.heap.size]? = some (.cells #[.int .u8 m.f0, .int .u32 m.f1, .int .u32 m.f2, .slice A3 m.f3.length a3, .slice A4 m.f4.length a4, .int .i64 m.f5, .int .i64 m.f6, .slice A9 m.f7.length a9] 51 (0, 0)) from jH (iT rfl))
  have HY := iD.mk (show ((w.alloc (.cells #[.int .u8 m.f0, .int .u32 m.f1, .int .u32 m.f2, .slice A3 m.f3.length a3, .slice A4 m.f4.length a4, .int .i64 m.f5, .int .i64 m.f6, .slice A9 m.f7.length a9] 51)).alloc (.cells #[.int .u8 q.f0, .int .u32 q.f1, .int .u32 q.f2, .slice B3 q.f3.length b3, .slice B4 q.f4.length b4, .int .i64 q.f5, .int .i64 q.f6, .slice B9 q.f7.length b9] 51)).heap[w.heap.size + 1]? = some (.cells #[.int .u8 q.f0, .int .u32 q.f1, .int .u32 q.f2, .slice B3 q.f3.length b3, .slice B4 q.f4.length b4, .int .i64 q.f5, .int .i64 q.f6, .slice B9 q.f7.length b9] 51 (0, 0)) from iT (by simp))
  have HB := iD.mk hbw
  have hkk : (m.f0 == q.f0) = false := by simpa using hk
  clear hbw hk
  go_enter Tryd.func34, Tryd.ntmps34
  go_wp2
  generalize ((w.alloc (.cells #[.int .u8 m.f0, .int .u32 m.f1, .int .u32 m.f2, .slice A3 m.f3.length a3, .slice A4 m.f4.length a4, .int .i64 m.f5, .int .i64 m.f6, .slice A9 m.f7.length a9] 51)).alloc (.cells #[.int .u8 q.f0, .int .u32 q.f1, .int .u32 q.f2, .slice B3 q.f3.length b3, .slice B4 q.f4.length b4, .int .i64 q.f5, .int .i64 q.f6, .slice B9 q.f7.length b9] 51)) = W at HX HY HB ⊢
  refine nZ (n := 13) (S := fun w' => w'.cell? ⟨w.heap.size, 0, none⟩ = some (.int .u8 m.f0) ∧ w'.cell? ⟨w.heap.size + 1, 0, none⟩ = some (.int .u8 q.f0)) (ds := []) #[false, false, false, false, false, false, false, false, false, false, false, false, false] (by kernel_rfl) rfl rfl ⟨(iE HX.out 0).trans rfl, (iE HY.out 0).trans rfl⟩ (fun hHeld => ?_)
  refine lD (T := (true, [([], []), ([0], [0]), ([], []), ([2], [2]), ([1, 3], [1, 3]), ([4], [4]), ([5], [5]), ([6, 5, 5], [5, 6]), ([5], [5]), ([8, 7, 5], [5, 8]), ([7, 9, 9, 5], [5, 7, 9]), ([5, 10], [5, 10]), ([11, 10, 0, 1, 2, 3, 4, 5, 6, 7, 8, 9, 10, 11], [11])])) (B := [0, 1, 0, 4, 15, 31, 63, 127, 63, 511, 1023, 2047, 4095]) (by kernel_rfl) (by kernel_rfl) (fun HT_ HW_ => ?_)
  refine jF (i := 0) (N := some 5) (v := ?_) (a' := ?_) #[true, false, false, false, false, false, false, false, false, false, false, false, false] rfl rfl (iZ HT_.out (by kernel_rfl)) (fun _ _ _ h => h) (Or.inl ⟨by rfl, ?_⟩) ?_ ?_
  rotate_left
  · intro w'
    go_simp
    with_reducible rfl
  rotate_left
  · simp only [Act.put, List.setIfInBounds_toArray, List.set_cons_zero, List.set_cons_succ, iP, iY]
    rfl
  refine jF (i := 2) (N := some 7) (v := ?_) (a' := ?_) #[true, false, true, false, false, false, false, false, false, false, false, false, false] rfl rfl (iZ HT_.out (by kernel_rfl)) (fun _ _ _ h => h) (Or.inl ⟨by rfl, ?_⟩) ?_ ?_
  rotate_left
  · intro w'
    go_simp
    with_reducible rfl
  rotate_left
  · simp only [Act.put, List.setIfInBounds_toArray, List.set_cons_zero, List.set_cons_succ, iP, iY]
    rfl
  refine lQ (i := 1) (N := some 6) (v := ?_) (a' := ?_) #[true, true, true, false, false, false, false, false, false, false, false, false, false] rfl rfl (jL HT_.out HW_.out (by kernel_rfl)) (fun _ _ _ h => h) (Or.inl ⟨by rfl, ?_⟩) hHeld ?_ ?_
  rotate_left
  · rintro w' ⟨s0, s1⟩
    go_simp
    with_reducible rfl
  rotate_left
  · simp only [Act.put, List.setIfInBounds_toArray, List.set_cons_zero, List.set_cons_succ, iP, iY]
    rfl
  refine lQ (i := 3) (N := some 8) (v := ?_) (a' := ?_) #[true, true, true, true, false, false, false, false, false, false, false, false, false] rfl rfl (jL HT_.out HW_.out (by kernel_rfl)) (fun _ _ _ h => h) (Or.inl ⟨by rfl, ?_⟩) hHeld ?_ ?_
  rotate_left
  · rintro w' ⟨s0, s1⟩
    go_simp
    with_reducible rfl
  rotate_left
  · simp only [Act.put, List.setIfInBounds_toArray, List.set_cons_zero, List.set_cons_succ, iP, iY]
    rfl
  refine jF (i := 4) (N := some 9) (v := ?_) (a' := ?_) #[true, true, true, true, true, false, false, false, false, false, false, false, false] rfl rfl (iZ HT_.out (by kernel_rfl)) (fun _ _ _ h => h) (Or.inl ⟨by rfl, ?_⟩) ?_ ?_
  rotate_left
  · intro w'
    go_simp
    with_reducible rfl
  rotate_left
  · simp only [Act.put, List.setIfInBounds_toArray, List.set_cons_zero, List.set_cons_succ, iP, iY]
    rfl
  refine jF (i := 5) (N := some 10) (v := ?_) (a' := ?_) #[true, true, true, true, true, true, false, false, false, false, false, false, false] rfl rfl (iZ HT_.out (by kernel_rfl)) (fun _ _ _ h => h) (Or.inl ⟨by rfl, ?_⟩) ?_ ?_
  rotate_left
  · intro w'
    go_simp
    with_reducible rfl
  rotate_left
  · simp only [Act.put, List.setIfInBounds_toArray, List.set_cons_zero, List.set_cons_succ, iP, iY]
    rfl
  refine jF (i := 6) (N := some 11) (v := undef) (a' := ?_) #[true, true, true, true, true, true, true, false, false, false, false, false, false] rfl rfl (iZ HT_.out (by kernel_rfl)) (fun _ _ _ h => h) (Or.inr ⟨by rfl, rfl⟩) ?_ ?_
  rotate_left
  · simp only [Act.put, List.setIfInBounds_toArray, List.set_cons_zero, List.set_cons_succ, iP, iY]
    rfl
  refine jF (i := 7) (N := some 12) (v := undef) (a' := ?_) #[true, true, true, true, true, true, true, true, false, false, false, false, false] rfl rfl (iZ HT_.out (by kernel_rfl)) (fun _ _ _ h => h) (Or.inr ⟨by rfl, rfl⟩) ?_ ?_
  rotate_left
  · simp only [Act.put, List.setIfInBounds_toArray, List.set_cons_zero, List.set_cons_succ, iP, iY]
    rfl
  refine jF (i := 8) (N := some 13) (v := undef) (a' := ?_) #[true, true, true, true, true, true, true, true, true, false, false, false, false] rfl rfl (iZ HT_.out (by kernel_rfl)) (fun _ _ _ h => h) (Or.inr ⟨by rfl, rfl⟩) ?_ ?_
  rotate_left
  · simp only [Act.put, List.setIfInBounds_toArray, List.set_cons_zero, List.set_cons_succ, iP, iY]
    rfl
  refine jF (i := 9) (N := some 14) (v := undef) (a' := ?_) #[true, true, true, true, true, true, true, true, true, true, false, false, false] rfl rfl (iZ HT_.out (by kernel_rfl)) (fun _ _ _ h => h) (Or.inr ⟨by rfl, rfl⟩) ?_ ?_
  rotate_left
  · simp only [Act.put, List.setIfInBounds_toArray, List.set_cons_zero, List.set_cons_succ, iP, iY]
    rfl
  refine jF (i := 10) (N := some 15) (v := undef) (a' := ?_) #[true, true, true, true, true, true, true, true, true, true, true, false, false] rfl rfl (iZ HT_.out (by kernel_rfl)) (fun _ _ _ h => h) (Or.inr ⟨by rfl, rfl⟩) ?_ ?_
  rotate_left
  · simp only [Act.put, List.setIfInBounds_toArray, List.set_cons_zero, List.set_cons_succ, iP, iY]
    rfl
  refine jF (i := 11) (N := some 16) (v := ?_) (a' := ?_) #[true, true, true, true, true, true, true, true, true, true, true, true, false] rfl rfl (iZ HT_.out (by kernel_rfl)) (fun _ _ _ h => h) (Or.inl ⟨by rfl, ?_⟩) ?_ ?_
  rotate_left
  · intro w'
    go_simp
    with_reducible rfl
  rotate_left
  · simp only [Act.put, List.setIfInBounds_toArray, List.set_cons_zero, List.set_cons_succ, iP, iY]
    rfl
  refine jF (i := 12) (N := some 4) (v := ?_) (a' := ?_) #[true, true, true, true, true, true, true, true, true, true, true, true, true] rfl rfl (iZ HT_.out (by kernel_rfl)) (fun _ _ _ h => h) (Or.inl ⟨by rfl, ?_⟩) ?_ ?_
  rotate_left
  · intro w'
    go_simp
    with_reducible rfl
  rotate_left
  · simp only [Act.put, List.setIfInBounds_toArray, List.set_cons_zero, List.set_cons_succ, iP, iY]
    rfl
  refine vW (mZ HT_.out (by kernel_rfl)) ?_
  (try go_wp2)
  go_ret
  exact ⟨rfl, iJ HB.out⟩
/-- What Same tells of two made messages: whether their bytes are the same. -/
theorem P9 (m q : SMsg) (hm : rU m) (hq : rU q) : ∃ t : Bool, (t = true ↔ (m.f0 = q.f0 ∧ recE (recM m) = recE (recM q))) ∧
    ∀ (A3 : Option Addr) (a3 : Nat) (A4 : Option Addr) (a4 : Nat) (A9 : Option Addr) (a9 : Nat) (B3 : Option Addr) (b3 : Nat) (B4 : Option Addr) (b4 : Nat) (B9 : Option Addr) (b9 : Nat) (w : World), pG w m A3 a3 A4 a4 A9 a9 → pG w q B3 b3 B4 b4 B9 b9 →
      Calls Tryd.prog 34 #[.agg #[.int .u8 m.f0, .int .u32 m.f1, .int .u32 m.f2, .slice A3 m.f3.length a3, .slice A4 m.f4.length a4, .int .i64 m.f5, .int .i64 m.f6, .slice A9 m.f7.length a9], .agg #[.int .u8 q.f0, .int .u32 q.f1, .int .u32 q.f2, .slice B3 q.f3.length b3, .slice B4 q.f4.length b4, .int .i64 q.f5, .int .i64 q.f6, .slice B9 q.f7.length b9]] w fun e w' => e = .returned (.bool t) ∧ Below w.heap.size w w' := by
  have sb : ∀ {x : SMsg}, rU x → jP (recM x) = true := fun h => by have := h.sound; unfold mW at this; simp only [Bool.and_eq_true] at this; exact this.2
  by_cases hk : m.f0 = q.f0
  · obtain ⟨t, h1, h2⟩ := VG (recR m) (recR q) (JG hm) (JG hq)
    have h3 : t = true ↔ recE (recM m) = recE (recM q) := by
      rw [h2, xC hm, xC hq]
      exact same_iff _ _ (sb hm) hm.ok (sb hq) hq.ok
    exact ⟨t, ⟨fun h => ⟨hk, h3.1 h⟩, fun h => h3.2 h.2⟩, fun A3 a3 A4 a4 A9 a9 B3 b3 B4 b4 B9 b9 w ha hb => UD m q hk A3 a3 A4 a4 A9 a9 B3 b3 B4 b4 B9 b9 w ha hb h1.rounds⟩
  · exact ⟨false, ⟨fun h => (by cases h), fun h => absurd h.1 hk⟩, fun A3 a3 A4 a4 A9 a9 B3 b3 B4 b4 B9 b9 w _ _ => UN m q hk A3 a3 A4 a4 A9 a9 B3 b3 B4 b4 B9 b9 w⟩
end Go.Proofs.YtgfkgppomaapiaaDoor.K
end

section
namespace Go.Proofs.YtgfkgppomaapiaaDoor.K
open Go Go.RowKit Go.Proofs.YtgfkgppomaapiaaDoorW.PrintWords Go.Proofs.YtgfkgppomaapiaaDoorW.PrintLast Go.Proofs.YtgfkgppomaapiaaDoorW.PrintMore Go.Proofs.YtgfkgppomaapiaaDoor.My
attribute [-go_sem] Instr.storeAt
set_option maxRecDepth 20000 in
set_option maxHeartbeats 16000000 in
theorem J9 (ka kb_ na nb : Int) (hka : 0 ≤ ka ∧ ka < 256) (hkb : 0 ≤ kb_ ∧ kb_ < 256) (r s : SRec) (A3 : Option Addr) (a3 : Nat) (A4 : Option Addr) (a4 : Nat) (A6 : Option Addr) (a6 : Nat) (A9 : Option Addr) (a9 : Nat) (B3 : Option Addr) (b3 : Nat) (B4 : Option Addr) (b4 : Nat) (B6 : Option Addr) (b6 : Nat) (B9 : Option Addr) (b9 : Nat) (w : World) (g : Lies w r A3 a3 A4 a4 A6 a6 A9 a9) (h : Lies w s B3 b3 B4 b4 B6 b6 B9 b9)
    (hfr : ∀ e ∈ r.f8, e.f1.length ≤ 9223372036854775807) (hfs : ∀ e ∈ s.f8, e.f1.length ≤ 9223372036854775807) (X Y : SMsg) (hX : NR ka r na = X) (hY : NR kb_ s nb = Y) (okX : rU X) (okY : rU Y) :
    Calls Tryd.prog 10 #[.int .u8 ka, .int .u8 kb_, .agg #[.int .u8 r.f0, .int .u32 r.f1, .int .u32 r.f2, .slice A3 r.f3.length a3, .slice A4 r.f4.length a4, .int .u32 r.f5.f0, .slice A6 r.f5.f1.length a6, .int .i64 r.f6, .int .i64 r.f7, .slice A9 r.f8.length a9], .agg #[.int .u8 s.f0, .int .u32 s.f1, .int .u32 s.f2, .slice B3 s.f3.length b3, .slice B4 s.f4.length b4, .int .u32 s.f5.f0, .slice B6 s.f5.f1.length b6, .int .i64 s.f6, .int .i64 s.f7, .slice B9 s.f8.length b9], .int .u8 na, .int .u8 nb] w fun e w' => e = .returned (.bool true) ∧ Below w.heap.size w w' := by
  have hbw : Below w.heap.size w ((w.alloc (.cells #[.int .u8 r.f0, .int .u32 r.f1, .int .u32 r.f2, .slice A3 r.f3.length a3, .slice A4 r.f4.length a4, .int .u32 r.f5.f0, .slice A6 r.f5.f1.length a6, .int .i64 r.f6, .int .i64 r.f7, .slice A9 r.f8.length a9] 30)).alloc (.cells #[.int .u8 s.f0, .int .u32 s.f1, .int .u32 s.f2, .slice B3 s.f3.length b3, .slice B4 s.f4.length b4, .int .u32 s.f5.f0, .slice B6 s.f5.f1.length b6, .int .i64 s.f6, .int .i64 s.f7, .slice B9 s.f8.length b9] 30)) := iF (iF (Below.refl _ _) _) _
  have HXB := iD.mk (show ((w.alloc (.cells #[.int .u8 r.f0, .int .u32 r.f1, .int .u32 r.f2, .slice A3 r.f3.length a3, .slice A4 r.f4.length a4, .int .u32 r.f5.f0, .slice A6 r.f5.f1.length a6, .int .i64 r.f6, .int .i64 r.f7, .slice A9 r.f8.length a9] 30)).alloc (.cells #[.int .u8 s.f0, .int .u32 s.f1, .int .u32 s.f2, .slice B3 s.f3.length b3, .slice B4 s.f4.length b4, .int .u32 s.f5.f0, .slice B6 s.f5.f1.length b6, .int .i64 s.f6, .int .i64 s.f7, .slice B9 s.f8.length b9] 30)).heap[w.heap.size]? = some (.cells #[.int .u8 r.f0, .int .u32 r.f1, .int .u32 r.f2, .slice A3 r.f3.length a3, .slice A4 r.f4.length a4, .int .u32 r.f5.f0, .slice A6 r.f5.f1.length a6, .int .i64 r.f6, .int .i64 r.f7, .slice A9 r.f8.length a9] 30 (0, 0)) from jH (iT rfl))
  have HYB := iD.mk (show ((w.alloc (.cells #[.int .u8 r.f0, .int .u32 r.f1, .int .u32 r.f2, .slice A3 r.f3.length a3, .slice A4 r.f4.length a4, .int .u32 r.f5.f0, .slice A6 r.f5.f1.length a6, .int .i64 r.f6, .int .i64 r.f7, .slice A9 r.f8.length a9] 30)).alloc (.cells #[.int .u8 s.f0, .int .u32 s.f1, .int .u32 s.f2, .slice B3 s.f3.length b3, .slice B4 s.f4.length b4, .int .u32 s.f5.f0, .slice B6 s.f5.f1.length b6, .int .i64 s.f6, .int .i64 s.f7, .slice B9 s.f8.length b9] 30)).heap[w.heap.size + 1]? = some (.cells #[.int .u8 s.f0, .int .u32 s.f1, .int .u32 s.f2, .slice B3 s.f3.length b3, .slice B4 s.f4.length b4, .int .u32 s.f5.f0, .slice B6 s.f5.f1.length b6, .int .i64 s.f6, .int .i64 s.f7, .slice B9 s.f8.length b9] 30 (0, 0)) from iT (by simp))
  obtain ⟨v, hheavy⟩ := zQ (g.below hbw)
  obtain ⟨t, ht, hsame⟩ := P9 X Y okX okY
  have G := iD.mk g; have H := iD.mk h; have HFR := iD.mk hfr; have HFS := iD.mk hfs; have HMX := iD.mk hX; have HMY := iD.mk hY; have OX := iD.mk okX; have OY := iD.mk okY; have HB0 := iD.mk hbw; have HT := iD.mk ht; have HSM := iD.mk hsame
  clear g h hfr hfs hX hY okX okY hbw ht hsame
  go_enter Tryd.func10, Tryd.ntmps10
  obtain ⟨xz0, xz1, xz2, xz3, xz4, xz5, xz6, xz7, xz8, xz9, xy0, xy1, xy2, xy3, xy4, xy5, xy6, xy7, xy8, xy9⟩ := ten (HXB.out)
  go_wp2_with fail
  go_at_call 15
  (with_reducible refine hheavy.mono ?_)
  clear xz0 xz1 xz2 xz3 xz4 xz5 xz6 xz7 xz8 xz9 xy0 xy1 xy2 xy3 xy4 xy5 xy6 xy7 xy8 xy9
  clear hheavy
  rintro e w1 ⟨rfl, hb1⟩
  have HB1 := iD.mk (iL HB0.out hb1)
  have HX1 := iD.mk (iM hb1 HXB.out)
  have HY1 := iD.mk (iM hb1 HYB.out)
  clear hb1 HB0 HXB HYB
  by_cases hv : v > 2000
  · go_wp2_with fail
    go_at_call 25
    refine (uV _).mono ?_
    rintro e wk ⟨rfl, hbk⟩
    go_wp2
    go_ret
    exact ⟨rfl, iL HB1.out hbk⟩
  obtain ⟨v2, hheavy⟩ := zQ (H.out.below HB1.out)
  obtain ⟨xz0, xz1, xz2, xz3, xz4, xz5, xz6, xz7, xz8, xz9, xy0, xy1, xy2, xy3, xy4, xy5, xy6, xy7, xy8, xy9⟩ := ten (HY1.out)
  go_wp2_with fail
  go_at_call 15
  (with_reducible refine hheavy.mono ?_)
  clear xz0 xz1 xz2 xz3 xz4 xz5 xz6 xz7 xz8 xz9 xy0 xy1 xy2 xy3 xy4 xy5 xy6 xy7 xy8 xy9
  clear hheavy
  rintro e w2 ⟨rfl, hb2⟩
  have HB2 := iD.mk (iL HB1.out hb2)
  have HX2 := iD.mk (iM hb2 HX1.out)
  have HY2 := iD.mk (iM hb2 HY1.out)
  clear hb2 HB1 HX1 HY1
  by_cases hv2 : v2 > 2000
  · go_wp2_with fail
    go_at_call 25
    refine (uV _).mono ?_
    rintro e wk ⟨rfl, hbk⟩
    go_wp2
    go_ret
    exact ⟨rfl, iL HB2.out hbk⟩
  go_wp2_with fail
  go_at_call 25
  refine (uV _).mono ?_
  rintro e w3 ⟨rfl, hb3⟩
  have HB3 := iD.mk (iL HB2.out hb3)
  have HX3 := iD.mk (iM hb3 HX2.out)
  have HY3 := iD.mk (iM hb3 HY2.out)
  clear hb3 HB2 HX2 HY2
  obtain ⟨xz0, xz1, xz2, xz3, xz4, xz5, xz6, xz7, xz8, xz9, xy0, xy1, xy2, xy3, xy4, xy5, xy6, xy7, xy8, xy9⟩ := ten (HX3.out)
  have hcall := JP ka na hka r A3 a3 A4 a4 A6 a6 A9 a9 w3 (G.out.below HB3.out) HFR.out
  rw [HMX.out] at hcall
  go_wp2_with fail
  go_at_call 27
  refine hcall.mono ?_
  clear xz0 xz1 xz2 xz3 xz4 xz5 xz6 xz7 xz8 xz9 xy0 xy1 xy2 xy3 xy4 xy5 xy6 xy7 xy8 xy9
  clear hcall
  rintro e w4 ⟨C3, c3, C4, c4, C9, c9, rfl, lx, hb4⟩
  have hbm : Below w4.heap.size w4 (w4.alloc (.cells #[.int .u8 X.f0, .int .u32 X.f1, .int .u32 X.f2, .slice C3 X.f3.length c3, .slice C4 X.f4.length c4, .int .i64 X.f5, .int .i64 X.f6, .slice C9 X.f7.length c9] 51)) := iF (Below.refl _ _) _
  have hbb := hb4.trans (hbm.mono hb4.size)
  have HB4 := iD.mk (iL HB3.out hbb)
  have LX4 := iD.mk (lx.below hbm)
  have HY4 := iD.mk (iM hbb HY3.out)
  have HP4 := iD.mk (show (w4.alloc (.cells #[.int .u8 X.f0, .int .u32 X.f1, .int .u32 X.f2, .slice C3 X.f3.length c3, .slice C4 X.f4.length c4, .int .i64 X.f5, .int .i64 X.f6, .slice C9 X.f7.length c9] 51)).heap[w4.heap.size]? = some (.cells #[.int .u8 X.f0, .int .u32 X.f1, .int .u32 X.f2, .slice C3 X.f3.length c3, .slice C4 X.f4.length c4, .int .i64 X.f5, .int .i64 X.f6, .slice C9 X.f7.length c9] 51 (0, 0)) from iT rfl)
  have hsx := fun (_ : True) => run_storeAt_new (P := Tryd.prog) w4 51 #[.int .u8 0, .int .u32 0, .int .u32 0, .slice none 0 0, .slice none 0 0, .int .i64 0, .int .i64 0, .slice none 0 0] #[.int .u8 X.f0, .int .u32 X.f1, .int .u32 X.f2, .slice C3 X.f3.length c3, .slice C4 X.f4.length c4, .int .i64 X.f5, .int .i64 X.f6, .slice C9 X.f7.length c9] (by kernel_rfl) rfl (by simp [Value.oneCell'])
  clear lx hbm hbb hb4 HB3 HX3 HY3
  obtain ⟨xz0, xz1, xz2, xz3, xz4, xz5, xz6, xz7, xz8, xz9, xy0, xy1, xy2, xy3, xy4, xy5, xy6, xy7, xy8, xy9⟩ := ten (HY4.out)
  have hcall := JP kb_ nb hkb s B3 b3 B4 b4 B6 b6 B9 b9 _ (H.out.below HB4.out) HFS.out
  rw [HMY.out] at hcall
  go_wp2_with fail
  go_at_call 27
  refine hcall.mono ?_
  clear xz0 xz1 xz2 xz3 xz4 xz5 xz6 xz7 xz8 xz9 xy0 xy1 xy2 xy3 xy4 xy5 xy6 xy7 xy8 xy9
  clear hcall hsx
  rintro e w5 ⟨D3, d3, D4, d4, D9, d9, rfl, ly, hb5⟩
  have hbm : Below w5.heap.size w5 (w5.alloc (.cells #[.int .u8 Y.f0, .int .u32 Y.f1, .int .u32 Y.f2, .slice D3 Y.f3.length d3, .slice D4 Y.f4.length d4, .int .i64 Y.f5, .int .i64 Y.f6, .slice D9 Y.f7.length d9] 51)) := iF (Below.refl _ _) _
  have hbb := hb5.trans (hbm.mono hb5.size)
  have HB5 := iD.mk (iL HB4.out hbb)
  have LX5 := iD.mk (LX4.out.below hbb)
  have LY5 := iD.mk (ly.below hbm)
  have HP5 := iD.mk (iM hbb HP4.out)
  have HQ5 := iD.mk (show (w5.alloc (.cells #[.int .u8 Y.f0, .int .u32 Y.f1, .int .u32 Y.f2, .slice D3 Y.f3.length d3, .slice D4 Y.f4.length d4, .int .i64 Y.f5, .int .i64 Y.f6, .slice D9 Y.f7.length d9] 51)).heap[w5.heap.size]? = some (.cells #[.int .u8 Y.f0, .int .u32 Y.f1, .int .u32 Y.f2, .slice D3 Y.f3.length d3, .slice D4 Y.f4.length d4, .int .i64 Y.f5, .int .i64 Y.f6, .slice D9 Y.f7.length d9] 51 (0, 0)) from iT rfl)
  have hsx := fun (_ : True) => run_storeAt_new (P := Tryd.prog) w5 51 #[.int .u8 0, .int .u32 0, .int .u32 0, .slice none 0 0, .slice none 0 0, .int .i64 0, .int .i64 0, .slice none 0 0] #[.int .u8 Y.f0, .int .u32 Y.f1, .int .u32 Y.f2, .slice D3 Y.f3.length d3, .slice D4 Y.f4.length d4, .int .i64 Y.f5, .int .i64 Y.f6, .slice D9 Y.f7.length d9] (by kernel_rfl) rfl (by simp [Value.oneCell'])
  clear ly hbm hbb hb5 HB4 LX4 HY4 HP4 G H HFR HFS HMX HMY
  have hxr := OX.out.kind
  have hyr := OY.out.kind
  have hex := MS OX.out
  have hey := MS OY.out
  obtain ⟨⟨E1, E2⟩, hE⟩ : ∃ E : List Int × Int, encM X = E := ⟨_, rfl⟩
  obtain ⟨⟨F1, F2⟩, hF⟩ : ∃ E : List Int × Int, encM Y = E := ⟨_, rfl⟩
  rw [hE] at hex
  rw [hF] at hey
  have hcall := pK X C3 c3 C4 c4 C9 c9 _ LX5.out ⟨by omega, by omega⟩ hE
  have hcall2 := fun w h => pK Y D3 d3 D4 d4 D9 d9 w h ⟨by omega, by omega⟩ hF
  clear hE hF
  obtain ⟨mz0, mz1, mz2, mz3, mz4, mz5, mz6, mz7, my0, my1, my2, my3, my4, my5, my6, my7⟩ := eight (HP5.out)
  go_wp2_with fail
  go_at_call 28
  refine hcall.mono ?_
  rintro e w6 ⟨va, rfl, hra, hb6⟩
  clear hcall hsx mz0 mz1 mz2 mz3 mz4 mz5 mz6 mz7 my0 my1 my2 my3 my4 my5 my6 my7
  obtain ⟨Aa, ca, rfl⟩ := Kd.R_slice hra
  have HB6 := iD.mk (iL HB5.out hb6)
  have LX6 := iD.mk (LX5.out.below hb6); have LY6 := iD.mk (LY5.out.below hb6); have HP6 := iD.mk (iM hb6 HP5.out); have HQ6 := iD.mk (iM hb6 HQ5.out); have HRA := iD.mk hra
  clear hra hb6 HB5 LX5 LY5 HP5 HQ5
  have hcall := hcall2 w6 LY6.out
  clear hcall2
  obtain ⟨mz0, mz1, mz2, mz3, mz4, mz5, mz6, mz7, my0, my1, my2, my3, my4, my5, my6, my7⟩ := eight (HQ6.out)
  go_wp2_with fail
  go_at_call 28
  refine hcall.mono ?_
  rintro e w7 ⟨vb, rfl, hrb, hb7⟩
  clear hcall mz0 mz1 mz2 mz3 mz4 mz5 mz6 mz7 my0 my1 my2 my3 my4 my5 my6 my7
  obtain ⟨Ab, cb, rfl⟩ := Kd.R_slice hrb
  have HB7 := iD.mk (iL HB6.out hb7)
  have LX7 := iD.mk (LX6.out.below hb7); have LY7 := iD.mk (LY6.out.below hb7); have HP7 := iD.mk (iM hb7 HP6.out); have HQ7 := iD.mk (iM hb7 HQ6.out); have HRA7 := iD.mk (Kd.R_below HRA.out hb7); have HRB7 := iD.mk hrb
  clear hrb hb7 HB6 LX6 LY6 HP6 HQ6 HRA
  rcases hex with hex | ⟨hex, _⟩
  · obtain ⟨_, rfl⟩ := Prod.mk.inj hex
    have hf2 : F2 = 3 ∨ F2 = 0 := hey.imp (fun h => (Prod.mk.inj h).2) (fun h => (Prod.mk.inj h.1).2)
    clear hex hey
    rcases hf2 with rfl | rfl <;> (go_wp2_with fail; go_ret; exact ⟨rfl, HB7.out⟩)
  rcases hey with hey | ⟨hey, _⟩
  · obtain ⟨_, rfl⟩ := Prod.mk.inj hex
    obtain ⟨_, rfl⟩ := Prod.mk.inj hey
    clear hex hey
    go_wp2_with fail
    go_ret
    exact ⟨rfl, HB7.out⟩
  obtain ⟨kx, hkx⟩ := zX (show 0 ≤ X.f0 by omega) (show X.f0 < 256 by omega)
  obtain ⟨ky, hky⟩ := zX (show 0 ≤ Y.f0 by omega) (show Y.f0 < 256 by omega)
  have hq : ((strOfNums E1).toList == (strOfNums F1).toList) = t := by
    have e1 : E1 = nums (kx :: recE (recM X)) := by rw [(Prod.mk.inj hex).1, hkx]; rfl
    have e2 : F1 = nums (ky :: recE (recM Y)) := by rw [(Prod.mk.inj hey).1, hky]; rfl
    rw [e1, e2, oM]
    have h1 := HT.out
    have h2 : kx :: recE (recM X) = ky :: recE (recM Y) ↔ (X.f0 = Y.f0 ∧ recE (recM X) = recE (recM Y)) := by
      rw [List.cons.injEq, hkx, hky]
      constructor
      · rintro ⟨e, f⟩; exact ⟨by rw [e], f⟩
      · rintro ⟨e, f⟩; exact ⟨UInt8.toNat_inj.1 (by omega), f⟩
    cases t with
    | true => exact decide_eq_true (h2.2 (h1.1 rfl))
    | false => exact decide_eq_false (fun h => by cases h1.2 (h2.1 h))
  obtain ⟨hz1, rfl⟩ := Prod.mk.inj hex
  obtain ⟨hz2, rfl⟩ := Prod.mk.inj hey
  have HQT := iD.mk hq
  clear hex hey hq hz1 hz2 hkx hky hxr hyr
  go_wp2_with fail
  refine QZ [62, 63, 64, 65, 66, 67, 68, 69, 70, 12] [fun v _ => v = (.slice Aa E1.length ca), fun v _ => v = (.string (strOfNums E1)), fun v _ => v = (.slice Ab F1.length cb), fun v _ => v = (.string (strOfNums F1)), fun v _ => v = (.bool t), fun v _ => v = (.agg #[.int .u8 X.f0, .int .u32 X.f1, .int .u32 X.f2, .slice C3 X.f3.length c3, .slice C4 X.f4.length c4, .int .i64 X.f5, .int .i64 X.f6, .slice C9 X.f7.length c9]), fun v _ => v = (.agg #[.int .u8 Y.f0, .int .u32 Y.f1, .int .u32 Y.f2, .slice D3 Y.f3.length d3, .slice D4 Y.f4.length d4, .int .i64 Y.f5, .int .i64 Y.f6, .slice D9 Y.f7.length d9]), fun v _ => v = (.bool t), fun v _ => v = (.bool true), fun v _ => v = (.bool true)] [0, 1, 2, 3, 4, 5, 6, 7, 8, 9] (true, [([], []), ([0], [0]), ([], []), ([2], [2]), ([1, 3], [1, 3]), ([], []), ([], []), ([5, 6], [5, 6]), ([4, 7], [4, 7]), ([8, 7, 0, 1, 2, 3, 4, 5, 6, 7, 8], [8])]) [0, 1, 0, 4, 15, 0, 0, 96, 255, 511] (by kernel_rfl) (by kernel_rfl) (by kernel_rfl) (by kernel_rfl) (by kernel_rfl) (by kernel_rfl) (by kernel_rfl) (by rfl) (by kernel_rfl) ?_ ?_ ?_
  · exact (jZ (nM _) (jZ (nM _) (jZ (nM _) (jZ (nM _) (jZ (nM _) (jZ (nM _) (jZ (nM _) (jZ (nM _) (jZ (nM _) (jZ (nM _) PW))))))))))
  · refine jJ ?_ ?_
    · intro a w' vs hB hel hd
      have e15 : a.tmps[15]? = some (.slice Aa E1.length ca) := (hel 15 (by kernel_rfl)).trans (by rfl)
      refine ⟨_, rfl, rfl, fun K hK => ?_⟩
      refine jQ (w1 := w') (v := .slice Aa E1.length ca) (by rfl) rfl ?_ (hK _ _ (by exact rfl) (Below.refl _ _))
      · go_simp
        (try simp only [iP, jO])
        (try rfl)
        (try (unfold Go.RowKit.wrap64; omega))
    refine jJ ?_ ?_
    · intro a w' vs hB hel hd
      obtain ⟨f62, r62⟩ := hd 0 (by kernel_rfl)
      have e62 : a.tmps[62]? = some (.slice Aa E1.length ca) := f62.trans (congrArg some (r62 : vs 0 = (.slice Aa E1.length ca)))
      have q1 := IU (Kd.R_below HRA7.out hB)
      refine ⟨_, rfl, rfl, fun K hK => ?_⟩
      refine jQ (w1 := w') (v := .string (strOfNums E1)) (by rfl) rfl ?_ (hK _ _ (by exact rfl) (Below.refl _ _))
      · go_simp
        (try simp only [iP, jO])
        (try rfl)
        (try (unfold Go.RowKit.wrap64; omega))
    refine jJ ?_ ?_
    · intro a w' vs hB hel hd
      have e17 : a.tmps[17]? = some (.slice Ab F1.length cb) := (hel 17 (by kernel_rfl)).trans (by rfl)
      refine ⟨_, rfl, rfl, fun K hK => ?_⟩
      refine jQ (w1 := w') (v := .slice Ab F1.length cb) (by rfl) rfl ?_ (hK _ _ (by exact rfl) (Below.refl _ _))
      · go_simp
        (try simp only [iP, jO])
        (try rfl)
        (try (unfold Go.RowKit.wrap64; omega))
    refine jJ ?_ ?_
    · intro a w' vs hB hel hd
      obtain ⟨f64, r64⟩ := hd 2 (by kernel_rfl)
      have e64 : a.tmps[64]? = some (.slice Ab F1.length cb) := f64.trans (congrArg some (r64 : vs 2 = (.slice Ab F1.length cb)))
      have q1 := IU (Kd.R_below HRB7.out hB)
      refine ⟨_, rfl, rfl, fun K hK => ?_⟩
      refine jQ (w1 := w') (v := .string (strOfNums F1)) (by rfl) rfl ?_ (hK _ _ (by exact rfl) (Below.refl _ _))
      · go_simp
        (try simp only [iP, jO])
        (try rfl)
        (try (unfold Go.RowKit.wrap64; omega))
    refine jJ ?_ ?_
    · intro a w' vs hB hel hd
      obtain ⟨f63, r63⟩ := hd 1 (by kernel_rfl)
      have e63 : a.tmps[63]? = some (.string (strOfNums E1)) := f63.trans (congrArg some (r63 : vs 1 = (.string (strOfNums E1))))
      obtain ⟨f65, r65⟩ := hd 3 (by kernel_rfl)
      have e65 : a.tmps[65]? = some (.string (strOfNums F1)) := f65.trans (congrArg some (r65 : vs 3 = (.string (strOfNums F1))))
      have q1 := HQT.out
      refine ⟨_, rfl, rfl, fun K hK => ?_⟩
      refine jQ (w1 := w') (v := .bool t) (by rfl) rfl ?_ (hK _ _ (by exact rfl) (Below.refl _ _))
      · go_simp
        (try simp only [iP, jO])
        (try rfl)
        (try (unfold Go.RowKit.wrap64; omega))
    refine jJ ?_ ?_
    · intro a w' vs hB hel hd
      have e13 : a.tmps[13]? = some (.pointer (some ⟨w4.heap.size, 0, none⟩)) := (hel 13 (by kernel_rfl)).trans (by rfl)
      obtain ⟨mz0, mz1, mz2, mz3, mz4, mz5, mz6, mz7, my0, my1, my2, my3, my4, my5, my6, my7⟩ := eight (iM hB HP7.out)
      refine ⟨_, rfl, rfl, fun K hK => ?_⟩
      refine jQ (w1 := w') (v := .agg #[.int .u8 X.f0, .int .u32 X.f1, .int .u32 X.f2, .slice C3 X.f3.length c3, .slice C4 X.f4.length c4, .int .i64 X.f5, .int .i64 X.f6, .slice C9 X.f7.length c9]) (by rfl) rfl ?_ (hK _ _ (by exact rfl) (Below.refl _ _))
      · go_simp
        (try simp only [iP, jO])
        (try rfl)
        (try (unfold Go.RowKit.wrap64; omega))
    refine jJ ?_ ?_
    · intro a w' vs hB hel hd
      have e14 : a.tmps[14]? = some (.pointer (some ⟨w5.heap.size, 0, none⟩)) := (hel 14 (by kernel_rfl)).trans (by rfl)
      obtain ⟨mz0, mz1, mz2, mz3, mz4, mz5, mz6, mz7, my0, my1, my2, my3, my4, my5, my6, my7⟩ := eight (iM hB HQ7.out)
      refine ⟨_, rfl, rfl, fun K hK => ?_⟩
      refine jQ (w1 := w') (v := .agg #[.int .u8 Y.f0, .int .u32 Y.f1, .int .u32 Y.f2, .slice D3 Y.f3.length d3, .slice D4 Y.f4.length d4, .int .i64 Y.f5, .int .i64 Y.f6, .slice D9 Y.f7.length d9]) (by rfl) rfl ?_ (hK _ _ (by exact rfl) (Below.refl _ _))
      · go_simp
        (try simp only [iP, jO])
        (try rfl)
        (try (unfold Go.RowKit.wrap64; omega))
    refine jJ ?_ ?_
    · intro a w' vs hB hel hd
      obtain ⟨f67, r67⟩ := hd 5 (by kernel_rfl)
      have e67 : a.tmps[67]? = some (.agg #[.int .u8 X.f0, .int .u32 X.f1, .int .u32 X.f2, .slice C3 X.f3.length c3, .slice C4 X.f4.length c4, .int .i64 X.f5, .int .i64 X.f6, .slice C9 X.f7.length c9]) := f67.trans (congrArg some (r67 : vs 5 = (.agg #[.int .u8 X.f0, .int .u32 X.f1, .int .u32 X.f2, .slice C3 X.f3.length c3, .slice C4 X.f4.length c4, .int .i64 X.f5, .int .i64 X.f6, .slice C9 X.f7.length c9])))
      obtain ⟨f68, r68⟩ := hd 6 (by kernel_rfl)
      have e68 : a.tmps[68]? = some (.agg #[.int .u8 Y.f0, .int .u32 Y.f1, .int .u32 Y.f2, .slice D3 Y.f3.length d3, .slice D4 Y.f4.length d4, .int .i64 Y.f5, .int .i64 Y.f6, .slice D9 Y.f7.length d9]) := f68.trans (congrArg some (r68 : vs 6 = (.agg #[.int .u8 Y.f0, .int .u32 Y.f1, .int .u32 Y.f2, .slice D3 Y.f3.length d3, .slice D4 Y.f4.length d4, .int .i64 Y.f5, .int .i64 Y.f6, .slice D9 Y.f7.length d9])))
      refine ⟨_, rfl, rfl, fun K hK => ?_⟩
      refine pW Tryd.func34 (by kernel_rfl) rfl #[.agg #[.int .u8 X.f0, .int .u32 X.f1, .int .u32 X.f2, .slice C3 X.f3.length c3, .slice C4 X.f4.length c4, .int .i64 X.f5, .int .i64 X.f6, .slice C9 X.f7.length c9], .agg #[.int .u8 Y.f0, .int .u32 Y.f1, .int .u32 Y.f2, .slice D3 Y.f3.length d3, .slice D4 Y.f4.length d4, .int .i64 Y.f5, .int .i64 Y.f6, .slice D9 Y.f7.length d9]] (by rfl) rfl rfl (by first | (simp only [List.map_toArray, List.map_cons, List.map_nil, Act.eval, Array.getD_eq_getD_getElem?, Option.getD_some, e67, e68]; done) | (simp only [List.map_toArray, List.map_cons, List.map_nil, Act.eval, Array.getD_eq_getD_getElem?, Option.getD_some, e67, e68]; rfl)) ?_
      refine (HSM.out C3 c3 C4 c4 C9 c9 D3 d3 D4 d4 D9 d9 _ (LX7.out.below hB) (LY7.out.below hB)).mono ?_
      rintro e_ w2_ ⟨rfl, hb2_⟩
      exact ⟨_, rfl, hK _ _ (by exact rfl) hb2_⟩
    refine jJ ?_ ?_
    · intro a w' vs hB hel hd
      obtain ⟨f66, r66⟩ := hd 4 (by kernel_rfl)
      have e66 : a.tmps[66]? = some (.bool t) := f66.trans (congrArg some (r66 : vs 4 = (.bool t)))
      obtain ⟨f69, r69⟩ := hd 7 (by kernel_rfl)
      have e69 : a.tmps[69]? = some (.bool t) := f69.trans (congrArg some (r69 : vs 7 = (.bool t)))
      refine ⟨_, rfl, rfl, fun K hK => ?_⟩
      refine jQ (w1 := w') (v := .bool true) (by rfl) rfl ?_ (hK _ _ (by exact rfl) (Below.refl _ _))
      · go_simp
        (try simp only [iP, jO])
        (try rfl)
        (try (unfold Go.RowKit.wrap64; omega))
    refine jJ ?_ ?_
    · intro a w' vs hB hel hd
      obtain ⟨f70, r70⟩ := hd 8 (by kernel_rfl)
      have e70 : a.tmps[70]? = some (.bool true) := f70.trans (congrArg some (r70 : vs 8 = (.bool true)))
      refine ⟨_, rfl, rfl, fun K hK => ?_⟩
      refine jQ (w1 := w') (v := .bool true) (by rfl) rfl ?_ (hK _ _ (by exact rfl) (Below.refl _ _))
      · go_simp
        (try simp only [iP, jO])
        (try rfl)
        (try (unfold Go.RowKit.wrap64; omega))
    exact zM
  · intro vs w' hB hR
    have hv0_ : vs 0 = (.slice Aa E1.length ca) := hR 0 (by kernel_rfl)
    have hv1_ : vs 1 = (.string (strOfNums E1)) := hR 1 (by kernel_rfl)
    have hv2_ : vs 2 = (.slice Ab F1.length cb) := hR 2 (by kernel_rfl)
    have hv3_ : vs 3 = (.string (strOfNums F1)) := hR 3 (by kernel_rfl)
    have hv4_ : vs 4 = (.bool t) := hR 4 (by kernel_rfl)
    have hv5_ : vs 5 = (.agg #[.int .u8 X.f0, .int .u32 X.f1, .int .u32 X.f2, .slice C3 X.f3.length c3, .slice C4 X.f4.length c4, .int .i64 X.f5, .int .i64 X.f6, .slice C9 X.f7.length c9]) := hR 5 (by kernel_rfl)
    have hv6_ : vs 6 = (.agg #[.int .u8 Y.f0, .int .u32 Y.f1, .int .u32 Y.f2, .slice D3 Y.f3.length d3, .slice D4 Y.f4.length d4, .int .i64 Y.f5, .int .i64 Y.f6, .slice D9 Y.f7.length d9]) := hR 6 (by kernel_rfl)
    have hv7_ : vs 7 = (.bool t) := hR 7 (by kernel_rfl)
    have hv8_ : vs 8 = (.bool true) := hR 8 (by kernel_rfl)
    have hv9_ : vs 9 = (.bool true) := hR 9 (by kernel_rfl)
    rw [show entries [62, 63, 64, 65, 66, 67, 68, 69, 70, 12] vs = [(0, 62, vs 0), (1, 63, vs 1), (2, 64, vs 2), (3, 65, vs 3), (4, 66, vs 4), (5, 67, vs 5), (6, 68, vs 6), (7, 69, vs 7), (8, 70, vs 8), (9, 12, vs 9)] from rfl]
    simp only [jV, if_true, Act.put, List.setIfInBounds_toArray, List.set_cons_zero, List.set_cons_succ, hv0_, hv1_, hv2_, hv3_, hv4_, hv5_, hv6_, hv7_, hv8_, hv9_]
    clear hR hv0_ hv1_ hv2_ hv3_ hv4_ hv5_ hv6_ hv7_ hv8_ hv9_
    go_wp2
    go_ret
    exact ⟨rfl, iL HB7.out hB⟩
theorem msgApart_walk (a b : Int) (r : SRec) (cs : Array Value) (s : SRec) (ds : Array Value) (n m : Int) (W : World) (ha : 0 ≤ a ∧ a < 256) (hb : 0 ≤ b ∧ b < 256) (hr : WB W r cs.toList) (wr : RecW r) (hs : WB W s ds.toList) (ws : RecW s) (_ : 0 ≤ n ∧ n < 256) (_ : 0 ≤ m ∧ m < 256) :
    Calls Tryd.prog 10 #[.int .u8 a, .int .u8 b, .agg cs, .agg ds, .int .u8 n, .int .u8 m] W fun e w' => e = .returned (.bool true) ∧ Below W.heap.size W w' := by
  obtain ⟨A3, a3, A4, a4, A6, a6, A9, a9, e, h3, d3, h4, d4, h6, d6, h9, d9⟩ := hr
  have e : cs = #[.int .u8 r.f0, .int .u32 r.f1, .int .u32 r.f2, .slice A3 r.f3.length a3, .slice A4 r.f4.length a4, .int .u32 r.f5.f0, .slice A6 r.f5.f1.length a6, .int .i64 r.f6, .int .i64 r.f7, .slice A9 r.f8.length a9] := by cases cs with | mk l => exact congrArg Array.mk e
  subst e
  obtain ⟨B3, b3, B4, b4, B6, b6, B9, b9, e', g3, q3, g4, q4, g6, q6, g9, q9⟩ := hs
  have e' : ds = #[.int .u8 s.f0, .int .u32 s.f1, .int .u32 s.f2, .slice B3 s.f3.length b3, .slice B4 s.f4.length b4, .int .u32 s.f5.f0, .slice B6 s.f5.f1.length b6, .int .i64 s.f6, .int .i64 s.f7, .slice B9 s.f8.length b9] := by cases ds with | mk l => exact congrArg Array.mk e'
  subst e'
  exact J9 a b n m ha hb r s A3 a3 A4 a4 A6 a6 A9 a9 B3 b3 B4 b4 B6 b6 B9 b9 W ⟨h3, d3, h4, d4, h6, d6, h9, d9⟩ ⟨g3, q3, g4, q4, g6, q6, g9, q9⟩ (fun e he => ((LD h3 h4 h6 h9).f9 e he).1) (fun e he => ((LD g3 g4 g6 g9).f9 e he).1) _ _ rfl rfl (PR a ha r wr n) (PR b hb s ws m)
end Go.Proofs.YtgfkgppomaapiaaDoor.K
end
