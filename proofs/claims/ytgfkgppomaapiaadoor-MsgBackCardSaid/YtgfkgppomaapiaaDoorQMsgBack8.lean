/- Parts of the proof, one behind the other: MsgD, MsgN, MsgQ, MsgT, MsgM, MsgW2, MsgB, MsgW3. -/
import Derived.Test.YtgfkgppomaapiaaDoorQMsgBack7
set_option linter.unusedVariables false
set_option linter.unusedSimpArgs false
section
namespace Go.Proofs.YtgfkgppomaapiaaDoor.K
open Go Go.RowKit Go.Proofs.YtgfkgppomaapiaaDoorW.PrintWords Go.Proofs.YtgfkgppomaapiaaDoorW.PrintLast Go.Proofs.YtgfkgppomaapiaaDoorW.PrintMore Go.Proofs.YtgfkgppomaapiaaDoor.My
theorem nJ {w : World} {A : Option Addr} {n : Nat} {l : List UInt8} (h : kb.C w A n l) : (Kd.int .u8).C w A n (nums l) := by
  refine ⟨by rw [kD]; exact h.1, h.2.1, fun hn => ?_⟩
  obtain ⟨ad, e, hc⟩ := h.2.2 hn
  refine ⟨ad, e, fun j p hj => ?_⟩
  unfold nums at hj
  rw [List.getElem?_map] at hj
  obtain ⟨b, hb, rfl⟩ := Option.map_eq_some_iff.1 hj
  exact hc j b hb
def pM (w : World) (d : SMsg × Int) (e : Ending) (w' : World) : Prop := ∃ A3 a3 A4 a4 A9 a9, e = .returned (.tuple #[.agg #[.int .u8 d.1.f0, .int .u32 d.1.f1, .int .u32 d.1.f2, .slice A3 d.1.f3.length a3, .slice A4 d.1.f4.length a4, .int .i64 d.1.f5, .int .i64 d.1.f6, .slice A9 d.1.f7.length a9], .int .u16 d.2]) ∧ qM w' d.1 A3 a3 A4 a4 A9 a9 ∧ Below w.heap.size w w'
theorem OL (w : World) : qM w lT none 0 none 0 none 0 := ⟨Kd.C_nil _ _, Nat.le_refl _, Kd.C_nil _ _, Nat.le_refl _, Kd.C_nil _ _, Nat.le_refl _⟩
theorem TS (w w' : World) (c : Int) (h : Below w.heap.size w w') : pM w (lT, c) (.returned (.tuple #[.agg #[.int .u8 0, .int .u32 0, .int .u32 0, .slice none 0 0, .slice none 0 0, .int .i64 0, .int .i64 0, .slice none 0 0], .int .u16 c])) w' := ⟨none, 0, none, 0, none, 0, rfl, OL _, h⟩
theorem uU (w W : World) (h : Below w.heap.size w W) (c : Int) : pM w (lT, c) (.returned (.tuple #[.agg #[.int .u8 0, .int .u32 0, .int .u32 0, .slice none 0 0, .slice none 0 0, .int .i64 0, .int .i64 0, .slice none 0 0], .int .u16 c])) (W.setRow w.heap.size #[.int .u8 0, .int .u32 0, .int .u32 0, .slice none 0 0, .slice none 0 0, .int .i64 0, .int .i64 0, .slice none 0 0]) :=
  TS w _ c (below_grown h (jC W w.heap.size _) (Nat.le_refl _) (Nat.le_refl _))
theorem qQ {tmps : Array Value} {W : World} {p u : Tmp} {b : Nat} {cs : Array Value} {x : Value} (h : Tryd.f32.results = #[.cell p 51, .tmp u]) (hp : tmps.getD p undef = .pointer (some ⟨b, 0, none⟩)) (hu : tmps.getD u undef = x) (hx : W.heap[b]? = some (.cells cs 51 (0, 0))) (hs : cs.size = 8) :
    (results Tryd.f32 tmps).run Tryd.prog W = .ok (.tuple #[.agg cs, x]) W := by
  have h1 := run_loadVar_row (P := Tryd.prog) W b 51 51 cs (0, 0) _ hx Tryd.underlying51 rfl (by rw [hs]; kernel_rfl)
  rw [results_cell_tmp h, hp, hu]
  simp [asAddr, h1, Result.andThen]
theorem MH : (Tryd.prog).built 51 (#[] : Array (Nat × Value)).toList = some #[.int .u8 0, .int .u32 0, .int .u32 0, .slice none 0 0, .slice none 0 0, .int .i64 0, .int .i64 0, .slice none 0 0] := by kernel_rfl
theorem MV (w : World) : (Instr.build 51 #[]).run Tryd.prog w = .ok (.agg #[.int .u8 0, .int .u32 0, .int .u32 0, .slice none 0 0, .slice none 0 0, .int .i64 0, .int .i64 0, .slice none 0 0]) w := run_build w _ _ _ MH
theorem RU (k i a p q : Int) (A3 : Option Addr) (n3 c3 : Nat) (A4 : Option Addr) (n4 c4 : Nat) (A9 : Option Addr) (n9 c9 : Nat) : (Tryd.prog).built 51 (#[(0, .int .u8 k), (1, .int .u32 i), (2, .int .u32 a), (3, .slice A3 n3 c3), (4, .slice A4 n4 c4), (5, .int .i64 p), (6, .int .i64 q), (7, .slice A9 n9 c9)] : Array (Nat × Value)).toList = some #[.int .u8 k, .int .u32 i, .int .u32 a, .slice A3 n3 c3, .slice A4 n4 c4, .int .i64 p, .int .i64 q, .slice A9 n9 c9] := by kernel_rfl
theorem XN (w : World) (k i a p q : Int) (A3 : Option Addr) (n3 c3 : Nat) (A4 : Option Addr) (n4 c4 : Nat) (A9 : Option Addr) (n9 c9 : Nat) : (Instr.build 51 #[(0, .int .u8 k), (1, .int .u32 i), (2, .int .u32 a), (3, .slice A3 n3 c3), (4, .slice A4 n4 c4), (5, .int .i64 p), (6, .int .i64 q), (7, .slice A9 n9 c9)]).run Tryd.prog w = .ok (.agg #[.int .u8 k, .int .u32 i, .int .u32 a, .slice A3 n3 c3, .slice A4 n4 c4, .int .i64 p, .int .i64 q, .slice A9 n9 c9]) w := run_build w _ _ _ (RU k i a p q A3 n3 c3 A4 n4 c4 A9 n9 c9)
theorem XX {w : World} {b : Nat} {cs : Array Value} (h : w.heap[b]? = some (.cells cs 51 (0, 0))) (hs : cs.size = 8) : (Instr.loadAt 51 (.pointer (some ⟨b, 0, none⟩))).run Tryd.prog w = .ok (.agg cs) w := by
  simp only [Instr.loadAt, Instr.sureAddr, Sem.run_bind, Sem.run_pure, Result.andThen]
  exact run_loadVar_row w b 51 51 cs (0, 0) _ h Tryd.underlying51 rfl (by rw [hs]; kernel_rfl)
theorem uI {w : World} {b : Nat} {cs : Array Value} {a k i : Int} {x3 x4 x7 : Value} {p q : Int} (hs : cs.size = 8) (h : w.heap[b]? = some (.cells cs 51 (0, 0))) (o3 : x3.oneCell' = true) (o4 : x4.oneCell' = true) (o7 : x7.oneCell' = true) :
    (Instr.storeAt 51 (.pointer (some ⟨b, 0, none⟩)) (.agg #[.int .u8 a, .int .u32 k, .int .u32 i, x3, x4, .int .i64 p, .int .i64 q, x7])).run Tryd.prog w = .ok () (w.setRow b #[.int .u8 a, .int .u32 k, .int .u32 i, x3, x4, .int .i64 p, .int .i64 q, x7]) := by
  simp only [Instr.storeAt, Instr.sureAddr, Sem.run_bind, Sem.run_pure, Result.andThen]
  exact run_storeVar_row w b 51 51 _ _ h (by kernel_rfl) hs (by simp [o3, o4, o7, show ∀ k n, (Value.int k n).oneCell' = true from fun _ _ => rfl])
theorem uB {w : World} {b : Nat} {cs : Array Value} (hs : cs.size = 8) (h : w.heap[b]? = some (.cells cs 51 (0, 0))) : (Instr.storeAt 51 (.pointer (some ⟨b, 0, none⟩)) (.agg #[.int .u8 0, .int .u32 0, .int .u32 0, .slice none 0 0, .slice none 0 0, .int .i64 0, .int .i64 0, .slice none 0 0])).run Tryd.prog w = .ok () (w.setRow b #[.int .u8 0, .int .u32 0, .int .u32 0, .slice none 0 0, .slice none 0 0, .int .i64 0, .int .i64 0, .slice none 0 0]) := uI (a := 0) (k := 0) (i := 0) (x3 := .slice none 0 0) (x4 := .slice none 0 0) (p := 0) (q := 0) (x7 := .slice none 0 0) hs h rfl rfl rfl
theorem J6 (k8 : UInt8) (t : List UInt8) (x : SRec) (h : decR t = (x, 0)) : decM (k8 :: t) = if encM (msgR k8.toNat x) = (nums (k8 :: t), 0) then (msgR k8.toNat x, 0) else (lT, 160) := by
  show (if (decR t).2 = 0 then _ else _) = _
  rw [h, if_pos rfl]
theorem MW (k8 : UInt8) (t : List UInt8) (h : (decR t).2 ≠ 0) : decM (k8 :: t) = (lT, 160) := by
  show (if (decR t).2 = 0 then _ else _) = _
  rw [if_neg h]
theorem TJ {base : Nat} {x : SRec} {A3 A4 A6 A9 : Option Addr} {d3 d4 d6 d9 : Nat} {w : World} (h : RecV base x (.agg #[.int .u8 x.f0, .int .u32 x.f1, .int .u32 x.f2, .slice A3 x.f3.length d3, .slice A4 x.f4.length d4, .int .u32 x.f5.f0, .slice A6 x.f5.f1.length d6, .int .i64 x.f6, .int .i64 x.f7, .slice A9 x.f8.length d9]) w) (k : Int) : qM w (msgR k x) A3 d3 A4 d4 A9 d9 := by
  obtain ⟨v3, v4, v6, v9, he, h3, h4, h6, h9⟩ := h
  simp only [Value.agg.injEq, Array.mk.injEq, List.cons.injEq, true_and, and_true] at he
  obtain ⟨rfl, rfl, rfl, rfl⟩ := he
  obtain ⟨_, q3, C3⟩ := Kd.R_reads' h3
  obtain ⟨_, q4, C4⟩ := Kd.R_reads' h4
  obtain ⟨_, q9, C9⟩ := Kd.R_reads' h9
  exact ⟨C3, q3, C4, q4, C9, q9⟩
theorem qN {w : World} {o : Obj} {p : Addr} {v : Value} (h : w.cell? p = some v) : (w.alloc o).cell? p = some v := ((iF (Below.refl w.heap.size w) o).cell (World.block_lt_of_cell? w p h)).trans h
attribute [-go_sem] Instr.build Instr.storeAt
attribute [local go_sem] MV XN
set_option maxRecDepth 20000 in
set_option maxHeartbeats 16000000 in
theorem oZ (A : Option Addr) (c : Nat) (l : List UInt8) (w : World) (hCi : (Kd.int .u8).C w A l.length (nums l)) (hc : l.length ≤ c) :
    Calls Tryd.prog 32 #[.slice A l.length c] w (pM w (decM l)) := by
  cases l with
  | nil =>
    have hst := fun (_ : True) => uB rfl (show (w.alloc (.cells #[.int .u8 0, .int .u32 0, .int .u32 0, .slice none 0 0, .slice none 0 0, .int .i64 0, .int .i64 0, .slice none 0 0] 51)).heap[w.heap.size]? = _ from iW rfl)
    show Calls _ _ _ _ (pM w (lT, 160))
    simp only [List.length_nil]
    go_enter Tryd.func32, Tryd.ntmps32
    go_wp2
    ((try simp only [Exit.inBlock, Exit.then]); exact bodyPost_ret (qQ rfl rfl rfl (setRow_heap _ _ _ _ _ _ (iW rfl)) rfl) rfl (uU w _ (iF (Below.refl _ _) _) 160))
  | cons k8 t =>
    obtain ⟨Wa, hWa⟩ : ∃ Wa, Wa = w.alloc (.cells #[.int .u8 0, .int .u32 0, .int .u32 0, .slice none 0 0, .slice none 0 0, .int .i64 0, .int .i64 0, .slice none 0 0] 51) := ⟨_, rfl⟩
    have hBa : Below w.heap.size w Wa := by rw [hWa]; exact iF (Below.refl _ _) _
    have HXA := iD.mk (show Wa.heap[w.heap.size]? = some (.cells #[.int .u8 0, .int .u32 0, .int .u32 0, .slice none 0 0, .slice none 0 0, .int .i64 0, .int .i64 0, .slice none 0 0] 51 (0, 0)) from by rw [hWa]; exact iW rfl)
    have HBA := iD.mk hBa
    have hC := oI (Kd.C_below hCi hBa)
    have hm := kX hC
    obtain ⟨A2, hcut, hC2⟩ := XU hC hc 1 1 rfl (by simp)
    obtain ⟨ad, rfl, hk0⟩ := C_at hC 0 (by simp)
    have hk0 : Wa.cell? (ad.add 0) = some (.int .u8 (k8.toNat : Int)) := hk0
    rw [Addr.add_zero'] at hk0
    have HC := iD.mk hC
    have HC2 := iD.mk (show kb.C Wa A2 t.length t from hC2)
    have HWA := iD.mk hWa
    have HK0 := iD.mk hk0
    have hcall := decode_any A2 (c - 1) t Wa (nJ HC2.out) (by simp at hc; omega)
    simp only [List.length_cons, Nat.add_sub_cancel] at hcut hc hm ⊢
    have hnz : ¬ ((t.length : Int) + 1 = 0) := by omega
    have hk255 := k8.toNat_lt
    clear hCi hBa hC hC2 hWa hk0
    obtain ⟨⟨x, E⟩, hD⟩ : ∃ D, decR t = D := ⟨_, rfl⟩
    rw [hD] at hcall
    have HD := iD.mk hD
    clear hD
    go_enter Tryd.func32, Tryd.ntmps32
    go_wp2_with fail
    rw [← HWA.out]
    go_at_call 22
    refine hcall.mono ?_
    rintro e w1 ⟨v, rfl, ⟨v3, v4, v6, v9, rfl, h3, h4, h6, h9⟩, hB⟩
    obtain ⟨A3, d3, rfl⟩ := Kd.R_slice h3
    obtain ⟨A4, d4, rfl⟩ := Kd.R_slice h4
    obtain ⟨A6, d6, rfl⟩ := Kd.R_slice h6
    obtain ⟨A9, d9, rfl⟩ := Kd.R_slice h9
    obtain ⟨_, q3, C3⟩ := Kd.R_reads' h3
    obtain ⟨_, q4, C4⟩ := Kd.R_reads' h4
    obtain ⟨_, q9, C9⟩ := Kd.R_reads' h9
    have hbw : Below w1.heap.size w1 (w1.alloc (.cells #[.int .u8 x.f0, .int .u32 x.f1, .int .u32 x.f2, .slice A3 x.f3.length d3, .slice A4 x.f4.length d4, .int .u32 x.f5.f0, .slice A6 x.f5.f1.length d6, .int .i64 x.f6, .int .i64 x.f7, .slice A9 x.f8.length d9] 30)) := iF (Below.refl _ _) _
    have hsx := fun (_ : True) => run_storeAt_new (P := Tryd.prog) w1 30 #[.int .u8 0, .int .u32 0, .int .u32 0, .slice none 0 0, .slice none 0 0, .int .u32 0, .slice none 0 0, .int .i64 0, .int .i64 0, .slice none 0 0] #[.int .u8 x.f0, .int .u32 x.f1, .int .u32 x.f2, .slice A3 x.f3.length d3, .slice A4 x.f4.length d4, .int .u32 x.f5.f0, .slice A6 x.f5.f1.length d6, .int .i64 x.f6, .int .i64 x.f7, .slice A9 x.f8.length d9] (by kernel_rfl) rfl (by simp [Value.oneCell'])
    have HXR := iD.mk (show (w1.alloc (.cells #[.int .u8 x.f0, .int .u32 x.f1, .int .u32 x.f2, .slice A3 x.f3.length d3, .slice A4 x.f4.length d4, .int .u32 x.f5.f0, .slice A6 x.f5.f1.length d6, .int .i64 x.f6, .int .i64 x.f7, .slice A9 x.f8.length d9] 30)).heap[w1.heap.size]? = some (.cells #[.int .u8 x.f0, .int .u32 x.f1, .int .u32 x.f2, .slice A3 x.f3.length d3, .slice A4 x.f4.length d4, .int .u32 x.f5.f0, .slice A6 x.f5.f1.length d6, .int .i64 x.f6, .int .i64 x.f7, .slice A9 x.f8.length d9] 30 (0, 0)) from iW rfl)
    have hb1 := hB.trans (hbw.mono hB.size)
    have HX1 := iD.mk (iO hb1 HXA.out)
    have HB1 := iD.mk (HBA.out.trans (hb1.mono HBA.out.size))
    have HC1 := iD.mk (Kd.C_below HC.out hb1)
    have HK1 := iD.mk ((hb1.cell (World.block_lt_of_cell? _ _ HK0.out)).trans HK0.out)
    have HLM := iD.mk (show qM _ (msgR k8.toNat x) A3 d3 A4 d4 A9 d9 from ⟨Kd.C_below C3 hbw, q3, Kd.C_below C4 hbw, q4, Kd.C_below C9 hbw, q9⟩)
    have HV := iD.mk (lC (show RecV Wa.heap.size x _ w1 from ⟨_, _, _, _, rfl, h3, h4, h6, h9⟩) hbw)
    have HLT := iD.mk (jY HXA.out)
    clear h3 h4 h6 h9 C3 C4 C9 q3 q4 q9 hB hbw hcall hb1 HK0 HXA HBA
    by_cases hE : E = 0
    · subst hE
      obtain ⟨W, hW⟩ : ∃ W, W = w1.alloc (.cells #[.int .u8 x.f0, .int .u32 x.f1, .int .u32 x.f2, .slice A3 x.f3.length d3, .slice A4 x.f4.length d4, .int .u32 x.f5.f0, .slice A6 x.f5.f1.length d6, .int .i64 x.f6, .int .i64 x.f7, .slice A9 x.f8.length d9] 30) := ⟨_, rfl⟩
      have HW := iD.mk hW
      rw [← hW] at HXR HX1 HB1 HC1 HK1 HLM HV
      have hgs : w1.heap.size + 1 = W.heap.size := by rw [hW]; simp
      clear hW
      have hR := J6 k8 t x HD.out
      go_wp2
      rw [← HW.out]
      clear hsx
      have hsn := fun (_ : True) => uI (a := (k8.toNat : Int)) (k := x.f1) (i := x.f2) (x3 := .slice A3 x.f3.length d3) (x4 := .slice A4 x.f4.length d4) (p := x.f6) (q := x.f7) (x7 := .slice A9 x.f8.length d9) rfl (show ((W.alloc (.cells #[.int .u8 0, .int .u32 0, .int .u32 0, .slice none 0 0, .slice none 0 0, .int .i64 0, .int .i64 0, .slice none 0 0] 51)).drew).heap[W.heap.size]? = some (.cells #[.int .u8 0, .int .u32 0, .int .u32 0, .slice none 0 0, .slice none 0 0, .int .i64 0, .int .i64 0, .slice none 0 0] 51 (0, 0)) from iW rfl) rfl rfl rfl
      have h0t : (0 : Int) < (((t.length + 1 : Nat)) : Int) := by omega
      have h0u : (0 : Nat) < t.length + 1 := by omega
      refine oJ (n := 20) (S := fun w' => w'.cell? ad = some (.int .u8 (k8.toNat : Int)) ∧ w'.cell? ⟨w1.heap.size, 1, none⟩ = some (.int .u32 x.f1) ∧ w'.cell? ⟨w1.heap.size, 2, none⟩ = some (.int .u32 x.f2) ∧ w'.cell? ⟨w1.heap.size, 3, none⟩ = some (.slice A3 x.f3.length d3) ∧ w'.cell? ⟨w1.heap.size, 4, none⟩ = some (.slice A4 x.f4.length d4) ∧ w'.cell? ⟨w1.heap.size, 7, none⟩ = some (.int .i64 x.f6) ∧ w'.cell? ⟨w1.heap.size, 8, none⟩ = some (.int .i64 x.f7) ∧ w'.cell? ⟨w1.heap.size, 9, none⟩ = some (.slice A9 x.f8.length d9)) (ds := [19]) #[false, false, false, false, false, false, false, false, false, false, false, false, false, false, false, false, false, false, false, false] (by kernel_rfl) rfl rfl ⟨HK1.out, (iE HXR.out 1).trans rfl, (iE HXR.out 2).trans rfl, (iE HXR.out 3).trans rfl, (iE HXR.out 4).trans rfl, (iE HXR.out 7).trans rfl, (iE HXR.out 8).trans rfl, (iE HXR.out 9).trans rfl⟩ (fun hHeld => ?_)
      refine lL (T := (true, [([], []), ([0], [0]), ([1], [1]), ([], []), ([3], [3]), ([], []), ([5], [5]), ([], []), ([7], [7]), ([], []), ([9], [9]), ([], []), ([11], [11]), ([], []), ([13], [13]), ([], []), ([15], [15]), ([2, 4, 6, 8, 10, 12, 14, 16], [2, 4, 6, 8, 10, 12, 14, 16]), ([], []), ([18, 17, 0, 1, 2, 3, 4, 5, 6, 7, 8, 9, 10, 11, 12, 13, 14, 15, 16, 17, 18], [17, 18])])) (B := [0, 1, 3, 0, 8, 0, 32, 0, 128, 0, 512, 0, 2048, 0, 8192, 0, 32768, 131071, 0, 524287]) (by kernel_rfl) (by kernel_rfl) (fun HT_ HW_ => ?_)
      refine jG (i := 0) (N := some 21) (v := ?_) (a' := ?_) #[true, false, false, false, false, false, false, false, false, false, false, false, false, false, false, false, false, false, false, false] rfl rfl (jB HT_.out (by kernel_rfl)) (fun _ _ _ h => h) (Or.inl ⟨by rfl, ?_⟩) ?_ ?_
      rotate_left
      · intro w'
        go_simp
        with_reducible rfl
      rotate_left
      · simp only [Act.put, List.setIfInBounds_toArray, List.set_cons_zero, List.set_cons_succ, iR, jA]
        rfl
      refine jG (i := 1) (N := some 22) (v := ?_) (a' := ?_) #[true, true, false, false, false, false, false, false, false, false, false, false, false, false, false, false, false, false, false, false] rfl rfl (jB HT_.out (by kernel_rfl)) (fun _ _ _ h => h) (Or.inl ⟨by rfl, ?_⟩) ?_ ?_
      rotate_left
      · intro w'
        go_simp
        with_reducible rfl
      rotate_left
      · simp only [Act.put, List.setIfInBounds_toArray, List.set_cons_zero, List.set_cons_succ, iR, jA]
        rfl
      refine jG (i := 3) (N := some 24) (v := ?_) (a' := ?_) #[true, true, false, true, false, false, false, false, false, false, false, false, false, false, false, false, false, false, false, false] rfl rfl (jB HT_.out (by kernel_rfl)) (fun _ _ _ h => h) (Or.inl ⟨by rfl, ?_⟩) ?_ ?_
      rotate_left
      · intro w'
        go_simp
        with_reducible rfl
      rotate_left
      · simp only [Act.put, List.setIfInBounds_toArray, List.set_cons_zero, List.set_cons_succ, iR, jA]
        rfl
      refine jG (i := 5) (N := some 26) (v := ?_) (a' := ?_) #[true, true, false, true, false, true, false, false, false, false, false, false, false, false, false, false, false, false, false, false] rfl rfl (jB HT_.out (by kernel_rfl)) (fun _ _ _ h => h) (Or.inl ⟨by rfl, ?_⟩) ?_ ?_
      rotate_left
      · intro w'
        go_simp
        with_reducible rfl
      rotate_left
      · simp only [Act.put, List.setIfInBounds_toArray, List.set_cons_zero, List.set_cons_succ, iR, jA]
        rfl
      refine jG (i := 7) (N := some 28) (v := ?_) (a' := ?_) #[true, true, false, true, false, true, false, true, false, false, false, false, false, false, false, false, false, false, false, false] rfl rfl (jB HT_.out (by kernel_rfl)) (fun _ _ _ h => h) (Or.inl ⟨by rfl, ?_⟩) ?_ ?_
      rotate_left
      · intro w'
        go_simp
        with_reducible rfl
      rotate_left
      · simp only [Act.put, List.setIfInBounds_toArray, List.set_cons_zero, List.set_cons_succ, iR, jA]
        rfl
      refine jG (i := 9) (N := some 30) (v := ?_) (a' := ?_) #[true, true, false, true, false, true, false, true, false, true, false, false, false, false, false, false, false, false, false, false] rfl rfl (jB HT_.out (by kernel_rfl)) (fun _ _ _ h => h) (Or.inl ⟨by rfl, ?_⟩) ?_ ?_
      rotate_left
      · intro w'
        go_simp
        with_reducible rfl
      rotate_left
      · simp only [Act.put, List.setIfInBounds_toArray, List.set_cons_zero, List.set_cons_succ, iR, jA]
        rfl
      refine jG (i := 11) (N := some 32) (v := ?_) (a' := ?_) #[true, true, false, true, false, true, false, true, false, true, false, true, false, false, false, false, false, false, false, false] rfl rfl (jB HT_.out (by kernel_rfl)) (fun _ _ _ h => h) (Or.inl ⟨by rfl, ?_⟩) ?_ ?_
      rotate_left
      · intro w'
        go_simp
        with_reducible rfl
      rotate_left
      · simp only [Act.put, List.setIfInBounds_toArray, List.set_cons_zero, List.set_cons_succ, iR, jA]
        rfl
      refine jG (i := 13) (N := some 34) (v := ?_) (a' := ?_) #[true, true, false, true, false, true, false, true, false, true, false, true, false, true, false, false, false, false, false, false] rfl rfl (jB HT_.out (by kernel_rfl)) (fun _ _ _ h => h) (Or.inl ⟨by rfl, ?_⟩) ?_ ?_
      rotate_left
      · intro w'
        go_simp
        with_reducible rfl
      rotate_left
      · simp only [Act.put, List.setIfInBounds_toArray, List.set_cons_zero, List.set_cons_succ, iR, jA]
        rfl
      refine jG (i := 15) (N := some 36) (v := ?_) (a' := ?_) #[true, true, false, true, false, true, false, true, false, true, false, true, false, true, false, true, false, false, false, false] rfl rfl (jB HT_.out (by kernel_rfl)) (fun _ _ _ h => h) (Or.inl ⟨by rfl, ?_⟩) ?_ ?_
      rotate_left
      · intro w'
        go_simp
        with_reducible rfl
      rotate_left
      · simp only [Act.put, List.setIfInBounds_toArray, List.set_cons_zero, List.set_cons_succ, iR, jA]
        rfl
      refine lV (i := 2) (N := some 23) (v := ?_) (a' := ?_) #[true, true, true, true, false, true, false, true, false, true, false, true, false, true, false, true, false, false, false, false] rfl rfl (jM HT_.out HW_.out (by kernel_rfl)) (fun _ _ _ h => h) (Or.inl ⟨by rfl, ?_⟩) hHeld ?_ ?_
      rotate_left
      · rintro w' ⟨s0, s1, s2, s3, s4, s5, s6, s7⟩
        go_simp
        with_reducible rfl
      rotate_left
      · simp only [Act.put, List.setIfInBounds_toArray, List.set_cons_zero, List.set_cons_succ, iR, jA]
        rfl
      refine lV (i := 4) (N := some 25) (v := ?_) (a' := ?_) #[true, true, true, true, true, true, false, true, false, true, false, true, false, true, false, true, false, false, false, false] rfl rfl (jM HT_.out HW_.out (by kernel_rfl)) (fun _ _ _ h => h) (Or.inl ⟨by rfl, ?_⟩) hHeld ?_ ?_
      rotate_left
      · rintro w' ⟨s0, s1, s2, s3, s4, s5, s6, s7⟩
        go_simp
        with_reducible rfl
      rotate_left
      · simp only [Act.put, List.setIfInBounds_toArray, List.set_cons_zero, List.set_cons_succ, iR, jA]
        rfl
      refine lV (i := 6) (N := some 27) (v := ?_) (a' := ?_) #[true, true, true, true, true, true, true, true, false, true, false, true, false, true, false, true, false, false, false, false] rfl rfl (jM HT_.out HW_.out (by kernel_rfl)) (fun _ _ _ h => h) (Or.inl ⟨by rfl, ?_⟩) hHeld ?_ ?_
      rotate_left
      · rintro w' ⟨s0, s1, s2, s3, s4, s5, s6, s7⟩
        go_simp
        with_reducible rfl
      rotate_left
      · simp only [Act.put, List.setIfInBounds_toArray, List.set_cons_zero, List.set_cons_succ, iR, jA]
        rfl
      refine lV (i := 8) (N := some 29) (v := ?_) (a' := ?_) #[true, true, true, true, true, true, true, true, true, true, false, true, false, true, false, true, false, false, false, false] rfl rfl (jM HT_.out HW_.out (by kernel_rfl)) (fun _ _ _ h => h) (Or.inl ⟨by rfl, ?_⟩) hHeld ?_ ?_
      rotate_left
      · rintro w' ⟨s0, s1, s2, s3, s4, s5, s6, s7⟩
        go_simp
        with_reducible rfl
      rotate_left
      · simp only [Act.put, List.setIfInBounds_toArray, List.set_cons_zero, List.set_cons_succ, iR, jA]
        rfl
      refine lV (i := 10) (N := some 31) (v := ?_) (a' := ?_) #[true, true, true, true, true, true, true, true, true, true, true, true, false, true, false, true, false, false, false, false] rfl rfl (jM HT_.out HW_.out (by kernel_rfl)) (fun _ _ _ h => h) (Or.inl ⟨by rfl, ?_⟩) hHeld ?_ ?_
      rotate_left
      · rintro w' ⟨s0, s1, s2, s3, s4, s5, s6, s7⟩
        go_simp
        with_reducible rfl
      rotate_left
      · simp only [Act.put, List.setIfInBounds_toArray, List.set_cons_zero, List.set_cons_succ, iR, jA]
        rfl
      refine lV (i := 12) (N := some 33) (v := ?_) (a' := ?_) #[true, true, true, true, true, true, true, true, true, true, true, true, true, true, false, true, false, false, false, false] rfl rfl (jM HT_.out HW_.out (by kernel_rfl)) (fun _ _ _ h => h) (Or.inl ⟨by rfl, ?_⟩) hHeld ?_ ?_
      rotate_left
      · rintro w' ⟨s0, s1, s2, s3, s4, s5, s6, s7⟩
        go_simp
        with_reducible rfl
      rotate_left
      · simp only [Act.put, List.setIfInBounds_toArray, List.set_cons_zero, List.set_cons_succ, iR, jA]
        rfl
      refine lV (i := 14) (N := some 35) (v := ?_) (a' := ?_) #[true, true, true, true, true, true, true, true, true, true, true, true, true, true, true, true, false, false, false, false] rfl rfl (jM HT_.out HW_.out (by kernel_rfl)) (fun _ _ _ h => h) (Or.inl ⟨by rfl, ?_⟩) hHeld ?_ ?_
      rotate_left
      · rintro w' ⟨s0, s1, s2, s3, s4, s5, s6, s7⟩
        go_simp
        with_reducible rfl
      rotate_left
      · simp only [Act.put, List.setIfInBounds_toArray, List.set_cons_zero, List.set_cons_succ, iR, jA]
        rfl
      refine lV (i := 16) (N := some 37) (v := ?_) (a' := ?_) #[true, true, true, true, true, true, true, true, true, true, true, true, true, true, true, true, true, false, false, false] rfl rfl (jM HT_.out HW_.out (by kernel_rfl)) (fun _ _ _ h => h) (Or.inl ⟨by rfl, ?_⟩) hHeld ?_ ?_
      rotate_left
      · rintro w' ⟨s0, s1, s2, s3, s4, s5, s6, s7⟩
        go_simp
        with_reducible rfl
      rotate_left
      · simp only [Act.put, List.setIfInBounds_toArray, List.set_cons_zero, List.set_cons_succ, iR, jA]
        rfl
      refine jG (i := 17) (N := some 38) (v := ?_) (a' := ?_) #[true, true, true, true, true, true, true, true, true, true, true, true, true, true, true, true, true, true, false, false] rfl rfl (jB HT_.out (by kernel_rfl)) (fun _ _ _ h => h) (Or.inl ⟨by rfl, ?_⟩) ?_ ?_
      rotate_left
      · intro w'
        go_simp
        with_reducible rfl
      rotate_left
      · simp only [Act.put, List.setIfInBounds_toArray, List.set_cons_zero, List.set_cons_succ, iR, jA]
        rfl
      refine one_ (i := 18) (N := some 6) #[true, true, true, true, true, true, true, true, true, true, true, true, true, true, true, true, true, true, true, false] rfl rfl (kT HT_.out (by kernel_rfl)) (by decide) (fun K hK => ?_)
      refine jS (w1 := ?_) (v := ?_) (by rfl) rfl ?_ ?_
      rotate_left 2
      · go_simp
        constructor
        · rfl
        · rfl
      refine hK.out _ _ ⟨(qN (w := W.drew) HK1.out), (qN (w := W.drew) ((iE HXR.out 1).trans rfl)), (qN (w := W.drew) ((iE HXR.out 2).trans rfl)), (qN (w := W.drew) ((iE HXR.out 3).trans rfl)), (qN (w := W.drew) ((iE HXR.out 4).trans rfl)), (qN (w := W.drew) ((iE HXR.out 7).trans rfl)), (qN (w := W.drew) ((iE HXR.out 8).trans rfl)), (qN (w := W.drew) ((iE HXR.out 9).trans rfl))⟩ (fun hHeld => ?_)
      clear hK K
      refine kY (a' := ?_) ?_ ?_
      rotate_left
      · show Act.put _ (some 6) _ = _
        simp only [Act.put, List.setIfInBounds_toArray, List.set_cons_zero, List.set_cons_succ, iR, jA]
        rfl
      refine RS (i := 19) (N := none) #[true, true, true, true, true, true, true, true, true, true, true, true, true, true, true, true, true, true, true, true] rfl rfl (kT HT_.out (by kernel_rfl)) (by decide) (fun K hK => ?_)
      refine OH (w1 := ?_) (by rfl) rfl ?_ ?_
      rotate_left
      · go_simp
        rfl
      refine hK.out _ _ ?_
      clear hK K
      refine xR (nS HT_.out (by kernel_rfl)) ?_
      have hbW : Below W.heap.size W (((W.alloc (.cells #[.int .u8 0, .int .u32 0, .int .u32 0, .slice none 0 0, .slice none 0 0, .int .i64 0, .int .i64 0, .slice none 0 0] 51)).drew).setRow W.heap.size #[.int .u8 (k8.toNat : Int), .int .u32 x.f1, .int .u32 x.f2, .slice A3 x.f3.length d3, .slice A4 x.f4.length d4, .int .i64 x.f6, .int .i64 x.f7, .slice A9 x.f8.length d9]) := below_grown (g := W.heap.size) (iJ (iF (Below.refl W.heap.size W) _)) (jC _ _ _) (Nat.le_refl _) (Nat.le_refl _)
      have hm2 : (((W.alloc (.cells #[.int .u8 0, .int .u32 0, .int .u32 0, .slice none 0 0, .slice none 0 0, .int .i64 0, .int .i64 0, .slice none 0 0] 51)).drew).setRow W.heap.size #[.int .u8 (k8.toNat : Int), .int .u32 x.f1, .int .u32 x.f2, .slice A3 x.f3.length d3, .slice A4 x.f4.length d4, .int .i64 x.f6, .int .i64 x.f7, .slice A9 x.f8.length d9]).heap[W.heap.size]? = some (.cells #[.int .u8 (k8.toNat : Int), .int .u32 x.f1, .int .u32 x.f2, .slice A3 x.f3.length d3, .slice A4 x.f4.length d4, .int .i64 x.f6, .int .i64 x.f7, .slice A9 x.f8.length d9] 51 (0, 0)) := setRow_heap _ _ _ _ _ _ (iW rfl)
      obtain ⟨W2, hW2⟩ : ∃ W2, W2 = ((W.alloc (.cells #[.int .u8 0, .int .u32 0, .int .u32 0, .slice none 0 0, .slice none 0 0, .int .i64 0, .int .i64 0, .slice none 0 0] 51)).drew).setRow W.heap.size #[.int .u8 (k8.toNat : Int), .int .u32 x.f1, .int .u32 x.f2, .slice A3 x.f3.length d3, .slice A4 x.f4.length d4, .int .i64 x.f6, .int .i64 x.f7, .slice A9 x.f8.length d9] := ⟨_, rfl⟩
      rw [← hW2] at hbW hm2 ⊢
      have HM2 := iD.mk hm2
      have HX2 := iD.mk (iO hbW HX1.out)
      have HB2 := iD.mk (iL HB1.out hbW)
      have HLM2 := iD.mk (HLM.out.below hbW)
      have HC3 := iD.mk (Kd.C_below HC1.out hbW)
      have HV2 := iD.mk (lC HV.out hbW)
      clear hbW hm2 hW2 hsn hHeld HT_ HW_ HX1 HB1 HLM HC1 HK1 HXR hgs HW
      obtain ⟨⟨E1, E2⟩, hEE⟩ : ∃ E : List Int × Int, encM (msgR k8.toNat x) = E := ⟨_, rfl⟩
      have hcs := PE (msgR k8.toNat x)
      rw [hEE] at hR hcs
      have hcall := rJ (msgR k8.toNat x) A3 d3 A4 d4 A9 d9 W2 HLM2.out ⟨by show (0 : Int) ≤ (k8.toNat : Int); omega, by show (k8.toNat : Int) < 256; omega⟩ hEE
      have HR := iD.mk hR
      clear hEE hR
      obtain ⟨z0, z1, z2, z3, z4, z5, z6, z7, y0, y1, y2, y3, y4, y5, y6, y7⟩ := eight HM2.out
      go_wp2_with fail
      go_at_call 28
      refine hcall.mono ?_
      rintro e w4 ⟨v0, rfl, h0, hb4⟩
      obtain ⟨A0, c0, rfl⟩ := Kd.R_slice h0
      obtain ⟨_, q0, C0⟩ := Kd.R_reads' h0
      have HM4 := iD.mk (iO hb4 HM2.out)
      have HX4 := iD.mk (iO hb4 HX2.out)
      have HB4 := iD.mk (iL HB2.out hb4)
      have HV4 := iD.mk (lC HV2.out hb4)
      have HC4 := iD.mk (nJ (Kd.C_below HC3.out hb4))
      clear hcall hb4 h0 HM2 HX2 HB2 HLM2 HC3 z0 z1 z2 z3 z4 z5 z6 z7 y0 y1 y2 y3 y4 y5 y6 y7
      rcases hcs with hc2 | hc2 | ⟨hsd, hc2⟩
      · obtain ⟨rfl, rfl⟩ := Prod.mk.inj hc2
        have HDM := iD.mk (show decM (k8 :: t) = (lT, 160) from HR.out.trans (if_neg (by intro h; injection h with _ h2; cases h2)))
        have hst := fun (_ : True) => uB rfl HX4.out
        clear C0 q0 hc2
        go_wp2
        ((try simp only [Exit.inBlock, Exit.then]); exact bodyPost_ret (qQ rfl rfl rfl (setRow_heap _ _ _ _ _ _ HX4.out) rfl) rfl (by rw [HDM.out]; exact uU w _ HB4.out 160))
      · obtain ⟨rfl, rfl⟩ := Prod.mk.inj hc2
        have HDM := iD.mk (show decM (k8 :: t) = (lT, 160) from HR.out.trans (if_neg (by intro h; injection h with _ h2; cases h2)))
        have hst := fun (_ : True) => uB rfl HX4.out
        clear C0 q0 hc2
        go_wp2
        ((try simp only [Exit.inBlock, Exit.then]); exact bodyPost_ret (qQ rfl rfl rfl (setRow_heap _ _ _ _ _ _ HX4.out) rfl) rfl (by rw [HDM.out]; exact uU w _ HB4.out 160))
      · obtain ⟨rfl, rfl⟩ := Prod.mk.inj hc2
        have q0 : (nums (recE (recM (msgR k8.toNat x)))).length + 1 ≤ c0 := q0
        have hlen : (nums (k8 :: recE (recM (msgR k8.toNat x)))).length = (nums (recE (recM (msgR k8.toNat x)))).length + 1 := rfl
        have C0 : (Kd.int .u8).C w4 A0 (nums (k8 :: recE (recM (msgR k8.toNat x)))).length (nums (k8 :: recE (recM (msgR k8.toNat x)))) := C0
        have hcall := bytes_Equal.calls A0 c0 (nums (k8 :: recE (recM (msgR k8.toNat x)))) (some ad) c (nums (k8 :: t)) _ w4 C0 q0 (by rw [kD]; exact HC4.out) (by rw [kD]; simpa using hc) rfl
        rw [rE] at hcall
        obtain ⟨L, hL⟩ : ∃ L, L = recE (recM (msgR k8.toNat x)) := ⟨_, rfl⟩
        rw [← hL] at hcall
        have HLE := iD.mk hL
        rw [show (nums (k8 :: L)).length = (nums L).length + 1 from rfl, show (nums (k8 :: t)).length = t.length + 1 from by rw [kD]; rfl] at hcall
        simp only [List.length_cons, ← hL]
        clear hlen C0 q0 hc2 hsd hL
        by_cases hq : k8 :: L = k8 :: t
        · rw [decide_eq_true hq] at hcall
          have HDM := iD.mk (show decM (k8 :: t) = (msgR k8.toNat x, 0) from HR.out.trans (if_pos (by rw [← hq, HLE.out]; rfl)))
          clear hq
          go_wp2_with fail
          go_at_call 75
          refine hcall.mono ?_
          rintro e w5 ⟨rfl, hD⟩
          have hb5 := hD.below
          have HX5 := iD.mk (iO hb5 HX4.out)
          have hl5 := fun (_ : True) => XX (iO hb5 HM4.out) rfl
          have HB5 := iD.mk (iL HB4.out hb5)
          have HV5 := iD.mk (lC HV4.out hb5)
          obtain ⟨z0, z1, z2, z3, z4, z5, z6, z7, y0, y1, y2, y3, y4, y5, y6, y7⟩ := eight (iO hb5 HM4.out)
          have hst := fun (_ : True) => uI (a := (k8.toNat : Int)) (k := x.f1) (i := x.f2) (x3 := .slice A3 x.f3.length d3) (x4 := .slice A4 x.f4.length d4) (p := x.f6) (q := x.f7) (x7 := .slice A9 x.f8.length d9) rfl HX5.out rfl rfl rfl
          clear hcall hD hb5
          go_wp2
          ((try simp only [Exit.inBlock, Exit.then]); refine bodyPost_ret (qQ rfl rfl rfl (setRow_heap _ _ _ _ _ _ HX5.out) rfl) rfl ?_)
          rw [HDM.out]
          exact ⟨A3, d3, A4, d4, A9, d9, rfl, TJ (kL HV5.out (jC _ w.heap.size _) HLT.out) _, below_grown HB5.out (jC _ w.heap.size _) (Nat.le_refl _) (Nat.le_refl _)⟩
        · rw [decide_eq_false hq] at hcall
          have HDM := iD.mk (show decM (k8 :: t) = (lT, 160) from HR.out.trans (if_neg (by
            intro h
            injection h with h1 _
            apply hq
            rw [HLE.out]
            exact IE h1)))
          clear hq
          go_wp2_with fail
          go_at_call 75
          refine hcall.mono ?_
          rintro e w5 ⟨rfl, hD⟩
          have HX5 := iD.mk (iO hD.below HX4.out)
          have HB5 := iD.mk (iL HB4.out hD.below)
          have hst := fun (_ : True) => uB rfl HX5.out
          clear hcall hD
          go_wp2
          ((try simp only [Exit.inBlock, Exit.then]); exact bodyPost_ret (qQ rfl rfl rfl (setRow_heap _ _ _ _ _ _ HX5.out) rfl) rfl (by rw [HDM.out]; exact uU w _ HB5.out 160))
    · have HDM := iD.mk (MW k8 t (by rw [HD.out]; exact hE))
      have hst := fun (_ : True) => uB rfl HX1.out
      go_wp2
      ((try simp only [Exit.inBlock, Exit.then]); exact bodyPost_ret (qQ rfl rfl rfl (setRow_heap _ _ _ _ _ _ HX1.out) rfl) rfl (by rw [HDM.out]; exact uU w _ HB1.out 160))
end Go.Proofs.YtgfkgppomaapiaaDoor.K
end

section
namespace Go.Proofs.YtgfkgppomaapiaaDoor.K
open Go Go.RowKit Go.Proofs.YtgfkgppomaapiaaDoorW.PrintWords Go.Proofs.YtgfkgppomaapiaaDoorW.PrintLast Go.Proofs.YtgfkgppomaapiaaDoorW.PrintMore Go.Proofs.YtgfkgppomaapiaaDoor.My
theorem UJ (a b : Int) : (Tryd.prog).built 51 (#[(0, .int .u8 a), (1, .int .u32 b)] : Array (Nat × Value)).toList = some #[.int .u8 a, .int .u32 b, .int .u32 0, .slice none 0 0, .slice none 0 0, .int .i64 0, .int .i64 0, .slice none 0 0] := by kernel_rfl
theorem WY (w : World) (a b : Int) : (Instr.build 51 #[(0, .int .u8 a), (1, .int .u32 b)]).run Tryd.prog w = .ok (.agg #[.int .u8 a, .int .u32 b, .int .u32 0, .slice none 0 0, .slice none 0 0, .int .i64 0, .int .i64 0, .slice none 0 0]) w := run_build w _ _ _ (UJ a b)
/-- A message with no more than a number. -/
theorem NU (w : World) (k i a : Int) : qM w ⟨k, i, a, [], [], 0, 0, []⟩ none 0 none 0 none 0 := ⟨Kd.C_nil _ _, Nat.le_refl _, Kd.C_nil _ _, Nat.le_refl _, Kd.C_nil _ _, Nat.le_refl _⟩
attribute [-go_sem] Instr.build Instr.storeAt
attribute [local go_sem] WY
set_option maxRecDepth 20000 in
set_option maxHeartbeats 8000000 in
theorem zO (w : World) : Calls Tryd.prog 25 #[] w fun e w' => e = .returned (.bool true) ∧ Below w.heap.size w w' := by
  have henc : Calls Tryd.prog 28 #[.agg #[.int .u8 2, .int .u32 5, .int .u32 0, .slice none 0 0, .slice none 0 0, .int .i64 0, .int .i64 0, .slice none 0 0]] w _ := rJ pK none 0 none 0 none 0 w (NU w 2 5 0) (by decide) P5
  go_enter Tryd.func25, Tryd.ntmps25
  go_wp2_with fail
  go_at_call 28
  refine henc.mono ?_
  rintro e w1 ⟨v0, rfl, h0, hB⟩
  clear henc
  obtain ⟨A0, d0, rfl⟩ := Kd.R_slice h0
  obtain ⟨_, q0, C0⟩ := Kd.R_reads' h0
  have q0 : 6 ≤ d0 := q0
  have C0 : (Kd.int .u8).C w1 A0 6 (nums [2, 4, 0, 0, 0, 5]) := C0
  simp only [show (nums [2, 4, 0, 0, 0, 5]).length = 6 from rfl]
  have HB := iD.mk hB
  have HC := iD.mk C0
  have hdec : Calls Tryd.prog 32 #[.slice A0 6 d0] w1 (pM w1 (decM [2, 4, 0, 0, 0, 5])) := oZ A0 d0 [2, 4, 0, 0, 0, 5] w1 C0 q0
  rw [PK] at hdec
  clear h0 hB C0
  go_wp2_with fail
  go_at_call 32
  refine hdec.mono ?_
  rintro e w2 ⟨A3, d3, A4, d4, A9, d9, rfl, hL, hB⟩
  clear hdec
  have hbw : Below w2.heap.size w2 (w2.alloc (.cells #[.int .u8 2, .int .u32 5, .int .u32 0, .slice A3 0 d3, .slice A4 0 d4, .int .i64 0, .int .i64 0, .slice A9 0 d9] 51)) := iF (Below.refl _ _) _
  have hbv : Below w2.heap.size w2 ((w2.alloc (.cells #[.int .u8 2, .int .u32 5, .int .u32 0, .slice A3 0 d3, .slice A4 0 d4, .int .i64 0, .int .i64 0, .slice A9 0 d9] 51)).alloc (.cells #[.int .u8 99] 5)) := iF hbw _
  have HB2 := iD.mk (HB.out.trans ((hB.trans (hbv.mono hB.size)).mono HB.out.size))
  have HC2 := iD.mk (Kd.C_below HC.out (hB.trans (hbv.mono hB.size)))
  have HL2 := iD.mk (hL.below hbv)
  have HX2 := iD.mk (show ((w2.alloc (.cells #[.int .u8 2, .int .u32 5, .int .u32 0, .slice A3 0 d3, .slice A4 0 d4, .int .i64 0, .int .i64 0, .slice A9 0 d9] 51)).alloc (.cells #[.int .u8 99] 5)).heap[w2.heap.size]? = some (.cells #[.int .u8 2, .int .u32 5, .int .u32 0, .slice A3 0 d3, .slice A4 0 d4, .int .i64 0, .int .i64 0, .slice A9 0 d9] 51 (0, 0)) from jI (iW rfl))
  have hsx := fun (_ : True) => run_storeAt_new (P := Tryd.prog) w2 51 #[.int .u8 0, .int .u32 0, .int .u32 0, .slice none 0 0, .slice none 0 0, .int .i64 0, .int .i64 0, .slice none 0 0] #[.int .u8 2, .int .u32 5, .int .u32 0, .slice A3 0 d3, .slice A4 0 d4, .int .i64 0, .int .i64 0, .slice A9 0 d9] (by kernel_rfl) rfl (by simp [Value.oneCell'])
  have hdec := oZ (some ⟨w2.heap.size + 1, 0, none⟩) 1 [99] ((w2.alloc (.cells #[.int .u8 2, .int .u32 5, .int .u32 0, .slice A3 0 d3, .slice A4 0 d4, .int .i64 0, .int .i64 0, .slice A9 0 d9] 51)).alloc (.cells #[.int .u8 99] 5)) (nJ (XQ (by simp) rfl (by decide) (by rfl))) (Nat.le_refl _)
  rw [OC] at hdec
  simp only [List.length_cons, List.length_nil, Nat.zero_add] at hdec
  clear hL hB hbw hbv
  simp only [pK, List.length_nil]
  go_wp2_with fail
  go_at_call 32
  refine hdec.mono ?_
  rintro e w3 ⟨B3, e3, B4, e4, B9, e9, rfl, hL3, hB⟩
  clear hdec hsx
  have hbw : Below w3.heap.size w3 (w3.alloc (.cells #[.int .u8 0, .int .u32 0, .int .u32 0, .slice B3 0 e3, .slice B4 0 e4, .int .i64 0, .int .i64 0, .slice B9 0 e9] 51)) := iF (Below.refl _ _) _
  have hb' := hB.trans (hbw.mono hB.size)
  have HB3 := iD.mk (HB2.out.trans (hb'.mono HB2.out.size))
  have hcv := fun (_ : True) => MM (c := d0) (oI (n := 6) (l := [2, 4, 0, 0, 0, 5]) (Kd.C_below HC2.out hb'))
  have hsx := fun (_ : True) => run_storeAt_new (P := Tryd.prog) w3 51 #[.int .u8 0, .int .u32 0, .int .u32 0, .slice none 0 0, .slice none 0 0, .int .i64 0, .int .i64 0, .slice none 0 0] #[.int .u8 0, .int .u32 0, .int .u32 0, .slice B3 0 e3, .slice B4 0 e4, .int .i64 0, .int .i64 0, .slice B9 0 e9] (by kernel_rfl) rfl (by simp [Value.oneCell'])
  obtain ⟨z0, z1, z2, z3, z4, z5, z6, z7, y0, y1, y2, y3, y4, y5, y6, y7⟩ := eight (iO hb' HX2.out)
  have hsd := yV pK A3 d3 A4 d4 A9 d9 _ (HL2.out.below hb')
  rw [IQ] at hsd
  simp only [pK, List.length_nil] at hsd
  clear hB hb' hbw hL3
  simp only [lT, List.length_nil]
  have hbl : True → (bs [2, 4, 0, 0, 0, 5]).toList = [2, 4, 0, 0, 0, 5] := fun _ => jW _
  go_wp2_with fail
  go_at_call 30
  refine hsd.mono ?_
  rintro e w4 ⟨rfl, hB⟩
  have HB4 := iD.mk (HB3.out.trans (hB.mono HB3.out.size))
  clear hsd hB
  go_wp2
  go_ret
  exact ⟨rfl, HB4.out⟩
end Go.Proofs.YtgfkgppomaapiaaDoor.K
end

section
namespace Go.Proofs.YtgfkgppomaapiaaDoor.K
open Go Go.RowKit Go.Proofs.YtgfkgppomaapiaaDoorW.PrintWords Go.Proofs.YtgfkgppomaapiaaDoorW.PrintLast Go.Proofs.YtgfkgppomaapiaaDoorW.PrintMore Go.Proofs.YtgfkgppomaapiaaDoor.My
def oG (k : Int) : Int := if k = 1 then 1 else if k = 4 then 2 else if k = 8 then 7 else if k = 9 then 7 else if k = 10 then 7 else 4
/-- The document's record of a message. -/
def recR (m : SMsg) : SRec := ⟨oG m.f0, m.f1, m.f2, m.f3, m.f4, ⟨0, []⟩, m.f5, m.f6, m.f7⟩
theorem WU (k : Int) (h : 1 ≤ k ∧ k ≤ 11) : oG k = mZ k := by
  unfold oG mZ
  (repeat' split) <;> omega
theorem st_0 {w : World} {b : Nat} {c0 c1 c2 c3 c4 c5 c6 c7 c8 c9 : Value} (x : Int) (h : w.heap[b]? = some (.cells #[c0, c1, c2, c3, c4, c5, c6, c7, c8, c9] 30 (0, 0))) : (Instr.storeAt 5 (.pointer (some ⟨b, 0, none⟩)) (.int .u8 x)).run Tryd.prog w = .ok () (w.setRow b #[.int .u8 x, c1, c2, c3, c4, c5, c6, c7, c8, c9]) := by
  have z : w.cell? ⟨b, 0, none⟩ = some c0 := (iE h 0).trans rfl
  have y : w.frozen? ⟨b, 0, none⟩ = false := iC h 0
  rw [show w.setRow b #[.int .u8 x, c1, c2, c3, c4, c5, c6, c7, c8, c9] = w.setCell ⟨b, 0, none⟩ (.int .u8 x) from (setCell_eq_setRow w b 0 _ _ _ (.int .u8 x) h).symm]
  simp [go_sem, z, y]
theorem rD {tmps : Array Value} {W : World} {p : Tmp} {b : Nat} {cs : Array Value} (h : Tryd.f82.results = #[.cell p 30]) (hp : tmps.getD p undef = .pointer (some ⟨b, 0, none⟩)) (hx : W.heap[b]? = some (.cells cs 30 (0, 0))) (hs : cs.size = 10) :
    (results Tryd.f82 tmps).run Tryd.prog W = .ok (.agg cs) W := by
  exact results_cell_row h _ _ _ _ _ _ _ hp hx Tryd.underlying30 rfl (by rw [hs]; kernel_rfl)
attribute [-go_sem] Instr.build Instr.storeAt
attribute [local go_sem] PQ
set_option maxRecDepth 20000 in
set_option maxHeartbeats 16000000 in
theorem xY (k i a p q : Int) (A3 : Option Addr) (n3 c3 : Nat) (A4 : Option Addr) (n4 c4 : Nat) (A9 : Option Addr) (n9 c9 : Nat) (w : World) :
    Calls Tryd.prog 82 #[.agg #[.int .u8 k, .int .u32 i, .int .u32 a, .slice A3 n3 c3, .slice A4 n4 c4, .int .i64 p, .int .i64 q, .slice A9 n9 c9]] w fun e w' => e = .returned (.agg #[.int .u8 (oG k), .int .u32 i, .int .u32 a, .slice A3 n3 c3, .slice A4 n4 c4, .int .u32 0, .slice none 0 0, .int .i64 p, .int .i64 q, .slice A9 n9 c9]) ∧ Below w.heap.size w w' := by
  obtain ⟨W0, hW0⟩ : ∃ W0, W0 = ((w.alloc (.cells #[.int .u8 k, .int .u32 i, .int .u32 a, .slice A3 n3 c3, .slice A4 n4 c4, .int .i64 p, .int .i64 q, .slice A9 n9 c9] 51)).alloc (.cells #[.int .u8 0, .int .u32 0, .int .u32 0, .slice none 0 0, .slice none 0 0, .int .u32 0, .slice none 0 0, .int .i64 0, .int .i64 0, .slice none 0 0] 30)) := ⟨_, rfl⟩
  have hs0 : W0.heap.size = w.heap.size + 1 + 1 := by rw [hW0]; simp
  have hsx := fun (_ : True) => run_storeAt_new (P := Tryd.prog) W0 30 #[.int .u8 0, .int .u32 0, .int .u32 0, .slice none 0 0, .slice none 0 0, .int .u32 0, .slice none 0 0, .int .i64 0, .int .i64 0, .slice none 0 0] #[.int .u8 4, .int .u32 i, .int .u32 a, .slice A3 n3 c3, .slice A4 n4 c4, .int .u32 0, .slice none 0 0, .int .i64 p, .int .i64 q, .slice A9 n9 c9] (by kernel_rfl) rfl (by simp [Value.oneCell'])
  rw [hs0] at hsx
  obtain ⟨W1, hW1⟩ : ∃ W1, W1 = W0.alloc (.cells #[.int .u8 4, .int .u32 i, .int .u32 a, .slice A3 n3 c3, .slice A4 n4 c4, .int .u32 0, .slice none 0 0, .int .i64 p, .int .i64 q, .slice A9 n9 c9] 30) := ⟨_, rfl⟩
  have HR := iD.mk (show W1.heap[w.heap.size + 1 + 1]? = some (.cells #[.int .u8 4, .int .u32 i, .int .u32 a, .slice A3 n3 c3, .slice A4 n4 c4, .int .u32 0, .slice none 0 0, .int .i64 p, .int .i64 q, .slice A9 n9 c9] 30 (0, 0)) from by rw [hW1]; exact iW hs0.symm)
  have HZ := iD.mk (show W1.heap[w.heap.size + 1]? = some (.cells #[.int .u8 0, .int .u32 0, .int .u32 0, .slice none 0 0, .slice none 0 0, .int .u32 0, .slice none 0 0, .int .i64 0, .int .i64 0, .slice none 0 0] 30 (0, 0)) from by rw [hW1, hW0]; exact jI (iW (by simp)))
  have HB := iD.mk (show Below w.heap.size w W1 from by rw [hW1, hW0]; exact iF (iF (iF (Below.refl _ _) _) _) _)
  obtain ⟨z0, z1, z2, z3, z4, z5, z6, z7, y0, y1, y2, y3, y4, y5, y6, y7⟩ := eight (show W0.heap[w.heap.size]? = some (.cells #[.int .u8 k, .int .u32 i, .int .u32 a, .slice A3 n3 c3, .slice A4 n4 c4, .int .i64 p, .int .i64 q, .slice A9 n9 c9] 51 (0, 0)) from by rw [hW0]; exact jI (iW rfl))
  obtain ⟨x0, x1, x2, x3, x4, x5, x6, x7, _⟩ := eight (show W1.heap[w.heap.size]? = some (.cells #[.int .u8 k, .int .u32 i, .int .u32 a, .slice A3 n3 c3, .slice A4 n4 c4, .int .i64 p, .int .i64 q, .slice A9 n9 c9] 51 (0, 0)) from by rw [hW1, hW0]; exact jI (jI (iW rfl)))
  clear hs0 x1 x2 x3 x4 x5 x6 x7
  by_cases h1 : k = 1
  · subst h1
    have hk : oG 1 = 1 := rfl
    (have hset := fun (_ : True) => st_0 (1) HR.out; have HR2 := iD.mk (setRow_heap _ _ _ #[.int .u8 1, .int .u32 i, .int .u32 a, .slice A3 n3 c3, .slice A4 n4 c4, .int .u32 0, .slice none 0 0, .int .i64 p, .int .i64 q, .slice A9 n9 c9] _ _ HR.out); have HZ2 := iD.mk ((setRow_other W1 (w.heap.size + 1 + 1) (w.heap.size + 1) #[.int .u8 1, .int .u32 i, .int .u32 a, .slice A3 n3 c3, .slice A4 n4 c4, .int .u32 0, .slice none 0 0, .int .i64 p, .int .i64 q, .slice A9 n9 c9] (by omega)).trans HZ.out); have HB2 := iD.mk (show Below w.heap.size w (W1.setRow (w.heap.size + 1 + 1) #[.int .u8 1, .int .u32 i, .int .u32 a, .slice A3 n3 c3, .slice A4 n4 c4, .int .u32 0, .slice none 0 0, .int .i64 p, .int .i64 q, .slice A9 n9 c9]) from below_grown (g := w.heap.size + 1 + 1) HB.out (jC _ _ _) (by omega) (Nat.le_refl _)); have hld := fun (_ : True) => mO HR2.out rfl; have hst := fun (_ : True) => nC (a := 1) (k := i) (i := a) (x3 := .slice A3 n3 c3) (x4 := .slice A4 n4 c4) (j := 0) (x6 := .slice none 0 0) (p := p) (q := q) (x9 := .slice A9 n9 c9) HZ2.out rfl rfl rfl rfl; obtain ⟨xz0, xz1, xz2, xz3, xz4, xz5, xz6, xz7, xz8, xz9, xy0, xy1, xy2, xy3, xy4, xy5, xy6, xy7, xy8, xy9⟩ := ten HR2.out; clear HR HZ HB hld; subst hW1; subst hW0; go_enter Tryd.func82, Tryd.ntmps82; go_wp2; ((try simp only [Exit.inBlock, Exit.then]); exact bodyPost_ret (rD rfl rfl (setRow_heap _ _ _ _ _ _ HZ2.out) rfl) rfl ⟨by rw [hk], below_grown (g := w.heap.size + 1) HB2.out (jC _ _ _) (Nat.le_succ _) (Nat.le_refl _)⟩))
  by_cases h4 : k = 4
  · subst h4
    have hk : oG 4 = 2 := rfl
    (have hset := fun (_ : True) => st_0 (2) HR.out; have HR2 := iD.mk (setRow_heap _ _ _ #[.int .u8 2, .int .u32 i, .int .u32 a, .slice A3 n3 c3, .slice A4 n4 c4, .int .u32 0, .slice none 0 0, .int .i64 p, .int .i64 q, .slice A9 n9 c9] _ _ HR.out); have HZ2 := iD.mk ((setRow_other W1 (w.heap.size + 1 + 1) (w.heap.size + 1) #[.int .u8 2, .int .u32 i, .int .u32 a, .slice A3 n3 c3, .slice A4 n4 c4, .int .u32 0, .slice none 0 0, .int .i64 p, .int .i64 q, .slice A9 n9 c9] (by omega)).trans HZ.out); have HB2 := iD.mk (show Below w.heap.size w (W1.setRow (w.heap.size + 1 + 1) #[.int .u8 2, .int .u32 i, .int .u32 a, .slice A3 n3 c3, .slice A4 n4 c4, .int .u32 0, .slice none 0 0, .int .i64 p, .int .i64 q, .slice A9 n9 c9]) from below_grown (g := w.heap.size + 1 + 1) HB.out (jC _ _ _) (by omega) (Nat.le_refl _)); have hld := fun (_ : True) => mO HR2.out rfl; have hst := fun (_ : True) => nC (a := 2) (k := i) (i := a) (x3 := .slice A3 n3 c3) (x4 := .slice A4 n4 c4) (j := 0) (x6 := .slice none 0 0) (p := p) (q := q) (x9 := .slice A9 n9 c9) HZ2.out rfl rfl rfl rfl; obtain ⟨xz0, xz1, xz2, xz3, xz4, xz5, xz6, xz7, xz8, xz9, xy0, xy1, xy2, xy3, xy4, xy5, xy6, xy7, xy8, xy9⟩ := ten HR2.out; clear HR HZ HB hld; subst hW1; subst hW0; go_enter Tryd.func82, Tryd.ntmps82; go_wp2; ((try simp only [Exit.inBlock, Exit.then]); exact bodyPost_ret (rD rfl rfl (setRow_heap _ _ _ _ _ _ HZ2.out) rfl) rfl ⟨by rw [hk], below_grown (g := w.heap.size + 1) HB2.out (jC _ _ _) (Nat.le_succ _) (Nat.le_refl _)⟩))
  by_cases h8 : k = 8
  · subst h8
    have hk : oG 8 = 7 := rfl
    (have hset := fun (_ : True) => st_0 (7) HR.out; have HR2 := iD.mk (setRow_heap _ _ _ #[.int .u8 7, .int .u32 i, .int .u32 a, .slice A3 n3 c3, .slice A4 n4 c4, .int .u32 0, .slice none 0 0, .int .i64 p, .int .i64 q, .slice A9 n9 c9] _ _ HR.out); have HZ2 := iD.mk ((setRow_other W1 (w.heap.size + 1 + 1) (w.heap.size + 1) #[.int .u8 7, .int .u32 i, .int .u32 a, .slice A3 n3 c3, .slice A4 n4 c4, .int .u32 0, .slice none 0 0, .int .i64 p, .int .i64 q, .slice A9 n9 c9] (by omega)).trans HZ.out); have HB2 := iD.mk (show Below w.heap.size w (W1.setRow (w.heap.size + 1 + 1) #[.int .u8 7, .int .u32 i, .int .u32 a, .slice A3 n3 c3, .slice A4 n4 c4, .int .u32 0, .slice none 0 0, .int .i64 p, .int .i64 q, .slice A9 n9 c9]) from below_grown (g := w.heap.size + 1 + 1) HB.out (jC _ _ _) (by omega) (Nat.le_refl _)); have hld := fun (_ : True) => mO HR2.out rfl; have hst := fun (_ : True) => nC (a := 7) (k := i) (i := a) (x3 := .slice A3 n3 c3) (x4 := .slice A4 n4 c4) (j := 0) (x6 := .slice none 0 0) (p := p) (q := q) (x9 := .slice A9 n9 c9) HZ2.out rfl rfl rfl rfl; obtain ⟨xz0, xz1, xz2, xz3, xz4, xz5, xz6, xz7, xz8, xz9, xy0, xy1, xy2, xy3, xy4, xy5, xy6, xy7, xy8, xy9⟩ := ten HR2.out; clear HR HZ HB hld; subst hW1; subst hW0; go_enter Tryd.func82, Tryd.ntmps82; go_wp2; ((try simp only [Exit.inBlock, Exit.then]); exact bodyPost_ret (rD rfl rfl (setRow_heap _ _ _ _ _ _ HZ2.out) rfl) rfl ⟨by rw [hk], below_grown (g := w.heap.size + 1) HB2.out (jC _ _ _) (Nat.le_succ _) (Nat.le_refl _)⟩))
  by_cases h9 : k = 9
  · subst h9
    have hk : oG 9 = 7 := rfl
    (have hset := fun (_ : True) => st_0 (7) HR.out; have HR2 := iD.mk (setRow_heap _ _ _ #[.int .u8 7, .int .u32 i, .int .u32 a, .slice A3 n3 c3, .slice A4 n4 c4, .int .u32 0, .slice none 0 0, .int .i64 p, .int .i64 q, .slice A9 n9 c9] _ _ HR.out); have HZ2 := iD.mk ((setRow_other W1 (w.heap.size + 1 + 1) (w.heap.size + 1) #[.int .u8 7, .int .u32 i, .int .u32 a, .slice A3 n3 c3, .slice A4 n4 c4, .int .u32 0, .slice none 0 0, .int .i64 p, .int .i64 q, .slice A9 n9 c9] (by omega)).trans HZ.out); have HB2 := iD.mk (show Below w.heap.size w (W1.setRow (w.heap.size + 1 + 1) #[.int .u8 7, .int .u32 i, .int .u32 a, .slice A3 n3 c3, .slice A4 n4 c4, .int .u32 0, .slice none 0 0, .int .i64 p, .int .i64 q, .slice A9 n9 c9]) from below_grown (g := w.heap.size + 1 + 1) HB.out (jC _ _ _) (by omega) (Nat.le_refl _)); have hld := fun (_ : True) => mO HR2.out rfl; have hst := fun (_ : True) => nC (a := 7) (k := i) (i := a) (x3 := .slice A3 n3 c3) (x4 := .slice A4 n4 c4) (j := 0) (x6 := .slice none 0 0) (p := p) (q := q) (x9 := .slice A9 n9 c9) HZ2.out rfl rfl rfl rfl; obtain ⟨xz0, xz1, xz2, xz3, xz4, xz5, xz6, xz7, xz8, xz9, xy0, xy1, xy2, xy3, xy4, xy5, xy6, xy7, xy8, xy9⟩ := ten HR2.out; clear HR HZ HB hld; subst hW1; subst hW0; go_enter Tryd.func82, Tryd.ntmps82; go_wp2; ((try simp only [Exit.inBlock, Exit.then]); exact bodyPost_ret (rD rfl rfl (setRow_heap _ _ _ _ _ _ HZ2.out) rfl) rfl ⟨by rw [hk], below_grown (g := w.heap.size + 1) HB2.out (jC _ _ _) (Nat.le_succ _) (Nat.le_refl _)⟩))
  by_cases h10 : k = 10
  · subst h10
    have hk : oG 10 = 7 := rfl
    (have hset := fun (_ : True) => st_0 (7) HR.out; have HR2 := iD.mk (setRow_heap _ _ _ #[.int .u8 7, .int .u32 i, .int .u32 a, .slice A3 n3 c3, .slice A4 n4 c4, .int .u32 0, .slice none 0 0, .int .i64 p, .int .i64 q, .slice A9 n9 c9] _ _ HR.out); have HZ2 := iD.mk ((setRow_other W1 (w.heap.size + 1 + 1) (w.heap.size + 1) #[.int .u8 7, .int .u32 i, .int .u32 a, .slice A3 n3 c3, .slice A4 n4 c4, .int .u32 0, .slice none 0 0, .int .i64 p, .int .i64 q, .slice A9 n9 c9] (by omega)).trans HZ.out); have HB2 := iD.mk (show Below w.heap.size w (W1.setRow (w.heap.size + 1 + 1) #[.int .u8 7, .int .u32 i, .int .u32 a, .slice A3 n3 c3, .slice A4 n4 c4, .int .u32 0, .slice none 0 0, .int .i64 p, .int .i64 q, .slice A9 n9 c9]) from below_grown (g := w.heap.size + 1 + 1) HB.out (jC _ _ _) (by omega) (Nat.le_refl _)); have hld := fun (_ : True) => mO HR2.out rfl; have hst := fun (_ : True) => nC (a := 7) (k := i) (i := a) (x3 := .slice A3 n3 c3) (x4 := .slice A4 n4 c4) (j := 0) (x6 := .slice none 0 0) (p := p) (q := q) (x9 := .slice A9 n9 c9) HZ2.out rfl rfl rfl rfl; obtain ⟨xz0, xz1, xz2, xz3, xz4, xz5, xz6, xz7, xz8, xz9, xy0, xy1, xy2, xy3, xy4, xy5, xy6, xy7, xy8, xy9⟩ := ten HR2.out; clear HR HZ HB hld; subst hW1; subst hW0; go_enter Tryd.func82, Tryd.ntmps82; go_wp2; ((try simp only [Exit.inBlock, Exit.then]); exact bodyPost_ret (rD rfl rfl (setRow_heap _ _ _ _ _ _ HZ2.out) rfl) rfl ⟨by rw [hk], below_grown (g := w.heap.size + 1) HB2.out (jC _ _ _) (Nat.le_succ _) (Nat.le_refl _)⟩))
  · have hk : oG k = 4 := by unfold oG; simp [h1, h4, h8, h9, h10]
    have hld := fun (_ : True) => mO HR.out rfl
    have hst := fun (_ : True) => nC (a := 4) (k := i) (i := a) (x3 := .slice A3 n3 c3) (x4 := .slice A4 n4 c4) (j := 0) (x6 := .slice none 0 0) (p := p) (q := q) (x9 := .slice A9 n9 c9) HZ.out rfl rfl rfl rfl
    clear HR
    subst hW1
    subst hW0
    go_enter Tryd.func82, Tryd.ntmps82
    go_wp2
    ((try simp only [Exit.inBlock, Exit.then]); exact bodyPost_ret (rD rfl rfl (setRow_heap _ _ _ _ _ _ HZ.out) rfl) rfl ⟨by rw [hk], below_grown (g := w.heap.size + 1) HB.out (jC _ _ _) (Nat.le_succ _) (Nat.le_refl _)⟩)
end Go.Proofs.YtgfkgppomaapiaaDoor.K
end

section
namespace Go.Proofs.YtgfkgppomaapiaaDoor.K
open Go Go.RowKit Go.Proofs.YtgfkgppomaapiaaDoorW.PrintWords Go.Proofs.YtgfkgppomaapiaaDoorW.PrintLast Go.Proofs.YtgfkgppomaapiaaDoorW.PrintMore Go.Proofs.YtgfkgppomaapiaaDoor.My
theorem qM.rlies {w : World} {m : SMsg} {A3 A4 A9 : Option Addr} {a3 a4 a9 : Nat} (h : qM w m A3 a3 A4 a4 A9 a9) : Lies w (recR m) A3 a3 A4 a4 none 0 A9 a9 := ⟨h.h3, h.d3, h.h4, h.d4, Kd.C_nil _ _, Nat.le_refl _, h.h9, h.d9⟩
set_option maxRecDepth 20000 in
set_option maxHeartbeats 8000000 in
theorem UE (m q : SMsg) (hk : m.f0 = q.f0) (A3 : Option Addr) (a3 : Nat) (A4 : Option Addr) (a4 : Nat) (A9 : Option Addr) (a9 : Nat) (B3 : Option Addr) (b3 : Nat) (B4 : Option Addr) (b4 : Nat) (B9 : Option Addr) (b9 : Nat) (w : World) (ha : qM w m A3 a3 A4 a4 A9 a9) (hb : qM w q B3 b3 B4 b4 B9 b9)
    {t : Bool} (ht : ∃ k, stratumref07_Same.f k (recR m).f0 (recR m).f1 (recR m).f2 (recR m).f3 (recR m).f4 (recR m).f5.f0 (recR m).f5.f1 (recR m).f6 (recR m).f7 (recR m).f8 (recR q).f0 (recR q).f1 (recR q).f2 (recR q).f3 (recR q).f4 (recR q).f5.f0 (recR q).f5.f1 (recR q).f6 (recR q).f7 (recR q).f8 = some t) :
    Calls Tryd.prog 34 #[.agg #[.int .u8 m.f0, .int .u32 m.f1, .int .u32 m.f2, .slice A3 m.f3.length a3, .slice A4 m.f4.length a4, .int .i64 m.f5, .int .i64 m.f6, .slice A9 m.f7.length a9], .agg #[.int .u8 q.f0, .int .u32 q.f1, .int .u32 q.f2, .slice B3 q.f3.length b3, .slice B4 q.f4.length b4, .int .i64 q.f5, .int .i64 q.f6, .slice B9 q.f7.length b9]] w fun e w' => e = .returned (.bool t) ∧ Below w.heap.size w w' := by
  have hbw : Below w.heap.size w ((w.alloc (.cells #[.int .u8 m.f0, .int .u32 m.f1, .int .u32 m.f2, .slice A3 m.f3.length a3, .slice A4 m.f4.length a4, .int .i64 m.f5, .int .i64 m.f6, .slice A9 m.f7.length a9] 51)).alloc (.cells #[.int .u8 q.f0, .int .u32 q.f1, .int .u32 q.f2, .slice B3 q.f3.length b3, .slice B4 q.f4.length b4, .int .i64 q.f5, .int .i64 q.f6, .slice B9 q.f7.length b9] 51)) := iF (iF (Below.refl _ _) _) _
  have HA := iD.mk (ha.below hbw)
  have HBB := iD.mk (hb.below hbw)
  have HX := iD.mk (show ((w.alloc (.cells #[.int .u8 m.f0, .int .u32 m.f1, .int .u32 m.f2, .slice A3 m.f3.length a3, .slice A4 m.f4.length a4, .int .i64 m.f5, .int .i64 m.f6, .slice A9 m.f7.length a9] 51)).alloc (.cells #[.int .u8 q.f0, .int .u32 q.f1, .int .u32 q.f2, .slice B3 q.f3.length b3, .slice B4 q.f4.length b4, .int .i64 q.f5, .int .i64 q.f6, .slice B9 q.f7.length b9] 51)).heap[w.heap.size]? = some (.cells #[.int .u8 m.f0, .int .u32 m.f1, .int .u32 m.f2, .slice A3 m.f3.length a3, .slice A4 m.f4.length a4, .int .i64 m.f5, .int .i64 m.f6, .slice A9 m.f7.length a9] 51 (0, 0)) from jI (iW rfl))
  have HY := iD.mk (show ((w.alloc (.cells #[.int .u8 m.f0, .int .u32 m.f1, .int .u32 m.f2, .slice A3 m.f3.length a3, .slice A4 m.f4.length a4, .int .i64 m.f5, .int .i64 m.f6, .slice A9 m.f7.length a9] 51)).alloc (.cells #[.int .u8 q.f0, .int .u32 q.f1, .int .u32 q.f2, .slice B3 q.f3.length b3, .slice B4 q.f4.length b4, .int .i64 q.f5, .int .i64 q.f6, .slice B9 q.f7.length b9] 51)).heap[w.heap.size + 1]? = some (.cells #[.int .u8 q.f0, .int .u32 q.f1, .int .u32 q.f2, .slice B3 q.f3.length b3, .slice B4 q.f4.length b4, .int .i64 q.f5, .int .i64 q.f6, .slice B9 q.f7.length b9] 51 (0, 0)) from iW (by simp))
  have HB := iD.mk hbw
  have HT := iD.mk ht
  have HK := iD.mk hk
  clear ha hb hbw ht hk
  go_enter Tryd.func34, Tryd.ntmps34
  go_wp2
  generalize ((w.alloc (.cells #[.int .u8 m.f0, .int .u32 m.f1, .int .u32 m.f2, .slice A3 m.f3.length a3, .slice A4 m.f4.length a4, .int .i64 m.f5, .int .i64 m.f6, .slice A9 m.f7.length a9] 51)).alloc (.cells #[.int .u8 q.f0, .int .u32 q.f1, .int .u32 q.f2, .slice B3 q.f3.length b3, .slice B4 q.f4.length b4, .int .i64 q.f5, .int .i64 q.f6, .slice B9 q.f7.length b9] 51)) = W at HA HBB HX HY HB ⊢
  have hkk : (m.f0 == q.f0) = true := by rw [HK.out]; simp
  refine VY [5, 6, 7, 8, 9, 10, 11, 12, 13, 14, 15, 16, 4] [fun v _ => v = (.pointer (some ⟨w.heap.size, 0, none⟩)), fun v _ => v = (.int .u8 m.f0), fun v _ => v = (.pointer (some ⟨w.heap.size + 1, 0, none⟩)), fun v _ => v = (.int .u8 q.f0), fun v _ => v = (.bool true), fun v _ => v = (.bool true), fun v _ => v = (.agg #[.int .u8 m.f0, .int .u32 m.f1, .int .u32 m.f2, .slice A3 m.f3.length a3, .slice A4 m.f4.length a4, .int .i64 m.f5, .int .i64 m.f6, .slice A9 m.f7.length a9]), fun v _ => v = (.agg #[.int .u8 (oG m.f0), .int .u32 m.f1, .int .u32 m.f2, .slice A3 m.f3.length a3, .slice A4 m.f4.length a4, .int .u32 0, .slice none 0 0, .int .i64 m.f5, .int .i64 m.f6, .slice A9 m.f7.length a9]), fun v _ => v = (.agg #[.int .u8 q.f0, .int .u32 q.f1, .int .u32 q.f2, .slice B3 q.f3.length b3, .slice B4 q.f4.length b4, .int .i64 q.f5, .int .i64 q.f6, .slice B9 q.f7.length b9]), fun v _ => v = (.agg #[.int .u8 (oG q.f0), .int .u32 q.f1, .int .u32 q.f2, .slice B3 q.f3.length b3, .slice B4 q.f4.length b4, .int .u32 0, .slice none 0 0, .int .i64 q.f5, .int .i64 q.f6, .slice B9 q.f7.length b9]), fun v _ => v = (.bool t), fun v _ => v = (.bool t), fun v _ => v = (.bool t)] [0, 1, 2, 3, 4, 5, 6, 7, 8, 9, 10, 11, 12] (true, [([], []), ([0], [0]), ([], []), ([2], [2]), ([1, 3], [1, 3]), ([4], [4]), ([5], [5]), ([6, 5, 5], [5, 6]), ([5], [5]), ([8, 7, 5], [5, 8]), ([7, 9, 9, 5], [5, 7, 9]), ([5, 10], [5, 10]), ([11, 10, 0, 1, 2, 3, 4, 5, 6, 7, 8, 9, 10, 11], [11])]) [0, 1, 0, 4, 15, 31, 63, 127, 63, 511, 1023, 2047, 4095] (by kernel_rfl) (by kernel_rfl) (by kernel_rfl) (by kernel_rfl) (by kernel_rfl) (by kernel_rfl) (by kernel_rfl) (by rfl) (by kernel_rfl) ?_ ?_ ?_
  · exact (lS (vJ _) (lS (vJ _) (lS (vJ _) (lS (vJ _) (lS (vJ _) (lS (vJ _) (lS (vJ _) (lS (vJ _) (lS (vJ _) (lS (vJ _) (lS (vJ _) (lS (vJ _) (lS (vJ _) VT)))))))))))))
  · refine kG ?_ ?_
    · intro a w' vs hB hel hd
      have e2 : a.tmps[2]? = some (.pointer (some ⟨w.heap.size, 0, none⟩)) := (hel 2 (by kernel_rfl)).trans (by rfl)
      refine ⟨_, rfl, rfl, fun K hK => ?_⟩
      refine jS (w1 := w') (v := .pointer (some ⟨w.heap.size, 0, none⟩)) (by rfl) rfl ?_ (hK _ _ (by exact rfl) (Below.refl _ _))
      · go_simp
        (try simp only [iR, jW])
        (try rfl)
        (try (unfold Go.RowKit.wrap64; omega))
    refine kG ?_ ?_
    · intro a w' vs hB hel hd
      obtain ⟨f5, r5⟩ := hd 0 (by kernel_rfl)
      have e5 : a.tmps[5]? = some (.pointer (some ⟨w.heap.size, 0, none⟩)) := f5.trans (congrArg some (r5 : vs 0 = (.pointer (some ⟨w.heap.size, 0, none⟩))))
      obtain ⟨z0, z1, z2, z3, z4, z5, z6, z7, y0, y1, y2, y3, y4, y5, y6, y7⟩ := eight (iO hB HX.out)
      refine ⟨_, rfl, rfl, fun K hK => ?_⟩
      refine jS (w1 := w') (v := .int .u8 m.f0) (by rfl) rfl ?_ (hK _ _ (by exact rfl) (Below.refl _ _))
      · go_simp
        (try simp only [iR, jW])
        (try rfl)
        (try (unfold Go.RowKit.wrap64; omega))
    refine kG ?_ ?_
    · intro a w' vs hB hel hd
      have e3 : a.tmps[3]? = some (.pointer (some ⟨w.heap.size + 1, 0, none⟩)) := (hel 3 (by kernel_rfl)).trans (by rfl)
      refine ⟨_, rfl, rfl, fun K hK => ?_⟩
      refine jS (w1 := w') (v := .pointer (some ⟨w.heap.size + 1, 0, none⟩)) (by rfl) rfl ?_ (hK _ _ (by exact rfl) (Below.refl _ _))
      · go_simp
        (try simp only [iR, jW])
        (try rfl)
        (try (unfold Go.RowKit.wrap64; omega))
    refine kG ?_ ?_
    · intro a w' vs hB hel hd
      obtain ⟨f7, r7⟩ := hd 2 (by kernel_rfl)
      have e7 : a.tmps[7]? = some (.pointer (some ⟨w.heap.size + 1, 0, none⟩)) := f7.trans (congrArg some (r7 : vs 2 = (.pointer (some ⟨w.heap.size + 1, 0, none⟩))))
      obtain ⟨z0, z1, z2, z3, z4, z5, z6, z7, y0, y1, y2, y3, y4, y5, y6, y7⟩ := eight (iO hB HY.out)
      refine ⟨_, rfl, rfl, fun K hK => ?_⟩
      refine jS (w1 := w') (v := .int .u8 q.f0) (by rfl) rfl ?_ (hK _ _ (by exact rfl) (Below.refl _ _))
      · go_simp
        (try simp only [iR, jW])
        (try rfl)
        (try (unfold Go.RowKit.wrap64; omega))
    refine kG ?_ ?_
    · intro a w' vs hB hel hd
      obtain ⟨f6, r6⟩ := hd 1 (by kernel_rfl)
      have e6 : a.tmps[6]? = some (.int .u8 m.f0) := f6.trans (congrArg some (r6 : vs 1 = (.int .u8 m.f0)))
      obtain ⟨f8, r8⟩ := hd 3 (by kernel_rfl)
      have e8 : a.tmps[8]? = some (.int .u8 q.f0) := f8.trans (congrArg some (r8 : vs 3 = (.int .u8 q.f0)))
      refine ⟨_, rfl, rfl, fun K hK => ?_⟩
      refine jS (w1 := w') (v := .bool true) (by rfl) rfl ?_ (hK _ _ (by exact rfl) (Below.refl _ _))
      · go_simp
        (try simp only [iR, jW])
        (try rfl)
        (try (unfold Go.RowKit.wrap64; omega))
    refine kG ?_ ?_
    · intro a w' vs hB hel hd
      obtain ⟨f9, r9⟩ := hd 4 (by kernel_rfl)
      have e9 : a.tmps[9]? = some (.bool true) := f9.trans (congrArg some (r9 : vs 4 = (.bool true)))
      refine ⟨_, rfl, rfl, fun K hK => ?_⟩
      refine jS (w1 := w') (v := .bool true) (by rfl) rfl ?_ (hK _ _ (by exact rfl) (Below.refl _ _))
      · go_simp
        (try simp only [iR, jW])
        (try rfl)
        (try (unfold Go.RowKit.wrap64; omega))
    refine kG ?_ ?_
    · intro a w' vs hB hel hd
      have e2 : a.tmps[2]? = some (.pointer (some ⟨w.heap.size, 0, none⟩)) := (hel 2 (by kernel_rfl)).trans (by rfl)
      obtain ⟨f10, r10⟩ := hd 5 (by kernel_rfl)
      have e10 : a.tmps[10]? = some (.bool true) := f10.trans (congrArg some (r10 : vs 5 = (.bool true)))
      obtain ⟨z0, z1, z2, z3, z4, z5, z6, z7, y0, y1, y2, y3, y4, y5, y6, y7⟩ := eight (iO hB HX.out)
      refine ⟨_, rfl, rfl, fun K hK => ?_⟩
      refine jS (w1 := w') (v := .agg #[.int .u8 m.f0, .int .u32 m.f1, .int .u32 m.f2, .slice A3 m.f3.length a3, .slice A4 m.f4.length a4, .int .i64 m.f5, .int .i64 m.f6, .slice A9 m.f7.length a9]) (pW rfl rfl rfl e10) rfl ?_ (hK _ _ (by exact rfl) (Below.refl _ _))
      · go_simp
        (try simp only [iR, jW])
        (try rfl)
        (try (unfold Go.RowKit.wrap64; omega))
    refine kG ?_ ?_
    · intro a w' vs hB hel hd
      obtain ⟨f11, r11⟩ := hd 6 (by kernel_rfl)
      have e11 : a.tmps[11]? = some (.agg #[.int .u8 m.f0, .int .u32 m.f1, .int .u32 m.f2, .slice A3 m.f3.length a3, .slice A4 m.f4.length a4, .int .i64 m.f5, .int .i64 m.f6, .slice A9 m.f7.length a9]) := f11.trans (congrArg some (r11 : vs 6 = (.agg #[.int .u8 m.f0, .int .u32 m.f1, .int .u32 m.f2, .slice A3 m.f3.length a3, .slice A4 m.f4.length a4, .int .i64 m.f5, .int .i64 m.f6, .slice A9 m.f7.length a9])))
      obtain ⟨f10, r10⟩ := hd 5 (by kernel_rfl)
      have e10 : a.tmps[10]? = some (.bool true) := f10.trans (congrArg some (r10 : vs 5 = (.bool true)))
      refine ⟨_, rfl, rfl, fun K hK => ?_⟩
      refine pY Tryd.func82 (by kernel_rfl) rfl #[.agg #[.int .u8 m.f0, .int .u32 m.f1, .int .u32 m.f2, .slice A3 m.f3.length a3, .slice A4 m.f4.length a4, .int .i64 m.f5, .int .i64 m.f6, .slice A9 m.f7.length a9]] (pW rfl rfl rfl e10) rfl rfl (by first | (simp only [List.map_toArray, List.map_cons, List.map_nil, Act.eval, Array.getD_eq_getD_getElem?, Option.getD_some, e11, e10]; done) | (simp only [List.map_toArray, List.map_cons, List.map_nil, Act.eval, Array.getD_eq_getD_getElem?, Option.getD_some, e11, e10]; rfl)) ?_
      refine (xY m.f0 m.f1 m.f2 m.f5 m.f6 A3 m.f3.length a3 A4 m.f4.length a4 A9 m.f7.length a9 w').mono ?_
      rintro e_ w2_ ⟨rfl, hb2_⟩
      exact ⟨_, rfl, hK _ _ (by exact rfl) hb2_⟩
    refine kG ?_ ?_
    · intro a w' vs hB hel hd
      have e3 : a.tmps[3]? = some (.pointer (some ⟨w.heap.size + 1, 0, none⟩)) := (hel 3 (by kernel_rfl)).trans (by rfl)
      obtain ⟨f10, r10⟩ := hd 5 (by kernel_rfl)
      have e10 : a.tmps[10]? = some (.bool true) := f10.trans (congrArg some (r10 : vs 5 = (.bool true)))
      obtain ⟨z0, z1, z2, z3, z4, z5, z6, z7, y0, y1, y2, y3, y4, y5, y6, y7⟩ := eight (iO hB HY.out)
      refine ⟨_, rfl, rfl, fun K hK => ?_⟩
      refine jS (w1 := w') (v := .agg #[.int .u8 q.f0, .int .u32 q.f1, .int .u32 q.f2, .slice B3 q.f3.length b3, .slice B4 q.f4.length b4, .int .i64 q.f5, .int .i64 q.f6, .slice B9 q.f7.length b9]) (pW rfl rfl rfl e10) rfl ?_ (hK _ _ (by exact rfl) (Below.refl _ _))
      · go_simp
        (try simp only [iR, jW])
        (try rfl)
        (try (unfold Go.RowKit.wrap64; omega))
    refine kG ?_ ?_
    · intro a w' vs hB hel hd
      obtain ⟨f13, r13⟩ := hd 8 (by kernel_rfl)
      have e13 : a.tmps[13]? = some (.agg #[.int .u8 q.f0, .int .u32 q.f1, .int .u32 q.f2, .slice B3 q.f3.length b3, .slice B4 q.f4.length b4, .int .i64 q.f5, .int .i64 q.f6, .slice B9 q.f7.length b9]) := f13.trans (congrArg some (r13 : vs 8 = (.agg #[.int .u8 q.f0, .int .u32 q.f1, .int .u32 q.f2, .slice B3 q.f3.length b3, .slice B4 q.f4.length b4, .int .i64 q.f5, .int .i64 q.f6, .slice B9 q.f7.length b9])))
      obtain ⟨f10, r10⟩ := hd 5 (by kernel_rfl)
      have e10 : a.tmps[10]? = some (.bool true) := f10.trans (congrArg some (r10 : vs 5 = (.bool true)))
      refine ⟨_, rfl, rfl, fun K hK => ?_⟩
      refine pY Tryd.func82 (by kernel_rfl) rfl #[.agg #[.int .u8 q.f0, .int .u32 q.f1, .int .u32 q.f2, .slice B3 q.f3.length b3, .slice B4 q.f4.length b4, .int .i64 q.f5, .int .i64 q.f6, .slice B9 q.f7.length b9]] (pW rfl rfl rfl e10) rfl rfl (by first | (simp only [List.map_toArray, List.map_cons, List.map_nil, Act.eval, Array.getD_eq_getD_getElem?, Option.getD_some, e13, e10]; done) | (simp only [List.map_toArray, List.map_cons, List.map_nil, Act.eval, Array.getD_eq_getD_getElem?, Option.getD_some, e13, e10]; rfl)) ?_
      refine (xY q.f0 q.f1 q.f2 q.f5 q.f6 B3 q.f3.length b3 B4 q.f4.length b4 B9 q.f7.length b9 w').mono ?_
      rintro e_ w2_ ⟨rfl, hb2_⟩
      exact ⟨_, rfl, hK _ _ (by exact rfl) hb2_⟩
    refine kG ?_ ?_
    · intro a w' vs hB hel hd
      obtain ⟨f12, r12⟩ := hd 7 (by kernel_rfl)
      have e12 : a.tmps[12]? = some (.agg #[.int .u8 (oG m.f0), .int .u32 m.f1, .int .u32 m.f2, .slice A3 m.f3.length a3, .slice A4 m.f4.length a4, .int .u32 0, .slice none 0 0, .int .i64 m.f5, .int .i64 m.f6, .slice A9 m.f7.length a9]) := f12.trans (congrArg some (r12 : vs 7 = (.agg #[.int .u8 (oG m.f0), .int .u32 m.f1, .int .u32 m.f2, .slice A3 m.f3.length a3, .slice A4 m.f4.length a4, .int .u32 0, .slice none 0 0, .int .i64 m.f5, .int .i64 m.f6, .slice A9 m.f7.length a9])))
      obtain ⟨f14, r14⟩ := hd 9 (by kernel_rfl)
      have e14 : a.tmps[14]? = some (.agg #[.int .u8 (oG q.f0), .int .u32 q.f1, .int .u32 q.f2, .slice B3 q.f3.length b3, .slice B4 q.f4.length b4, .int .u32 0, .slice none 0 0, .int .i64 q.f5, .int .i64 q.f6, .slice B9 q.f7.length b9]) := f14.trans (congrArg some (r14 : vs 9 = (.agg #[.int .u8 (oG q.f0), .int .u32 q.f1, .int .u32 q.f2, .slice B3 q.f3.length b3, .slice B4 q.f4.length b4, .int .u32 0, .slice none 0 0, .int .i64 q.f5, .int .i64 q.f6, .slice B9 q.f7.length b9])))
      obtain ⟨f10, r10⟩ := hd 5 (by kernel_rfl)
      have e10 : a.tmps[10]? = some (.bool true) := f10.trans (congrArg some (r10 : vs 5 = (.bool true)))
      refine ⟨_, rfl, rfl, fun K hK => ?_⟩
      refine pY Tryd.func23 (by kernel_rfl) rfl #[.agg #[.int .u8 (oG m.f0), .int .u32 m.f1, .int .u32 m.f2, .slice A3 m.f3.length a3, .slice A4 m.f4.length a4, .int .u32 0, .slice none 0 0, .int .i64 m.f5, .int .i64 m.f6, .slice A9 m.f7.length a9], .agg #[.int .u8 (oG q.f0), .int .u32 q.f1, .int .u32 q.f2, .slice B3 q.f3.length b3, .slice B4 q.f4.length b4, .int .u32 0, .slice none 0 0, .int .i64 q.f5, .int .i64 q.f6, .slice B9 q.f7.length b9]] (pW rfl rfl rfl e10) rfl rfl (by first | (simp only [List.map_toArray, List.map_cons, List.map_nil, Act.eval, Array.getD_eq_getD_getElem?, Option.getD_some, e12, e14, e10]; done) | (simp only [List.map_toArray, List.map_cons, List.map_nil, Act.eval, Array.getD_eq_getD_getElem?, Option.getD_some, e12, e14, e10]; rfl)) ?_
      refine (RH (HA.out.below hB).rlies (HBB.out.below hB).rlies HT.out).mono ?_
      rintro e_ w2_ ⟨rfl, hb2_⟩
      exact ⟨_, rfl, hK _ _ (by exact rfl) hb2_⟩
    refine kG ?_ ?_
    · intro a w' vs hB hel hd
      obtain ⟨f10, r10⟩ := hd 5 (by kernel_rfl)
      have e10 : a.tmps[10]? = some (.bool true) := f10.trans (congrArg some (r10 : vs 5 = (.bool true)))
      obtain ⟨f15, r15⟩ := hd 10 (by kernel_rfl)
      have e15 : a.tmps[15]? = some (.bool t) := f15.trans (congrArg some (r15 : vs 10 = (.bool t)))
      refine ⟨_, rfl, rfl, fun K hK => ?_⟩
      refine jS (w1 := w') (v := .bool t) (by rfl) rfl ?_ (hK _ _ (by exact rfl) (Below.refl _ _))
      · go_simp
        (try simp only [iR, jW])
        (try rfl)
        (try (unfold Go.RowKit.wrap64; omega))
    refine kG ?_ ?_
    · intro a w' vs hB hel hd
      obtain ⟨f16, r16⟩ := hd 11 (by kernel_rfl)
      have e16 : a.tmps[16]? = some (.bool t) := f16.trans (congrArg some (r16 : vs 11 = (.bool t)))
      refine ⟨_, rfl, rfl, fun K hK => ?_⟩
      refine jS (w1 := w') (v := .bool t) (by rfl) rfl ?_ (hK _ _ (by exact rfl) (Below.refl _ _))
      · go_simp
        (try simp only [iR, jW])
        (try rfl)
        (try (unfold Go.RowKit.wrap64; omega))
    exact OY
  · intro vs w' hB hR
    have hv0_ : vs 0 = (.pointer (some ⟨w.heap.size, 0, none⟩)) := hR 0 (by kernel_rfl)
    have hv1_ : vs 1 = (.int .u8 m.f0) := hR 1 (by kernel_rfl)
    have hv2_ : vs 2 = (.pointer (some ⟨w.heap.size + 1, 0, none⟩)) := hR 2 (by kernel_rfl)
    have hv3_ : vs 3 = (.int .u8 q.f0) := hR 3 (by kernel_rfl)
    have hv4_ : vs 4 = (.bool true) := hR 4 (by kernel_rfl)
    have hv5_ : vs 5 = (.bool true) := hR 5 (by kernel_rfl)
    have hv6_ : vs 6 = (.agg #[.int .u8 m.f0, .int .u32 m.f1, .int .u32 m.f2, .slice A3 m.f3.length a3, .slice A4 m.f4.length a4, .int .i64 m.f5, .int .i64 m.f6, .slice A9 m.f7.length a9]) := hR 6 (by kernel_rfl)
    have hv7_ : vs 7 = (.agg #[.int .u8 (oG m.f0), .int .u32 m.f1, .int .u32 m.f2, .slice A3 m.f3.length a3, .slice A4 m.f4.length a4, .int .u32 0, .slice none 0 0, .int .i64 m.f5, .int .i64 m.f6, .slice A9 m.f7.length a9]) := hR 7 (by kernel_rfl)
    have hv8_ : vs 8 = (.agg #[.int .u8 q.f0, .int .u32 q.f1, .int .u32 q.f2, .slice B3 q.f3.length b3, .slice B4 q.f4.length b4, .int .i64 q.f5, .int .i64 q.f6, .slice B9 q.f7.length b9]) := hR 8 (by kernel_rfl)
    have hv9_ : vs 9 = (.agg #[.int .u8 (oG q.f0), .int .u32 q.f1, .int .u32 q.f2, .slice B3 q.f3.length b3, .slice B4 q.f4.length b4, .int .u32 0, .slice none 0 0, .int .i64 q.f5, .int .i64 q.f6, .slice B9 q.f7.length b9]) := hR 9 (by kernel_rfl)
    have hv10_ : vs 10 = (.bool t) := hR 10 (by kernel_rfl)
    have hv11_ : vs 11 = (.bool t) := hR 11 (by kernel_rfl)
    have hv12_ : vs 12 = (.bool t) := hR 12 (by kernel_rfl)
    rw [show entries [5, 6, 7, 8, 9, 10, 11, 12, 13, 14, 15, 16, 4] vs = [(0, 5, vs 0), (1, 6, vs 1), (2, 7, vs 2), (3, 8, vs 3), (4, 9, vs 4), (5, 10, vs 5), (6, 11, vs 6), (7, 12, vs 7), (8, 13, vs 8), (9, 14, vs 9), (10, 15, vs 10), (11, 16, vs 11), (12, 4, vs 12)] from rfl]
    simp only [jU, if_true, Act.put, List.setIfInBounds_toArray, List.set_cons_zero, List.set_cons_succ, hv0_, hv1_, hv2_, hv3_, hv4_, hv5_, hv6_, hv7_, hv8_, hv9_, hv10_, hv11_, hv12_]
    clear hR hv0_ hv1_ hv2_ hv3_ hv4_ hv5_ hv6_ hv7_ hv8_ hv9_ hv10_ hv11_ hv12_
    go_wp2
    go_ret
    exact ⟨rfl, iL HB.out hB⟩
end Go.Proofs.YtgfkgppomaapiaaDoor.K
end

section
namespace Go.Proofs.YtgfkgppomaapiaaDoor.K
open Go Go.RowKit Go.Proofs.YtgfkgppomaapiaaDoorW.PrintWords Go.Proofs.YtgfkgppomaapiaaDoorW.PrintLast Go.Proofs.YtgfkgppomaapiaaDoorW.PrintMore Go.Proofs.YtgfkgppomaapiaaDoor.My
theorem J4 (kind id at_ nodes : Int) {A4 : Option Addr} {a4 : Nat} (l4 : List jJ) {A5 : Option Addr} {a5 : Nat} (l5 : List Int) (from_ to_ : Int) {A8 : Option Addr} {a8 : Nat} (l8 : List jF) {w : World} (h4 : Kd.C k139 w A4 l4.length l4) (d4 : l4.length ≤ a4) (h5 : Kd.C (Kd.int .u16) w A5 l5.length l5) (d5 : l5.length ≤ a5) (h8 : Kd.C k86 w A8 l8.length l8) (d8 : l8.length ≤ a8) (hf : ∀ e ∈ l8, e.f1.length ≤ 9223372036854775807)
    {r : SRec} (hr : rF kind id at_ nodes l4 l5 from_ to_ l8 = r) :
    Calls Tryd.prog 21 #[.int .u8 kind, .int .u32 id, .int .u32 at_, .int .u8 nodes, .slice A4 l4.length a4, .slice A5 l5.length a5, .int .u16 from_, .int .u16 to_, .slice A8 l8.length a8] w fun e w' => ∃ A3 a3 A4 a4 A6 a6 A9 a9, e = .returned (.agg #[.int .u8 r.f0, .int .u32 r.f1, .int .u32 r.f2, .slice A3 r.f3.length a3, .slice A4 r.f4.length a4, .int .u32 r.f5.f0, .slice A6 r.f5.f1.length a6, .int .i64 r.f6, .int .i64 r.f7, .slice A9 r.f8.length a9]) ∧ RecV w.heap.size r (.agg #[.int .u8 r.f0, .int .u32 r.f1, .int .u32 r.f2, .slice A3 r.f3.length a3, .slice A4 r.f4.length a4, .int .u32 r.f5.f0, .slice A6 r.f5.f1.length a6, .int .i64 r.f6, .int .i64 r.f7, .slice A9 r.f8.length a9]) w' ∧ Below w.heap.size w w' := by
  have hev := WT kind id at_ nodes l4 l5 from_ to_ l8 (kX h4) hf
  rw [hr] at hev
  obtain ⟨k, hk⟩ := hev.rounds
  refine (stratumlaw07_Make.calls k kind id at_ nodes A4 a4 l4 A5 a5 l5 from_ to_ A8 a8 l8 _ _ _ _ _ _ _ _ _ _ w h4 d4 h5 d5 h8 d8 hk).mono ?_
  rintro e w1 ⟨v3, v4, v6, v9, rfl, g3, g4, g6, g9, hB⟩
  obtain ⟨B3, b3, rfl⟩ := Kd.R_slice g3
  obtain ⟨B4, b4, rfl⟩ := Kd.R_slice g4
  obtain ⟨B6, b6, rfl⟩ := Kd.R_slice g6
  obtain ⟨B9, b9, rfl⟩ := Kd.R_slice g9
  exact ⟨B3, b3, B4, b4, B6, b6, B9, b9, rfl, ⟨_, _, _, _, rfl, g3, g4, g6, g9⟩, hB⟩
theorem nY {base : Nat} {x : SRec} {A3 A4 A6 A9 : Option Addr} {d3 d4 d6 d9 : Nat} {w : World} (h : RecV base x (.agg #[.int .u8 x.f0, .int .u32 x.f1, .int .u32 x.f2, .slice A3 x.f3.length d3, .slice A4 x.f4.length d4, .int .u32 x.f5.f0, .slice A6 x.f5.f1.length d6, .int .i64 x.f6, .int .i64 x.f7, .slice A9 x.f8.length d9]) w) : Lies w x A3 d3 A4 d4 A6 d6 A9 d9 := by
  obtain ⟨v3, v4, v6, v9, he, h3, h4, h6, h9⟩ := h
  simp only [Value.agg.injEq, Array.mk.injEq, List.cons.injEq, true_and, and_true] at he
  obtain ⟨rfl, rfl, rfl, rfl⟩ := he
  obtain ⟨_, q3, C3⟩ := Kd.R_reads' h3
  obtain ⟨_, q4, C4⟩ := Kd.R_reads' h4
  obtain ⟨_, q6, C6⟩ := Kd.R_reads' h6
  obtain ⟨_, q9, C9⟩ := Kd.R_reads' h9
  exact ⟨C3, q3, C4, q4, C6, q6, C9, q9⟩
/-- Made of a record, as choices say. -/
def Q3 (kind : Int) (r : SRec) (nodes : Int) : SMsg :=
  let k := 1 + kind % 11
  let t := rF 6 r.f1 0 0 [] [] (IntKind.u16.wrap (Int.tmod r.f6 60000)) (IntKind.u16.wrap (Int.tmod r.f7 60000)) r.f8
  let x := rF 0 r.f1 0 nodes r.f4 [] 0 0 []
  if k = 1 then ⟨k, r.f1, 0, x.f3, x.f4, 0, 0, []⟩
  else if k = 4 then ⟨k, r.f1, r.f2, [], [], 0, 0, []⟩
  else if k = 8 then ⟨k, r.f1, 0, [], [], t.f6, t.f7, []⟩
  else if k = 9 then ⟨k, r.f1, 0, [], [], 0, 0, t.f8⟩
  else if k = 10 then ⟨k, r.f1, 0, [], [], t.f6, t.f7, t.f8⟩
  else ⟨k, r.f1, 0, [], [], 0, 0, []⟩
section
variable {w : World} {b : Nat} {c0 c1 c2 c3 c4 c5 c6 c7 : Value}
theorem YE (x : Int) (h : w.heap[b]? = some (.cells #[c0, c1, c2, c3, c4, c5, c6, c7] 51 (0, 0))) : (Instr.storeAt 22 (.pointer (some ⟨b, 2, none⟩)) (.int .u32 x)).run Tryd.prog w = .ok () (w.setRow b #[c0, c1, .int .u32 x, c3, c4, c5, c6, c7]) := by
  have z : w.cell? ⟨b, 2, none⟩ = some c2 := (iE h 2).trans rfl
  have y : w.frozen? ⟨b, 2, none⟩ = false := iC h 2
  rw [show w.setRow b #[c0, c1, .int .u32 x, c3, c4, c5, c6, c7] = w.setCell ⟨b, 2, none⟩ (.int .u32 x) from (setCell_eq_setRow w b 2 _ _ _ (.int .u32 x) h).symm]
  simp [go_sem, z, y]
theorem YC (A : Option Addr) (n c : Nat) (h : w.heap[b]? = some (.cells #[c0, c1, c2, c3, c4, c5, c6, c7] 51 (0, 0))) : (Instr.storeAt 23 (.pointer (some ⟨b, 3, none⟩)) (.slice A n c)).run Tryd.prog w = .ok () (w.setRow b #[c0, c1, c2, .slice A n c, c4, c5, c6, c7]) := by
  have z : w.cell? ⟨b, 3, none⟩ = some c3 := (iE h 3).trans rfl
  have y : w.frozen? ⟨b, 3, none⟩ = false := iC h 3
  rw [show w.setRow b #[c0, c1, c2, .slice A n c, c4, c5, c6, c7] = w.setCell ⟨b, 3, none⟩ (.slice A n c) from (setCell_eq_setRow w b 3 _ _ _ (.slice A n c) h).symm]
  simp [go_sem, z, y]
theorem Y5 (A : Option Addr) (n c : Nat) (h : w.heap[b]? = some (.cells #[c0, c1, c2, c3, c4, c5, c6, c7] 51 (0, 0))) : (Instr.storeAt 24 (.pointer (some ⟨b, 4, none⟩)) (.slice A n c)).run Tryd.prog w = .ok () (w.setRow b #[c0, c1, c2, c3, .slice A n c, c5, c6, c7]) := by
  have z : w.cell? ⟨b, 4, none⟩ = some c4 := (iE h 4).trans rfl
  have y : w.frozen? ⟨b, 4, none⟩ = false := iC h 4
  rw [show w.setRow b #[c0, c1, c2, c3, .slice A n c, c5, c6, c7] = w.setCell ⟨b, 4, none⟩ (.slice A n c) from (setCell_eq_setRow w b 4 _ _ _ (.slice A n c) h).symm]
  simp [go_sem, z, y]
theorem XL (x : Int) (h : w.heap[b]? = some (.cells #[c0, c1, c2, c3, c4, c5, c6, c7] 51 (0, 0))) : (Instr.storeAt 3 (.pointer (some ⟨b, 5, none⟩)) (.int .i64 x)).run Tryd.prog w = .ok () (w.setRow b #[c0, c1, c2, c3, c4, .int .i64 x, c6, c7]) := by
  have z : w.cell? ⟨b, 5, none⟩ = some c5 := (iE h 5).trans rfl
  have y : w.frozen? ⟨b, 5, none⟩ = false := iC h 5
  rw [show w.setRow b #[c0, c1, c2, c3, c4, .int .i64 x, c6, c7] = w.setCell ⟨b, 5, none⟩ (.int .i64 x) from (setCell_eq_setRow w b 5 _ _ _ (.int .i64 x) h).symm]
  simp [go_sem, z, y]
theorem XP (x : Int) (h : w.heap[b]? = some (.cells #[c0, c1, c2, c3, c4, c5, c6, c7] 51 (0, 0))) : (Instr.storeAt 3 (.pointer (some ⟨b, 6, none⟩)) (.int .i64 x)).run Tryd.prog w = .ok () (w.setRow b #[c0, c1, c2, c3, c4, c5, .int .i64 x, c7]) := by
  have z : w.cell? ⟨b, 6, none⟩ = some c6 := (iE h 6).trans rfl
  have y : w.frozen? ⟨b, 6, none⟩ = false := iC h 6
  rw [show w.setRow b #[c0, c1, c2, c3, c4, c5, .int .i64 x, c7] = w.setCell ⟨b, 6, none⟩ (.int .i64 x) from (setCell_eq_setRow w b 6 _ _ _ (.int .i64 x) h).symm]
  simp [go_sem, z, y]
theorem XV (A : Option Addr) (n c : Nat) (h : w.heap[b]? = some (.cells #[c0, c1, c2, c3, c4, c5, c6, c7] 51 (0, 0))) : (Instr.storeAt 28 (.pointer (some ⟨b, 7, none⟩)) (.slice A n c)).run Tryd.prog w = .ok () (w.setRow b #[c0, c1, c2, c3, c4, c5, c6, .slice A n c]) := by
  have z : w.cell? ⟨b, 7, none⟩ = some c7 := (iE h 7).trans rfl
  have y : w.frozen? ⟨b, 7, none⟩ = false := iC h 7
  rw [show w.setRow b #[c0, c1, c2, c3, c4, c5, c6, .slice A n c] = w.setCell ⟨b, 7, none⟩ (.slice A n c) from (setCell_eq_setRow w b 7 _ _ _ (.slice A n c) h).symm]
  simp [go_sem, z, y]
end
theorem oU {tmps : Array Value} {W : World} {p : Tmp} {b : Nat} {cs : Array Value} (h : Tryd.f27.results = #[.cell p 51]) (hp : tmps.getD p undef = .pointer (some ⟨b, 0, none⟩)) (hx : W.heap[b]? = some (.cells cs 51 (0, 0))) (hs : cs.size = 8) :
    (results Tryd.f27 tmps).run Tryd.prog W = .ok (.agg cs) W := by
  exact results_cell_row h _ _ _ _ _ _ _ hp hx Tryd.underlying51 rfl (by rw [hs]; kernel_rfl)
def PT (w : World) (m : SMsg) (e : Ending) (w' : World) : Prop := ∃ A3 a3 A4 a4 A9 a9, e = .returned (.agg #[.int .u8 m.f0, .int .u32 m.f1, .int .u32 m.f2, .slice A3 m.f3.length a3, .slice A4 m.f4.length a4, .int .i64 m.f5, .int .i64 m.f6, .slice A9 m.f7.length a9]) ∧ qM w' m A3 a3 A4 a4 A9 a9 ∧ Below w.heap.size w w'
/-- Held through the walk: the record's box, the result's, the message's, the taken one's. -/
structure LH (w W : World) (r t : SRec) (A3 : Option Addr) (a3 : Nat) (A4 : Option Addr) (a4 : Nat) (A6 : Option Addr) (a6 : Nat) (A9 : Option Addr) (a9 : Nat) (T3 : Option Addr) (t3 : Nat) (T4 : Option Addr) (t4 : Nat) (T6 : Option Addr) (t6 : Nat) (T9 : Option Addr) (t9 : Nat) (g : Nat) (cs : Array Value) : Prop where
  rb : W.heap[w.heap.size]? = some (.cells #[.int .u8 r.f0, .int .u32 r.f1, .int .u32 r.f2, .slice A3 r.f3.length a3, .slice A4 r.f4.length a4, .int .u32 r.f5.f0, .slice A6 r.f5.f1.length a6, .int .i64 r.f6, .int .i64 r.f7, .slice A9 r.f8.length a9] 30 (0, 0))
  zb : W.heap[w.heap.size + 1]? = some (.cells #[.int .u8 0, .int .u32 0, .int .u32 0, .slice none 0 0, .slice none 0 0, .int .i64 0, .int .i64 0, .slice none 0 0] 51 (0, 0))
  mb : W.heap[w.heap.size + 1 + 1]? = some (.cells cs 51 (0, 0))
  tb : W.heap[g]? = some (.cells #[.int .u8 t.f0, .int .u32 t.f1, .int .u32 t.f2, .slice T3 t.f3.length t3, .slice T4 t.f4.length t4, .int .u32 t.f5.f0, .slice T6 t.f5.f1.length t6, .int .i64 t.f6, .int .i64 t.f7, .slice T9 t.f8.length t9] 30 (0, 0))
  gl : w.heap.size + 1 + 1 < g
  tv : RecV (w.heap.size + 1 + 1 + 1) t (.agg #[.int .u8 t.f0, .int .u32 t.f1, .int .u32 t.f2, .slice T3 t.f3.length t3, .slice T4 t.f4.length t4, .int .u32 t.f5.f0, .slice T6 t.f5.f1.length t6, .int .i64 t.f6, .int .i64 t.f7, .slice T9 t.f8.length t9]) W
  bel : Below w.heap.size w W
theorem LH.set {w W : World} {r t : SRec} {A3 : Option Addr} {a3 : Nat} {A4 : Option Addr} {a4 : Nat} {A6 : Option Addr} {a6 : Nat} {A9 : Option Addr} {a9 : Nat} {T3 : Option Addr} {t3 : Nat} {T4 : Option Addr} {t4 : Nat} {T6 : Option Addr} {t6 : Nat} {T9 : Option Addr} {t9 : Nat} {g : Nat} {cs : Array Value} (h : LH w W r t A3 a3 A4 a4 A6 a6 A9 a9 T3 t3 T4 t4 T6 t6 T9 t9 g cs) (cs' : Array Value) :
    LH w (W.setRow (w.heap.size + 1 + 1) cs') r t A3 a3 A4 a4 A6 a6 A9 a9 T3 t3 T4 t4 T6 t6 T9 t9 g cs' :=
  ⟨(setRow_other W (w.heap.size + 1 + 1) _ cs' (by omega)).trans h.rb, (setRow_other W (w.heap.size + 1 + 1) _ cs' (by omega)).trans h.zb, setRow_heap _ _ _ cs' _ _ h.mb, (setRow_other W (w.heap.size + 1 + 1) g cs' (by have := h.gl; omega)).trans h.tb, h.gl,
   kL h.tv (jC _ _ _) (by omega), below_grown (g := w.heap.size + 1 + 1) h.bel (jC _ _ _) (by omega) (Nat.le_refl _)⟩
theorem LH.below {w W W' : World} {r t : SRec} {A3 : Option Addr} {a3 : Nat} {A4 : Option Addr} {a4 : Nat} {A6 : Option Addr} {a6 : Nat} {A9 : Option Addr} {a9 : Nat} {T3 : Option Addr} {t3 : Nat} {T4 : Option Addr} {t4 : Nat} {T6 : Option Addr} {t6 : Nat} {T9 : Option Addr} {t9 : Nat} {g : Nat} {cs : Array Value} (h : LH w W r t A3 a3 A4 a4 A6 a6 A9 a9 T3 t3 T4 t4 T6 t6 T9 t9 g cs) (hb : Below W.heap.size W W') :
    LH w W' r t A3 a3 A4 a4 A6 a6 A9 a9 T3 t3 T4 t4 T6 t6 T9 t9 g cs :=
  ⟨iO hb h.rb, iO hb h.zb, iO hb h.mb, iO hb h.tb, h.gl, lC h.tv hb, iL h.bel hb⟩
attribute [-go_sem] Instr.build Instr.storeAt
attribute [local go_sem] WY
set_option maxRecDepth 20000 in
set_option maxHeartbeats 16000000 in
theorem RY (kind nodes : Int) (hk : 0 ≤ kind ∧ kind < 256) (r : SRec) (A3 : Option Addr) (a3 : Nat) (A4 : Option Addr) (a4 : Nat) (A6 : Option Addr) (a6 : Nat) (A9 : Option Addr) (a9 : Nat) (w : World) (h : Lies w r A3 a3 A4 a4 A6 a6 A9 a9) (hf : ∀ e ∈ r.f8, e.f1.length ≤ 9223372036854775807) :
    Calls Tryd.prog 27 #[.int .u8 kind, .agg #[.int .u8 r.f0, .int .u32 r.f1, .int .u32 r.f2, .slice A3 r.f3.length a3, .slice A4 r.f4.length a4, .int .u32 r.f5.f0, .slice A6 r.f5.f1.length a6, .int .i64 r.f6, .int .i64 r.f7, .slice A9 r.f8.length a9], .int .u8 nodes] w (PT w (Q3 kind r nodes)) := by
  have HL := iD.mk h
  have HF := iD.mk hf
  clear h hf
  obtain ⟨W0, hW0⟩ : ∃ W0, W0 = ((w.alloc (.cells #[.int .u8 r.f0, .int .u32 r.f1, .int .u32 r.f2, .slice A3 r.f3.length a3, .slice A4 r.f4.length a4, .int .u32 r.f5.f0, .slice A6 r.f5.f1.length a6, .int .i64 r.f6, .int .i64 r.f7, .slice A9 r.f8.length a9] 30)).alloc (.cells #[.int .u8 0, .int .u32 0, .int .u32 0, .slice none 0 0, .slice none 0 0, .int .i64 0, .int .i64 0, .slice none 0 0] 51)) := ⟨_, rfl⟩
  have hs0 : W0.heap.size = w.heap.size + 1 + 1 := by rw [hW0]; simp
  have hsx := fun (_ : True) => run_storeAt_new (P := Tryd.prog) W0 51 #[.int .u8 0, .int .u32 0, .int .u32 0, .slice none 0 0, .slice none 0 0, .int .i64 0, .int .i64 0, .slice none 0 0] #[.int .u8 (1 + kind % 11), .int .u32 r.f1, .int .u32 0, .slice none 0 0, .slice none 0 0, .int .i64 0, .int .i64 0, .slice none 0 0] (by kernel_rfl) rfl (by simp [Value.oneCell'])
  rw [hs0] at hsx
  obtain ⟨W1, hW1⟩ : ∃ W1, W1 = W0.alloc (.cells #[.int .u8 (1 + kind % 11), .int .u32 r.f1, .int .u32 0, .slice none 0 0, .slice none 0 0, .int .i64 0, .int .i64 0, .slice none 0 0] 51) := ⟨_, rfl⟩
  have HR := iD.mk (show W1.heap[w.heap.size]? = some (.cells #[.int .u8 r.f0, .int .u32 r.f1, .int .u32 r.f2, .slice A3 r.f3.length a3, .slice A4 r.f4.length a4, .int .u32 r.f5.f0, .slice A6 r.f5.f1.length a6, .int .i64 r.f6, .int .i64 r.f7, .slice A9 r.f8.length a9] 30 (0, 0)) from by rw [hW1, hW0]; exact jI (jI (iW rfl)))
  have HZ := iD.mk (show W1.heap[w.heap.size + 1]? = some (.cells #[.int .u8 0, .int .u32 0, .int .u32 0, .slice none 0 0, .slice none 0 0, .int .i64 0, .int .i64 0, .slice none 0 0] 51 (0, 0)) from by rw [hW1, hW0]; exact jI (iW (by simp)))
  have HM := iD.mk (show W1.heap[w.heap.size + 1 + 1]? = some (.cells #[.int .u8 (1 + kind % 11), .int .u32 r.f1, .int .u32 0, .slice none 0 0, .slice none 0 0, .int .i64 0, .int .i64 0, .slice none 0 0] 51 (0, 0)) from by rw [hW1]; exact iW hs0.symm)
  have HB := iD.mk (show Below w.heap.size w W1 from by rw [hW1, hW0]; exact iF (iF (iF (Below.refl _ _) _) _) _)
  have hs1 : W1.heap.size = w.heap.size + 1 + 1 + 1 := by rw [hW1]; simp [hs0]
  obtain ⟨z0, z1, z2, z3, z4, z5, z6, z7, z8, z9, y0, y1, y2, y3, y4, y5, y6, y7, y8, y9⟩ := ten (show W0.heap[w.heap.size]? = some (.cells #[.int .u8 r.f0, .int .u32 r.f1, .int .u32 r.f2, .slice A3 r.f3.length a3, .slice A4 r.f4.length a4, .int .u32 r.f5.f0, .slice A6 r.f5.f1.length a6, .int .i64 r.f6, .int .i64 r.f7, .slice A9 r.f8.length a9] 30 (0, 0)) from by rw [hW0]; exact jI (iW rfl))
  have hx := ten HR.out
  obtain ⟨x0, x1, x2, x3, x4, x5, x6, x7, x8, x9, _⟩ := hx
  have GL := HL.out.below HB.out
  have hcall := fun fr tt => J4 6 r.f1 0 0 (A4 := none) (a4 := 0) [] (A5 := none) (a5 := 0) [] fr tt (A8 := A9) (a8 := a9) r.f8 (Kd.C_nil _ W1) (Nat.le_refl _) (Kd.C_nil _ _) (Nat.le_refl _) GL.h9 GL.d9 HF.out rfl
  simp only [List.length_nil] at hcall
  have HW1 := iD.mk hW1
  have HW0 := iD.mk hW0
  subst hW0
  clear hW1 hs0 GL
  obtain ⟨M, hM⟩ : ∃ M, Q3 kind r nodes = M := ⟨_, rfl⟩
  rw [hM]
  have HMM := iD.mk hM
  clear hM
  go_enter Tryd.func27, Tryd.ntmps27
  go_wp2_with fail
  rw [← HW1.out]
  go_at_call 21
  obtain ⟨t, ht⟩ : ∃ t, rF 6 r.f1 0 0 [] [] (IntKind.u16.wrap (Int.tmod r.f6 60000)) (IntKind.u16.wrap (Int.tmod r.f7 60000)) r.f8 = t := ⟨_, rfl⟩
  have hcall := hcall (IntKind.u16.wrap (Int.tmod r.f6 60000)) (IntKind.u16.wrap (Int.tmod r.f7 60000))
  rw [ht] at hcall
  refine hcall.mono ?_
  rintro e w2 ⟨T3, t3, T4, t4, T6, t6, T9, t9, rfl, hv, hb2⟩
  have hbw : Below w2.heap.size w2 (w2.alloc (.cells #[.int .u8 t.f0, .int .u32 t.f1, .int .u32 t.f2, .slice T3 t.f3.length t3, .slice T4 t.f4.length t4, .int .u32 t.f5.f0, .slice T6 t.f5.f1.length t6, .int .i64 t.f6, .int .i64 t.f7, .slice T9 t.f8.length t9] 30)) := iF (Below.refl _ _) _
  have hb3 := hb2.trans (hbw.mono hb2.size)
  obtain ⟨K, hK⟩ : ∃ K, K = 1 + kind % 11 := ⟨_, rfl⟩
  rw [← hK] at HM ⊢
  have H := iD.mk (show LH w (w2.alloc (.cells #[.int .u8 t.f0, .int .u32 t.f1, .int .u32 t.f2, .slice T3 t.f3.length t3, .slice T4 t.f4.length t4, .int .u32 t.f5.f0, .slice T6 t.f5.f1.length t6, .int .i64 t.f6, .int .i64 t.f7, .slice T9 t.f8.length t9] 30)) r t A3 a3 A4 a4 A6 a6 A9 a9 T3 t3 T4 t4 T6 t6 T9 t9 w2.heap.size #[.int .u8 K, .int .u32 r.f1, .int .u32 0, .slice none 0 0, .slice none 0 0, .int .i64 0, .int .i64 0, .slice none 0 0] from
    ⟨iO hb3 HR.out, iO hb3 HZ.out, iO hb3 HM.out, iW rfl, by have := hb2.size; omega, hs1 ▸ lC hv hbw, iL HB.out hb3⟩)
  have hst2 := fun (_ : True) => run_storeAt_new (P := Tryd.prog) w2 30 #[.int .u8 0, .int .u32 0, .int .u32 0, .slice none 0 0, .slice none 0 0, .int .u32 0, .slice none 0 0, .int .i64 0, .int .i64 0, .slice none 0 0] #[.int .u8 t.f0, .int .u32 t.f1, .int .u32 t.f2, .slice T3 t.f3.length t3, .slice T4 t.f4.length t4, .int .u32 t.f5.f0, .slice T6 t.f5.f1.length t6, .int .i64 t.f6, .int .i64 t.f7, .slice T9 t.f8.length t9] (by kernel_rfl) rfl (by simp [Value.oneCell'])
  have hM := HMM.out
  have hMM : M = if K = 1 then ⟨K, r.f1, 0, (rF 0 r.f1 0 nodes r.f4 [] 0 0 []).f3, (rF 0 r.f1 0 nodes r.f4 [] 0 0 []).f4, 0, 0, []⟩ else if K = 4 then ⟨K, r.f1, r.f2, [], [], 0, 0, []⟩ else if K = 8 then ⟨K, r.f1, 0, [], [], t.f6, t.f7, []⟩ else if K = 9 then ⟨K, r.f1, 0, [], [], 0, 0, t.f8⟩ else if K = 10 then ⟨K, r.f1, 0, [], [], t.f6, t.f7, t.f8⟩ else ⟨K, r.f1, 0, [], [], 0, 0, []⟩ := by
    rw [← hM, hK, ← ht]; rfl
  clear hcall hv hbw hb3 hb2 hsx hM HMM hK ht HR HZ HM HB z0 z1 z2 z3 z4 z5 z6 z7 z8 z9 y0 y1 y2 y3 y4 y5 y6 y7 y8 y9 x0 x1 x2 x3 x4 x5 x6 x7 x8 x9 HW1 hs1
  obtain ⟨mz0, mz1, mz2, mz3, mz4, mz5, mz6, mz7, my0, my1, my2, my3, my4, my5, my6, my7⟩ := eight H.out.mb
  obtain ⟨rz0, rz1, rz2, rz3, rz4, rz5, rz6, rz7, rz8, rz9, ry0, ry1, ry2, ry3, ry4, ry5, ry6, ry7, ry8, ry9⟩ := ten H.out.rb
  obtain ⟨tz0, tz1, tz2, tz3, tz4, tz5, tz6, tz7, tz8, tz9, ty0, ty1, ty2, ty3, ty4, ty5, ty6, ty7, ty8, ty9⟩ := ten H.out.tb
  by_cases h1 : K = 1
  · subst h1
    rw [if_pos rfl] at hMM
    obtain ⟨x, hx⟩ : ∃ x, rF 0 r.f1 0 nodes r.f4 [] 0 0 [] = x := ⟨_, rfl⟩
    rw [hx] at hMM
    subst hMM
    have GL := HL.out.below H.out.bel
    have hcall := J4 0 r.f1 0 nodes (A4 := A4) (a4 := a4) r.f4 (A5 := none) (a5 := 0) [] 0 0 (A8 := none) (a8 := 0) [] GL.h4 GL.d4 (Kd.C_nil _ _) (Nat.le_refl _) (Kd.C_nil _ _) (Nat.le_refl _) (fun e he => by cases he) hx
    simp only [List.length_nil] at hcall
    clear GL hx
    go_wp2_with fail
    go_at_call 21
    refine hcall.mono ?_
    rintro e w3 ⟨X3, x3, X4, x4, X6, x6, X9, x9, rfl, hv, hb4⟩
    have hbw : Below w3.heap.size w3 (w3.alloc (.cells #[.int .u8 x.f0, .int .u32 x.f1, .int .u32 x.f2, .slice X3 x.f3.length x3, .slice X4 x.f4.length x4, .int .u32 x.f5.f0, .slice X6 x.f5.f1.length x6, .int .i64 x.f6, .int .i64 x.f7, .slice X9 x.f8.length x9] 30)) := iF (Below.refl _ _) _
    have HW := iD.mk H.out
    have hb5 := hb4.trans (hbw.mono hb4.size)
    have H1 := iD.mk (H.out.below hb5)
    have hgx : w.heap.size + 1 + 1 < w3.heap.size := by have := jY H.out.mb; have := hb4.size; omega
    have hgy : w.heap.size + 1 + 1 < (w2.alloc (.cells #[.int .u8 t.f0, .int .u32 t.f1, .int .u32 t.f2, .slice T3 t.f3.length t3, .slice T4 t.f4.length t4, .int .u32 t.f5.f0, .slice T6 t.f5.f1.length t6, .int .i64 t.f6, .int .i64 t.f7, .slice T9 t.f8.length t9] 30)).heap.size := jY H.out.mb
    have HV := iD.mk (lC hv hbw)
    have hxb : (w3.alloc (.cells #[.int .u8 x.f0, .int .u32 x.f1, .int .u32 x.f2, .slice X3 x.f3.length x3, .slice X4 x.f4.length x4, .int .u32 x.f5.f0, .slice X6 x.f5.f1.length x6, .int .i64 x.f6, .int .i64 x.f7, .slice X9 x.f8.length x9] 30)).heap[w3.heap.size]? = some (.cells #[.int .u8 x.f0, .int .u32 x.f1, .int .u32 x.f2, .slice X3 x.f3.length x3, .slice X4 x.f4.length x4, .int .u32 x.f5.f0, .slice X6 x.f5.f1.length x6, .int .i64 x.f6, .int .i64 x.f7, .slice X9 x.f8.length x9] 30 (0, 0)) := iW rfl
    have hst3 := fun (_ : True) => run_storeAt_new (P := Tryd.prog) w3 30 #[.int .u8 0, .int .u32 0, .int .u32 0, .slice none 0 0, .slice none 0 0, .int .u32 0, .slice none 0 0, .int .i64 0, .int .i64 0, .slice none 0 0] #[.int .u8 x.f0, .int .u32 x.f1, .int .u32 x.f2, .slice X3 x.f3.length x3, .slice X4 x.f4.length x4, .int .u32 x.f5.f0, .slice X6 x.f5.f1.length x6, .int .i64 x.f6, .int .i64 x.f7, .slice X9 x.f8.length x9] (by kernel_rfl) rfl (by simp [Value.oneCell'])
    have hs3 := fun (_ : True) => YC X3 x.f3.length x3 H1.out.mb
    have H2 := iD.mk (H1.out.set #[.int .u8 1, .int .u32 r.f1, .int .u32 0, .slice X3 x.f3.length x3, .slice none 0 0, .int .i64 0, .int .i64 0, .slice none 0 0])
    have hs4 := fun (_ : True) => Y5 X4 x.f4.length x4 H2.out.mb
    have H3 := iD.mk (H2.out.set #[.int .u8 1, .int .u32 r.f1, .int .u32 0, .slice X3 x.f3.length x3, .slice X4 x.f4.length x4, .int .i64 0, .int .i64 0, .slice none 0 0])
    have hxb2 := (setRow_other _ (w.heap.size + 1 + 1) w3.heap.size #[.int .u8 1, .int .u32 r.f1, .int .u32 0, .slice X3 x.f3.length x3, .slice none 0 0, .int .i64 0, .int .i64 0, .slice none 0 0] (by omega)).trans hxb
    obtain ⟨uz0, uz1, uz2, uz3, uz4, uz5, uz6, uz7, uz8, uz9, _⟩ := ten hxb
    obtain ⟨vz0, vz1, vz2, vz3, vz4, vz5, vz6, vz7, vz8, vz9, _⟩ := ten hxb2
    obtain ⟨mz0, mz1, mz2, mz3, mz4, mz5, mz6, mz7, my0, my1, my2, my3, my4, my5, my6, my7⟩ := eight H3.out.mb
    have hst := fun (_ : True) => uI (a := 1) (k := r.f1) (i := 0) (x3 := .slice X3 x.f3.length x3) (x4 := .slice X4 x.f4.length x4) (p := 0) (q := 0) (x7 := .slice none 0 0) rfl H3.out.zb rfl rfl rfl
    clear hcall hv hb4 hbw hb5 hxb hxb2
    go_wp2
    ((try simp only [Exit.inBlock, Exit.then]); exact bodyPost_ret (oU rfl rfl (setRow_heap _ _ _ _ _ _ H3.out.zb) rfl) rfl ⟨_, _, _, _, _, _, rfl, ⟨(nY (kL (kL (kL HV.out (jC _ (w.heap.size + 1 + 1) #[.int .u8 1, .int .u32 r.f1, .int .u32 0, .slice X3 x.f3.length x3, .slice none 0 0, .int .i64 0, .int .i64 0, .slice none 0 0]) hgy) (jC _ (w.heap.size + 1 + 1) #[.int .u8 1, .int .u32 r.f1, .int .u32 0, .slice X3 x.f3.length x3, .slice X4 x.f4.length x4, .int .i64 0, .int .i64 0, .slice none 0 0]) hgy) (jC _ (w.heap.size + 1) _) (by omega))).h3, (nY HV.out).d3, (nY (kL (kL (kL HV.out (jC _ (w.heap.size + 1 + 1) #[.int .u8 1, .int .u32 r.f1, .int .u32 0, .slice X3 x.f3.length x3, .slice none 0 0, .int .i64 0, .int .i64 0, .slice none 0 0]) hgy) (jC _ (w.heap.size + 1 + 1) #[.int .u8 1, .int .u32 r.f1, .int .u32 0, .slice X3 x.f3.length x3, .slice X4 x.f4.length x4, .int .i64 0, .int .i64 0, .slice none 0 0]) hgy) (jC _ (w.heap.size + 1) _) (by omega))).h4, (nY HV.out).d4, Kd.C_nil _ _, Nat.le_refl _⟩, below_grown (g := w.heap.size + 1) H3.out.bel (jC _ _ _) (Nat.le_succ _) (Nat.le_refl _)⟩)
  by_cases h4 : K = 4
  · subst h4
    rw [if_neg (by decide), if_pos rfl] at hMM
    subst hMM
    have hs0 := fun (_ : True) => YE r.f2 H.out.mb
    have H1 := iD.mk (H.out.set #[.int .u8 4, .int .u32 r.f1, .int .u32 r.f2, .slice none 0 0, .slice none 0 0, .int .i64 0, .int .i64 0, .slice none 0 0])
    obtain ⟨a00, a01, a02, a03, a04, a05, a06, a07, a08, a09, _⟩ := ten H1.out.tb
    obtain ⟨mz0, mz1, mz2, mz3, mz4, mz5, mz6, mz7, my0, my1, my2, my3, my4, my5, my6, my7⟩ := eight H1.out.mb
    have hst := fun (_ : True) => uI (a := 4) (k := r.f1) (i := r.f2) (x3 := .slice none 0 0) (x4 := .slice none 0 0) (p := 0) (q := 0) (x7 := .slice none 0 0) rfl H1.out.zb rfl rfl rfl
    go_wp2
    ((try simp only [Exit.inBlock, Exit.then]); exact bodyPost_ret (oU rfl rfl (setRow_heap _ _ _ _ _ _ H1.out.zb) rfl) rfl ⟨_, _, _, _, _, _, rfl, ⟨Kd.C_nil _ _, Nat.le_refl _, Kd.C_nil _ _, Nat.le_refl _, Kd.C_nil _ _, Nat.le_refl _⟩, below_grown (g := w.heap.size + 1) H1.out.bel (jC _ _ _) (Nat.le_succ _) (Nat.le_refl _)⟩)
  by_cases h8 : K = 8
  · subst h8
    rw [if_neg (by decide), if_neg (by decide), if_pos rfl] at hMM
    subst hMM
    have hs0 := fun (_ : True) => XL t.f6 H.out.mb
    have H1 := iD.mk (H.out.set #[.int .u8 8, .int .u32 r.f1, .int .u32 0, .slice none 0 0, .slice none 0 0, .int .i64 t.f6, .int .i64 0, .slice none 0 0])
    obtain ⟨a00, a01, a02, a03, a04, a05, a06, a07, a08, a09, _⟩ := ten H1.out.tb
    have hs1 := fun (_ : True) => XP t.f7 H1.out.mb
    have H2 := iD.mk (H1.out.set #[.int .u8 8, .int .u32 r.f1, .int .u32 0, .slice none 0 0, .slice none 0 0, .int .i64 t.f6, .int .i64 t.f7, .slice none 0 0])
    obtain ⟨a10, a11, a12, a13, a14, a15, a16, a17, a18, a19, _⟩ := ten H2.out.tb
    obtain ⟨mz0, mz1, mz2, mz3, mz4, mz5, mz6, mz7, my0, my1, my2, my3, my4, my5, my6, my7⟩ := eight H2.out.mb
    have hst := fun (_ : True) => uI (a := 8) (k := r.f1) (i := 0) (x3 := .slice none 0 0) (x4 := .slice none 0 0) (p := t.f6) (q := t.f7) (x7 := .slice none 0 0) rfl H2.out.zb rfl rfl rfl
    go_wp2
    ((try simp only [Exit.inBlock, Exit.then]); exact bodyPost_ret (oU rfl rfl (setRow_heap _ _ _ _ _ _ H2.out.zb) rfl) rfl ⟨_, _, _, _, _, _, rfl, ⟨Kd.C_nil _ _, Nat.le_refl _, Kd.C_nil _ _, Nat.le_refl _, Kd.C_nil _ _, Nat.le_refl _⟩, below_grown (g := w.heap.size + 1) H2.out.bel (jC _ _ _) (Nat.le_succ _) (Nat.le_refl _)⟩)
  by_cases h9 : K = 9
  · subst h9
    rw [if_neg (by decide), if_neg (by decide), if_neg (by decide), if_pos rfl] at hMM
    subst hMM
    have hs0 := fun (_ : True) => XV T9 t.f8.length t9 H.out.mb
    have H1 := iD.mk (H.out.set #[.int .u8 9, .int .u32 r.f1, .int .u32 0, .slice none 0 0, .slice none 0 0, .int .i64 0, .int .i64 0, .slice T9 t.f8.length t9])
    obtain ⟨a00, a01, a02, a03, a04, a05, a06, a07, a08, a09, _⟩ := ten H1.out.tb
    obtain ⟨mz0, mz1, mz2, mz3, mz4, mz5, mz6, mz7, my0, my1, my2, my3, my4, my5, my6, my7⟩ := eight H1.out.mb
    have hst := fun (_ : True) => uI (a := 9) (k := r.f1) (i := 0) (x3 := .slice none 0 0) (x4 := .slice none 0 0) (p := 0) (q := 0) (x7 := .slice T9 t.f8.length t9) rfl H1.out.zb rfl rfl rfl
    go_wp2
    ((try simp only [Exit.inBlock, Exit.then]); exact bodyPost_ret (oU rfl rfl (setRow_heap _ _ _ _ _ _ H1.out.zb) rfl) rfl ⟨_, _, _, _, _, _, rfl, ⟨Kd.C_nil _ _, Nat.le_refl _, Kd.C_nil _ _, Nat.le_refl _, (nY (kL H1.out.tv (jC _ (w.heap.size + 1) _) (by omega))).h9, (nY H1.out.tv).d9⟩, below_grown (g := w.heap.size + 1) H1.out.bel (jC _ _ _) (Nat.le_succ _) (Nat.le_refl _)⟩)
  by_cases h10 : K = 10
  · subst h10
    rw [if_neg (by decide), if_neg (by decide), if_neg (by decide), if_neg (by decide), if_pos rfl] at hMM
    subst hMM
    have hs0 := fun (_ : True) => XL t.f6 H.out.mb
    have H1 := iD.mk (H.out.set #[.int .u8 10, .int .u32 r.f1, .int .u32 0, .slice none 0 0, .slice none 0 0, .int .i64 t.f6, .int .i64 0, .slice none 0 0])
    obtain ⟨a00, a01, a02, a03, a04, a05, a06, a07, a08, a09, _⟩ := ten H1.out.tb
    have hs1 := fun (_ : True) => XP t.f7 H1.out.mb
    have H2 := iD.mk (H1.out.set #[.int .u8 10, .int .u32 r.f1, .int .u32 0, .slice none 0 0, .slice none 0 0, .int .i64 t.f6, .int .i64 t.f7, .slice none 0 0])
    obtain ⟨a10, a11, a12, a13, a14, a15, a16, a17, a18, a19, _⟩ := ten H2.out.tb
    have hs2 := fun (_ : True) => XV T9 t.f8.length t9 H2.out.mb
    have H3 := iD.mk (H2.out.set #[.int .u8 10, .int .u32 r.f1, .int .u32 0, .slice none 0 0, .slice none 0 0, .int .i64 t.f6, .int .i64 t.f7, .slice T9 t.f8.length t9])
    obtain ⟨a20, a21, a22, a23, a24, a25, a26, a27, a28, a29, _⟩ := ten H3.out.tb
    obtain ⟨mz0, mz1, mz2, mz3, mz4, mz5, mz6, mz7, my0, my1, my2, my3, my4, my5, my6, my7⟩ := eight H3.out.mb
    have hst := fun (_ : True) => uI (a := 10) (k := r.f1) (i := 0) (x3 := .slice none 0 0) (x4 := .slice none 0 0) (p := t.f6) (q := t.f7) (x7 := .slice T9 t.f8.length t9) rfl H3.out.zb rfl rfl rfl
    go_wp2
    ((try simp only [Exit.inBlock, Exit.then]); exact bodyPost_ret (oU rfl rfl (setRow_heap _ _ _ _ _ _ H3.out.zb) rfl) rfl ⟨_, _, _, _, _, _, rfl, ⟨Kd.C_nil _ _, Nat.le_refl _, Kd.C_nil _ _, Nat.le_refl _, (nY (kL H3.out.tv (jC _ (w.heap.size + 1) _) (by omega))).h9, (nY H3.out.tv).d9⟩, below_grown (g := w.heap.size + 1) H3.out.bel (jC _ _ _) (Nat.le_succ _) (Nat.le_refl _)⟩)
  · rw [if_neg h1, if_neg h4, if_neg h8, if_neg h9, if_neg h10] at hMM
    subst hMM
    have hst := fun (_ : True) => uI (a := K) (k := r.f1) (i := 0) (x3 := .slice none 0 0) (x4 := .slice none 0 0) (p := 0) (q := 0) (x7 := .slice none 0 0) rfl H.out.zb rfl rfl rfl
    go_wp2
    ((try simp only [Exit.inBlock, Exit.then]); exact bodyPost_ret (oU rfl rfl (setRow_heap _ _ _ _ _ _ H.out.zb) rfl) rfl ⟨_, _, _, _, _, _, rfl, ⟨Kd.C_nil _ _, Nat.le_refl _, Kd.C_nil _ _, Nat.le_refl _, Kd.C_nil _ _, Nat.le_refl _⟩, below_grown (g := w.heap.size + 1) H.out.bel (jC _ _ _) (Nat.le_succ _) (Nat.le_refl _)⟩)
end Go.Proofs.YtgfkgppomaapiaaDoor.K
end

section
namespace Go.Proofs.YtgfkgppomaapiaaDoor.K
open Go Go.RowKit Go.Proofs.YtgfkgppomaapiaaDoorW.PrintWords Go.Proofs.YtgfkgppomaapiaaDoorW.PrintLast Go.Proofs.YtgfkgppomaapiaaDoorW.PrintMore Go.Proofs.YtgfkgppomaapiaaDoor.My
theorem U7 (m : SMsg) (h : SLen (recR m)) : ∃ k, stratumref07_Same.f k (recR m).f0 (recR m).f1 (recR m).f2 (recR m).f3 (recR m).f4 (recR m).f5.f0 (recR m).f5.f1 (recR m).f6 (recR m).f7 (recR m).f8 (recR m).f0 (recR m).f1 (recR m).f2 (recR m).f3 (recR m).f4 (recR m).f5.f0 (recR m).f5.f1 (recR m).f6 (recR m).f7 (recR m).f8 = some true := by
  obtain ⟨t, h1, h2⟩ := WA (recR m) (recR m) h h
  obtain ⟨k, hk⟩ := h1.rounds
  rw [h2.2 ⟨rfl, rfl, rfl, rfl, rfl, rfl, rfl, ⟨rfl, rfl⟩, rfl⟩] at hk
  exact ⟨k, hk⟩
attribute [-go_sem] Instr.build Instr.storeAt
attribute [local go_sem] MV
end Go.Proofs.YtgfkgppomaapiaaDoor.K
end

section
namespace Go.Proofs.YtgfkgppomaapiaaDoor.K
open Go Go.RowKit Go.Proofs.YtgfkgppomaapiaaDoorW.PrintWords Go.Proofs.YtgfkgppomaapiaaDoorW.PrintLast Go.Proofs.YtgfkgppomaapiaaDoorW.PrintMore Go.Proofs.YtgfkgppomaapiaaDoor.My
theorem NH (x : Int) : 0 ≤ IntKind.u16.wrap x ∧ IntKind.u16.wrap x < 65536 := by
  have : IntKind.u16.wrap x = x % 65536 := by simp [IntKind.wrap, IntKind.bits, IntKind.signed]
  rw [this]
  exact ⟨Int.emod_nonneg _ (by decide), Int.emod_lt_of_pos _ (by decide)⟩
structure yG (m : SMsg) : Prop where
  kind : 1 ≤ m.f0 ∧ m.f0 ≤ 11
  sound : mP m = true
  ok : yE (recM m)
theorem WE (kind : Int) (hk : 0 ≤ kind ∧ kind < 256) (r : SRec) (wr : RecW r) (nodes : Int) : yG (Q3 kind r nodes) := by
  have hsT := zD 6 r.f1 0 0 [] [] (IntKind.u16.wrap (Int.tmod r.f6 60000)) (IntKind.u16.wrap (Int.tmod r.f7 60000)) r.f8 (by decide) (fun v hv => by cases hv) (NH _) (NH _) (fun e he => (wr.n9 e he).1.1)
  have hsX := zD 0 r.f1 0 nodes r.f4 [] 0 0 [] (by decide) (fun v hv => by cases hv) ⟨by decide, by decide⟩ ⟨by decide, by decide⟩ (fun e he => by cases he)
  have okT := RQ 6 r.f1 0 0 [] [] (IntKind.u16.wrap (Int.tmod r.f6 60000)) (IntKind.u16.wrap (Int.tmod r.f7 60000)) r.f8 wr.ok.id (by decide) (fun e he => by cases he) wr.n9
  have okX := RQ 0 r.f1 0 nodes r.f4 [] 0 0 [] wr.ok.id (by decide) wr.n4 (fun e he => by cases he)
  have hT : ∃ p q es, rF 6 r.f1 0 0 [] [] (IntKind.u16.wrap (Int.tmod r.f6 60000)) (IntKind.u16.wrap (Int.tmod r.f7 60000)) r.f8 = ⟨7, r.f1, 0, [], [], ⟨0, []⟩, p, q, es⟩ := ⟨_, _, _, rfl⟩
  have hX : ∃ n f, rF 0 r.f1 0 nodes r.f4 [] 0 0 [] = ⟨1, r.f1, 0, n, f, ⟨0, []⟩, 0, 0, []⟩ := ⟨_, _, rfl⟩
  unfold Q3
  simp only
  obtain ⟨p, q, es, hT⟩ := hT
  obtain ⟨n, f, hX⟩ := hX
  rw [hT] at hsT okT ⊢
  rw [hX] at hsX okX ⊢
  have hid := wr.ok.id
  have hat := wr.ok.at_
  have z32 : (0 : Int) ≤ 0 ∧ (0 : Int) < 4294967296 := by decide
  have h7 : 0 ≤ p ∧ p ≤ 10000 ∧ 0 ≤ q ∧ q ≤ 10000 ∧ lW es = true ∧ es.length ≤ 5000 := by
    have hq := hsT
    rw [QG] at hq
    simp only [Bool.and_eq_true, decide_eq_true_eq] at hq
    obtain ⟨⟨⟨⟨⟨⟨he, hel⟩, p0⟩, p1⟩, q0⟩, q1⟩, _⟩ := hq
    exact ⟨p0, p1, q0, q1, he, by omega⟩
  obtain ⟨p0, p1, q0, q1, he, hel⟩ := h7
  by_cases h1 : 1 + kind % 11 = 1
  · rw [if_pos h1, h1]
    exact ⟨(show (1 : Int) ≤ 1 ∧ (1 : Int) ≤ 11 from by decide), hsX, okX⟩
  rw [if_neg h1]
  by_cases h4 : 1 + kind % 11 = 4
  · rw [if_pos h4, h4]
    exact ⟨(show (1 : Int) ≤ 4 ∧ (4 : Int) ≤ 11 from by decide), rfl, ⟨by show (0 : Int) ≤ 2 ∧ (2 : Int) < 256; decide, hid, hat, fun e h => (by cases h), z32, fun e h => by cases h⟩⟩
  rw [if_neg h4]
  by_cases h8 : 1 + kind % 11 = 8
  · rw [if_pos h8, h8]
    refine ⟨(show (1 : Int) ≤ 8 ∧ (8 : Int) ≤ 11 from by decide), ?_, ⟨by show (0 : Int) ≤ 7 ∧ (7 : Int) < 256; decide, hid, z32, fun e h => (by cases h), z32, fun e h => by cases h⟩⟩
    rw [qZ (by rfl)]
    simp [recM, mZ, jL, lW, nG, p0, p1, q0, q1]
  rw [if_neg h8]
  by_cases h9 : 1 + kind % 11 = 9
  · rw [if_pos h9, h9]
    refine ⟨(show (1 : Int) ≤ 9 ∧ (9 : Int) ≤ 11 from by decide), ?_, ⟨by show (0 : Int) ≤ 7 ∧ (7 : Int) < 256; decide, hid, z32, fun e h => (by cases h), z32, okT.entries⟩⟩
    rw [qZ (by rfl)]
    simp [recM, mZ, jL, he, hel]
  rw [if_neg h9]
  by_cases h10 : 1 + kind % 11 = 10
  · rw [if_pos h10, h10]
    exact ⟨(show (1 : Int) ≤ 10 ∧ (10 : Int) ≤ 11 from by decide), hsT, okT⟩
  rw [if_neg h10]
  have hr : 1 ≤ 1 + kind % 11 ∧ 1 + kind % 11 ≤ 11 := by omega
  generalize 1 + kind % 11 = k at *
  have hkm : mZ k = 4 := by
    rcases TF k with e | ⟨e, e2⟩ | ⟨e, e2⟩ | ⟨e, e2, e3⟩ | ⟨e, _⟩
    · have := NV k e; omega
    · exact absurd e2 h1
    · exact absurd e2 h4
    · omega
    · exact e
  refine ⟨hr, ?_, ⟨by show (0 : Int) ≤ mZ k ∧ mZ k < 256; rw [hkm]; decide, hid, z32, fun e h => (by cases h), z32, fun e h => by cases h⟩⟩
  rw [qZ (by simp [preM, h4, h8, h9])]
  unfold recM
  simp only
  rw [hkm]
  rfl
theorem TY {m : SMsg} (h : yG m) : encM m = ([], 3) ∨ (encM m = (m.f0 :: nums (recE (recM m)), 0) ∧ (recE (recM m)).length ≤ 60000) := by
  have hs := h.sound
  have hb : jL (recM m) = true := by unfold mP at hs; simp only [Bool.and_eq_true] at hs; exact hs.2
  unfold encM
  rw [if_pos hs]
  unfold encR
  rw [if_pos hb]
  by_cases hl : 60000 < (recE (recM m)).length
  · rw [if_pos hl]; exact .inl (if_neg (by decide))
  · rw [if_neg hl]; exact .inr ⟨if_pos rfl, by omega⟩
theorem PO {m : SMsg} (h : yG m) (k8 : UInt8) (hk : m.f0 = (k8.toNat : Int)) (hl : (recE (recM m)).length ≤ 60000) (he : encM m = (m.f0 :: nums (recE (recM m)), 0)) : decM (k8 :: recE (recM m)) = (m, 0) := by
  have hs := h.sound
  have hb : jL (recM m) = true := by unfold mP at hs; simp only [Bool.and_eq_true] at hs; exact hs.2
  have hm : msgR (k8.toNat : Int) (recM m) = m := by rw [← hk]; rfl
  rw [J6 k8 _ (recM m) (PN hb h.ok hl), hm, if_pos]
  rw [he, hk]; rfl
theorem TM (r : SRec) : 0 < (recE r).length := by unfold recE; simp [iQ]; omega
theorem QU {m : SMsg} (h : yG m) (k8 : UInt8) : decM ((k8 :: recE (recM m)).take (recE (recM m)).length) = (lT, 160) := by
  have hs := h.sound
  have hb : jL (recM m) = true := by unfold mP at hs; simp only [Bool.and_eq_true] at hs; exact hs.2
  obtain ⟨n, hn⟩ : ∃ n, (recE (recM m)).length = n + 1 := ⟨(recE (recM m)).length - 1, by have := TM (recM m); omega⟩
  rw [hn, List.take_succ_cons]
  refine MW k8 _ (PY hb h.ok _ ((recE (recM m)).drop n) ?_ (List.take_append_drop _ _).symm)
  intro e
  have := congrArg List.length e
  rw [List.length_drop] at this
  simp at this
  omega
theorem PU {m : SMsg} (h : yG m) : recR m = recM m := by
  unfold recR recM
  rw [WU m.f0 h.kind]
theorem QC {m : SMsg} (h : yG m) : SLen (recR m) := by
  have hs := h.sound
  rw [PU h]
  exact NP _ (by unfold mP at hs; simp only [Bool.and_eq_true] at hs; exact hs.2)
end Go.Proofs.YtgfkgppomaapiaaDoor.K
end

section
namespace Go.Proofs.YtgfkgppomaapiaaDoor.K
open Go Go.RowKit Go.Proofs.YtgfkgppomaapiaaDoorW.PrintWords Go.Proofs.YtgfkgppomaapiaaDoorW.PrintLast Go.Proofs.YtgfkgppomaapiaaDoorW.PrintMore Go.Proofs.YtgfkgppomaapiaaDoor.My
attribute [-go_sem] Instr.storeAt
set_option maxRecDepth 20000 in
set_option maxHeartbeats 16000000 in
theorem JZ (kind nodes : Int) (hk : 0 ≤ kind ∧ kind < 256) (r : SRec) (A3 : Option Addr) (a3 : Nat) (A4 : Option Addr) (a4 : Nat) (A6 : Option Addr) (a6 : Nat) (A9 : Option Addr) (a9 : Nat) (w : World) (g : Lies w r A3 a3 A4 a4 A6 a6 A9 a9) (hf : ∀ e ∈ r.f8, e.f1.length ≤ 9223372036854775807)
    (m : SMsg) (hM : Q3 kind r nodes = m) (ok : yG m) :
    Calls Tryd.prog 8 #[.int .u8 kind, .agg #[.int .u8 r.f0, .int .u32 r.f1, .int .u32 r.f2, .slice A3 r.f3.length a3, .slice A4 r.f4.length a4, .int .u32 r.f5.f0, .slice A6 r.f5.f1.length a6, .int .i64 r.f6, .int .i64 r.f7, .slice A9 r.f8.length a9], .int .u8 nodes] w fun e w' => e = .returned (.bool true) ∧ Below w.heap.size w w' := by
  have hbw : Below w.heap.size w (w.alloc (.cells #[.int .u8 r.f0, .int .u32 r.f1, .int .u32 r.f2, .slice A3 r.f3.length a3, .slice A4 r.f4.length a4, .int .u32 r.f5.f0, .slice A6 r.f5.f1.length a6, .int .i64 r.f6, .int .i64 r.f7, .slice A9 r.f8.length a9] 30)) := iF (Below.refl _ _) _
  have HXB := iD.mk (show (w.alloc (.cells #[.int .u8 r.f0, .int .u32 r.f1, .int .u32 r.f2, .slice A3 r.f3.length a3, .slice A4 r.f4.length a4, .int .u32 r.f5.f0, .slice A6 r.f5.f1.length a6, .int .i64 r.f6, .int .i64 r.f7, .slice A9 r.f8.length a9] 30)).heap[w.heap.size]? = some (.cells #[.int .u8 r.f0, .int .u32 r.f1, .int .u32 r.f2, .slice A3 r.f3.length a3, .slice A4 r.f4.length a4, .int .u32 r.f5.f0, .slice A6 r.f5.f1.length a6, .int .i64 r.f6, .int .i64 r.f7, .slice A9 r.f8.length a9] 30 (0, 0)) from iW rfl)
  obtain ⟨v, hheavy⟩ := OT (g.below hbw)
  have G := iD.mk g; have HF := iD.mk hf; have HM := iD.mk hM; have OK := iD.mk ok; have HB0 := iD.mk hbw
  clear g hf hM ok hbw
  go_enter Tryd.func8, Tryd.ntmps8
  obtain ⟨xz0, xz1, xz2, xz3, xz4, xz5, xz6, xz7, xz8, xz9, xy0, xy1, xy2, xy3, xy4, xy5, xy6, xy7, xy8, xy9⟩ := ten (HXB.out)
  go_wp2_with fail
  go_at_call 15
  (with_reducible refine hheavy.mono ?_)
  clear xz0 xz1 xz2 xz3 xz4 xz5 xz6 xz7 xz8 xz9 xy0 xy1 xy2 xy3 xy4 xy5 xy6 xy7 xy8 xy9
  clear hheavy
  rintro e w1 ⟨rfl, hb1⟩
  have HB1 := iD.mk (iL HB0.out hb1)
  have HX1 := iD.mk (iO hb1 HXB.out)
  clear hb1 HB0 HXB
  by_cases hv : v > 3000
  · go_wp2_with fail
    go_at_call 25
    refine (zO _).mono ?_
    rintro e wk ⟨rfl, hbk⟩
    go_wp2
    go_ret
    exact ⟨rfl, iL HB1.out hbk⟩
  go_wp2_with fail
  go_at_call 25
  refine (zO _).mono ?_
  rintro e w2 ⟨rfl, hb2⟩
  have HB2 := iD.mk (iL HB1.out hb2)
  have HX2 := iD.mk (iO hb2 HX1.out)
  clear hb2 HB1 HX1
  obtain ⟨xz0, xz1, xz2, xz3, xz4, xz5, xz6, xz7, xz8, xz9, xy0, xy1, xy2, xy3, xy4, xy5, xy6, xy7, xy8, xy9⟩ := ten (HX2.out)
  have hcall := RY kind nodes hk r A3 a3 A4 a4 A6 a6 A9 a9 w2 (G.out.below HB2.out) HF.out
  rw [HM.out] at hcall
  go_wp2_with fail
  go_at_call 27
  refine hcall.mono ?_
  clear xz0 xz1 xz2 xz3 xz4 xz5 xz6 xz7 xz8 xz9 xy0 xy1 xy2 xy3 xy4 xy5 xy6 xy7 xy8 xy9
  clear hcall
  rintro e w3 ⟨B3, b3, B4, b4, B9, b9, rfl, lm, hb3⟩
  have hbm : Below w3.heap.size w3 (w3.alloc (.cells #[.int .u8 m.f0, .int .u32 m.f1, .int .u32 m.f2, .slice B3 m.f3.length b3, .slice B4 m.f4.length b4, .int .i64 m.f5, .int .i64 m.f6, .slice B9 m.f7.length b9] 51)) := iF (Below.refl _ _) _
  have hbb := hb3.trans (hbm.mono hb3.size)
  have HB3 := iD.mk (iL HB2.out hbb)
  have LM := iD.mk (lm.below hbm)
  have HP3 := iD.mk (show (w3.alloc (.cells #[.int .u8 m.f0, .int .u32 m.f1, .int .u32 m.f2, .slice B3 m.f3.length b3, .slice B4 m.f4.length b4, .int .i64 m.f5, .int .i64 m.f6, .slice B9 m.f7.length b9] 51)).heap[w3.heap.size]? = some (.cells #[.int .u8 m.f0, .int .u32 m.f1, .int .u32 m.f2, .slice B3 m.f3.length b3, .slice B4 m.f4.length b4, .int .i64 m.f5, .int .i64 m.f6, .slice B9 m.f7.length b9] 51 (0, 0)) from iW rfl)
  have hsx := fun (_ : True) => run_storeAt_new (P := Tryd.prog) w3 51 #[.int .u8 0, .int .u32 0, .int .u32 0, .slice none 0 0, .slice none 0 0, .int .i64 0, .int .i64 0, .slice none 0 0] #[.int .u8 m.f0, .int .u32 m.f1, .int .u32 m.f2, .slice B3 m.f3.length b3, .slice B4 m.f4.length b4, .int .i64 m.f5, .int .i64 m.f6, .slice B9 m.f7.length b9] (by kernel_rfl) rfl (by simp [Value.oneCell'])
  have hkr := OK.out.kind
  clear lm hbm hbb hb3 HB2 HX2 G HF HM
  obtain ⟨k8, hk8⟩ := NL (show 0 ≤ m.f0 by omega) (show m.f0 < 256 by omega)
  have HK8 := iD.mk hk8
  have hen := TY OK.out
  obtain ⟨⟨E1, E2⟩, hE⟩ : ∃ E : List Int × Int, encM m = E := ⟨_, rfl⟩
  have hcall := rJ m B3 b3 B4 b4 B9 b9 _ LM.out ⟨by omega, by omega⟩ hE
  rw [hE] at hen
  have HE := iD.mk hE
  clear hE hk8
  obtain ⟨mz0, mz1, mz2, mz3, mz4, mz5, mz6, mz7, my0, my1, my2, my3, my4, my5, my6, my7⟩ := eight (HP3.out)
  go_wp2_with fail
  go_at_call 28
  refine hcall.mono ?_
  rintro e w4 ⟨v0, rfl, h0, hb4⟩
  obtain ⟨A0, c0, rfl⟩ := Kd.R_slice h0
  obtain ⟨_, q0, C0⟩ := Kd.R_reads' h0
  have HB4 := iD.mk (iL HB3.out hb4)
  have LM4 := iD.mk (LM.out.below hb4)
  have HP4 := iD.mk (iO hb4 HP3.out)
  clear hcall hsx h0 hb4 HB3 LM HP3
  rcases hen with hen | ⟨hen, hlen⟩
  · obtain ⟨rfl, rfl⟩ := Prod.mk.inj hen
    clear hen C0 q0
    go_wp2
    go_ret
    exact ⟨rfl, HB4.out⟩
  obtain ⟨rfl, rfl⟩ := Prod.mk.inj hen
  obtain ⟨rl, hrl⟩ : ∃ rl, rl = recE (recM m) := ⟨_, rfl⟩
  have hback := PO OK.out k8 HK8.out hlen HE.out
  have hless := QU OK.out k8
  rw [HK8.out, ← hrl] at C0 q0
  rw [← hrl] at hback hless hlen
  have hn1 : (((k8.toNat : Int) :: nums rl)).length = rl.length + 1 := by rw [List.length_cons, kD]
  rw [hn1] at C0 q0
  have C0 : (Kd.int .u8).C w4 A0 (rl.length + 1) (nums (k8 :: rl)) := C0
  have HC4 := iD.mk C0
  have hdec : Calls Tryd.prog 32 #[.slice A0 (rl.length + 1) c0] w4 (pM w4 (decM (k8 :: rl))) := oZ A0 c0 (k8 :: rl) w4 C0 q0
  rw [hback] at hdec
  simp only [List.length_cons, kD, ← hrl]
  clear hen hback C0 hn1 hrl
  go_wp2_with fail
  go_at_call 32
  refine hdec.mono ?_
  rintro e w5 ⟨X3, x3, X4, x4, X9, x9, rfl, lx, hb5⟩
  have hbm : Below w5.heap.size w5 (w5.alloc (.cells #[.int .u8 m.f0, .int .u32 m.f1, .int .u32 m.f2, .slice X3 m.f3.length x3, .slice X4 m.f4.length x4, .int .i64 m.f5, .int .i64 m.f6, .slice X9 m.f7.length x9] 51)) := iF (Below.refl _ _) _
  have hbb := hb5.trans (hbm.mono hb5.size)
  have HB5 := iD.mk (iL HB4.out hbb)
  have LM5 := iD.mk (LM4.out.below hbb)
  have LX5 := iD.mk (lx.below hbm)
  have HP5 := iD.mk (iO hbb HP4.out)
  have HC5 := iD.mk (Kd.C_below HC4.out hbb)
  have HQ5 := iD.mk (show (w5.alloc (.cells #[.int .u8 m.f0, .int .u32 m.f1, .int .u32 m.f2, .slice X3 m.f3.length x3, .slice X4 m.f4.length x4, .int .i64 m.f5, .int .i64 m.f6, .slice X9 m.f7.length x9] 51)).heap[w5.heap.size]? = some (.cells #[.int .u8 m.f0, .int .u32 m.f1, .int .u32 m.f2, .slice X3 m.f3.length x3, .slice X4 m.f4.length x4, .int .i64 m.f5, .int .i64 m.f6, .slice X9 m.f7.length x9] 51 (0, 0)) from iW rfl)
  have hsx := fun (_ : True) => run_storeAt_new (P := Tryd.prog) w5 51 #[.int .u8 0, .int .u32 0, .int .u32 0, .slice none 0 0, .slice none 0 0, .int .i64 0, .int .i64 0, .slice none 0 0] #[.int .u8 m.f0, .int .u32 m.f1, .int .u32 m.f2, .slice X3 m.f3.length x3, .slice X4 m.f4.length x4, .int .i64 m.f5, .int .i64 m.f6, .slice X9 m.f7.length x9] (by kernel_rfl) rfl (by simp [Value.oneCell'])
  have hcut := X5 A0 (rl.length + 1) c0 rl.length (rl.length : Int) rfl (Nat.le_succ _) q0
  clear hdec lx hbm hbb hb5 HB4 LM4 HP4 HC4
  go_wp2_with fail
  have hdec : Calls Tryd.prog 32 #[.slice A0 ((k8 :: rl).take rl.length).length c0] _ (pM _ (decM ((k8 :: rl).take rl.length))) := oZ A0 c0 ((k8 :: rl).take rl.length) (w5.alloc (.cells #[.int .u8 m.f0, .int .u32 m.f1, .int .u32 m.f2, .slice X3 m.f3.length x3, .slice X4 m.f4.length x4, .int .i64 m.f5, .int .i64 m.f6, .slice X9 m.f7.length x9] 51)) (by rw [List.length_take, List.length_cons, Nat.min_eq_left (Nat.le_succ _)]; exact nJ (UV (oI HC5.out) rl.length (Nat.le_succ _))) (by rw [List.length_take, List.length_cons, Nat.min_eq_left (Nat.le_succ _)]; omega)
  rw [hless, List.length_take, List.length_cons, Nat.min_eq_left (Nat.le_succ _)] at hdec
  clear hcut hsx hless
  go_at_call 32
  refine hdec.mono ?_
  rintro e w6 ⟨Y3, y3, Y4, y4, Y9, y9, rfl, ly, hb6⟩
  have hbm : Below w6.heap.size w6 (w6.alloc (.cells #[.int .u8 0, .int .u32 0, .int .u32 0, .slice Y3 0 y3, .slice Y4 0 y4, .int .i64 0, .int .i64 0, .slice Y9 0 y9] 51)) := iF (Below.refl _ _) _
  have hbb := hb6.trans (hbm.mono hb6.size)
  have HB6 := iD.mk (iL HB5.out hbb)
  have LM6 := iD.mk (LM5.out.below hbb)
  have LX6 := iD.mk (LX5.out.below hbb)
  have hp6 := iO hbb HP5.out
  have hq6 := iO hbb HQ5.out
  have hsx := fun (_ : True) => run_storeAt_new (P := Tryd.prog) w6 51 #[.int .u8 0, .int .u32 0, .int .u32 0, .slice none 0 0, .slice none 0 0, .int .i64 0, .int .i64 0, .slice none 0 0] #[.int .u8 0, .int .u32 0, .int .u32 0, .slice Y3 0 y3, .slice Y4 0 y4, .int .i64 0, .int .i64 0, .slice Y9 0 y9] (by kernel_rfl) rfl (by simp [Value.oneCell'])
  have hsame := UE m m rfl X3 x3 X4 x4 X9 x9 B3 b3 B4 b4 B9 b9 _ LX6.out LM6.out (U7 m (QC OK.out))
  simp only [lT, List.length_nil]
  clear hdec ly hbm hbb hb6 HB5 LM5 LX5 HP5 HQ5 HC5
  obtain ⟨mz0, mz1, mz2, mz3, mz4, mz5, mz6, mz7, my0, my1, my2, my3, my4, my5, my6, my7⟩ := eight (hp6)
  obtain ⟨nz0, nz1, nz2, nz3, nz4, nz5, nz6, nz7, ny0, ny1, ny2, ny3, ny4, ny5, ny6, ny7⟩ := eight (hq6)
  clear hp6 hq6
  go_wp2_with fail
  go_at_call 34
  refine hsame.mono ?_
  rintro e w7 ⟨rfl, hb7⟩
  have HB7 := iD.mk (iL HB6.out hb7)
  clear hsame hb7
  go_wp2
  go_ret
  exact ⟨rfl, HB7.out⟩
theorem msgBack_walk (kind : Int) (r : SRec) (cs : Array Value) (nodes : Int) (W : World) (hk : 0 ≤ kind ∧ kind < 256) (hr : XY W r cs.toList) (wr : RecW r) (_ : 0 ≤ nodes ∧ nodes < 256) :
    Calls Tryd.prog 8 #[.int .u8 kind, .agg cs, .int .u8 nodes] W fun e w' => e = .returned (.bool true) ∧ Below W.heap.size W w' := by
  obtain ⟨A3, a3, A4, a4, A6, a6, A9, a9, e, h3, d3, h4, d4, h6, d6, h9, d9⟩ := hr
  have e : cs = #[.int .u8 r.f0, .int .u32 r.f1, .int .u32 r.f2, .slice A3 r.f3.length a3, .slice A4 r.f4.length a4, .int .u32 r.f5.f0, .slice A6 r.f5.f1.length a6, .int .i64 r.f6, .int .i64 r.f7, .slice A9 r.f8.length a9] := by cases cs with | mk l => exact congrArg Array.mk e
  subst e
  exact JZ kind nodes hk r A3 a3 A4 a4 A6 a6 A9 a9 W ⟨h3, d3, h4, d4, h6, d6, h9, d9⟩ (fun e he => ((RN h3 h4 h6 h9).f9 e he).1) _ rfl (WE kind hk r wr nodes)
end Go.Proofs.YtgfkgppomaapiaaDoor.K
end
