/- Parts of the proof, one behind the other: CodeR, CodeS, RefB, K38, RefS, Buf, CodeL, CodeF, CodeE, K39, K40, K41, RefP, RefN, RefE, ReadS. -/
import Derived.Test.YtgfkgppomaapiaaDoorQWalLasts2
import Derived.Shelf.LaysM
import Derived.Shelf.Bytes.Len
import Derived.Shelf.Bytes.TryGrow
import Derived.Shelf.Bytes.GrowSliceCatch
import Derived.Shelf.Bytes.GrowSlice
import Derived.Shelf.Bytes.Bytes
import Derived.Shelf.Bytes.GrowRow0Kept
import Derived.Shelf.Bytes.GrowRowKept
import Derived.Shelf.Bytes.GrowNilKept
import Derived.Shelf.Bytes.GrowKept
import Derived.Shelf.Bytes.WriteByteKept
import Derived.Ground.SlgfProg
import Derived.Shelf.SlicesE.IndexFunc
import Derived.Lib.OthersKept
import Derived.Lib.BufferKept
import Derived.Lib.BufferWrite
set_option linter.unusedVariables false
set_option linter.unusedSimpArgs false
section
namespace Go.Proofs.YtgfkgppomaapiaaDoor.K
open RowKit YtgfkgppomaapiaaDoorW.PrintWords YtgfkgppomaapiaaDoorW.PrintLast YtgfkgppomaapiaaDoorW.PrintMore My
theorem O3 {w w' : World} (h : kE w w') : Below w.heap.size w w' := by
 obtain ⟨n, rfl⟩ := h
 exact iF (Below.refl _ _) n
theorem qQ {i : Int} {n : Nat} (h0 : 0 ≤ i) (h : i < (n : Int)) (hn : n ≤ 9223372036854775807) : wrap64 (i + 1) = i + 1 := by unfold wrap64; omega
theorem X8 (l : List Int) (hn : l.length ≤ 9223372036854775807) (d : Nat) : ∀ (k : Nat) (last i : Int), 0 ≤ i → i ≤ l.length → (l.length : Int) - i = d → d < k → code_rises.l0 k last l (l.length : Int) i = some (lT last (l.drop i.toNat)) := by
 induction d with
 | zero =>
  intro k last i h0 h1 hd hk
  obtain ⟨k, rfl⟩ : ∃ m, k = m + 1 := ⟨k - 1, by omega⟩
  simp only [code_rises.l0]
  rw [if_neg (by omega), List.drop_of_length_le (by omega)]
  rfl
 | succ d ih =>
  intro k last i h0 h1 hd hk
  obtain ⟨k, rfl⟩ : ∃ m, k = m + 1 := ⟨k - 1, by omega⟩
  have hlt : i < (l.length : Int) := by omega
  have hnat : i.toNat < l.length := by omega
  have hdrop : l.drop i.toNat = rd l i :: l.drop (i + 1).toNat := by
   rw [List.drop_eq_getElem_cons hnat, show (i + 1).toNat = i.toNat + 1 by omega]
   congr 1
   unfold rd
   rw [List.getD_eq_getElem?_getD, List.getElem?_eq_getElem hnat]
   rfl
  simp only [code_rises.l0]
  rw [if_pos hlt, if_pos h0, if_pos hlt, hdrop, lT]
  by_cases c1 : rd l i ≤ last
  ·rw [if_pos c1, decide_eq_false (by omega : ¬ last < rd l i)]
   rfl
  ·rw [if_neg c1, decide_eq_true (by omega : last < rd l i)]
   by_cases c2 : rd l i ≥ 6
   ·rw [if_pos c2, decide_eq_false (by omega : ¬ rd l i < 6)]
    rfl
   ·rw [if_neg c2, decide_eq_true (by omega : rd l i < 6), qQ h0 hlt hn]
    exact ih k _ (i + 1) (by omega) (by omega) (by omega) (by omega)
theorem qV (A : Option Addr) (c : Nat) (l : List Int) (w : World) (hr : Kd.C (Kd.int .i64) w A l.length l) (hc : l.length ≤ c) :
  Calls Tryd.prog 61 #[.slice A l.length c] w fun e w' => e = .returned (.bool (lT (-1) l)) ∧ Below w.heap.size w w' :=
 (code_rises.calls (l.length + 1) A c l _ w hr hc (by unfold code_rises.f; rw [X8 l (lC hr) l.length (l.length + 1) (-1) 0 (by omega) (by omega) (by omega) (by omega)]; rfl)).mono fun _ _ ⟨he, hd⟩ => ⟨he, O3 hd⟩
def gapB (p : Option Int) (a : Int) : Bool := match p with | none => true | some q => decide (q < a)
theorem uS (p : Option Int) (e : jI) (l : List jI) : oQ p (e :: l) = (mV e.f1 && gapB p e.f0 && oQ (some e.f0) l) := by
 cases p <;> rfl
def MR (l : List jI) (i : Int) : Option Int := if 0 < i then some (iU l (i - 1)).f0 else none
theorem QD (l : List jI) (hn : l.length ≤ 9223372036854775807) (d : Nat) : ∀ (k : Nat) (i : Int), 0 ≤ i → i ≤ l.length → (l.length : Int) - i = d → d < k →
  code_history.l0 k l l (l.length : Int) i = some (oQ (MR l i) (l.drop i.toNat) && decide ((l.length : Int) ≤ 5000)) := by
 induction d with
 | zero =>
  intro k i h0 h1 hd hk
  obtain ⟨k, rfl⟩ : ∃ m, k = m + 1 := ⟨k - 1, by omega⟩
  simp only [code_history.l0]
  rw [if_neg (by omega), List.drop_of_length_le (by omega)]
  rfl
 | succ d ih =>
  intro k i h0 h1 hd hk
  obtain ⟨k, rfl⟩ : ∃ m, k = m + 1 := ⟨k - 1, by omega⟩
  have hlt : i < (l.length : Int) := by omega
  have hnat : i.toNat < l.length := by omega
  have hdrop : l.drop i.toNat = iU l i :: l.drop (i + 1).toNat := by
   rw [List.drop_eq_getElem_cons hnat, show (i + 1).toNat = i.toNat + 1 by omega]
   congr 1
   unfold iU
   rw [List.getD_eq_getElem?_getD, List.getElem?_eq_getElem hnat]
   rfl
  have hnext : MR l (i + 1) = some (iU l i).f0 := by
   unfold MR
   rw [if_pos (by omega), show i + 1 - 1 = i by omega]
  have hih := ih k (i + 1) (by omega) (by omega) (by omega) (by omega)
  rw [hnext] at hih
  simp only [code_history.l0]
  rw [if_pos hlt, if_pos h0, if_pos hlt, hdrop, uS]
  simp only [code_batch.f, Option.bind_some]
  rw [qQ h0 hlt hn, hih]
  cases mV (iU l i).f1 with
  | false => rfl
  | true =>
   rw [if_pos rfl]
   by_cases hi : i > 0
   ·have hw : wrap64 (i - 1) = i - 1 := by unfold wrap64; omega
    rw [if_pos hi, hw, if_pos (by omega), if_pos (by omega)]
    unfold MR gapB
    rw [if_pos hi]
    simp only [Bool.true_and]
    by_cases c1 : (iU l i).f0 ≤ (iU l (i - 1)).f0
    ·rw [if_pos c1, decide_eq_false (show ¬ (iU l (i - 1)).f0 < (iU l i).f0 by omega)]
     rfl
    ·rw [if_neg c1, decide_eq_true (show (iU l (i - 1)).f0 < (iU l i).f0 by omega)]
     rfl
   ·rw [if_neg hi]
    unfold MR gapB
    rw [if_neg hi]
    rfl
theorem nM (A : Option Addr) (c : Nat) (l : List jI) (w : World) (hr : Kd.C k86 w A l.length l) (hc : l.length ≤ c) :
  Calls Tryd.prog 66 #[.slice A l.length c] w fun e w' => e = .returned (.bool (nS l && decide ((l.length : Int) ≤ 5000))) ∧ Below w.heap.size w w' :=
 code_history.calls (l.length + 1) A c l _ w hr hc (by unfold code_history.f; rw [QD l (lC hr) l.length (l.length + 1) 0 (by omega) (by omega) (by omega) (by omega)]; rfl)
def lS (a0 a1 a2 : Int) (l3 : List Int) (l4 : List jP) (a5 : Int) (l6 : List kG) (a7 a8 : Int) (l9 : List jI) : Bool :=
 a0 == 0 && a1 == 0 && a2 == 0 && l3.isEmpty && l4.isEmpty && a5 == 0 && l6.isEmpty && a7 == 0 && a8 == 0 && l9.isEmpty
theorem PL {α : Type} (l : List α) : ((l.length : Int) = 0) = (l.isEmpty = true) := by
 cases l with
 | nil => simp
 | cons x l => simp; omega
theorem XZ (a0 a1 a2 : Int) (l3 : List Int) (l4 : List jP) (a5 : Int) (l6 : List kG) (a7 a8 : Int) (l9 : List jI) : code_plain.f a0 a1 a2 l3 l4 a5 l6 a7 a8 l9 = some (lS a0 a1 a2 l3 l4 a5 l6 a7 a8 l9) := by
 unfold code_plain.f lS
 have e9 : ((l9.length : Int) == 0) = l9.isEmpty := by
  rw [Bool.eq_iff_iff, beq_iff_eq, PL]
 rw [e9]
 simp only [PL]
 by_cases h0 : a0 = 0
 ·by_cases h1 : a1 = 0
  ·by_cases h2 : a2 = 0
   ·cases h3 : l3.isEmpty
    ·simp [h0, h1, h2]
    ·cases h4 : l4.isEmpty
     ·simp [h0, h1, h2]
     ·by_cases h5 : a5 = 0
      ·cases h6 : l6.isEmpty
       ·simp [h0, h1, h2, h5]
       ·by_cases h7 : a7 = 0
        ·by_cases h8 : a8 = 0
         ·simp [h0, h1, h2, h5, h7, h8]
         ·simp [h0, h1, h2, h5, h7, h8]
        ·simp [h0, h1, h2, h5, h7]
      ·simp [h0, h1, h2, h5]
   ·simp [h0, h1, h2]
  ·simp [h0, h1]
 ·simp [h0]
theorem WP (s : kG) : oK s = (decide (0 ≤ s.f0) && decide (s.f0 ≤ 9999) && decide (0 ≤ s.f1) && decide (s.f1 < 6)) := rfl
set_option maxHeartbeats 1000000 in
theorem XL (s : kG) (w : World) :
  Calls Tryd.prog 65 #[.agg #[.int .i64 s.f0, .int .i64 s.f1]] w fun e w' => e = .returned (.bool (oK s)) ∧ Below w.heap.size w w' := by
 rw [WP]
 by_cases h0 : 0 ≤ s.f0
 ·by_cases h1 : s.f0 ≤ 9999
  ·by_cases h2 : 0 ≤ s.f1
   ·by_cases h3 : s.f1 < 6
    ·rw [decide_eq_true h0, decide_eq_true h1, decide_eq_true h2, decide_eq_true h3]
     go_enter Tryd.func65, Tryd.ntmps65
     go_wp2
     go_ret
     exact ⟨rfl, iG (Below.refl _ _) _⟩
    ·rw [decide_eq_true h0, decide_eq_true h1, decide_eq_true h2, decide_eq_false h3]
     go_enter Tryd.func65, Tryd.ntmps65
     go_wp2
     go_ret
     exact ⟨rfl, iG (Below.refl _ _) _⟩
   ·rw [decide_eq_true h0, decide_eq_true h1, decide_eq_false h2, Bool.and_false, Bool.false_and]
    go_enter Tryd.func65, Tryd.ntmps65
    go_wp2
    go_ret
    exact ⟨rfl, iG (Below.refl _ _) _⟩
  ·rw [decide_eq_true h0, decide_eq_false h1, Bool.and_false, Bool.false_and, Bool.false_and]
   go_enter Tryd.func65, Tryd.ntmps65
   go_wp2
   go_ret
   exact ⟨rfl, iG (Below.refl _ _) _⟩
 ·rw [decide_eq_false h0, Bool.false_and, Bool.false_and, Bool.false_and]
  go_enter Tryd.func65, Tryd.ntmps65
  go_wp2
  go_ret
  exact ⟨rfl, iG (Below.refl _ _) _⟩
set_option maxHeartbeats 400000 in
theorem OJ (s : kG) (w : World) :
  Calls Tryd.prog 64 #[.agg #[.int .i64 s.f0, .int .i64 s.f1]] w fun e w' => e = .returned (.bool (!oK s)) ∧ Below w.heap.size w w' := by
 have hcall := XL s (w.alloc (.cells #[.int .i64 s.f0, .int .i64 s.f1] 98))
 generalize oK s = b at hcall
 go_enter Tryd.func64, Tryd.ntmps64
 go_wp2_with (go_at_call 65; refine hcall.mono ?_; rintro e w' ⟨rfl, hb⟩)
 go_ret
 exact ⟨rfl, iK (iG (Below.refl _ _) _) hb⟩
def zI : kG := z98
set_option maxHeartbeats 1000000 in
theorem O7 (A : Option Addr) (c : Nat) (l : List kG) (w : World) (hr : Kd.C k98 w A l.length l) :
  Calls Tryd.prog 95 #[.slice A l.length c, .func (.func 64) #[] #[]] w (OL (l.any fun f => !oK f) w) := by
 have hm := lC hr
 have HR := iC.mk hr
 clear hr
 go_enter Tryd.func95, Tryd.ntmps95
 go_wp2
 go_loopg [5, 8] l.length (fun gg _ s8 wr => ∃ k : Nat, k ≤ l.length ∧ l.length - k ≤ gg ∧ s8 = .int .i64 k ∧ iC (Below w.heap.size w wr) ∧ iC ((l.take k).any (fun f => !oK f) = false))
 case atStart => exact ⟨0, Nat.zero_le _, by omega, rfl, ⟨Below.refl _ _⟩, ⟨rfl⟩⟩
 case round =>
  obtain ⟨k, hk, hg, rfl, HW, HA⟩ := hrel
  by_cases hlt : k < l.length
  ·obtain ⟨ad, rfl, hx0, hx1⟩ := zM (Kd.C_below HR.out HW.out) (k : Int) (by omega) (by omega)
   have hsn := any_take_succ (fun f => !oK f) zI l k hlt
   have hgd : kX l (k : Int) = l.getD k zI := by unfold kX zI; rw [Int.toNat_natCast]
   rw [hgd] at hx0 hx1
   rw [Int.toNat_natCast] at hx0 hx1
   clear hgd
   obtain ⟨f, hf⟩ : ∃ v, v = l.getD k zI := ⟨_, rfl⟩
   rw [← hf] at hx0 hx1 hsn
   have hcall := OJ f wr
   cases hq : (!oK f) with
   | true =>
    have HH := iC.mk (OU (fun f => !oK f) zI l k hlt (by rw [← hf]; exact hq))
    rw [hq] at hcall
    clear hf hsn hq
    go_wp2_with (go_at_call 64; refine hcall.mono ?_; rintro e w' ⟨rfl, hb⟩)
    go_ret
    exact ⟨k, rfl, by rw [HH.out]; simp, iK HW.out hb⟩
   | false =>
    have HN := iC.mk (show (l.take (k + 1)).any (fun f => !oK f) = false by rw [hsn, HA.out, hq]; rfl)
    rw [hq] at hcall
    clear hf hsn hq
    go_wp2_with (go_at_call 64; refine hcall.mono ?_; rintro e w' ⟨rfl, hb⟩)
    go_roundg (l.length - (k + 1))
    case measure => omega
    case rel => exact ⟨k + 1, by omega, by omega, by go_num, ⟨iK HW.out hb⟩, HN⟩
  ·have : k = l.length := by omega
   subst this
   go_wp2
   go_ret
   exact ⟨-1, rfl, by rw [JM _ _ HA.out]; rfl, HW.out⟩
set_option maxHeartbeats 400000 in
theorem zL (A : Option Addr) (c : Nat) (l : List kG) (w : World) (hr : Kd.C k98 w A l.length l) :
  Calls Tryd.prog 63 #[.slice A l.length c, .func (.func 64) #[] #[]] w fun e w' => e = .returned (.bool (l.any fun f => !oK f)) ∧ Below w.heap.size w w' := by
 have hcall := O7 A c l w hr
 clear hr
 generalize (l.any fun f => !oK f) = b at hcall
 go_enter Tryd.func63, Tryd.ntmps63
 go_wp2_with (go_at_call 95; refine hcall.mono ?_; rintro e w' ⟨r, rfl, hr, hb⟩; have HR := iC.mk hr; clear hr)
 go_ret
 exact ⟨by rw [← HR.out]; rfl, hb⟩
end Go.Proofs.YtgfkgppomaapiaaDoor.K
end

section
namespace Go.Proofs.YtgfkgppomaapiaaDoor.K
open RowKit YtgfkgppomaapiaaDoorW.PrintWords YtgfkgppomaapiaaDoorW.PrintLast YtgfkgppomaapiaaDoorW.PrintMore My
theorem ten {w : World} {b t : Nat} {v0 v1 v2 v3 v4 v5 v6 v7 v8 v9 : Value} (h : w.heap[b]? = some (.cells #[v0, v1, v2, v3, v4, v5, v6, v7, v8, v9] t (0, 0))) :
  w.cell? ⟨b, 0, none⟩ = some v0 ∧ w.cell? ⟨b, 1, none⟩ = some v1 ∧ w.cell? ⟨b, 2, none⟩ = some v2 ∧ w.cell? ⟨b, 3, none⟩ = some v3 ∧ w.cell? ⟨b, 4, none⟩ = some v4 ∧ w.cell? ⟨b, 5, none⟩ = some v5 ∧ w.cell? ⟨b, 6, none⟩ = some v6 ∧ w.cell? ⟨b, 7, none⟩ = some v7 ∧ w.cell? ⟨b, 8, none⟩ = some v8 ∧ w.cell? ⟨b, 9, none⟩ = some v9 ∧
  w.frozen? ⟨b, 0, none⟩ = false ∧ w.frozen? ⟨b, 1, none⟩ = false ∧ w.frozen? ⟨b, 2, none⟩ = false ∧ w.frozen? ⟨b, 3, none⟩ = false ∧ w.frozen? ⟨b, 4, none⟩ = false ∧ w.frozen? ⟨b, 5, none⟩ = false ∧ w.frozen? ⟨b, 6, none⟩ = false ∧ w.frozen? ⟨b, 7, none⟩ = false ∧ w.frozen? ⟨b, 8, none⟩ = false ∧ w.frozen? ⟨b, 9, none⟩ = false :=
 ⟨(iE h 0).trans rfl, (iE h 1).trans rfl, (iE h 2).trans rfl, (iE h 3).trans rfl, (iE h 4).trans rfl, (iE h 5).trans rfl, (iE h 6).trans rfl, (iE h 7).trans rfl, (iE h 8).trans rfl, (iE h 9).trans rfl,
  iD h 0, iD h 1, iD h 2, iD h 3, iD h 4, iD h 5, iD h 6, iD h 7, iD h 8, iD h 9⟩
theorem nT (a0 a1 a2 : Int) (A3 : Option Addr) (c3 : Nat) (l3 : List Int) (A4 : Option Addr) (c4 : Nat) (l4 : List jP) (a5 : Int) (A6 : Option Addr) (c6 : Nat) (l6 : List kG) (a7 a8 : Int) (A9 : Option Addr) (c9 : Nat) (l9 : List jI) (w : World)
  (h3 : Kd.C (Kd.int .i64) w A3 l3.length l3) (d3 : l3.length ≤ c3) (h4 : Kd.C k139 w A4 l4.length l4) (d4 : l4.length ≤ c4) (h6 : Kd.C k98 w A6 l6.length l6) (d6 : l6.length ≤ c6) (h9 : Kd.C k86 w A9 l9.length l9) (d9 : l9.length ≤ c9) :
  Calls Tryd.prog 67 #[.agg #[.int .u8 a0, .int .u32 a1, .int .u32 a2, .slice A3 l3.length c3, .slice A4 l4.length c4, .int .u32 a5, .slice A6 l6.length c6, .int .i64 a7, .int .i64 a8, .slice A9 l9.length c9]] w fun e w' => e = .returned (.bool (lS a0 a1 a2 l3 l4 a5 l6 a7 a8 l9)) ∧ Below w.heap.size w w' :=
 code_plain.calls a0 a1 a2 A3 c3 l3 A4 c4 l4 a5 A6 c6 l6 a7 a8 A9 c9 l9 _ w h3 d3 h4 d4 h6 d6 h9 d9 (XZ _ _ _ _ _ _ _ _ _ _)
def code_Sound.f (a0_0 : Int) (a0_1 : Int) (a0_2 : Int) (l0_3 : List Int) (l0_4 : List jP) (a0_5 : Int) (l0_6 : List kG) (a0_7 : Int) (a0_8 : Int) (l0_9 : List jI) : Option Bool :=
 some (kC ⟨a0_0, a0_1, a0_2, l0_3, l0_4, ⟨a0_5, l0_6⟩, a0_7, a0_8, l0_9⟩)
theorem YM (a1 a2 : Int) (l3 : List Int) (l4 : List jP) (a5 : Int) (l6 : List kG) (a7 a8 : Int) (l9 : List jI) : kC ⟨1, a1, a2, l3, l4, ⟨a5, l6⟩, a7, a8, l9⟩ = (lT (-1) l3 && mV l4 && lS 0 0 a2 [] [] a5 l6 a7 a8 l9) := by
 simp [kC, lS, Bool.and_assoc]
theorem YK (a1 a2 : Int) (l3 : List Int) (l4 : List jP) (a5 : Int) (l6 : List kG) (a7 a8 : Int) (l9 : List jI) : kC ⟨2, a1, a2, l3, l4, ⟨a5, l6⟩, a7, a8, l9⟩ = (lT (-1) l3 && lS 0 0 0 [] l4 a5 l6 a7 a8 l9) := by
 simp [kC, lS, Bool.and_assoc]
theorem JO (a0 a1 a2 : Int) (l3 : List Int) (l4 : List jP) (a5 : Int) (l6 : List kG) (a7 a8 : Int) (l9 : List jI) (h : a0 = 3 ∨ a0 = 4 ∨ a0 = 5) : kC ⟨a0, a1, a2, l3, l4, ⟨a5, l6⟩, a7, a8, l9⟩ = lS 0 0 a2 l3 l4 a5 l6 a7 a8 l9 := by
 rcases h with rfl | rfl | rfl <;> simp [kC, lS, Bool.and_assoc]
theorem YS (a1 a2 : Int) (l3 : List Int) (l4 : List jP) (a5 : Int) (l6 : List kG) (a7 a8 : Int) (l9 : List jI) : kC ⟨6, a1, a2, l3, l4, ⟨a5, l6⟩, a7, a8, l9⟩ = (decide (a1 = 0) && decide ((l6.length : Int) ≤ 40) && !(l6.any fun s => !oK s) && lS 0 0 a2 l3 l4 0 [] a7 a8 l9) := by
 have e1 : l6.all oK = !(l6.any fun s => !oK s) := by rw [List.any_eq_not_all_not, Bool.not_not]; congr 1; funext v; simp
 have e2 : decide (l6.length ≤ 40) = decide ((l6.length : Int) ≤ 40) := by rw [decide_eq_decide]; omega
 have e3 : (a1 == 0) = decide (a1 = 0) := by rw [Bool.eq_iff_iff]; simp
 rw [← e1, ← e2, ← e3]
 simp [kC, lS, Bool.and_assoc]
theorem ZB (a1 a2 : Int) (l3 : List Int) (l4 : List jP) (a5 : Int) (l6 : List kG) (a7 a8 : Int) (l9 : List jI) : kC ⟨7, a1, a2, l3, l4, ⟨a5, l6⟩, a7, a8, l9⟩ = ((nS l9 && decide ((l9.length : Int) ≤ 5000)) && decide (0 ≤ a7) && decide (a7 ≤ 10000) && decide (0 ≤ a8) && decide (a8 ≤ 10000) && lS 0 0 a2 l3 l4 a5 l6 0 0 []) := by
 have e2 : decide (l9.length ≤ 5000) = decide ((l9.length : Int) ≤ 5000) := by rw [decide_eq_decide]; omega
 rw [← e2]
 simp [kC, lS, Bool.and_assoc]
theorem YP (a0 a1 a2 : Int) (l3 : List Int) (l4 : List jP) (a5 : Int) (l6 : List kG) (a7 a8 : Int) (l9 : List jI) (h : a0 < 1 ∨ 7 < a0) : kC ⟨a0, a1, a2, l3, l4, ⟨a5, l6⟩, a7, a8, l9⟩ = false := by
 unfold kC
 simp only
 rw [if_neg (by omega), if_neg (by omega), if_neg (by simp; omega), if_neg (by omega), if_neg (by omega)]
section
variable (a0 a1 a2 : Int) (A3 : Option Addr) (c3 : Nat) (l3 : List Int) (A4 : Option Addr) (c4 : Nat) (l4 : List jP) (a5 : Int) (A6 : Option Addr) (c6 : Nat) (l6 : List kG) (a7 a8 : Int) (A9 : Option Addr) (c9 : Nat) (l9 : List jI) (w : World)
 (h3 : Kd.C (Kd.int .i64) w A3 l3.length l3) (d3 : l3.length ≤ c3) (h4 : Kd.C k139 w A4 l4.length l4) (d4 : l4.length ≤ c4) (h6 : Kd.C k98 w A6 l6.length l6) (d6 : l6.length ≤ c6) (h9 : Kd.C k86 w A9 l9.length l9) (d9 : l9.length ≤ c9)
include h3 d3 h4 d4 h6 d6 h9 d9
set_option maxHeartbeats 4000000 in
set_option maxRecDepth 20000 in
theorem QN : Calls Tryd.prog 19 #[.agg #[.int .u8 1, .int .u32 a1, .int .u32 a2, .slice A3 l3.length c3, .slice A4 l4.length c4, .int .u32 a5, .slice A6 l6.length c6, .int .i64 a7, .int .i64 a8, .slice A9 l9.length c9]] w fun e w' => e = .returned (.bool (kC ⟨1, a1, a2, l3, l4, ⟨a5, l6⟩, a7, a8, l9⟩)) ∧ Below w.heap.size w w' := by
 have H3 := iC.mk h3; have H4 := iC.mk h4; have H6 := iC.mk h6; have H9 := iC.mk h9
 clear h3 h4 h6 h9
 rw [YM]
 cases hr : lT (-1) l3 with
 | false =>
  have HQ := iC.mk hr
  clear hr
  rw [Bool.false_and, Bool.false_and]
  go_enter Tryd.func19, Tryd.ntmps19
  go_wp2_with (go_at_call 61; refine (qV _ _ l3 _ (Kd.C_below H3.out bel_) d3).mono ?_; rintro e w1 ⟨rfl, hb1⟩; rw [HQ.out]; have hbk := ten (iO hb1 (jB rfl)); obtain ⟨z0, z1, z2, z3, z4, z5, z6, z7, z8, z9, y0, y1, y2, y3, y4, y5, y6, y7, y8, y9⟩ := hbk)
  go_ret
  exact ⟨rfl, bel_⟩
 | true =>
  have HQ := iC.mk hr
  clear hr
  rw [Bool.true_and]
  cases hb : mV l4 with
  | false =>
   have HQ2 := iC.mk hb
   clear hb
   rw [Bool.false_and]
   go_enter Tryd.func19, Tryd.ntmps19
   go_wp2_with (first | (go_at_call 61; refine (qV _ _ l3 _ (Kd.C_below H3.out bel_) d3).mono ?_; rintro e w1 ⟨rfl, hb1⟩; rw [HQ.out]; have hbk := ten (iO hb1 (jB rfl)); obtain ⟨z0, z1, z2, z3, z4, z5, z6, z7, z8, z9, y0, y1, y2, y3, y4, y5, y6, y7, y8, y9⟩ := hbk) | (go_at_call 62; refine (code_batch.calls _ _ l4 _ _ (Kd.C_below H4.out bel_) d4 rfl).mono ?_; rintro e w2 ⟨rfl, hb2⟩; rw [HQ2.out]; have hbk1 := iO hb2 (iO hb1 (jB rfl)); clear z0 z1 z2 z3 z4 z5 z6 z7 z8 z9 y0 y1 y2 y3 y4 y5 y6 y7 y8 y9; obtain ⟨z0, z1, z2, z3, z4, z5, z6, z7, z8, z9, y0, y1, y2, y3, y4, y5, y6, y7, y8, y9⟩ := ten hbk1; clear hbk1))
   go_ret
   exact ⟨rfl, bel_⟩
  | true =>
   have HQ2 := iC.mk hb
   clear hb
   rw [Bool.true_and]
   generalize hp : lS 0 0 a2 [] [] a5 l6 a7 a8 l9 = P
   have HP := iC.mk hp
   clear hp
   go_enter Tryd.func19, Tryd.ntmps19
   go_wp2_with (first | (go_at_call 61; refine (qV _ _ l3 _ (Kd.C_below H3.out bel_) d3).mono ?_; rintro e w1 ⟨rfl, hb1⟩; rw [HQ.out]; have hbk := ten (iO hb1 (jB rfl)); obtain ⟨z0, z1, z2, z3, z4, z5, z6, z7, z8, z9, y0, y1, y2, y3, y4, y5, y6, y7, y8, y9⟩ := hbk) | (go_at_call 62; refine (code_batch.calls _ _ l4 _ _ (Kd.C_below H4.out bel_) d4 rfl).mono ?_; rintro e w2 ⟨rfl, hb2⟩; rw [HQ2.out]; have hbk1 := iO hb2 (iO hb1 (jB rfl)); clear z0 z1 z2 z3 z4 z5 z6 z7 z8 z9 y0 y1 y2 y3 y4 y5 y6 y7 y8 y9; obtain ⟨z0, z1, z2, z3, z4, z5, z6, z7, z8, z9, y0, y1, y2, y3, y4, y5, y6, y7, y8, y9⟩ := ten hbk1; clear hbk1) | (go_at_call 67; refine (nT 0 0 a2 none 0 ([] : List Int) none 0 ([] : List jP) a5 A6 c6 l6 a7 a8 A9 c9 l9 _ (Kd.C_nil _ _) (Nat.le_refl _) (Kd.C_nil _ _) (Nat.le_refl _) (Kd.C_below H6.out bel_) d6 (Kd.C_below H9.out bel_) d9).mono ?_; rintro e w9 ⟨rfl, hb9⟩))
   go_ret
   exact ⟨by rw [← HP.out]; rfl, bel_⟩
set_option maxHeartbeats 4000000 in
set_option maxRecDepth 20000 in
theorem RY : Calls Tryd.prog 19 #[.agg #[.int .u8 2, .int .u32 a1, .int .u32 a2, .slice A3 l3.length c3, .slice A4 l4.length c4, .int .u32 a5, .slice A6 l6.length c6, .int .i64 a7, .int .i64 a8, .slice A9 l9.length c9]] w fun e w' => e = .returned (.bool (kC ⟨2, a1, a2, l3, l4, ⟨a5, l6⟩, a7, a8, l9⟩)) ∧ Below w.heap.size w w' := by
 have H3 := iC.mk h3; have H4 := iC.mk h4; have H6 := iC.mk h6; have H9 := iC.mk h9
 clear h3 h4 h6 h9
 rw [YK]
 cases hr : lT (-1) l3 with
 | false =>
  have HQ := iC.mk hr
  clear hr
  rw [Bool.false_and]
  go_enter Tryd.func19, Tryd.ntmps19
  go_wp2_with (go_at_call 61; refine (qV _ _ l3 _ (Kd.C_below H3.out bel_) d3).mono ?_; rintro e w1 ⟨rfl, hb1⟩; rw [HQ.out]; have hbk := ten (iO hb1 (jB rfl)); obtain ⟨z0, z1, z2, z3, z4, z5, z6, z7, z8, z9, y0, y1, y2, y3, y4, y5, y6, y7, y8, y9⟩ := hbk)
  go_ret
  exact ⟨rfl, bel_⟩
 | true =>
  have HQ := iC.mk hr
  clear hr
  rw [Bool.true_and]
  generalize hp : lS 0 0 0 [] l4 a5 l6 a7 a8 l9 = P
  have HP := iC.mk hp
  clear hp
  go_enter Tryd.func19, Tryd.ntmps19
  go_wp2_with (first | (go_at_call 61; refine (qV _ _ l3 _ (Kd.C_below H3.out bel_) d3).mono ?_; rintro e w1 ⟨rfl, hb1⟩; rw [HQ.out]; have hbk := ten (iO hb1 (jB rfl)); obtain ⟨z0, z1, z2, z3, z4, z5, z6, z7, z8, z9, y0, y1, y2, y3, y4, y5, y6, y7, y8, y9⟩ := hbk) | (go_at_call 67; refine (nT 0 0 0 none 0 ([] : List Int) A4 c4 l4 a5 A6 c6 l6 a7 a8 A9 c9 l9 _ (Kd.C_nil _ _) (Nat.le_refl _) (Kd.C_below H4.out bel_) d4 (Kd.C_below H6.out bel_) d6 (Kd.C_below H9.out bel_) d9).mono ?_; rintro e w9 ⟨rfl, hb9⟩))
  go_ret
  exact ⟨by rw [← HP.out]; rfl, bel_⟩
set_option maxHeartbeats 4000000 in
set_option maxRecDepth 20000 in
theorem N7 (ha : a0 = 3 ∨ a0 = 4 ∨ a0 = 5) : Calls Tryd.prog 19 #[.agg #[.int .u8 a0, .int .u32 a1, .int .u32 a2, .slice A3 l3.length c3, .slice A4 l4.length c4, .int .u32 a5, .slice A6 l6.length c6, .int .i64 a7, .int .i64 a8, .slice A9 l9.length c9]] w fun e w' => e = .returned (.bool (kC ⟨a0, a1, a2, l3, l4, ⟨a5, l6⟩, a7, a8, l9⟩)) ∧ Below w.heap.size w w' := by
 have H3 := iC.mk h3; have H4 := iC.mk h4; have H6 := iC.mk h6; have H9 := iC.mk h9
 clear h3 h4 h6 h9
 rcases ha with rfl | rfl | rfl
 ·
  rw [JO _ _ _ _ _ _ _ _ _ _ (by omega)]
  generalize hp : lS 0 0 a2 l3 l4 a5 l6 a7 a8 l9 = P
  have HP := iC.mk hp
  clear hp
  go_enter Tryd.func19, Tryd.ntmps19
  go_wp2_with (go_at_call 67; refine (nT 0 0 a2 A3 c3 l3 A4 c4 l4 a5 A6 c6 l6 a7 a8 A9 c9 l9 _ (Kd.C_below H3.out bel_) d3 (Kd.C_below H4.out bel_) d4 (Kd.C_below H6.out bel_) d6 (Kd.C_below H9.out bel_) d9).mono ?_; rintro e w9 ⟨rfl, hb9⟩)
  go_ret
  exact ⟨by rw [← HP.out]; rfl, bel_⟩
 ·
  rw [JO _ _ _ _ _ _ _ _ _ _ (by omega)]
  generalize hp : lS 0 0 a2 l3 l4 a5 l6 a7 a8 l9 = P
  have HP := iC.mk hp
  clear hp
  go_enter Tryd.func19, Tryd.ntmps19
  go_wp2_with (go_at_call 67; refine (nT 0 0 a2 A3 c3 l3 A4 c4 l4 a5 A6 c6 l6 a7 a8 A9 c9 l9 _ (Kd.C_below H3.out bel_) d3 (Kd.C_below H4.out bel_) d4 (Kd.C_below H6.out bel_) d6 (Kd.C_below H9.out bel_) d9).mono ?_; rintro e w9 ⟨rfl, hb9⟩)
  go_ret
  exact ⟨by rw [← HP.out]; rfl, bel_⟩
 ·
  rw [JO _ _ _ _ _ _ _ _ _ _ (by omega)]
  generalize hp : lS 0 0 a2 l3 l4 a5 l6 a7 a8 l9 = P
  have HP := iC.mk hp
  clear hp
  go_enter Tryd.func19, Tryd.ntmps19
  go_wp2_with (go_at_call 67; refine (nT 0 0 a2 A3 c3 l3 A4 c4 l4 a5 A6 c6 l6 a7 a8 A9 c9 l9 _ (Kd.C_below H3.out bel_) d3 (Kd.C_below H4.out bel_) d4 (Kd.C_below H6.out bel_) d6 (Kd.C_below H9.out bel_) d9).mono ?_; rintro e w9 ⟨rfl, hb9⟩)
  go_ret
  exact ⟨by rw [← HP.out]; rfl, bel_⟩
set_option maxHeartbeats 4000000 in
set_option maxRecDepth 20000 in
theorem RH : Calls Tryd.prog 19 #[.agg #[.int .u8 6, .int .u32 a1, .int .u32 a2, .slice A3 l3.length c3, .slice A4 l4.length c4, .int .u32 a5, .slice A6 l6.length c6, .int .i64 a7, .int .i64 a8, .slice A9 l9.length c9]] w fun e w' => e = .returned (.bool (kC ⟨6, a1, a2, l3, l4, ⟨a5, l6⟩, a7, a8, l9⟩)) ∧ Below w.heap.size w w' := by
 have _ := d6
 have H3 := iC.mk h3; have H4 := iC.mk h4; have H6 := iC.mk h6; have H9 := iC.mk h9
 clear h3 h4 h6 h9
 rw [YS]
 by_cases q1 : a1 = 0
 ·subst q1
  by_cases q2 : (l6.length : Int) ≤ 40
  ·rw [decide_eq_true (rfl : (0 : Int) = 0), decide_eq_true q2]
   cases hr : (l6.any fun s => !oK s) with
   | true =>
    have HQ := iC.mk hr
    clear hr
    go_enter Tryd.func19, Tryd.ntmps19
    go_wp2_with (first | (go_at_call 63; refine (zL _ _ l6 _ (Kd.C_below H6.out bel_)).mono ?_; rintro e w1 ⟨rfl, hb1⟩; rw [HQ.out]; have hbk := ten (iO hb1 (jB rfl)); obtain ⟨z0, z1, z2, z3, z4, z5, z6, z7, z8, z9, y0, y1, y2, y3, y4, y5, y6, y7, y8, y9⟩ := hbk) | (go_at_call 67; refine (nT 0 0 a2 A3 c3 l3 A4 c4 l4 0 none 0 ([] : List kG) a7 a8 A9 c9 l9 _ (Kd.C_below H3.out bel_) d3 (Kd.C_below H4.out bel_) d4 (Kd.C_nil _ _) (Nat.le_refl _) (Kd.C_below H9.out bel_) d9).mono ?_; rintro e w9 ⟨rfl, hb9⟩))
    go_ret
    exact ⟨rfl, bel_⟩
   | false =>
    have HQ := iC.mk hr
    clear hr
    rw [show (true && true && !false && lS 0 0 a2 l3 l4 0 [] a7 a8 l9) = lS 0 0 a2 l3 l4 0 [] a7 a8 l9 by simp]
    generalize hp : lS 0 0 a2 l3 l4 0 [] a7 a8 l9 = P
    have HP := iC.mk hp
    clear hp
    go_enter Tryd.func19, Tryd.ntmps19
    go_wp2_with (first | (go_at_call 63; refine (zL _ _ l6 _ (Kd.C_below H6.out bel_)).mono ?_; rintro e w1 ⟨rfl, hb1⟩; rw [HQ.out]; have hbk := ten (iO hb1 (jB rfl)); obtain ⟨z0, z1, z2, z3, z4, z5, z6, z7, z8, z9, y0, y1, y2, y3, y4, y5, y6, y7, y8, y9⟩ := hbk) | (go_at_call 67; refine (nT 0 0 a2 A3 c3 l3 A4 c4 l4 0 none 0 ([] : List kG) a7 a8 A9 c9 l9 _ (Kd.C_below H3.out bel_) d3 (Kd.C_below H4.out bel_) d4 (Kd.C_nil _ _) (Nat.le_refl _) (Kd.C_below H9.out bel_) d9).mono ?_; rintro e w9 ⟨rfl, hb9⟩))
    go_ret
    exact ⟨by rw [← HP.out]; rfl, bel_⟩
  ·rw [decide_eq_true (rfl : (0 : Int) = 0), decide_eq_false q2]
   go_enter Tryd.func19, Tryd.ntmps19
   go_wp2_with fail
   go_ret
   exact ⟨rfl, bel_⟩
 ·rw [decide_eq_false q1, Bool.false_and, Bool.false_and, Bool.false_and]
  have q1' : (a1 == 0) = false := beq_eq_false_iff_ne.mpr q1
  go_enter Tryd.func19, Tryd.ntmps19
  go_wp2_with fail
  go_ret
  exact ⟨rfl, bel_⟩
set_option maxHeartbeats 4000000 in
set_option maxRecDepth 20000 in
theorem RQ : Calls Tryd.prog 19 #[.agg #[.int .u8 7, .int .u32 a1, .int .u32 a2, .slice A3 l3.length c3, .slice A4 l4.length c4, .int .u32 a5, .slice A6 l6.length c6, .int .i64 a7, .int .i64 a8, .slice A9 l9.length c9]] w fun e w' => e = .returned (.bool (kC ⟨7, a1, a2, l3, l4, ⟨a5, l6⟩, a7, a8, l9⟩)) ∧ Below w.heap.size w w' := by
 have H3 := iC.mk h3; have H4 := iC.mk h4; have H6 := iC.mk h6; have H9 := iC.mk h9
 clear h3 h4 h6 h9
 rw [ZB]
 cases hr : (nS l9 && decide ((l9.length : Int) ≤ 5000)) with
 | false =>
  have HQ := iC.mk hr
  clear hr
  rw [Bool.false_and, Bool.false_and, Bool.false_and, Bool.false_and, Bool.false_and]
  go_enter Tryd.func19, Tryd.ntmps19
  go_wp2_with (go_at_call 66; refine (nM _ _ l9 _ (Kd.C_below H9.out bel_) d9).mono ?_; rintro e w1 ⟨rfl, hb1⟩; rw [HQ.out]; have hbk := ten (iO hb1 (jB rfl)); obtain ⟨z0, z1, z2, z3, z4, z5, z6, z7, z8, z9, y0, y1, y2, y3, y4, y5, y6, y7, y8, y9⟩ := hbk)
  go_ret
  exact ⟨rfl, bel_⟩
 | true =>
  have HQ := iC.mk hr
  clear hr
  by_cases q1 : 0 ≤ a7
  ·by_cases q2 : a7 ≤ 10000
   ·by_cases q3 : 0 ≤ a8
    ·by_cases q4 : a8 ≤ 10000
     ·rw [decide_eq_true q1, decide_eq_true q2, decide_eq_true q3, decide_eq_true q4]
      rw [show (true && true && true && true && true && lS 0 0 a2 l3 l4 a5 l6 0 0 []) = lS 0 0 a2 l3 l4 a5 l6 0 0 [] by simp]
      generalize hp : lS 0 0 a2 l3 l4 a5 l6 0 0 [] = P
      have HP := iC.mk hp
      clear hp
      go_enter Tryd.func19, Tryd.ntmps19
      go_wp2_with (first | (go_at_call 66; refine (nM _ _ l9 _ (Kd.C_below H9.out bel_) d9).mono ?_; rintro e w1 ⟨rfl, hb1⟩; rw [HQ.out]; have hbk := ten (iO hb1 (jB rfl)); obtain ⟨z0, z1, z2, z3, z4, z5, z6, z7, z8, z9, y0, y1, y2, y3, y4, y5, y6, y7, y8, y9⟩ := hbk) | (go_at_call 67; refine (nT 0 0 a2 A3 c3 l3 A4 c4 l4 a5 A6 c6 l6 0 0 none 0 ([] : List jI) _ (Kd.C_below H3.out bel_) d3 (Kd.C_below H4.out bel_) d4 (Kd.C_below H6.out bel_) d6 (Kd.C_nil _ _) (Nat.le_refl _)).mono ?_; rintro e w9 ⟨rfl, hb9⟩))
      go_ret
      exact ⟨by rw [← HP.out]; rfl, bel_⟩
     ·rw [decide_eq_false q4, Bool.and_false, Bool.false_and]
      go_enter Tryd.func19, Tryd.ntmps19
      go_wp2_with (go_at_call 66; refine (nM _ _ l9 _ (Kd.C_below H9.out bel_) d9).mono ?_; rintro e w1 ⟨rfl, hb1⟩; rw [HQ.out]; have hbk := ten (iO hb1 (jB rfl)); obtain ⟨z0, z1, z2, z3, z4, z5, z6, z7, z8, z9, y0, y1, y2, y3, y4, y5, y6, y7, y8, y9⟩ := hbk)
      go_ret
      exact ⟨rfl, bel_⟩
    ·rw [decide_eq_false q3, Bool.and_false, Bool.false_and, Bool.false_and]
     go_enter Tryd.func19, Tryd.ntmps19
     go_wp2_with (go_at_call 66; refine (nM _ _ l9 _ (Kd.C_below H9.out bel_) d9).mono ?_; rintro e w1 ⟨rfl, hb1⟩; rw [HQ.out]; have hbk := ten (iO hb1 (jB rfl)); obtain ⟨z0, z1, z2, z3, z4, z5, z6, z7, z8, z9, y0, y1, y2, y3, y4, y5, y6, y7, y8, y9⟩ := hbk)
     go_ret
     exact ⟨rfl, bel_⟩
   ·rw [decide_eq_false q2, Bool.and_false, Bool.false_and, Bool.false_and, Bool.false_and]
    go_enter Tryd.func19, Tryd.ntmps19
    go_wp2_with (go_at_call 66; refine (nM _ _ l9 _ (Kd.C_below H9.out bel_) d9).mono ?_; rintro e w1 ⟨rfl, hb1⟩; rw [HQ.out]; have hbk := ten (iO hb1 (jB rfl)); obtain ⟨z0, z1, z2, z3, z4, z5, z6, z7, z8, z9, y0, y1, y2, y3, y4, y5, y6, y7, y8, y9⟩ := hbk)
    go_ret
    exact ⟨rfl, bel_⟩
  ·rw [decide_eq_false q1, Bool.and_false, Bool.false_and, Bool.false_and, Bool.false_and, Bool.false_and]
   go_enter Tryd.func19, Tryd.ntmps19
   go_wp2_with (go_at_call 66; refine (nM _ _ l9 _ (Kd.C_below H9.out bel_) d9).mono ?_; rintro e w1 ⟨rfl, hb1⟩; rw [HQ.out]; have hbk := ten (iO hb1 (jB rfl)); obtain ⟨z0, z1, z2, z3, z4, z5, z6, z7, z8, z9, y0, y1, y2, y3, y4, y5, y6, y7, y8, y9⟩ := hbk)
   go_ret
   exact ⟨rfl, bel_⟩
set_option maxHeartbeats 4000000 in
set_option maxRecDepth 20000 in
theorem RN (ha : a0 < 1 ∨ 7 < a0) : Calls Tryd.prog 19 #[.agg #[.int .u8 a0, .int .u32 a1, .int .u32 a2, .slice A3 l3.length c3, .slice A4 l4.length c4, .int .u32 a5, .slice A6 l6.length c6, .int .i64 a7, .int .i64 a8, .slice A9 l9.length c9]] w fun e w' => e = .returned (.bool (kC ⟨a0, a1, a2, l3, l4, ⟨a5, l6⟩, a7, a8, l9⟩)) ∧ Below w.heap.size w w' := by
 have _ := d3; have _ := d4; have _ := d6; have _ := d9
 have H3 := iC.mk h3; have H4 := iC.mk h4; have H6 := iC.mk h6; have H9 := iC.mk h9
 clear h3 h4 h6 h9
 rw [YP _ _ _ _ _ _ _ _ _ _ ha]
 have q1 : (a0 == 1) = false := beq_eq_false_iff_ne.mpr (by omega)
 have q2 : (a0 == 2) = false := beq_eq_false_iff_ne.mpr (by omega)
 have q3 : (a0 == 3) = false := beq_eq_false_iff_ne.mpr (by omega)
 have q4 : (a0 == 4) = false := beq_eq_false_iff_ne.mpr (by omega)
 have q5 : (a0 == 5) = false := beq_eq_false_iff_ne.mpr (by omega)
 have q6 : (a0 == 6) = false := beq_eq_false_iff_ne.mpr (by omega)
 have q7 : (a0 == 7) = false := beq_eq_false_iff_ne.mpr (by omega)
 clear ha
 go_enter Tryd.func19, Tryd.ntmps19
 go_wp2
 go_ret
 exact ⟨rfl, bel_⟩
end
theorem code_Sound.calls (a0_0 : Int) (a0_1 : Int) (a0_2 : Int) (A0_3 : Option Addr) (c0_3 : Nat) (l0_3 : List Int) (A0_4 : Option Addr) (c0_4 : Nat) (l0_4 : List jP) (a0_5 : Int) (A0_6 : Option Addr) (c0_6 : Nat) (l0_6 : List kG) (a0_7 : Int) (a0_8 : Int) (A0_9 : Option Addr) (c0_9 : Nat) (l0_9 : List jI) (r : Bool) (w : World) (hr0_3 : Kd.C (Kd.int .i64) w A0_3 l0_3.length l0_3) (hc0_3 : l0_3.length ≤ c0_3) (hr0_4 : Kd.C k139 w A0_4 l0_4.length l0_4) (hc0_4 : l0_4.length ≤ c0_4) (hr0_6 : Kd.C k98 w A0_6 l0_6.length l0_6) (hc0_6 : l0_6.length ≤ c0_6) (hr0_9 : Kd.C k86 w A0_9 l0_9.length l0_9) (hc0_9 : l0_9.length ≤ c0_9) (h : code_Sound.f a0_0 a0_1 a0_2 l0_3 l0_4 a0_5 l0_6 a0_7 a0_8 l0_9 = some r) :
  Calls Tryd.prog 19 #[.agg #[.int .u8 a0_0, .int .u32 a0_1, .int .u32 a0_2, .slice A0_3 l0_3.length c0_3, .slice A0_4 l0_4.length c0_4, .int .u32 a0_5, .slice A0_6 l0_6.length c0_6, .int .i64 a0_7, .int .i64 a0_8, .slice A0_9 l0_9.length c0_9]] w fun e w' => e = .returned (.bool r) ∧ Below w.heap.size w w' := by
 obtain rfl := Option.some.inj h
 clear h
 by_cases h0 : a0_0 < 1 ∨ 7 < a0_0
 ·exact RN a0_0 a0_1 a0_2 A0_3 c0_3 l0_3 A0_4 c0_4 l0_4 a0_5 A0_6 c0_6 l0_6 a0_7 a0_8 A0_9 c0_9 l0_9 w hr0_3 hc0_3 hr0_4 hc0_4 hr0_6 hc0_6 hr0_9 hc0_9 h0
 have h7 : a0_0 = 1 ∨ a0_0 = 2 ∨ (a0_0 = 3 ∨ a0_0 = 4 ∨ a0_0 = 5) ∨ a0_0 = 6 ∨ a0_0 = 7 := by omega
 rcases h7 with rfl | rfl | h3 | rfl | rfl
 ·exact QN a0_1 a0_2 A0_3 c0_3 l0_3 A0_4 c0_4 l0_4 a0_5 A0_6 c0_6 l0_6 a0_7 a0_8 A0_9 c0_9 l0_9 w hr0_3 hc0_3 hr0_4 hc0_4 hr0_6 hc0_6 hr0_9 hc0_9
 ·exact RY a0_1 a0_2 A0_3 c0_3 l0_3 A0_4 c0_4 l0_4 a0_5 A0_6 c0_6 l0_6 a0_7 a0_8 A0_9 c0_9 l0_9 w hr0_3 hc0_3 hr0_4 hc0_4 hr0_6 hc0_6 hr0_9 hc0_9
 ·exact N7 a0_0 a0_1 a0_2 A0_3 c0_3 l0_3 A0_4 c0_4 l0_4 a0_5 A0_6 c0_6 l0_6 a0_7 a0_8 A0_9 c0_9 l0_9 w hr0_3 hc0_3 hr0_4 hc0_4 hr0_6 hc0_6 hr0_9 hc0_9 h3
 ·exact RH a0_1 a0_2 A0_3 c0_3 l0_3 A0_4 c0_4 l0_4 a0_5 A0_6 c0_6 l0_6 a0_7 a0_8 A0_9 c0_9 l0_9 w hr0_3 hc0_3 hr0_4 hc0_4 hr0_6 hc0_6 hr0_9 hc0_9
 ·exact RQ a0_1 a0_2 A0_3 c0_3 l0_3 A0_4 c0_4 l0_4 a0_5 A0_6 c0_6 l0_6 a0_7 a0_8 A0_9 c0_9 l0_9 w hr0_3 hc0_3 hr0_4 hc0_4 hr0_6 hc0_6 hr0_9 hc0_9
end Go.Proofs.YtgfkgppomaapiaaDoor.K
end

section
namespace Go.Proofs.YtgfkgppomaapiaaDoor.K
open RowKit YtgfkgppomaapiaaDoorW.PrintWords YtgfkgppomaapiaaDoorW.PrintLast YtgfkgppomaapiaaDoorW.PrintMore My
def flag (b : Bool) (c : Nat) (s : List UInt8) : Bool := b || s.any fun x => x.toNat == c
def jf7 (a1 a2 : Int) (l3 : List Int) (l4 : List jP) (a5 : Int) (l6 : List kG) (a7 a8 : Int) (l9 : List jI) (s : List UInt8) : Bool :=
 flag (a1 == 0) 73 s && flag (a2 == 0) 65 s && flag ((l3.length : Int) == 0) 78 s && flag ((l4.length : Int) == 0) 70 s && flag ((a5 == 0) && ((l6.length : Int) == 0)) 77 s && flag ((a7 == 0) && (a8 == 0) && ((l9.length : Int) == 0)) 82 s
def stratumref07_bare.f (a0_0 : Int) (a0_1 : Int) (a0_2 : Int) (l0_3 : List Int) (l0_4 : List jP) (a0_5 : Int) (l0_6 : List kG) (a0_7 : Int) (a0_8 : Int) (l0_9 : List jI) (a1 : ByteArray) : Option Bool :=
 if (a1.size : Int) ≤ 9223372036854775807 then some (jf7 a0_1 a0_2 l0_3 l0_4 a0_5 l0_6 a0_7 a0_8 l0_9 a1.data.toList) else none
end Go.Proofs.YtgfkgppomaapiaaDoor.K
end

section
namespace Go.Proofs.YtgfkgppomaapiaaDoor.K
open Go.RowKit Go.Proofs.YtgfkgppomaapiaaDoorW.PrintWords Go.Proofs.YtgfkgppomaapiaaDoorW.PrintLast Go.Proofs.YtgfkgppomaapiaaDoorW.PrintMore
attribute [local go_sem] kF kD kN kM
def stratumref07_Sound.j0 : Nat → Int → Bool → Int → Int → Int → List Int → List (S139) → Int → List (S98) → Int → Int → List (S86) → Option (Bool)
 | 0, _, _, _, _, _, _, _, _, _, _, _, _ => none
 | k + 1, x4, x28, x136000, x136001, x136002, x136003, x136004, x136005, x136006, x136007, x136008, x136009 => if x28 = true then ((stratumref07_bare.f x136000 x136001 x136002 x136003 x136004 x136005 x136006 x136007 x136008 x136009 (⟨#[73]⟩ : ByteArray)).bind fun t141 => (some t141)) else (if x4 = 6 then ((stratumref07_bare.f x136000 x136001 x136002 x136003 x136004 x136005 x136006 x136007 x136008 x136009 (⟨#[77]⟩ : ByteArray)).bind fun t142 => (if t142 = true then ((stratumref07_spans.f k x136006).bind fun t143 => (some t143)) else (some false))) else (if x4 = 7 then ((stratumref07_bare.f x136000 x136001 x136002 x136003 x136004 x136005 x136006 x136007 x136008 x136009 (⟨#[73, 82]⟩ : ByteArray)).bind fun t144 => (if t144 = true then ((stratumref07_SoundEntries.f k x136009).bind fun t145 => (if t145 = true then (if x136007 ≥ 0 then (if x136007 ≤ 10000 then (if x136008 ≥ 0 then (some (decide (x136008 ≤ 10000))) else (some false)) else (some false)) else (some false)) else (some false))) else (some false))) else (some false)))
def stratumref07_Sound.f (k : Nat) (a0_0 : Int) (a0_1 : Int) (a0_2 : Int) (l0_3 : List Int) (l0_4 : List (S139)) (a0_5 : Int) (l0_6 : List (S98)) (a0_7 : Int) (a0_8 : Int) (l0_9 : List (S86)) : Option (Bool) := if a0_0 = 1 then ((stratumref07_bare.f a0_0 a0_1 a0_2 l0_3 l0_4 a0_5 l0_6 a0_7 a0_8 l0_9 (⟨#[73, 78, 70]⟩ : ByteArray)).bind fun t136 => (if t136 = true then ((stratumref07_SoundNodes.f k l0_3).bind fun t137 => (if t137 = true then ((stratumref07_SoundFacts.f k l0_4).bind fun t138 => (some t138)) else (some false))) else (some false))) else (if a0_0 = 2 then ((stratumref07_bare.f a0_0 a0_1 a0_2 l0_3 l0_4 a0_5 l0_6 a0_7 a0_8 l0_9 (⟨#[73, 65, 78]⟩ : ByteArray)).bind fun t139 => (if t139 = true then ((stratumref07_SoundNodes.f k l0_3).bind fun t140 => (some t140)) else (some false))) else (if a0_0 = 3 then (stratumref07_Sound.j0 k a0_0 (a0_0 == 3) a0_0 a0_1 a0_2 l0_3 l0_4 a0_5 l0_6 a0_7 a0_8 l0_9) else (if a0_0 = 4 then (stratumref07_Sound.j0 k a0_0 (a0_0 == 4) a0_0 a0_1 a0_2 l0_3 l0_4 a0_5 l0_6 a0_7 a0_8 l0_9) else (stratumref07_Sound.j0 k a0_0 (a0_0 == 5) a0_0 a0_1 a0_2 l0_3 l0_4 a0_5 l0_6 a0_7 a0_8 l0_9))))
end Go.Proofs.YtgfkgppomaapiaaDoor.K
end

section
namespace Go.Proofs.YtgfkgppomaapiaaDoor.K
open RowKit YtgfkgppomaapiaaDoorW.PrintWords YtgfkgppomaapiaaDoorW.PrintLast YtgfkgppomaapiaaDoorW.PrintMore My
theorem VH {α : Type} (d : α) (l : List α) (i : Int) (h : i.toNat < l.length) (h0 : 0 ≤ i) : l.drop i.toNat = l.getD i.toNat d :: l.drop (i + 1).toNat := by
 rw [List.drop_eq_getElem_cons h, show (i + 1).toNat = i.toNat + 1 by omega]
 congr 1
 rw [List.getD_eq_getElem?_getD, List.getElem?_eq_getElem h]
 rfl
theorem drop_end {α : Type} (l : List α) (i : Int) (h : ¬ i < (l.length : Int)) : l.drop i.toNat = [] := List.drop_of_length_le (by omega)
structure YX (l3 : List Int) (l4 : List jP) (l6 : List kG) (l9 : List jI) : Prop where
 n3 : l3.length ≤ 9223372036854775807
 n4 : l4.length ≤ 9223372036854775807
 f4 : ∀ f ∈ l4, f.f0.length ≤ 9223372036854775807
 n6 : l6.length ≤ 9223372036854775807
 n9 : l9.length ≤ 9223372036854775807
 f9 : ∀ e ∈ l9, e.f1.length ≤ 9223372036854775807 ∧ ∀ f ∈ e.f1, f.f0.length ≤ 9223372036854775807
theorem UU {g : Nat → Option Bool} {b : Bool} (B : Bool) (h : Ev g b) : Ev (fun k => if B = true then g k else some false) (B && b) := by
 cases B with
 | false => exact Ev.now _
 | true => exact h
end Go.Proofs.YtgfkgppomaapiaaDoor.K
end

section
namespace Go.Proofs
open Go.Shelf
def Tryd.laysM181_ren : Go.Shelf.Ren := ⟨fun | 181 => 55 | n => n, fun | 130 => 87 | 3 => 3 | 0 => 0 | 93 => 91 | 37 => 33 | 91 => 89 | 5 => 5 | n => n, fun | n => n⟩
theorem Tryd.laysM181 : Go.Proofs.LaysM.n181 Tryd.prog Tryd.laysM181_ren := {
 mixed := by kernel_rfl
 f181 := Tryd.func55.trans (congrArg some (by kernel_rfl))
 t0 := Tryd.underlying0
 a0 := Tryd.isAgg0
 z0 := Tryd.sizeOf0
 v0 := Tryd.zeroValue0
 t3 := Tryd.underlying3
 a3 := Tryd.isAgg3
 z3 := Tryd.sizeOf3
 v3 := Tryd.zeroValue3
 t37 := Tryd.underlying33
 a37 := Tryd.isAgg33
 z37 := Tryd.sizeOf33
 v37 := Tryd.zeroValue33
 t93 := Tryd.underlying91
 a93 := Tryd.isAgg91
 z93 := Tryd.sizeOf91
 v93 := Tryd.zeroValue91
 t130 := Tryd.underlying87
 a130 := Tryd.isAgg87
 z130 := Tryd.sizeOf87
 v130 := Tryd.zeroValue87
 t5 := Tryd.underlying5
 a5 := Tryd.isAgg5
 z5 := Tryd.sizeOf5
 v5 := Tryd.zeroValue5
 t91 := Tryd.underlying89
 a91 := Tryd.isAgg89
 z91 := Tryd.sizeOf89
 v91 := Tryd.zeroValue89
 i0 := by kernel_rfl
 i3 := by kernel_rfl
 i5 := by kernel_rfl
 i37 := by kernel_rfl
 i91 := by kernel_rfl
 i93 := by kernel_rfl
 i130 := by kernel_rfl }
open Go.RowKit in
theorem Tryd.Buffer_Len (B b : Nat) (bs : List Value) (w : World) (h : Lib.IsBuffer 91 5 B b bs w) :
  Calls Tryd.prog 55 #[.pointer (some ⟨b, 0, none⟩)] w fun e w' => e = .returned (.int .i64 bs.length) ∧ ∃ n, w' = w.drewN n := Any.Buffer_Len Tryd.laysM181 B b bs w h
def Tryd.laysM183_ren : Go.Shelf.Ren := ⟨fun | 183 => 56 | n => n, fun | 130 => 87 | 37 => 33 | 0 => 0 | 93 => 91 | 3 => 3 | 5 => 5 | 91 => 89 | n => n, fun | n => n⟩
theorem Tryd.laysM183 : Go.Proofs.LaysM.n183 Tryd.prog Tryd.laysM183_ren := {
 mixed := by kernel_rfl
 f183 := Tryd.func56.trans (congrArg some (by kernel_rfl))
 t0 := Tryd.underlying0
 a0 := Tryd.isAgg0
 z0 := Tryd.sizeOf0
 v0 := Tryd.zeroValue0
 t3 := Tryd.underlying3
 a3 := Tryd.isAgg3
 z3 := Tryd.sizeOf3
 v3 := Tryd.zeroValue3
 t37 := Tryd.underlying33
 a37 := Tryd.isAgg33
 z37 := Tryd.sizeOf33
 v37 := Tryd.zeroValue33
 t93 := Tryd.underlying91
 a93 := Tryd.isAgg91
 z93 := Tryd.sizeOf91
 v93 := Tryd.zeroValue91
 t130 := Tryd.underlying87
 a130 := Tryd.isAgg87
 z130 := Tryd.sizeOf87
 v130 := Tryd.zeroValue87
 t5 := Tryd.underlying5
 a5 := Tryd.isAgg5
 z5 := Tryd.sizeOf5
 v5 := Tryd.zeroValue5
 t91 := Tryd.underlying89
 a91 := Tryd.isAgg89
 z91 := Tryd.sizeOf89
 v91 := Tryd.zeroValue89
 i0 := by kernel_rfl
 i3 := by kernel_rfl
 i5 := by kernel_rfl
 i37 := by kernel_rfl
 i91 := by kernel_rfl
 i93 := by kernel_rfl
 i130 := by kernel_rfl }
open Go.RowKit in
theorem Tryd.Buffer_Bytes (B b : Nat) (bs : List Value) (w : World) (h : Lib.IsBuffer 91 5 B b bs w) :
  Calls Tryd.prog 56 #[.pointer (some ⟨b, 0, none⟩)] w fun e w' => ∃ v, e = .returned v ∧ w'.ownsRow B 5 1 v bs.length bs ∧ ∃ n, w' = w.drewN n := Any.Buffer_Bytes Tryd.laysM183 B b bs w h
def Tryd.laysM179_ren : Go.Shelf.Ren := ⟨fun | 179 => 90 | 251 => 114 | 252 => 115 | 181 => 55 | 184 => 125 | 290 => 128 | 324 => 132 | n => n, fun | 130 => 87 | 5 => 5 | 75 => 141 | 0 => 0 | 93 => 91 | 91 => 89 | 3 => 3 | 131 => 167 | 4 => 4 | 37 => 33 | 20 => 20 | 80 => 185 | 9 => 9 | n => n, fun | 14 => 0 | n => n⟩
theorem Tryd.laysM179 : Go.Proofs.LaysM.n179 Tryd.prog Tryd.laysM179_ren := {
 mixed := by kernel_rfl
 f179 := Tryd.func90.trans (congrArg some (by kernel_rfl))
 f181 := Tryd.func55.trans (congrArg some (by kernel_rfl))
 f184 := Tryd.func125.trans (congrArg some (by kernel_rfl))
 f251 := Tryd.func114.trans (congrArg some (by kernel_rfl))
 f252 := Tryd.func115.trans (congrArg some (by kernel_rfl))
 f290 := Tryd.func128.trans (congrArg some (by kernel_rfl))
 f324 := Tryd.func132.trans (congrArg some (by kernel_rfl))
 t0 := Tryd.underlying0
 a0 := Tryd.isAgg0
 z0 := Tryd.sizeOf0
 v0 := Tryd.zeroValue0
 t3 := Tryd.underlying3
 a3 := Tryd.isAgg3
 z3 := Tryd.sizeOf3
 v3 := Tryd.zeroValue3
 t4 := Tryd.underlying4
 a4 := Tryd.isAgg4
 z4 := Tryd.sizeOf4
 v4 := Tryd.zeroValue4
 t5 := Tryd.underlying5
 a5 := Tryd.isAgg5
 z5 := Tryd.sizeOf5
 v5 := Tryd.zeroValue5
 t20 := Tryd.underlying20
 a20 := Tryd.isAgg20
 z20 := Tryd.sizeOf20
 v20 := Tryd.zeroValue20
 t37 := Tryd.underlying33
 a37 := Tryd.isAgg33
 z37 := Tryd.sizeOf33
 v37 := Tryd.zeroValue33
 t75 := Tryd.underlying141
 a75 := Tryd.isAgg141
 z75 := Tryd.sizeOf141
 v75 := Tryd.zeroValue141
 t91 := Tryd.underlying89
 a91 := Tryd.isAgg89
 z91 := Tryd.sizeOf89
 v91 := Tryd.zeroValue89
 t93 := Tryd.underlying91
 a93 := Tryd.isAgg91
 z93 := Tryd.sizeOf91
 v93 := Tryd.zeroValue91
 t130 := Tryd.underlying87
 a130 := Tryd.isAgg87
 z130 := Tryd.sizeOf87
 v130 := Tryd.zeroValue87
 t131 := Tryd.underlying167
 a131 := Tryd.isAgg167
 z131 := Tryd.sizeOf167
 v131 := Tryd.zeroValue167
 g14 := by kernel_rfl
 t9 := Tryd.underlying9
 a9 := Tryd.isAgg9
 z9 := Tryd.sizeOf9
 v9 := Tryd.zeroValue9
 t80 := Tryd.underlying185
 a80 := Tryd.isAgg185
 z80 := Tryd.sizeOf185
 v80 := Tryd.zeroValue185
 i0 := by kernel_rfl
 i3 := by kernel_rfl
 i4 := by kernel_rfl
 i5 := by kernel_rfl
 i9 := by kernel_rfl
 i20 := by kernel_rfl
 i37 := by kernel_rfl
 i75 := by kernel_rfl
 i80 := by kernel_rfl
 i91 := by kernel_rfl
 i93 := by kernel_rfl
 i130 := by kernel_rfl
 i131 := by kernel_rfl
 m14 := by kernel_rfl }
open Go.RowKit in
theorem Tryd.Buffer_WriteByte_kept (B b : Nat) (bs : List Value) (c : Int) (w : World) (h : Lib.IsBuffer 91 5 B b bs w) (hBw : B ≤ w.heap.size) (h1 : ∀ v ∈ bs, v.oneCell' = true) (hlim : bs.length + 1 ≤ 140737488355328) :
  Calls Tryd.prog 90 #[.pointer (some ⟨b, 0, none⟩), .int .u8 c] w fun e w' => e = .returned .nilIface ∧ Lib.IsBuffer 91 5 B b (bs ++ [.int .u8 c]) w' ∧ Below B w w' ∧ Lib.OthersKept 5 (some b) w w' := Any.Buffer_WriteByte_kept Tryd.laysM179 B b bs c w h hBw h1 hlim
end Go.Proofs
end

section
namespace Go.Proofs.YtgfkgppomaapiaaDoor.K
open RowKit YtgfkgppomaapiaaDoorW.PrintWords YtgfkgppomaapiaaDoorW.PrintLast YtgfkgppomaapiaaDoorW.PrintMore My
def Bf (B b : Nat) (l : List UInt8) (w : World) : Prop := Lib.IsBuffer 91 5 B b (Lib.byteCells l) w
def Kp (B b : Nat) (w w' : World) : Prop := Below B w w' ∧ Lib.OthersKept 5 (some b) w w'
theorem Kp.refl (B b : Nat) (w : World) : Kp B b w w := ⟨Below.refl _ _, Lib.OthersKept.refl _ _ _⟩
theorem Kp.trans {B b : Nat} {w w1 w2 : World} (h : Kp B b w w1) (k : Kp B b w1 w2) : Kp B b w w2 := ⟨h.1.trans k.1, h.2.trans k.2⟩
theorem Kp.alloc {B b : Nat} {w w1 : World} (h : Kp B b w w1) (hB : B ≤ w1.heap.size) (o : Obj) : Kp B b w (w1.alloc o) := ⟨h.1.alloc hB o, h.2.alloc o⟩
theorem Kp.size {B b : Nat} {w w1 : World} (h : Kp B b w w1) : w.heap.size ≤ w1.heap.size := h.1.size
theorem Kp.block {B b : Nat} {w w1 : World} (h : Kp B b w w1) {k : Nat} {cs : Array Value} {t : TypeId} {fz : Nat × Nat} (hk : w.heap[k]? = some (.cells cs t fz)) (hne : k ≠ b) (ht : t ≠ 5) : w1.heap[k]? = some (.cells cs t fz) :=
 h.2 k _ hk (fun e => hne (by injection e)) (fun c f e => ht (by injection e))
theorem Bf.lt {B b : Nat} {l : List UInt8} {w : World} (h : Bf B b l w) : b < w.heap.size := Lib.IsBuffer.lt h
theorem Bf.alloc {B b : Nat} {l : List UInt8} {w : World} (h : Bf B b l w) (o : Obj) : Bf B b l (w.alloc o) := Lib.IsBuffer.alloc h o
theorem Bf.fresh (w : World) : Bf w.heap.size w.heap.size [] (w.alloc (.cells #[.slice none 0 0, .int .i64 0, .int .i8 0] 91)) := Lib.fresh_isBuffer _ _ _
theorem TI (l : List UInt8) (c : UInt8) : Lib.byteCells (l ++ [c]) = Lib.byteCells l ++ [.int .u8 (c.toNat : Int)] := by simp [Lib.byteCells]
theorem XO (x : Int) (s k : Nat) (hk : k < s) : (layB x s).take (k + 1) = (layB x s).take k ++ [UInt8.ofNat ((x / 256 ^ (s - 1 - k)) % 256).toNat] := by
 induction s generalizing k with
 | zero => omega
 | succ s ih =>
  cases k with
  | zero => simp [layB]
  | succ k =>
   have := ih k (by omega)
   simp only [layB, List.take_succ_cons, List.cons_append]
   rw [this, show s + 1 - 1 - (k + 1) = s - 1 - k by omega]
theorem byte_of (v : Int) : ((UInt8.ofNat (v % 256).toNat).toNat : Int) = v % 256 := by
 rw [UInt8.toNat_ofNat']
 omega
theorem Bf.step {B b : Nat} {l : List UInt8} {x V : Int} {s k : Nat} {w : World} (h : Lib.IsBuffer 91 5 B b (Lib.byteCells (l ++ (layB x s).take k) ++ [.int .u8 V]) w) (hk : k < s) (hV : V = x / 256 ^ (s - 1 - k) % 256) : Bf B b (l ++ (layB x s).take (k + 1)) w := by
 unfold Bf
 rw [XO x s k hk, ← List.append_assoc, TI, byte_of, ← hV]
 exact h
theorem cells_one (l : List UInt8) : ∀ v ∈ Lib.byteCells l, v.oneCell' = true := Lib.byteCells_one l
theorem kL (l : List UInt8) (x : Int) (s k : Nat) (h : l.length + s ≤ 140737488355328) (hk : k < s) : (Lib.byteCells (l ++ (layB x s).take k)).length + 1 ≤ 140737488355328 := by
 rw [Lib.byteCells_length, List.length_append, List.length_take, iT]
 omega
set_option maxHeartbeats 4000000 in
theorem oP (B b : Nat) (l : List UInt8) (x : Int) (w : World) (h : Bf B b l w) (hB : B ≤ w.heap.size) (hl : l.length + 1 ≤ 140737488355328) :
  Calls Tryd.prog 49 #[.pointer (some ⟨b, 0, none⟩), .int .u8 x, .int .i64 1] w fun e w' => e = .returned (.tuple #[]) ∧ Bf B b (l ++ layB x 1) w' ∧ Kp B b w w' := by
 have H0 := iC.mk h
 clear h
 go_enter Tryd.func49, Tryd.ntmps49
 go_wp2
 go_loopw [8] (fun i wr => ∃ k : Nat, k ≤ 1 ∧ i = .int .i64 k ∧ iC (Bf B b (l ++ (layB x 1).take k) wr) ∧ iC (Kp B b w wr)) (fun i _ => 1 - (intOf i).toNat)
 case atStart => exact ⟨0, Nat.zero_le _, rfl, ⟨by rw [List.take_zero, List.append_nil]; exact H0.out⟩, ⟨Kp.refl _ _ _⟩⟩
 case round =>
  obtain ⟨k, hk, rfl, HI, HK⟩ := hrel
  have h' : k = 0 ∨ k = 1 := by omega
  rcases h' with rfl | rfl
  ·have hI := HI.out
   have hK := HK.out
   clear HI HK
   go_wp2_with (go_at_call 90; refine (Tryd.Buffer_WriteByte_kept B b _ _ wr hI (Nat.le_trans hB hK.size) (cells_one _) (kL l x 1 0 hl (by omega))).mono ?_; rintro e w1 ⟨rfl, hI1, hb1, hk1⟩; have HI1 := iC.mk hI1; have HK1 := iC.mk (hK.trans ⟨hb1, hk1⟩); clear hI1 hb1 hk1 hI hK)
   go_roundw
   case rel => exact ⟨1, by omega, by go_num, ⟨Bf.step (k := 0) HI1.out (by omega) (by first | rfl | (show _ = x / 1 % 256; rw [IntKind.wrap_u64]; omega) | (show _ = x / 1 % 256; omega))⟩, HK1⟩
   case measure => simp [intOf]
  ·go_wp2
   go_end0
   refine ⟨rfl, ?_, HK.out⟩
   have := HI.out
   rwa [List.take_of_length_le (by rw [iT]; exact Nat.le_refl _)] at this
set_option maxHeartbeats 4000000 in
theorem lL (B b : Nat) (l : List UInt8) (x : Int) (w : World) (h : Bf B b l w) (hB : B ≤ w.heap.size) (hl : l.length + 4 ≤ 140737488355328) :
  Calls Tryd.prog 50 #[.pointer (some ⟨b, 0, none⟩), .int .u32 x, .int .i64 4] w fun e w' => e = .returned (.tuple #[]) ∧ Bf B b (l ++ layB x 4) w' ∧ Kp B b w w' := by
 have H0 := iC.mk h
 clear h
 go_enter Tryd.func50, Tryd.ntmps50
 go_wp2
 go_loopw [8] (fun i wr => ∃ k : Nat, k ≤ 4 ∧ i = .int .i64 k ∧ iC (Bf B b (l ++ (layB x 4).take k) wr) ∧ iC (Kp B b w wr)) (fun i _ => 4 - (intOf i).toNat)
 case atStart => exact ⟨0, Nat.zero_le _, rfl, ⟨by rw [List.take_zero, List.append_nil]; exact H0.out⟩, ⟨Kp.refl _ _ _⟩⟩
 case round =>
  obtain ⟨k, hk, rfl, HI, HK⟩ := hrel
  have h' : k = 0 ∨ k = 1 ∨ k = 2 ∨ k = 3 ∨ k = 4 := by omega
  rcases h' with rfl | rfl | rfl | rfl | rfl
  ·have hI := HI.out
   have hK := HK.out
   clear HI HK
   go_wp2_with (go_at_call 90; refine (Tryd.Buffer_WriteByte_kept B b _ _ wr hI (Nat.le_trans hB hK.size) (cells_one _) (kL l x 4 0 hl (by omega))).mono ?_; rintro e w1 ⟨rfl, hI1, hb1, hk1⟩; have HI1 := iC.mk hI1; have HK1 := iC.mk (hK.trans ⟨hb1, hk1⟩); clear hI1 hb1 hk1 hI hK)
   go_roundw
   case rel => exact ⟨1, by omega, by go_num, ⟨Bf.step (k := 0) HI1.out (by omega) (by first | rfl | (show _ = x / 16777216 % 256; rw [IntKind.wrap_u64]; omega) | (show _ = x / 16777216 % 256; omega))⟩, HK1⟩
   case measure => simp [intOf]
  ·have hI := HI.out
   have hK := HK.out
   clear HI HK
   go_wp2_with (go_at_call 90; refine (Tryd.Buffer_WriteByte_kept B b _ _ wr hI (Nat.le_trans hB hK.size) (cells_one _) (kL l x 4 1 hl (by omega))).mono ?_; rintro e w1 ⟨rfl, hI1, hb1, hk1⟩; have HI1 := iC.mk hI1; have HK1 := iC.mk (hK.trans ⟨hb1, hk1⟩); clear hI1 hb1 hk1 hI hK)
   go_roundw
   case rel => exact ⟨2, by omega, by go_num, ⟨Bf.step (k := 1) HI1.out (by omega) (by first | rfl | (show _ = x / 65536 % 256; rw [IntKind.wrap_u64]; omega) | (show _ = x / 65536 % 256; omega))⟩, HK1⟩
   case measure => simp [intOf]
  ·have hI := HI.out
   have hK := HK.out
   clear HI HK
   go_wp2_with (go_at_call 90; refine (Tryd.Buffer_WriteByte_kept B b _ _ wr hI (Nat.le_trans hB hK.size) (cells_one _) (kL l x 4 2 hl (by omega))).mono ?_; rintro e w1 ⟨rfl, hI1, hb1, hk1⟩; have HI1 := iC.mk hI1; have HK1 := iC.mk (hK.trans ⟨hb1, hk1⟩); clear hI1 hb1 hk1 hI hK)
   go_roundw
   case rel => exact ⟨3, by omega, by go_num, ⟨Bf.step (k := 2) HI1.out (by omega) (by first | rfl | (show _ = x / 256 % 256; rw [IntKind.wrap_u64]; omega) | (show _ = x / 256 % 256; omega))⟩, HK1⟩
   case measure => simp [intOf]
  ·have hI := HI.out
   have hK := HK.out
   clear HI HK
   go_wp2_with (go_at_call 90; refine (Tryd.Buffer_WriteByte_kept B b _ _ wr hI (Nat.le_trans hB hK.size) (cells_one _) (kL l x 4 3 hl (by omega))).mono ?_; rintro e w1 ⟨rfl, hI1, hb1, hk1⟩; have HI1 := iC.mk hI1; have HK1 := iC.mk (hK.trans ⟨hb1, hk1⟩); clear hI1 hb1 hk1 hI hK)
   go_roundw
   case rel => exact ⟨4, by omega, by go_num, ⟨Bf.step (k := 3) HI1.out (by omega) (by first | rfl | (show _ = x / 1 % 256; rw [IntKind.wrap_u64]; omega) | (show _ = x / 1 % 256; omega))⟩, HK1⟩
   case measure => simp [intOf]
  ·go_wp2
   go_end0
   refine ⟨rfl, ?_, HK.out⟩
   have := HI.out
   rwa [List.take_of_length_le (by rw [iT]; exact Nat.le_refl _)] at this
set_option maxHeartbeats 4000000 in
theorem qB (B b : Nat) (l : List UInt8) (x : Int) (w : World) (h : Bf B b l w) (hB : B ≤ w.heap.size) (hl : l.length + 1 ≤ 140737488355328) :
  Calls Tryd.prog 53 #[.pointer (some ⟨b, 0, none⟩), .int .i64 x, .int .i64 1] w fun e w' => e = .returned (.tuple #[]) ∧ Bf B b (l ++ layB x 1) w' ∧ Kp B b w w' := by
 have H0 := iC.mk h
 clear h
 go_enter Tryd.func53, Tryd.ntmps53
 go_wp2
 go_loopw [8] (fun i wr => ∃ k : Nat, k ≤ 1 ∧ i = .int .i64 k ∧ iC (Bf B b (l ++ (layB x 1).take k) wr) ∧ iC (Kp B b w wr)) (fun i _ => 1 - (intOf i).toNat)
 case atStart => exact ⟨0, Nat.zero_le _, rfl, ⟨by rw [List.take_zero, List.append_nil]; exact H0.out⟩, ⟨Kp.refl _ _ _⟩⟩
 case round =>
  obtain ⟨k, hk, rfl, HI, HK⟩ := hrel
  have h' : k = 0 ∨ k = 1 := by omega
  rcases h' with rfl | rfl
  ·have hI := HI.out
   have hK := HK.out
   clear HI HK
   go_wp2_with (go_at_call 90; refine (Tryd.Buffer_WriteByte_kept B b _ _ wr hI (Nat.le_trans hB hK.size) (cells_one _) (kL l x 1 0 hl (by omega))).mono ?_; rintro e w1 ⟨rfl, hI1, hb1, hk1⟩; have HI1 := iC.mk hI1; have HK1 := iC.mk (hK.trans ⟨hb1, hk1⟩); clear hI1 hb1 hk1 hI hK)
   go_roundw
   case rel => exact ⟨1, by omega, by go_num, ⟨Bf.step (k := 0) HI1.out (by omega) (by first | rfl | (show _ = x / 1 % 256; rw [IntKind.wrap_u64]; omega) | (show _ = x / 1 % 256; omega))⟩, HK1⟩
   case measure => simp [intOf]
  ·go_wp2
   go_end0
   refine ⟨rfl, ?_, HK.out⟩
   have := HI.out
   rwa [List.take_of_length_le (by rw [iT]; exact Nat.le_refl _)] at this
set_option maxHeartbeats 4000000 in
theorem nZ (B b : Nat) (l : List UInt8) (x : Int) (w : World) (h : Bf B b l w) (hB : B ≤ w.heap.size) (hl : l.length + 4 ≤ 140737488355328) :
  Calls Tryd.prog 53 #[.pointer (some ⟨b, 0, none⟩), .int .i64 x, .int .i64 4] w fun e w' => e = .returned (.tuple #[]) ∧ Bf B b (l ++ layB x 4) w' ∧ Kp B b w w' := by
 have H0 := iC.mk h
 clear h
 go_enter Tryd.func53, Tryd.ntmps53
 go_wp2
 go_loopw [8] (fun i wr => ∃ k : Nat, k ≤ 4 ∧ i = .int .i64 k ∧ iC (Bf B b (l ++ (layB x 4).take k) wr) ∧ iC (Kp B b w wr)) (fun i _ => 4 - (intOf i).toNat)
 case atStart => exact ⟨0, Nat.zero_le _, rfl, ⟨by rw [List.take_zero, List.append_nil]; exact H0.out⟩, ⟨Kp.refl _ _ _⟩⟩
 case round =>
  obtain ⟨k, hk, rfl, HI, HK⟩ := hrel
  have h' : k = 0 ∨ k = 1 ∨ k = 2 ∨ k = 3 ∨ k = 4 := by omega
  rcases h' with rfl | rfl | rfl | rfl | rfl
  ·have hI := HI.out
   have hK := HK.out
   clear HI HK
   go_wp2_with (go_at_call 90; refine (Tryd.Buffer_WriteByte_kept B b _ _ wr hI (Nat.le_trans hB hK.size) (cells_one _) (kL l x 4 0 hl (by omega))).mono ?_; rintro e w1 ⟨rfl, hI1, hb1, hk1⟩; have HI1 := iC.mk hI1; have HK1 := iC.mk (hK.trans ⟨hb1, hk1⟩); clear hI1 hb1 hk1 hI hK)
   go_roundw
   case rel => exact ⟨1, by omega, by go_num, ⟨Bf.step (k := 0) HI1.out (by omega) (by first | rfl | (show _ = x / 16777216 % 256; rw [IntKind.wrap_u64]; omega) | (show _ = x / 16777216 % 256; omega))⟩, HK1⟩
   case measure => simp [intOf]
  ·have hI := HI.out
   have hK := HK.out
   clear HI HK
   go_wp2_with (go_at_call 90; refine (Tryd.Buffer_WriteByte_kept B b _ _ wr hI (Nat.le_trans hB hK.size) (cells_one _) (kL l x 4 1 hl (by omega))).mono ?_; rintro e w1 ⟨rfl, hI1, hb1, hk1⟩; have HI1 := iC.mk hI1; have HK1 := iC.mk (hK.trans ⟨hb1, hk1⟩); clear hI1 hb1 hk1 hI hK)
   go_roundw
   case rel => exact ⟨2, by omega, by go_num, ⟨Bf.step (k := 1) HI1.out (by omega) (by first | rfl | (show _ = x / 65536 % 256; rw [IntKind.wrap_u64]; omega) | (show _ = x / 65536 % 256; omega))⟩, HK1⟩
   case measure => simp [intOf]
  ·have hI := HI.out
   have hK := HK.out
   clear HI HK
   go_wp2_with (go_at_call 90; refine (Tryd.Buffer_WriteByte_kept B b _ _ wr hI (Nat.le_trans hB hK.size) (cells_one _) (kL l x 4 2 hl (by omega))).mono ?_; rintro e w1 ⟨rfl, hI1, hb1, hk1⟩; have HI1 := iC.mk hI1; have HK1 := iC.mk (hK.trans ⟨hb1, hk1⟩); clear hI1 hb1 hk1 hI hK)
   go_roundw
   case rel => exact ⟨3, by omega, by go_num, ⟨Bf.step (k := 2) HI1.out (by omega) (by first | rfl | (show _ = x / 256 % 256; rw [IntKind.wrap_u64]; omega) | (show _ = x / 256 % 256; omega))⟩, HK1⟩
   case measure => simp [intOf]
  ·have hI := HI.out
   have hK := HK.out
   clear HI HK
   go_wp2_with (go_at_call 90; refine (Tryd.Buffer_WriteByte_kept B b _ _ wr hI (Nat.le_trans hB hK.size) (cells_one _) (kL l x 4 3 hl (by omega))).mono ?_; rintro e w1 ⟨rfl, hI1, hb1, hk1⟩; have HI1 := iC.mk hI1; have HK1 := iC.mk (hK.trans ⟨hb1, hk1⟩); clear hI1 hb1 hk1 hI hK)
   go_roundw
   case rel => exact ⟨4, by omega, by go_num, ⟨Bf.step (k := 3) HI1.out (by omega) (by first | rfl | (show _ = x / 1 % 256; rw [IntKind.wrap_u64]; omega) | (show _ = x / 1 % 256; omega))⟩, HK1⟩
   case measure => simp [intOf]
  ·go_wp2
   go_end0
   refine ⟨rfl, ?_, HK.out⟩
   have := HI.out
   rwa [List.take_of_length_le (by rw [iT]; exact Nat.le_refl _)] at this
set_option maxHeartbeats 4000000 in
theorem ja0 (B b : Nat) (l : List UInt8) (x : Int) (w : World) (h : Bf B b l w) (hB : B ≤ w.heap.size) (hl : l.length + 8 ≤ 140737488355328) :
  Calls Tryd.prog 91 #[.pointer (some ⟨b, 0, none⟩), .int .i64 x, .int .i64 8] w fun e w' => e = .returned (.tuple #[]) ∧ Bf B b (l ++ layB x 8) w' ∧ Kp B b w w' := by
 have H0 := iC.mk h
 clear h
 go_enter Tryd.func91, Tryd.ntmps91
 go_wp2
 go_loopw [8] (fun i wr => ∃ k : Nat, k ≤ 8 ∧ i = .int .i64 k ∧ iC (Bf B b (l ++ (layB x 8).take k) wr) ∧ iC (Kp B b w wr)) (fun i _ => 8 - (intOf i).toNat)
 case atStart => exact ⟨0, Nat.zero_le _, rfl, ⟨by rw [List.take_zero, List.append_nil]; exact H0.out⟩, ⟨Kp.refl _ _ _⟩⟩
 case round =>
  obtain ⟨k, hk, rfl, HI, HK⟩ := hrel
  have h' : k = 0 ∨ k = 1 ∨ k = 2 ∨ k = 3 ∨ k = 4 ∨ k = 5 ∨ k = 6 ∨ k = 7 ∨ k = 8 := by omega
  rcases h' with rfl | rfl | rfl | rfl | rfl | rfl | rfl | rfl | rfl
  ·have hI := HI.out
   have hK := HK.out
   clear HI HK
   go_wp2_with (go_at_call 90; refine (Tryd.Buffer_WriteByte_kept B b _ _ wr hI (Nat.le_trans hB hK.size) (cells_one _) (kL l x 8 0 hl (by omega))).mono ?_; rintro e w1 ⟨rfl, hI1, hb1, hk1⟩; have HI1 := iC.mk hI1; have HK1 := iC.mk (hK.trans ⟨hb1, hk1⟩); clear hI1 hb1 hk1 hI hK)
   go_roundw
   case rel => exact ⟨1, by omega, by go_num, ⟨Bf.step (k := 0) HI1.out (by omega) (by first | rfl | (show _ = x / 72057594037927936 % 256; rw [IntKind.wrap_u64]; omega) | (show _ = x / 72057594037927936 % 256; omega))⟩, HK1⟩
   case measure => simp [intOf]
  ·have hI := HI.out
   have hK := HK.out
   clear HI HK
   go_wp2_with (go_at_call 90; refine (Tryd.Buffer_WriteByte_kept B b _ _ wr hI (Nat.le_trans hB hK.size) (cells_one _) (kL l x 8 1 hl (by omega))).mono ?_; rintro e w1 ⟨rfl, hI1, hb1, hk1⟩; have HI1 := iC.mk hI1; have HK1 := iC.mk (hK.trans ⟨hb1, hk1⟩); clear hI1 hb1 hk1 hI hK)
   go_roundw
   case rel => exact ⟨2, by omega, by go_num, ⟨Bf.step (k := 1) HI1.out (by omega) (by first | rfl | (show _ = x / 281474976710656 % 256; rw [IntKind.wrap_u64]; omega) | (show _ = x / 281474976710656 % 256; omega))⟩, HK1⟩
   case measure => simp [intOf]
  ·have hI := HI.out
   have hK := HK.out
   clear HI HK
   go_wp2_with (go_at_call 90; refine (Tryd.Buffer_WriteByte_kept B b _ _ wr hI (Nat.le_trans hB hK.size) (cells_one _) (kL l x 8 2 hl (by omega))).mono ?_; rintro e w1 ⟨rfl, hI1, hb1, hk1⟩; have HI1 := iC.mk hI1; have HK1 := iC.mk (hK.trans ⟨hb1, hk1⟩); clear hI1 hb1 hk1 hI hK)
   go_roundw
   case rel => exact ⟨3, by omega, by go_num, ⟨Bf.step (k := 2) HI1.out (by omega) (by first | rfl | (show _ = x / 1099511627776 % 256; rw [IntKind.wrap_u64]; omega) | (show _ = x / 1099511627776 % 256; omega))⟩, HK1⟩
   case measure => simp [intOf]
  ·have hI := HI.out
   have hK := HK.out
   clear HI HK
   go_wp2_with (go_at_call 90; refine (Tryd.Buffer_WriteByte_kept B b _ _ wr hI (Nat.le_trans hB hK.size) (cells_one _) (kL l x 8 3 hl (by omega))).mono ?_; rintro e w1 ⟨rfl, hI1, hb1, hk1⟩; have HI1 := iC.mk hI1; have HK1 := iC.mk (hK.trans ⟨hb1, hk1⟩); clear hI1 hb1 hk1 hI hK)
   go_roundw
   case rel => exact ⟨4, by omega, by go_num, ⟨Bf.step (k := 3) HI1.out (by omega) (by first | rfl | (show _ = x / 4294967296 % 256; rw [IntKind.wrap_u64]; omega) | (show _ = x / 4294967296 % 256; omega))⟩, HK1⟩
   case measure => simp [intOf]
  ·have hI := HI.out
   have hK := HK.out
   clear HI HK
   go_wp2_with (go_at_call 90; refine (Tryd.Buffer_WriteByte_kept B b _ _ wr hI (Nat.le_trans hB hK.size) (cells_one _) (kL l x 8 4 hl (by omega))).mono ?_; rintro e w1 ⟨rfl, hI1, hb1, hk1⟩; have HI1 := iC.mk hI1; have HK1 := iC.mk (hK.trans ⟨hb1, hk1⟩); clear hI1 hb1 hk1 hI hK)
   go_roundw
   case rel => exact ⟨5, by omega, by go_num, ⟨Bf.step (k := 4) HI1.out (by omega) (by first | rfl | (show _ = x / 16777216 % 256; rw [IntKind.wrap_u64]; omega) | (show _ = x / 16777216 % 256; omega))⟩, HK1⟩
   case measure => simp [intOf]
  ·have hI := HI.out
   have hK := HK.out
   clear HI HK
   go_wp2_with (go_at_call 90; refine (Tryd.Buffer_WriteByte_kept B b _ _ wr hI (Nat.le_trans hB hK.size) (cells_one _) (kL l x 8 5 hl (by omega))).mono ?_; rintro e w1 ⟨rfl, hI1, hb1, hk1⟩; have HI1 := iC.mk hI1; have HK1 := iC.mk (hK.trans ⟨hb1, hk1⟩); clear hI1 hb1 hk1 hI hK)
   go_roundw
   case rel => exact ⟨6, by omega, by go_num, ⟨Bf.step (k := 5) HI1.out (by omega) (by first | rfl | (show _ = x / 65536 % 256; rw [IntKind.wrap_u64]; omega) | (show _ = x / 65536 % 256; omega))⟩, HK1⟩
   case measure => simp [intOf]
  ·have hI := HI.out
   have hK := HK.out
   clear HI HK
   go_wp2_with (go_at_call 90; refine (Tryd.Buffer_WriteByte_kept B b _ _ wr hI (Nat.le_trans hB hK.size) (cells_one _) (kL l x 8 6 hl (by omega))).mono ?_; rintro e w1 ⟨rfl, hI1, hb1, hk1⟩; have HI1 := iC.mk hI1; have HK1 := iC.mk (hK.trans ⟨hb1, hk1⟩); clear hI1 hb1 hk1 hI hK)
   go_roundw
   case rel => exact ⟨7, by omega, by go_num, ⟨Bf.step (k := 6) HI1.out (by omega) (by first | rfl | (show _ = x / 256 % 256; rw [IntKind.wrap_u64]; omega) | (show _ = x / 256 % 256; omega))⟩, HK1⟩
   case measure => simp [intOf]
  ·have hI := HI.out
   have hK := HK.out
   clear HI HK
   go_wp2_with (go_at_call 90; refine (Tryd.Buffer_WriteByte_kept B b _ _ wr hI (Nat.le_trans hB hK.size) (cells_one _) (kL l x 8 7 hl (by omega))).mono ?_; rintro e w1 ⟨rfl, hI1, hb1, hk1⟩; have HI1 := iC.mk hI1; have HK1 := iC.mk (hK.trans ⟨hb1, hk1⟩); clear hI1 hb1 hk1 hI hK)
   go_roundw
   case rel => exact ⟨8, by omega, by go_num, ⟨Bf.step (k := 7) HI1.out (by omega) (by first | rfl | (show _ = x / 1 % 256; rw [IntKind.wrap_u64]; omega) | (show _ = x / 1 % 256; omega))⟩, HK1⟩
   case measure => simp [intOf]
  ·go_wp2
   go_end0
   refine ⟨rfl, ?_, HK.out⟩
   have := HI.out
   rwa [List.take_of_length_le (by rw [iT]; exact Nat.le_refl _)] at this
end Go.Proofs.YtgfkgppomaapiaaDoor.K
end

section
namespace Go.Proofs.YtgfkgppomaapiaaDoor.K
open RowKit YtgfkgppomaapiaaDoorW.PrintWords YtgfkgppomaapiaaDoorW.PrintLast YtgfkgppomaapiaaDoorW.PrintMore My
theorem kW {α : Type} (e : α → List UInt8) (z : α) (l : List α) (k : Nat) (h : k < l.length) : (l.take (k + 1)).flatMap e = (l.take k).flatMap e ++ e (l.getD k z) := by
 rw [lH z l k h, List.flatMap_append]
 simp
theorem qO {α : Type} (e : α → List UInt8) (l : List α) (k : Nat) : ((l.take k).flatMap e).length ≤ (l.flatMap e).length := by
 conv => rhs; rw [← List.take_append_drop k l, List.flatMap_append, List.length_append]
 omega
theorem J9 (n : Nat) (l : List Int) : (l.flatMap (layB · n)).length = n * l.length := by
 induction l with
 | nil => rfl
 | cons x l ih => rw [List.flatMap_cons, List.length_append, ih, iT, List.length_cons, Nat.mul_add]; omega
theorem YU (l : List Int) (k : Nat) : rd l (k : Int) = l.getD k 0 := by unfold rd; rw [Int.toNat_natCast]
set_option maxHeartbeats 2000000 in
theorem vG (b : Nat) (l : List UInt8) (A : Option Addr) (c : Nat) (ns : List Int) (w0 w : World) (h : Bf w0.heap.size b l w) (hb : Below w0.heap.size w0 w) (hr : Kd.C (Kd.int .i64) w0 A ns.length ns) (hl : l.length + 1 + ns.length ≤ 140737488355328) :
  Calls Tryd.prog 51 #[.pointer (some ⟨b, 0, none⟩), .slice A ns.length c] w fun e w' => e = .returned (.tuple #[]) ∧ Bf w0.heap.size b (l ++ rY ns) w' ∧ Kp w0.heap.size b w w' := by
 have HR := iC.mk hr
 have H0 := iC.mk h
 have HB0 := iC.mk hb
 have hm := lC hr
 clear hr h hb
 go_enter Tryd.func51, Tryd.ntmps51
 go_wp2_with (go_at_call 53; refine (qB _ _ l _ _ H0.out HB0.out.size (by omega)).mono ?_; rintro e w1 ⟨rfl, hI, hK⟩; have HI1 := iC.mk hI; have HK1 := iC.mk hK; clear hI hK)
 go_loopw [12] (fun i wr => ∃ k : Nat, k ≤ ns.length ∧ i = .int .i64 k ∧ iC (Bf w0.heap.size b (l ++ layB ns.length 1 ++ (ns.take k).flatMap (layB · 1)) wr) ∧ iC (Kp w0.heap.size b w wr)) (fun i _ => ns.length - (intOf i).toNat)
 case atStart => exact ⟨0, Nat.zero_le _, rfl, ⟨by rw [List.take_zero, List.flatMap_nil, List.append_nil]; exact HI1.out⟩, HK1⟩
 case round =>
  obtain ⟨k, hk, rfl, HI, HK⟩ := hrel
  clear HI1 HK1
  by_cases hlt : k < ns.length
  ·obtain ⟨ad, rfl, hx⟩ := Kd.at_int (Kd.C_below HR.out (HB0.out.trans HK.out.1)) (k : Int) (by omega) (by omega)
   rw [YU, Int.toNat_natCast] at hx
   have hts := iC.mk (kW (layB · 1) 0 ns k hlt)
   have hlen : (l ++ layB ns.length 1 ++ (ns.take k).flatMap (layB · 1)).length + 1 ≤ 140737488355328 := by
    rw [List.length_append, List.length_append, iT, J9, List.length_take]
    omega
   have HL := iC.mk hlen
   clear hlen
   generalize ns.getD k 0 = v at hx hts
   go_wp2_with (go_at_call 53; refine (qB _ _ _ _ _ HI.out (HB0.out.trans HK.out.1).size HL.out).mono ?_; rintro e w1 ⟨rfl, hI, hK⟩; have HI1 := iC.mk hI; have HK1 := iC.mk (HK.out.trans hK); clear hI hK)
   go_roundw
   case rel => exact ⟨k + 1, by omega, by go_num, ⟨by rw [hts.out, ← List.append_assoc]; exact HI1.out⟩, HK1⟩
   case measure => simp [intOf]; omega
  ·obtain rfl : k = ns.length := by omega
   go_wp2
   go_end0
   refine ⟨rfl, ?_, HK.out⟩
   have := HI.out
   rw [List.take_length] at this
   rw [rY, ← List.append_assoc]
   exact this
def IX : jP := z139
theorem VN (l : List jP) (k : Nat) : iZ l (k : Int) = l.getD k IX := by unfold iZ IX; rw [Int.toNat_natCast]
theorem VU (f : jP) : (nG f).length = 9 + 4 * f.f0.length := vH f
set_option maxHeartbeats 4000000 in
theorem yG (b : Nat) (l : List UInt8) (A : Option Addr) (c : Nat) (fs : List jP) (w0 w : World) (h : Bf w0.heap.size b l w) (hb : Below w0.heap.size w0 w) (hr : Kd.C k139 w0 A fs.length fs) (hl : l.length + (kK fs).length ≤ 140737488355328) :
  Calls Tryd.prog 52 #[.pointer (some ⟨b, 0, none⟩), .slice A fs.length c] w fun e w' => e = .returned (.tuple #[]) ∧ Bf w0.heap.size b (l ++ kK fs) w' ∧ Kp w0.heap.size b w w' := by
 have HR := iC.mk hr
 have H0 := iC.mk h
 have HB0 := iC.mk hb
 have hm := lC hr
 have hl' : l.length + 4 + (fs.flatMap nG).length ≤ 140737488355328 := by
  unfold kK at hl
  rw [List.length_append, iT] at hl
  omega
 clear hr h hb hl
 go_enter Tryd.func52, Tryd.ntmps52
 go_wp2_with (go_at_call 53; refine (nZ _ _ l _ _ H0.out HB0.out.size (by omega)).mono ?_; rintro e w1 ⟨rfl, hI, hK⟩; have HI1 := iC.mk hI; have HK1 := iC.mk hK; clear hI hK)
 go_loopw [14] (fun i wr => ∃ k : Nat, k ≤ fs.length ∧ i = .int .i64 k ∧ iC (Bf w0.heap.size b (l ++ layB fs.length 4 ++ (fs.take k).flatMap nG) wr) ∧ iC (Kp w0.heap.size b w wr)) (fun i _ => fs.length - (intOf i).toNat)
 case atStart => exact ⟨0, Nat.zero_le _, rfl, ⟨by rw [List.take_zero, List.flatMap_nil, List.append_nil]; exact HI1.out⟩, HK1⟩
 case round =>
  obtain ⟨k, hk, rfl, HI, HK⟩ := hrel
  clear HI1 HK1
  by_cases hlt : k < fs.length
  ·obtain ⟨ad, A1, c1, rfl, hx0, hx1, hl1, hC1⟩ := mQ (Kd.C_below HR.out (HB0.out.trans HK.out.1)) (k : Int) (by omega) (by omega)
   have hC0 : Kd.C (Kd.int .i64) w0 A1 (fs.getD k IX).f0.length (fs.getD k IX).f0 := by
    obtain ⟨ad2, A2, c2, e2, hy0, hy1, hl2, hC2⟩ := mQ HR.out (k : Int) (by omega) (by omega)
    have hz := lD (HB0.out.trans HK.out.1) hy0
    injection e2 with e2
    subst e2
    rw [hx0] at hz
    injection hz with hz
    injection hz with hz1 hz2 hz3
    subst hz1
    rw [VN] at hC2
    exact hC2
   rw [VN] at hx0 hx1 hl1
   rw [Int.toNat_natCast] at hx0 hx1
   clear hC1
   have hts := iC.mk (kW nG IX fs k hlt)
   have hle := qO nG fs (k + 1)
   rw [hts.out, List.length_append, VU] at hle
   obtain ⟨f, hf⟩ : ∃ f, f = fs.getD k IX := ⟨_, rfl⟩
   rw [← hf] at hx0 hx1 hl1 hC0 hts hle
   clear hf
   have HC0 := iC.mk hC0
   have hkm := lC hC0
   obtain ⟨pre, hpre⟩ : ∃ p, p = l ++ layB fs.length 4 ++ (fs.take k).flatMap nG := ⟨_, rfl⟩
   have hpl : pre.length + 9 + 4 * f.f0.length ≤ 140737488355328 := by
    rw [hpre, List.length_append, List.length_append, iT]
    omega
   have hrest : l ++ layB fs.length 4 ++ (fs.take (k + 1)).flatMap nG = pre ++ nG f := by
    rw [hts.out, ← List.append_assoc, hpre]
   rw [← hpre] at HI
   have HREST := iC.mk hrest
   clear hts hpre hrest hle hC0 hl'
   obtain ⟨wo, rfl⟩ : ∃ wo : World, wo = wr := ⟨_, rfl⟩
   have HBX := iC.mk (Bf.alloc HI.out (.cells #[.slice A1 f.f0.length c1, .int .i64 f.f1] 139))
   have HKX := iC.mk (HK.out.alloc (HB0.out.trans HK.out.1).size (.cells #[.slice A1 f.f0.length c1, .int .i64 f.f1] 139))
   have hbne : w.heap.size ≤ w.heap.size := Nat.le_refl _
   have HNE := iC.mk (show wo.heap.size ≠ b from by have := HI.out.lt; omega)
   clear hbne
   go_wp2_with (go_at_call 53; refine (qB _ _ pre _ _ HBX.out (HB0.out.trans HKX.out.1).size (by omega)).mono ?_; rintro e w1 ⟨rfl, hI, hK⟩; have HI1 := iC.mk hI; have HK1 := iC.mk (HKX.out.trans hK); have hblk := hK.block (jB rfl) HNE.out (by decide); have HBL := iC.mk hblk; clear hI hK; have hz0 := (iE hblk 0); have hz1 := (iE hblk 1); have hz0 : w1.cell? ⟨wo.heap.size, 0, none⟩ = some (.slice A1 f.f0.length c1) := hz0.trans rfl; have hz1 : w1.cell? ⟨wo.heap.size, 1, none⟩ = some (.int .i64 f.f1) := hz1.trans rfl; clear hblk)
   clear hz0 hz1
   go_loopw [26] (fun i wi => ∃ m : Nat, m ≤ f.f0.length ∧ i = .int .i64 m ∧ iC (Bf w0.heap.size b (pre ++ layB f.f0.length 1 ++ (f.f0.take m).flatMap (layB · 4)) wi) ∧ iC (Kp w0.heap.size b w wi) ∧ iC (wi.heap[wo.heap.size]? = some (.cells #[.slice A1 f.f0.length c1, .int .i64 f.f1] 139 (0, 0)))) (fun i _ => f.f0.length - (intOf i).toNat)
   case atStart => exact ⟨0, Nat.zero_le _, rfl, ⟨by rw [List.take_zero, List.flatMap_nil, List.append_nil]; exact HI1.out⟩, HK1, HBL⟩
   case round =>
    obtain ⟨m, hmx, rfl, HIm, HKm, HBm⟩ := hrel
    clear HI1 HK1 HBL
    have hcap : (pre ++ layB f.f0.length 1 ++ (f.f0.take m).flatMap (layB · 4)).length + 8 ≤ 140737488355328 := by
     rw [List.length_append, List.length_append, iT, J9, List.length_take]
     omega
    by_cases hml : m < f.f0.length
    ·have HL := iC.mk (show (pre ++ layB f.f0.length 1 ++ (f.f0.take m).flatMap (layB · 4)).length + 4 ≤ 140737488355328 from by omega)
     obtain ⟨ad2, rfl, hx⟩ := Kd.at_int (Kd.C_below HC0.out (HB0.out.trans HKm.out.1)) (m : Int) (by omega) (by omega)
     rw [YU, Int.toNat_natCast] at hx
     have hts := iC.mk (kW (layB · 4) 0 f.f0 m hml)
     generalize f.f0.getD m 0 = v at hx hts
     clear hcap
     go_wp2_with (go_at_call 53; refine (nZ _ _ _ _ _ HIm.out (HB0.out.trans HKm.out.1).size HL.out).mono ?_; rintro e w1 ⟨rfl, hI, hK⟩; have HI1 := iC.mk hI; have HK1 := iC.mk (HKm.out.trans hK); have HB1 := iC.mk (hK.block HBm.out HNE.out (by decide)); clear hI hK)
     go_roundw
     case rel => exact ⟨m + 1, by omega, by go_num, ⟨by rw [hts.out, ← List.append_assoc]; exact HI1.out⟩, HK1, HB1⟩
     case measure => simp [intOf]; omega
    ·obtain rfl : m = f.f0.length := by omega
     have hI' := HIm.out
     rw [List.take_length] at hI' hcap
     have HI' := iC.mk hI'
     have HCAP := iC.mk hcap
     clear hI' hcap HIm
     have hz1 : wr.cell? ⟨wo.heap.size, 1, none⟩ = some (.int .i64 f.f1) := (iE HBm.out 1).trans rfl
     go_wp2_with (go_at_call 91; refine (ja0 _ _ _ _ _ HI'.out (HB0.out.trans HKm.out.1).size HCAP.out).mono ?_; rintro e w1 ⟨rfl, hI, hK⟩; have HI1 := iC.mk hI; have HK1 := iC.mk (HKm.out.trans hK); clear hI hK)
     go_roundw
     case rel => exact ⟨k + 1, by omega, by go_num, ⟨by rw [HREST.out, nG, ← List.append_assoc, ← List.append_assoc]; exact HI1.out⟩, HK1⟩
     case measure => simp [intOf]; omega
  ·obtain rfl : k = fs.length := by omega
   go_wp2
   go_end0
   refine ⟨rfl, ?_, HK.out⟩
   have := HI.out
   rw [List.take_length] at this
   rw [kK, ← List.append_assoc]
   exact this
def vY : jI := z86
theorem U4 (l : List jI) (k : Nat) : iU l (k : Int) = l.getD k vY := by unfold iU vY; rw [Int.toNat_natCast]
set_option maxHeartbeats 4000000 in
theorem yM (b : Nat) (l : List UInt8) (A : Option Addr) (c : Nat) (es : List jI) (w0 w : World) (h : Bf w0.heap.size b l w) (hb : Below w0.heap.size w0 w) (hr : Kd.C k86 w0 A es.length es) (hl : l.length + (jV es).length ≤ 140737488355328) :
  Calls Tryd.prog 54 #[.pointer (some ⟨b, 0, none⟩), .slice A es.length c] w fun e w' => e = .returned (.tuple #[]) ∧ Bf w0.heap.size b (l ++ jV es) w' ∧ Kp w0.heap.size b w w' := by
 have HR := iC.mk hr
 have H0 := iC.mk h
 have HB0 := iC.mk hb
 have hm := lC hr
 have hl' : l.length + 4 + (es.flatMap lJ).length ≤ 140737488355328 := by
  unfold jV at hl
  rw [List.length_append, iT] at hl
  omega
 clear hr h hb hl
 go_enter Tryd.func54, Tryd.ntmps54
 go_wp2_with (go_at_call 53; refine (nZ _ _ l _ _ H0.out HB0.out.size (by omega)).mono ?_; rintro e w1 ⟨rfl, hI, hK⟩; have HI1 := iC.mk hI; have HK1 := iC.mk hK; clear hI hK)
 go_loopw [12] (fun i wr => ∃ k : Nat, k ≤ es.length ∧ i = .int .i64 k ∧ iC (Bf w0.heap.size b (l ++ layB es.length 4 ++ (es.take k).flatMap lJ) wr) ∧ iC (Kp w0.heap.size b w wr)) (fun i _ => es.length - (intOf i).toNat)
 case atStart => exact ⟨0, Nat.zero_le _, rfl, ⟨by rw [List.take_zero, List.flatMap_nil, List.append_nil]; exact HI1.out⟩, HK1⟩
 case round =>
  obtain ⟨k, hk, rfl, HI, HK⟩ := hrel
  clear HI1 HK1
  by_cases hlt : k < es.length
  ·obtain ⟨ad, A1, c1, rfl, hx0, hx1, hl1, hC1⟩ := pJ (Kd.C_below HR.out (HB0.out.trans HK.out.1)) (k : Int) (by omega) (by omega)
   have hC0 : Kd.C k139 w0 A1 (es.getD k vY).f1.length (es.getD k vY).f1 := by
    obtain ⟨ad2, A2, c2, e2, hy0, hy1, hl2, hC2⟩ := pJ HR.out (k : Int) (by omega) (by omega)
    have hz := lD (HB0.out.trans HK.out.1) hy1
    injection e2 with e2
    subst e2
    rw [hx1] at hz
    injection hz with hz
    injection hz with hz1 hz2 hz3
    subst hz1
    rw [U4] at hC2
    exact hC2
   rw [U4] at hx0 hx1 hl1
   rw [Int.toNat_natCast] at hx0 hx1
   clear hC1
   have hts := iC.mk (kW lJ vY es k hlt)
   have hle := qO lJ es (k + 1)
   rw [hts.out, List.length_append] at hle
   obtain ⟨f, hf⟩ : ∃ f, f = es.getD k vY := ⟨_, rfl⟩
   rw [← hf] at hx0 hx1 hl1 hC0 hts hle
   clear hf
   have HC0 := iC.mk hC0
   have hkm := lC hC0
   obtain ⟨pre, hpre⟩ : ∃ p, p = l ++ layB es.length 4 ++ (es.take k).flatMap lJ := ⟨_, rfl⟩
   have hpl : pre.length + 4 + (kK f.f1).length ≤ 140737488355328 := by
    rw [lJ, List.length_append, iT] at hle
    rw [hpre, List.length_append, List.length_append, iT]
    omega
   have HPL := iC.mk (show (pre ++ layB f.f0 4).length + (kK f.f1).length ≤ 140737488355328 from by rw [List.length_append, iT]; exact hpl)
   have hpl4 : pre.length + 4 ≤ 140737488355328 := by omega
   have HPL4 := iC.mk hpl4
   have hrest : l ++ layB es.length 4 ++ (es.take (k + 1)).flatMap lJ = pre ++ lJ f := by
    rw [hts.out, ← List.append_assoc, hpre]
   rw [← hpre] at HI
   have HREST := iC.mk hrest
   clear hts hpre hrest hle hC0 hl' hpl hpl4
   obtain ⟨wo, rfl⟩ : ∃ wo : World, wo = wr := ⟨_, rfl⟩
   have HBX := iC.mk (Bf.alloc HI.out (.cells #[.int .u32 f.f0, .slice A1 f.f1.length c1] 86))
   have HKX := iC.mk (HK.out.alloc (HB0.out.trans HK.out.1).size (.cells #[.int .u32 f.f0, .slice A1 f.f1.length c1] 86))
   have HNE := iC.mk (show wo.heap.size ≠ b from by have := HI.out.lt; omega)
   go_wp2_with (first | (go_at_call 50; refine (lL _ _ pre _ _ HBX.out (HB0.out.trans HKX.out.1).size HPL4.out).mono ?_; rintro e w1 ⟨rfl, hI, hK⟩; have HI1 := iC.mk hI; have HK1 := iC.mk (HKX.out.trans hK); have hblk := hK.block (jB rfl) HNE.out (by decide); clear hI hK; have hz1 := (iE hblk 1); have hz1 : w1.cell? ⟨wo.heap.size, 1, none⟩ = some (.slice A1 f.f1.length c1) := hz1.trans rfl; clear hblk) | (go_at_call 52; refine (yG _ _ _ _ f.f1 w0 _ HI1.out (HB0.out.trans HK1.out.1) HC0.out HPL.out).mono ?_; rintro e w2 ⟨rfl, hI, hK⟩; have HI2 := iC.mk hI; have HK2 := iC.mk (HK1.out.trans hK); clear hI hK))
   go_roundw
   case rel => exact ⟨k + 1, by omega, by go_num, ⟨by rw [HREST.out, lJ, ← List.append_assoc]; exact HI2.out⟩, HK2⟩
   case measure => simp [intOf]; omega
  ·obtain rfl : k = es.length := by omega
   go_wp2
   go_end0
   refine ⟨rfl, ?_, HK.out⟩
   have := HI.out
   rw [List.take_length] at this
   rw [jV, ← List.append_assoc]
   exact this
theorem yU (l : List jP) (h : mV l = true) : (kK l).length ≤ 5004 := by
 unfold mV at h
 simp only [Bool.and_eq_true, decide_eq_true_eq, List.all_eq_true] at h
 obtain ⟨h1, h2⟩ := h
 have : ∀ l : List jP, (∀ f ∈ l, oV f = true) → (l.flatMap nG).length ≤ 25 * l.length := by
  intro l
  induction l with
  | nil => intro _; simp
  | cons f l ih =>
   intro hf
   have h3 := hf f List.mem_cons_self
   unfold oV at h3
   simp only [Bool.and_eq_true, decide_eq_true_eq] at h3
   have := ih (fun g hg => hf g (List.mem_cons_of_mem _ hg))
   rw [List.flatMap_cons, List.length_append, vH, List.length_cons]
   omega
 have := this l h2
 unfold kK
 rw [List.length_append, iT]
 omega
theorem yV (l : List jI) (h : nS l = true) (h5 : l.length ≤ 5000) : (jV l).length ≤ 25040004 := by
 have : ∀ l : List jI, (∀ e ∈ l, mV e.f1 = true) → (l.flatMap lJ).length ≤ 5008 * l.length := by
  intro l
  induction l with
  | nil => intro _; simp
  | cons e l ih =>
   intro hf
   have h3 := yU _ (hf e List.mem_cons_self)
   have := ih (fun g hg => hf g (List.mem_cons_of_mem _ hg))
   rw [List.flatMap_cons, List.length_append, List.length_cons, lJ, List.length_append, iT]
   omega
 have := this l (yR l h)
 unfold jV
 rw [List.length_append, iT]
 omega
theorem uV (l : List Int) (h : lT (-1) l = true) : l.length ≤ 6 := by
 have := (uH l (-1) h (by omega)).2
 omega
end Go.Proofs.YtgfkgppomaapiaaDoor.K
end

section
namespace Go.Proofs.YtgfkgppomaapiaaDoor.K
open RowKit YtgfkgppomaapiaaDoorW.PrintWords YtgfkgppomaapiaaDoorW.PrintLast YtgfkgppomaapiaaDoorW.PrintMore My
def nums (l : List UInt8) : List Int := l.map fun c => (c.toNat : Int)
theorem mJ (l : List UInt8) : (nums l).length = l.length := List.length_map ..
def encR (r : SRec) : List Int × Int := if kC r = true then (if 60000 < (recE r).length then ([], 3) else (nums (recE r), 0)) else ([], 1)
def code_Encode.f (a0_0 : Int) (a0_1 : Int) (a0_2 : Int) (l0_3 : List Int) (l0_4 : List jP) (a0_5 : Int) (l0_6 : List kG) (a0_7 : Int) (a0_8 : Int) (l0_9 : List jI) : Option (List Int × Int) :=
 some (encR ⟨a0_0, a0_1, a0_2, l0_3, l0_4, ⟨a0_5, l0_6⟩, a0_7, a0_8, l0_9⟩)
theorem pX {w : World} {B base : Nat} {v : Value} {l : List UInt8} (h : w.ownsRow B 5 1 v (Lib.byteCells l).length (Lib.byteCells l)) (hb : base ≤ B) : Kd.R (Kd.int .u8) 5 w base (fun _ => True) v (nums l) := by
 refine Kd.R_lower (Kd.R_of_own ?_ (fun _ _ => trivial)) hb
 have e : Lib.byteCells l = encs (Value.int .u8) (nums l) := by simp [Lib.byteCells, encs, nums]
 have e2 : (nums l).length = (Lib.byteCells l).length := by rw [mJ, Lib.byteCells_length]
 rw [e2, ← e]
 exact h
theorem jD (l : List Int) : (rY l).length = 1 + l.length := by unfold rY; rw [List.length_append, iT, J9]; omega
def pY (w : World) (r : List Int × Int) (e : Ending) (w' : World) : Prop := ∃ v0_ : Value, e = .returned (.tuple #[v0_, .int .u16 r.2]) ∧ Kd.R (Kd.int .u8) 5 w' w.heap.size (fun _ => True) v0_ r.1 ∧ Below w.heap.size w w'
theorem jb6 (a1 a2 : Int) (l3 : List Int) (l4 : List jP) (a5 : Int) (l6 : List kG) (a7 a8 : Int) (l9 : List jI) : recE ⟨1, a1, a2, l3, l4, ⟨a5, l6⟩, a7, a8, l9⟩ = [] ++ layB 1 1 ++ layB a1 4 ++ rY l3 ++ kK l4 := by
 simp [recE, JI]
theorem jc0 (a1 a2 : Int) (l3 : List Int) (l4 : List jP) (a5 : Int) (l6 : List kG) (a7 a8 : Int) (l9 : List jI) : recE ⟨2, a1, a2, l3, l4, ⟨a5, l6⟩, a7, a8, l9⟩ = [] ++ layB 2 1 ++ layB a1 4 ++ layB a2 4 ++ rY l3 := by
 simp [recE, JI]
theorem jb2 (a1 a2 : Int) (l3 : List Int) (l4 : List jP) (a5 : Int) (l6 : List kG) (a7 a8 : Int) (l9 : List jI) : recE ⟨3, a1, a2, l3, l4, ⟨a5, l6⟩, a7, a8, l9⟩ = [] ++ layB 3 1 ++ layB a1 4 := by
 simp [recE, JI]
theorem je4 (a1 a2 : Int) (l3 : List Int) (l4 : List jP) (a5 : Int) (l6 : List kG) (a7 a8 : Int) (l9 : List jI) : recE ⟨4, a1, a2, l3, l4, ⟨a5, l6⟩, a7, a8, l9⟩ = [] ++ layB 4 1 ++ layB a1 4 := by
 simp [recE, JI]
theorem jc6 (a1 a2 : Int) (l3 : List Int) (l4 : List jP) (a5 : Int) (l6 : List kG) (a7 a8 : Int) (l9 : List jI) : recE ⟨5, a1, a2, l3, l4, ⟨a5, l6⟩, a7, a8, l9⟩ = [] ++ layB 5 1 ++ layB a1 4 := by
 simp [recE, JI]
theorem jd5 (a1 a2 : Int) (l3 : List Int) (l4 : List jP) (a5 : Int) (l6 : List kG) (a7 a8 : Int) (l9 : List jI) : recE ⟨7, a1, a2, l3, l4, ⟨a5, l6⟩, a7, a8, l9⟩ = [] ++ layB 7 1 ++ layB a1 4 ++ layB a7 4 ++ layB a8 4 ++ jV l9 := by
 simp [recE, JI]
theorem je2 (a1 a2 : Int) (l3 : List Int) (l4 : List jP) (a5 : Int) (l6 : List kG) (a7 a8 : Int) (l9 : List jI) : recE ⟨6, a1, a2, l3, l4, ⟨a5, l6⟩, a7, a8, l9⟩ = [] ++ layB 6 1 ++ layB a1 4 ++ layB a5 4 ++ layB l6.length 1 ++ l6.flatMap oO := by
 simp [recE, JI, PO]
theorem IL (l : List kG) : (l.flatMap oO).length = 5 * l.length := by
 induction l with
 | nil => rfl
 | cons x l ih => rw [List.flatMap_cons, List.length_append, ih, oO, List.length_append, iT, iT, List.length_cons]; omega
theorem TW (l : List kG) (k : Nat) : kX l (k : Int) = l.getD k zI := by unfold kX zI; rw [Int.toNat_natCast]
section
variable (a0 a1 a2 : Int) (A3 : Option Addr) (c3 : Nat) (l3 : List Int) (A4 : Option Addr) (c4 : Nat) (l4 : List jP) (a5 : Int) (A6 : Option Addr) (c6 : Nat) (l6 : List kG) (a7 a8 : Int) (A9 : Option Addr) (c9 : Nat) (l9 : List jI) (w : World)
 (h3 : Kd.C (Kd.int .i64) w A3 l3.length l3) (d3 : l3.length ≤ c3) (h4 : Kd.C k139 w A4 l4.length l4) (d4 : l4.length ≤ c4) (h6 : Kd.C k98 w A6 l6.length l6) (d6 : l6.length ≤ c6) (h9 : Kd.C k86 w A9 l9.length l9) (d9 : l9.length ≤ c9)
include h3 d3 h4 d4 h6 d6 h9 d9
set_option maxHeartbeats 8000000 in
set_option maxRecDepth 20000 in
theorem YJ (hs : kC ⟨1, a1, a2, l3, l4, ⟨a5, l6⟩, a7, a8, l9⟩ = true) : Calls Tryd.prog 17 #[.agg #[.int .u8 1, .int .u32 a1, .int .u32 a2, .slice A3 l3.length c3, .slice A4 l4.length c4, .int .u32 a5, .slice A6 l6.length c6, .int .i64 a7, .int .i64 a8, .slice A9 l9.length c9]] w (pY w (encR ⟨1, a1, a2, l3, l4, ⟨a5, l6⟩, a7, a8, l9⟩)) := by
 have H3 := iC.mk h3; have H4 := iC.mk h4; have H6 := iC.mk h6; have H9 := iC.mk h9
 clear h3 h4 h6 h9
 have HS := iC.mk hs
 have hl3 : l3.length ≤ 6 ∧ (kK l4).length ≤ 5004 := by
  have h := HS.out
  rw [YM, Bool.and_eq_true, Bool.and_eq_true] at h
  exact ⟨uV _ h.1.1, yU _ h.1.2⟩
 obtain ⟨q3, q4⟩ := hl3
 unfold encR
 rw [if_pos HS.out]
 have hm3 := lC H3.out
 have hm6 := lC H6.out
 obtain ⟨X, hX⟩ : ∃ X : List UInt8, X = recE ⟨1, a1, a2, l3, l4, ⟨a5, l6⟩, a7, a8, l9⟩ := ⟨_, rfl⟩
 rw [← hX]
 have HX := iC.mk hX
 have HLEN := iC.mk (show X.length = _ from congrArg List.length (hX.trans (jb6 _ _ _ _ _ _ _ _ _)))
 clear hs hX
 by_cases hbig : 60000 < X.length
 ·rw [if_pos hbig]
  have hbigI : (60000 : Int) < (X.length : Int) := by omega
  clear hbig
  go_enter Tryd.func17, Tryd.ntmps17
  go_wp2_with (first | (go_at_call 19; refine (code_Sound.calls 1 a1 a2 A3 c3 l3 A4 c4 l4 a5 A6 c6 l6 a7 a8 A9 c9 l9 _ _ (Kd.C_below H3.out bel_) d3 (Kd.C_below H4.out bel_) d4 (Kd.C_below H6.out bel_) d6 (Kd.C_below H9.out bel_) d9 rfl).mono ?_; rintro e w1 ⟨rfl, hb1⟩; rw [HS.out]; have HBW := iC.mk (show Below w.heap.size w w1 from iK (iG (Below.refl _ _) _) hb1); have HBK := iC.mk (iO hb1 (jB rfl)); clear hb1; have HI0 := iC.mk (Bf.fresh w1); have HK0 := iC.mk ((Kp.refl w1.heap.size w1.heap.size w1).alloc (Nat.le_refl _) (.cells #[.slice none 0 0, .int .i64 0, .int .i8 0] 91)); obtain ⟨z0, z1, z2, z3, z4, z5, z6, z7, z8, z9, y0, y1, y2, y3, y4, y5, y6, y7, y8, y9⟩ := ten (jM (o := (.cells #[.slice none 0 0, .int .i64 0, .int .i8 0] 91)) HBK.out); clear y0 y1 y2 y3 y4 y5 y6 y7 y8 y9) | (go_at_call 49; refine (oP w1.heap.size w1.heap.size _ _ _ HI0.out HK0.out.1.size (by first | omega | (simp only [List.length_append, iT, List.length_nil, jD]; omega))).mono ?_; rintro e w2 ⟨rfl, hI, hK⟩; have HI1 := iC.mk hI; have HK1 := iC.mk (HK0.out.trans hK); clear hI hK z0 z1 z2 z3 z4 z5 z6 z7 z8 z9; obtain ⟨z0, z1, z2, z3, z4, z5, z6, z7, z8, z9, y0, y1, y2, y3, y4, y5, y6, y7, y8, y9⟩ := ten (iO HK1.out.1 HBK.out); clear y0 y1 y2 y3 y4 y5 y6 y7 y8 y9) | (go_at_call 50; refine (lL w1.heap.size w1.heap.size _ _ _ HI1.out HK1.out.1.size (by first | omega | (simp only [List.length_append, iT, List.length_nil, jD]; omega))).mono ?_; rintro e w3 ⟨rfl, hI, hK⟩; have HI2 := iC.mk hI; have HK2 := iC.mk (HK1.out.trans hK); clear hI hK z0 z1 z2 z3 z4 z5 z6 z7 z8 z9; obtain ⟨z0, z1, z2, z3, z4, z5, z6, z7, z8, z9, y0, y1, y2, y3, y4, y5, y6, y7, y8, y9⟩ := ten (iO HK2.out.1 HBK.out); clear y0 y1 y2 y3 y4 y5 y6 y7 y8 y9) | (go_at_call 51; refine (vG w1.heap.size _ _ _ l3 w1 _ HI2.out HK2.out.1 (Kd.C_below H3.out HBW.out) (by first | omega | (simp only [List.length_append, iT, List.length_nil, jD]; omega))).mono ?_; rintro e w4 ⟨rfl, hI, hK⟩; have HI3 := iC.mk hI; have HK3 := iC.mk (HK2.out.trans hK); clear hI hK z0 z1 z2 z3 z4 z5 z6 z7 z8 z9; obtain ⟨z0, z1, z2, z3, z4, z5, z6, z7, z8, z9, y0, y1, y2, y3, y4, y5, y6, y7, y8, y9⟩ := ten (iO HK3.out.1 HBK.out); clear y0 y1 y2 y3 y4 y5 y6 y7 y8 y9) | (go_at_call 52; refine (yG w1.heap.size _ _ _ l4 w1 _ HI3.out HK3.out.1 (Kd.C_below H4.out HBW.out) (by first | omega | (simp only [List.length_append, iT, List.length_nil, jD]; omega))).mono ?_; rintro e w5 ⟨rfl, hI, hK⟩; have HI4 := iC.mk hI; have HK4 := iC.mk (HK3.out.trans hK); clear hI hK z0 z1 z2 z3 z4 z5 z6 z7 z8 z9; obtain ⟨z0, z1, z2, z3, z4, z5, z6, z7, z8, z9, y0, y1, y2, y3, y4, y5, y6, y7, y8, y9⟩ := ten (iO HK4.out.1 HBK.out); clear y0 y1 y2 y3 y4 y5 y6 y7 y8 y9) | (go_at_call 55; refine (Tryd.Buffer_Len w1.heap.size w1.heap.size _ _ (HI4.out)).mono ?_; rintro e wl ⟨rfl, nl, rfl⟩; rw [Lib.byteCells_length, ← HLEN.out]))
  go_ret2
  exact ⟨_, rfl, Kd.R_nil _ _ _ _ _, by have hz := HBW.out; have hy := HK4.out.1; exact iF (iK hz hy) _⟩
 ·rw [if_neg hbig]
  have hbigI : ¬ (60000 : Int) < (X.length : Int) := by omega
  clear hbig
  go_enter Tryd.func17, Tryd.ntmps17
  go_wp2_with (first | (go_at_call 19; refine (code_Sound.calls 1 a1 a2 A3 c3 l3 A4 c4 l4 a5 A6 c6 l6 a7 a8 A9 c9 l9 _ _ (Kd.C_below H3.out bel_) d3 (Kd.C_below H4.out bel_) d4 (Kd.C_below H6.out bel_) d6 (Kd.C_below H9.out bel_) d9 rfl).mono ?_; rintro e w1 ⟨rfl, hb1⟩; rw [HS.out]; have HBW := iC.mk (show Below w.heap.size w w1 from iK (iG (Below.refl _ _) _) hb1); have HBK := iC.mk (iO hb1 (jB rfl)); clear hb1; have HI0 := iC.mk (Bf.fresh w1); have HK0 := iC.mk ((Kp.refl w1.heap.size w1.heap.size w1).alloc (Nat.le_refl _) (.cells #[.slice none 0 0, .int .i64 0, .int .i8 0] 91)); obtain ⟨z0, z1, z2, z3, z4, z5, z6, z7, z8, z9, y0, y1, y2, y3, y4, y5, y6, y7, y8, y9⟩ := ten (jM (o := (.cells #[.slice none 0 0, .int .i64 0, .int .i8 0] 91)) HBK.out); clear y0 y1 y2 y3 y4 y5 y6 y7 y8 y9) | (go_at_call 49; refine (oP w1.heap.size w1.heap.size _ _ _ HI0.out HK0.out.1.size (by first | omega | (simp only [List.length_append, iT, List.length_nil, jD]; omega))).mono ?_; rintro e w2 ⟨rfl, hI, hK⟩; have HI1 := iC.mk hI; have HK1 := iC.mk (HK0.out.trans hK); clear hI hK z0 z1 z2 z3 z4 z5 z6 z7 z8 z9; obtain ⟨z0, z1, z2, z3, z4, z5, z6, z7, z8, z9, y0, y1, y2, y3, y4, y5, y6, y7, y8, y9⟩ := ten (iO HK1.out.1 HBK.out); clear y0 y1 y2 y3 y4 y5 y6 y7 y8 y9) | (go_at_call 50; refine (lL w1.heap.size w1.heap.size _ _ _ HI1.out HK1.out.1.size (by first | omega | (simp only [List.length_append, iT, List.length_nil, jD]; omega))).mono ?_; rintro e w3 ⟨rfl, hI, hK⟩; have HI2 := iC.mk hI; have HK2 := iC.mk (HK1.out.trans hK); clear hI hK z0 z1 z2 z3 z4 z5 z6 z7 z8 z9; obtain ⟨z0, z1, z2, z3, z4, z5, z6, z7, z8, z9, y0, y1, y2, y3, y4, y5, y6, y7, y8, y9⟩ := ten (iO HK2.out.1 HBK.out); clear y0 y1 y2 y3 y4 y5 y6 y7 y8 y9) | (go_at_call 51; refine (vG w1.heap.size _ _ _ l3 w1 _ HI2.out HK2.out.1 (Kd.C_below H3.out HBW.out) (by first | omega | (simp only [List.length_append, iT, List.length_nil, jD]; omega))).mono ?_; rintro e w4 ⟨rfl, hI, hK⟩; have HI3 := iC.mk hI; have HK3 := iC.mk (HK2.out.trans hK); clear hI hK z0 z1 z2 z3 z4 z5 z6 z7 z8 z9; obtain ⟨z0, z1, z2, z3, z4, z5, z6, z7, z8, z9, y0, y1, y2, y3, y4, y5, y6, y7, y8, y9⟩ := ten (iO HK3.out.1 HBK.out); clear y0 y1 y2 y3 y4 y5 y6 y7 y8 y9) | (go_at_call 52; refine (yG w1.heap.size _ _ _ l4 w1 _ HI3.out HK3.out.1 (Kd.C_below H4.out HBW.out) (by first | omega | (simp only [List.length_append, iT, List.length_nil, jD]; omega))).mono ?_; rintro e w5 ⟨rfl, hI, hK⟩; have HI4 := iC.mk hI; have HK4 := iC.mk (HK3.out.trans hK); clear hI hK z0 z1 z2 z3 z4 z5 z6 z7 z8 z9; obtain ⟨z0, z1, z2, z3, z4, z5, z6, z7, z8, z9, y0, y1, y2, y3, y4, y5, y6, y7, y8, y9⟩ := ten (iO HK4.out.1 HBK.out); clear y0 y1 y2 y3 y4 y5 y6 y7 y8 y9) | (go_at_call 55; refine (Tryd.Buffer_Len w1.heap.size w1.heap.size _ _ (HI4.out)).mono ?_; rintro e wl ⟨rfl, nl, rfl⟩; rw [Lib.byteCells_length, ← HLEN.out]) | (go_at_call 56; refine (Tryd.Buffer_Bytes w1.heap.size w1.heap.size _ _ (HI4.out.drewN _)).mono ?_; rintro e wb ⟨v, rfl, hv, nb, rfl⟩; have HV := iC.mk hv; clear hv))
  go_ret2
  exact ⟨_, rfl, by rw [HX.out, jb6]; exact pX HV.out HBW.out.size, by have hz := HBW.out; have hy := HK4.out.1; exact iF (iK hz hy) _⟩
set_option maxHeartbeats 8000000 in
set_option maxRecDepth 20000 in
theorem Y4 (hs : kC ⟨2, a1, a2, l3, l4, ⟨a5, l6⟩, a7, a8, l9⟩ = true) : Calls Tryd.prog 17 #[.agg #[.int .u8 2, .int .u32 a1, .int .u32 a2, .slice A3 l3.length c3, .slice A4 l4.length c4, .int .u32 a5, .slice A6 l6.length c6, .int .i64 a7, .int .i64 a8, .slice A9 l9.length c9]] w (pY w (encR ⟨2, a1, a2, l3, l4, ⟨a5, l6⟩, a7, a8, l9⟩)) := by
 have H3 := iC.mk h3; have H4 := iC.mk h4; have H6 := iC.mk h6; have H9 := iC.mk h9
 clear h3 h4 h6 h9
 have HS := iC.mk hs
 have q3 : l3.length ≤ 6 := by
  have h := HS.out
  rw [YK, Bool.and_eq_true] at h
  exact uV _ h.1
 unfold encR
 rw [if_pos HS.out]
 have hm3 := lC H3.out
 have hm6 := lC H6.out
 obtain ⟨X, hX⟩ : ∃ X : List UInt8, X = recE ⟨2, a1, a2, l3, l4, ⟨a5, l6⟩, a7, a8, l9⟩ := ⟨_, rfl⟩
 rw [← hX]
 have HX := iC.mk hX
 have HLEN := iC.mk (show X.length = _ from congrArg List.length (hX.trans (jc0 _ _ _ _ _ _ _ _ _)))
 clear hs hX
 by_cases hbig : 60000 < X.length
 ·rw [if_pos hbig]
  have hbigI : (60000 : Int) < (X.length : Int) := by omega
  clear hbig
  go_enter Tryd.func17, Tryd.ntmps17
  go_wp2_with (first | (go_at_call 19; refine (code_Sound.calls 2 a1 a2 A3 c3 l3 A4 c4 l4 a5 A6 c6 l6 a7 a8 A9 c9 l9 _ _ (Kd.C_below H3.out bel_) d3 (Kd.C_below H4.out bel_) d4 (Kd.C_below H6.out bel_) d6 (Kd.C_below H9.out bel_) d9 rfl).mono ?_; rintro e w1 ⟨rfl, hb1⟩; rw [HS.out]; have HBW := iC.mk (show Below w.heap.size w w1 from iK (iG (Below.refl _ _) _) hb1); have HBK := iC.mk (iO hb1 (jB rfl)); clear hb1; have HI0 := iC.mk (Bf.fresh w1); have HK0 := iC.mk ((Kp.refl w1.heap.size w1.heap.size w1).alloc (Nat.le_refl _) (.cells #[.slice none 0 0, .int .i64 0, .int .i8 0] 91)); obtain ⟨z0, z1, z2, z3, z4, z5, z6, z7, z8, z9, y0, y1, y2, y3, y4, y5, y6, y7, y8, y9⟩ := ten (jM (o := (.cells #[.slice none 0 0, .int .i64 0, .int .i8 0] 91)) HBK.out); clear y0 y1 y2 y3 y4 y5 y6 y7 y8 y9) | (go_at_call 49; refine (oP w1.heap.size w1.heap.size _ _ _ HI0.out HK0.out.1.size (by first | omega | (simp only [List.length_append, iT, List.length_nil, jD]; omega))).mono ?_; rintro e w2 ⟨rfl, hI, hK⟩; have HI1 := iC.mk hI; have HK1 := iC.mk (HK0.out.trans hK); clear hI hK z0 z1 z2 z3 z4 z5 z6 z7 z8 z9; obtain ⟨z0, z1, z2, z3, z4, z5, z6, z7, z8, z9, y0, y1, y2, y3, y4, y5, y6, y7, y8, y9⟩ := ten (iO HK1.out.1 HBK.out); clear y0 y1 y2 y3 y4 y5 y6 y7 y8 y9) | (go_at_call 50; refine (lL w1.heap.size w1.heap.size _ _ _ HI1.out HK1.out.1.size (by first | omega | (simp only [List.length_append, iT, List.length_nil, jD]; omega))).mono ?_; rintro e w3 ⟨rfl, hI, hK⟩; have HI2 := iC.mk hI; have HK2 := iC.mk (HK1.out.trans hK); clear hI hK z0 z1 z2 z3 z4 z5 z6 z7 z8 z9; obtain ⟨z0, z1, z2, z3, z4, z5, z6, z7, z8, z9, y0, y1, y2, y3, y4, y5, y6, y7, y8, y9⟩ := ten (iO HK2.out.1 HBK.out); clear y0 y1 y2 y3 y4 y5 y6 y7 y8 y9) | (go_at_call 50; refine (lL w1.heap.size w1.heap.size _ _ _ HI2.out HK2.out.1.size (by first | omega | (simp only [List.length_append, iT, List.length_nil, jD]; omega))).mono ?_; rintro e w4 ⟨rfl, hI, hK⟩; have HI3 := iC.mk hI; have HK3 := iC.mk (HK2.out.trans hK); clear hI hK z0 z1 z2 z3 z4 z5 z6 z7 z8 z9; obtain ⟨z0, z1, z2, z3, z4, z5, z6, z7, z8, z9, y0, y1, y2, y3, y4, y5, y6, y7, y8, y9⟩ := ten (iO HK3.out.1 HBK.out); clear y0 y1 y2 y3 y4 y5 y6 y7 y8 y9) | (go_at_call 51; refine (vG w1.heap.size _ _ _ l3 w1 _ HI3.out HK3.out.1 (Kd.C_below H3.out HBW.out) (by first | omega | (simp only [List.length_append, iT, List.length_nil, jD]; omega))).mono ?_; rintro e w5 ⟨rfl, hI, hK⟩; have HI4 := iC.mk hI; have HK4 := iC.mk (HK3.out.trans hK); clear hI hK z0 z1 z2 z3 z4 z5 z6 z7 z8 z9; obtain ⟨z0, z1, z2, z3, z4, z5, z6, z7, z8, z9, y0, y1, y2, y3, y4, y5, y6, y7, y8, y9⟩ := ten (iO HK4.out.1 HBK.out); clear y0 y1 y2 y3 y4 y5 y6 y7 y8 y9) | (go_at_call 55; refine (Tryd.Buffer_Len w1.heap.size w1.heap.size _ _ (HI4.out)).mono ?_; rintro e wl ⟨rfl, nl, rfl⟩; rw [Lib.byteCells_length, ← HLEN.out]))
  go_ret2
  exact ⟨_, rfl, Kd.R_nil _ _ _ _ _, by have hz := HBW.out; have hy := HK4.out.1; exact iF (iK hz hy) _⟩
 ·rw [if_neg hbig]
  have hbigI : ¬ (60000 : Int) < (X.length : Int) := by omega
  clear hbig
  go_enter Tryd.func17, Tryd.ntmps17
  go_wp2_with (first | (go_at_call 19; refine (code_Sound.calls 2 a1 a2 A3 c3 l3 A4 c4 l4 a5 A6 c6 l6 a7 a8 A9 c9 l9 _ _ (Kd.C_below H3.out bel_) d3 (Kd.C_below H4.out bel_) d4 (Kd.C_below H6.out bel_) d6 (Kd.C_below H9.out bel_) d9 rfl).mono ?_; rintro e w1 ⟨rfl, hb1⟩; rw [HS.out]; have HBW := iC.mk (show Below w.heap.size w w1 from iK (iG (Below.refl _ _) _) hb1); have HBK := iC.mk (iO hb1 (jB rfl)); clear hb1; have HI0 := iC.mk (Bf.fresh w1); have HK0 := iC.mk ((Kp.refl w1.heap.size w1.heap.size w1).alloc (Nat.le_refl _) (.cells #[.slice none 0 0, .int .i64 0, .int .i8 0] 91)); obtain ⟨z0, z1, z2, z3, z4, z5, z6, z7, z8, z9, y0, y1, y2, y3, y4, y5, y6, y7, y8, y9⟩ := ten (jM (o := (.cells #[.slice none 0 0, .int .i64 0, .int .i8 0] 91)) HBK.out); clear y0 y1 y2 y3 y4 y5 y6 y7 y8 y9) | (go_at_call 49; refine (oP w1.heap.size w1.heap.size _ _ _ HI0.out HK0.out.1.size (by first | omega | (simp only [List.length_append, iT, List.length_nil, jD]; omega))).mono ?_; rintro e w2 ⟨rfl, hI, hK⟩; have HI1 := iC.mk hI; have HK1 := iC.mk (HK0.out.trans hK); clear hI hK z0 z1 z2 z3 z4 z5 z6 z7 z8 z9; obtain ⟨z0, z1, z2, z3, z4, z5, z6, z7, z8, z9, y0, y1, y2, y3, y4, y5, y6, y7, y8, y9⟩ := ten (iO HK1.out.1 HBK.out); clear y0 y1 y2 y3 y4 y5 y6 y7 y8 y9) | (go_at_call 50; refine (lL w1.heap.size w1.heap.size _ _ _ HI1.out HK1.out.1.size (by first | omega | (simp only [List.length_append, iT, List.length_nil, jD]; omega))).mono ?_; rintro e w3 ⟨rfl, hI, hK⟩; have HI2 := iC.mk hI; have HK2 := iC.mk (HK1.out.trans hK); clear hI hK z0 z1 z2 z3 z4 z5 z6 z7 z8 z9; obtain ⟨z0, z1, z2, z3, z4, z5, z6, z7, z8, z9, y0, y1, y2, y3, y4, y5, y6, y7, y8, y9⟩ := ten (iO HK2.out.1 HBK.out); clear y0 y1 y2 y3 y4 y5 y6 y7 y8 y9) | (go_at_call 50; refine (lL w1.heap.size w1.heap.size _ _ _ HI2.out HK2.out.1.size (by first | omega | (simp only [List.length_append, iT, List.length_nil, jD]; omega))).mono ?_; rintro e w4 ⟨rfl, hI, hK⟩; have HI3 := iC.mk hI; have HK3 := iC.mk (HK2.out.trans hK); clear hI hK z0 z1 z2 z3 z4 z5 z6 z7 z8 z9; obtain ⟨z0, z1, z2, z3, z4, z5, z6, z7, z8, z9, y0, y1, y2, y3, y4, y5, y6, y7, y8, y9⟩ := ten (iO HK3.out.1 HBK.out); clear y0 y1 y2 y3 y4 y5 y6 y7 y8 y9) | (go_at_call 51; refine (vG w1.heap.size _ _ _ l3 w1 _ HI3.out HK3.out.1 (Kd.C_below H3.out HBW.out) (by first | omega | (simp only [List.length_append, iT, List.length_nil, jD]; omega))).mono ?_; rintro e w5 ⟨rfl, hI, hK⟩; have HI4 := iC.mk hI; have HK4 := iC.mk (HK3.out.trans hK); clear hI hK z0 z1 z2 z3 z4 z5 z6 z7 z8 z9; obtain ⟨z0, z1, z2, z3, z4, z5, z6, z7, z8, z9, y0, y1, y2, y3, y4, y5, y6, y7, y8, y9⟩ := ten (iO HK4.out.1 HBK.out); clear y0 y1 y2 y3 y4 y5 y6 y7 y8 y9) | (go_at_call 55; refine (Tryd.Buffer_Len w1.heap.size w1.heap.size _ _ (HI4.out)).mono ?_; rintro e wl ⟨rfl, nl, rfl⟩; rw [Lib.byteCells_length, ← HLEN.out]) | (go_at_call 56; refine (Tryd.Buffer_Bytes w1.heap.size w1.heap.size _ _ (HI4.out.drewN _)).mono ?_; rintro e wb ⟨v, rfl, hv, nb, rfl⟩; have HV := iC.mk hv; clear hv))
  go_ret2
  exact ⟨_, rfl, by rw [HX.out, jc0]; exact pX HV.out HBW.out.size, by have hz := HBW.out; have hy := HK4.out.1; exact iF (iK hz hy) _⟩
set_option maxHeartbeats 8000000 in
set_option maxRecDepth 20000 in
theorem Y0 (hs : kC ⟨3, a1, a2, l3, l4, ⟨a5, l6⟩, a7, a8, l9⟩ = true) : Calls Tryd.prog 17 #[.agg #[.int .u8 3, .int .u32 a1, .int .u32 a2, .slice A3 l3.length c3, .slice A4 l4.length c4, .int .u32 a5, .slice A6 l6.length c6, .int .i64 a7, .int .i64 a8, .slice A9 l9.length c9]] w (pY w (encR ⟨3, a1, a2, l3, l4, ⟨a5, l6⟩, a7, a8, l9⟩)) := by
 have H3 := iC.mk h3; have H4 := iC.mk h4; have H6 := iC.mk h6; have H9 := iC.mk h9
 clear h3 h4 h6 h9
 have HS := iC.mk hs
 unfold encR
 rw [if_pos HS.out]
 have hm3 := lC H3.out
 have hm6 := lC H6.out
 obtain ⟨X, hX⟩ : ∃ X : List UInt8, X = recE ⟨3, a1, a2, l3, l4, ⟨a5, l6⟩, a7, a8, l9⟩ := ⟨_, rfl⟩
 rw [← hX]
 have HX := iC.mk hX
 have HLEN := iC.mk (show X.length = _ from congrArg List.length (hX.trans (jb2 _ _ _ _ _ _ _ _ _)))
 clear hs hX
 by_cases hbig : 60000 < X.length
 ·rw [if_pos hbig]
  have hbigI : (60000 : Int) < (X.length : Int) := by omega
  clear hbig
  go_enter Tryd.func17, Tryd.ntmps17
  go_wp2_with (first | (go_at_call 19; refine (code_Sound.calls 3 a1 a2 A3 c3 l3 A4 c4 l4 a5 A6 c6 l6 a7 a8 A9 c9 l9 _ _ (Kd.C_below H3.out bel_) d3 (Kd.C_below H4.out bel_) d4 (Kd.C_below H6.out bel_) d6 (Kd.C_below H9.out bel_) d9 rfl).mono ?_; rintro e w1 ⟨rfl, hb1⟩; rw [HS.out]; have HBW := iC.mk (show Below w.heap.size w w1 from iK (iG (Below.refl _ _) _) hb1); have HBK := iC.mk (iO hb1 (jB rfl)); clear hb1; have HI0 := iC.mk (Bf.fresh w1); have HK0 := iC.mk ((Kp.refl w1.heap.size w1.heap.size w1).alloc (Nat.le_refl _) (.cells #[.slice none 0 0, .int .i64 0, .int .i8 0] 91)); obtain ⟨z0, z1, z2, z3, z4, z5, z6, z7, z8, z9, y0, y1, y2, y3, y4, y5, y6, y7, y8, y9⟩ := ten (jM (o := (.cells #[.slice none 0 0, .int .i64 0, .int .i8 0] 91)) HBK.out); clear y0 y1 y2 y3 y4 y5 y6 y7 y8 y9) | (go_at_call 49; refine (oP w1.heap.size w1.heap.size _ _ _ HI0.out HK0.out.1.size (by first | omega | (simp only [List.length_append, iT, List.length_nil, jD]; omega))).mono ?_; rintro e w2 ⟨rfl, hI, hK⟩; have HI1 := iC.mk hI; have HK1 := iC.mk (HK0.out.trans hK); clear hI hK z0 z1 z2 z3 z4 z5 z6 z7 z8 z9; obtain ⟨z0, z1, z2, z3, z4, z5, z6, z7, z8, z9, y0, y1, y2, y3, y4, y5, y6, y7, y8, y9⟩ := ten (iO HK1.out.1 HBK.out); clear y0 y1 y2 y3 y4 y5 y6 y7 y8 y9) | (go_at_call 50; refine (lL w1.heap.size w1.heap.size _ _ _ HI1.out HK1.out.1.size (by first | omega | (simp only [List.length_append, iT, List.length_nil, jD]; omega))).mono ?_; rintro e w3 ⟨rfl, hI, hK⟩; have HI2 := iC.mk hI; have HK2 := iC.mk (HK1.out.trans hK); clear hI hK z0 z1 z2 z3 z4 z5 z6 z7 z8 z9; obtain ⟨z0, z1, z2, z3, z4, z5, z6, z7, z8, z9, y0, y1, y2, y3, y4, y5, y6, y7, y8, y9⟩ := ten (iO HK2.out.1 HBK.out); clear y0 y1 y2 y3 y4 y5 y6 y7 y8 y9) | (go_at_call 55; refine (Tryd.Buffer_Len w1.heap.size w1.heap.size _ _ (HI2.out)).mono ?_; rintro e wl ⟨rfl, nl, rfl⟩; rw [Lib.byteCells_length, ← HLEN.out]))
  go_ret2
  exact ⟨_, rfl, Kd.R_nil _ _ _ _ _, by have hz := HBW.out; have hy := HK2.out.1; exact iF (iK hz hy) _⟩
 ·rw [if_neg hbig]
  have hbigI : ¬ (60000 : Int) < (X.length : Int) := by omega
  clear hbig
  go_enter Tryd.func17, Tryd.ntmps17
  go_wp2_with (first | (go_at_call 19; refine (code_Sound.calls 3 a1 a2 A3 c3 l3 A4 c4 l4 a5 A6 c6 l6 a7 a8 A9 c9 l9 _ _ (Kd.C_below H3.out bel_) d3 (Kd.C_below H4.out bel_) d4 (Kd.C_below H6.out bel_) d6 (Kd.C_below H9.out bel_) d9 rfl).mono ?_; rintro e w1 ⟨rfl, hb1⟩; rw [HS.out]; have HBW := iC.mk (show Below w.heap.size w w1 from iK (iG (Below.refl _ _) _) hb1); have HBK := iC.mk (iO hb1 (jB rfl)); clear hb1; have HI0 := iC.mk (Bf.fresh w1); have HK0 := iC.mk ((Kp.refl w1.heap.size w1.heap.size w1).alloc (Nat.le_refl _) (.cells #[.slice none 0 0, .int .i64 0, .int .i8 0] 91)); obtain ⟨z0, z1, z2, z3, z4, z5, z6, z7, z8, z9, y0, y1, y2, y3, y4, y5, y6, y7, y8, y9⟩ := ten (jM (o := (.cells #[.slice none 0 0, .int .i64 0, .int .i8 0] 91)) HBK.out); clear y0 y1 y2 y3 y4 y5 y6 y7 y8 y9) | (go_at_call 49; refine (oP w1.heap.size w1.heap.size _ _ _ HI0.out HK0.out.1.size (by first | omega | (simp only [List.length_append, iT, List.length_nil, jD]; omega))).mono ?_; rintro e w2 ⟨rfl, hI, hK⟩; have HI1 := iC.mk hI; have HK1 := iC.mk (HK0.out.trans hK); clear hI hK z0 z1 z2 z3 z4 z5 z6 z7 z8 z9; obtain ⟨z0, z1, z2, z3, z4, z5, z6, z7, z8, z9, y0, y1, y2, y3, y4, y5, y6, y7, y8, y9⟩ := ten (iO HK1.out.1 HBK.out); clear y0 y1 y2 y3 y4 y5 y6 y7 y8 y9) | (go_at_call 50; refine (lL w1.heap.size w1.heap.size _ _ _ HI1.out HK1.out.1.size (by first | omega | (simp only [List.length_append, iT, List.length_nil, jD]; omega))).mono ?_; rintro e w3 ⟨rfl, hI, hK⟩; have HI2 := iC.mk hI; have HK2 := iC.mk (HK1.out.trans hK); clear hI hK z0 z1 z2 z3 z4 z5 z6 z7 z8 z9; obtain ⟨z0, z1, z2, z3, z4, z5, z6, z7, z8, z9, y0, y1, y2, y3, y4, y5, y6, y7, y8, y9⟩ := ten (iO HK2.out.1 HBK.out); clear y0 y1 y2 y3 y4 y5 y6 y7 y8 y9) | (go_at_call 55; refine (Tryd.Buffer_Len w1.heap.size w1.heap.size _ _ (HI2.out)).mono ?_; rintro e wl ⟨rfl, nl, rfl⟩; rw [Lib.byteCells_length, ← HLEN.out]) | (go_at_call 56; refine (Tryd.Buffer_Bytes w1.heap.size w1.heap.size _ _ (HI2.out.drewN _)).mono ?_; rintro e wb ⟨v, rfl, hv, nb, rfl⟩; have HV := iC.mk hv; clear hv))
  go_ret2
  exact ⟨_, rfl, by rw [HX.out, jb2]; exact pX HV.out HBW.out.size, by have hz := HBW.out; have hy := HK2.out.1; exact iF (iK hz hy) _⟩
set_option maxHeartbeats 8000000 in
set_option maxRecDepth 20000 in
theorem XB (hs : kC ⟨4, a1, a2, l3, l4, ⟨a5, l6⟩, a7, a8, l9⟩ = true) : Calls Tryd.prog 17 #[.agg #[.int .u8 4, .int .u32 a1, .int .u32 a2, .slice A3 l3.length c3, .slice A4 l4.length c4, .int .u32 a5, .slice A6 l6.length c6, .int .i64 a7, .int .i64 a8, .slice A9 l9.length c9]] w (pY w (encR ⟨4, a1, a2, l3, l4, ⟨a5, l6⟩, a7, a8, l9⟩)) := by
 have H3 := iC.mk h3; have H4 := iC.mk h4; have H6 := iC.mk h6; have H9 := iC.mk h9
 clear h3 h4 h6 h9
 have HS := iC.mk hs
 unfold encR
 rw [if_pos HS.out]
 have hm3 := lC H3.out
 have hm6 := lC H6.out
 obtain ⟨X, hX⟩ : ∃ X : List UInt8, X = recE ⟨4, a1, a2, l3, l4, ⟨a5, l6⟩, a7, a8, l9⟩ := ⟨_, rfl⟩
 rw [← hX]
 have HX := iC.mk hX
 have HLEN := iC.mk (show X.length = _ from congrArg List.length (hX.trans (je4 _ _ _ _ _ _ _ _ _)))
 clear hs hX
 by_cases hbig : 60000 < X.length
 ·rw [if_pos hbig]
  have hbigI : (60000 : Int) < (X.length : Int) := by omega
  clear hbig
  go_enter Tryd.func17, Tryd.ntmps17
  go_wp2_with (first | (go_at_call 19; refine (code_Sound.calls 4 a1 a2 A3 c3 l3 A4 c4 l4 a5 A6 c6 l6 a7 a8 A9 c9 l9 _ _ (Kd.C_below H3.out bel_) d3 (Kd.C_below H4.out bel_) d4 (Kd.C_below H6.out bel_) d6 (Kd.C_below H9.out bel_) d9 rfl).mono ?_; rintro e w1 ⟨rfl, hb1⟩; rw [HS.out]; have HBW := iC.mk (show Below w.heap.size w w1 from iK (iG (Below.refl _ _) _) hb1); have HBK := iC.mk (iO hb1 (jB rfl)); clear hb1; have HI0 := iC.mk (Bf.fresh w1); have HK0 := iC.mk ((Kp.refl w1.heap.size w1.heap.size w1).alloc (Nat.le_refl _) (.cells #[.slice none 0 0, .int .i64 0, .int .i8 0] 91)); obtain ⟨z0, z1, z2, z3, z4, z5, z6, z7, z8, z9, y0, y1, y2, y3, y4, y5, y6, y7, y8, y9⟩ := ten (jM (o := (.cells #[.slice none 0 0, .int .i64 0, .int .i8 0] 91)) HBK.out); clear y0 y1 y2 y3 y4 y5 y6 y7 y8 y9) | (go_at_call 49; refine (oP w1.heap.size w1.heap.size _ _ _ HI0.out HK0.out.1.size (by first | omega | (simp only [List.length_append, iT, List.length_nil, jD]; omega))).mono ?_; rintro e w2 ⟨rfl, hI, hK⟩; have HI1 := iC.mk hI; have HK1 := iC.mk (HK0.out.trans hK); clear hI hK z0 z1 z2 z3 z4 z5 z6 z7 z8 z9; obtain ⟨z0, z1, z2, z3, z4, z5, z6, z7, z8, z9, y0, y1, y2, y3, y4, y5, y6, y7, y8, y9⟩ := ten (iO HK1.out.1 HBK.out); clear y0 y1 y2 y3 y4 y5 y6 y7 y8 y9) | (go_at_call 50; refine (lL w1.heap.size w1.heap.size _ _ _ HI1.out HK1.out.1.size (by first | omega | (simp only [List.length_append, iT, List.length_nil, jD]; omega))).mono ?_; rintro e w3 ⟨rfl, hI, hK⟩; have HI2 := iC.mk hI; have HK2 := iC.mk (HK1.out.trans hK); clear hI hK z0 z1 z2 z3 z4 z5 z6 z7 z8 z9; obtain ⟨z0, z1, z2, z3, z4, z5, z6, z7, z8, z9, y0, y1, y2, y3, y4, y5, y6, y7, y8, y9⟩ := ten (iO HK2.out.1 HBK.out); clear y0 y1 y2 y3 y4 y5 y6 y7 y8 y9) | (go_at_call 55; refine (Tryd.Buffer_Len w1.heap.size w1.heap.size _ _ (HI2.out)).mono ?_; rintro e wl ⟨rfl, nl, rfl⟩; rw [Lib.byteCells_length, ← HLEN.out]))
  go_ret2
  exact ⟨_, rfl, Kd.R_nil _ _ _ _ _, by have hz := HBW.out; have hy := HK2.out.1; exact iF (iK hz hy) _⟩
 ·rw [if_neg hbig]
  have hbigI : ¬ (60000 : Int) < (X.length : Int) := by omega
  clear hbig
  go_enter Tryd.func17, Tryd.ntmps17
  go_wp2_with (first | (go_at_call 19; refine (code_Sound.calls 4 a1 a2 A3 c3 l3 A4 c4 l4 a5 A6 c6 l6 a7 a8 A9 c9 l9 _ _ (Kd.C_below H3.out bel_) d3 (Kd.C_below H4.out bel_) d4 (Kd.C_below H6.out bel_) d6 (Kd.C_below H9.out bel_) d9 rfl).mono ?_; rintro e w1 ⟨rfl, hb1⟩; rw [HS.out]; have HBW := iC.mk (show Below w.heap.size w w1 from iK (iG (Below.refl _ _) _) hb1); have HBK := iC.mk (iO hb1 (jB rfl)); clear hb1; have HI0 := iC.mk (Bf.fresh w1); have HK0 := iC.mk ((Kp.refl w1.heap.size w1.heap.size w1).alloc (Nat.le_refl _) (.cells #[.slice none 0 0, .int .i64 0, .int .i8 0] 91)); obtain ⟨z0, z1, z2, z3, z4, z5, z6, z7, z8, z9, y0, y1, y2, y3, y4, y5, y6, y7, y8, y9⟩ := ten (jM (o := (.cells #[.slice none 0 0, .int .i64 0, .int .i8 0] 91)) HBK.out); clear y0 y1 y2 y3 y4 y5 y6 y7 y8 y9) | (go_at_call 49; refine (oP w1.heap.size w1.heap.size _ _ _ HI0.out HK0.out.1.size (by first | omega | (simp only [List.length_append, iT, List.length_nil, jD]; omega))).mono ?_; rintro e w2 ⟨rfl, hI, hK⟩; have HI1 := iC.mk hI; have HK1 := iC.mk (HK0.out.trans hK); clear hI hK z0 z1 z2 z3 z4 z5 z6 z7 z8 z9; obtain ⟨z0, z1, z2, z3, z4, z5, z6, z7, z8, z9, y0, y1, y2, y3, y4, y5, y6, y7, y8, y9⟩ := ten (iO HK1.out.1 HBK.out); clear y0 y1 y2 y3 y4 y5 y6 y7 y8 y9) | (go_at_call 50; refine (lL w1.heap.size w1.heap.size _ _ _ HI1.out HK1.out.1.size (by first | omega | (simp only [List.length_append, iT, List.length_nil, jD]; omega))).mono ?_; rintro e w3 ⟨rfl, hI, hK⟩; have HI2 := iC.mk hI; have HK2 := iC.mk (HK1.out.trans hK); clear hI hK z0 z1 z2 z3 z4 z5 z6 z7 z8 z9; obtain ⟨z0, z1, z2, z3, z4, z5, z6, z7, z8, z9, y0, y1, y2, y3, y4, y5, y6, y7, y8, y9⟩ := ten (iO HK2.out.1 HBK.out); clear y0 y1 y2 y3 y4 y5 y6 y7 y8 y9) | (go_at_call 55; refine (Tryd.Buffer_Len w1.heap.size w1.heap.size _ _ (HI2.out)).mono ?_; rintro e wl ⟨rfl, nl, rfl⟩; rw [Lib.byteCells_length, ← HLEN.out]) | (go_at_call 56; refine (Tryd.Buffer_Bytes w1.heap.size w1.heap.size _ _ (HI2.out.drewN _)).mono ?_; rintro e wb ⟨v, rfl, hv, nb, rfl⟩; have HV := iC.mk hv; clear hv))
  go_ret2
  exact ⟨_, rfl, by rw [HX.out, je4]; exact pX HV.out HBW.out.size, by have hz := HBW.out; have hy := HK2.out.1; exact iF (iK hz hy) _⟩
set_option maxHeartbeats 8000000 in
set_option maxRecDepth 20000 in
theorem X4 (hs : kC ⟨5, a1, a2, l3, l4, ⟨a5, l6⟩, a7, a8, l9⟩ = true) : Calls Tryd.prog 17 #[.agg #[.int .u8 5, .int .u32 a1, .int .u32 a2, .slice A3 l3.length c3, .slice A4 l4.length c4, .int .u32 a5, .slice A6 l6.length c6, .int .i64 a7, .int .i64 a8, .slice A9 l9.length c9]] w (pY w (encR ⟨5, a1, a2, l3, l4, ⟨a5, l6⟩, a7, a8, l9⟩)) := by
 have H3 := iC.mk h3; have H4 := iC.mk h4; have H6 := iC.mk h6; have H9 := iC.mk h9
 clear h3 h4 h6 h9
 have HS := iC.mk hs
 unfold encR
 rw [if_pos HS.out]
 have hm3 := lC H3.out
 have hm6 := lC H6.out
 obtain ⟨X, hX⟩ : ∃ X : List UInt8, X = recE ⟨5, a1, a2, l3, l4, ⟨a5, l6⟩, a7, a8, l9⟩ := ⟨_, rfl⟩
 rw [← hX]
 have HX := iC.mk hX
 have HLEN := iC.mk (show X.length = _ from congrArg List.length (hX.trans (jc6 _ _ _ _ _ _ _ _ _)))
 clear hs hX
 by_cases hbig : 60000 < X.length
 ·rw [if_pos hbig]
  have hbigI : (60000 : Int) < (X.length : Int) := by omega
  clear hbig
  go_enter Tryd.func17, Tryd.ntmps17
  go_wp2_with (first | (go_at_call 19; refine (code_Sound.calls 5 a1 a2 A3 c3 l3 A4 c4 l4 a5 A6 c6 l6 a7 a8 A9 c9 l9 _ _ (Kd.C_below H3.out bel_) d3 (Kd.C_below H4.out bel_) d4 (Kd.C_below H6.out bel_) d6 (Kd.C_below H9.out bel_) d9 rfl).mono ?_; rintro e w1 ⟨rfl, hb1⟩; rw [HS.out]; have HBW := iC.mk (show Below w.heap.size w w1 from iK (iG (Below.refl _ _) _) hb1); have HBK := iC.mk (iO hb1 (jB rfl)); clear hb1; have HI0 := iC.mk (Bf.fresh w1); have HK0 := iC.mk ((Kp.refl w1.heap.size w1.heap.size w1).alloc (Nat.le_refl _) (.cells #[.slice none 0 0, .int .i64 0, .int .i8 0] 91)); obtain ⟨z0, z1, z2, z3, z4, z5, z6, z7, z8, z9, y0, y1, y2, y3, y4, y5, y6, y7, y8, y9⟩ := ten (jM (o := (.cells #[.slice none 0 0, .int .i64 0, .int .i8 0] 91)) HBK.out); clear y0 y1 y2 y3 y4 y5 y6 y7 y8 y9) | (go_at_call 49; refine (oP w1.heap.size w1.heap.size _ _ _ HI0.out HK0.out.1.size (by first | omega | (simp only [List.length_append, iT, List.length_nil, jD]; omega))).mono ?_; rintro e w2 ⟨rfl, hI, hK⟩; have HI1 := iC.mk hI; have HK1 := iC.mk (HK0.out.trans hK); clear hI hK z0 z1 z2 z3 z4 z5 z6 z7 z8 z9; obtain ⟨z0, z1, z2, z3, z4, z5, z6, z7, z8, z9, y0, y1, y2, y3, y4, y5, y6, y7, y8, y9⟩ := ten (iO HK1.out.1 HBK.out); clear y0 y1 y2 y3 y4 y5 y6 y7 y8 y9) | (go_at_call 50; refine (lL w1.heap.size w1.heap.size _ _ _ HI1.out HK1.out.1.size (by first | omega | (simp only [List.length_append, iT, List.length_nil, jD]; omega))).mono ?_; rintro e w3 ⟨rfl, hI, hK⟩; have HI2 := iC.mk hI; have HK2 := iC.mk (HK1.out.trans hK); clear hI hK z0 z1 z2 z3 z4 z5 z6 z7 z8 z9; obtain ⟨z0, z1, z2, z3, z4, z5, z6, z7, z8, z9, y0, y1, y2, y3, y4, y5, y6, y7, y8, y9⟩ := ten (iO HK2.out.1 HBK.out); clear y0 y1 y2 y3 y4 y5 y6 y7 y8 y9) | (go_at_call 55; refine (Tryd.Buffer_Len w1.heap.size w1.heap.size _ _ (HI2.out)).mono ?_; rintro e wl ⟨rfl, nl, rfl⟩; rw [Lib.byteCells_length, ← HLEN.out]))
  go_ret2
  exact ⟨_, rfl, Kd.R_nil _ _ _ _ _, by have hz := HBW.out; have hy := HK2.out.1; exact iF (iK hz hy) _⟩
 ·rw [if_neg hbig]
  have hbigI : ¬ (60000 : Int) < (X.length : Int) := by omega
  clear hbig
  go_enter Tryd.func17, Tryd.ntmps17
  go_wp2_with (first | (go_at_call 19; refine (code_Sound.calls 5 a1 a2 A3 c3 l3 A4 c4 l4 a5 A6 c6 l6 a7 a8 A9 c9 l9 _ _ (Kd.C_below H3.out bel_) d3 (Kd.C_below H4.out bel_) d4 (Kd.C_below H6.out bel_) d6 (Kd.C_below H9.out bel_) d9 rfl).mono ?_; rintro e w1 ⟨rfl, hb1⟩; rw [HS.out]; have HBW := iC.mk (show Below w.heap.size w w1 from iK (iG (Below.refl _ _) _) hb1); have HBK := iC.mk (iO hb1 (jB rfl)); clear hb1; have HI0 := iC.mk (Bf.fresh w1); have HK0 := iC.mk ((Kp.refl w1.heap.size w1.heap.size w1).alloc (Nat.le_refl _) (.cells #[.slice none 0 0, .int .i64 0, .int .i8 0] 91)); obtain ⟨z0, z1, z2, z3, z4, z5, z6, z7, z8, z9, y0, y1, y2, y3, y4, y5, y6, y7, y8, y9⟩ := ten (jM (o := (.cells #[.slice none 0 0, .int .i64 0, .int .i8 0] 91)) HBK.out); clear y0 y1 y2 y3 y4 y5 y6 y7 y8 y9) | (go_at_call 49; refine (oP w1.heap.size w1.heap.size _ _ _ HI0.out HK0.out.1.size (by first | omega | (simp only [List.length_append, iT, List.length_nil, jD]; omega))).mono ?_; rintro e w2 ⟨rfl, hI, hK⟩; have HI1 := iC.mk hI; have HK1 := iC.mk (HK0.out.trans hK); clear hI hK z0 z1 z2 z3 z4 z5 z6 z7 z8 z9; obtain ⟨z0, z1, z2, z3, z4, z5, z6, z7, z8, z9, y0, y1, y2, y3, y4, y5, y6, y7, y8, y9⟩ := ten (iO HK1.out.1 HBK.out); clear y0 y1 y2 y3 y4 y5 y6 y7 y8 y9) | (go_at_call 50; refine (lL w1.heap.size w1.heap.size _ _ _ HI1.out HK1.out.1.size (by first | omega | (simp only [List.length_append, iT, List.length_nil, jD]; omega))).mono ?_; rintro e w3 ⟨rfl, hI, hK⟩; have HI2 := iC.mk hI; have HK2 := iC.mk (HK1.out.trans hK); clear hI hK z0 z1 z2 z3 z4 z5 z6 z7 z8 z9; obtain ⟨z0, z1, z2, z3, z4, z5, z6, z7, z8, z9, y0, y1, y2, y3, y4, y5, y6, y7, y8, y9⟩ := ten (iO HK2.out.1 HBK.out); clear y0 y1 y2 y3 y4 y5 y6 y7 y8 y9) | (go_at_call 55; refine (Tryd.Buffer_Len w1.heap.size w1.heap.size _ _ (HI2.out)).mono ?_; rintro e wl ⟨rfl, nl, rfl⟩; rw [Lib.byteCells_length, ← HLEN.out]) | (go_at_call 56; refine (Tryd.Buffer_Bytes w1.heap.size w1.heap.size _ _ (HI2.out.drewN _)).mono ?_; rintro e wb ⟨v, rfl, hv, nb, rfl⟩; have HV := iC.mk hv; clear hv))
  go_ret2
  exact ⟨_, rfl, by rw [HX.out, jc6]; exact pX HV.out HBW.out.size, by have hz := HBW.out; have hy := HK2.out.1; exact iF (iK hz hy) _⟩
set_option maxHeartbeats 8000000 in
set_option maxRecDepth 20000 in
theorem WG (hs : kC ⟨7, a1, a2, l3, l4, ⟨a5, l6⟩, a7, a8, l9⟩ = true) : Calls Tryd.prog 17 #[.agg #[.int .u8 7, .int .u32 a1, .int .u32 a2, .slice A3 l3.length c3, .slice A4 l4.length c4, .int .u32 a5, .slice A6 l6.length c6, .int .i64 a7, .int .i64 a8, .slice A9 l9.length c9]] w (pY w (encR ⟨7, a1, a2, l3, l4, ⟨a5, l6⟩, a7, a8, l9⟩)) := by
 have H3 := iC.mk h3; have H4 := iC.mk h4; have H6 := iC.mk h6; have H9 := iC.mk h9
 clear h3 h4 h6 h9
 have HS := iC.mk hs
 have q9 : (jV l9).length ≤ 25040004 := by
  have h := HS.out
  rw [ZB, Bool.and_eq_true, Bool.and_eq_true, Bool.and_eq_true, Bool.and_eq_true, Bool.and_eq_true, Bool.and_eq_true] at h
  exact yV _ h.1.1.1.1.1.1 (by have := of_decide_eq_true h.1.1.1.1.1.2; omega)
 unfold encR
 rw [if_pos HS.out]
 have hm3 := lC H3.out
 have hm6 := lC H6.out
 obtain ⟨X, hX⟩ : ∃ X : List UInt8, X = recE ⟨7, a1, a2, l3, l4, ⟨a5, l6⟩, a7, a8, l9⟩ := ⟨_, rfl⟩
 rw [← hX]
 have HX := iC.mk hX
 have HLEN := iC.mk (show X.length = _ from congrArg List.length (hX.trans (jd5 _ _ _ _ _ _ _ _ _)))
 clear hs hX
 by_cases hbig : 60000 < X.length
 ·rw [if_pos hbig]
  have hbigI : (60000 : Int) < (X.length : Int) := by omega
  clear hbig
  go_enter Tryd.func17, Tryd.ntmps17
  go_wp2_with (first | (go_at_call 19; refine (code_Sound.calls 7 a1 a2 A3 c3 l3 A4 c4 l4 a5 A6 c6 l6 a7 a8 A9 c9 l9 _ _ (Kd.C_below H3.out bel_) d3 (Kd.C_below H4.out bel_) d4 (Kd.C_below H6.out bel_) d6 (Kd.C_below H9.out bel_) d9 rfl).mono ?_; rintro e w1 ⟨rfl, hb1⟩; rw [HS.out]; have HBW := iC.mk (show Below w.heap.size w w1 from iK (iG (Below.refl _ _) _) hb1); have HBK := iC.mk (iO hb1 (jB rfl)); clear hb1; have HI0 := iC.mk (Bf.fresh w1); have HK0 := iC.mk ((Kp.refl w1.heap.size w1.heap.size w1).alloc (Nat.le_refl _) (.cells #[.slice none 0 0, .int .i64 0, .int .i8 0] 91)); obtain ⟨z0, z1, z2, z3, z4, z5, z6, z7, z8, z9, y0, y1, y2, y3, y4, y5, y6, y7, y8, y9⟩ := ten (jM (o := (.cells #[.slice none 0 0, .int .i64 0, .int .i8 0] 91)) HBK.out); clear y0 y1 y2 y3 y4 y5 y6 y7 y8 y9) | (go_at_call 49; refine (oP w1.heap.size w1.heap.size _ _ _ HI0.out HK0.out.1.size (by first | omega | (simp only [List.length_append, iT, List.length_nil, jD]; omega))).mono ?_; rintro e w2 ⟨rfl, hI, hK⟩; have HI1 := iC.mk hI; have HK1 := iC.mk (HK0.out.trans hK); clear hI hK z0 z1 z2 z3 z4 z5 z6 z7 z8 z9; obtain ⟨z0, z1, z2, z3, z4, z5, z6, z7, z8, z9, y0, y1, y2, y3, y4, y5, y6, y7, y8, y9⟩ := ten (iO HK1.out.1 HBK.out); clear y0 y1 y2 y3 y4 y5 y6 y7 y8 y9) | (go_at_call 50; refine (lL w1.heap.size w1.heap.size _ _ _ HI1.out HK1.out.1.size (by first | omega | (simp only [List.length_append, iT, List.length_nil, jD]; omega))).mono ?_; rintro e w3 ⟨rfl, hI, hK⟩; have HI2 := iC.mk hI; have HK2 := iC.mk (HK1.out.trans hK); clear hI hK z0 z1 z2 z3 z4 z5 z6 z7 z8 z9; obtain ⟨z0, z1, z2, z3, z4, z5, z6, z7, z8, z9, y0, y1, y2, y3, y4, y5, y6, y7, y8, y9⟩ := ten (iO HK2.out.1 HBK.out); clear y0 y1 y2 y3 y4 y5 y6 y7 y8 y9) | (go_at_call 53; refine (nZ w1.heap.size w1.heap.size _ _ _ HI2.out HK2.out.1.size (by first | omega | (simp only [List.length_append, iT, List.length_nil, jD]; omega))).mono ?_; rintro e w4 ⟨rfl, hI, hK⟩; have HI3 := iC.mk hI; have HK3 := iC.mk (HK2.out.trans hK); clear hI hK z0 z1 z2 z3 z4 z5 z6 z7 z8 z9; obtain ⟨z0, z1, z2, z3, z4, z5, z6, z7, z8, z9, y0, y1, y2, y3, y4, y5, y6, y7, y8, y9⟩ := ten (iO HK3.out.1 HBK.out); clear y0 y1 y2 y3 y4 y5 y6 y7 y8 y9) | (go_at_call 53; refine (nZ w1.heap.size w1.heap.size _ _ _ HI3.out HK3.out.1.size (by first | omega | (simp only [List.length_append, iT, List.length_nil, jD]; omega))).mono ?_; rintro e w5 ⟨rfl, hI, hK⟩; have HI4 := iC.mk hI; have HK4 := iC.mk (HK3.out.trans hK); clear hI hK z0 z1 z2 z3 z4 z5 z6 z7 z8 z9; obtain ⟨z0, z1, z2, z3, z4, z5, z6, z7, z8, z9, y0, y1, y2, y3, y4, y5, y6, y7, y8, y9⟩ := ten (iO HK4.out.1 HBK.out); clear y0 y1 y2 y3 y4 y5 y6 y7 y8 y9) | (go_at_call 54; refine (yM w1.heap.size _ _ _ l9 w1 _ HI4.out HK4.out.1 (Kd.C_below H9.out HBW.out) (by first | omega | (simp only [List.length_append, iT, List.length_nil, jD]; omega))).mono ?_; rintro e w6 ⟨rfl, hI, hK⟩; have HI5 := iC.mk hI; have HK5 := iC.mk (HK4.out.trans hK); clear hI hK z0 z1 z2 z3 z4 z5 z6 z7 z8 z9; obtain ⟨z0, z1, z2, z3, z4, z5, z6, z7, z8, z9, y0, y1, y2, y3, y4, y5, y6, y7, y8, y9⟩ := ten (iO HK5.out.1 HBK.out); clear y0 y1 y2 y3 y4 y5 y6 y7 y8 y9) | (go_at_call 55; refine (Tryd.Buffer_Len w1.heap.size w1.heap.size _ _ (HI5.out)).mono ?_; rintro e wl ⟨rfl, nl, rfl⟩; rw [Lib.byteCells_length, ← HLEN.out]))
  go_ret2
  exact ⟨_, rfl, Kd.R_nil _ _ _ _ _, by have hz := HBW.out; have hy := HK5.out.1; exact iF (iK hz hy) _⟩
 ·rw [if_neg hbig]
  have hbigI : ¬ (60000 : Int) < (X.length : Int) := by omega
  clear hbig
  go_enter Tryd.func17, Tryd.ntmps17
  go_wp2_with (first | (go_at_call 19; refine (code_Sound.calls 7 a1 a2 A3 c3 l3 A4 c4 l4 a5 A6 c6 l6 a7 a8 A9 c9 l9 _ _ (Kd.C_below H3.out bel_) d3 (Kd.C_below H4.out bel_) d4 (Kd.C_below H6.out bel_) d6 (Kd.C_below H9.out bel_) d9 rfl).mono ?_; rintro e w1 ⟨rfl, hb1⟩; rw [HS.out]; have HBW := iC.mk (show Below w.heap.size w w1 from iK (iG (Below.refl _ _) _) hb1); have HBK := iC.mk (iO hb1 (jB rfl)); clear hb1; have HI0 := iC.mk (Bf.fresh w1); have HK0 := iC.mk ((Kp.refl w1.heap.size w1.heap.size w1).alloc (Nat.le_refl _) (.cells #[.slice none 0 0, .int .i64 0, .int .i8 0] 91)); obtain ⟨z0, z1, z2, z3, z4, z5, z6, z7, z8, z9, y0, y1, y2, y3, y4, y5, y6, y7, y8, y9⟩ := ten (jM (o := (.cells #[.slice none 0 0, .int .i64 0, .int .i8 0] 91)) HBK.out); clear y0 y1 y2 y3 y4 y5 y6 y7 y8 y9) | (go_at_call 49; refine (oP w1.heap.size w1.heap.size _ _ _ HI0.out HK0.out.1.size (by first | omega | (simp only [List.length_append, iT, List.length_nil, jD]; omega))).mono ?_; rintro e w2 ⟨rfl, hI, hK⟩; have HI1 := iC.mk hI; have HK1 := iC.mk (HK0.out.trans hK); clear hI hK z0 z1 z2 z3 z4 z5 z6 z7 z8 z9; obtain ⟨z0, z1, z2, z3, z4, z5, z6, z7, z8, z9, y0, y1, y2, y3, y4, y5, y6, y7, y8, y9⟩ := ten (iO HK1.out.1 HBK.out); clear y0 y1 y2 y3 y4 y5 y6 y7 y8 y9) | (go_at_call 50; refine (lL w1.heap.size w1.heap.size _ _ _ HI1.out HK1.out.1.size (by first | omega | (simp only [List.length_append, iT, List.length_nil, jD]; omega))).mono ?_; rintro e w3 ⟨rfl, hI, hK⟩; have HI2 := iC.mk hI; have HK2 := iC.mk (HK1.out.trans hK); clear hI hK z0 z1 z2 z3 z4 z5 z6 z7 z8 z9; obtain ⟨z0, z1, z2, z3, z4, z5, z6, z7, z8, z9, y0, y1, y2, y3, y4, y5, y6, y7, y8, y9⟩ := ten (iO HK2.out.1 HBK.out); clear y0 y1 y2 y3 y4 y5 y6 y7 y8 y9) | (go_at_call 53; refine (nZ w1.heap.size w1.heap.size _ _ _ HI2.out HK2.out.1.size (by first | omega | (simp only [List.length_append, iT, List.length_nil, jD]; omega))).mono ?_; rintro e w4 ⟨rfl, hI, hK⟩; have HI3 := iC.mk hI; have HK3 := iC.mk (HK2.out.trans hK); clear hI hK z0 z1 z2 z3 z4 z5 z6 z7 z8 z9; obtain ⟨z0, z1, z2, z3, z4, z5, z6, z7, z8, z9, y0, y1, y2, y3, y4, y5, y6, y7, y8, y9⟩ := ten (iO HK3.out.1 HBK.out); clear y0 y1 y2 y3 y4 y5 y6 y7 y8 y9) | (go_at_call 53; refine (nZ w1.heap.size w1.heap.size _ _ _ HI3.out HK3.out.1.size (by first | omega | (simp only [List.length_append, iT, List.length_nil, jD]; omega))).mono ?_; rintro e w5 ⟨rfl, hI, hK⟩; have HI4 := iC.mk hI; have HK4 := iC.mk (HK3.out.trans hK); clear hI hK z0 z1 z2 z3 z4 z5 z6 z7 z8 z9; obtain ⟨z0, z1, z2, z3, z4, z5, z6, z7, z8, z9, y0, y1, y2, y3, y4, y5, y6, y7, y8, y9⟩ := ten (iO HK4.out.1 HBK.out); clear y0 y1 y2 y3 y4 y5 y6 y7 y8 y9) | (go_at_call 54; refine (yM w1.heap.size _ _ _ l9 w1 _ HI4.out HK4.out.1 (Kd.C_below H9.out HBW.out) (by first | omega | (simp only [List.length_append, iT, List.length_nil, jD]; omega))).mono ?_; rintro e w6 ⟨rfl, hI, hK⟩; have HI5 := iC.mk hI; have HK5 := iC.mk (HK4.out.trans hK); clear hI hK z0 z1 z2 z3 z4 z5 z6 z7 z8 z9; obtain ⟨z0, z1, z2, z3, z4, z5, z6, z7, z8, z9, y0, y1, y2, y3, y4, y5, y6, y7, y8, y9⟩ := ten (iO HK5.out.1 HBK.out); clear y0 y1 y2 y3 y4 y5 y6 y7 y8 y9) | (go_at_call 55; refine (Tryd.Buffer_Len w1.heap.size w1.heap.size _ _ (HI5.out)).mono ?_; rintro e wl ⟨rfl, nl, rfl⟩; rw [Lib.byteCells_length, ← HLEN.out]) | (go_at_call 56; refine (Tryd.Buffer_Bytes w1.heap.size w1.heap.size _ _ (HI5.out.drewN _)).mono ?_; rintro e wb ⟨v, rfl, hv, nb, rfl⟩; have HV := iC.mk hv; clear hv))
  go_ret2
  exact ⟨_, rfl, by rw [HX.out, jd5]; exact pX HV.out HBW.out.size, by have hz := HBW.out; have hy := HK5.out.1; exact iF (iK hz hy) _⟩
set_option maxHeartbeats 8000000 in
set_option maxRecDepth 20000 in
theorem XA (hs : kC ⟨6, a1, a2, l3, l4, ⟨a5, l6⟩, a7, a8, l9⟩ = true) : Calls Tryd.prog 17 #[.agg #[.int .u8 6, .int .u32 a1, .int .u32 a2, .slice A3 l3.length c3, .slice A4 l4.length c4, .int .u32 a5, .slice A6 l6.length c6, .int .i64 a7, .int .i64 a8, .slice A9 l9.length c9]] w (pY w (encR ⟨6, a1, a2, l3, l4, ⟨a5, l6⟩, a7, a8, l9⟩)) := by
 have H3 := iC.mk h3; have H4 := iC.mk h4; have H6 := iC.mk h6; have H9 := iC.mk h9
 clear h3 h4 h6 h9
 have HS := iC.mk hs
 have q6 : l6.length ≤ 40 := by
  have h := HS.out
  rw [YS, Bool.and_eq_true, Bool.and_eq_true, Bool.and_eq_true] at h
  have := of_decide_eq_true h.1.1.2
  omega
 unfold encR
 rw [if_pos HS.out]
 have hm3 := lC H3.out
 have hm6 := lC H6.out
 obtain ⟨X, hX⟩ : ∃ X : List UInt8, X = recE ⟨6, a1, a2, l3, l4, ⟨a5, l6⟩, a7, a8, l9⟩ := ⟨_, rfl⟩
 rw [← hX]
 have HX := iC.mk hX
 have HLEN := iC.mk (show X.length = _ from congrArg List.length (hX.trans (je2 _ _ _ _ _ _ _ _ _)))
 clear hs hX
 by_cases hbig : 60000 < X.length
 ·rw [if_pos hbig]
  have hbigI : (60000 : Int) < (X.length : Int) := by omega
  clear hbig
  go_enter Tryd.func17, Tryd.ntmps17
  go_wp2_with (first | (go_at_call 19; refine (code_Sound.calls 6 a1 a2 A3 c3 l3 A4 c4 l4 a5 A6 c6 l6 a7 a8 A9 c9 l9 _ _ (Kd.C_below H3.out bel_) d3 (Kd.C_below H4.out bel_) d4 (Kd.C_below H6.out bel_) d6 (Kd.C_below H9.out bel_) d9 rfl).mono ?_; rintro e w1 ⟨rfl, hb1⟩; rw [HS.out]; have HBW := iC.mk (show Below w.heap.size w w1 from iK (iG (Below.refl _ _) _) hb1); have HBK := iC.mk (iO hb1 (jB rfl)); clear hb1; have HI0 := iC.mk (Bf.fresh w1); have HK0 := iC.mk ((Kp.refl w1.heap.size w1.heap.size w1).alloc (Nat.le_refl _) (.cells #[.slice none 0 0, .int .i64 0, .int .i8 0] 91)); obtain ⟨z0, z1, z2, z3, z4, z5, z6, z7, z8, z9, y0, y1, y2, y3, y4, y5, y6, y7, y8, y9⟩ := ten (jM (o := (.cells #[.slice none 0 0, .int .i64 0, .int .i8 0] 91)) HBK.out); clear y0 y1 y2 y3 y4 y5 y6 y7 y8 y9) | (go_at_call 49; refine (oP w1.heap.size w1.heap.size _ _ _ HI0.out HK0.out.1.size (by first | omega | (simp only [List.length_append, iT, List.length_nil, jD]; omega))).mono ?_; rintro e w2 ⟨rfl, hI, hK⟩; have HI1 := iC.mk hI; have HK1 := iC.mk (HK0.out.trans hK); clear hI hK z0 z1 z2 z3 z4 z5 z6 z7 z8 z9; obtain ⟨z0, z1, z2, z3, z4, z5, z6, z7, z8, z9, y0, y1, y2, y3, y4, y5, y6, y7, y8, y9⟩ := ten (iO HK1.out.1 HBK.out); clear y0 y1 y2 y3 y4 y5 y6 y7 y8 y9) | (go_at_call 50; refine (lL w1.heap.size w1.heap.size _ _ _ HI1.out HK1.out.1.size (by first | omega | (simp only [List.length_append, iT, List.length_nil, jD]; omega))).mono ?_; rintro e w3 ⟨rfl, hI, hK⟩; have HI2 := iC.mk hI; have HK2 := iC.mk (HK1.out.trans hK); clear hI hK z0 z1 z2 z3 z4 z5 z6 z7 z8 z9; obtain ⟨z0, z1, z2, z3, z4, z5, z6, z7, z8, z9, y0, y1, y2, y3, y4, y5, y6, y7, y8, y9⟩ := ten (iO HK2.out.1 HBK.out); clear y0 y1 y2 y3 y4 y5 y6 y7 y8 y9) | (go_at_call 50; refine (lL w1.heap.size w1.heap.size _ _ _ HI2.out HK2.out.1.size (by first | omega | (simp only [List.length_append, iT, List.length_nil, jD]; omega))).mono ?_; rintro e w4 ⟨rfl, hI, hK⟩; have HI3 := iC.mk hI; have HK3 := iC.mk (HK2.out.trans hK); clear hI hK z0 z1 z2 z3 z4 z5 z6 z7 z8 z9; obtain ⟨z0, z1, z2, z3, z4, z5, z6, z7, z8, z9, y0, y1, y2, y3, y4, y5, y6, y7, y8, y9⟩ := ten (iO HK3.out.1 HBK.out); clear y0 y1 y2 y3 y4 y5 y6 y7 y8 y9) | (go_at_call 53; refine (qB w1.heap.size w1.heap.size _ _ _ HI3.out HK3.out.1.size (by first | omega | (simp only [List.length_append, iT, List.length_nil, jD]; omega))).mono ?_; rintro e w5 ⟨rfl, hI, hK⟩; have HI4 := iC.mk hI; have HK4 := iC.mk (HK3.out.trans hK); clear hI hK z0 z1 z2 z3 z4 z5 z6 z7 z8 z9; obtain ⟨z0, z1, z2, z3, z4, z5, z6, z7, z8, z9, y0, y1, y2, y3, y4, y5, y6, y7, y8, y9⟩ := ten (iO HK4.out.1 HBK.out); clear y0 y1 y2 y3 y4 y5 y6 y7 y8 y9))
  clear z0 z1 z2 z3 z4 z5 z6 z7 z8 z9
  go_loopw [59] (fun i wr => ∃ k : Nat, k ≤ l6.length ∧ i = .int .i64 k ∧ iC (Bf w1.heap.size w1.heap.size ([] ++ layB 6 1 ++ layB a1 4 ++ layB a5 4 ++ layB l6.length 1 ++ (l6.take k).flatMap oO) wr) ∧ iC (Kp w1.heap.size w1.heap.size w1 wr)) (fun i _ => l6.length - (intOf i).toNat)
  case atStart => exact ⟨0, Nat.zero_le _, rfl, ⟨by rw [List.take_zero, List.flatMap_nil, List.append_nil]; exact HI4.out⟩, HK4⟩
  case round =>
   obtain ⟨k, hk, rfl, HI, HK⟩ := hrel
   clear HI4 HK4 HI3 HK3 HI2 HK2 HI1 HK1 HI0 HK0
   by_cases hlt : k < l6.length
   ·obtain ⟨ad, rfl, hx0, hx1⟩ := zM (Kd.C_below H6.out (iK HBW.out HK.out.1)) (k : Int) (by omega) (by omega)
    rw [TW] at hx0 hx1
    rw [Int.toNat_natCast] at hx0 hx1
    have hts := iC.mk (kW oO zI l6 k hlt)
    have hpl : ([] ++ layB 6 1 ++ layB a1 4 ++ layB a5 4 ++ layB l6.length 1 ++ (l6.take k).flatMap oO).length + 10 ≤ 140737488355328 := by
     simp only [List.length_append, iT, List.length_nil, IL, List.length_take]
     omega
    obtain ⟨s, hs⟩ : ∃ s, s = l6.getD k zI := ⟨_, rfl⟩
    rw [← hs] at hx0 hx1 hts
    clear hs
    obtain ⟨pre, hpre⟩ : ∃ p, p = [] ++ layB 6 1 ++ layB a1 4 ++ layB a5 4 ++ layB l6.length 1 ++ (l6.take k).flatMap oO := ⟨_, rfl⟩
    have hrest : [] ++ layB 6 1 ++ layB a1 4 ++ layB a5 4 ++ layB l6.length 1 ++ (l6.take (k + 1)).flatMap oO = pre ++ oO s := by rw [hts.out, ← List.append_assoc, hpre]
    have HREST := iC.mk hrest
    rw [← hpre] at HI hpl
    have HPL := iC.mk (show (pre ++ layB s.f0 4).length + 1 ≤ 140737488355328 from by rw [List.length_append, iT]; omega)
    have HPL4 := iC.mk (show pre.length + 4 ≤ 140737488355328 from by omega)
    clear hpre hrest hts hpl
    obtain ⟨wo, rfl⟩ : ∃ wo : World, wo = wr := ⟨_, rfl⟩
    have HBX := iC.mk (Bf.alloc HI.out (.cells #[.int .i64 s.f0, .int .i64 s.f1] 98))
    have HKX := iC.mk (HK.out.alloc HK.out.1.size (.cells #[.int .i64 s.f0, .int .i64 s.f1] 98))
    have HNE := iC.mk (show wo.heap.size ≠ w1.heap.size from by have := HI.out.lt; omega)
    go_wp2_with fail
    refine (nZ _ _ pre _ _ HBX.out HKX.out.1.size HPL4.out).mono ?_
    rintro e w2 ⟨rfl, hI, hK⟩
    have HI1 := iC.mk hI
    have HK1 := iC.mk (HKX.out.trans hK)
    have hblk := hK.block (jB rfl) HNE.out (by decide)
    clear hI hK
    have hz1 : w2.cell? ⟨wo.heap.size, 1, none⟩ = some (.int .i64 s.f1) := (iE hblk 1).trans rfl
    clear hblk
    go_wp2_with fail
    refine (qB _ _ _ _ _ HI1.out HK1.out.1.size HPL.out).mono ?_
    rintro e w3 ⟨rfl, hI, hK⟩
    have HI2 := iC.mk hI
    have HK2 := iC.mk (HK1.out.trans hK)
    clear hI hK
    go_wp2
    go_roundw
    case rel => exact ⟨k + 1, by omega, by go_num, ⟨by rw [HREST.out, oO, ← List.append_assoc]; exact HI2.out⟩, HK2⟩
    case measure => simp [intOf]; omega
   ·skip
    obtain rfl : k = l6.length := by omega
    have hI' := HI.out
    rw [List.take_length] at hI'
    have HI' := iC.mk hI'
    clear hI'
    go_wp2_with (first | (go_at_call 55; refine (Tryd.Buffer_Len w1.heap.size w1.heap.size _ _ (HI'.out)).mono ?_; rintro e wl ⟨rfl, nl, rfl⟩; rw [Lib.byteCells_length, ← HLEN.out]))
    go_ret2
    exact ⟨_, rfl, Kd.R_nil _ _ _ _ _, by have hz := HBW.out; have hy := HK.out.1; exact iF (iK hz hy) _⟩
 ·rw [if_neg hbig]
  have hbigI : ¬ (60000 : Int) < (X.length : Int) := by omega
  clear hbig
  go_enter Tryd.func17, Tryd.ntmps17
  go_wp2_with (first | (go_at_call 19; refine (code_Sound.calls 6 a1 a2 A3 c3 l3 A4 c4 l4 a5 A6 c6 l6 a7 a8 A9 c9 l9 _ _ (Kd.C_below H3.out bel_) d3 (Kd.C_below H4.out bel_) d4 (Kd.C_below H6.out bel_) d6 (Kd.C_below H9.out bel_) d9 rfl).mono ?_; rintro e w1 ⟨rfl, hb1⟩; rw [HS.out]; have HBW := iC.mk (show Below w.heap.size w w1 from iK (iG (Below.refl _ _) _) hb1); have HBK := iC.mk (iO hb1 (jB rfl)); clear hb1; have HI0 := iC.mk (Bf.fresh w1); have HK0 := iC.mk ((Kp.refl w1.heap.size w1.heap.size w1).alloc (Nat.le_refl _) (.cells #[.slice none 0 0, .int .i64 0, .int .i8 0] 91)); obtain ⟨z0, z1, z2, z3, z4, z5, z6, z7, z8, z9, y0, y1, y2, y3, y4, y5, y6, y7, y8, y9⟩ := ten (jM (o := (.cells #[.slice none 0 0, .int .i64 0, .int .i8 0] 91)) HBK.out); clear y0 y1 y2 y3 y4 y5 y6 y7 y8 y9) | (go_at_call 49; refine (oP w1.heap.size w1.heap.size _ _ _ HI0.out HK0.out.1.size (by first | omega | (simp only [List.length_append, iT, List.length_nil, jD]; omega))).mono ?_; rintro e w2 ⟨rfl, hI, hK⟩; have HI1 := iC.mk hI; have HK1 := iC.mk (HK0.out.trans hK); clear hI hK z0 z1 z2 z3 z4 z5 z6 z7 z8 z9; obtain ⟨z0, z1, z2, z3, z4, z5, z6, z7, z8, z9, y0, y1, y2, y3, y4, y5, y6, y7, y8, y9⟩ := ten (iO HK1.out.1 HBK.out); clear y0 y1 y2 y3 y4 y5 y6 y7 y8 y9) | (go_at_call 50; refine (lL w1.heap.size w1.heap.size _ _ _ HI1.out HK1.out.1.size (by first | omega | (simp only [List.length_append, iT, List.length_nil, jD]; omega))).mono ?_; rintro e w3 ⟨rfl, hI, hK⟩; have HI2 := iC.mk hI; have HK2 := iC.mk (HK1.out.trans hK); clear hI hK z0 z1 z2 z3 z4 z5 z6 z7 z8 z9; obtain ⟨z0, z1, z2, z3, z4, z5, z6, z7, z8, z9, y0, y1, y2, y3, y4, y5, y6, y7, y8, y9⟩ := ten (iO HK2.out.1 HBK.out); clear y0 y1 y2 y3 y4 y5 y6 y7 y8 y9) | (go_at_call 50; refine (lL w1.heap.size w1.heap.size _ _ _ HI2.out HK2.out.1.size (by first | omega | (simp only [List.length_append, iT, List.length_nil, jD]; omega))).mono ?_; rintro e w4 ⟨rfl, hI, hK⟩; have HI3 := iC.mk hI; have HK3 := iC.mk (HK2.out.trans hK); clear hI hK z0 z1 z2 z3 z4 z5 z6 z7 z8 z9; obtain ⟨z0, z1, z2, z3, z4, z5, z6, z7, z8, z9, y0, y1, y2, y3, y4, y5, y6, y7, y8, y9⟩ := ten (iO HK3.out.1 HBK.out); clear y0 y1 y2 y3 y4 y5 y6 y7 y8 y9) | (go_at_call 53; refine (qB w1.heap.size w1.heap.size _ _ _ HI3.out HK3.out.1.size (by first | omega | (simp only [List.length_append, iT, List.length_nil, jD]; omega))).mono ?_; rintro e w5 ⟨rfl, hI, hK⟩; have HI4 := iC.mk hI; have HK4 := iC.mk (HK3.out.trans hK); clear hI hK z0 z1 z2 z3 z4 z5 z6 z7 z8 z9; obtain ⟨z0, z1, z2, z3, z4, z5, z6, z7, z8, z9, y0, y1, y2, y3, y4, y5, y6, y7, y8, y9⟩ := ten (iO HK4.out.1 HBK.out); clear y0 y1 y2 y3 y4 y5 y6 y7 y8 y9))
  clear z0 z1 z2 z3 z4 z5 z6 z7 z8 z9
  go_loopw [59] (fun i wr => ∃ k : Nat, k ≤ l6.length ∧ i = .int .i64 k ∧ iC (Bf w1.heap.size w1.heap.size ([] ++ layB 6 1 ++ layB a1 4 ++ layB a5 4 ++ layB l6.length 1 ++ (l6.take k).flatMap oO) wr) ∧ iC (Kp w1.heap.size w1.heap.size w1 wr)) (fun i _ => l6.length - (intOf i).toNat)
  case atStart => exact ⟨0, Nat.zero_le _, rfl, ⟨by rw [List.take_zero, List.flatMap_nil, List.append_nil]; exact HI4.out⟩, HK4⟩
  case round =>
   obtain ⟨k, hk, rfl, HI, HK⟩ := hrel
   clear HI4 HK4 HI3 HK3 HI2 HK2 HI1 HK1 HI0 HK0
   by_cases hlt : k < l6.length
   ·obtain ⟨ad, rfl, hx0, hx1⟩ := zM (Kd.C_below H6.out (iK HBW.out HK.out.1)) (k : Int) (by omega) (by omega)
    rw [TW] at hx0 hx1
    rw [Int.toNat_natCast] at hx0 hx1
    have hts := iC.mk (kW oO zI l6 k hlt)
    have hpl : ([] ++ layB 6 1 ++ layB a1 4 ++ layB a5 4 ++ layB l6.length 1 ++ (l6.take k).flatMap oO).length + 10 ≤ 140737488355328 := by
     simp only [List.length_append, iT, List.length_nil, IL, List.length_take]
     omega
    obtain ⟨s, hs⟩ : ∃ s, s = l6.getD k zI := ⟨_, rfl⟩
    rw [← hs] at hx0 hx1 hts
    clear hs
    obtain ⟨pre, hpre⟩ : ∃ p, p = [] ++ layB 6 1 ++ layB a1 4 ++ layB a5 4 ++ layB l6.length 1 ++ (l6.take k).flatMap oO := ⟨_, rfl⟩
    have hrest : [] ++ layB 6 1 ++ layB a1 4 ++ layB a5 4 ++ layB l6.length 1 ++ (l6.take (k + 1)).flatMap oO = pre ++ oO s := by rw [hts.out, ← List.append_assoc, hpre]
    have HREST := iC.mk hrest
    rw [← hpre] at HI hpl
    have HPL := iC.mk (show (pre ++ layB s.f0 4).length + 1 ≤ 140737488355328 from by rw [List.length_append, iT]; omega)
    have HPL4 := iC.mk (show pre.length + 4 ≤ 140737488355328 from by omega)
    clear hpre hrest hts hpl
    obtain ⟨wo, rfl⟩ : ∃ wo : World, wo = wr := ⟨_, rfl⟩
    have HBX := iC.mk (Bf.alloc HI.out (.cells #[.int .i64 s.f0, .int .i64 s.f1] 98))
    have HKX := iC.mk (HK.out.alloc HK.out.1.size (.cells #[.int .i64 s.f0, .int .i64 s.f1] 98))
    have HNE := iC.mk (show wo.heap.size ≠ w1.heap.size from by have := HI.out.lt; omega)
    go_wp2_with fail
    refine (nZ _ _ pre _ _ HBX.out HKX.out.1.size HPL4.out).mono ?_
    rintro e w2 ⟨rfl, hI, hK⟩
    have HI1 := iC.mk hI
    have HK1 := iC.mk (HKX.out.trans hK)
    have hblk := hK.block (jB rfl) HNE.out (by decide)
    clear hI hK
    have hz1 : w2.cell? ⟨wo.heap.size, 1, none⟩ = some (.int .i64 s.f1) := (iE hblk 1).trans rfl
    clear hblk
    go_wp2_with fail
    refine (qB _ _ _ _ _ HI1.out HK1.out.1.size HPL.out).mono ?_
    rintro e w3 ⟨rfl, hI, hK⟩
    have HI2 := iC.mk hI
    have HK2 := iC.mk (HK1.out.trans hK)
    clear hI hK
    go_wp2
    go_roundw
    case rel => exact ⟨k + 1, by omega, by go_num, ⟨by rw [HREST.out, oO, ← List.append_assoc]; exact HI2.out⟩, HK2⟩
    case measure => simp [intOf]; omega
   ·skip
    obtain rfl : k = l6.length := by omega
    have hI' := HI.out
    rw [List.take_length] at hI'
    have HI' := iC.mk hI'
    clear hI'
    go_wp2_with (first | (go_at_call 55; refine (Tryd.Buffer_Len w1.heap.size w1.heap.size _ _ (HI'.out)).mono ?_; rintro e wl ⟨rfl, nl, rfl⟩; rw [Lib.byteCells_length, ← HLEN.out]) | (go_at_call 56; refine (Tryd.Buffer_Bytes w1.heap.size w1.heap.size _ _ (HI'.out.drewN _)).mono ?_; rintro e wb ⟨v, rfl, hv, nb, rfl⟩; have HV := iC.mk hv; clear hv))
    go_ret2
    exact ⟨_, rfl, by rw [HX.out, je2]; exact pX HV.out HBW.out.size, by have hz := HBW.out; have hy := HK.out.1; exact iF (iK hz hy) _⟩
set_option maxHeartbeats 2000000 in
theorem YC (hs : kC ⟨a0, a1, a2, l3, l4, ⟨a5, l6⟩, a7, a8, l9⟩ = false) : Calls Tryd.prog 17 #[.agg #[.int .u8 a0, .int .u32 a1, .int .u32 a2, .slice A3 l3.length c3, .slice A4 l4.length c4, .int .u32 a5, .slice A6 l6.length c6, .int .i64 a7, .int .i64 a8, .slice A9 l9.length c9]] w (pY w (encR ⟨a0, a1, a2, l3, l4, ⟨a5, l6⟩, a7, a8, l9⟩)) := by
 have H3 := iC.mk h3; have H4 := iC.mk h4; have H6 := iC.mk h6; have H9 := iC.mk h9
 clear h3 h4 h6 h9
 unfold encR
 rw [if_neg (by rw [hs]; exact Bool.false_ne_true)]
 have HS := iC.mk hs
 clear hs
 go_enter Tryd.func17, Tryd.ntmps17
 go_wp2_with (first | (go_at_call 19; refine (code_Sound.calls a0 a1 a2 A3 c3 l3 A4 c4 l4 a5 A6 c6 l6 a7 a8 A9 c9 l9 _ _ (Kd.C_below H3.out bel_) d3 (Kd.C_below H4.out bel_) d4 (Kd.C_below H6.out bel_) d6 (Kd.C_below H9.out bel_) d9 rfl).mono ?_; rintro e w1 ⟨rfl, hb1⟩; rw [HS.out]))
 go_ret2
 exact ⟨_, rfl, Kd.R_nil _ _ _ _ _, iK (iG (Below.refl _ _) _) hb1⟩
end
theorem code_Encode.calls (a0_0 : Int) (a0_1 : Int) (a0_2 : Int) (A0_3 : Option Addr) (c0_3 : Nat) (l0_3 : List Int) (A0_4 : Option Addr) (c0_4 : Nat) (l0_4 : List jP) (a0_5 : Int) (A0_6 : Option Addr) (c0_6 : Nat) (l0_6 : List kG) (a0_7 : Int) (a0_8 : Int) (A0_9 : Option Addr) (c0_9 : Nat) (l0_9 : List jI) (r1 : List Int) (r2 : Int) (w : World) (hr0_3 : Kd.C (Kd.int .i64) w A0_3 l0_3.length l0_3) (hc0_3 : l0_3.length ≤ c0_3) (hr0_4 : Kd.C k139 w A0_4 l0_4.length l0_4) (hc0_4 : l0_4.length ≤ c0_4) (hr0_6 : Kd.C k98 w A0_6 l0_6.length l0_6) (hc0_6 : l0_6.length ≤ c0_6) (hr0_9 : Kd.C k86 w A0_9 l0_9.length l0_9) (hc0_9 : l0_9.length ≤ c0_9) (h : code_Encode.f a0_0 a0_1 a0_2 l0_3 l0_4 a0_5 l0_6 a0_7 a0_8 l0_9 = some (r1, r2)) :
  Calls Tryd.prog 17 #[.agg #[.int .u8 a0_0, .int .u32 a0_1, .int .u32 a0_2, .slice A0_3 l0_3.length c0_3, .slice A0_4 l0_4.length c0_4, .int .u32 a0_5, .slice A0_6 l0_6.length c0_6, .int .i64 a0_7, .int .i64 a0_8, .slice A0_9 l0_9.length c0_9]] w fun e w' => ∃ v0_ : Value, e = .returned (.tuple #[v0_, .int .u16 r2]) ∧ Kd.R (Kd.int .u8) 5 w' w.heap.size (fun _ => True) v0_ r1 ∧ Below w.heap.size w w' := by
 have e := Option.some.inj h
 clear h
 have main : Calls Tryd.prog 17 #[.agg #[.int .u8 a0_0, .int .u32 a0_1, .int .u32 a0_2, .slice A0_3 l0_3.length c0_3, .slice A0_4 l0_4.length c0_4, .int .u32 a0_5, .slice A0_6 l0_6.length c0_6, .int .i64 a0_7, .int .i64 a0_8, .slice A0_9 l0_9.length c0_9]] w (pY w (encR ⟨a0_0, a0_1, a0_2, l0_3, l0_4, ⟨a0_5, l0_6⟩, a0_7, a0_8, l0_9⟩)) := by
  clear e
  cases hs : kC ⟨a0_0, a0_1, a0_2, l0_3, l0_4, ⟨a0_5, l0_6⟩, a0_7, a0_8, l0_9⟩ with
  | false => exact YC a0_0 a0_1 a0_2 A0_3 c0_3 l0_3 A0_4 c0_4 l0_4 a0_5 A0_6 c0_6 l0_6 a0_7 a0_8 A0_9 c0_9 l0_9 w hr0_3 hc0_3 hr0_4 hc0_4 hr0_6 hc0_6 hr0_9 hc0_9 hs
  | true =>
   by_cases h0 : a0_0 < 1 ∨ 7 < a0_0
   ·rw [YP _ _ _ _ _ _ _ _ _ _ h0] at hs
    cases hs
   have h7 : a0_0 = 1 ∨ a0_0 = 2 ∨ a0_0 = 3 ∨ a0_0 = 4 ∨ a0_0 = 5 ∨ a0_0 = 6 ∨ a0_0 = 7 := by omega
   rcases h7 with rfl | rfl | rfl | rfl | rfl | rfl | rfl
   ·exact YJ a0_1 a0_2 A0_3 c0_3 l0_3 A0_4 c0_4 l0_4 a0_5 A0_6 c0_6 l0_6 a0_7 a0_8 A0_9 c0_9 l0_9 w hr0_3 hc0_3 hr0_4 hc0_4 hr0_6 hc0_6 hr0_9 hc0_9 hs
   ·exact Y4 a0_1 a0_2 A0_3 c0_3 l0_3 A0_4 c0_4 l0_4 a0_5 A0_6 c0_6 l0_6 a0_7 a0_8 A0_9 c0_9 l0_9 w hr0_3 hc0_3 hr0_4 hc0_4 hr0_6 hc0_6 hr0_9 hc0_9 hs
   ·exact Y0 a0_1 a0_2 A0_3 c0_3 l0_3 A0_4 c0_4 l0_4 a0_5 A0_6 c0_6 l0_6 a0_7 a0_8 A0_9 c0_9 l0_9 w hr0_3 hc0_3 hr0_4 hc0_4 hr0_6 hc0_6 hr0_9 hc0_9 hs
   ·exact XB a0_1 a0_2 A0_3 c0_3 l0_3 A0_4 c0_4 l0_4 a0_5 A0_6 c0_6 l0_6 a0_7 a0_8 A0_9 c0_9 l0_9 w hr0_3 hc0_3 hr0_4 hc0_4 hr0_6 hc0_6 hr0_9 hc0_9 hs
   ·exact X4 a0_1 a0_2 A0_3 c0_3 l0_3 A0_4 c0_4 l0_4 a0_5 A0_6 c0_6 l0_6 a0_7 a0_8 A0_9 c0_9 l0_9 w hr0_3 hc0_3 hr0_4 hc0_4 hr0_6 hc0_6 hr0_9 hc0_9 hs
   ·exact XA a0_1 a0_2 A0_3 c0_3 l0_3 A0_4 c0_4 l0_4 a0_5 A0_6 c0_6 l0_6 a0_7 a0_8 A0_9 c0_9 l0_9 w hr0_3 hc0_3 hr0_4 hc0_4 hr0_6 hc0_6 hr0_9 hc0_9 hs
   ·exact WG a0_1 a0_2 A0_3 c0_3 l0_3 A0_4 c0_4 l0_4 a0_5 A0_6 c0_6 l0_6 a0_7 a0_8 A0_9 c0_9 l0_9 w hr0_3 hc0_3 hr0_4 hc0_4 hr0_6 hc0_6 hr0_9 hc0_9 hs
 rw [e] at main
 exact main
end Go.Proofs.YtgfkgppomaapiaaDoor.K
end

section
namespace Go.Proofs.YtgfkgppomaapiaaDoor.K
open Go.RowKit Go.Proofs.YtgfkgppomaapiaaDoorW.PrintWords Go.Proofs.YtgfkgppomaapiaaDoorW.PrintLast Go.Proofs.YtgfkgppomaapiaaDoorW.PrintMore
attribute [local go_sem] kF kD kN kM
def stratumref07_Put.l0 : Nat → List Int → Int → Int → Option (List Int)
 | 0, _, _, _ => none
 | k + 1, x0, x1, x7 => if x7 ≥ 0 then (if 0 ≤ (IntKind.u64.wrap (8 * (IntKind.u64.wrap (x7)))) then (if x0.length < 140737488355328 then (stratumref07_Put.l0 k (x0 ++ [(shr .u64 x1 (IntKind.u64.wrap (8 * (IntKind.u64.wrap (x7))))) % 256]) x1 (wrap64 (x7 - 1))) else (none)) else (none)) else (some x0)
def stratumref07_Put.f (k : Nat) (l0 : List Int) (a1 : Int) (a2 : Int) : Option (List Int) := stratumref07_Put.l0 k l0 a1 (wrap64 (a2 - 1))
set_option maxHeartbeats 8000000 in
set_option maxRecDepth 100000 in
theorem stratumref07_Put.calls (k : Nat) (P0_ : Nat → Prop) (u9000_ : Value) (l0 : List Int) (a1 : Int) (a2 : Int) (r : List Int) (w0 w : World) (hB : Below w0.heap.size w0 w) (ho0 : Kd.R (Kd.int .u8) 5 w w0.heap.size P0_ u9000_ l0) (h : stratumref07_Put.f k l0 a1 a2 = some r) :
  Calls Tryd.prog 57 #[u9000_, .int .u64 a1, .int .i64 a2] w fun e w' => ∃ v0_ : Value, e = .returned (v0_) ∧ Kd.R (Kd.int .u8) 5 w' w0.heap.size (fun k_ => (P0_ k_ ∨ w.heap.size ≤ k_)) v0_ r ∧ Below w0.heap.size w0 w' ∧ Kept w w' (fun k_ => P0_ k_) := by
 have HO0 := iC.mk (show Kd.R (Kd.int .u8) 5 w w0.heap.size (fun k_ => (P0_ k_ ∨ w.heap.size ≤ k_)) u9000_ l0 from Kd.R_mono ho0 (fun k_ hk => (.inl hk)))
 have HK := iC.mk (Kept.refl w (fun k_ => P0_ k_))
 have HW0 := iC.mk hB.size
 have HB := iC.mk hB
 clear hB
 have H : (stratumref07_Put.l0 k l0 a1 (wrap64 (a2 - 1))) = some r := h
 clear h
 have H' := iC.mk H
 clear H
 go_enter Tryd.func57, Tryd.ntmps57
 go_wp2
 go_loopg [0, 7] k (fun kq v0 v7 w' => ∃ (x0_1 : List Int) (x7_1 : Int), v7 = .int .i64 x7_1 ∧ iC (stratumref07_Put.l0 kq x0_1 a1 x7_1 = some r) ∧ iC (kq ≤ k) ∧ iC (Kd.R (Kd.int .u8) 5 w' w0.heap.size (fun k_ => (P0_ k_ ∨ w.heap.size ≤ k_)) v0 x0_1) ∧ iC (Kept w w' (fun k_ => P0_ k_)) ∧ iC (Below w0.heap.size w0 w'))
 case atStart => exact ⟨(l0), (wrap64 (a2 - 1)), (by first | rfl | (simp; done) | (simp [*]; done)), H', ⟨Nat.le_refl _⟩, ⟨by (with_reducible repeat (first | apply Kd.R_alloc | apply Kd.R_drewN | apply Kd.R_drew)); exact HO0.out⟩, ⟨by repeat (first | (with_reducible first | exact HK.out | apply Kept.alloc | apply Kept.drewN | apply Kept.drew) | exact HK.out)⟩, ⟨hb_⟩⟩
 case round =>
  clear H'
  try clear p2
  obtain ⟨x0_1, x7_1, rfl, HA, HK1, HO_0, HK, HB⟩ := hrel
  cases gk with
  | zero => exact absurd HA.out (by simp [stratumref07_Put.l0])
  | succ k1 =>
   have H := HA.out
   clear HA
   simp only [stratumref07_Put.l0] at H
   by_cases c4 : x7_1 ≥ 0
   ·rw [if_pos c4] at H
    have c4b0 : decide (0 ≤ x7_1) = true := decide_eq_true c4
    clear c4
    obtain ⟨ji5, hji5⟩ : ∃ j_ : Int, (IntKind.u64.wrap (8 * (IntKind.u64.wrap (x7_1)))) = j_ := ⟨_, rfl⟩
    replace H : (if 0 ≤ (ji5) then (if x0_1.length < 140737488355328 then (stratumref07_Put.l0 k1 (x0_1 ++ [(shr .u64 a1 (ji5)) % 256]) a1 (wrap64 (x7_1 - 1))) else (none)) else (none)) = some r := by first | (rw [hji5] at H; exact H) | (simp only [hji5] at H ⊢; exact H)
    by_cases c6 : 0 ≤ (ji5)
    ·rw [if_pos c6] at H
     have c6b0 := eq_true c6
     have c6b1 : decide (0 ≤ (ji5)) = true := decide_eq_true c6
     clear c6
     obtain ⟨ji7, hji7⟩ : ∃ j_ : Int, (shr .u64 a1 (ji5)) = j_ := ⟨_, rfl⟩
     replace H : (if x0_1.length < 140737488355328 then (stratumref07_Put.l0 k1 (x0_1 ++ [(ji7) % 256]) a1 (wrap64 (x7_1 - 1))) else (none)) = some r := by first | (rw [hji7] at H; exact H) | (simp only [hji7] at H ⊢; exact H)
     have hji7_ : (a1 / 2 ^ min (ji5).toNat 64) = ji7 := hji7
     have hji7z : (ji5) ≤ 64 → (a1 / 2 ^ (ji5).toNat) = ji7 := MI hji7
     by_cases c8 : x0_1.length < 140737488355328
     ·rw [if_pos c8] at H
      have LMc8 := iC.mk c8
      clear c8
      obtain ⟨y146, hy146⟩ : ∃ y_ : List Int, y_ = (x0_1 ++ [(ji7) % 256]) := ⟨_, rfl⟩
      replace H : (stratumref07_Put.l0 k1 y146 a1 (wrap64 (x7_1 - 1))) = some r := by first | (rw [hy146]; with_reducible exact H) | (have H2_ := (Option.bind_some _ _).symm.trans H; rw [hy146]; with_reducible exact H2_) | (have H2_ := (Option.bind_some _ _).symm.trans H; with_reducible exact H2_) | with_reducible exact H | (rw [hy146]; exact H) | exact H
      have Ny146 := iC.mk hy146
      clear hy146
      have H' := iC.mk H
      clear H
      go_wp2_with (first | ((with_reducible refine oU (b := .append) (xs := #[.tmp 14, .tmp 21]) rfl ?_); at_builtin; refine Kd.R_append (Kd.int .u8) (w0 := w0) w0.heap.size rfl (.tmp 14) (.tmp 21) 33 5 (.int .u8 0) 1 rfl Tryd.underlying33 info5 rfl (by decide) (by omega) u0 x0_1 ((ji7) % 256) [.int .u8 ((ji7) % 256)] (fun k_ => (P0_ k_ ∨ w.heap.size ≤ k_)) (fun _ => False) rfl rfl ?aP (fun _ hk => hk.elim) ?aF ?aO ?aB ?aS ?aL ?_; (case aP => exact rfl); (case aB => exact hb_); (case aF => exact (fun k_ hk => (.inr (Nat.le_trans (by first | exact HK.out.1 | exact (show Kept w _ (fun k_ => P0_ k_) from by repeat (first | (with_reducible first | exact HK.out | apply Kept.alloc | apply Kept.drewN | apply Kept.drew) | exact HK.out)).1) hk)))); (case aO => exact (by (with_reducible repeat (first | apply Kd.R_alloc | apply Kd.R_drewN | apply Kd.R_drew)); exact HO_0.out)); (case aS => exact (iQ hb_)); (case aL => have := LMc8.out; omega); intro v147 w9 ho hb hg hat; rw [← Ny146.out] at ho; have n0_ := iC.mk (hb); have n1_ := iC.mk (Kept.of_grown (S := (fun k_ => P0_ k_)) hg (by repeat (first | (with_reducible first | exact HK.out | apply Kept.alloc | apply Kept.drewN | apply Kept.drew) | exact HK.out)) (fun k_ e_ => (HO_0.out.1 k_ e_))); have n2_ := iC.mk (ho); clear HB; clear HK; clear HO_0; have HB := n0_; have HK := n1_; have HO148 := n2_; clear n0_ n1_ n2_; clear ho hb hg hat))
      go_roundg k1
      case measure => have := HK1.out; omega
      case rel => exact ⟨(y146), (wrap64 (x7_1 - 1)), (by first | rfl | (simp; done) | (simp [*]; done)), H', ⟨by have := HK1.out; omega⟩, ⟨by (with_reducible repeat (first | apply Kd.R_alloc | apply Kd.R_drewN | apply Kd.R_drew)); exact HO148.out⟩, ⟨by repeat (first | (with_reducible first | exact HK.out | apply Kept.alloc | apply Kept.drewN | apply Kept.drew) | exact HK.out)⟩, ⟨hb_⟩⟩
     ·rw [if_neg c8] at H
      exact absurd H (by simp)
    ·rw [if_neg c6] at H
     exact absurd H (by simp)
   ·rw [if_neg c4] at H
    have c4b0 : decide (0 ≤ x7_1) = false := decide_eq_false c4
    clear c4
    obtain rfl := Option.some.inj H
    go_wp2
    go_ret
    exact ⟨_, by first | rfl | (simp [iW, iV] <;> rfl) | (simp [*, iW, iV] <;> rfl), by (with_reducible repeat (first | apply Kd.R_alloc | apply Kd.R_drewN | apply Kd.R_drew)); exact HO_0.out, hb_, by repeat (first | (with_reducible first | exact HK.out | apply Kept.alloc | apply Kept.drewN | apply Kept.drew) | exact HK.out)⟩
end Go.Proofs.YtgfkgppomaapiaaDoor.K
end

section
namespace Go.Proofs.YtgfkgppomaapiaaDoor.K
open Go.RowKit Go.Proofs.YtgfkgppomaapiaaDoorW.PrintWords Go.Proofs.YtgfkgppomaapiaaDoorW.PrintLast Go.Proofs.YtgfkgppomaapiaaDoorW.PrintMore
attribute [local go_sem] kF kD kN kM
def stratumref07_Nodes.l0 : Nat → List Int → List Int → Int → Option (List Int)
 | 0, _, _, _ => none
 | k + 1, x0, x1, x5 => if x5 < (x1.length : Int) then (if 0 ≤ x5 then ((stratumref07_Put.f k x0 (IntKind.u64.wrap (rd x1 x5)) 1).bind fun t153 => (stratumref07_Nodes.l0 k t153 x1 (wrap64 (x5 + 1)))) else (none)) else (some x0)
def stratumref07_Nodes.f (k : Nat) (l0 : List Int) (l1 : List Int) : Option (List Int) := (stratumref07_Put.f k l0 (IntKind.u64.wrap ((l1.length : Int))) 1).bind fun t149 => (stratumref07_Nodes.l0 k t149 l1 0)
end Go.Proofs.YtgfkgppomaapiaaDoor.K
end

section
namespace Go.Proofs.YtgfkgppomaapiaaDoor.K
open Go.RowKit Go.Proofs.YtgfkgppomaapiaaDoorW.PrintWords Go.Proofs.YtgfkgppomaapiaaDoorW.PrintLast Go.Proofs.YtgfkgppomaapiaaDoorW.PrintMore
attribute [local go_sem] kF kD kN kM
mutual
def stratumref07_Facts.l0 : Nat → List Int → List (S139) → Int → Option (List Int)
 | 0, _, _, _ => none
 | k + 1, x0, x1, x5 => if x5 < (x1.length : Int) then (if 0 ≤ x5 then ((stratumref07_Put.f k x0 (IntKind.u64.wrap ((((iZ x1 x5).f0).length : Int))) 1).bind fun t160 => (stratumref07_Facts.l1 k t160 x1 x5 0)) else (none)) else (some x0)
def stratumref07_Facts.l1 : Nat → List Int → List (S139) → Int → Int → Option (List Int)
 | 0, _, _, _, _ => none
 | k + 1, x0, x1, x5, x6 => if 0 ≤ x5 then (if x5 < (x1.length : Int) then (if x6 < (((iZ x1 x5).f0).length : Int) then (if 0 ≤ x6 then ((stratumref07_Put.f k x0 (IntKind.u64.wrap (rd ((iZ x1 x5).f0) x6)) 4).bind fun t166 => (stratumref07_Facts.l1 k t166 x1 x5 (wrap64 (x6 + 1)))) else (none)) else ((stratumref07_Put.f k x0 (IntKind.u64.wrap ((iZ x1 x5).f1)) 8).bind fun t170 => (stratumref07_Facts.l0 k t170 x1 (wrap64 (x5 + 1))))) else (none)) else (none)
end
def stratumref07_Facts.f (k : Nat) (l0 : List Int) (l1 : List (S139)) : Option (List Int) := (stratumref07_Put.f k l0 (IntKind.u64.wrap ((l1.length : Int))) 4).bind fun t156 => (stratumref07_Facts.l0 k t156 l1 0)
set_option maxHeartbeats 8000000 in
set_option maxRecDepth 100000 in
theorem stratumref07_Facts.calls (k : Nat) (P0_ : Nat → Prop) (u9000_ : Value) (l0 : List Int) (A1 : Option Addr) (c1 : Nat) (l1 : List (S139)) (r : List Int) (w0 w : World) (hB : Below w0.heap.size w0 w) (ho0 : Kd.R (Kd.int .u8) 5 w w0.heap.size P0_ u9000_ l0) (hr1 : ∀ W_, Kept w W_ (fun k_ => P0_ k_) → Kd.C k139 W_ A1 l1.length l1) (hc1 : l1.length ≤ c1) (h : stratumref07_Facts.f k l0 l1 = some r) :
  Calls Tryd.prog 59 #[u9000_, .slice A1 l1.length c1] w fun e w' => ∃ v0_ : Value, e = .returned (v0_) ∧ Kd.R (Kd.int .u8) 5 w' w0.heap.size (fun k_ => (P0_ k_ ∨ w.heap.size ≤ k_)) v0_ r ∧ Below w0.heap.size w0 w' ∧ Kept w w' (fun k_ => P0_ k_) := by
 have HO0 := iC.mk (show Kd.R (Kd.int .u8) 5 w w0.heap.size (fun k_ => (P0_ k_ ∨ w.heap.size ≤ k_)) u9000_ l0 from Kd.R_mono ho0 (fun k_ hk => (.inl hk)))
 have HR1 := iC.mk hr1
 have HC1 := iC.mk hc1
 clear hr1 hc1
 have HK := iC.mk (Kept.refl w (fun k_ => P0_ k_))
 have HW0 := iC.mk hB.size
 have HB := iC.mk hB
 clear hB
 have H : ((stratumref07_Put.f k l0 (IntKind.u64.wrap ((l1.length : Int))) 4).bind fun t156 => (stratumref07_Facts.l0 k t156 l1 0)) = some r := h
 clear h
 replace H := Option.bind_eq_some_iff.mp H
 obtain ⟨t156, A30, H⟩ := H
 replace H : (stratumref07_Facts.l0 k t156 l1 0) = some r := H
 have A3 := iC.mk A30
 clear A30
 have H' := iC.mk H
 clear H
 obtain ⟨Ao4, co4, eo4⟩ := Kd.R_slice HO0.out
 subst eo4
 go_enter Tryd.func59, Tryd.ntmps59
 go_wp2_with (first | ((with_reducible refine oM (f := 57) rfl ?_); refine MX (some 11) rfl rfl Tryd.func57 (by kernel_rfl) rfl #[.slice Ao4 l0.length co4, .int .u64 (IntKind.u64.wrap ((l1.length : Int))), .int .i64 4] rfl (by (try simp only [List.map_toArray, List.map_cons, List.map_nil]); first | done | rfl | (simp only [List.length_drop, List.length_take]; rfl)) ?_; (with_reducible refine (stratumref07_Put.calls k (fun k_ => some k_ = (.slice Ao4 l0.length co4 : Value).ownBlock) (.slice Ao4 l0.length co4) l0 (IntKind.u64.wrap ((l1.length : Int))) 4 t156 w0 _ ?side1 ?side2 A3.out).mono ?_); (case side1 => repeat (first | (with_reducible first | exact HB.out | apply iG | apply iF | apply iJ) | exact HB.out)); (case side2 => exact Kd.R_tight rfl HO0.out); rintro e w5 ⟨v157, rfl, ho0, hb, hkp⟩; refine ⟨_, rfl, ?_⟩; have n0_ := iC.mk (Kd.R_mono (ok' := fun k_ => (P0_ k_ ∨ w.heap.size ≤ k_)) ho0 (fun k_ hk_ => Or.elim hk_ (fun hs_ => (HO0.out.1 k_ (hs_).symm)) (fun hn_ => (.inr (Nat.le_trans (by first | exact HK.out.1 | exact (show Kept w _ (fun k_ => P0_ k_) from by repeat (first | (with_reducible first | exact HK.out | apply Kept.alloc | apply Kept.drewN | apply Kept.drew) | exact HK.out)).1) hn_))))); have n1_ := iC.mk (Kept.then_ (S := (fun k_ => P0_ k_)) (by repeat (first | (with_reducible first | exact HK.out | apply Kept.alloc | apply Kept.drewN | apply Kept.drew) | exact HK.out)) hkp (fun k_ hs_ => (fun e_ => (HO0.out.1 k_ e_.symm)) hs_)); have n2_ := iC.mk (hb); clear HK; clear HB; clear HO0; have HO158 := n0_; have HK := n1_; have HB := n2_; clear n0_ n1_ n2_; (try clear hb); (try clear hkp); (try clear ho0)))
 go_loopg [0, 5] k (fun kq v0 v5 w' => ∃ (x0_1 : List Int) (x5_1 : Int), v5 = .int .i64 x5_1 ∧ iC (stratumref07_Facts.l0 kq x0_1 l1 x5_1 = some r) ∧ iC (kq ≤ k) ∧ iC (Kd.R (Kd.int .u8) 5 w' w0.heap.size (fun k_ => (P0_ k_ ∨ w.heap.size ≤ k_)) v0 x0_1) ∧ iC (Kept w w' (fun k_ => P0_ k_)) ∧ iC (Below w0.heap.size w0 w'))
 case atStart => exact ⟨(t156), (0), (by first | rfl | (simp; done) | (simp [*]; done)), H', ⟨Nat.le_refl _⟩, ⟨by (with_reducible repeat (first | apply Kd.R_alloc | apply Kd.R_drewN | apply Kd.R_drew)); exact HO158.out⟩, ⟨by repeat (first | (with_reducible first | exact HK.out | apply Kept.alloc | apply Kept.drewN | apply Kept.drew) | exact HK.out)⟩, ⟨hb_⟩⟩
 case round =>
  clear H'
  try clear c1
  try clear p2
  try clear c5
  obtain ⟨x0_1, x5_1, rfl, HA, HK1, HO_0, HK, HB⟩ := hrel
  cases gk with
  | zero => exact absurd HA.out (by simp [stratumref07_Facts.l0])
  | succ k1 =>
   have H := HA.out
   clear HA
   simp only [stratumref07_Facts.l0] at H
   by_cases c6 : x5_1 < (l1.length : Int)
   ·rw [if_pos c6] at H
    have c6b0 : decide (x5_1 < (l1.length : Int)) = true := decide_eq_true c6
    clear c6
    by_cases c7 : 0 ≤ x5_1
    ·rw [if_pos c7] at H
     have c7b0 : decide (0 ≤ x5_1) = true := decide_eq_true c7
     clear c7
     replace H := Option.bind_eq_some_iff.mp H
     obtain ⟨t160, A80, H⟩ := H
     replace H : (stratumref07_Facts.l1 k1 t160 l1 x5_1 0) = some r := H
     have A8 := iC.mk A80
     clear A80
     have H' := iC.mk H
     clear H
     have p159 : 0 ≤ (x5_1 : Int) := of_decide_eq_true asm_
     have q159 : x5_1 < (l1.length : Int) := of_decide_eq_true asm_
     obtain ⟨ad159, A159_0, c159_0, e159, hx159_0, hx159_1, hl159_0, hi159_0⟩ := mQ (Kd.C_kept_now HR1.out HK.out) x5_1 p159 q159
     cases e159
     have HR159_0 := iC.mk hi159_0
     have HC159_0 := iC.mk hl159_0
     clear hi159_0 hl159_0
     replace p159 := eq_true p159
     replace q159 := eq_true q159
     obtain ⟨Ao9, co9, eo9⟩ := Kd.R_slice HO_0.out
     subst eo9
     go_wp2_with (first | ((with_reducible refine oM (f := 57) rfl ?_); refine MX (some 26) rfl rfl Tryd.func57 (by kernel_rfl) rfl #[.slice Ao9 x0_1.length co9, .int .u64 (IntKind.u64.wrap ((((iZ l1 x5_1).f0).length : Int))), .int .i64 1] rfl (by (try simp only [List.map_toArray, List.map_cons, List.map_nil]); first | done | rfl | (simp only [List.length_drop, List.length_take]; rfl)) ?_; (with_reducible refine (stratumref07_Put.calls k1 (fun k_ => some k_ = (.slice Ao9 x0_1.length co9 : Value).ownBlock) (.slice Ao9 x0_1.length co9) x0_1 (IntKind.u64.wrap ((((iZ l1 x5_1).f0).length : Int))) 1 t160 w0 _ ?side1 ?side2 A8.out).mono ?_); (case side1 => repeat (first | (with_reducible first | exact HB.out | apply iG | apply iF | apply iJ) | exact HB.out)); (case side2 => exact Kd.R_tight rfl HO_0.out); rintro e w10 ⟨v161, rfl, ho0, hb, hkp⟩; refine ⟨_, rfl, ?_⟩; have n0_ := iC.mk (Kd.R_mono (ok' := fun k_ => (P0_ k_ ∨ w.heap.size ≤ k_)) ho0 (fun k_ hk_ => Or.elim hk_ (fun hs_ => (HO_0.out.1 k_ (hs_).symm)) (fun hn_ => (.inr (Nat.le_trans (by first | exact HK.out.1 | exact (show Kept w _ (fun k_ => P0_ k_) from by repeat (first | (with_reducible first | exact HK.out | apply Kept.alloc | apply Kept.drewN | apply Kept.drew) | exact HK.out)).1) hn_))))); have n1_ := iC.mk (Kept.then_ (S := (fun k_ => P0_ k_)) (by repeat (first | (with_reducible first | exact HK.out | apply Kept.alloc | apply Kept.drewN | apply Kept.drew) | exact HK.out)) hkp (fun k_ hs_ => (fun e_ => (HO_0.out.1 k_ e_.symm)) hs_)); have n2_ := iC.mk (hb); clear HK; clear HB; clear HO_0; have HO162 := n0_; have HK := n1_; have HB := n2_; clear n0_ n1_ n2_; (try clear hb); (try clear hkp); (try clear ho0)))
     go_loopg [0, 6] k1 (fun kq v0 v6 w' => ∃ (x0_2 : List Int) (x6_2 : Int), v6 = .int .i64 x6_2 ∧ iC (stratumref07_Facts.l1 kq x0_2 l1 x5_1 x6_2 = some r) ∧ iC (kq ≤ k1) ∧ iC (Kd.R (Kd.int .u8) 5 w' w0.heap.size (fun k_ => (P0_ k_ ∨ w.heap.size ≤ k_)) v0 x0_2) ∧ iC (Kept w w' (fun k_ => P0_ k_)) ∧ iC (Below w0.heap.size w0 w'))
     case atStart => exact ⟨(t160), (0), (by first | rfl | (simp; done) | (simp [*]; done)), H', ⟨Nat.le_refl _⟩, ⟨by (with_reducible repeat (first | apply Kd.R_alloc | apply Kd.R_drewN | apply Kd.R_drew)); exact HO162.out⟩, ⟨by repeat (first | (with_reducible first | exact HK.out | apply Kept.alloc | apply Kept.drewN | apply Kept.drew) | exact HK.out)⟩, ⟨hb_⟩⟩
     case round =>
      clear H'
      try clear c1
      try clear p1
      try clear q1
      try clear hx1
      try clear p2
      try clear c5
      try clear c6
      try clear c6b0
      try clear c7
      try clear c7b0
      try clear hx159_0
      try clear hx159_1
      try clear p159
      try clear p2
      try clear q159
      obtain ⟨x0_2, x6_2, rfl, HA, HK2, HO_0, HK, HB⟩ := hrel
      cases gk with
      | zero => exact absurd HA.out (by simp [stratumref07_Facts.l1])
      | succ k2 =>
       have H := HA.out
       clear HA
       simp only [stratumref07_Facts.l1] at H
       by_cases c11 : 0 ≤ x5_1
       ·rw [if_pos c11] at H
        have c11b0 : decide (0 ≤ x5_1) = true := decide_eq_true c11
        clear c11
        by_cases c12 : x5_1 < (l1.length : Int)
        ·rw [if_pos c12] at H
         have c12b0 : decide (x5_1 < (l1.length : Int)) = true := decide_eq_true c12
         clear c12
         by_cases c13 : x6_2 < (((iZ l1 x5_1).f0).length : Int)
         ·rw [if_pos c13] at H
          have c13b0 : decide (x6_2 < (((iZ l1 x5_1).f0).length : Int)) = true := decide_eq_true c13
          clear c13
          by_cases c14 : 0 ≤ x6_2
          ·rw [if_pos c14] at H
           have c14b0 : decide (0 ≤ x6_2) = true := decide_eq_true c14
           clear c14
           replace H := Option.bind_eq_some_iff.mp H
           obtain ⟨t166, A150, H⟩ := H
           replace H : (stratumref07_Facts.l1 k2 t166 l1 x5_1 (wrap64 (x6_2 + 1))) = some r := H
           have A15 := iC.mk A150
           clear A150
           have H' := iC.mk H
           clear H
           have p163 : 0 ≤ (x5_1 : Int) := of_decide_eq_true asm_
           have q163 : x5_1 < (l1.length : Int) := of_decide_eq_true asm_
           obtain ⟨ad163, A163_0, c163_0, e163, hx163_0, hx163_1, hl163_0, hi163_0⟩ := mQ (Kd.C_kept_now HR1.out HK.out) x5_1 p163 q163
           obtain rfl : ad159 = ad163 := (by injection e163)
           have HR163_0 := iC.mk hi163_0
           have HC163_0 := iC.mk hl163_0
           clear hi163_0 hl163_0
           replace p163 := eq_true p163
           replace q163 := eq_true q163
           have p164 : 0 ≤ (x5_1 : Int) := of_decide_eq_true asm_
           have q164 : x5_1 < (l1.length : Int) := of_decide_eq_true asm_
           obtain ⟨ad164, A164_0, c164_0, e164, hx164_0, hx164_1, hl164_0, hi164_0⟩ := mQ (Kd.C_kept_now HR1.out HK.out) x5_1 p164 q164
           obtain rfl : ad159 = ad164 := (by injection e164)
           have HR164_0 := iC.mk hi164_0
           have HC164_0 := iC.mk hl164_0
           clear hi164_0 hl164_0
           replace p164 := eq_true p164
           replace q164 := eq_true q164
           have ea_ := Option.some.inj (hx163_0.symm.trans hx164_0)
           injection ea_ with ea_ en_ ec_
           subst ea_
           subst ec_
           clear en_
           have p165 : 0 ≤ (x6_2 : Int) := of_decide_eq_true asm_
           have q165 : x6_2 < (((iZ l1 x5_1).f0).length : Int) := of_decide_eq_true asm_
           obtain ⟨ad165, e165, hx165_0⟩ := Kd.at_int (by repeat (first | (with_reducible exact HR164_0.out) | (with_reducible refine Kd.C_alloc ?_ _) | (with_reducible refine Kd.C_drewN ?_ _) | (with_reducible refine Kd.C_drew ?_) | exact HR164_0.out)) x6_2 p165 q165
           cases e165
           replace p165 := eq_true p165
           replace q165 := eq_true q165
           obtain ⟨Ao16, co16, eo16⟩ := Kd.R_slice HO_0.out
           subst eo16
           go_wp2_with (first | ((with_reducible refine oM (f := 57) rfl ?_); refine MX (some 47) rfl rfl Tryd.func57 (by kernel_rfl) rfl #[.slice Ao16 x0_2.length co16, .int .u64 (IntKind.u64.wrap (rd ((iZ l1 x5_1).f0) x6_2)), .int .i64 4] rfl (by (try simp only [List.map_toArray, List.map_cons, List.map_nil]); first | done | rfl | (simp only [List.length_drop, List.length_take]; rfl)) ?_; (with_reducible refine (stratumref07_Put.calls k2 (fun k_ => some k_ = (.slice Ao16 x0_2.length co16 : Value).ownBlock) (.slice Ao16 x0_2.length co16) x0_2 (IntKind.u64.wrap (rd ((iZ l1 x5_1).f0) x6_2)) 4 t166 w0 _ ?side1 ?side2 A15.out).mono ?_); (case side1 => repeat (first | (with_reducible first | exact HB.out | apply iG | apply iF | apply iJ) | exact HB.out)); (case side2 => exact Kd.R_tight rfl HO_0.out); rintro e w17 ⟨v167, rfl, ho0, hb, hkp⟩; refine ⟨_, rfl, ?_⟩; have n0_ := iC.mk (Kd.R_mono (ok' := fun k_ => (P0_ k_ ∨ w.heap.size ≤ k_)) ho0 (fun k_ hk_ => Or.elim hk_ (fun hs_ => (HO_0.out.1 k_ (hs_).symm)) (fun hn_ => (.inr (Nat.le_trans (by first | exact HK.out.1 | exact (show Kept w _ (fun k_ => P0_ k_) from by repeat (first | (with_reducible first | exact HK.out | apply Kept.alloc | apply Kept.drewN | apply Kept.drew) | exact HK.out)).1) hn_))))); have n1_ := iC.mk (Kept.then_ (S := (fun k_ => P0_ k_)) (by repeat (first | (with_reducible first | exact HK.out | apply Kept.alloc | apply Kept.drewN | apply Kept.drew) | exact HK.out)) hkp (fun k_ hs_ => (fun e_ => (HO_0.out.1 k_ e_.symm)) hs_)); have n2_ := iC.mk (hb); clear HK; clear HB; clear HO_0; have HO168 := n0_; have HK := n1_; have HB := n2_; clear n0_ n1_ n2_; (try clear hb); (try clear hkp); (try clear ho0)))
           go_roundg k2
           case measure => have := HK1.out; have := HK2.out; omega
           case rel => exact ⟨(t166), (wrap64 (x6_2 + 1)), (by first | rfl | (simp; done) | (simp [*]; done)), H', ⟨by have := HK1.out; have := HK2.out; omega⟩, ⟨by (with_reducible repeat (first | apply Kd.R_alloc | apply Kd.R_drewN | apply Kd.R_drew)); exact HO168.out⟩, ⟨by repeat (first | (with_reducible first | exact HK.out | apply Kept.alloc | apply Kept.drewN | apply Kept.drew) | exact HK.out)⟩, ⟨hb_⟩⟩
          ·rw [if_neg c14] at H
           exact absurd H (by simp)
         ·rw [if_neg c13] at H
          have c13b0 : decide (x6_2 < (((iZ l1 x5_1).f0).length : Int)) = false := decide_eq_false c13
          clear c13
          replace H := Option.bind_eq_some_iff.mp H
          obtain ⟨t170, A180, H⟩ := H
          replace H : (stratumref07_Facts.l0 k2 t170 l1 (wrap64 (x5_1 + 1))) = some r := H
          have A18 := iC.mk A180
          clear A180
          have H' := iC.mk H
          clear H
          have p163 : 0 ≤ (x5_1 : Int) := of_decide_eq_true asm_
          have q163 : x5_1 < (l1.length : Int) := of_decide_eq_true asm_
          obtain ⟨ad163, A163_0, c163_0, e163, hx163_0, hx163_1, hl163_0, hi163_0⟩ := mQ (Kd.C_kept_now HR1.out HK.out) x5_1 p163 q163
          obtain rfl : ad159 = ad163 := (by injection e163)
          have HR163_0 := iC.mk hi163_0
          have HC163_0 := iC.mk hl163_0
          clear hi163_0 hl163_0
          replace p163 := eq_true p163
          replace q163 := eq_true q163
          have p169 : 0 ≤ (x5_1 : Int) := of_decide_eq_true asm_
          have q169 : x5_1 < (l1.length : Int) := of_decide_eq_true asm_
          obtain ⟨ad169, A169_0, c169_0, e169, hx169_0, hx169_1, hl169_0, hi169_0⟩ := mQ (Kd.C_kept_now HR1.out HK.out) x5_1 p169 q169
          obtain rfl : ad159 = ad169 := (by injection e169)
          have HR169_0 := iC.mk hi169_0
          have HC169_0 := iC.mk hl169_0
          clear hi169_0 hl169_0
          replace p169 := eq_true p169
          replace q169 := eq_true q169
          have ea_ := Option.some.inj (hx163_0.symm.trans hx169_0)
          injection ea_ with ea_ en_ ec_
          subst ea_
          subst ec_
          clear en_
          obtain ⟨Ao19, co19, eo19⟩ := Kd.R_slice HO_0.out
          subst eo19
          go_wp2_with (first | ((with_reducible refine oM (f := 57) rfl ?_); refine MX (some 55) rfl rfl Tryd.func57 (by kernel_rfl) rfl #[.slice Ao19 x0_2.length co19, .int .u64 (IntKind.u64.wrap ((iZ l1 x5_1).f1)), .int .i64 8] rfl (by (try simp only [List.map_toArray, List.map_cons, List.map_nil]); first | done | rfl | (simp only [List.length_drop, List.length_take]; rfl)) ?_; (with_reducible refine (stratumref07_Put.calls k2 (fun k_ => some k_ = (.slice Ao19 x0_2.length co19 : Value).ownBlock) (.slice Ao19 x0_2.length co19) x0_2 (IntKind.u64.wrap ((iZ l1 x5_1).f1)) 8 t170 w0 _ ?side1 ?side2 A18.out).mono ?_); (case side1 => repeat (first | (with_reducible first | exact HB.out | apply iG | apply iF | apply iJ) | exact HB.out)); (case side2 => exact Kd.R_tight rfl HO_0.out); rintro e w20 ⟨v171, rfl, ho0, hb, hkp⟩; refine ⟨_, rfl, ?_⟩; have n0_ := iC.mk (Kd.R_mono (ok' := fun k_ => (P0_ k_ ∨ w.heap.size ≤ k_)) ho0 (fun k_ hk_ => Or.elim hk_ (fun hs_ => (HO_0.out.1 k_ (hs_).symm)) (fun hn_ => (.inr (Nat.le_trans (by first | exact HK.out.1 | exact (show Kept w _ (fun k_ => P0_ k_) from by repeat (first | (with_reducible first | exact HK.out | apply Kept.alloc | apply Kept.drewN | apply Kept.drew) | exact HK.out)).1) hn_))))); have n1_ := iC.mk (Kept.then_ (S := (fun k_ => P0_ k_)) (by repeat (first | (with_reducible first | exact HK.out | apply Kept.alloc | apply Kept.drewN | apply Kept.drew) | exact HK.out)) hkp (fun k_ hs_ => (fun e_ => (HO_0.out.1 k_ e_.symm)) hs_)); have n2_ := iC.mk (hb); clear HK; clear HB; clear HO_0; have HO172 := n0_; have HK := n1_; have HB := n2_; clear n0_ n1_ n2_; (try clear hb); (try clear hkp); (try clear ho0)))
          go_roundg k2
          case measure => have := HK1.out; have := HK2.out; omega
          case rel => exact ⟨(t170), (wrap64 (x5_1 + 1)), (by first | rfl | (simp; done) | (simp [*]; done)), H', ⟨by have := HK1.out; have := HK2.out; omega⟩, ⟨by (with_reducible repeat (first | apply Kd.R_alloc | apply Kd.R_drewN | apply Kd.R_drew)); exact HO172.out⟩, ⟨by repeat (first | (with_reducible first | exact HK.out | apply Kept.alloc | apply Kept.drewN | apply Kept.drew) | exact HK.out)⟩, ⟨hb_⟩⟩
        ·rw [if_neg c12] at H
         exact absurd H (by simp)
       ·rw [if_neg c11] at H
        exact absurd H (by simp)
    ·rw [if_neg c7] at H
     exact absurd H (by simp)
   ·rw [if_neg c6] at H
    have c6b0 : decide (x5_1 < (l1.length : Int)) = false := decide_eq_false c6
    clear c6
    obtain rfl := Option.some.inj H
    go_wp2
    go_ret
    exact ⟨_, by first | rfl | (simp [iW, iV] <;> rfl) | (simp [*, iW, iV] <;> rfl), by (with_reducible repeat (first | apply Kd.R_alloc | apply Kd.R_drewN | apply Kd.R_drew)); exact HO_0.out, hb_, by repeat (first | (with_reducible first | exact HK.out | apply Kept.alloc | apply Kept.drewN | apply Kept.drew) | exact HK.out)⟩
end Go.Proofs.YtgfkgppomaapiaaDoor.K
end

section
namespace Go.Proofs.YtgfkgppomaapiaaDoor.K
open RowKit YtgfkgppomaapiaaDoorW.PrintWords YtgfkgppomaapiaaDoorW.PrintLast YtgfkgppomaapiaaDoorW.PrintMore My
theorem wrap_u64 (x : Int) : IntKind.u64.wrap x = x % 18446744073709551616 := by rfl
theorem XV (x : Int) (m : Nat) (hm : m < 8) : (shr .u64 (IntKind.u64.wrap x) (8 * (m : Int))) % 256 = (x / 256 ^ m) % 256 := by
 rw [wrap_u64]
 have h : m = 0 ∨ m = 1 ∨ m = 2 ∨ m = 3 ∨ m = 4 ∨ m = 5 ∨ m = 6 ∨ m = 7 := by omega
 unfold shr
 rw [show IntKind.u64.bits = 64 from rfl]
 rcases h with rfl | rfl | rfl | rfl | rfl | rfl | rfl | rfl <;> simp <;> omega
theorem nums_append (l m : List UInt8) : nums (l ++ m) = nums l ++ nums m := List.map_append ..
theorem U0 (b : UInt8) (l : List UInt8) : nums (b :: l) = (b.toNat : Int) :: nums l := rfl
theorem jf0 (v : Int) : ((UInt8.ofNat (v % 256).toNat).toNat : Int) = v % 256 := by
 rw [UInt8.toNat_ofNat']
 omega
theorem UN (x : Int) : ∀ (n : Nat) (l : List Int), n ≤ 8 → l.length + n ≤ 140737488355328 → Ev (fun k => stratumref07_Put.l0 k l (IntKind.u64.wrap x) ((n : Int) - 1)) (l ++ nums (layB x n))
 | 0, l, _, _ => by
  refine Ev.step (f := fun _ => some l) (fun k => by simp only [stratumref07_Put.l0]; rw [if_neg (by omega)]) ?_
  simp only [layB, nums, List.map_nil, List.append_nil]
  exact Ev.now _
 | n + 1, l, hn, hl => by
  have e1 : ((n + 1 : Nat) : Int) - 1 = n := by omega
  have e2 : IntKind.u64.wrap ((n : Nat) : Int) = n := by rw [wrap_u64]; omega
  have e3 : IntKind.u64.wrap (8 * (n : Int)) = 8 * n := by rw [wrap_u64]; omega
  have e4 : wrap64 ((n : Int) - 1) = n - 1 := by unfold wrap64; omega
  rw [e1, layB, U0, jf0]
  refine Ev.step (f := fun k => stratumref07_Put.l0 k (l ++ [x / 256 ^ n % 256]) (IntKind.u64.wrap x) ((n : Int) - 1)) (fun k => by simp only [stratumref07_Put.l0]; rw [if_pos (by omega), e2, e3, if_pos (by omega), if_pos (by omega), XV x n (by omega), e4]) ?_
  have := UN x n (l ++ [x / 256 ^ n % 256]) (by omega) (by rw [List.length_append]; simp only [List.length_cons, List.length_nil]; omega)
  rw [List.append_assoc] at this
  exact this
theorem JY (x : Int) (n : Nat) (l : List Int) (hn : n ≤ 8) (hl : l.length + n ≤ 140737488355328) : Ev (fun k => stratumref07_Put.f k l (IntKind.u64.wrap x) (n : Int)) (l ++ nums (layB x n)) := by
 unfold stratumref07_Put.f
 rw [show wrap64 ((n : Int) - 1) = n - 1 from by unfold wrap64; omega]
 exact UN x n l hn hl
theorem XX (l1 : List jP) (i : Int) (h0 : 0 ≤ i) (hlt : i < l1.length) (hn : l1.length ≤ 9223372036854775807) (hk : (iZ l1 i).f0.length ≤ 9223372036854775807) (R : List Int)
  (m : Nat) (hR : ∀ l : List Int, l.length + m ≤ 140737488355328 → Ev (fun k => stratumref07_Facts.l0 k l l1 (i + 1)) (l ++ R)) (d : Nat) : ∀ (j : Int) (l : List Int), 0 ≤ j → j ≤ (iZ l1 i).f0.length → ((iZ l1 i).f0.length : Int) - j = d → l.length + 4 * d + 8 + m ≤ 140737488355328 →
  Ev (fun k => stratumref07_Facts.l1 k l l1 i j) (l ++ nums (((iZ l1 i).f0.drop j.toNat).flatMap (layB · 4)) ++ nums (layB (iZ l1 i).f1 8) ++ R) := by
 induction d with
 | zero =>
  intro j l g0 g1 hd hl
  rw [drop_end _ j (by omega)]
  refine Ev.step (f := fun k => (stratumref07_Put.f k l (IntKind.u64.wrap (iZ l1 i).f1) 8).bind fun t => stratumref07_Facts.l0 k t l1 (i + 1)) (fun k => by simp only [stratumref07_Facts.l1]; rw [if_pos h0, if_pos hlt, if_neg (by omega), qQ h0 hlt hn]) ?_
  simp only [List.flatMap_nil, nums, List.map_nil, List.append_nil]
  exact Ev.bind (JY _ 8 l (by omega) (by omega)) (hR _ (by rw [List.length_append, mJ, iT]; omega))
 | succ d ih =>
  intro j l g0 g1 hd hl
  have hj : j < ((iZ l1 i).f0.length : Int) := by omega
  rw [VH 0 _ j (by omega) g0, List.flatMap_cons, nums_append, ← List.append_assoc l]
  refine Ev.step (f := fun k => (stratumref07_Put.f k l (IntKind.u64.wrap (rd (iZ l1 i).f0 j)) 4).bind fun t => stratumref07_Facts.l1 k t l1 i (j + 1)) (fun k => by simp only [stratumref07_Facts.l1]; rw [if_pos h0, if_pos hlt, if_pos hj, if_pos g0, qQ g0 hj hk]) ?_
  exact Ev.bind (JY _ 4 l (by omega) (by omega)) (ih (j + 1) _ (by omega) (by omega) (by omega) (by rw [List.length_append, mJ, iT]; omega))
theorem RZ (l1 : List jP) (hn : l1.length ≤ 9223372036854775807) (hk : ∀ f ∈ l1, f.f0.length ≤ 9223372036854775807) (d : Nat) : ∀ (i : Int) (l : List Int), 0 ≤ i → i ≤ l1.length → (l1.length : Int) - i = d → l.length + ((l1.drop i.toNat).flatMap nG).length ≤ 140737488355328 →
  Ev (fun k => stratumref07_Facts.l0 k l l1 i) (l ++ nums ((l1.drop i.toNat).flatMap nG)) := by
 induction d with
 | zero =>
  intro i l h0 h1 hd hl
  rw [drop_end _ i (by omega)]
  refine Ev.step (f := fun _ => some l) (fun k => by simp only [stratumref07_Facts.l0]; rw [if_neg (by omega)]) ?_
  simp only [List.flatMap_nil, nums, List.map_nil, List.append_nil]
  exact Ev.now _
 | succ d ih =>
  intro i l h0 h1 hd hl
  have hlt : i < (l1.length : Int) := by omega
  have hm : iZ l1 i ∈ l1 := by
   unfold iZ
   rw [List.getD_eq_getElem?_getD, List.getElem?_eq_getElem (show i.toNat < l1.length by omega)]
   exact List.getElem_mem _
  rw [VH z139 l1 i (by omega) h0, List.flatMap_cons, show l1.getD i.toNat z139 = iZ l1 i from rfl] at hl ⊢
  rw [List.length_append, vH] at hl
  rw [nums_append]
  refine Ev.step (f := fun k => (stratumref07_Put.f k l (IntKind.u64.wrap ((iZ l1 i).f0.length : Int)) 1).bind fun t => stratumref07_Facts.l1 k t l1 i 0) (fun k => by simp only [stratumref07_Facts.l0]; rw [if_pos hlt, if_pos h0]) ?_
  have hr := XX l1 i h0 hlt hn (hk _ hm) (nums ((l1.drop (i + 1).toNat).flatMap nG)) ((l1.drop (i + 1).toNat).flatMap nG).length (fun t ht => ih (i + 1) t (by omega) (by omega) (by omega) ht) (iZ l1 i).f0.length 0 (l ++ nums (layB ((iZ l1 i).f0.length : Int) 1)) (by omega) (by omega) (by omega) (by rw [List.length_append, mJ, iT]; omega)
  have e : l ++ (nums (nG (iZ l1 i)) ++ nums ((l1.drop (i + 1).toNat).flatMap nG)) = l ++ nums (layB ((iZ l1 i).f0.length : Int) 1) ++ nums (((iZ l1 i).f0.drop (0 : Int).toNat).flatMap (layB · 4)) ++ nums (layB (iZ l1 i).f1 8) ++ nums ((l1.drop (i + 1).toNat).flatMap nG) := by
   unfold nG
   rw [nums_append, nums_append]
   simp only [List.append_assoc]
   rfl
  rw [e]
  exact Ev.bind (JY _ 1 l (by omega) (by omega)) hr
theorem UA (l1 : List jP) : (kK l1).length = 4 + (l1.flatMap nG).length := by unfold kK; rw [List.length_append, iT]
theorem ja3 (l1 : List jP) : 9 * l1.length ≤ (l1.flatMap nG).length ∧ ∀ f ∈ l1, 4 * f.f0.length ≤ (l1.flatMap nG).length := by
 induction l1 with
 | nil => exact ⟨by simp, fun f h => by cases h⟩
 | cons x l ih =>
  rw [List.flatMap_cons, List.length_append, vH, List.length_cons]
  refine ⟨by omega, fun f hf => ?_⟩
  rcases List.mem_cons.1 hf with rfl | hf
  ·omega
  ·have := ih.2 f hf; omega
theorem zB (l1 : List jP) (l : List Int) (hl : l.length + (kK l1).length ≤ 140737488355328) : Ev (fun k => stratumref07_Facts.f k l l1) (l ++ nums (kK l1)) := by
 rw [UA] at hl
 have hg := ja3 l1
 unfold kK
 rw [nums_append, ← List.append_assoc]
 exact Ev.bind (JY (l1.length : Int) 4 l (by omega) (by omega)) (RZ l1 (by omega) (fun f hf => by have := hg.2 f hf; omega) l1.length 0 _ (by omega) (by omega) (by omega) (by rw [List.length_append, mJ, iT]; show _ + (l1.flatMap nG).length ≤ _; omega))
end Go.Proofs.YtgfkgppomaapiaaDoor.K
end

section
namespace Go.Proofs.YtgfkgppomaapiaaDoor.K
open RowKit YtgfkgppomaapiaaDoorW.PrintWords YtgfkgppomaapiaaDoorW.PrintLast YtgfkgppomaapiaaDoorW.PrintMore My
def NT (P0 : Nat → Prop) (r : List Int) (w0 w : World) (e : Ending) (w' : World) : Prop :=
 ∃ v' : Value, e = .returned v' ∧ Kd.R (Kd.int .u8) 5 w' w0.heap.size (fun k => P0 k ∨ w.heap.size ≤ k) v' r ∧ Below w0.heap.size w0 w' ∧ Kept w w' P0
theorem PX (P0 : Nat → Prop) (v : Value) (l : List Int) (x X : Int) (n : Nat) (nI : Int) (w0 w : World) (hX : X = IntKind.u64.wrap x) (hI : nI = n) (hn : n ≤ 8) (hl : l.length + n ≤ 140737488355328) (hB : Below w0.heap.size w0 w) (ho : Kd.R (Kd.int .u8) 5 w w0.heap.size P0 v l) :
  Calls Tryd.prog 57 #[v, .int .u64 X, .int .i64 nI] w (NT P0 (l ++ nums (layB x n)) w0 w) := by
 subst hI; subst hX
 obtain ⟨k, hk⟩ := (JY x n l hn hl).rounds
 exact stratumref07_Put.calls k P0 v l _ _ _ w0 w hB ho hk
theorem RJ (P0 : Nat → Prop) (v : Value) (l : List Int) (A1 : Option Addr) (c1 : Nat) (l1 : List jP) (w0 w : World) (hl : l.length + (kK l1).length ≤ 140737488355328) (hB : Below w0.heap.size w0 w) (ho : Kd.R (Kd.int .u8) 5 w w0.heap.size P0 v l) (hr1 : ∀ W_, Kept w W_ (fun k_ => P0 k_) → Kd.C k139 W_ A1 l1.length l1) (hc1 : l1.length ≤ c1) :
  Calls Tryd.prog 59 #[v, .slice A1 l1.length c1] w (NT P0 (l ++ nums (kK l1)) w0 w) := by
 obtain ⟨k, hk⟩ := (zB l1 l hl).rounds
 exact stratumref07_Facts.calls k P0 v l A1 c1 l1 _ w0 w hB ho hr1 hc1 hk
theorem IY (l : List jI) (k : Nat) (h : k < l.length) : (l.take (k + 1)).flatMap lJ = (l.take k).flatMap lJ ++ (layB (iU l k).f0 4 ++ kK (iU l k).f1) := by
 rw [lH z86 l k h, List.flatMap_append]
 congr 1
 simp only [List.flatMap_cons, List.flatMap_nil, List.append_nil]
 rfl
theorem VO (l : List jI) (k : Nat) (h : k < l.length) : ((l.take k).flatMap lJ).length + 4 + (kK (iU l k).f1).length ≤ (l.flatMap lJ).length := by
 have e : l = l.take (k + 1) ++ l.drop (k + 1) := (List.take_append_drop _ _).symm
 conv => rhs; rw [e]
 rw [List.flatMap_append, IY l k h]
 simp only [List.length_append, iT]
 omega
theorem xP (l : List jI) : (jV l).length = 4 + (l.flatMap lJ).length := by unfold jV; rw [List.length_append, iT]
theorem ND (l : List jI) : l.length ≤ (jV l).length := by
 rw [xP]
 induction l with
 | nil => simp
 | cons e l ih =>
  rw [List.flatMap_cons, List.length_append, List.length_cons]
  have : 4 ≤ (lJ e).length := by unfold lJ; rw [List.length_append, iT]; omega
  omega
set_option maxRecDepth 20000 in
set_option maxHeartbeats 4000000 in
theorem MQ (P0 : Nat → Prop) (v : Value) (l0 : List Int) (A1 : Option Addr) (c1 : Nat) (l1 : List jI) (w0 w : World) (hl : l0.length + (jV l1).length ≤ 140737488355328) (hB : Below w0.heap.size w0 w) (ho : Kd.R (Kd.int .u8) 5 w w0.heap.size P0 v l0) (hP : ∀ k, P0 k → w0.heap.size ≤ k) (hr1 : Kd.C k86 w0 A1 l1.length l1) (hc1 : l1.length ≤ c1) :
  Calls Tryd.prog 60 #[v, .slice A1 l1.length c1] w (NT P0 (l0 ++ nums (jV l1)) w0 w) := by
 have HO := iC.mk (show Kd.R (Kd.int .u8) 5 w w0.heap.size (fun k => P0 k ∨ w.heap.size ≤ k) v l0 from Kd.R_mono ho (fun _ h => .inl h))
 have HR := iC.mk hr1
 have HP := iC.mk (show ∀ k, (P0 k ∨ w.heap.size ≤ k) → w0.heap.size ≤ k from fun k h => h.elim (hP k) (Nat.le_trans hB.size))
 have HB := iC.mk hB
 have HL := iC.mk hl
 have HK := iC.mk (Kept.refl w P0)
 have hge := ND l1
 have hmax : l1.length ≤ 140737488355328 := by omega
 rw [xP] at hl
 clear hr1 hB ho hge hP
 obtain ⟨Ao, co, rfl⟩ := Kd.R_slice HO.out
 go_enter Tryd.func60, Tryd.ntmps60
 go_wp2_with fail
 refine (PX _ _ l0 (l1.length : Int) _ 4 4 w0 _ (by rw [wrap_u64]; omega) rfl (by omega) (by omega) HB.out HO.out).mono ?_
 rintro e w1 ⟨v1, rfl, ho1, hb1, hk1⟩
 have HO1 := iC.mk (Kd.R_mono (ok' := fun k => P0 k ∨ w.heap.size ≤ k) ho1 (fun k h => h.elim id .inr))
 have HB1 := iC.mk hb1
 have HK1 := iC.mk (HK.out.then_ hk1 (fun _ h => h))
 clear ho1 hb1 hk1
 go_wp2_with fail
 go_loopg [0, 5] l1.length (fun gg s0 s5 wr => ∃ k : Nat, k ≤ l1.length ∧ l1.length - k ≤ gg ∧ s5 = .int .i64 k ∧ iC (Kd.R (Kd.int .u8) 5 wr w0.heap.size (fun k => P0 k ∨ w.heap.size ≤ k) s0 (l0 ++ nums (layB (l1.length : Int) 4) ++ nums ((l1.take k).flatMap lJ))) ∧ iC (Below w0.heap.size w0 wr) ∧ iC (Kept w wr P0))
 case atStart => exact ⟨0, Nat.zero_le _, by omega, rfl, ⟨by simpa [nums] using HO1.out⟩, HB1, HK1⟩
 case round =>
  clear HO1 HB1 HK1 HO HB HK
  obtain ⟨k, hk, hg, rfl, HO, HB, HK⟩ := hrel
  obtain ⟨Ao, co, rfl⟩ := Kd.R_slice HO.out
  by_cases hlt : k < l1.length
  ·have hln := VO l1 k hlt
   have HT := iC.mk (IY l1 k hlt)
   obtain ⟨L, hL⟩ : ∃ L, L = l0 ++ nums (layB (l1.length : Int) 4) ++ nums ((l1.take k).flatMap lJ) := ⟨_, rfl⟩
   have hLl : L.length + 4 + (kK (iU l1 k).f1).length ≤ 140737488355328 := by rw [hL]; simp only [List.length_append, mJ, iT]; omega
   rw [← hL] at HO ⊢
   have HLq := iC.mk hL
   clear hL hln
   obtain ⟨ad, A', c', eA, gx0, gx1, hl', hC'⟩ := pJ HR.out k (by omega) (by omega)
   cases eA
   simp only [Int.toNat_natCast] at gx0 gx1
   have hx0 := lD HB.out gx0
   have hx1 := lD HB.out gx1
   have HC' := iC.mk hC'
   have HG := iC.mk (And.intro gx0 gx1)
   clear hC' gx0 gx1
   have hcall := PX (fun k => P0 k ∨ w.heap.size ≤ k) (.slice Ao L.length co) L (iU l1 k).f0 (IntKind.u64.wrap (iU l1 k).f0) 4 4 w0 wr rfl rfl (by omega) (by omega) HB.out HO.out
   go_wp2_with fail
   go_at_call 57
   (with_reducible refine hcall.mono ?_)
   clear hcall
   rintro e w2 ⟨v2, rfl, ho2, hb2, hk2⟩
   have HO2 := iC.mk (Kd.R_mono (ok' := fun k => P0 k ∨ w.heap.size ≤ k) ho2 (fun k h => h.elim id (fun h => .inr (Nat.le_trans HK.out.1 h))))
   have HB2 := iC.mk hb2
   have HK2 := iC.mk (HK.out.then_ hk2 (fun _ h => h))
   clear ho2 hb2 hk2 hx0 hx1
   have hx0 := lD HB2.out HG.out.1
   have hx1 := lD HB2.out HG.out.2
   obtain ⟨Ao2, co2, rfl⟩ := Kd.R_slice HO2.out
   have hlen2 : (L ++ nums (layB (iU l1 k).f0 4)).length + (kK (iU l1 k).f1).length ≤ 140737488355328 := by rw [List.length_append, mJ, iT]; omega
   have HE := iC.mk (show (L ++ nums (layB (iU l1 k).f0 4)) ++ nums (kK (iU l1 k).f1) = l0 ++ nums (layB (l1.length : Int) 4) ++ nums ((l1.take (k + 1)).flatMap lJ) from by rw [HT.out, HLq.out, nums_append, nums_append]; simp only [List.append_assoc])
   generalize (L ++ nums (layB (iU l1 k).f0 4)) = L2 at *
   have hcall := RJ (fun k => P0 k ∨ w.heap.size ≤ k) (.slice Ao2 L2.length co2) L2 A' c' (iU l1 k).f1 w0 w2 hlen2 HB2.out HO2.out (Kd.C_kept_came uT HC'.out HB2.out HP.out) hl'
   go_wp2_with fail
   go_at_call 59
   (with_reducible refine hcall.mono ?_)
   clear hcall
   rintro e w3 ⟨v3, rfl, ho3, hb3, hk3⟩
   have HO3 := iC.mk (Kd.R_mono (ok' := fun k => P0 k ∨ w.heap.size ≤ k) ho3 (fun k h => h.elim id (fun h => .inr (Nat.le_trans HK2.out.1 h))))
   have HB3 := iC.mk hb3
   have HK3 := iC.mk (HK2.out.then_ hk3 (fun _ h => h))
   clear ho3 hb3 hk3 hx0 hx1
   go_wp2_with fail
   go_roundg (l1.length - (k + 1))
   case measure => omega
   case rel => exact ⟨k + 1, by omega, by omega, by go_num, ⟨by rw [← HE.out]; exact HO3.out⟩, HB3, HK3⟩
  ·have : k = l1.length := by omega
   subst this
   have HE := iC.mk (show l0 ++ nums (layB (l1.length : Int) 4) ++ nums ((l1.take l1.length).flatMap lJ) = l0 ++ nums (jV l1) from by rw [List.take_length, List.append_assoc, ← nums_append]; rfl)
   go_wp2
   go_ret
   exact ⟨_, rfl, by rw [← HE.out]; exact HO.out, HB.out, HK.out⟩
def stratumref07_Entries.f (l0 : List Int) (l1 : List jI) : Option (List Int) := if l0 = [] ∧ (jV l1).length ≤ 140737488355328 then some (nums (jV l1)) else none
theorem stratumref07_Entries.calls0 (A1 : Option Addr) (c1 : Nat) (l1 : List jI) (r : List Int) (w : World) (_hr0 : Kd.C (Kd.int .u8) w none ([] : List Int).length []) (_hc0 : 0 ≤ 0) (hr1 : Kd.C k86 w A1 l1.length l1) (hc1 : l1.length ≤ c1) (h : stratumref07_Entries.f ([] : List Int) l1 = some r) :
  Calls Tryd.prog 60 #[.slice none 0 0, .slice A1 l1.length c1] w fun e w' => ∃ v0_ : Value, e = .returned (v0_) ∧ Kd.R (Kd.int .u8) 5 w' w.heap.size (fun _ => True) v0_ r ∧ Below w.heap.size w w' := by
 unfold stratumref07_Entries.f at h
 split at h
 case isFalse => cases h
 rename_i hl
 obtain rfl := Option.some.inj h
 refine (MQ (fun _ => False) (.slice none 0 0) [] A1 c1 l1 w w (by simpa using hl.2) (Below.refl _ _) (Kd.R_nil _ _ _ _ _) (fun _ h => h.elim) hr1 hc1).mono ?_
 rintro e w' ⟨v', rfl, h1, h2, _⟩
 exact ⟨v', rfl, Kd.R_mono h1 (fun _ _ => trivial), h2⟩
end Go.Proofs.YtgfkgppomaapiaaDoor.K
end

section
namespace Go.Proofs.YtgfkgppomaapiaaDoor.K
open RowKit YtgfkgppomaapiaaDoorW.PrintWords YtgfkgppomaapiaaDoorW.PrintLast YtgfkgppomaapiaaDoorW.PrintMore My
theorem V3 {w : World} {A4 A9 : Option Addr} {l3 : List Int} {l4 : List jP} {l6 : List kG} {l9 : List jI} {A3 A6 : Option Addr} (h3 : Kd.C (Kd.int .i64) w A3 l3.length l3) (h4 : Kd.C k139 w A4 l4.length l4) (h6 : Kd.C k98 w A6 l6.length l6) (h9 : Kd.C k86 w A9 l9.length l9) : YX l3 l4 l6 l9 := by
 have key : ∀ {A : Option Addr} {l : List jP}, Kd.C k139 w A l.length l → ∀ f ∈ l, f.f0.length ≤ 9223372036854775807 := by
  intro A l h f hf
  obtain ⟨i, hi, rfl⟩ := List.getElem_of_mem hf
  obtain ⟨_, _, _, _, _, _, _, hC⟩ := mQ h i (by omega) (by omega)
  have e : iZ l i = l[i] := by unfold iZ; rw [Int.toNat_natCast, List.getD_eq_getElem?_getD, List.getElem?_eq_getElem hi]; rfl
  rw [e] at hC
  exact lC hC
 refine ⟨lC h3, lC h4, key h4, lC h6, lC h9, fun e he => ?_⟩
 obtain ⟨i, hi, rfl⟩ := List.getElem_of_mem he
 obtain ⟨_, _, _, _, _, _, _, hC⟩ := pJ h9 i (by omega) (by omega)
 have e : iU l9 i = l9[i] := by unfold iU; rw [Int.toNat_natCast, List.getD_eq_getElem?_getD, List.getElem?_eq_getElem hi]; rfl
 rw [e] at hC
 exact ⟨lC hC, key hC⟩
section
variable (a1 a2 : Int) (A3 : Option Addr) (c3 : Nat) (l3 : List Int) (A4 : Option Addr) (c4 : Nat) (l4 : List jP) (a5 : Int) (A6 : Option Addr) (c6 : Nat) (l6 : List kG) (a7 a8 : Int) (A9 : Option Addr) (c9 : Nat) (l9 : List jI) (w : World)
  (h3 : Kd.C (Kd.int .i64) w A3 l3.length l3) (d3 : l3.length ≤ c3) (h4 : Kd.C k139 w A4 l4.length l4) (d4 : l4.length ≤ c4) (h6 : Kd.C k98 w A6 l6.length l6) (d6 : l6.length ≤ c6) (h9 : Kd.C k86 w A9 l9.length l9) (d9 : l9.length ≤ c9)
include h3 d3 h4 d4 h6 d6 h9 d9
end
end Go.Proofs.YtgfkgppomaapiaaDoor.K
end

section
namespace Go.Proofs.YtgfkgppomaapiaaDoor.K
open RowKit YtgfkgppomaapiaaDoorW.PrintWords YtgfkgppomaapiaaDoorW.PrintLast YtgfkgppomaapiaaDoorW.PrintMore My
def encS (s : kG) : List Value := [.int .i64 s.f0, .int .i64 s.f1]
theorem NG {α β : Type} (f : α → β) (z u : β) (done : List α) (n k : Nat) (x : α) (hu : u = f x) (hd : done.length = k) (hk : k < n) : (done.map f ++ List.replicate (n - k) z).set k u = (done ++ [x]).map f ++ List.replicate (n - (k + 1)) z := by
 subst hu
 rw [NL z (f x) (done.map f) n k (by rw [List.length_map]; exact hd) hk, List.map_append]
 rfl
theorem OW {r : List UInt8} (h : intP 4 r = none) : vX r = none := by unfold vX; rw [h]; rfl
theorem NC {r r1 : List UInt8} {x : Int} (h : intP 4 r = some (x, r1)) (h1 : intP 1 r1 = none) : vX r = none := by unfold vX; rw [h]; simp only [Option.bind_some]; rw [h1]; rfl
theorem RF {r r1 r2 : List UInt8} {x y : Int} (h : intP 4 r = some (x, r1)) (h1 : intP 1 r1 = some (y, r2)) : vX r = some (⟨x, y⟩, r2) := by unfold vX; rw [h]; simp only [Option.bind_some]; rw [h1]; rfl
set_option maxRecDepth 20000 in
set_option maxHeartbeats 4000000 in
theorem IP (g : Nat) (l : List UInt8) (w0 w : World) (h : Rd w0 w g l) (hb : Below w0.heap.size w0 w) (hg : w0.heap.size ≤ g) (hm : (l.length : Int) ≤ 100000) :
  Calls Tryd.prog 122 #[.pointer (some ⟨g, 0, none⟩)] w (PP (qK l) (fun xs v w' => Kd.R k98 98 w' w.heap.size (fun _ => True) v xs) w0 w g) := by
 have HR := iC.mk h
 have HB := iC.mk hb
 have hlt := h.lt
 clear h hb
 cases hmy : many 1 5 l with
 | none =>
  have hn : qK l = none := by unfold qK; rw [hmy]; rfl
  have hcall := pW 1 5 1 5 rfl rfl (by omega) (by omega) g l w0 w HR.out HB.out hg hmy
  have HN := iC.mk hn
  clear hmy hn
  go_enter Tryd.func122, Tryd.ntmps122
  go_wp2_with (go_at_call 130; refine hcall.mono ?_; rintro e w1 ⟨rfl, hG⟩)
  exact ⟨rfl, hG, .inr ⟨HN.out, rfl⟩⟩
 | some x =>
  obtain ⟨n, r0⟩ := x
  have hn : qK l = repP vX n r0 := by unfold qK; rw [hmy]; rfl
  have hcall := yX 1 5 1 5 rfl rfl (by omega) (by omega) g l r0 n w0 w HR.out HB.out hg hmy
  have HN := iC.mk hn
  obtain ⟨hl1, hl2⟩ := nR hmy (by omega)
  have hn1 : (n : Int) ≤ 100000 := by omega
  have hmk := uU (t := 25) (e := 98) Tryd.underlying25 ZG (by omega) n hn1
  clear hmy hn hl1 hl2
  go_enter Tryd.func122, Tryd.ntmps122
  go_wp2_with (go_at_call 130; refine hcall.mono ?_; rintro e w1 ⟨rfl, hR, hG, hle⟩; clear hle; have HR1 := iC.mk hR; have HG1 := iC.mk hG; clear hR hG)
  have HO := iC.mk (TY (e := 98) (W := w1) (n := n) (base := w.heap.size) (x := .int .i64 0) (y := .int .i64 0) rfl rfl (by omega) HG1.out.size)
  have HG := iC.mk (jE HG1.out (grown_below (iG (Below.refl _ _) (.cells (madeCells #[.int .i64 0, .int .i64 0] (n * 2)) 98))))
  have HR2 := iC.mk (Rd.grown HR1.out (grown_below (row := none) (iG (Below.refl _ _) (.cells (madeCells #[.int .i64 0, .int .i64 0] (n * 2)) 98))) (by simp))
  clear HR1 HG1 hcall hmk
  obtain ⟨ad, had⟩ : ∃ ad : Addr, ad = ⟨w1.heap.size, 0, none⟩ := ⟨_, rfl⟩
  rw [← had] at HO ⊢
  obtain ⟨W2, hW⟩ : ∃ W2, W2 = w1.alloc (.cells (madeCells #[.int .i64 0, .int .i64 0] (n * 2)) 98) := ⟨_, rfl⟩
  rw [← hW] at HO HG HR2
  first | rw [← hW] | (rw [show w1.alloc (.cells (madeCells (Value.agg #[.int .i64 0, .int .i64 0]).cells (n * 2)) 98) = W2 from hW.symm])
  clear hW had
  go_loopw [10] (fun i wr => ∃ (k : Nat) (done : List kG) (r : List UInt8), k ≤ n ∧ i = .int .i64 k ∧ iC (Left vX n k r0 r done) ∧ iC (Rd w0 wr g r) ∧ iC (RW 98 wr w.heap.size (.slice (some ad) n n) (done.map encS ++ List.replicate (n - k) [.int .i64 0, .int .i64 0])) ∧ iC (w.grownBy wr (some g))) (fun i _ => n - (intOf i).toNat)
  case atStart => exact ⟨0, [], r0, Nat.zero_le _, rfl, ⟨Left.start _ _ _⟩, HR2, HO, HG⟩
  case round =>
   obtain ⟨k, done, r, hk, rfl, HL, HRd, HOk, HGk⟩ := hrel
   clear HR2 HO HG
   by_cases hkn : k < n
   ·cases hp : intP 4 r with
    | none =>
     have hcall := kH 4 4 rfl g r w0 wr HRd.out (mD hp)
     have HF := iC.mk (Left.fail HL.out hkn (OW hp))
     clear hp
     go_wp2_with (go_at_call 119; refine hcall.mono ?_; rintro e w2 ⟨rfl, hG⟩)
     exact ⟨rfl, jE HGk.out hG, .inr ⟨by rw [HN.out]; exact HF.out, rfl⟩⟩
    | some x =>
     obtain ⟨x, r1⟩ := x
     obtain ⟨hs1, hx, hr1⟩ := oI hp
     have hcall := mY 4 4 rfl (by omega) g r w0 wr HRd.out (below_grown HB.out HGk.out hg (Nat.le_refl _)) hs1
     have hsm := rC r 4 (by omega)
     rw [← hr1] at hcall
     obtain ⟨m, hm1⟩ : ∃ m, m = numB (r.take 4) := ⟨_, rfl⟩
     rw [← hm1] at hcall hsm hx
     subst hx
     clear hr1 hm1 hs1
     cases hp1 : intP 1 r1 with
     | none =>
      have HF := iC.mk (Left.fail HL.out hkn (NC hp hp1))
      have HP1 := iC.mk hp1
      clear hp hp1
      go_wp2_with fail
      refine hcall.mono ?_
      rintro e w2 ⟨rfl, hR, hG⟩
      obtain ⟨x0, y0, hrow, z0, z1, f0, f1, hbs, hbl, hset0, _⟩ := JH (kT HOk.out hG hlt) k hkn
      obtain ⟨hs0, hg0⟩ := hset0 (.int .i64 (m : Int)) rfl
      have HGR := iC.mk (lZ (jE HGk.out hG) hg0 hbs)
      have HRR := iC.mk (Rd.grown hR hg0 (by (intro e; injection e with e; omega)))
      clear hset0 hs0 hg0 hR hG hrow z1 f1 hcall
      go_wp2_with fail
      refine (kH 1 1 rfl g r1 w0 _ HRR.out (mD HP1.out)).mono ?_
      rintro e w3 ⟨rfl, hG⟩
      go_wp2
      exact ⟨rfl, jE HGR.out hG, .inr ⟨by rw [HN.out]; exact HF.out, rfl⟩⟩
     | some y =>
      obtain ⟨y, r2⟩ := y
      have HN1 := iC.mk (Left.next HL.out hkn (RF hp hp1))
      obtain ⟨hs2, hy, hr2⟩ := oI hp1
      have hsm2 := rC r1 1 (by omega)
      obtain ⟨m2, hm2⟩ : ∃ m2, m2 = numB (r1.take 1) := ⟨_, rfl⟩
      rw [← hm2] at hsm2 hy
      subst hy
      clear hp hp1
      go_wp2_with fail
      refine hcall.mono ?_
      rintro e w2 ⟨rfl, hR, hG⟩
      obtain ⟨x0, y0, hrow, z0, z1, f0, f1, hbs, hbl, hset0, _⟩ := JH (kT HOk.out hG hlt) k hkn
      obtain ⟨hs0, hg0⟩ := hset0 (.int .i64 (m : Int)) rfl
      have HGR := iC.mk (lZ (jE HGk.out hG) hg0 hbs)
      have HRR := iC.mk (Rd.grown hR hg0 (by (intro e; injection e with e; omega)))
      have HS0 := iC.mk hs0
      clear hset0 hs0 hg0 hR hG hrow z1 f1 hcall
      go_wp2_with fail
      have hcall := mY 1 1 rfl (by omega) g r1 w0 _ HRR.out (below_grown HB.out HGR.out hg (Nat.le_refl _)) hs2
      rw [← hr2, ← hm2] at hcall
      refine hcall.mono ?_
      rintro e w3 ⟨rfl, hR, hG⟩
      obtain ⟨x1, y1, hrow, z0', z1, f0', f1, hbs1, hbl1, _, hset1⟩ := JH (kT HS0.out hG hlt) k hkn
      obtain ⟨hs1, hg1⟩ := hset1 (.int .i64 (m2 : Int)) rfl
      have hkl : k < (done.map encS ++ List.replicate (n - k) [Value.int .i64 0, .int .i64 0]).length := by rw [List.length_append, List.length_map, List.length_replicate, HL.out.1]; omega
      rw [List.getD_eq_getElem?_getD, List.getElem?_set_self hkl] at hrow
      have hx1 : x1 = .int .i64 (m : Int) := by injection hrow with hx _; exact hx.symm
      subst hx1
      rw [List.set_set] at hs1
      have HS1 := iC.mk hs1
      have HGR2 := iC.mk (lZ (jE HGR.out hG) hg1 hbs1)
      have HRR2 := iC.mk (Rd.grown hR hg1 (by (intro e; injection e with e; omega)))
      clear hset1 hs1 hg1 hR hG hrow hcall z0 f0 z0' f0' hr2 hm2 hs2 hkl HS0 HGR HRR
      go_wp2
      go_roundw
      case rel => exact ⟨k + 1, done ++ [⟨(m : Int), (m2 : Int)⟩], r2, by omega, by go_num, HN1, HRR2, ⟨by rw [← NG encS _ [.int .i64 (m : Int), .int .i64 (m2 : Int)] done n k ⟨(m : Int), (m2 : Int)⟩ rfl HL.out.1 hkn]; exact HS1.out⟩, HGR2⟩
      case measure => simp [intOf]; omega
   ·obtain rfl : k = n := by omega
    go_wp2
    go_ret
    have hd := HOk.out
    rw [Nat.sub_self, List.replicate_zero, List.append_nil] at hd
    refine ⟨HGk.out, .inl ⟨done, r, _, by rw [HN.out]; exact Left.done HL.out, rfl, ?_, HRd.out⟩⟩
    refine JS rfl hd (by rw [List.length_map]) (fun _ _ => trivial) (fun j p c hj hc => ?_)
    rw [List.getElem?_map, hj] at hc
    injection hc with hc
    subst hc
    exact VD _ _ _ _
end Go.Proofs.YtgfkgppomaapiaaDoor.K
end
