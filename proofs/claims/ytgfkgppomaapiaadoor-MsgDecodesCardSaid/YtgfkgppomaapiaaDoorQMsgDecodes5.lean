/- Parts of the proof, one behind the other: K38, RefS, Buf, CodeL, CodeF. -/
import Derived.Test.YtgfkgppomaapiaaDoorQMsgDecodes4
import Derived.Shelf.LaysM
import Derived.Shelf.Bytes.Len
import Derived.Shelf.Bytes.TryGrow
import Derived.Shelf.Bytes.GrowSliceCatch
import Derived.Shelf.Bytes.GrowSlice
import Derived.Shelf.Bytes.Bytes
import Derived.Shelf.Bytes.GrowRow0Kept
import Derived.Shelf.Bytes.GrowRowKept
import Derived.Shelf.Bytes.GrowNilKept
import Derived.Shelf.Bytes.GrowKept
import Derived.Shelf.Bytes.WriteByteKept
import Derived.Ground.SlgfProg
import Derived.Shelf.SlicesE.IndexFunc
import Derived.Lib.OthersKept
import Derived.Lib.BufferKept
import Derived.Lib.BufferWrite
set_option linter.unusedVariables false
set_option linter.unusedSimpArgs false
section
namespace Go.Proofs.YtgfkgppomaapiaaDoor.K
open Go.RowKit Go.Proofs.YtgfkgppomaapiaaDoorW.PrintWords Go.Proofs.YtgfkgppomaapiaaDoorW.PrintLast Go.Proofs.YtgfkgppomaapiaaDoorW.PrintMore
def stratumref07_Sound.j0 : Nat → Int → Bool → Int → Int → Int → List Int → List (S139) → Int → List (S98) → Int → Int → List (S86) → Option (Bool)
  | 0, _, _, _, _, _, _, _, _, _, _, _, _ => none
  | k + 1, x4, x28, x136000, x136001, x136002, x136003, x136004, x136005, x136006, x136007, x136008, x136009 => if x28 = true then ((stratumref07_bare.f x136000 x136001 x136002 x136003 x136004 x136005 x136006 x136007 x136008 x136009 (⟨#[73]⟩ : ByteArray)).bind fun t141 => (some t141)) else (if x4 = 6 then ((stratumref07_bare.f x136000 x136001 x136002 x136003 x136004 x136005 x136006 x136007 x136008 x136009 (⟨#[77]⟩ : ByteArray)).bind fun t142 => (if t142 = true then ((stratumref07_spans.f k x136006).bind fun t143 => (some t143)) else (some false))) else (if x4 = 7 then ((stratumref07_bare.f x136000 x136001 x136002 x136003 x136004 x136005 x136006 x136007 x136008 x136009 (⟨#[73, 82]⟩ : ByteArray)).bind fun t144 => (if t144 = true then ((stratumref07_SoundEntries.f k x136009).bind fun t145 => (if t145 = true then (if x136007 ≥ 0 then (if x136007 ≤ 10000 then (if x136008 ≥ 0 then (some (decide (x136008 ≤ 10000))) else (some false)) else (some false)) else (some false)) else (some false))) else (some false))) else (some false)))
def stratumref07_Sound.f (k : Nat) (a0_0 : Int) (a0_1 : Int) (a0_2 : Int) (l0_3 : List Int) (l0_4 : List (S139)) (a0_5 : Int) (l0_6 : List (S98)) (a0_7 : Int) (a0_8 : Int) (l0_9 : List (S86)) : Option (Bool) := if a0_0 = 1 then ((stratumref07_bare.f a0_0 a0_1 a0_2 l0_3 l0_4 a0_5 l0_6 a0_7 a0_8 l0_9 (⟨#[73, 78, 70]⟩ : ByteArray)).bind fun t136 => (if t136 = true then ((stratumref07_SoundNodes.f k l0_3).bind fun t137 => (if t137 = true then ((stratumref07_SoundFacts.f k l0_4).bind fun t138 => (some t138)) else (some false))) else (some false))) else (if a0_0 = 2 then ((stratumref07_bare.f a0_0 a0_1 a0_2 l0_3 l0_4 a0_5 l0_6 a0_7 a0_8 l0_9 (⟨#[73, 65, 78]⟩ : ByteArray)).bind fun t139 => (if t139 = true then ((stratumref07_SoundNodes.f k l0_3).bind fun t140 => (some t140)) else (some false))) else (if a0_0 = 3 then (stratumref07_Sound.j0 k a0_0 (a0_0 == 3) a0_0 a0_1 a0_2 l0_3 l0_4 a0_5 l0_6 a0_7 a0_8 l0_9) else (if a0_0 = 4 then (stratumref07_Sound.j0 k a0_0 (a0_0 == 4) a0_0 a0_1 a0_2 l0_3 l0_4 a0_5 l0_6 a0_7 a0_8 l0_9) else (stratumref07_Sound.j0 k a0_0 (a0_0 == 5) a0_0 a0_1 a0_2 l0_3 l0_4 a0_5 l0_6 a0_7 a0_8 l0_9))))
set_option maxHeartbeats 8000000 in
set_option maxRecDepth 100000 in
theorem stratumref07_Sound.calls (k : Nat) (a0_0 : Int) (a0_1 : Int) (a0_2 : Int) (A0_3 : Option Addr) (c0_3 : Nat) (l0_3 : List Int) (A0_4 : Option Addr) (c0_4 : Nat) (l0_4 : List (S139)) (a0_5 : Int) (A0_6 : Option Addr) (c0_6 : Nat) (l0_6 : List (S98)) (a0_7 : Int) (a0_8 : Int) (A0_9 : Option Addr) (c0_9 : Nat) (l0_9 : List (S86)) (r : Bool) (w : World) (hr0_3 : Kd.C (Kd.int .i64) w A0_3 l0_3.length l0_3) (hc0_3 : l0_3.length ≤ c0_3) (hr0_4 : Kd.C k139 w A0_4 l0_4.length l0_4) (hc0_4 : l0_4.length ≤ c0_4) (hr0_6 : Kd.C k98 w A0_6 l0_6.length l0_6) (hc0_6 : l0_6.length ≤ c0_6) (hr0_9 : Kd.C k86 w A0_9 l0_9.length l0_9) (hc0_9 : l0_9.length ≤ c0_9) (h : stratumref07_Sound.f k a0_0 a0_1 a0_2 l0_3 l0_4 a0_5 l0_6 a0_7 a0_8 l0_9 = some r) :
    Calls Tryd.prog 20 #[.agg #[.int .u8 a0_0, .int .u32 a0_1, .int .u32 a0_2, .slice A0_3 l0_3.length c0_3, .slice A0_4 l0_4.length c0_4, .int .u32 a0_5, .slice A0_6 l0_6.length c0_6, .int .i64 a0_7, .int .i64 a0_8, .slice A0_9 l0_9.length c0_9]] w fun e w' => e = .returned (.bool r) ∧ Below w.heap.size w w' := by
  have hu30 := Tryd.underlying30
  have HR0_3 := iC.mk hr0_3
  have HC0_3 := iC.mk hc0_3
  clear hr0_3 hc0_3
  have HR0_4 := iC.mk hr0_4
  have HC0_4 := iC.mk hc0_4
  clear hr0_4 hc0_4
  have HR0_6 := iC.mk hr0_6
  have HC0_6 := iC.mk hc0_6
  clear hr0_6 hc0_6
  have HR0_9 := iC.mk hr0_9
  have HC0_9 := iC.mk hc0_9
  clear hr0_9 hc0_9
  have HB := iC.mk (Below.refl w.heap.size w)
  have H : (if a0_0 = 1 then ((stratumref07_bare.f a0_0 a0_1 a0_2 l0_3 l0_4 a0_5 l0_6 a0_7 a0_8 l0_9 (⟨#[73, 78, 70]⟩ : ByteArray)).bind fun t136 => (if t136 = true then ((stratumref07_SoundNodes.f k l0_3).bind fun t137 => (if t137 = true then ((stratumref07_SoundFacts.f k l0_4).bind fun t138 => (some t138)) else (some false))) else (some false))) else (if a0_0 = 2 then ((stratumref07_bare.f a0_0 a0_1 a0_2 l0_3 l0_4 a0_5 l0_6 a0_7 a0_8 l0_9 (⟨#[73, 65, 78]⟩ : ByteArray)).bind fun t139 => (if t139 = true then ((stratumref07_SoundNodes.f k l0_3).bind fun t140 => (some t140)) else (some false))) else (if a0_0 = 3 then (stratumref07_Sound.j0 k a0_0 (a0_0 == 3) a0_0 a0_1 a0_2 l0_3 l0_4 a0_5 l0_6 a0_7 a0_8 l0_9) else (if a0_0 = 4 then (stratumref07_Sound.j0 k a0_0 (a0_0 == 4) a0_0 a0_1 a0_2 l0_3 l0_4 a0_5 l0_6 a0_7 a0_8 l0_9) else (stratumref07_Sound.j0 k a0_0 (a0_0 == 5) a0_0 a0_1 a0_2 l0_3 l0_4 a0_5 l0_6 a0_7 a0_8 l0_9))))) = some r := h
  clear h
  by_cases c2 : a0_0 = 1
  · rw [if_pos c2] at H
    have c2b0 : (a0_0 == 1) = true := beq_iff_eq.mpr c2
    have c2b1 : (a0_0 != 1) = false := bne_eq_false_iff_eq.mpr c2
    clear c2
    replace H := Option.bind_eq_some_iff.mp H
    obtain ⟨t136, A30, H⟩ := H
    replace H : (if t136 = true then ((stratumref07_SoundNodes.f k l0_3).bind fun t137 => (if t137 = true then ((stratumref07_SoundFacts.f k l0_4).bind fun t138 => (some t138)) else (some false))) else (some false)) = some r := H
    have A3 := iC.mk A30
    clear A30
    by_cases c4 : t136 = true
    · subst c4
      have H1 : ((stratumref07_SoundNodes.f k l0_3).bind fun t137 => (if t137 = true then ((stratumref07_SoundFacts.f k l0_4).bind fun t138 => (some t138)) else (some false))) = some r := by rw [if_pos rfl] at H; exact H
      clear H
      have H := H1
      clear H1
      replace H := Option.bind_eq_some_iff.mp H
      obtain ⟨t137, A50, H⟩ := H
      replace H : (if t137 = true then ((stratumref07_SoundFacts.f k l0_4).bind fun t138 => (some t138)) else (some false)) = some r := H
      have A5 := iC.mk A50
      clear A50
      by_cases c6 : t137 = true
      · subst c6
        have H1 : ((stratumref07_SoundFacts.f k l0_4).bind fun t138 => (some t138)) = some r := by rw [if_pos rfl] at H; exact H
        clear H
        have H := H1
        clear H1
        replace H := Option.bind_eq_some_iff.mp H
        obtain ⟨t138, A70, H⟩ := H
        replace H : (some t138) = some r := H
        have A7 := iC.mk A70
        clear A70
        obtain rfl := Option.some.inj H
        go_enter Tryd.func20, Tryd.ntmps20
        go_wp2_with (first | ((with_reducible refine jT (N := 1) rfl ?_); refine jK ?hg (N := 1) ?hd (cs := #[.int .u8 a0_0, .int .u32 a0_1, .int .u32 a0_2, .slice A0_3 l0_3.length c0_3, .slice A0_4 l0_4.length c0_4, .int .u32 a0_5, .slice A0_6 l0_6.length c0_6, .int .i64 a0_7, .int .i64 a0_8, .slice A0_9 l0_9.length c0_9]) (t := 30) ?hr ?_; (case hd => rfl); (case hg => rfl); (case hr => first | (go_simp; done) | (go_simp; rfl)); intro gb135 hg w8 hbox hb; have n0_ := iC.mk (iH hb_ hb); have n1_ := iC.mk (hbox); have n2_ := iC.mk ((by rw [hg]; exact (iR hb_) : w.heap.size ≤ gb135)); have n3_ := iC.mk ((by rw [hg]; exact (iR hb_) : w.heap.size ≤ gb135)); clear HB; have HB := n0_; have BK135 := n1_; have GW135 := n2_; have GE135 := n3_; clear n0_ n1_ n2_ n3_; clear hb hbox hg; have hcz9_0 : w8.cell? ⟨gb135, 0, none⟩ = some (.int .u8 a0_0) := (iE BK135.out 0).trans rfl; have hcz9_1 : w8.cell? ⟨gb135, 1, none⟩ = some (.int .u32 a0_1) := (iE BK135.out 1).trans rfl; have hcz9_2 : w8.cell? ⟨gb135, 2, none⟩ = some (.int .u32 a0_2) := (iE BK135.out 2).trans rfl; have hcz9_3 : w8.cell? ⟨gb135, 3, none⟩ = some (.slice A0_3 l0_3.length c0_3) := (iE BK135.out 3).trans rfl; have hcz9_4 : w8.cell? ⟨gb135, 4, none⟩ = some (.slice A0_4 l0_4.length c0_4) := (iE BK135.out 4).trans rfl; have hcz9_5 : w8.cell? ⟨gb135, 5, none⟩ = some (.int .u32 a0_5) := (iE BK135.out 5).trans rfl; have hcz9_6 : w8.cell? ⟨gb135, 6, none⟩ = some (.slice A0_6 l0_6.length c0_6) := (iE BK135.out 6).trans rfl; have hcz9_7 : w8.cell? ⟨gb135, 7, none⟩ = some (.int .i64 a0_7) := (iE BK135.out 7).trans rfl; have hcz9_8 : w8.cell? ⟨gb135, 8, none⟩ = some (.int .i64 a0_8) := (iE BK135.out 8).trans rfl; have hcz9_9 : w8.cell? ⟨gb135, 9, none⟩ = some (.slice A0_9 l0_9.length c0_9) := (iE BK135.out 9).trans rfl; have hfz9_0 := iD BK135.out 0; have hfz9_1 := iD BK135.out 1; have hfz9_2 := iD BK135.out 2; have hfz9_3 := iD BK135.out 3; have hfz9_4 := iD BK135.out 4; have hfz9_5 := iD BK135.out 5; have hfz9_6 := iD BK135.out 6; have hfz9_7 := iD BK135.out 7; have hfz9_8 := iD BK135.out 8; have hfz9_9 := iD BK135.out 9) | ((with_reducible refine jM (f := 68) rfl ?_); refine mP (some 8) rfl rfl Tryd.func68 (by kernel_rfl) rfl #[.agg #[.int .u8 a0_0, .int .u32 a0_1, .int .u32 a0_2, .slice A0_3 l0_3.length c0_3, .slice A0_4 l0_4.length c0_4, .int .u32 a0_5, .slice A0_6 l0_6.length c0_6, .int .i64 a0_7, .int .i64 a0_8, .slice A0_9 l0_9.length c0_9], .string (⟨#[73, 78, 70]⟩ : ByteArray)] rfl (by (try simp only [List.map_toArray, List.map_cons, List.map_nil]); first | done | rfl | (simp only [List.length_drop, List.length_take]; rfl)) ?_; (with_reducible refine (stratumref07_bare.calls a0_0 a0_1 a0_2 _ _ l0_3 _ _ l0_4 a0_5 _ _ l0_6 a0_7 a0_8 _ _ l0_9 (⟨#[73, 78, 70]⟩ : ByteArray) true _ ?side1 ?side2 ?side3 ?side4 ?side5 ?side6 ?side7 ?side8 A3.out).mono ?_); (case side1 => repeat (first | exact (Kd.C_below HR0_3.out HB.out) | (with_reducible refine Kd.C_alloc ?_ _) | (with_reducible refine Kd.C_drewN ?_ _) | (with_reducible refine Kd.C_drew ?_))); (case side2 => exact HC0_3.out); (case side3 => repeat (first | exact (Kd.C_below HR0_4.out HB.out) | (with_reducible refine Kd.C_alloc ?_ _) | (with_reducible refine Kd.C_drewN ?_ _) | (with_reducible refine Kd.C_drew ?_))); (case side4 => exact HC0_4.out); (case side5 => repeat (first | exact (Kd.C_below HR0_6.out HB.out) | (with_reducible refine Kd.C_alloc ?_ _) | (with_reducible refine Kd.C_drewN ?_ _) | (with_reducible refine Kd.C_drew ?_))); (case side6 => exact HC0_6.out); (case side7 => repeat (first | exact (Kd.C_below HR0_9.out HB.out) | (with_reducible refine Kd.C_alloc ?_ _) | (with_reducible refine Kd.C_drewN ?_ _) | (with_reducible refine Kd.C_drew ?_))); (case side8 => exact HC0_9.out); rintro e w10 ⟨rfl, hb⟩; refine ⟨_, rfl, ?_⟩; have n0_ := iC.mk (jI (g := gb135) (o := .cells #[.int .u8 a0_0, .int .u32 a0_1, .int .u32 a0_2, .slice A0_3 l0_3.length c0_3, .slice A0_4 l0_4.length c0_4, .int .u32 a0_5, .slice A0_6 l0_6.length c0_6, .int .i64 a0_7, .int .i64 a0_8, .slice A0_9 l0_9.length c0_9] 30 (0, 0)) (bk_ BK135.out) hb); have n1_ := iC.mk (iH (by repeat (first | (with_reducible first | exact HB.out | apply iF | apply iG | apply iI | refine iK ?_ GE135.out) | exact HB.out)) hb); clear BK135; clear HB; have BK135 := n0_; have HB := n1_; clear n0_ n1_; (try clear hb); (try clear hb2); (try clear hk); (try clear hi); have hcz11_0 : w10.cell? ⟨gb135, 0, none⟩ = some (.int .u8 a0_0) := (iE BK135.out 0).trans rfl; have hcz11_1 : w10.cell? ⟨gb135, 1, none⟩ = some (.int .u32 a0_1) := (iE BK135.out 1).trans rfl; have hcz11_2 : w10.cell? ⟨gb135, 2, none⟩ = some (.int .u32 a0_2) := (iE BK135.out 2).trans rfl; have hcz11_3 : w10.cell? ⟨gb135, 3, none⟩ = some (.slice A0_3 l0_3.length c0_3) := (iE BK135.out 3).trans rfl; have hcz11_4 : w10.cell? ⟨gb135, 4, none⟩ = some (.slice A0_4 l0_4.length c0_4) := (iE BK135.out 4).trans rfl; have hcz11_5 : w10.cell? ⟨gb135, 5, none⟩ = some (.int .u32 a0_5) := (iE BK135.out 5).trans rfl; have hcz11_6 : w10.cell? ⟨gb135, 6, none⟩ = some (.slice A0_6 l0_6.length c0_6) := (iE BK135.out 6).trans rfl; have hcz11_7 : w10.cell? ⟨gb135, 7, none⟩ = some (.int .i64 a0_7) := (iE BK135.out 7).trans rfl; have hcz11_8 : w10.cell? ⟨gb135, 8, none⟩ = some (.int .i64 a0_8) := (iE BK135.out 8).trans rfl; have hcz11_9 : w10.cell? ⟨gb135, 9, none⟩ = some (.slice A0_9 l0_9.length c0_9) := (iE BK135.out 9).trans rfl; have hfz11_0 := iD BK135.out 0; have hfz11_1 := iD BK135.out 1; have hfz11_2 := iD BK135.out 2; have hfz11_3 := iD BK135.out 3; have hfz11_4 := iD BK135.out 4; have hfz11_5 := iD BK135.out 5; have hfz11_6 := iD BK135.out 6; have hfz11_7 := iD BK135.out 7; have hfz11_8 := iD BK135.out 8; have hfz11_9 := iD BK135.out 9) | (go_at_call 69; (with_reducible refine (stratumref07_SoundNodes.calls k _ _ l0_3 true _ ?side1 ?side2 A5.out).mono ?_); (case side1 => repeat (first | exact (Kd.C_below HR0_3.out HB.out) | (with_reducible refine Kd.C_alloc ?_ _) | (with_reducible refine Kd.C_drewN ?_ _) | (with_reducible refine Kd.C_drew ?_))); (case side2 => exact HC0_3.out); rintro e w' ⟨rfl, ⟨nd, rfl⟩⟩) | (go_at_call 70; (with_reducible refine (stratumref07_SoundFacts.calls k _ _ l0_4 t138 _ ?side1 ?side2 A7.out).mono ?_); (case side1 => repeat (first | exact (Kd.C_below HR0_4.out (by repeat (first | (with_reducible first | exact HB.out | apply iF | apply iG | apply iI | refine iK ?_ GE135.out) | exact HB.out))) | (with_reducible refine Kd.C_alloc ?_ _) | (with_reducible refine Kd.C_drewN ?_ _) | (with_reducible refine Kd.C_drew ?_))); (case side2 => exact HC0_4.out); rintro e w' ⟨rfl, ⟨nd, rfl⟩⟩))
        go_ret
        exact ⟨by first | rfl | (simp [iP, iO] <;> rfl) | (simp [*, iP, iO] <;> rfl), by repeat (first | (with_reducible first | exact HB.out | apply iF | apply iG | apply iI | refine iK ?_ GE135.out) | exact HB.out)⟩
      · replace c6 := Bool.eq_false_iff.mpr c6
        subst c6
        have H1 : (some false) = some r := by rw [if_neg (show ¬ (false = true) by decide)] at H; exact H
        clear H
        have H := H1
        clear H1
        obtain rfl := Option.some.inj H
        go_enter Tryd.func20, Tryd.ntmps20
        go_wp2_with (first | ((with_reducible refine jT (N := 1) rfl ?_); refine jK ?hg (N := 1) ?hd (cs := #[.int .u8 a0_0, .int .u32 a0_1, .int .u32 a0_2, .slice A0_3 l0_3.length c0_3, .slice A0_4 l0_4.length c0_4, .int .u32 a0_5, .slice A0_6 l0_6.length c0_6, .int .i64 a0_7, .int .i64 a0_8, .slice A0_9 l0_9.length c0_9]) (t := 30) ?hr ?_; (case hd => rfl); (case hg => rfl); (case hr => first | (go_simp; done) | (go_simp; rfl)); intro gb135 hg w12 hbox hb; have n0_ := iC.mk (iH hb_ hb); have n1_ := iC.mk (hbox); have n2_ := iC.mk ((by rw [hg]; exact (iR hb_) : w.heap.size ≤ gb135)); have n3_ := iC.mk ((by rw [hg]; exact (iR hb_) : w.heap.size ≤ gb135)); clear HB; have HB := n0_; have BK135 := n1_; have GW135 := n2_; have GE135 := n3_; clear n0_ n1_ n2_ n3_; clear hb hbox hg; have hcz13_0 : w12.cell? ⟨gb135, 0, none⟩ = some (.int .u8 a0_0) := (iE BK135.out 0).trans rfl; have hcz13_1 : w12.cell? ⟨gb135, 1, none⟩ = some (.int .u32 a0_1) := (iE BK135.out 1).trans rfl; have hcz13_2 : w12.cell? ⟨gb135, 2, none⟩ = some (.int .u32 a0_2) := (iE BK135.out 2).trans rfl; have hcz13_3 : w12.cell? ⟨gb135, 3, none⟩ = some (.slice A0_3 l0_3.length c0_3) := (iE BK135.out 3).trans rfl; have hcz13_4 : w12.cell? ⟨gb135, 4, none⟩ = some (.slice A0_4 l0_4.length c0_4) := (iE BK135.out 4).trans rfl; have hcz13_5 : w12.cell? ⟨gb135, 5, none⟩ = some (.int .u32 a0_5) := (iE BK135.out 5).trans rfl; have hcz13_6 : w12.cell? ⟨gb135, 6, none⟩ = some (.slice A0_6 l0_6.length c0_6) := (iE BK135.out 6).trans rfl; have hcz13_7 : w12.cell? ⟨gb135, 7, none⟩ = some (.int .i64 a0_7) := (iE BK135.out 7).trans rfl; have hcz13_8 : w12.cell? ⟨gb135, 8, none⟩ = some (.int .i64 a0_8) := (iE BK135.out 8).trans rfl; have hcz13_9 : w12.cell? ⟨gb135, 9, none⟩ = some (.slice A0_9 l0_9.length c0_9) := (iE BK135.out 9).trans rfl; have hfz13_0 := iD BK135.out 0; have hfz13_1 := iD BK135.out 1; have hfz13_2 := iD BK135.out 2; have hfz13_3 := iD BK135.out 3; have hfz13_4 := iD BK135.out 4; have hfz13_5 := iD BK135.out 5; have hfz13_6 := iD BK135.out 6; have hfz13_7 := iD BK135.out 7; have hfz13_8 := iD BK135.out 8; have hfz13_9 := iD BK135.out 9) | ((with_reducible refine jM (f := 68) rfl ?_); refine mP (some 8) rfl rfl Tryd.func68 (by kernel_rfl) rfl #[.agg #[.int .u8 a0_0, .int .u32 a0_1, .int .u32 a0_2, .slice A0_3 l0_3.length c0_3, .slice A0_4 l0_4.length c0_4, .int .u32 a0_5, .slice A0_6 l0_6.length c0_6, .int .i64 a0_7, .int .i64 a0_8, .slice A0_9 l0_9.length c0_9], .string (⟨#[73, 78, 70]⟩ : ByteArray)] rfl (by (try simp only [List.map_toArray, List.map_cons, List.map_nil]); first | done | rfl | (simp only [List.length_drop, List.length_take]; rfl)) ?_; (with_reducible refine (stratumref07_bare.calls a0_0 a0_1 a0_2 _ _ l0_3 _ _ l0_4 a0_5 _ _ l0_6 a0_7 a0_8 _ _ l0_9 (⟨#[73, 78, 70]⟩ : ByteArray) true _ ?side1 ?side2 ?side3 ?side4 ?side5 ?side6 ?side7 ?side8 A3.out).mono ?_); (case side1 => repeat (first | exact (Kd.C_below HR0_3.out HB.out) | (with_reducible refine Kd.C_alloc ?_ _) | (with_reducible refine Kd.C_drewN ?_ _) | (with_reducible refine Kd.C_drew ?_))); (case side2 => exact HC0_3.out); (case side3 => repeat (first | exact (Kd.C_below HR0_4.out HB.out) | (with_reducible refine Kd.C_alloc ?_ _) | (with_reducible refine Kd.C_drewN ?_ _) | (with_reducible refine Kd.C_drew ?_))); (case side4 => exact HC0_4.out); (case side5 => repeat (first | exact (Kd.C_below HR0_6.out HB.out) | (with_reducible refine Kd.C_alloc ?_ _) | (with_reducible refine Kd.C_drewN ?_ _) | (with_reducible refine Kd.C_drew ?_))); (case side6 => exact HC0_6.out); (case side7 => repeat (first | exact (Kd.C_below HR0_9.out HB.out) | (with_reducible refine Kd.C_alloc ?_ _) | (with_reducible refine Kd.C_drewN ?_ _) | (with_reducible refine Kd.C_drew ?_))); (case side8 => exact HC0_9.out); rintro e w14 ⟨rfl, hb⟩; refine ⟨_, rfl, ?_⟩; have n0_ := iC.mk (jI (g := gb135) (o := .cells #[.int .u8 a0_0, .int .u32 a0_1, .int .u32 a0_2, .slice A0_3 l0_3.length c0_3, .slice A0_4 l0_4.length c0_4, .int .u32 a0_5, .slice A0_6 l0_6.length c0_6, .int .i64 a0_7, .int .i64 a0_8, .slice A0_9 l0_9.length c0_9] 30 (0, 0)) (bk_ BK135.out) hb); have n1_ := iC.mk (iH (by repeat (first | (with_reducible first | exact HB.out | apply iF | apply iG | apply iI | refine iK ?_ GE135.out) | exact HB.out)) hb); clear BK135; clear HB; have BK135 := n0_; have HB := n1_; clear n0_ n1_; (try clear hb); (try clear hb2); (try clear hk); (try clear hi); have hcz15_0 : w14.cell? ⟨gb135, 0, none⟩ = some (.int .u8 a0_0) := (iE BK135.out 0).trans rfl; have hcz15_1 : w14.cell? ⟨gb135, 1, none⟩ = some (.int .u32 a0_1) := (iE BK135.out 1).trans rfl; have hcz15_2 : w14.cell? ⟨gb135, 2, none⟩ = some (.int .u32 a0_2) := (iE BK135.out 2).trans rfl; have hcz15_3 : w14.cell? ⟨gb135, 3, none⟩ = some (.slice A0_3 l0_3.length c0_3) := (iE BK135.out 3).trans rfl; have hcz15_4 : w14.cell? ⟨gb135, 4, none⟩ = some (.slice A0_4 l0_4.length c0_4) := (iE BK135.out 4).trans rfl; have hcz15_5 : w14.cell? ⟨gb135, 5, none⟩ = some (.int .u32 a0_5) := (iE BK135.out 5).trans rfl; have hcz15_6 : w14.cell? ⟨gb135, 6, none⟩ = some (.slice A0_6 l0_6.length c0_6) := (iE BK135.out 6).trans rfl; have hcz15_7 : w14.cell? ⟨gb135, 7, none⟩ = some (.int .i64 a0_7) := (iE BK135.out 7).trans rfl; have hcz15_8 : w14.cell? ⟨gb135, 8, none⟩ = some (.int .i64 a0_8) := (iE BK135.out 8).trans rfl; have hcz15_9 : w14.cell? ⟨gb135, 9, none⟩ = some (.slice A0_9 l0_9.length c0_9) := (iE BK135.out 9).trans rfl; have hfz15_0 := iD BK135.out 0; have hfz15_1 := iD BK135.out 1; have hfz15_2 := iD BK135.out 2; have hfz15_3 := iD BK135.out 3; have hfz15_4 := iD BK135.out 4; have hfz15_5 := iD BK135.out 5; have hfz15_6 := iD BK135.out 6; have hfz15_7 := iD BK135.out 7; have hfz15_8 := iD BK135.out 8; have hfz15_9 := iD BK135.out 9) | (go_at_call 69; (with_reducible refine (stratumref07_SoundNodes.calls k _ _ l0_3 false _ ?side1 ?side2 A5.out).mono ?_); (case side1 => repeat (first | exact (Kd.C_below HR0_3.out HB.out) | (with_reducible refine Kd.C_alloc ?_ _) | (with_reducible refine Kd.C_drewN ?_ _) | (with_reducible refine Kd.C_drew ?_))); (case side2 => exact HC0_3.out); rintro e w' ⟨rfl, ⟨nd, rfl⟩⟩))
        go_ret
        exact ⟨by first | rfl | (simp [iP, iO] <;> rfl) | (simp [*, iP, iO] <;> rfl), by repeat (first | (with_reducible first | exact HB.out | apply iF | apply iG | apply iI | refine iK ?_ GE135.out) | exact HB.out)⟩
    · replace c4 := Bool.eq_false_iff.mpr c4
      subst c4
      have H1 : (some false) = some r := by rw [if_neg (show ¬ (false = true) by decide)] at H; exact H
      clear H
      have H := H1
      clear H1
      obtain rfl := Option.some.inj H
      go_enter Tryd.func20, Tryd.ntmps20
      go_wp2_with (first | ((with_reducible refine jT (N := 1) rfl ?_); refine jK ?hg (N := 1) ?hd (cs := #[.int .u8 a0_0, .int .u32 a0_1, .int .u32 a0_2, .slice A0_3 l0_3.length c0_3, .slice A0_4 l0_4.length c0_4, .int .u32 a0_5, .slice A0_6 l0_6.length c0_6, .int .i64 a0_7, .int .i64 a0_8, .slice A0_9 l0_9.length c0_9]) (t := 30) ?hr ?_; (case hd => rfl); (case hg => rfl); (case hr => first | (go_simp; done) | (go_simp; rfl)); intro gb135 hg w16 hbox hb; have n0_ := iC.mk (iH hb_ hb); have n1_ := iC.mk (hbox); have n2_ := iC.mk ((by rw [hg]; exact (iR hb_) : w.heap.size ≤ gb135)); have n3_ := iC.mk ((by rw [hg]; exact (iR hb_) : w.heap.size ≤ gb135)); clear HB; have HB := n0_; have BK135 := n1_; have GW135 := n2_; have GE135 := n3_; clear n0_ n1_ n2_ n3_; clear hb hbox hg; have hcz17_0 : w16.cell? ⟨gb135, 0, none⟩ = some (.int .u8 a0_0) := (iE BK135.out 0).trans rfl; have hcz17_1 : w16.cell? ⟨gb135, 1, none⟩ = some (.int .u32 a0_1) := (iE BK135.out 1).trans rfl; have hcz17_2 : w16.cell? ⟨gb135, 2, none⟩ = some (.int .u32 a0_2) := (iE BK135.out 2).trans rfl; have hcz17_3 : w16.cell? ⟨gb135, 3, none⟩ = some (.slice A0_3 l0_3.length c0_3) := (iE BK135.out 3).trans rfl; have hcz17_4 : w16.cell? ⟨gb135, 4, none⟩ = some (.slice A0_4 l0_4.length c0_4) := (iE BK135.out 4).trans rfl; have hcz17_5 : w16.cell? ⟨gb135, 5, none⟩ = some (.int .u32 a0_5) := (iE BK135.out 5).trans rfl; have hcz17_6 : w16.cell? ⟨gb135, 6, none⟩ = some (.slice A0_6 l0_6.length c0_6) := (iE BK135.out 6).trans rfl; have hcz17_7 : w16.cell? ⟨gb135, 7, none⟩ = some (.int .i64 a0_7) := (iE BK135.out 7).trans rfl; have hcz17_8 : w16.cell? ⟨gb135, 8, none⟩ = some (.int .i64 a0_8) := (iE BK135.out 8).trans rfl; have hcz17_9 : w16.cell? ⟨gb135, 9, none⟩ = some (.slice A0_9 l0_9.length c0_9) := (iE BK135.out 9).trans rfl; have hfz17_0 := iD BK135.out 0; have hfz17_1 := iD BK135.out 1; have hfz17_2 := iD BK135.out 2; have hfz17_3 := iD BK135.out 3; have hfz17_4 := iD BK135.out 4; have hfz17_5 := iD BK135.out 5; have hfz17_6 := iD BK135.out 6; have hfz17_7 := iD BK135.out 7; have hfz17_8 := iD BK135.out 8; have hfz17_9 := iD BK135.out 9) | ((with_reducible refine jM (f := 68) rfl ?_); refine mP (some 8) rfl rfl Tryd.func68 (by kernel_rfl) rfl #[.agg #[.int .u8 a0_0, .int .u32 a0_1, .int .u32 a0_2, .slice A0_3 l0_3.length c0_3, .slice A0_4 l0_4.length c0_4, .int .u32 a0_5, .slice A0_6 l0_6.length c0_6, .int .i64 a0_7, .int .i64 a0_8, .slice A0_9 l0_9.length c0_9], .string (⟨#[73, 78, 70]⟩ : ByteArray)] rfl (by (try simp only [List.map_toArray, List.map_cons, List.map_nil]); first | done | rfl | (simp only [List.length_drop, List.length_take]; rfl)) ?_; (with_reducible refine (stratumref07_bare.calls a0_0 a0_1 a0_2 _ _ l0_3 _ _ l0_4 a0_5 _ _ l0_6 a0_7 a0_8 _ _ l0_9 (⟨#[73, 78, 70]⟩ : ByteArray) false _ ?side1 ?side2 ?side3 ?side4 ?side5 ?side6 ?side7 ?side8 A3.out).mono ?_); (case side1 => repeat (first | exact (Kd.C_below HR0_3.out HB.out) | (with_reducible refine Kd.C_alloc ?_ _) | (with_reducible refine Kd.C_drewN ?_ _) | (with_reducible refine Kd.C_drew ?_))); (case side2 => exact HC0_3.out); (case side3 => repeat (first | exact (Kd.C_below HR0_4.out HB.out) | (with_reducible refine Kd.C_alloc ?_ _) | (with_reducible refine Kd.C_drewN ?_ _) | (with_reducible refine Kd.C_drew ?_))); (case side4 => exact HC0_4.out); (case side5 => repeat (first | exact (Kd.C_below HR0_6.out HB.out) | (with_reducible refine Kd.C_alloc ?_ _) | (with_reducible refine Kd.C_drewN ?_ _) | (with_reducible refine Kd.C_drew ?_))); (case side6 => exact HC0_6.out); (case side7 => repeat (first | exact (Kd.C_below HR0_9.out HB.out) | (with_reducible refine Kd.C_alloc ?_ _) | (with_reducible refine Kd.C_drewN ?_ _) | (with_reducible refine Kd.C_drew ?_))); (case side8 => exact HC0_9.out); rintro e w18 ⟨rfl, hb⟩; refine ⟨_, rfl, ?_⟩; have n0_ := iC.mk (jI (g := gb135) (o := .cells #[.int .u8 a0_0, .int .u32 a0_1, .int .u32 a0_2, .slice A0_3 l0_3.length c0_3, .slice A0_4 l0_4.length c0_4, .int .u32 a0_5, .slice A0_6 l0_6.length c0_6, .int .i64 a0_7, .int .i64 a0_8, .slice A0_9 l0_9.length c0_9] 30 (0, 0)) (bk_ BK135.out) hb); have n1_ := iC.mk (iH (by repeat (first | (with_reducible first | exact HB.out | apply iF | apply iG | apply iI | refine iK ?_ GE135.out) | exact HB.out)) hb); clear BK135; clear HB; have BK135 := n0_; have HB := n1_; clear n0_ n1_; (try clear hb); (try clear hb2); (try clear hk); (try clear hi)))
      go_ret
      exact ⟨by first | rfl | (simp [iP, iO] <;> rfl) | (simp [*, iP, iO] <;> rfl), by repeat (first | (with_reducible first | exact HB.out | apply iF | apply iG | apply iI | refine iK ?_ GE135.out) | exact HB.out)⟩
  · rw [if_neg c2] at H
    have c2b0 : (a0_0 == 1) = false := beq_eq_false_iff_ne.mpr c2
    have c2b1 : (a0_0 != 1) = true := bne_iff_ne.mpr c2
    by_cases c19 : a0_0 = 2
    · rw [if_pos c19] at H
      have c19b0 : (a0_0 == 2) = true := beq_iff_eq.mpr c19
      have c19b1 : (a0_0 != 2) = false := bne_eq_false_iff_eq.mpr c19
      clear c19
      replace H := Option.bind_eq_some_iff.mp H
      obtain ⟨t139, A200, H⟩ := H
      replace H : (if t139 = true then ((stratumref07_SoundNodes.f k l0_3).bind fun t140 => (some t140)) else (some false)) = some r := H
      have A20 := iC.mk A200
      clear A200
      by_cases c21 : t139 = true
      · subst c21
        have H1 : ((stratumref07_SoundNodes.f k l0_3).bind fun t140 => (some t140)) = some r := by rw [if_pos rfl] at H; exact H
        clear H
        have H := H1
        clear H1
        replace H := Option.bind_eq_some_iff.mp H
        obtain ⟨t140, A220, H⟩ := H
        replace H : (some t140) = some r := H
        have A22 := iC.mk A220
        clear A220
        obtain rfl := Option.some.inj H
        go_enter Tryd.func20, Tryd.ntmps20
        go_wp2_with (first | ((with_reducible refine jT (N := 1) rfl ?_); refine jK ?hg (N := 1) ?hd (cs := #[.int .u8 a0_0, .int .u32 a0_1, .int .u32 a0_2, .slice A0_3 l0_3.length c0_3, .slice A0_4 l0_4.length c0_4, .int .u32 a0_5, .slice A0_6 l0_6.length c0_6, .int .i64 a0_7, .int .i64 a0_8, .slice A0_9 l0_9.length c0_9]) (t := 30) ?hr ?_; (case hd => rfl); (case hg => rfl); (case hr => first | (go_simp; done) | (go_simp; rfl)); intro gb135 hg w23 hbox hb; have n0_ := iC.mk (iH hb_ hb); have n1_ := iC.mk (hbox); have n2_ := iC.mk ((by rw [hg]; exact (iR hb_) : w.heap.size ≤ gb135)); have n3_ := iC.mk ((by rw [hg]; exact (iR hb_) : w.heap.size ≤ gb135)); clear HB; have HB := n0_; have BK135 := n1_; have GW135 := n2_; have GE135 := n3_; clear n0_ n1_ n2_ n3_; clear hb hbox hg; have hcz24_0 : w23.cell? ⟨gb135, 0, none⟩ = some (.int .u8 a0_0) := (iE BK135.out 0).trans rfl; have hcz24_1 : w23.cell? ⟨gb135, 1, none⟩ = some (.int .u32 a0_1) := (iE BK135.out 1).trans rfl; have hcz24_2 : w23.cell? ⟨gb135, 2, none⟩ = some (.int .u32 a0_2) := (iE BK135.out 2).trans rfl; have hcz24_3 : w23.cell? ⟨gb135, 3, none⟩ = some (.slice A0_3 l0_3.length c0_3) := (iE BK135.out 3).trans rfl; have hcz24_4 : w23.cell? ⟨gb135, 4, none⟩ = some (.slice A0_4 l0_4.length c0_4) := (iE BK135.out 4).trans rfl; have hcz24_5 : w23.cell? ⟨gb135, 5, none⟩ = some (.int .u32 a0_5) := (iE BK135.out 5).trans rfl; have hcz24_6 : w23.cell? ⟨gb135, 6, none⟩ = some (.slice A0_6 l0_6.length c0_6) := (iE BK135.out 6).trans rfl; have hcz24_7 : w23.cell? ⟨gb135, 7, none⟩ = some (.int .i64 a0_7) := (iE BK135.out 7).trans rfl; have hcz24_8 : w23.cell? ⟨gb135, 8, none⟩ = some (.int .i64 a0_8) := (iE BK135.out 8).trans rfl; have hcz24_9 : w23.cell? ⟨gb135, 9, none⟩ = some (.slice A0_9 l0_9.length c0_9) := (iE BK135.out 9).trans rfl; have hfz24_0 := iD BK135.out 0; have hfz24_1 := iD BK135.out 1; have hfz24_2 := iD BK135.out 2; have hfz24_3 := iD BK135.out 3; have hfz24_4 := iD BK135.out 4; have hfz24_5 := iD BK135.out 5; have hfz24_6 := iD BK135.out 6; have hfz24_7 := iD BK135.out 7; have hfz24_8 := iD BK135.out 8; have hfz24_9 := iD BK135.out 9) | ((with_reducible refine jM (f := 68) rfl ?_); refine mP (some 22) rfl rfl Tryd.func68 (by kernel_rfl) rfl #[.agg #[.int .u8 a0_0, .int .u32 a0_1, .int .u32 a0_2, .slice A0_3 l0_3.length c0_3, .slice A0_4 l0_4.length c0_4, .int .u32 a0_5, .slice A0_6 l0_6.length c0_6, .int .i64 a0_7, .int .i64 a0_8, .slice A0_9 l0_9.length c0_9], .string (⟨#[73, 65, 78]⟩ : ByteArray)] rfl (by (try simp only [List.map_toArray, List.map_cons, List.map_nil]); first | done | rfl | (simp only [List.length_drop, List.length_take]; rfl)) ?_; (with_reducible refine (stratumref07_bare.calls a0_0 a0_1 a0_2 _ _ l0_3 _ _ l0_4 a0_5 _ _ l0_6 a0_7 a0_8 _ _ l0_9 (⟨#[73, 65, 78]⟩ : ByteArray) true _ ?side1 ?side2 ?side3 ?side4 ?side5 ?side6 ?side7 ?side8 A20.out).mono ?_); (case side1 => repeat (first | exact (Kd.C_below HR0_3.out HB.out) | (with_reducible refine Kd.C_alloc ?_ _) | (with_reducible refine Kd.C_drewN ?_ _) | (with_reducible refine Kd.C_drew ?_))); (case side2 => exact HC0_3.out); (case side3 => repeat (first | exact (Kd.C_below HR0_4.out HB.out) | (with_reducible refine Kd.C_alloc ?_ _) | (with_reducible refine Kd.C_drewN ?_ _) | (with_reducible refine Kd.C_drew ?_))); (case side4 => exact HC0_4.out); (case side5 => repeat (first | exact (Kd.C_below HR0_6.out HB.out) | (with_reducible refine Kd.C_alloc ?_ _) | (with_reducible refine Kd.C_drewN ?_ _) | (with_reducible refine Kd.C_drew ?_))); (case side6 => exact HC0_6.out); (case side7 => repeat (first | exact (Kd.C_below HR0_9.out HB.out) | (with_reducible refine Kd.C_alloc ?_ _) | (with_reducible refine Kd.C_drewN ?_ _) | (with_reducible refine Kd.C_drew ?_))); (case side8 => exact HC0_9.out); rintro e w25 ⟨rfl, hb⟩; refine ⟨_, rfl, ?_⟩; have n0_ := iC.mk (jI (g := gb135) (o := .cells #[.int .u8 a0_0, .int .u32 a0_1, .int .u32 a0_2, .slice A0_3 l0_3.length c0_3, .slice A0_4 l0_4.length c0_4, .int .u32 a0_5, .slice A0_6 l0_6.length c0_6, .int .i64 a0_7, .int .i64 a0_8, .slice A0_9 l0_9.length c0_9] 30 (0, 0)) (bk_ BK135.out) hb); have n1_ := iC.mk (iH (by repeat (first | (with_reducible first | exact HB.out | apply iF | apply iG | apply iI | refine iK ?_ GE135.out) | exact HB.out)) hb); clear BK135; clear HB; have BK135 := n0_; have HB := n1_; clear n0_ n1_; (try clear hb); (try clear hb2); (try clear hk); (try clear hi); have hcz26_0 : w25.cell? ⟨gb135, 0, none⟩ = some (.int .u8 a0_0) := (iE BK135.out 0).trans rfl; have hcz26_1 : w25.cell? ⟨gb135, 1, none⟩ = some (.int .u32 a0_1) := (iE BK135.out 1).trans rfl; have hcz26_2 : w25.cell? ⟨gb135, 2, none⟩ = some (.int .u32 a0_2) := (iE BK135.out 2).trans rfl; have hcz26_3 : w25.cell? ⟨gb135, 3, none⟩ = some (.slice A0_3 l0_3.length c0_3) := (iE BK135.out 3).trans rfl; have hcz26_4 : w25.cell? ⟨gb135, 4, none⟩ = some (.slice A0_4 l0_4.length c0_4) := (iE BK135.out 4).trans rfl; have hcz26_5 : w25.cell? ⟨gb135, 5, none⟩ = some (.int .u32 a0_5) := (iE BK135.out 5).trans rfl; have hcz26_6 : w25.cell? ⟨gb135, 6, none⟩ = some (.slice A0_6 l0_6.length c0_6) := (iE BK135.out 6).trans rfl; have hcz26_7 : w25.cell? ⟨gb135, 7, none⟩ = some (.int .i64 a0_7) := (iE BK135.out 7).trans rfl; have hcz26_8 : w25.cell? ⟨gb135, 8, none⟩ = some (.int .i64 a0_8) := (iE BK135.out 8).trans rfl; have hcz26_9 : w25.cell? ⟨gb135, 9, none⟩ = some (.slice A0_9 l0_9.length c0_9) := (iE BK135.out 9).trans rfl; have hfz26_0 := iD BK135.out 0; have hfz26_1 := iD BK135.out 1; have hfz26_2 := iD BK135.out 2; have hfz26_3 := iD BK135.out 3; have hfz26_4 := iD BK135.out 4; have hfz26_5 := iD BK135.out 5; have hfz26_6 := iD BK135.out 6; have hfz26_7 := iD BK135.out 7; have hfz26_8 := iD BK135.out 8; have hfz26_9 := iD BK135.out 9) | (go_at_call 69; (with_reducible refine (stratumref07_SoundNodes.calls k _ _ l0_3 t140 _ ?side1 ?side2 A22.out).mono ?_); (case side1 => repeat (first | exact (Kd.C_below HR0_3.out HB.out) | (with_reducible refine Kd.C_alloc ?_ _) | (with_reducible refine Kd.C_drewN ?_ _) | (with_reducible refine Kd.C_drew ?_))); (case side2 => exact HC0_3.out); rintro e w' ⟨rfl, ⟨nd, rfl⟩⟩))
        go_ret
        exact ⟨by first | rfl | (simp [iP, iO] <;> rfl) | (simp [*, iP, iO] <;> rfl), by repeat (first | (with_reducible first | exact HB.out | apply iF | apply iG | apply iI | refine iK ?_ GE135.out) | exact HB.out)⟩
      · replace c21 := Bool.eq_false_iff.mpr c21
        subst c21
        have H1 : (some false) = some r := by rw [if_neg (show ¬ (false = true) by decide)] at H; exact H
        clear H
        have H := H1
        clear H1
        obtain rfl := Option.some.inj H
        go_enter Tryd.func20, Tryd.ntmps20
        go_wp2_with (first | ((with_reducible refine jT (N := 1) rfl ?_); refine jK ?hg (N := 1) ?hd (cs := #[.int .u8 a0_0, .int .u32 a0_1, .int .u32 a0_2, .slice A0_3 l0_3.length c0_3, .slice A0_4 l0_4.length c0_4, .int .u32 a0_5, .slice A0_6 l0_6.length c0_6, .int .i64 a0_7, .int .i64 a0_8, .slice A0_9 l0_9.length c0_9]) (t := 30) ?hr ?_; (case hd => rfl); (case hg => rfl); (case hr => first | (go_simp; done) | (go_simp; rfl)); intro gb135 hg w27 hbox hb; have n0_ := iC.mk (iH hb_ hb); have n1_ := iC.mk (hbox); have n2_ := iC.mk ((by rw [hg]; exact (iR hb_) : w.heap.size ≤ gb135)); have n3_ := iC.mk ((by rw [hg]; exact (iR hb_) : w.heap.size ≤ gb135)); clear HB; have HB := n0_; have BK135 := n1_; have GW135 := n2_; have GE135 := n3_; clear n0_ n1_ n2_ n3_; clear hb hbox hg; have hcz28_0 : w27.cell? ⟨gb135, 0, none⟩ = some (.int .u8 a0_0) := (iE BK135.out 0).trans rfl; have hcz28_1 : w27.cell? ⟨gb135, 1, none⟩ = some (.int .u32 a0_1) := (iE BK135.out 1).trans rfl; have hcz28_2 : w27.cell? ⟨gb135, 2, none⟩ = some (.int .u32 a0_2) := (iE BK135.out 2).trans rfl; have hcz28_3 : w27.cell? ⟨gb135, 3, none⟩ = some (.slice A0_3 l0_3.length c0_3) := (iE BK135.out 3).trans rfl; have hcz28_4 : w27.cell? ⟨gb135, 4, none⟩ = some (.slice A0_4 l0_4.length c0_4) := (iE BK135.out 4).trans rfl; have hcz28_5 : w27.cell? ⟨gb135, 5, none⟩ = some (.int .u32 a0_5) := (iE BK135.out 5).trans rfl; have hcz28_6 : w27.cell? ⟨gb135, 6, none⟩ = some (.slice A0_6 l0_6.length c0_6) := (iE BK135.out 6).trans rfl; have hcz28_7 : w27.cell? ⟨gb135, 7, none⟩ = some (.int .i64 a0_7) := (iE BK135.out 7).trans rfl; have hcz28_8 : w27.cell? ⟨gb135, 8, none⟩ = some (.int .i64 a0_8) := (iE BK135.out 8).trans rfl; have hcz28_9 : w27.cell? ⟨gb135, 9, none⟩ = some (.slice A0_9 l0_9.length c0_9) := (iE BK135.out 9).trans rfl; have hfz28_0 := iD BK135.out 0; have hfz28_1 := iD BK135.out 1; have hfz28_2 := iD BK135.out 2; have hfz28_3 := iD BK135.out 3; have hfz28_4 := iD BK135.out 4; have hfz28_5 := iD BK135.out 5; have hfz28_6 := iD BK135.out 6; have hfz28_7 := iD BK135.out 7; have hfz28_8 := iD BK135.out 8; have hfz28_9 := iD BK135.out 9) | ((with_reducible refine jM (f := 68) rfl ?_); refine mP (some 22) rfl rfl Tryd.func68 (by kernel_rfl) rfl #[.agg #[.int .u8 a0_0, .int .u32 a0_1, .int .u32 a0_2, .slice A0_3 l0_3.length c0_3, .slice A0_4 l0_4.length c0_4, .int .u32 a0_5, .slice A0_6 l0_6.length c0_6, .int .i64 a0_7, .int .i64 a0_8, .slice A0_9 l0_9.length c0_9], .string (⟨#[73, 65, 78]⟩ : ByteArray)] rfl (by (try simp only [List.map_toArray, List.map_cons, List.map_nil]); first | done | rfl | (simp only [List.length_drop, List.length_take]; rfl)) ?_; (with_reducible refine (stratumref07_bare.calls a0_0 a0_1 a0_2 _ _ l0_3 _ _ l0_4 a0_5 _ _ l0_6 a0_7 a0_8 _ _ l0_9 (⟨#[73, 65, 78]⟩ : ByteArray) false _ ?side1 ?side2 ?side3 ?side4 ?side5 ?side6 ?side7 ?side8 A20.out).mono ?_); (case side1 => repeat (first | exact (Kd.C_below HR0_3.out HB.out) | (with_reducible refine Kd.C_alloc ?_ _) | (with_reducible refine Kd.C_drewN ?_ _) | (with_reducible refine Kd.C_drew ?_))); (case side2 => exact HC0_3.out); (case side3 => repeat (first | exact (Kd.C_below HR0_4.out HB.out) | (with_reducible refine Kd.C_alloc ?_ _) | (with_reducible refine Kd.C_drewN ?_ _) | (with_reducible refine Kd.C_drew ?_))); (case side4 => exact HC0_4.out); (case side5 => repeat (first | exact (Kd.C_below HR0_6.out HB.out) | (with_reducible refine Kd.C_alloc ?_ _) | (with_reducible refine Kd.C_drewN ?_ _) | (with_reducible refine Kd.C_drew ?_))); (case side6 => exact HC0_6.out); (case side7 => repeat (first | exact (Kd.C_below HR0_9.out HB.out) | (with_reducible refine Kd.C_alloc ?_ _) | (with_reducible refine Kd.C_drewN ?_ _) | (with_reducible refine Kd.C_drew ?_))); (case side8 => exact HC0_9.out); rintro e w29 ⟨rfl, hb⟩; refine ⟨_, rfl, ?_⟩; have n0_ := iC.mk (jI (g := gb135) (o := .cells #[.int .u8 a0_0, .int .u32 a0_1, .int .u32 a0_2, .slice A0_3 l0_3.length c0_3, .slice A0_4 l0_4.length c0_4, .int .u32 a0_5, .slice A0_6 l0_6.length c0_6, .int .i64 a0_7, .int .i64 a0_8, .slice A0_9 l0_9.length c0_9] 30 (0, 0)) (bk_ BK135.out) hb); have n1_ := iC.mk (iH (by repeat (first | (with_reducible first | exact HB.out | apply iF | apply iG | apply iI | refine iK ?_ GE135.out) | exact HB.out)) hb); clear BK135; clear HB; have BK135 := n0_; have HB := n1_; clear n0_ n1_; (try clear hb); (try clear hb2); (try clear hk); (try clear hi)))
        go_ret
        exact ⟨by first | rfl | (simp [iP, iO] <;> rfl) | (simp [*, iP, iO] <;> rfl), by repeat (first | (with_reducible first | exact HB.out | apply iF | apply iG | apply iI | refine iK ?_ GE135.out) | exact HB.out)⟩
    · rw [if_neg c19] at H
      have c19b0 : (a0_0 == 2) = false := beq_eq_false_iff_ne.mpr c19
      have c19b1 : (a0_0 != 2) = true := bne_iff_ne.mpr c19
      have HC30 := iC.mk H
      clear H
      go_enter Tryd.func20, Tryd.ntmps20
      go_upto_if 28 with (first | ((with_reducible refine jT (N := 1) rfl ?_); refine jK ?hg (N := 1) ?hd (cs := #[.int .u8 a0_0, .int .u32 a0_1, .int .u32 a0_2, .slice A0_3 l0_3.length c0_3, .slice A0_4 l0_4.length c0_4, .int .u32 a0_5, .slice A0_6 l0_6.length c0_6, .int .i64 a0_7, .int .i64 a0_8, .slice A0_9 l0_9.length c0_9]) (t := 30) ?hr ?_; (case hd => rfl); (case hg => rfl); (case hr => first | (go_simp; done) | (go_simp; rfl)); intro gb135 hg w31 hbox hb; have n0_ := iC.mk (iH hb_ hb); have n1_ := iC.mk (hbox); have n2_ := iC.mk ((by rw [hg]; exact (iR hb_) : w.heap.size ≤ gb135)); have n3_ := iC.mk ((by rw [hg]; exact (iR hb_) : w.heap.size ≤ gb135)); clear HB; have HB := n0_; have BK135 := n1_; have GW135 := n2_; have GE135 := n3_; clear n0_ n1_ n2_ n3_; clear hb hbox hg; have hcz32_0 : w31.cell? ⟨gb135, 0, none⟩ = some (.int .u8 a0_0) := (iE BK135.out 0).trans rfl; have hcz32_1 : w31.cell? ⟨gb135, 1, none⟩ = some (.int .u32 a0_1) := (iE BK135.out 1).trans rfl; have hcz32_2 : w31.cell? ⟨gb135, 2, none⟩ = some (.int .u32 a0_2) := (iE BK135.out 2).trans rfl; have hcz32_3 : w31.cell? ⟨gb135, 3, none⟩ = some (.slice A0_3 l0_3.length c0_3) := (iE BK135.out 3).trans rfl; have hcz32_4 : w31.cell? ⟨gb135, 4, none⟩ = some (.slice A0_4 l0_4.length c0_4) := (iE BK135.out 4).trans rfl; have hcz32_5 : w31.cell? ⟨gb135, 5, none⟩ = some (.int .u32 a0_5) := (iE BK135.out 5).trans rfl; have hcz32_6 : w31.cell? ⟨gb135, 6, none⟩ = some (.slice A0_6 l0_6.length c0_6) := (iE BK135.out 6).trans rfl; have hcz32_7 : w31.cell? ⟨gb135, 7, none⟩ = some (.int .i64 a0_7) := (iE BK135.out 7).trans rfl; have hcz32_8 : w31.cell? ⟨gb135, 8, none⟩ = some (.int .i64 a0_8) := (iE BK135.out 8).trans rfl; have hcz32_9 : w31.cell? ⟨gb135, 9, none⟩ = some (.slice A0_9 l0_9.length c0_9) := (iE BK135.out 9).trans rfl; have hfz32_0 := iD BK135.out 0; have hfz32_1 := iD BK135.out 1; have hfz32_2 := iD BK135.out 2; have hfz32_3 := iD BK135.out 3; have hfz32_4 := iD BK135.out 4; have hfz32_5 := iD BK135.out 5; have hfz32_6 := iD BK135.out 6; have hfz32_7 := iD BK135.out 7; have hfz32_8 := iD BK135.out 8; have hfz32_9 := iD BK135.out 9))
      (try simp only [Act.put, List.setIfInBounds_toArray, List.set_cons_zero, List.set_cons_succ])
      go_cut [28] (fun v28 wc => ∃ (kq : Nat) (x28_29 : Bool), v28 = .bool x28_29 ∧ iC (stratumref07_Sound.j0 kq a0_0 x28_29 a0_0 a0_1 a0_2 l0_3 l0_4 a0_5 l0_6 a0_7 a0_8 l0_9 = some r) ∧ iC (kq ≤ k) ∧ iC (wc.heap[gb135]? = some (.cells #[.int .u8 a0_0, .int .u32 a0_1, .int .u32 a0_2, (.slice A0_3 l0_3.length c0_3), (.slice A0_4 l0_4.length c0_4), .int .u32 a0_5, (.slice A0_6 l0_6.length c0_6), .int .i64 a0_7, .int .i64 a0_8, (.slice A0_9 l0_9.length c0_9)] 30 (0, 0))) ∧ iC (Below w.heap.size w wc))
      case first =>
        have H := HC30.out
        clear HC30
        by_cases c33 : a0_0 = 3
        · rw [if_pos c33] at H
          have c33b0 : (a0_0 == 3) = true := beq_iff_eq.mpr c33
          have c33b1 : (a0_0 != 3) = false := bne_eq_false_iff_eq.mpr c33
          clear c33
          (first | rw [c33b0] | (simp only [iU, iY]; rw [c33b0]) | skip)
          have H' := iC.mk H
          clear H
          go_wp2
          go_meet
          case rel => exact ⟨_, ((a0_0 == 3)), (by first | rfl | (simp; done) | (simp [*]; done)), H', ⟨by first | omega | exact Nat.le_refl _⟩, ⟨bk_ BK135.out⟩, ⟨by repeat (first | (with_reducible first | exact HB.out | apply iF | apply iG | apply iI | refine iK ?_ GE135.out) | exact HB.out)⟩⟩
        · rw [if_neg c33] at H
          have c33b0 : (a0_0 == 3) = false := beq_eq_false_iff_ne.mpr c33
          have c33b1 : (a0_0 != 3) = true := bne_iff_ne.mpr c33
          (first | rw [c33b0] | (simp only [iU, iY]; rw [c33b0]) | skip)
          by_cases c34 : a0_0 = 4
          · rw [if_pos c34] at H
            have c34b0 : (a0_0 == 4) = true := beq_iff_eq.mpr c34
            have c34b1 : (a0_0 != 4) = false := bne_eq_false_iff_eq.mpr c34
            clear c34
            have H' := iC.mk H
            clear H
            go_wp2
            go_meet
            case rel => exact ⟨_, ((a0_0 == 4)), (by first | rfl | (simp; done) | (simp [*]; done)), H', ⟨by first | omega | exact Nat.le_refl _⟩, ⟨bk_ BK135.out⟩, ⟨by repeat (first | (with_reducible first | exact HB.out | apply iF | apply iG | apply iI | refine iK ?_ GE135.out) | exact HB.out)⟩⟩
          · rw [if_neg c34] at H
            have c34b0 : (a0_0 == 4) = false := beq_eq_false_iff_ne.mpr c34
            have c34b1 : (a0_0 != 4) = true := bne_iff_ne.mpr c34
            have H' := iC.mk H
            clear H
            go_wp2
            go_meet
            case rel => exact ⟨_, ((a0_0 == 5)), (by first | rfl | (simp; done) | (simp [*]; done)), H', ⟨by first | omega | exact Nat.le_refl _⟩, ⟨bk_ BK135.out⟩, ⟨by repeat (first | (with_reducible first | exact HB.out | apply iF | apply iG | apply iI | refine iK ?_ GE135.out) | exact HB.out)⟩⟩
      case rest =>
        clear HC30
        try clear c1
        try clear c2
        try clear c2b0
        try clear c2b1
        try clear p2
        try clear c3
        try clear c4
        try clear c6
        try clear c19
        try clear c19b0
        try clear c19b1
        try clear c20
        try clear c21
        try clear c33
        try clear c33b0
        try clear c33b1
        try clear c34
        try clear c34b0
        try clear c34b1
        try clear hcz11_0
        try clear hcz11_1
        try clear hcz11_2
        try clear hcz11_3
        try clear hcz11_4
        try clear hcz11_5
        try clear hcz11_6
        try clear hcz11_7
        try clear hcz11_8
        try clear hcz11_9
        try clear hcz13_0
        try clear hcz13_1
        try clear hcz13_2
        try clear hcz13_3
        try clear hcz13_4
        try clear hcz13_5
        try clear hcz13_6
        try clear hcz13_7
        try clear hcz13_8
        try clear hcz13_9
        try clear hcz15_0
        try clear hcz15_1
        try clear hcz15_2
        try clear hcz15_3
        try clear hcz15_4
        try clear hcz15_5
        try clear hcz15_6
        try clear hcz15_7
        try clear hcz15_8
        try clear hcz15_9
        try clear hcz17_0
        try clear hcz17_1
        try clear hcz17_2
        try clear hcz17_3
        try clear hcz17_4
        try clear hcz17_5
        try clear hcz17_6
        try clear hcz17_7
        try clear hcz17_8
        try clear hcz17_9
        try clear hcz24_0
        try clear hcz24_1
        try clear hcz24_2
        try clear hcz24_3
        try clear hcz24_4
        try clear hcz24_5
        try clear hcz24_6
        try clear hcz24_7
        try clear hcz24_8
        try clear hcz24_9
        try clear hcz26_0
        try clear hcz26_1
        try clear hcz26_2
        try clear hcz26_3
        try clear hcz26_4
        try clear hcz26_5
        try clear hcz26_6
        try clear hcz26_7
        try clear hcz26_8
        try clear hcz26_9
        try clear hcz28_0
        try clear hcz28_1
        try clear hcz28_2
        try clear hcz28_3
        try clear hcz28_4
        try clear hcz28_5
        try clear hcz28_6
        try clear hcz28_7
        try clear hcz28_8
        try clear hcz28_9
        try clear hcz32_0
        try clear hcz32_1
        try clear hcz32_2
        try clear hcz32_3
        try clear hcz32_4
        try clear hcz32_5
        try clear hcz32_6
        try clear hcz32_7
        try clear hcz32_8
        try clear hcz32_9
        try clear hcz9_0
        try clear hcz9_1
        try clear hcz9_2
        try clear hcz9_3
        try clear hcz9_4
        try clear hcz9_5
        try clear hcz9_6
        try clear hcz9_7
        try clear hcz9_8
        try clear hcz9_9
        try clear hfz11_0
        try clear hfz11_1
        try clear hfz11_2
        try clear hfz11_3
        try clear hfz11_4
        try clear hfz11_5
        try clear hfz11_6
        try clear hfz11_7
        try clear hfz11_8
        try clear hfz11_9
        try clear hfz13_0
        try clear hfz13_1
        try clear hfz13_2
        try clear hfz13_3
        try clear hfz13_4
        try clear hfz13_5
        try clear hfz13_6
        try clear hfz13_7
        try clear hfz13_8
        try clear hfz13_9
        try clear hfz15_0
        try clear hfz15_1
        try clear hfz15_2
        try clear hfz15_3
        try clear hfz15_4
        try clear hfz15_5
        try clear hfz15_6
        try clear hfz15_7
        try clear hfz15_8
        try clear hfz15_9
        try clear hfz17_0
        try clear hfz17_1
        try clear hfz17_2
        try clear hfz17_3
        try clear hfz17_4
        try clear hfz17_5
        try clear hfz17_6
        try clear hfz17_7
        try clear hfz17_8
        try clear hfz17_9
        try clear hfz24_0
        try clear hfz24_1
        try clear hfz24_2
        try clear hfz24_3
        try clear hfz24_4
        try clear hfz24_5
        try clear hfz24_6
        try clear hfz24_7
        try clear hfz24_8
        try clear hfz24_9
        try clear hfz26_0
        try clear hfz26_1
        try clear hfz26_2
        try clear hfz26_3
        try clear hfz26_4
        try clear hfz26_5
        try clear hfz26_6
        try clear hfz26_7
        try clear hfz26_8
        try clear hfz26_9
        try clear hfz28_0
        try clear hfz28_1
        try clear hfz28_2
        try clear hfz28_3
        try clear hfz28_4
        try clear hfz28_5
        try clear hfz28_6
        try clear hfz28_7
        try clear hfz28_8
        try clear hfz28_9
        try clear hfz32_0
        try clear hfz32_1
        try clear hfz32_2
        try clear hfz32_3
        try clear hfz32_4
        try clear hfz32_5
        try clear hfz32_6
        try clear hfz32_7
        try clear hfz32_8
        try clear hfz32_9
        try clear hfz9_0
        try clear hfz9_1
        try clear hfz9_2
        try clear hfz9_3
        try clear hfz9_4
        try clear hfz9_5
        try clear hfz9_6
        try clear hfz9_7
        try clear hfz9_8
        try clear hfz9_9
        obtain ⟨kq, x28_29, rfl, HA, HJ29, BK135, HB⟩ := hcut
        cases kq with
        | zero => exact absurd HA.out (by simp [stratumref07_Sound.j0])
        | succ kj29 =>
          have H := HA.out
          clear HA
          simp only [stratumref07_Sound.j0] at H
          by_cases c35 : x28_29 = true
          · subst c35
            have H1 : ((stratumref07_bare.f a0_0 a0_1 a0_2 l0_3 l0_4 a0_5 l0_6 a0_7 a0_8 l0_9 (⟨#[73]⟩ : ByteArray)).bind fun t141 => (some t141)) = some r := by rw [if_pos rfl] at H; exact H
            clear H
            have H := H1
            clear H1
            replace H := Option.bind_eq_some_iff.mp H
            obtain ⟨t141, A360, H⟩ := H
            replace H : (some t141) = some r := H
            have A36 := iC.mk A360
            clear A360
            obtain rfl := Option.some.inj H
            have hcz37_0 : wc.cell? ⟨gb135, 0, none⟩ = some (.int .u8 a0_0) := (iE BK135.out 0).trans rfl
            have hcz37_1 : wc.cell? ⟨gb135, 1, none⟩ = some (.int .u32 a0_1) := (iE BK135.out 1).trans rfl
            have hcz37_2 : wc.cell? ⟨gb135, 2, none⟩ = some (.int .u32 a0_2) := (iE BK135.out 2).trans rfl
            have hcz37_3 : wc.cell? ⟨gb135, 3, none⟩ = some (.slice A0_3 l0_3.length c0_3) := (iE BK135.out 3).trans rfl
            have hcz37_4 : wc.cell? ⟨gb135, 4, none⟩ = some (.slice A0_4 l0_4.length c0_4) := (iE BK135.out 4).trans rfl
            have hcz37_5 : wc.cell? ⟨gb135, 5, none⟩ = some (.int .u32 a0_5) := (iE BK135.out 5).trans rfl
            have hcz37_6 : wc.cell? ⟨gb135, 6, none⟩ = some (.slice A0_6 l0_6.length c0_6) := (iE BK135.out 6).trans rfl
            have hcz37_7 : wc.cell? ⟨gb135, 7, none⟩ = some (.int .i64 a0_7) := (iE BK135.out 7).trans rfl
            have hcz37_8 : wc.cell? ⟨gb135, 8, none⟩ = some (.int .i64 a0_8) := (iE BK135.out 8).trans rfl
            have hcz37_9 : wc.cell? ⟨gb135, 9, none⟩ = some (.slice A0_9 l0_9.length c0_9) := (iE BK135.out 9).trans rfl
            have hfz37_0 := iD BK135.out 0
            have hfz37_1 := iD BK135.out 1
            have hfz37_2 := iD BK135.out 2
            have hfz37_3 := iD BK135.out 3
            have hfz37_4 := iD BK135.out 4
            have hfz37_5 := iD BK135.out 5
            have hfz37_6 := iD BK135.out 6
            have hfz37_7 := iD BK135.out 7
            have hfz37_8 := iD BK135.out 8
            have hfz37_9 := iD BK135.out 9
            go_wp2_with (first | ((with_reducible refine jM (f := 68) rfl ?_); refine mP (some 33) rfl rfl Tryd.func68 (by kernel_rfl) rfl #[.agg #[.int .u8 a0_0, .int .u32 a0_1, .int .u32 a0_2, .slice A0_3 l0_3.length c0_3, .slice A0_4 l0_4.length c0_4, .int .u32 a0_5, .slice A0_6 l0_6.length c0_6, .int .i64 a0_7, .int .i64 a0_8, .slice A0_9 l0_9.length c0_9], .string (⟨#[73]⟩ : ByteArray)] rfl (by (try simp only [List.map_toArray, List.map_cons, List.map_nil]); first | done | rfl | (simp only [List.length_drop, List.length_take]; rfl)) ?_; (with_reducible refine (stratumref07_bare.calls a0_0 a0_1 a0_2 _ _ l0_3 _ _ l0_4 a0_5 _ _ l0_6 a0_7 a0_8 _ _ l0_9 (⟨#[73]⟩ : ByteArray) t141 _ ?side1 ?side2 ?side3 ?side4 ?side5 ?side6 ?side7 ?side8 A36.out).mono ?_); (case side1 => repeat (first | exact (Kd.C_below HR0_3.out HB.out) | (with_reducible refine Kd.C_alloc ?_ _) | (with_reducible refine Kd.C_drewN ?_ _) | (with_reducible refine Kd.C_drew ?_))); (case side2 => exact HC0_3.out); (case side3 => repeat (first | exact (Kd.C_below HR0_4.out HB.out) | (with_reducible refine Kd.C_alloc ?_ _) | (with_reducible refine Kd.C_drewN ?_ _) | (with_reducible refine Kd.C_drew ?_))); (case side4 => exact HC0_4.out); (case side5 => repeat (first | exact (Kd.C_below HR0_6.out HB.out) | (with_reducible refine Kd.C_alloc ?_ _) | (with_reducible refine Kd.C_drewN ?_ _) | (with_reducible refine Kd.C_drew ?_))); (case side6 => exact HC0_6.out); (case side7 => repeat (first | exact (Kd.C_below HR0_9.out HB.out) | (with_reducible refine Kd.C_alloc ?_ _) | (with_reducible refine Kd.C_drewN ?_ _) | (with_reducible refine Kd.C_drew ?_))); (case side8 => exact HC0_9.out); rintro e w38 ⟨rfl, hb⟩; refine ⟨_, rfl, ?_⟩; have n0_ := iC.mk (jI (g := gb135) (o := .cells #[.int .u8 a0_0, .int .u32 a0_1, .int .u32 a0_2, .slice A0_3 l0_3.length c0_3, .slice A0_4 l0_4.length c0_4, .int .u32 a0_5, .slice A0_6 l0_6.length c0_6, .int .i64 a0_7, .int .i64 a0_8, .slice A0_9 l0_9.length c0_9] 30 (0, 0)) (bk_ BK135.out) hb); have n1_ := iC.mk (iH (by repeat (first | (with_reducible first | exact HB.out | apply iF | apply iG | apply iI | refine iK ?_ GE135.out) | exact HB.out)) hb); clear BK135; clear HB; have BK135 := n0_; have HB := n1_; clear n0_ n1_; (try clear hb); (try clear hb2); (try clear hk); (try clear hi)))
            go_ret
            exact ⟨by first | rfl | (simp [iP, iO] <;> rfl) | (simp [*, iP, iO] <;> rfl), by repeat (first | (with_reducible first | exact HB.out | apply iF | apply iG | apply iI | refine iK ?_ GE135.out) | exact HB.out)⟩
          · replace c35 := Bool.eq_false_iff.mpr c35
            subst c35
            have H1 : (if a0_0 = 6 then ((stratumref07_bare.f a0_0 a0_1 a0_2 l0_3 l0_4 a0_5 l0_6 a0_7 a0_8 l0_9 (⟨#[77]⟩ : ByteArray)).bind fun t142 => (if t142 = true then ((stratumref07_spans.f kj29 l0_6).bind fun t143 => (some t143)) else (some false))) else (if a0_0 = 7 then ((stratumref07_bare.f a0_0 a0_1 a0_2 l0_3 l0_4 a0_5 l0_6 a0_7 a0_8 l0_9 (⟨#[73, 82]⟩ : ByteArray)).bind fun t144 => (if t144 = true then ((stratumref07_SoundEntries.f kj29 l0_9).bind fun t145 => (if t145 = true then (if a0_7 ≥ 0 then (if a0_7 ≤ 10000 then (if a0_8 ≥ 0 then (some (decide (a0_8 ≤ 10000))) else (some false)) else (some false)) else (some false)) else (some false))) else (some false))) else (some false))) = some r := by rw [if_neg (show ¬ (false = true) by decide)] at H; exact H
            clear H
            have H := H1
            clear H1
            by_cases c39 : a0_0 = 6
            · rw [if_pos c39] at H
              have c39b0 : (a0_0 == 6) = true := beq_iff_eq.mpr c39
              have c39b1 : (a0_0 != 6) = false := bne_eq_false_iff_eq.mpr c39
              clear c39
              replace H := Option.bind_eq_some_iff.mp H
              obtain ⟨t142, A400, H⟩ := H
              replace H : (if t142 = true then ((stratumref07_spans.f kj29 l0_6).bind fun t143 => (some t143)) else (some false)) = some r := H
              have A40 := iC.mk A400
              clear A400
              by_cases c41 : t142 = true
              · subst c41
                have H1 : ((stratumref07_spans.f kj29 l0_6).bind fun t143 => (some t143)) = some r := by rw [if_pos rfl] at H; exact H
                clear H
                have H := H1
                clear H1
                replace H := Option.bind_eq_some_iff.mp H
                obtain ⟨t143, A420, H⟩ := H
                replace H : (some t143) = some r := H
                have A42 := iC.mk A420
                clear A420
                obtain rfl := Option.some.inj H
                have hcz43_0 : wc.cell? ⟨gb135, 0, none⟩ = some (.int .u8 a0_0) := (iE BK135.out 0).trans rfl
                have hcz43_1 : wc.cell? ⟨gb135, 1, none⟩ = some (.int .u32 a0_1) := (iE BK135.out 1).trans rfl
                have hcz43_2 : wc.cell? ⟨gb135, 2, none⟩ = some (.int .u32 a0_2) := (iE BK135.out 2).trans rfl
                have hcz43_3 : wc.cell? ⟨gb135, 3, none⟩ = some (.slice A0_3 l0_3.length c0_3) := (iE BK135.out 3).trans rfl
                have hcz43_4 : wc.cell? ⟨gb135, 4, none⟩ = some (.slice A0_4 l0_4.length c0_4) := (iE BK135.out 4).trans rfl
                have hcz43_5 : wc.cell? ⟨gb135, 5, none⟩ = some (.int .u32 a0_5) := (iE BK135.out 5).trans rfl
                have hcz43_6 : wc.cell? ⟨gb135, 6, none⟩ = some (.slice A0_6 l0_6.length c0_6) := (iE BK135.out 6).trans rfl
                have hcz43_7 : wc.cell? ⟨gb135, 7, none⟩ = some (.int .i64 a0_7) := (iE BK135.out 7).trans rfl
                have hcz43_8 : wc.cell? ⟨gb135, 8, none⟩ = some (.int .i64 a0_8) := (iE BK135.out 8).trans rfl
                have hcz43_9 : wc.cell? ⟨gb135, 9, none⟩ = some (.slice A0_9 l0_9.length c0_9) := (iE BK135.out 9).trans rfl
                have hfz43_0 := iD BK135.out 0
                have hfz43_1 := iD BK135.out 1
                have hfz43_2 := iD BK135.out 2
                have hfz43_3 := iD BK135.out 3
                have hfz43_4 := iD BK135.out 4
                have hfz43_5 := iD BK135.out 5
                have hfz43_6 := iD BK135.out 6
                have hfz43_7 := iD BK135.out 7
                have hfz43_8 := iD BK135.out 8
                have hfz43_9 := iD BK135.out 9
                go_wp2_with (first | ((with_reducible refine jM (f := 68) rfl ?_); refine mP (some 37) rfl rfl Tryd.func68 (by kernel_rfl) rfl #[.agg #[.int .u8 a0_0, .int .u32 a0_1, .int .u32 a0_2, .slice A0_3 l0_3.length c0_3, .slice A0_4 l0_4.length c0_4, .int .u32 a0_5, .slice A0_6 l0_6.length c0_6, .int .i64 a0_7, .int .i64 a0_8, .slice A0_9 l0_9.length c0_9], .string (⟨#[77]⟩ : ByteArray)] rfl (by (try simp only [List.map_toArray, List.map_cons, List.map_nil]); first | done | rfl | (simp only [List.length_drop, List.length_take]; rfl)) ?_; (with_reducible refine (stratumref07_bare.calls a0_0 a0_1 a0_2 _ _ l0_3 _ _ l0_4 a0_5 _ _ l0_6 a0_7 a0_8 _ _ l0_9 (⟨#[77]⟩ : ByteArray) true _ ?side1 ?side2 ?side3 ?side4 ?side5 ?side6 ?side7 ?side8 A40.out).mono ?_); (case side1 => repeat (first | exact (Kd.C_below HR0_3.out HB.out) | (with_reducible refine Kd.C_alloc ?_ _) | (with_reducible refine Kd.C_drewN ?_ _) | (with_reducible refine Kd.C_drew ?_))); (case side2 => exact HC0_3.out); (case side3 => repeat (first | exact (Kd.C_below HR0_4.out HB.out) | (with_reducible refine Kd.C_alloc ?_ _) | (with_reducible refine Kd.C_drewN ?_ _) | (with_reducible refine Kd.C_drew ?_))); (case side4 => exact HC0_4.out); (case side5 => repeat (first | exact (Kd.C_below HR0_6.out HB.out) | (with_reducible refine Kd.C_alloc ?_ _) | (with_reducible refine Kd.C_drewN ?_ _) | (with_reducible refine Kd.C_drew ?_))); (case side6 => exact HC0_6.out); (case side7 => repeat (first | exact (Kd.C_below HR0_9.out HB.out) | (with_reducible refine Kd.C_alloc ?_ _) | (with_reducible refine Kd.C_drewN ?_ _) | (with_reducible refine Kd.C_drew ?_))); (case side8 => exact HC0_9.out); rintro e w44 ⟨rfl, hb⟩; refine ⟨_, rfl, ?_⟩; have n0_ := iC.mk (jI (g := gb135) (o := .cells #[.int .u8 a0_0, .int .u32 a0_1, .int .u32 a0_2, .slice A0_3 l0_3.length c0_3, .slice A0_4 l0_4.length c0_4, .int .u32 a0_5, .slice A0_6 l0_6.length c0_6, .int .i64 a0_7, .int .i64 a0_8, .slice A0_9 l0_9.length c0_9] 30 (0, 0)) (bk_ BK135.out) hb); have n1_ := iC.mk (iH (by repeat (first | (with_reducible first | exact HB.out | apply iF | apply iG | apply iI | refine iK ?_ GE135.out) | exact HB.out)) hb); clear BK135; clear HB; have BK135 := n0_; have HB := n1_; clear n0_ n1_; (try clear hb); (try clear hb2); (try clear hk); (try clear hi); have hcz45_0 : w44.cell? ⟨gb135, 0, none⟩ = some (.int .u8 a0_0) := (iE BK135.out 0).trans rfl; have hcz45_1 : w44.cell? ⟨gb135, 1, none⟩ = some (.int .u32 a0_1) := (iE BK135.out 1).trans rfl; have hcz45_2 : w44.cell? ⟨gb135, 2, none⟩ = some (.int .u32 a0_2) := (iE BK135.out 2).trans rfl; have hcz45_3 : w44.cell? ⟨gb135, 3, none⟩ = some (.slice A0_3 l0_3.length c0_3) := (iE BK135.out 3).trans rfl; have hcz45_4 : w44.cell? ⟨gb135, 4, none⟩ = some (.slice A0_4 l0_4.length c0_4) := (iE BK135.out 4).trans rfl; have hcz45_5 : w44.cell? ⟨gb135, 5, none⟩ = some (.int .u32 a0_5) := (iE BK135.out 5).trans rfl; have hcz45_6 : w44.cell? ⟨gb135, 6, none⟩ = some (.slice A0_6 l0_6.length c0_6) := (iE BK135.out 6).trans rfl; have hcz45_7 : w44.cell? ⟨gb135, 7, none⟩ = some (.int .i64 a0_7) := (iE BK135.out 7).trans rfl; have hcz45_8 : w44.cell? ⟨gb135, 8, none⟩ = some (.int .i64 a0_8) := (iE BK135.out 8).trans rfl; have hcz45_9 : w44.cell? ⟨gb135, 9, none⟩ = some (.slice A0_9 l0_9.length c0_9) := (iE BK135.out 9).trans rfl; have hfz45_0 := iD BK135.out 0; have hfz45_1 := iD BK135.out 1; have hfz45_2 := iD BK135.out 2; have hfz45_3 := iD BK135.out 3; have hfz45_4 := iD BK135.out 4; have hfz45_5 := iD BK135.out 5; have hfz45_6 := iD BK135.out 6; have hfz45_7 := iD BK135.out 7; have hfz45_8 := iD BK135.out 8; have hfz45_9 := iD BK135.out 9) | (go_at_call 71; (with_reducible refine (stratumref07_spans.calls kj29 _ _ l0_6 t143 _ ?side1 ?side2 A42.out).mono ?_); (case side1 => repeat (first | exact (Kd.C_below HR0_6.out HB.out) | (with_reducible refine Kd.C_alloc ?_ _) | (with_reducible refine Kd.C_drewN ?_ _) | (with_reducible refine Kd.C_drew ?_))); (case side2 => exact HC0_6.out); rintro e w' ⟨rfl, ⟨nd, rfl⟩⟩))
                go_ret
                exact ⟨by first | rfl | (simp [iP, iO] <;> rfl) | (simp [*, iP, iO] <;> rfl), by repeat (first | (with_reducible first | exact HB.out | apply iF | apply iG | apply iI | refine iK ?_ GE135.out) | exact HB.out)⟩
              · replace c41 := Bool.eq_false_iff.mpr c41
                subst c41
                have H1 : (some false) = some r := by rw [if_neg (show ¬ (false = true) by decide)] at H; exact H
                clear H
                have H := H1
                clear H1
                obtain rfl := Option.some.inj H
                have hcz46_0 : wc.cell? ⟨gb135, 0, none⟩ = some (.int .u8 a0_0) := (iE BK135.out 0).trans rfl
                have hcz46_1 : wc.cell? ⟨gb135, 1, none⟩ = some (.int .u32 a0_1) := (iE BK135.out 1).trans rfl
                have hcz46_2 : wc.cell? ⟨gb135, 2, none⟩ = some (.int .u32 a0_2) := (iE BK135.out 2).trans rfl
                have hcz46_3 : wc.cell? ⟨gb135, 3, none⟩ = some (.slice A0_3 l0_3.length c0_3) := (iE BK135.out 3).trans rfl
                have hcz46_4 : wc.cell? ⟨gb135, 4, none⟩ = some (.slice A0_4 l0_4.length c0_4) := (iE BK135.out 4).trans rfl
                have hcz46_5 : wc.cell? ⟨gb135, 5, none⟩ = some (.int .u32 a0_5) := (iE BK135.out 5).trans rfl
                have hcz46_6 : wc.cell? ⟨gb135, 6, none⟩ = some (.slice A0_6 l0_6.length c0_6) := (iE BK135.out 6).trans rfl
                have hcz46_7 : wc.cell? ⟨gb135, 7, none⟩ = some (.int .i64 a0_7) := (iE BK135.out 7).trans rfl
                have hcz46_8 : wc.cell? ⟨gb135, 8, none⟩ = some (.int .i64 a0_8) := (iE BK135.out 8).trans rfl
                have hcz46_9 : wc.cell? ⟨gb135, 9, none⟩ = some (.slice A0_9 l0_9.length c0_9) := (iE BK135.out 9).trans rfl
                have hfz46_0 := iD BK135.out 0
                have hfz46_1 := iD BK135.out 1
                have hfz46_2 := iD BK135.out 2
                have hfz46_3 := iD BK135.out 3
                have hfz46_4 := iD BK135.out 4
                have hfz46_5 := iD BK135.out 5
                have hfz46_6 := iD BK135.out 6
                have hfz46_7 := iD BK135.out 7
                have hfz46_8 := iD BK135.out 8
                have hfz46_9 := iD BK135.out 9
                go_wp2_with (first | ((with_reducible refine jM (f := 68) rfl ?_); refine mP (some 37) rfl rfl Tryd.func68 (by kernel_rfl) rfl #[.agg #[.int .u8 a0_0, .int .u32 a0_1, .int .u32 a0_2, .slice A0_3 l0_3.length c0_3, .slice A0_4 l0_4.length c0_4, .int .u32 a0_5, .slice A0_6 l0_6.length c0_6, .int .i64 a0_7, .int .i64 a0_8, .slice A0_9 l0_9.length c0_9], .string (⟨#[77]⟩ : ByteArray)] rfl (by (try simp only [List.map_toArray, List.map_cons, List.map_nil]); first | done | rfl | (simp only [List.length_drop, List.length_take]; rfl)) ?_; (with_reducible refine (stratumref07_bare.calls a0_0 a0_1 a0_2 _ _ l0_3 _ _ l0_4 a0_5 _ _ l0_6 a0_7 a0_8 _ _ l0_9 (⟨#[77]⟩ : ByteArray) false _ ?side1 ?side2 ?side3 ?side4 ?side5 ?side6 ?side7 ?side8 A40.out).mono ?_); (case side1 => repeat (first | exact (Kd.C_below HR0_3.out HB.out) | (with_reducible refine Kd.C_alloc ?_ _) | (with_reducible refine Kd.C_drewN ?_ _) | (with_reducible refine Kd.C_drew ?_))); (case side2 => exact HC0_3.out); (case side3 => repeat (first | exact (Kd.C_below HR0_4.out HB.out) | (with_reducible refine Kd.C_alloc ?_ _) | (with_reducible refine Kd.C_drewN ?_ _) | (with_reducible refine Kd.C_drew ?_))); (case side4 => exact HC0_4.out); (case side5 => repeat (first | exact (Kd.C_below HR0_6.out HB.out) | (with_reducible refine Kd.C_alloc ?_ _) | (with_reducible refine Kd.C_drewN ?_ _) | (with_reducible refine Kd.C_drew ?_))); (case side6 => exact HC0_6.out); (case side7 => repeat (first | exact (Kd.C_below HR0_9.out HB.out) | (with_reducible refine Kd.C_alloc ?_ _) | (with_reducible refine Kd.C_drewN ?_ _) | (with_reducible refine Kd.C_drew ?_))); (case side8 => exact HC0_9.out); rintro e w47 ⟨rfl, hb⟩; refine ⟨_, rfl, ?_⟩; have n0_ := iC.mk (jI (g := gb135) (o := .cells #[.int .u8 a0_0, .int .u32 a0_1, .int .u32 a0_2, .slice A0_3 l0_3.length c0_3, .slice A0_4 l0_4.length c0_4, .int .u32 a0_5, .slice A0_6 l0_6.length c0_6, .int .i64 a0_7, .int .i64 a0_8, .slice A0_9 l0_9.length c0_9] 30 (0, 0)) (bk_ BK135.out) hb); have n1_ := iC.mk (iH (by repeat (first | (with_reducible first | exact HB.out | apply iF | apply iG | apply iI | refine iK ?_ GE135.out) | exact HB.out)) hb); clear BK135; clear HB; have BK135 := n0_; have HB := n1_; clear n0_ n1_; (try clear hb); (try clear hb2); (try clear hk); (try clear hi)))
                go_ret
                exact ⟨by first | rfl | (simp [iP, iO] <;> rfl) | (simp [*, iP, iO] <;> rfl), by repeat (first | (with_reducible first | exact HB.out | apply iF | apply iG | apply iI | refine iK ?_ GE135.out) | exact HB.out)⟩
            · rw [if_neg c39] at H
              have c39b0 : (a0_0 == 6) = false := beq_eq_false_iff_ne.mpr c39
              have c39b1 : (a0_0 != 6) = true := bne_iff_ne.mpr c39
              by_cases c48 : a0_0 = 7
              · rw [if_pos c48] at H
                have c48b0 : (a0_0 == 7) = true := beq_iff_eq.mpr c48
                have c48b1 : (a0_0 != 7) = false := bne_eq_false_iff_eq.mpr c48
                clear c48
                replace H := Option.bind_eq_some_iff.mp H
                obtain ⟨t144, A490, H⟩ := H
                replace H : (if t144 = true then ((stratumref07_SoundEntries.f kj29 l0_9).bind fun t145 => (if t145 = true then (if a0_7 ≥ 0 then (if a0_7 ≤ 10000 then (if a0_8 ≥ 0 then (some (decide (a0_8 ≤ 10000))) else (some false)) else (some false)) else (some false)) else (some false))) else (some false)) = some r := H
                have A49 := iC.mk A490
                clear A490
                by_cases c50 : t144 = true
                · subst c50
                  have H1 : ((stratumref07_SoundEntries.f kj29 l0_9).bind fun t145 => (if t145 = true then (if a0_7 ≥ 0 then (if a0_7 ≤ 10000 then (if a0_8 ≥ 0 then (some (decide (a0_8 ≤ 10000))) else (some false)) else (some false)) else (some false)) else (some false))) = some r := by rw [if_pos rfl] at H; exact H
                  clear H
                  have H := H1
                  clear H1
                  replace H := Option.bind_eq_some_iff.mp H
                  obtain ⟨t145, A510, H⟩ := H
                  replace H : (if t145 = true then (if a0_7 ≥ 0 then (if a0_7 ≤ 10000 then (if a0_8 ≥ 0 then (some (decide (a0_8 ≤ 10000))) else (some false)) else (some false)) else (some false)) else (some false)) = some r := H
                  have A51 := iC.mk A510
                  clear A510
                  by_cases c52 : t145 = true
                  · subst c52
                    have H1 : (if a0_7 ≥ 0 then (if a0_7 ≤ 10000 then (if a0_8 ≥ 0 then (some (decide (a0_8 ≤ 10000))) else (some false)) else (some false)) else (some false)) = some r := by rw [if_pos rfl] at H; exact H
                    clear H
                    have H := H1
                    clear H1
                    by_cases c53 : a0_7 ≥ 0
                    · rw [if_pos c53] at H
                      have c53b0 : decide (0 ≤ a0_7) = true := decide_eq_true c53
                      clear c53
                      by_cases c54 : a0_7 ≤ 10000
                      · rw [if_pos c54] at H
                        have c54b0 : decide (a0_7 ≤ 10000) = true := decide_eq_true c54
                        clear c54
                        by_cases c55 : a0_8 ≥ 0
                        · rw [if_pos c55] at H
                          have c55b0 : decide (0 ≤ a0_8) = true := decide_eq_true c55
                          clear c55
                          obtain rfl := Option.some.inj H
                          have hcz56_0 : wc.cell? ⟨gb135, 0, none⟩ = some (.int .u8 a0_0) := (iE BK135.out 0).trans rfl
                          have hcz56_1 : wc.cell? ⟨gb135, 1, none⟩ = some (.int .u32 a0_1) := (iE BK135.out 1).trans rfl
                          have hcz56_2 : wc.cell? ⟨gb135, 2, none⟩ = some (.int .u32 a0_2) := (iE BK135.out 2).trans rfl
                          have hcz56_3 : wc.cell? ⟨gb135, 3, none⟩ = some (.slice A0_3 l0_3.length c0_3) := (iE BK135.out 3).trans rfl
                          have hcz56_4 : wc.cell? ⟨gb135, 4, none⟩ = some (.slice A0_4 l0_4.length c0_4) := (iE BK135.out 4).trans rfl
                          have hcz56_5 : wc.cell? ⟨gb135, 5, none⟩ = some (.int .u32 a0_5) := (iE BK135.out 5).trans rfl
                          have hcz56_6 : wc.cell? ⟨gb135, 6, none⟩ = some (.slice A0_6 l0_6.length c0_6) := (iE BK135.out 6).trans rfl
                          have hcz56_7 : wc.cell? ⟨gb135, 7, none⟩ = some (.int .i64 a0_7) := (iE BK135.out 7).trans rfl
                          have hcz56_8 : wc.cell? ⟨gb135, 8, none⟩ = some (.int .i64 a0_8) := (iE BK135.out 8).trans rfl
                          have hcz56_9 : wc.cell? ⟨gb135, 9, none⟩ = some (.slice A0_9 l0_9.length c0_9) := (iE BK135.out 9).trans rfl
                          have hfz56_0 := iD BK135.out 0
                          have hfz56_1 := iD BK135.out 1
                          have hfz56_2 := iD BK135.out 2
                          have hfz56_3 := iD BK135.out 3
                          have hfz56_4 := iD BK135.out 4
                          have hfz56_5 := iD BK135.out 5
                          have hfz56_6 := iD BK135.out 6
                          have hfz56_7 := iD BK135.out 7
                          have hfz56_8 := iD BK135.out 8
                          have hfz56_9 := iD BK135.out 9
                          go_wp2_with (first | ((with_reducible refine jM (f := 68) rfl ?_); refine mP (some 47) rfl rfl Tryd.func68 (by kernel_rfl) rfl #[.agg #[.int .u8 a0_0, .int .u32 a0_1, .int .u32 a0_2, .slice A0_3 l0_3.length c0_3, .slice A0_4 l0_4.length c0_4, .int .u32 a0_5, .slice A0_6 l0_6.length c0_6, .int .i64 a0_7, .int .i64 a0_8, .slice A0_9 l0_9.length c0_9], .string (⟨#[73, 82]⟩ : ByteArray)] rfl (by (try simp only [List.map_toArray, List.map_cons, List.map_nil]); first | done | rfl | (simp only [List.length_drop, List.length_take]; rfl)) ?_; (with_reducible refine (stratumref07_bare.calls a0_0 a0_1 a0_2 _ _ l0_3 _ _ l0_4 a0_5 _ _ l0_6 a0_7 a0_8 _ _ l0_9 (⟨#[73, 82]⟩ : ByteArray) true _ ?side1 ?side2 ?side3 ?side4 ?side5 ?side6 ?side7 ?side8 A49.out).mono ?_); (case side1 => repeat (first | exact (Kd.C_below HR0_3.out HB.out) | (with_reducible refine Kd.C_alloc ?_ _) | (with_reducible refine Kd.C_drewN ?_ _) | (with_reducible refine Kd.C_drew ?_))); (case side2 => exact HC0_3.out); (case side3 => repeat (first | exact (Kd.C_below HR0_4.out HB.out) | (with_reducible refine Kd.C_alloc ?_ _) | (with_reducible refine Kd.C_drewN ?_ _) | (with_reducible refine Kd.C_drew ?_))); (case side4 => exact HC0_4.out); (case side5 => repeat (first | exact (Kd.C_below HR0_6.out HB.out) | (with_reducible refine Kd.C_alloc ?_ _) | (with_reducible refine Kd.C_drewN ?_ _) | (with_reducible refine Kd.C_drew ?_))); (case side6 => exact HC0_6.out); (case side7 => repeat (first | exact (Kd.C_below HR0_9.out HB.out) | (with_reducible refine Kd.C_alloc ?_ _) | (with_reducible refine Kd.C_drewN ?_ _) | (with_reducible refine Kd.C_drew ?_))); (case side8 => exact HC0_9.out); rintro e w57 ⟨rfl, hb⟩; refine ⟨_, rfl, ?_⟩; have n0_ := iC.mk (jI (g := gb135) (o := .cells #[.int .u8 a0_0, .int .u32 a0_1, .int .u32 a0_2, .slice A0_3 l0_3.length c0_3, .slice A0_4 l0_4.length c0_4, .int .u32 a0_5, .slice A0_6 l0_6.length c0_6, .int .i64 a0_7, .int .i64 a0_8, .slice A0_9 l0_9.length c0_9] 30 (0, 0)) (bk_ BK135.out) hb); have n1_ := iC.mk (iH (by repeat (first | (with_reducible first | exact HB.out | apply iF | apply iG | apply iI | refine iK ?_ GE135.out) | exact HB.out)) hb); clear BK135; clear HB; have BK135 := n0_; have HB := n1_; clear n0_ n1_; (try clear hb); (try clear hb2); (try clear hk); (try clear hi); have hcz58_0 : w57.cell? ⟨gb135, 0, none⟩ = some (.int .u8 a0_0) := (iE BK135.out 0).trans rfl; have hcz58_1 : w57.cell? ⟨gb135, 1, none⟩ = some (.int .u32 a0_1) := (iE BK135.out 1).trans rfl; have hcz58_2 : w57.cell? ⟨gb135, 2, none⟩ = some (.int .u32 a0_2) := (iE BK135.out 2).trans rfl; have hcz58_3 : w57.cell? ⟨gb135, 3, none⟩ = some (.slice A0_3 l0_3.length c0_3) := (iE BK135.out 3).trans rfl; have hcz58_4 : w57.cell? ⟨gb135, 4, none⟩ = some (.slice A0_4 l0_4.length c0_4) := (iE BK135.out 4).trans rfl; have hcz58_5 : w57.cell? ⟨gb135, 5, none⟩ = some (.int .u32 a0_5) := (iE BK135.out 5).trans rfl; have hcz58_6 : w57.cell? ⟨gb135, 6, none⟩ = some (.slice A0_6 l0_6.length c0_6) := (iE BK135.out 6).trans rfl; have hcz58_7 : w57.cell? ⟨gb135, 7, none⟩ = some (.int .i64 a0_7) := (iE BK135.out 7).trans rfl; have hcz58_8 : w57.cell? ⟨gb135, 8, none⟩ = some (.int .i64 a0_8) := (iE BK135.out 8).trans rfl; have hcz58_9 : w57.cell? ⟨gb135, 9, none⟩ = some (.slice A0_9 l0_9.length c0_9) := (iE BK135.out 9).trans rfl; have hfz58_0 := iD BK135.out 0; have hfz58_1 := iD BK135.out 1; have hfz58_2 := iD BK135.out 2; have hfz58_3 := iD BK135.out 3; have hfz58_4 := iD BK135.out 4; have hfz58_5 := iD BK135.out 5; have hfz58_6 := iD BK135.out 6; have hfz58_7 := iD BK135.out 7; have hfz58_8 := iD BK135.out 8; have hfz58_9 := iD BK135.out 9) | (go_at_call 72; (with_reducible refine (stratumref07_SoundEntries.calls kj29 _ _ l0_9 true _ ?side1 ?side2 A51.out).mono ?_); (case side1 => repeat (first | exact (Kd.C_below HR0_9.out HB.out) | (with_reducible refine Kd.C_alloc ?_ _) | (with_reducible refine Kd.C_drewN ?_ _) | (with_reducible refine Kd.C_drew ?_))); (case side2 => exact HC0_9.out); rintro e w' ⟨rfl, ⟨nd, rfl⟩⟩))
                          go_ret
                          exact ⟨by first | rfl | (simp [iP, iO] <;> rfl) | (simp [*, iP, iO] <;> rfl), by repeat (first | (with_reducible first | exact HB.out | apply iF | apply iG | apply iI | refine iK ?_ GE135.out) | exact HB.out)⟩
                        · rw [if_neg c55] at H
                          have c55b0 : decide (0 ≤ a0_8) = false := decide_eq_false c55
                          clear c55
                          obtain rfl := Option.some.inj H
                          have hcz59_0 : wc.cell? ⟨gb135, 0, none⟩ = some (.int .u8 a0_0) := (iE BK135.out 0).trans rfl
                          have hcz59_1 : wc.cell? ⟨gb135, 1, none⟩ = some (.int .u32 a0_1) := (iE BK135.out 1).trans rfl
                          have hcz59_2 : wc.cell? ⟨gb135, 2, none⟩ = some (.int .u32 a0_2) := (iE BK135.out 2).trans rfl
                          have hcz59_3 : wc.cell? ⟨gb135, 3, none⟩ = some (.slice A0_3 l0_3.length c0_3) := (iE BK135.out 3).trans rfl
                          have hcz59_4 : wc.cell? ⟨gb135, 4, none⟩ = some (.slice A0_4 l0_4.length c0_4) := (iE BK135.out 4).trans rfl
                          have hcz59_5 : wc.cell? ⟨gb135, 5, none⟩ = some (.int .u32 a0_5) := (iE BK135.out 5).trans rfl
                          have hcz59_6 : wc.cell? ⟨gb135, 6, none⟩ = some (.slice A0_6 l0_6.length c0_6) := (iE BK135.out 6).trans rfl
                          have hcz59_7 : wc.cell? ⟨gb135, 7, none⟩ = some (.int .i64 a0_7) := (iE BK135.out 7).trans rfl
                          have hcz59_8 : wc.cell? ⟨gb135, 8, none⟩ = some (.int .i64 a0_8) := (iE BK135.out 8).trans rfl
                          have hcz59_9 : wc.cell? ⟨gb135, 9, none⟩ = some (.slice A0_9 l0_9.length c0_9) := (iE BK135.out 9).trans rfl
                          have hfz59_0 := iD BK135.out 0
                          have hfz59_1 := iD BK135.out 1
                          have hfz59_2 := iD BK135.out 2
                          have hfz59_3 := iD BK135.out 3
                          have hfz59_4 := iD BK135.out 4
                          have hfz59_5 := iD BK135.out 5
                          have hfz59_6 := iD BK135.out 6
                          have hfz59_7 := iD BK135.out 7
                          have hfz59_8 := iD BK135.out 8
                          have hfz59_9 := iD BK135.out 9
                          go_wp2_with (first | ((with_reducible refine jM (f := 68) rfl ?_); refine mP (some 47) rfl rfl Tryd.func68 (by kernel_rfl) rfl #[.agg #[.int .u8 a0_0, .int .u32 a0_1, .int .u32 a0_2, .slice A0_3 l0_3.length c0_3, .slice A0_4 l0_4.length c0_4, .int .u32 a0_5, .slice A0_6 l0_6.length c0_6, .int .i64 a0_7, .int .i64 a0_8, .slice A0_9 l0_9.length c0_9], .string (⟨#[73, 82]⟩ : ByteArray)] rfl (by (try simp only [List.map_toArray, List.map_cons, List.map_nil]); first | done | rfl | (simp only [List.length_drop, List.length_take]; rfl)) ?_; (with_reducible refine (stratumref07_bare.calls a0_0 a0_1 a0_2 _ _ l0_3 _ _ l0_4 a0_5 _ _ l0_6 a0_7 a0_8 _ _ l0_9 (⟨#[73, 82]⟩ : ByteArray) true _ ?side1 ?side2 ?side3 ?side4 ?side5 ?side6 ?side7 ?side8 A49.out).mono ?_); (case side1 => repeat (first | exact (Kd.C_below HR0_3.out HB.out) | (with_reducible refine Kd.C_alloc ?_ _) | (with_reducible refine Kd.C_drewN ?_ _) | (with_reducible refine Kd.C_drew ?_))); (case side2 => exact HC0_3.out); (case side3 => repeat (first | exact (Kd.C_below HR0_4.out HB.out) | (with_reducible refine Kd.C_alloc ?_ _) | (with_reducible refine Kd.C_drewN ?_ _) | (with_reducible refine Kd.C_drew ?_))); (case side4 => exact HC0_4.out); (case side5 => repeat (first | exact (Kd.C_below HR0_6.out HB.out) | (with_reducible refine Kd.C_alloc ?_ _) | (with_reducible refine Kd.C_drewN ?_ _) | (with_reducible refine Kd.C_drew ?_))); (case side6 => exact HC0_6.out); (case side7 => repeat (first | exact (Kd.C_below HR0_9.out HB.out) | (with_reducible refine Kd.C_alloc ?_ _) | (with_reducible refine Kd.C_drewN ?_ _) | (with_reducible refine Kd.C_drew ?_))); (case side8 => exact HC0_9.out); rintro e w60 ⟨rfl, hb⟩; refine ⟨_, rfl, ?_⟩; have n0_ := iC.mk (jI (g := gb135) (o := .cells #[.int .u8 a0_0, .int .u32 a0_1, .int .u32 a0_2, .slice A0_3 l0_3.length c0_3, .slice A0_4 l0_4.length c0_4, .int .u32 a0_5, .slice A0_6 l0_6.length c0_6, .int .i64 a0_7, .int .i64 a0_8, .slice A0_9 l0_9.length c0_9] 30 (0, 0)) (bk_ BK135.out) hb); have n1_ := iC.mk (iH (by repeat (first | (with_reducible first | exact HB.out | apply iF | apply iG | apply iI | refine iK ?_ GE135.out) | exact HB.out)) hb); clear BK135; clear HB; have BK135 := n0_; have HB := n1_; clear n0_ n1_; (try clear hb); (try clear hb2); (try clear hk); (try clear hi); have hcz61_0 : w60.cell? ⟨gb135, 0, none⟩ = some (.int .u8 a0_0) := (iE BK135.out 0).trans rfl; have hcz61_1 : w60.cell? ⟨gb135, 1, none⟩ = some (.int .u32 a0_1) := (iE BK135.out 1).trans rfl; have hcz61_2 : w60.cell? ⟨gb135, 2, none⟩ = some (.int .u32 a0_2) := (iE BK135.out 2).trans rfl; have hcz61_3 : w60.cell? ⟨gb135, 3, none⟩ = some (.slice A0_3 l0_3.length c0_3) := (iE BK135.out 3).trans rfl; have hcz61_4 : w60.cell? ⟨gb135, 4, none⟩ = some (.slice A0_4 l0_4.length c0_4) := (iE BK135.out 4).trans rfl; have hcz61_5 : w60.cell? ⟨gb135, 5, none⟩ = some (.int .u32 a0_5) := (iE BK135.out 5).trans rfl; have hcz61_6 : w60.cell? ⟨gb135, 6, none⟩ = some (.slice A0_6 l0_6.length c0_6) := (iE BK135.out 6).trans rfl; have hcz61_7 : w60.cell? ⟨gb135, 7, none⟩ = some (.int .i64 a0_7) := (iE BK135.out 7).trans rfl; have hcz61_8 : w60.cell? ⟨gb135, 8, none⟩ = some (.int .i64 a0_8) := (iE BK135.out 8).trans rfl; have hcz61_9 : w60.cell? ⟨gb135, 9, none⟩ = some (.slice A0_9 l0_9.length c0_9) := (iE BK135.out 9).trans rfl; have hfz61_0 := iD BK135.out 0; have hfz61_1 := iD BK135.out 1; have hfz61_2 := iD BK135.out 2; have hfz61_3 := iD BK135.out 3; have hfz61_4 := iD BK135.out 4; have hfz61_5 := iD BK135.out 5; have hfz61_6 := iD BK135.out 6; have hfz61_7 := iD BK135.out 7; have hfz61_8 := iD BK135.out 8; have hfz61_9 := iD BK135.out 9) | (go_at_call 72; (with_reducible refine (stratumref07_SoundEntries.calls kj29 _ _ l0_9 true _ ?side1 ?side2 A51.out).mono ?_); (case side1 => repeat (first | exact (Kd.C_below HR0_9.out HB.out) | (with_reducible refine Kd.C_alloc ?_ _) | (with_reducible refine Kd.C_drewN ?_ _) | (with_reducible refine Kd.C_drew ?_))); (case side2 => exact HC0_9.out); rintro e w' ⟨rfl, ⟨nd, rfl⟩⟩))
                          go_ret
                          exact ⟨by first | rfl | (simp [iP, iO] <;> rfl) | (simp [*, iP, iO] <;> rfl), by repeat (first | (with_reducible first | exact HB.out | apply iF | apply iG | apply iI | refine iK ?_ GE135.out) | exact HB.out)⟩
                      · rw [if_neg c54] at H
                        have c54b0 : decide (a0_7 ≤ 10000) = false := decide_eq_false c54
                        clear c54
                        obtain rfl := Option.some.inj H
                        have hcz62_0 : wc.cell? ⟨gb135, 0, none⟩ = some (.int .u8 a0_0) := (iE BK135.out 0).trans rfl
                        have hcz62_1 : wc.cell? ⟨gb135, 1, none⟩ = some (.int .u32 a0_1) := (iE BK135.out 1).trans rfl
                        have hcz62_2 : wc.cell? ⟨gb135, 2, none⟩ = some (.int .u32 a0_2) := (iE BK135.out 2).trans rfl
                        have hcz62_3 : wc.cell? ⟨gb135, 3, none⟩ = some (.slice A0_3 l0_3.length c0_3) := (iE BK135.out 3).trans rfl
                        have hcz62_4 : wc.cell? ⟨gb135, 4, none⟩ = some (.slice A0_4 l0_4.length c0_4) := (iE BK135.out 4).trans rfl
                        have hcz62_5 : wc.cell? ⟨gb135, 5, none⟩ = some (.int .u32 a0_5) := (iE BK135.out 5).trans rfl
                        have hcz62_6 : wc.cell? ⟨gb135, 6, none⟩ = some (.slice A0_6 l0_6.length c0_6) := (iE BK135.out 6).trans rfl
                        have hcz62_7 : wc.cell? ⟨gb135, 7, none⟩ = some (.int .i64 a0_7) := (iE BK135.out 7).trans rfl
                        have hcz62_8 : wc.cell? ⟨gb135, 8, none⟩ = some (.int .i64 a0_8) := (iE BK135.out 8).trans rfl
                        have hcz62_9 : wc.cell? ⟨gb135, 9, none⟩ = some (.slice A0_9 l0_9.length c0_9) := (iE BK135.out 9).trans rfl
                        have hfz62_0 := iD BK135.out 0
                        have hfz62_1 := iD BK135.out 1
                        have hfz62_2 := iD BK135.out 2
                        have hfz62_3 := iD BK135.out 3
                        have hfz62_4 := iD BK135.out 4
                        have hfz62_5 := iD BK135.out 5
                        have hfz62_6 := iD BK135.out 6
                        have hfz62_7 := iD BK135.out 7
                        have hfz62_8 := iD BK135.out 8
                        have hfz62_9 := iD BK135.out 9
                        go_wp2_with (first | ((with_reducible refine jM (f := 68) rfl ?_); refine mP (some 47) rfl rfl Tryd.func68 (by kernel_rfl) rfl #[.agg #[.int .u8 a0_0, .int .u32 a0_1, .int .u32 a0_2, .slice A0_3 l0_3.length c0_3, .slice A0_4 l0_4.length c0_4, .int .u32 a0_5, .slice A0_6 l0_6.length c0_6, .int .i64 a0_7, .int .i64 a0_8, .slice A0_9 l0_9.length c0_9], .string (⟨#[73, 82]⟩ : ByteArray)] rfl (by (try simp only [List.map_toArray, List.map_cons, List.map_nil]); first | done | rfl | (simp only [List.length_drop, List.length_take]; rfl)) ?_; (with_reducible refine (stratumref07_bare.calls a0_0 a0_1 a0_2 _ _ l0_3 _ _ l0_4 a0_5 _ _ l0_6 a0_7 a0_8 _ _ l0_9 (⟨#[73, 82]⟩ : ByteArray) true _ ?side1 ?side2 ?side3 ?side4 ?side5 ?side6 ?side7 ?side8 A49.out).mono ?_); (case side1 => repeat (first | exact (Kd.C_below HR0_3.out HB.out) | (with_reducible refine Kd.C_alloc ?_ _) | (with_reducible refine Kd.C_drewN ?_ _) | (with_reducible refine Kd.C_drew ?_))); (case side2 => exact HC0_3.out); (case side3 => repeat (first | exact (Kd.C_below HR0_4.out HB.out) | (with_reducible refine Kd.C_alloc ?_ _) | (with_reducible refine Kd.C_drewN ?_ _) | (with_reducible refine Kd.C_drew ?_))); (case side4 => exact HC0_4.out); (case side5 => repeat (first | exact (Kd.C_below HR0_6.out HB.out) | (with_reducible refine Kd.C_alloc ?_ _) | (with_reducible refine Kd.C_drewN ?_ _) | (with_reducible refine Kd.C_drew ?_))); (case side6 => exact HC0_6.out); (case side7 => repeat (first | exact (Kd.C_below HR0_9.out HB.out) | (with_reducible refine Kd.C_alloc ?_ _) | (with_reducible refine Kd.C_drewN ?_ _) | (with_reducible refine Kd.C_drew ?_))); (case side8 => exact HC0_9.out); rintro e w63 ⟨rfl, hb⟩; refine ⟨_, rfl, ?_⟩; have n0_ := iC.mk (jI (g := gb135) (o := .cells #[.int .u8 a0_0, .int .u32 a0_1, .int .u32 a0_2, .slice A0_3 l0_3.length c0_3, .slice A0_4 l0_4.length c0_4, .int .u32 a0_5, .slice A0_6 l0_6.length c0_6, .int .i64 a0_7, .int .i64 a0_8, .slice A0_9 l0_9.length c0_9] 30 (0, 0)) (bk_ BK135.out) hb); have n1_ := iC.mk (iH (by repeat (first | (with_reducible first | exact HB.out | apply iF | apply iG | apply iI | refine iK ?_ GE135.out) | exact HB.out)) hb); clear BK135; clear HB; have BK135 := n0_; have HB := n1_; clear n0_ n1_; (try clear hb); (try clear hb2); (try clear hk); (try clear hi); have hcz64_0 : w63.cell? ⟨gb135, 0, none⟩ = some (.int .u8 a0_0) := (iE BK135.out 0).trans rfl; have hcz64_1 : w63.cell? ⟨gb135, 1, none⟩ = some (.int .u32 a0_1) := (iE BK135.out 1).trans rfl; have hcz64_2 : w63.cell? ⟨gb135, 2, none⟩ = some (.int .u32 a0_2) := (iE BK135.out 2).trans rfl; have hcz64_3 : w63.cell? ⟨gb135, 3, none⟩ = some (.slice A0_3 l0_3.length c0_3) := (iE BK135.out 3).trans rfl; have hcz64_4 : w63.cell? ⟨gb135, 4, none⟩ = some (.slice A0_4 l0_4.length c0_4) := (iE BK135.out 4).trans rfl; have hcz64_5 : w63.cell? ⟨gb135, 5, none⟩ = some (.int .u32 a0_5) := (iE BK135.out 5).trans rfl; have hcz64_6 : w63.cell? ⟨gb135, 6, none⟩ = some (.slice A0_6 l0_6.length c0_6) := (iE BK135.out 6).trans rfl; have hcz64_7 : w63.cell? ⟨gb135, 7, none⟩ = some (.int .i64 a0_7) := (iE BK135.out 7).trans rfl; have hcz64_8 : w63.cell? ⟨gb135, 8, none⟩ = some (.int .i64 a0_8) := (iE BK135.out 8).trans rfl; have hcz64_9 : w63.cell? ⟨gb135, 9, none⟩ = some (.slice A0_9 l0_9.length c0_9) := (iE BK135.out 9).trans rfl; have hfz64_0 := iD BK135.out 0; have hfz64_1 := iD BK135.out 1; have hfz64_2 := iD BK135.out 2; have hfz64_3 := iD BK135.out 3; have hfz64_4 := iD BK135.out 4; have hfz64_5 := iD BK135.out 5; have hfz64_6 := iD BK135.out 6; have hfz64_7 := iD BK135.out 7; have hfz64_8 := iD BK135.out 8; have hfz64_9 := iD BK135.out 9) | (go_at_call 72; (with_reducible refine (stratumref07_SoundEntries.calls kj29 _ _ l0_9 true _ ?side1 ?side2 A51.out).mono ?_); (case side1 => repeat (first | exact (Kd.C_below HR0_9.out HB.out) | (with_reducible refine Kd.C_alloc ?_ _) | (with_reducible refine Kd.C_drewN ?_ _) | (with_reducible refine Kd.C_drew ?_))); (case side2 => exact HC0_9.out); rintro e w' ⟨rfl, ⟨nd, rfl⟩⟩))
                        go_ret
                        exact ⟨by first | rfl | (simp [iP, iO] <;> rfl) | (simp [*, iP, iO] <;> rfl), by repeat (first | (with_reducible first | exact HB.out | apply iF | apply iG | apply iI | refine iK ?_ GE135.out) | exact HB.out)⟩
                    · rw [if_neg c53] at H
                      have c53b0 : decide (0 ≤ a0_7) = false := decide_eq_false c53
                      clear c53
                      obtain rfl := Option.some.inj H
                      have hcz65_0 : wc.cell? ⟨gb135, 0, none⟩ = some (.int .u8 a0_0) := (iE BK135.out 0).trans rfl
                      have hcz65_1 : wc.cell? ⟨gb135, 1, none⟩ = some (.int .u32 a0_1) := (iE BK135.out 1).trans rfl
                      have hcz65_2 : wc.cell? ⟨gb135, 2, none⟩ = some (.int .u32 a0_2) := (iE BK135.out 2).trans rfl
                      have hcz65_3 : wc.cell? ⟨gb135, 3, none⟩ = some (.slice A0_3 l0_3.length c0_3) := (iE BK135.out 3).trans rfl
                      have hcz65_4 : wc.cell? ⟨gb135, 4, none⟩ = some (.slice A0_4 l0_4.length c0_4) := (iE BK135.out 4).trans rfl
                      have hcz65_5 : wc.cell? ⟨gb135, 5, none⟩ = some (.int .u32 a0_5) := (iE BK135.out 5).trans rfl
                      have hcz65_6 : wc.cell? ⟨gb135, 6, none⟩ = some (.slice A0_6 l0_6.length c0_6) := (iE BK135.out 6).trans rfl
                      have hcz65_7 : wc.cell? ⟨gb135, 7, none⟩ = some (.int .i64 a0_7) := (iE BK135.out 7).trans rfl
                      have hcz65_8 : wc.cell? ⟨gb135, 8, none⟩ = some (.int .i64 a0_8) := (iE BK135.out 8).trans rfl
                      have hcz65_9 : wc.cell? ⟨gb135, 9, none⟩ = some (.slice A0_9 l0_9.length c0_9) := (iE BK135.out 9).trans rfl
                      have hfz65_0 := iD BK135.out 0
                      have hfz65_1 := iD BK135.out 1
                      have hfz65_2 := iD BK135.out 2
                      have hfz65_3 := iD BK135.out 3
                      have hfz65_4 := iD BK135.out 4
                      have hfz65_5 := iD BK135.out 5
                      have hfz65_6 := iD BK135.out 6
                      have hfz65_7 := iD BK135.out 7
                      have hfz65_8 := iD BK135.out 8
                      have hfz65_9 := iD BK135.out 9
                      go_wp2_with (first | ((with_reducible refine jM (f := 68) rfl ?_); refine mP (some 47) rfl rfl Tryd.func68 (by kernel_rfl) rfl #[.agg #[.int .u8 a0_0, .int .u32 a0_1, .int .u32 a0_2, .slice A0_3 l0_3.length c0_3, .slice A0_4 l0_4.length c0_4, .int .u32 a0_5, .slice A0_6 l0_6.length c0_6, .int .i64 a0_7, .int .i64 a0_8, .slice A0_9 l0_9.length c0_9], .string (⟨#[73, 82]⟩ : ByteArray)] rfl (by (try simp only [List.map_toArray, List.map_cons, List.map_nil]); first | done | rfl | (simp only [List.length_drop, List.length_take]; rfl)) ?_; (with_reducible refine (stratumref07_bare.calls a0_0 a0_1 a0_2 _ _ l0_3 _ _ l0_4 a0_5 _ _ l0_6 a0_7 a0_8 _ _ l0_9 (⟨#[73, 82]⟩ : ByteArray) true _ ?side1 ?side2 ?side3 ?side4 ?side5 ?side6 ?side7 ?side8 A49.out).mono ?_); (case side1 => repeat (first | exact (Kd.C_below HR0_3.out HB.out) | (with_reducible refine Kd.C_alloc ?_ _) | (with_reducible refine Kd.C_drewN ?_ _) | (with_reducible refine Kd.C_drew ?_))); (case side2 => exact HC0_3.out); (case side3 => repeat (first | exact (Kd.C_below HR0_4.out HB.out) | (with_reducible refine Kd.C_alloc ?_ _) | (with_reducible refine Kd.C_drewN ?_ _) | (with_reducible refine Kd.C_drew ?_))); (case side4 => exact HC0_4.out); (case side5 => repeat (first | exact (Kd.C_below HR0_6.out HB.out) | (with_reducible refine Kd.C_alloc ?_ _) | (with_reducible refine Kd.C_drewN ?_ _) | (with_reducible refine Kd.C_drew ?_))); (case side6 => exact HC0_6.out); (case side7 => repeat (first | exact (Kd.C_below HR0_9.out HB.out) | (with_reducible refine Kd.C_alloc ?_ _) | (with_reducible refine Kd.C_drewN ?_ _) | (with_reducible refine Kd.C_drew ?_))); (case side8 => exact HC0_9.out); rintro e w66 ⟨rfl, hb⟩; refine ⟨_, rfl, ?_⟩; have n0_ := iC.mk (jI (g := gb135) (o := .cells #[.int .u8 a0_0, .int .u32 a0_1, .int .u32 a0_2, .slice A0_3 l0_3.length c0_3, .slice A0_4 l0_4.length c0_4, .int .u32 a0_5, .slice A0_6 l0_6.length c0_6, .int .i64 a0_7, .int .i64 a0_8, .slice A0_9 l0_9.length c0_9] 30 (0, 0)) (bk_ BK135.out) hb); have n1_ := iC.mk (iH (by repeat (first | (with_reducible first | exact HB.out | apply iF | apply iG | apply iI | refine iK ?_ GE135.out) | exact HB.out)) hb); clear BK135; clear HB; have BK135 := n0_; have HB := n1_; clear n0_ n1_; (try clear hb); (try clear hb2); (try clear hk); (try clear hi); have hcz67_0 : w66.cell? ⟨gb135, 0, none⟩ = some (.int .u8 a0_0) := (iE BK135.out 0).trans rfl; have hcz67_1 : w66.cell? ⟨gb135, 1, none⟩ = some (.int .u32 a0_1) := (iE BK135.out 1).trans rfl; have hcz67_2 : w66.cell? ⟨gb135, 2, none⟩ = some (.int .u32 a0_2) := (iE BK135.out 2).trans rfl; have hcz67_3 : w66.cell? ⟨gb135, 3, none⟩ = some (.slice A0_3 l0_3.length c0_3) := (iE BK135.out 3).trans rfl; have hcz67_4 : w66.cell? ⟨gb135, 4, none⟩ = some (.slice A0_4 l0_4.length c0_4) := (iE BK135.out 4).trans rfl; have hcz67_5 : w66.cell? ⟨gb135, 5, none⟩ = some (.int .u32 a0_5) := (iE BK135.out 5).trans rfl; have hcz67_6 : w66.cell? ⟨gb135, 6, none⟩ = some (.slice A0_6 l0_6.length c0_6) := (iE BK135.out 6).trans rfl; have hcz67_7 : w66.cell? ⟨gb135, 7, none⟩ = some (.int .i64 a0_7) := (iE BK135.out 7).trans rfl; have hcz67_8 : w66.cell? ⟨gb135, 8, none⟩ = some (.int .i64 a0_8) := (iE BK135.out 8).trans rfl; have hcz67_9 : w66.cell? ⟨gb135, 9, none⟩ = some (.slice A0_9 l0_9.length c0_9) := (iE BK135.out 9).trans rfl; have hfz67_0 := iD BK135.out 0; have hfz67_1 := iD BK135.out 1; have hfz67_2 := iD BK135.out 2; have hfz67_3 := iD BK135.out 3; have hfz67_4 := iD BK135.out 4; have hfz67_5 := iD BK135.out 5; have hfz67_6 := iD BK135.out 6; have hfz67_7 := iD BK135.out 7; have hfz67_8 := iD BK135.out 8; have hfz67_9 := iD BK135.out 9) | (go_at_call 72; (with_reducible refine (stratumref07_SoundEntries.calls kj29 _ _ l0_9 true _ ?side1 ?side2 A51.out).mono ?_); (case side1 => repeat (first | exact (Kd.C_below HR0_9.out HB.out) | (with_reducible refine Kd.C_alloc ?_ _) | (with_reducible refine Kd.C_drewN ?_ _) | (with_reducible refine Kd.C_drew ?_))); (case side2 => exact HC0_9.out); rintro e w' ⟨rfl, ⟨nd, rfl⟩⟩))
                      go_ret
                      exact ⟨by first | rfl | (simp [iP, iO] <;> rfl) | (simp [*, iP, iO] <;> rfl), by repeat (first | (with_reducible first | exact HB.out | apply iF | apply iG | apply iI | refine iK ?_ GE135.out) | exact HB.out)⟩
                  · replace c52 := Bool.eq_false_iff.mpr c52
                    subst c52
                    have H1 : (some false) = some r := by rw [if_neg (show ¬ (false = true) by decide)] at H; exact H
                    clear H
                    have H := H1
                    clear H1
                    obtain rfl := Option.some.inj H
                    have hcz68_0 : wc.cell? ⟨gb135, 0, none⟩ = some (.int .u8 a0_0) := (iE BK135.out 0).trans rfl
                    have hcz68_1 : wc.cell? ⟨gb135, 1, none⟩ = some (.int .u32 a0_1) := (iE BK135.out 1).trans rfl
                    have hcz68_2 : wc.cell? ⟨gb135, 2, none⟩ = some (.int .u32 a0_2) := (iE BK135.out 2).trans rfl
                    have hcz68_3 : wc.cell? ⟨gb135, 3, none⟩ = some (.slice A0_3 l0_3.length c0_3) := (iE BK135.out 3).trans rfl
                    have hcz68_4 : wc.cell? ⟨gb135, 4, none⟩ = some (.slice A0_4 l0_4.length c0_4) := (iE BK135.out 4).trans rfl
                    have hcz68_5 : wc.cell? ⟨gb135, 5, none⟩ = some (.int .u32 a0_5) := (iE BK135.out 5).trans rfl
                    have hcz68_6 : wc.cell? ⟨gb135, 6, none⟩ = some (.slice A0_6 l0_6.length c0_6) := (iE BK135.out 6).trans rfl
                    have hcz68_7 : wc.cell? ⟨gb135, 7, none⟩ = some (.int .i64 a0_7) := (iE BK135.out 7).trans rfl
                    have hcz68_8 : wc.cell? ⟨gb135, 8, none⟩ = some (.int .i64 a0_8) := (iE BK135.out 8).trans rfl
                    have hcz68_9 : wc.cell? ⟨gb135, 9, none⟩ = some (.slice A0_9 l0_9.length c0_9) := (iE BK135.out 9).trans rfl
                    have hfz68_0 := iD BK135.out 0
                    have hfz68_1 := iD BK135.out 1
                    have hfz68_2 := iD BK135.out 2
                    have hfz68_3 := iD BK135.out 3
                    have hfz68_4 := iD BK135.out 4
                    have hfz68_5 := iD BK135.out 5
                    have hfz68_6 := iD BK135.out 6
                    have hfz68_7 := iD BK135.out 7
                    have hfz68_8 := iD BK135.out 8
                    have hfz68_9 := iD BK135.out 9
                    go_wp2_with (first | ((with_reducible refine jM (f := 68) rfl ?_); refine mP (some 47) rfl rfl Tryd.func68 (by kernel_rfl) rfl #[.agg #[.int .u8 a0_0, .int .u32 a0_1, .int .u32 a0_2, .slice A0_3 l0_3.length c0_3, .slice A0_4 l0_4.length c0_4, .int .u32 a0_5, .slice A0_6 l0_6.length c0_6, .int .i64 a0_7, .int .i64 a0_8, .slice A0_9 l0_9.length c0_9], .string (⟨#[73, 82]⟩ : ByteArray)] rfl (by (try simp only [List.map_toArray, List.map_cons, List.map_nil]); first | done | rfl | (simp only [List.length_drop, List.length_take]; rfl)) ?_; (with_reducible refine (stratumref07_bare.calls a0_0 a0_1 a0_2 _ _ l0_3 _ _ l0_4 a0_5 _ _ l0_6 a0_7 a0_8 _ _ l0_9 (⟨#[73, 82]⟩ : ByteArray) true _ ?side1 ?side2 ?side3 ?side4 ?side5 ?side6 ?side7 ?side8 A49.out).mono ?_); (case side1 => repeat (first | exact (Kd.C_below HR0_3.out HB.out) | (with_reducible refine Kd.C_alloc ?_ _) | (with_reducible refine Kd.C_drewN ?_ _) | (with_reducible refine Kd.C_drew ?_))); (case side2 => exact HC0_3.out); (case side3 => repeat (first | exact (Kd.C_below HR0_4.out HB.out) | (with_reducible refine Kd.C_alloc ?_ _) | (with_reducible refine Kd.C_drewN ?_ _) | (with_reducible refine Kd.C_drew ?_))); (case side4 => exact HC0_4.out); (case side5 => repeat (first | exact (Kd.C_below HR0_6.out HB.out) | (with_reducible refine Kd.C_alloc ?_ _) | (with_reducible refine Kd.C_drewN ?_ _) | (with_reducible refine Kd.C_drew ?_))); (case side6 => exact HC0_6.out); (case side7 => repeat (first | exact (Kd.C_below HR0_9.out HB.out) | (with_reducible refine Kd.C_alloc ?_ _) | (with_reducible refine Kd.C_drewN ?_ _) | (with_reducible refine Kd.C_drew ?_))); (case side8 => exact HC0_9.out); rintro e w69 ⟨rfl, hb⟩; refine ⟨_, rfl, ?_⟩; have n0_ := iC.mk (jI (g := gb135) (o := .cells #[.int .u8 a0_0, .int .u32 a0_1, .int .u32 a0_2, .slice A0_3 l0_3.length c0_3, .slice A0_4 l0_4.length c0_4, .int .u32 a0_5, .slice A0_6 l0_6.length c0_6, .int .i64 a0_7, .int .i64 a0_8, .slice A0_9 l0_9.length c0_9] 30 (0, 0)) (bk_ BK135.out) hb); have n1_ := iC.mk (iH (by repeat (first | (with_reducible first | exact HB.out | apply iF | apply iG | apply iI | refine iK ?_ GE135.out) | exact HB.out)) hb); clear BK135; clear HB; have BK135 := n0_; have HB := n1_; clear n0_ n1_; (try clear hb); (try clear hb2); (try clear hk); (try clear hi); have hcz70_0 : w69.cell? ⟨gb135, 0, none⟩ = some (.int .u8 a0_0) := (iE BK135.out 0).trans rfl; have hcz70_1 : w69.cell? ⟨gb135, 1, none⟩ = some (.int .u32 a0_1) := (iE BK135.out 1).trans rfl; have hcz70_2 : w69.cell? ⟨gb135, 2, none⟩ = some (.int .u32 a0_2) := (iE BK135.out 2).trans rfl; have hcz70_3 : w69.cell? ⟨gb135, 3, none⟩ = some (.slice A0_3 l0_3.length c0_3) := (iE BK135.out 3).trans rfl; have hcz70_4 : w69.cell? ⟨gb135, 4, none⟩ = some (.slice A0_4 l0_4.length c0_4) := (iE BK135.out 4).trans rfl; have hcz70_5 : w69.cell? ⟨gb135, 5, none⟩ = some (.int .u32 a0_5) := (iE BK135.out 5).trans rfl; have hcz70_6 : w69.cell? ⟨gb135, 6, none⟩ = some (.slice A0_6 l0_6.length c0_6) := (iE BK135.out 6).trans rfl; have hcz70_7 : w69.cell? ⟨gb135, 7, none⟩ = some (.int .i64 a0_7) := (iE BK135.out 7).trans rfl; have hcz70_8 : w69.cell? ⟨gb135, 8, none⟩ = some (.int .i64 a0_8) := (iE BK135.out 8).trans rfl; have hcz70_9 : w69.cell? ⟨gb135, 9, none⟩ = some (.slice A0_9 l0_9.length c0_9) := (iE BK135.out 9).trans rfl; have hfz70_0 := iD BK135.out 0; have hfz70_1 := iD BK135.out 1; have hfz70_2 := iD BK135.out 2; have hfz70_3 := iD BK135.out 3; have hfz70_4 := iD BK135.out 4; have hfz70_5 := iD BK135.out 5; have hfz70_6 := iD BK135.out 6; have hfz70_7 := iD BK135.out 7; have hfz70_8 := iD BK135.out 8; have hfz70_9 := iD BK135.out 9) | (go_at_call 72; (with_reducible refine (stratumref07_SoundEntries.calls kj29 _ _ l0_9 false _ ?side1 ?side2 A51.out).mono ?_); (case side1 => repeat (first | exact (Kd.C_below HR0_9.out HB.out) | (with_reducible refine Kd.C_alloc ?_ _) | (with_reducible refine Kd.C_drewN ?_ _) | (with_reducible refine Kd.C_drew ?_))); (case side2 => exact HC0_9.out); rintro e w' ⟨rfl, ⟨nd, rfl⟩⟩))
                    go_ret
                    exact ⟨by first | rfl | (simp [iP, iO] <;> rfl) | (simp [*, iP, iO] <;> rfl), by repeat (first | (with_reducible first | exact HB.out | apply iF | apply iG | apply iI | refine iK ?_ GE135.out) | exact HB.out)⟩
                · replace c50 := Bool.eq_false_iff.mpr c50
                  subst c50
                  have H1 : (some false) = some r := by rw [if_neg (show ¬ (false = true) by decide)] at H; exact H
                  clear H
                  have H := H1
                  clear H1
                  obtain rfl := Option.some.inj H
                  have hcz71_0 : wc.cell? ⟨gb135, 0, none⟩ = some (.int .u8 a0_0) := (iE BK135.out 0).trans rfl
                  have hcz71_1 : wc.cell? ⟨gb135, 1, none⟩ = some (.int .u32 a0_1) := (iE BK135.out 1).trans rfl
                  have hcz71_2 : wc.cell? ⟨gb135, 2, none⟩ = some (.int .u32 a0_2) := (iE BK135.out 2).trans rfl
                  have hcz71_3 : wc.cell? ⟨gb135, 3, none⟩ = some (.slice A0_3 l0_3.length c0_3) := (iE BK135.out 3).trans rfl
                  have hcz71_4 : wc.cell? ⟨gb135, 4, none⟩ = some (.slice A0_4 l0_4.length c0_4) := (iE BK135.out 4).trans rfl
                  have hcz71_5 : wc.cell? ⟨gb135, 5, none⟩ = some (.int .u32 a0_5) := (iE BK135.out 5).trans rfl
                  have hcz71_6 : wc.cell? ⟨gb135, 6, none⟩ = some (.slice A0_6 l0_6.length c0_6) := (iE BK135.out 6).trans rfl
                  have hcz71_7 : wc.cell? ⟨gb135, 7, none⟩ = some (.int .i64 a0_7) := (iE BK135.out 7).trans rfl
                  have hcz71_8 : wc.cell? ⟨gb135, 8, none⟩ = some (.int .i64 a0_8) := (iE BK135.out 8).trans rfl
                  have hcz71_9 : wc.cell? ⟨gb135, 9, none⟩ = some (.slice A0_9 l0_9.length c0_9) := (iE BK135.out 9).trans rfl
                  have hfz71_0 := iD BK135.out 0
                  have hfz71_1 := iD BK135.out 1
                  have hfz71_2 := iD BK135.out 2
                  have hfz71_3 := iD BK135.out 3
                  have hfz71_4 := iD BK135.out 4
                  have hfz71_5 := iD BK135.out 5
                  have hfz71_6 := iD BK135.out 6
                  have hfz71_7 := iD BK135.out 7
                  have hfz71_8 := iD BK135.out 8
                  have hfz71_9 := iD BK135.out 9
                  go_wp2_with (first | ((with_reducible refine jM (f := 68) rfl ?_); refine mP (some 47) rfl rfl Tryd.func68 (by kernel_rfl) rfl #[.agg #[.int .u8 a0_0, .int .u32 a0_1, .int .u32 a0_2, .slice A0_3 l0_3.length c0_3, .slice A0_4 l0_4.length c0_4, .int .u32 a0_5, .slice A0_6 l0_6.length c0_6, .int .i64 a0_7, .int .i64 a0_8, .slice A0_9 l0_9.length c0_9], .string (⟨#[73, 82]⟩ : ByteArray)] rfl (by (try simp only [List.map_toArray, List.map_cons, List.map_nil]); first | done | rfl | (simp only [List.length_drop, List.length_take]; rfl)) ?_; (with_reducible refine (stratumref07_bare.calls a0_0 a0_1 a0_2 _ _ l0_3 _ _ l0_4 a0_5 _ _ l0_6 a0_7 a0_8 _ _ l0_9 (⟨#[73, 82]⟩ : ByteArray) false _ ?side1 ?side2 ?side3 ?side4 ?side5 ?side6 ?side7 ?side8 A49.out).mono ?_); (case side1 => repeat (first | exact (Kd.C_below HR0_3.out HB.out) | (with_reducible refine Kd.C_alloc ?_ _) | (with_reducible refine Kd.C_drewN ?_ _) | (with_reducible refine Kd.C_drew ?_))); (case side2 => exact HC0_3.out); (case side3 => repeat (first | exact (Kd.C_below HR0_4.out HB.out) | (with_reducible refine Kd.C_alloc ?_ _) | (with_reducible refine Kd.C_drewN ?_ _) | (with_reducible refine Kd.C_drew ?_))); (case side4 => exact HC0_4.out); (case side5 => repeat (first | exact (Kd.C_below HR0_6.out HB.out) | (with_reducible refine Kd.C_alloc ?_ _) | (with_reducible refine Kd.C_drewN ?_ _) | (with_reducible refine Kd.C_drew ?_))); (case side6 => exact HC0_6.out); (case side7 => repeat (first | exact (Kd.C_below HR0_9.out HB.out) | (with_reducible refine Kd.C_alloc ?_ _) | (with_reducible refine Kd.C_drewN ?_ _) | (with_reducible refine Kd.C_drew ?_))); (case side8 => exact HC0_9.out); rintro e w72 ⟨rfl, hb⟩; refine ⟨_, rfl, ?_⟩; have n0_ := iC.mk (jI (g := gb135) (o := .cells #[.int .u8 a0_0, .int .u32 a0_1, .int .u32 a0_2, .slice A0_3 l0_3.length c0_3, .slice A0_4 l0_4.length c0_4, .int .u32 a0_5, .slice A0_6 l0_6.length c0_6, .int .i64 a0_7, .int .i64 a0_8, .slice A0_9 l0_9.length c0_9] 30 (0, 0)) (bk_ BK135.out) hb); have n1_ := iC.mk (iH (by repeat (first | (with_reducible first | exact HB.out | apply iF | apply iG | apply iI | refine iK ?_ GE135.out) | exact HB.out)) hb); clear BK135; clear HB; have BK135 := n0_; have HB := n1_; clear n0_ n1_; (try clear hb); (try clear hb2); (try clear hk); (try clear hi)))
                  go_ret
                  exact ⟨by first | rfl | (simp [iP, iO] <;> rfl) | (simp [*, iP, iO] <;> rfl), by repeat (first | (with_reducible first | exact HB.out | apply iF | apply iG | apply iI | refine iK ?_ GE135.out) | exact HB.out)⟩
              · rw [if_neg c48] at H
                have c48b0 : (a0_0 == 7) = false := beq_eq_false_iff_ne.mpr c48
                have c48b1 : (a0_0 != 7) = true := bne_iff_ne.mpr c48
                obtain rfl := Option.some.inj H
                go_wp2
                go_ret
                exact ⟨by first | rfl | (simp [iP, iO] <;> rfl) | (simp [*, iP, iO] <;> rfl), by repeat (first | (with_reducible first | exact HB.out | apply iF | apply iG | apply iI | refine iK ?_ GE135.out) | exact HB.out)⟩
end Go.Proofs.YtgfkgppomaapiaaDoor.K
end

section
namespace Go.Proofs.YtgfkgppomaapiaaDoor.K
open RowKit YtgfkgppomaapiaaDoorW.PrintWords YtgfkgppomaapiaaDoorW.PrintLast YtgfkgppomaapiaaDoorW.PrintMore My
theorem qK {α : Type} (d : α) (l : List α) (i : Int) (h : i.toNat < l.length) (h0 : 0 ≤ i) : l.drop i.toNat = l.getD i.toNat d :: l.drop (i + 1).toNat := by
  rw [List.drop_eq_getElem_cons h, show (i + 1).toNat = i.toNat + 1 by omega]
  congr 1
  rw [List.getD_eq_getElem?_getD, List.getElem?_eq_getElem h]
  rfl
theorem drop_end {α : Type} (l : List α) (i : Int) (h : ¬ i < (l.length : Int)) : l.drop i.toNat = [] := List.drop_of_length_le (by omega)
def yY (l : List Int) (i : Int) : Int := if 0 < i then rd l (i - 1) else -1
theorem PM (l : List Int) (hn : l.length ≤ 9223372036854775807) (d : Nat) : ∀ i : Int, 0 ≤ i → i ≤ l.length → (l.length : Int) - i = d → -1 ≤ yY l i → Ev (fun k => stratumref07_SoundNodes.l0 k l i) (mQ (yY l i) (l.drop i.toNat)) := by
  induction d with
  | zero =>
    intro i h0 h1 hd hp
    refine Ev.step (f := fun _ => some true) (fun k => by simp only [stratumref07_SoundNodes.l0]; rw [if_neg (by omega)]) ?_
    rw [drop_end l i (by omega)]
    exact Ev.now _
  | succ d ih =>
    intro i h0 h1 hd hp
    have hlt : i < (l.length : Int) := by omega
    have hnext : yY l (i + 1) = rd l i := by unfold yY; rw [if_pos (by omega), show i + 1 - 1 = i by omega]
    rw [qK 0 l i (by omega) h0, mQ, show l.getD i.toNat 0 = rd l i from rfl]
    by_cases c1 : rd l i < 0
    · refine Ev.step (f := fun _ => some false) (fun k => by simp only [stratumref07_SoundNodes.l0]; rw [if_pos hlt, if_pos h0, if_pos c1]) ?_
      rw [decide_eq_false (show ¬ yY l i < rd l i by omega)]
      exact Ev.now _
    by_cases c2 : rd l i > 5
    · refine Ev.step (f := fun _ => some false) (fun k => by simp only [stratumref07_SoundNodes.l0]; rw [if_pos hlt, if_pos h0, if_neg c1, if_pos c2]) ?_
      rw [decide_eq_false (show ¬ rd l i < 6 by omega), Bool.and_false]
      exact Ev.now _
    rw [decide_eq_true (show rd l i < 6 by omega), Bool.and_true]
    have hih := ih (i + 1) (by omega) (by omega) (by omega) (by rw [hnext]; omega)
    rw [hnext] at hih
    have hw := nS h0 hlt hn
    by_cases c3 : 0 < i
    · have hw2 : wrap64 (i - 1) = i - 1 := by unfold wrap64; omega
      have hpi : yY l i = rd l (i - 1) := by unfold yY; rw [if_pos c3]
      rw [hpi]
      by_cases c4 : rd l i ≤ rd l (i - 1)
      · refine Ev.step (f := fun _ => some false) (fun k => by simp only [stratumref07_SoundNodes.l0]; rw [if_pos hlt, if_pos h0, if_neg c1, if_neg c2, if_pos c3, hw2, if_pos (by omega), if_pos (by omega), if_pos c4]) ?_
        rw [decide_eq_false (show ¬ rd l (i - 1) < rd l i by omega)]
        exact Ev.now _
      · refine Ev.step (f := fun k => stratumref07_SoundNodes.l0 k l (i + 1)) (fun k => by simp only [stratumref07_SoundNodes.l0]; rw [if_pos hlt, if_pos h0, if_neg c1, if_neg c2, if_pos c3, hw2, if_pos (by omega), if_pos (by omega), if_neg c4, hw]) ?_
        rw [decide_eq_true (show rd l (i - 1) < rd l i by omega), Bool.true_and]
        exact hih
    · refine Ev.step (f := fun k => stratumref07_SoundNodes.l0 k l (i + 1)) (fun k => by simp only [stratumref07_SoundNodes.l0]; rw [if_pos hlt, if_pos h0, if_neg c1, if_neg c2, if_neg c3, hw]) ?_
      have hpi : yY l i = -1 := by unfold yY; rw [if_neg c3]
      rw [hpi, decide_eq_true (show (-1 : Int) < rd l i by omega), Bool.true_and]
      exact hih
theorem IP (l : List Int) (hn : l.length ≤ 9223372036854775807) : Ev (fun k => stratumref07_SoundNodes.f k l) (mQ (-1) l) :=
  PM l hn l.length 0 (by omega) (by omega) (by omega) (by unfold yY; rw [if_neg (by omega)]; omega)
def okV (v : Int) : Bool := decide (0 ≤ v) && decide (v ≤ 9999)
theorem RQ (f : jQ) : oK f = (f.f0.all okV && decide ((f.f0.length : Int) ≤ 4)) := by
  unfold oK
  rw [show decide (f.f0.length ≤ 4) = decide ((f.f0.length : Int) ≤ 4) from by rw [decide_eq_decide]; omega, Bool.and_comm]
  rfl
theorem VX (l : List jQ) (i : Int) (h0 : 0 ≤ i) (hlt : i < l.length) (hn : l.length ≤ 9223372036854775807) (hk : (iW l i).f0.length ≤ 9223372036854775807) (R : Bool) (hR : Ev (fun k => stratumref07_SoundFacts.l0 k l (i + 1)) R) (d : Nat) : ∀ j : Int, 0 ≤ j → j ≤ (iW l i).f0.length → ((iW l i).f0.length : Int) - j = d →
    Ev (fun k => stratumref07_SoundFacts.l1 k l i j) (((iW l i).f0.drop j.toNat).all okV && decide (((iW l i).f0.length : Int) ≤ 4) && R) := by
  induction d with
  | zero =>
    intro j g0 g1 hd
    rw [drop_end _ j (by omega), List.all_nil, Bool.true_and]
    by_cases c1 : ((iW l i).f0.length : Int) > 4
    · refine Ev.step (f := fun _ => some false) (fun k => by simp only [stratumref07_SoundFacts.l1]; rw [if_pos h0, if_pos hlt, if_neg (by omega), if_pos c1]) ?_
      rw [decide_eq_false (by omega)]
      exact Ev.now _
    · refine Ev.step (f := fun k => stratumref07_SoundFacts.l0 k l (i + 1)) (fun k => by simp only [stratumref07_SoundFacts.l1]; rw [if_pos h0, if_pos hlt, if_neg (by omega), if_neg c1, nS h0 hlt hn]) ?_
      rw [decide_eq_true (by omega), Bool.true_and]
      exact hR
  | succ d ih =>
    intro j g0 g1 hd
    have hj : j < ((iW l i).f0.length : Int) := by omega
    rw [qK 0 _ j (by omega) g0, List.all_cons, show (iW l i).f0.getD j.toNat 0 = rd (iW l i).f0 j from rfl]
    by_cases c1 : rd (iW l i).f0 j < 0
    · refine Ev.step (f := fun _ => some false) (fun k => by simp only [stratumref07_SoundFacts.l1]; rw [if_pos h0, if_pos hlt, if_pos hj, if_pos g0, if_pos c1]) ?_
      unfold okV
      rw [decide_eq_false (by omega)]
      exact Ev.now _
    by_cases c2 : rd (iW l i).f0 j > 9999
    · refine Ev.step (f := fun _ => some false) (fun k => by simp only [stratumref07_SoundFacts.l1]; rw [if_pos h0, if_pos hlt, if_pos hj, if_pos g0, if_neg c1, if_pos c2]) ?_
      unfold okV
      rw [decide_eq_false (show ¬ rd (iW l i).f0 j ≤ 9999 by omega), Bool.and_false]
      exact Ev.now _
    refine Ev.step (f := fun k => stratumref07_SoundFacts.l1 k l i (j + 1)) (fun k => by simp only [stratumref07_SoundFacts.l1]; rw [if_pos h0, if_pos hlt, if_pos hj, if_pos g0, if_neg c1, if_neg c2, nS g0 hj hk]) ?_
    rw [show okV (rd (iW l i).f0 j) = true from by unfold okV; simp; omega, Bool.true_and]
    exact ih (j + 1) (by omega) (by omega) (by omega)
theorem QV (l : List jQ) (hn : l.length ≤ 9223372036854775807) (hk : ∀ f ∈ l, f.f0.length ≤ 9223372036854775807) (d : Nat) : ∀ i : Int, 0 ≤ i → i ≤ l.length → (l.length : Int) - i = d →
    Ev (fun k => stratumref07_SoundFacts.l0 k l i) ((l.drop i.toNat).all oK && decide ((l.length : Int) ≤ 200)) := by
  induction d with
  | zero =>
    intro i h0 h1 hd
    rw [drop_end _ i (by omega), List.all_nil, Bool.true_and]
    exact Ev.step (f := fun _ => some (decide ((l.length : Int) ≤ 200))) (fun k => by simp only [stratumref07_SoundFacts.l0]; rw [if_neg (by omega)]) (Ev.now _)
  | succ d ih =>
    intro i h0 h1 hd
    have hlt : i < (l.length : Int) := by omega
    refine Ev.step (f := fun k => stratumref07_SoundFacts.l1 k l i 0) (fun k => by simp only [stratumref07_SoundFacts.l0]; rw [if_pos hlt]) ?_
    have hm : iW l i ∈ l := by
      unfold iW
      rw [List.getD_eq_getElem?_getD, List.getElem?_eq_getElem (show i.toNat < l.length by omega)]
      exact List.getElem_mem _
    have := VX l i h0 hlt hn (hk _ hm) _ (ih (i + 1) (by omega) (by omega) (by omega)) (iW l i).f0.length 0 (by omega) (by omega) (by omega)
    rw [qK z139 l i (by omega) h0, List.all_cons, show l.getD i.toNat z139 = iW l i from rfl, RQ]
    rw [Bool.and_assoc]
    exact this
theorem OM (l : List jQ) : mV l = (l.all oK && decide ((l.length : Int) ≤ 200)) := by
  unfold mV
  rw [show decide (l.length ≤ 200) = decide ((l.length : Int) ≤ 200) from by rw [decide_eq_decide]; omega, Bool.and_comm]
theorem uQ (l : List jQ) (hn : l.length ≤ 9223372036854775807) (hk : ∀ f ∈ l, f.f0.length ≤ 9223372036854775807) : Ev (fun k => stratumref07_SoundFacts.f k l) (mV l) := by
  rw [OM]
  exact QV l hn hk l.length 0 (by omega) (by omega) (by omega)
theorem RZ (l : List kC) (hn : l.length ≤ 9223372036854775807) (d : Nat) : ∀ i : Int, 0 ≤ i → i ≤ l.length → (l.length : Int) - i = d →
    Ev (fun k => stratumref07_spans.l0 k l i) ((l.drop i.toNat).all mG && decide ((l.length : Int) ≤ 40)) := by
  induction d with
  | zero =>
    intro i h0 h1 hd
    rw [drop_end _ i (by omega), List.all_nil, Bool.true_and]
    exact Ev.step (f := fun _ => some (decide ((l.length : Int) ≤ 40))) (fun k => by simp only [stratumref07_spans.l0]; rw [if_neg (by omega)]) (Ev.now _)
  | succ d ih =>
    intro i h0 h1 hd
    have hlt : i < (l.length : Int) := by omega
    rw [qK z98 l i (by omega) h0, List.all_cons, show l.getD i.toNat z98 = jO l i from rfl]
    by_cases c1 : (jO l i).f0 < 0
    · refine Ev.step (f := fun _ => some false) (fun k => by simp only [stratumref07_spans.l0]; rw [if_pos hlt, if_pos h0, if_pos c1]) ?_
      rw [show mG (jO l i) = false from by unfold mG; simp; omega]
      exact Ev.now _
    by_cases c2 : (jO l i).f0 > 9999
    · refine Ev.step (f := fun _ => some false) (fun k => by simp only [stratumref07_spans.l0]; rw [if_pos hlt, if_pos h0, if_neg c1, if_pos c2]) ?_
      rw [show mG (jO l i) = false from by unfold mG; simp; omega]
      exact Ev.now _
    by_cases c3 : (jO l i).f1 < 0
    · refine Ev.step (f := fun _ => some false) (fun k => by simp only [stratumref07_spans.l0]; rw [if_pos hlt, if_pos h0, if_neg c1, if_neg c2, if_pos c3]) ?_
      rw [show mG (jO l i) = false from by unfold mG; simp; omega]
      exact Ev.now _
    by_cases c4 : (jO l i).f1 > 5
    · refine Ev.step (f := fun _ => some false) (fun k => by simp only [stratumref07_spans.l0]; rw [if_pos hlt, if_pos h0, if_neg c1, if_neg c2, if_neg c3, if_pos c4]) ?_
      rw [show mG (jO l i) = false from by unfold mG; simp; omega]
      exact Ev.now _
    refine Ev.step (f := fun k => stratumref07_spans.l0 k l (i + 1)) (fun k => by simp only [stratumref07_spans.l0]; rw [if_pos hlt, if_pos h0, if_neg c1, if_neg c2, if_neg c3, if_neg c4, nS h0 hlt hn]) ?_
    rw [show mG (jO l i) = true from by unfold mG; simp; omega, Bool.true_and]
    exact ih (i + 1) (by omega) (by omega) (by omega)
theorem O8 (l : List kC) (hn : l.length ≤ 9223372036854775807) : Ev (fun k => stratumref07_spans.f k l) (l.all mG && decide ((l.length : Int) ≤ 40)) := RZ l hn l.length 0 (by omega) (by omega) (by omega)
theorem JW (l : List jG) (hn : l.length ≤ 9223372036854775807) (hk : ∀ e ∈ l, e.f1.length ≤ 9223372036854775807 ∧ ∀ f ∈ e.f1, f.f0.length ≤ 9223372036854775807) (d : Nat) : ∀ i : Int, 0 ≤ i → i ≤ l.length → (l.length : Int) - i = d →
    Ev (fun k => stratumref07_SoundEntries.l0 k l i) (nY (rQ l i) (l.drop i.toNat) && decide ((l.length : Int) ≤ 5000)) := by
  induction d with
  | zero =>
    intro i h0 h1 hd
    rw [drop_end _ i (by omega), nY, Bool.true_and]
    exact Ev.step (f := fun _ => some (decide ((l.length : Int) ≤ 5000))) (fun k => by simp only [stratumref07_SoundEntries.l0]; rw [if_neg (by omega)]) (Ev.now _)
  | succ d ih =>
    intro i h0 h1 hd
    have hlt : i < (l.length : Int) := by omega
    have hm : iQ l i ∈ l := by
      unfold iQ
      rw [List.getD_eq_getElem?_getD, List.getElem?_eq_getElem (show i.toNat < l.length by omega)]
      exact List.getElem_mem _
    have hnext : rQ l (i + 1) = some (iQ l i).f0 := by unfold rQ; rw [if_pos (by omega), show i + 1 - 1 = i by omega]
    have hih := ih (i + 1) (by omega) (by omega) (by omega)
    rw [hnext] at hih
    have hw := nS h0 hlt hn
    rw [qK z86 l i (by omega) h0, show l.getD i.toNat z86 = iQ l i from rfl, uD]
    refine Ev.step (f := fun k => (stratumref07_SoundFacts.f k (iQ l i).f1).bind _) (fun k => by simp only [stratumref07_SoundEntries.l0]; rw [if_pos hlt, if_pos h0]) ?_
    refine Ev.bind (uQ _ (hk _ hm).1 (hk _ hm).2) ?_
    cases mV (iQ l i).f1 with
    | false => exact Ev.now _
    | true =>
      simp only [if_true, Bool.true_and]
      rw [hw]
      by_cases c3 : i > 0
      · have hw2 : wrap64 (i - 1) = i - 1 := by unfold wrap64; omega
        unfold rQ gapB
        rw [if_pos (show 0 < i from c3)]
        simp only
        by_cases c4 : (iQ l i).f0 ≤ (iQ l (i - 1)).f0
        · refine Ev.congr (f := fun _ => some false) (fun k => by rw [if_pos c3, hw2, if_pos (show 0 ≤ i - 1 by omega), if_pos (show i - 1 < (l.length : Int) by omega), if_pos c4]) ?_
          rw [decide_eq_false (show ¬ (iQ l (i - 1)).f0 < (iQ l i).f0 by omega)]
          exact Ev.now _
        · refine Ev.congr (f := fun k => stratumref07_SoundEntries.l0 k l (i + 1)) (fun k => by rw [if_pos c3, hw2, if_pos (show 0 ≤ i - 1 by omega), if_pos (show i - 1 < (l.length : Int) by omega), if_neg c4]) ?_
          rw [decide_eq_true (show (iQ l (i - 1)).f0 < (iQ l i).f0 by omega), Bool.true_and]
          exact hih
      · refine Ev.congr (f := fun k => stratumref07_SoundEntries.l0 k l (i + 1)) (fun k => by rw [if_neg c3]) ?_
        unfold rQ gapB
        rw [if_neg (show ¬ 0 < i from c3)]
        simp only [Bool.true_and]
        exact hih
theorem yB (l : List jG) (hn : l.length ≤ 9223372036854775807) (hk : ∀ e ∈ l, e.f1.length ≤ 9223372036854775807 ∧ ∀ f ∈ e.f1, f.f0.length ≤ 9223372036854775807) : Ev (fun k => stratumref07_SoundEntries.f k l) (nZ l && decide ((l.length : Int) ≤ 5000)) :=
  JW l hn hk l.length 0 (by omega) (by omega) (by omega)
structure V3 (l3 : List Int) (l4 : List jQ) (l6 : List kC) (l9 : List jG) : Prop where
  n3 : l3.length ≤ 9223372036854775807
  n4 : l4.length ≤ 9223372036854775807
  f4 : ∀ f ∈ l4, f.f0.length ≤ 9223372036854775807
  n6 : l6.length ≤ 9223372036854775807
  n9 : l9.length ≤ 9223372036854775807
  f9 : ∀ e ∈ l9, e.f1.length ≤ 9223372036854775807 ∧ ∀ f ∈ e.f1, f.f0.length ≤ 9223372036854775807
theorem qP (a0 a1 a2 : Int) (l3 : List Int) (l4 : List jQ) (a5 : Int) (l6 : List kC) (a7 a8 : Int) (l9 : List jG) (s : List UInt8) (hs : s.length < 100) : stratumref07_bare.f a0 a1 a2 l3 l4 a5 l6 a7 a8 l9 (⟨s.toArray⟩ : ByteArray) = some (xB a1 a2 l3 l4 a5 l6 a7 a8 l9 s) := by
  unfold stratumref07_bare.f
  rw [if_pos (show (((⟨s.toArray⟩ : ByteArray).size : Nat) : Int) ≤ 9223372036854775807 from by show ((s.toArray.size : Nat) : Int) ≤ _; simp; omega)]
theorem lenb {α : Type} (l : List α) : ((l.length : Int) == 0) = l.isEmpty := by
  cases l with
  | nil => rfl
  | cons x l => simp; omega
theorem uI {g : Nat → Option Bool} {b : Bool} (B : Bool) (h : Ev g b) : Ev (fun k => if B = true then g k else some false) (B && b) := by
  cases B with
  | false => exact Ev.now _
  | true => exact h
theorem WG {g : Nat → Option Bool} {b : Bool} (h : Ev g b) : Ev (fun k => (g k).bind fun t => some t) b := h.congr (fun k => by cases g k <;> rfl)
theorem oN (a0 a1 a2 : Int) (l3 : List Int) (l4 : List jQ) (a5 : Int) (l6 : List kC) (a7 a8 : Int) (l9 : List jG) (h : V3 l3 l4 l6 l9) :
    Ev (fun k => stratumref07_Sound.f k a0 a1 a2 l3 l4 a5 l6 a7 a8 l9) (jJ ⟨a0, a1, a2, l3, l4, ⟨a5, l6⟩, a7, a8, l9⟩) := by
  have e1 := qP a0 a1 a2 l3 l4 a5 l6 a7 a8 l9 [73, 78, 70] (by decide)
  have e2 := qP a0 a1 a2 l3 l4 a5 l6 a7 a8 l9 [73, 65, 78] (by decide)
  have e3 := qP a0 a1 a2 l3 l4 a5 l6 a7 a8 l9 [73] (by decide)
  have e4 := qP a0 a1 a2 l3 l4 a5 l6 a7 a8 l9 [77] (by decide)
  have e5 := qP a0 a1 a2 l3 l4 a5 l6 a7 a8 l9 [73, 82] (by decide)
  have b1 : xB a1 a2 l3 l4 a5 l6 a7 a8 l9 [73, 78, 70] = (a2 == 0 && (a5 == 0 && l6.isEmpty) && (a7 == 0 && a8 == 0 && l9.isEmpty)) := by unfold xB flag; rw [lenb, lenb, lenb, lenb]; simp
  have b2 : xB a1 a2 l3 l4 a5 l6 a7 a8 l9 [73, 65, 78] = (l4.isEmpty && (a5 == 0 && l6.isEmpty) && (a7 == 0 && a8 == 0 && l9.isEmpty)) := by unfold xB flag; rw [lenb, lenb, lenb, lenb]; simp
  have b3 : xB a1 a2 l3 l4 a5 l6 a7 a8 l9 [73] = (a2 == 0 && l3.isEmpty && l4.isEmpty && (a5 == 0 && l6.isEmpty) && (a7 == 0 && a8 == 0 && l9.isEmpty)) := by unfold xB flag; rw [lenb, lenb, lenb, lenb]; simp
  have b4 : xB a1 a2 l3 l4 a5 l6 a7 a8 l9 [77] = (a1 == 0 && a2 == 0 && l3.isEmpty && l4.isEmpty && (a7 == 0 && a8 == 0 && l9.isEmpty)) := by unfold xB flag; rw [lenb, lenb, lenb, lenb]; simp
  have b5 : xB a1 a2 l3 l4 a5 l6 a7 a8 l9 [73, 82] = (a2 == 0 && l3.isEmpty && l4.isEmpty && (a5 == 0 && l6.isEmpty)) := by unfold xB flag; rw [lenb, lenb, lenb, lenb]; simp
  rw [b1] at e1; rw [b2] at e2; rw [b3] at e3; rw [b4] at e4; rw [b5] at e5
  clear b1 b2 b3 b4 b5
  have n3 := IP l3 h.n3
  have n4 := uQ l4 h.n4 h.f4
  have n6 := O8 l6 h.n6
  have n9 := yB l9 h.n9 h.f9
  by_cases h1 : a0 = 1
  · have hs : jJ ⟨a0, a1, a2, l3, l4, ⟨a5, l6⟩, a7, a8, l9⟩ = ((a2 == 0 && (a5 == 0 && l6.isEmpty) && (a7 == 0 && a8 == 0 && l9.isEmpty)) && (mQ (-1) l3 && mV l4)) := by
      unfold jJ
      simp only [h1, if_true]
      rw [Bool.eq_iff_iff]
      simp only [Bool.and_eq_true]
      constructor <;> (intro h; simp only [h, and_self])
    rw [hs]
    refine Ev.congr (fun k => by unfold stratumref07_Sound.f; rw [if_pos h1, e1]; rfl) (uI _ (Ev.bind n3 (uI _ (WG n4))))
  by_cases h2 : a0 = 2
  · have hs : jJ ⟨a0, a1, a2, l3, l4, ⟨a5, l6⟩, a7, a8, l9⟩ = ((l4.isEmpty && (a5 == 0 && l6.isEmpty) && (a7 == 0 && a8 == 0 && l9.isEmpty)) && mQ (-1) l3) := by
      unfold jJ
      simp only [h2, if_true, if_false, show ¬ (2 : Int) = 1 from by decide]
      rw [Bool.eq_iff_iff]
      simp only [Bool.and_eq_true]
      constructor <;> (intro h; simp only [h, and_self])
    rw [hs]
    refine Ev.congr (fun k => by unfold stratumref07_Sound.f; rw [if_neg h1, if_pos h2, e2]; rfl) (uI _ (WG n3))
  by_cases h3 : a0 = 3 ∨ a0 = 4 ∨ a0 = 5
  · have hs : jJ ⟨a0, a1, a2, l3, l4, ⟨a5, l6⟩, a7, a8, l9⟩ = (a2 == 0 && l3.isEmpty && l4.isEmpty && (a5 == 0 && l6.isEmpty) && (a7 == 0 && a8 == 0 && l9.isEmpty)) := by
      have hd : (decide (a0 = 3) || decide (a0 = 4) || decide (a0 = 5)) = true := by simp; omega
      unfold jJ
      simp only [h1, h2, hd, if_true, if_false]
      rw [Bool.eq_iff_iff]
      simp only [Bool.and_eq_true]
      constructor <;> (intro h; simp only [h, and_self])
    rw [hs]
    have hj : Ev (fun k => stratumref07_Sound.j0 k a0 true a0 a1 a2 l3 l4 a5 l6 a7 a8 l9) (a2 == 0 && l3.isEmpty && l4.isEmpty && (a5 == 0 && l6.isEmpty) && (a7 == 0 && a8 == 0 && l9.isEmpty)) :=
      Ev.step (fun k => by simp only [stratumref07_Sound.j0]; rw [if_pos True.intro, e3]; rfl) (Ev.now _)
    rcases h3 with h3 | h3 | h3
    · exact Ev.congr (fun k => by unfold stratumref07_Sound.f; rw [if_neg h1, if_neg h2, if_pos h3, show (a0 == 3) = true from beq_iff_eq.mpr h3]) hj
    · exact Ev.congr (fun k => by unfold stratumref07_Sound.f; rw [if_neg h1, if_neg h2, if_neg (by omega), if_pos h3, show (a0 == 4) = true from beq_iff_eq.mpr h3]) hj
    · exact Ev.congr (fun k => by unfold stratumref07_Sound.f; rw [if_neg h1, if_neg h2, if_neg (by omega), if_neg (by omega), show (a0 == 5) = true from beq_iff_eq.mpr h3]) hj
  have hd : (decide (a0 = 3) || decide (a0 = 4) || decide (a0 = 5)) = false := by simp; omega
  have hj : ∀ {r : Bool} {g : Nat → Option Bool}, (∀ k, stratumref07_Sound.j0 (k + 1) a0 false a0 a1 a2 l3 l4 a5 l6 a7 a8 l9 = g k) → Ev g r → Ev (fun k => stratumref07_Sound.f k a0 a1 a2 l3 l4 a5 l6 a7 a8 l9) r := fun hg h =>
    Ev.congr (fun k => by unfold stratumref07_Sound.f; rw [if_neg h1, if_neg h2, if_neg (by omega), if_neg (by omega), show (a0 == 5) = false from beq_eq_false_iff_ne.mpr (by omega)]) (Ev.step hg h)
  by_cases h6 : a0 = 6
  · have hs : jJ ⟨a0, a1, a2, l3, l4, ⟨a5, l6⟩, a7, a8, l9⟩ = ((a1 == 0 && a2 == 0 && l3.isEmpty && l4.isEmpty && (a7 == 0 && a8 == 0 && l9.isEmpty)) && (l6.all mG && decide ((l6.length : Int) ≤ 40))) := by
      unfold jJ
      simp only [h1, h2, hd, h6, if_true, if_false, Bool.false_eq_true]
      rw [show decide ((l6.length : Int) ≤ 40) = decide (l6.length ≤ 40) from by rw [decide_eq_decide]; omega]
      simp only [show ¬ (6 : Int) = 1 from by decide, show ¬ (6 : Int) = 2 from by decide, if_false, show (decide ((6 : Int) = 3) || decide ((6 : Int) = 4) || decide ((6 : Int) = 5)) = false from by decide, Bool.false_eq_true]
      rw [Bool.eq_iff_iff]
      simp only [Bool.and_eq_true]
      constructor <;> (intro h; simp only [h, and_self])
    rw [hs]
    exact hj (fun k => by simp only [stratumref07_Sound.j0]; rw [if_neg (by decide), if_pos h6, e4]; rfl) (uI _ (WG n6))
  by_cases h7 : a0 = 7
  · have hs : jJ ⟨a0, a1, a2, l3, l4, ⟨a5, l6⟩, a7, a8, l9⟩ = ((a2 == 0 && l3.isEmpty && l4.isEmpty && (a5 == 0 && l6.isEmpty)) && ((nZ l9 && decide ((l9.length : Int) ≤ 5000)) && (decide (0 ≤ a7) && decide (a7 ≤ 10000) && decide (0 ≤ a8) && decide (a8 ≤ 10000)))) := by
      unfold jJ
      simp only [h7, if_true, if_false, show ¬ (7 : Int) = 1 from by decide, show ¬ (7 : Int) = 2 from by decide, show ¬ (7 : Int) = 6 from by decide, show (decide ((7 : Int) = 3) || decide ((7 : Int) = 4) || decide ((7 : Int) = 5)) = false from by decide, Bool.false_eq_true]
      rw [show decide ((l9.length : Int) ≤ 5000) = decide (l9.length ≤ 5000) from by rw [decide_eq_decide]; omega]
      rw [Bool.eq_iff_iff]
      simp only [Bool.and_eq_true]
      constructor <;> (intro h; simp only [h, and_self])
    rw [hs]
    refine hj (fun k => by simp only [stratumref07_Sound.j0]; rw [if_neg (by decide), if_neg h6, if_pos h7, e5]; rfl) (uI _ (Ev.bind n9 (uI _ ?_)))
    by_cases q1 : a7 ≥ 0
    · by_cases q2 : a7 ≤ 10000
      · by_cases q3 : a8 ≥ 0
        · rw [decide_eq_true (show 0 ≤ a7 from q1), decide_eq_true q2, decide_eq_true (show 0 ≤ a8 from q3), Bool.true_and, Bool.true_and, Bool.true_and]
          exact Ev.congr (fun k => by rw [if_pos q1, if_pos q2, if_pos q3]) (Ev.now _)
        · rw [decide_eq_false (show ¬ 0 ≤ a8 from q3), Bool.and_false, Bool.false_and]
          exact Ev.congr (fun k => by rw [if_pos q1, if_pos q2, if_neg q3]) (Ev.now _)
      · rw [decide_eq_false q2, Bool.and_false, Bool.false_and, Bool.false_and]
        exact Ev.congr (fun k => by rw [if_pos q1, if_neg q2]) (Ev.now _)
    · rw [decide_eq_false (show ¬ 0 ≤ a7 from q1), Bool.false_and, Bool.false_and, Bool.false_and]
      exact Ev.congr (fun k => by rw [if_neg q1]) (Ev.now _)
  · have hs : jJ ⟨a0, a1, a2, l3, l4, ⟨a5, l6⟩, a7, a8, l9⟩ = false := by
      unfold jJ
      simp only [h1, h2, hd, h6, h7, if_false, Bool.false_eq_true]
    rw [hs]
    exact hj (fun k => by simp only [stratumref07_Sound.j0]; rw [if_neg (by decide), if_neg h6, if_neg h7]) (Ev.now _)
end Go.Proofs.YtgfkgppomaapiaaDoor.K
end

section
namespace Go.Proofs
open Go.Shelf
def Tryd.laysM181_ren : Go.Shelf.Ren := ⟨fun | 181 => 55 | n => n, fun | 130 => 87 | 3 => 3 | 0 => 0 | 93 => 91 | 37 => 33 | 91 => 89 | 5 => 5 | n => n, fun | n => n⟩
theorem Tryd.laysM181 : Go.Proofs.LaysM.n181 Tryd.prog Tryd.laysM181_ren := {
  mixed := by kernel_rfl
  f181 := Tryd.func55.trans (congrArg some (by kernel_rfl))
  t0 := Tryd.underlying0
  a0 := Tryd.isAgg0
  z0 := Tryd.sizeOf0
  v0 := Tryd.zeroValue0
  t3 := Tryd.underlying3
  a3 := Tryd.isAgg3
  z3 := Tryd.sizeOf3
  v3 := Tryd.zeroValue3
  t37 := Tryd.underlying33
  a37 := Tryd.isAgg33
  z37 := Tryd.sizeOf33
  v37 := Tryd.zeroValue33
  t93 := Tryd.underlying91
  a93 := Tryd.isAgg91
  z93 := Tryd.sizeOf91
  v93 := Tryd.zeroValue91
  t130 := Tryd.underlying87
  a130 := Tryd.isAgg87
  z130 := Tryd.sizeOf87
  v130 := Tryd.zeroValue87
  t5 := Tryd.underlying5
  a5 := Tryd.isAgg5
  z5 := Tryd.sizeOf5
  v5 := Tryd.zeroValue5
  t91 := Tryd.underlying89
  a91 := Tryd.isAgg89
  z91 := Tryd.sizeOf89
  v91 := Tryd.zeroValue89
  i0 := by kernel_rfl
  i3 := by kernel_rfl
  i5 := by kernel_rfl
  i37 := by kernel_rfl
  i91 := by kernel_rfl
  i93 := by kernel_rfl
  i130 := by kernel_rfl }
open Go.RowKit in
theorem Tryd.Buffer_Len (B b : Nat) (bs : List Value) (w : World) (h : Lib.IsBuffer 91 5 B b bs w) :
    Calls Tryd.prog 55 #[.pointer (some ⟨b, 0, none⟩)] w fun e w' => e = .returned (.int .i64 bs.length) ∧ ∃ n, w' = w.drewN n := Any.Buffer_Len Tryd.laysM181 B b bs w h
def Tryd.laysM183_ren : Go.Shelf.Ren := ⟨fun | 183 => 56 | n => n, fun | 130 => 87 | 37 => 33 | 0 => 0 | 93 => 91 | 3 => 3 | 5 => 5 | 91 => 89 | n => n, fun | n => n⟩
theorem Tryd.laysM183 : Go.Proofs.LaysM.n183 Tryd.prog Tryd.laysM183_ren := {
  mixed := by kernel_rfl
  f183 := Tryd.func56.trans (congrArg some (by kernel_rfl))
  t0 := Tryd.underlying0
  a0 := Tryd.isAgg0
  z0 := Tryd.sizeOf0
  v0 := Tryd.zeroValue0
  t3 := Tryd.underlying3
  a3 := Tryd.isAgg3
  z3 := Tryd.sizeOf3
  v3 := Tryd.zeroValue3
  t37 := Tryd.underlying33
  a37 := Tryd.isAgg33
  z37 := Tryd.sizeOf33
  v37 := Tryd.zeroValue33
  t93 := Tryd.underlying91
  a93 := Tryd.isAgg91
  z93 := Tryd.sizeOf91
  v93 := Tryd.zeroValue91
  t130 := Tryd.underlying87
  a130 := Tryd.isAgg87
  z130 := Tryd.sizeOf87
  v130 := Tryd.zeroValue87
  t5 := Tryd.underlying5
  a5 := Tryd.isAgg5
  z5 := Tryd.sizeOf5
  v5 := Tryd.zeroValue5
  t91 := Tryd.underlying89
  a91 := Tryd.isAgg89
  z91 := Tryd.sizeOf89
  v91 := Tryd.zeroValue89
  i0 := by kernel_rfl
  i3 := by kernel_rfl
  i5 := by kernel_rfl
  i37 := by kernel_rfl
  i91 := by kernel_rfl
  i93 := by kernel_rfl
  i130 := by kernel_rfl }
open Go.RowKit in
theorem Tryd.Buffer_Bytes (B b : Nat) (bs : List Value) (w : World) (h : Lib.IsBuffer 91 5 B b bs w) :
    Calls Tryd.prog 56 #[.pointer (some ⟨b, 0, none⟩)] w fun e w' => ∃ v, e = .returned v ∧ w'.ownsRow B 5 1 v bs.length bs ∧ ∃ n, w' = w.drewN n := Any.Buffer_Bytes Tryd.laysM183 B b bs w h
def Tryd.laysM179_ren : Go.Shelf.Ren := ⟨fun | 179 => 90 | 251 => 114 | 252 => 115 | 181 => 55 | 184 => 125 | 290 => 128 | 324 => 132 | n => n, fun | 130 => 87 | 5 => 5 | 75 => 141 | 0 => 0 | 93 => 91 | 91 => 89 | 3 => 3 | 131 => 167 | 4 => 4 | 37 => 33 | 20 => 20 | 80 => 185 | 9 => 9 | n => n, fun | 14 => 0 | n => n⟩
theorem Tryd.laysM179 : Go.Proofs.LaysM.n179 Tryd.prog Tryd.laysM179_ren := {
  mixed := by kernel_rfl
  f179 := Tryd.func90.trans (congrArg some (by kernel_rfl))
  f181 := Tryd.func55.trans (congrArg some (by kernel_rfl))
  f184 := Tryd.func125.trans (congrArg some (by kernel_rfl))
  f251 := Tryd.func114.trans (congrArg some (by kernel_rfl))
  f252 := Tryd.func115.trans (congrArg some (by kernel_rfl))
  f290 := Tryd.func128.trans (congrArg some (by kernel_rfl))
  f324 := Tryd.func132.trans (congrArg some (by kernel_rfl))
  t0 := Tryd.underlying0
  a0 := Tryd.isAgg0
  z0 := Tryd.sizeOf0
  v0 := Tryd.zeroValue0
  t3 := Tryd.underlying3
  a3 := Tryd.isAgg3
  z3 := Tryd.sizeOf3
  v3 := Tryd.zeroValue3
  t4 := Tryd.underlying4
  a4 := Tryd.isAgg4
  z4 := Tryd.sizeOf4
  v4 := Tryd.zeroValue4
  t5 := Tryd.underlying5
  a5 := Tryd.isAgg5
  z5 := Tryd.sizeOf5
  v5 := Tryd.zeroValue5
  t20 := Tryd.underlying20
  a20 := Tryd.isAgg20
  z20 := Tryd.sizeOf20
  v20 := Tryd.zeroValue20
  t37 := Tryd.underlying33
  a37 := Tryd.isAgg33
  z37 := Tryd.sizeOf33
  v37 := Tryd.zeroValue33
  t75 := Tryd.underlying141
  a75 := Tryd.isAgg141
  z75 := Tryd.sizeOf141
  v75 := Tryd.zeroValue141
  t91 := Tryd.underlying89
  a91 := Tryd.isAgg89
  z91 := Tryd.sizeOf89
  v91 := Tryd.zeroValue89
  t93 := Tryd.underlying91
  a93 := Tryd.isAgg91
  z93 := Tryd.sizeOf91
  v93 := Tryd.zeroValue91
  t130 := Tryd.underlying87
  a130 := Tryd.isAgg87
  z130 := Tryd.sizeOf87
  v130 := Tryd.zeroValue87
  t131 := Tryd.underlying167
  a131 := Tryd.isAgg167
  z131 := Tryd.sizeOf167
  v131 := Tryd.zeroValue167
  g14 := by kernel_rfl
  t9 := Tryd.underlying9
  a9 := Tryd.isAgg9
  z9 := Tryd.sizeOf9
  v9 := Tryd.zeroValue9
  t80 := Tryd.underlying185
  a80 := Tryd.isAgg185
  z80 := Tryd.sizeOf185
  v80 := Tryd.zeroValue185
  i0 := by kernel_rfl
  i3 := by kernel_rfl
  i4 := by kernel_rfl
  i5 := by kernel_rfl
  i9 := by kernel_rfl
  i20 := by kernel_rfl
  i37 := by kernel_rfl
  i75 := by kernel_rfl
  i80 := by kernel_rfl
  i91 := by kernel_rfl
  i93 := by kernel_rfl
  i130 := by kernel_rfl
  i131 := by kernel_rfl
  m14 := by kernel_rfl }
open Go.RowKit in
theorem Tryd.Buffer_WriteByte_kept (B b : Nat) (bs : List Value) (c : Int) (w : World) (h : Lib.IsBuffer 91 5 B b bs w) (hBw : B ≤ w.heap.size) (h1 : ∀ v ∈ bs, v.oneCell' = true) (hlim : bs.length + 1 ≤ 140737488355328) :
    Calls Tryd.prog 90 #[.pointer (some ⟨b, 0, none⟩), .int .u8 c] w fun e w' => e = .returned .nilIface ∧ Lib.IsBuffer 91 5 B b (bs ++ [.int .u8 c]) w' ∧ Below B w w' ∧ Lib.OthersKept 5 (some b) w w' := Any.Buffer_WriteByte_kept Tryd.laysM179 B b bs c w h hBw h1 hlim
end Go.Proofs
end

section
namespace Go.Proofs.YtgfkgppomaapiaaDoor.K
open RowKit YtgfkgppomaapiaaDoorW.PrintWords YtgfkgppomaapiaaDoorW.PrintLast YtgfkgppomaapiaaDoorW.PrintMore My
def Bf (B b : Nat) (l : List UInt8) (w : World) : Prop := Lib.IsBuffer 91 5 B b (Lib.byteCells l) w
def Kp (B b : Nat) (w w' : World) : Prop := Below B w w' ∧ Lib.OthersKept 5 (some b) w w'
theorem Kp.refl (B b : Nat) (w : World) : Kp B b w w := ⟨Below.refl _ _, Lib.OthersKept.refl _ _ _⟩
theorem Kp.trans {B b : Nat} {w w1 w2 : World} (h : Kp B b w w1) (k : Kp B b w1 w2) : Kp B b w w2 := ⟨h.1.trans k.1, h.2.trans k.2⟩
theorem Kp.alloc {B b : Nat} {w w1 : World} (h : Kp B b w w1) (hB : B ≤ w1.heap.size) (o : Obj) : Kp B b w (w1.alloc o) := ⟨h.1.alloc hB o, h.2.alloc o⟩
theorem Kp.size {B b : Nat} {w w1 : World} (h : Kp B b w w1) : w.heap.size ≤ w1.heap.size := h.1.size
theorem Kp.block {B b : Nat} {w w1 : World} (h : Kp B b w w1) {k : Nat} {cs : Array Value} {t : TypeId} {fz : Nat × Nat} (hk : w.heap[k]? = some (.cells cs t fz)) (hne : k ≠ b) (ht : t ≠ 5) : w1.heap[k]? = some (.cells cs t fz) :=
  h.2 k _ hk (fun e => hne (by injection e)) (fun c f e => ht (by injection e))
theorem Bf.lt {B b : Nat} {l : List UInt8} {w : World} (h : Bf B b l w) : b < w.heap.size := Lib.IsBuffer.lt h
theorem Bf.alloc {B b : Nat} {l : List UInt8} {w : World} (h : Bf B b l w) (o : Obj) : Bf B b l (w.alloc o) := Lib.IsBuffer.alloc h o
theorem Bf.fresh (w : World) : Bf w.heap.size w.heap.size [] (w.alloc (.cells #[.slice none 0 0, .int .i64 0, .int .i8 0] 91)) := Lib.fresh_isBuffer _ _ _
theorem NV (l : List UInt8) (c : UInt8) : Lib.byteCells (l ++ [c]) = Lib.byteCells l ++ [.int .u8 (c.toNat : Int)] := by simp [Lib.byteCells]
theorem TG (x : Int) (s k : Nat) (hk : k < s) : (layB x s).take (k + 1) = (layB x s).take k ++ [UInt8.ofNat ((x / 256 ^ (s - 1 - k)) % 256).toNat] := by
  induction s generalizing k with
  | zero => omega
  | succ s ih =>
    cases k with
    | zero => simp [layB]
    | succ k =>
      have := ih k (by omega)
      simp only [layB, List.take_succ_cons, List.cons_append]
      rw [this, show s + 1 - 1 - (k + 1) = s - 1 - k by omega]
theorem byte_of (v : Int) : ((UInt8.ofNat (v % 256).toNat).toNat : Int) = v % 256 := by
  rw [UInt8.toNat_ofNat']
  omega
theorem Bf.step {B b : Nat} {l : List UInt8} {x V : Int} {s k : Nat} {w : World} (h : Lib.IsBuffer 91 5 B b (Lib.byteCells (l ++ (layB x s).take k) ++ [.int .u8 V]) w) (hk : k < s) (hV : V = x / 256 ^ (s - 1 - k) % 256) : Bf B b (l ++ (layB x s).take (k + 1)) w := by
  unfold Bf
  rw [TG x s k hk, ← List.append_assoc, NV, byte_of, ← hV]
  exact h
theorem cells_one (l : List UInt8) : ∀ v ∈ Lib.byteCells l, v.oneCell' = true := Lib.byteCells_one l
theorem kE (l : List UInt8) (x : Int) (s k : Nat) (h : l.length + s ≤ 140737488355328) (hk : k < s) : (Lib.byteCells (l ++ (layB x s).take k)).length + 1 ≤ 140737488355328 := by
  rw [Lib.byteCells_length, List.length_append, List.length_take, iL]
  omega
set_option maxHeartbeats 4000000 in
theorem oO (B b : Nat) (l : List UInt8) (x : Int) (w : World) (h : Bf B b l w) (hB : B ≤ w.heap.size) (hl : l.length + 1 ≤ 140737488355328) :
    Calls Tryd.prog 49 #[.pointer (some ⟨b, 0, none⟩), .int .u8 x, .int .i64 1] w fun e w' => e = .returned (.tuple #[]) ∧ Bf B b (l ++ layB x 1) w' ∧ Kp B b w w' := by
  have H0 := iC.mk h
  clear h
  go_enter Tryd.func49, Tryd.ntmps49
  go_wp2
  go_loopw [8] (fun i wr => ∃ k : Nat, k ≤ 1 ∧ i = .int .i64 k ∧ iC (Bf B b (l ++ (layB x 1).take k) wr) ∧ iC (Kp B b w wr)) (fun i _ => 1 - (intOf i).toNat)
  case atStart => exact ⟨0, Nat.zero_le _, rfl, ⟨by rw [List.take_zero, List.append_nil]; exact H0.out⟩, ⟨Kp.refl _ _ _⟩⟩
  case round =>
    obtain ⟨k, hk, rfl, HI, HK⟩ := hrel
    have h' : k = 0 ∨ k = 1 := by omega
    rcases h' with rfl | rfl
    · have hI := HI.out
      have hK := HK.out
      clear HI HK
      go_wp2_with (go_at_call 90; refine (Tryd.Buffer_WriteByte_kept B b _ _ wr hI (Nat.le_trans hB hK.size) (cells_one _) (kE l x 1 0 hl (by omega))).mono ?_; rintro e w1 ⟨rfl, hI1, hb1, hk1⟩; have HI1 := iC.mk hI1; have HK1 := iC.mk (hK.trans ⟨hb1, hk1⟩); clear hI1 hb1 hk1 hI hK)
      go_roundw
      case rel => exact ⟨1, by omega, by go_num, ⟨Bf.step (k := 0) HI1.out (by omega) (by first | rfl | (show _ = x / 1 % 256; rw [IntKind.wrap_u64]; omega) | (show _ = x / 1 % 256; omega))⟩, HK1⟩
      case measure => simp [intOf]
    · go_wp2
      go_end0
      refine ⟨rfl, ?_, HK.out⟩
      have := HI.out
      rwa [List.take_of_length_le (by rw [iL]; exact Nat.le_refl _)] at this
set_option maxHeartbeats 4000000 in
theorem lD (B b : Nat) (l : List UInt8) (x : Int) (w : World) (h : Bf B b l w) (hB : B ≤ w.heap.size) (hl : l.length + 4 ≤ 140737488355328) :
    Calls Tryd.prog 50 #[.pointer (some ⟨b, 0, none⟩), .int .u32 x, .int .i64 4] w fun e w' => e = .returned (.tuple #[]) ∧ Bf B b (l ++ layB x 4) w' ∧ Kp B b w w' := by
  have H0 := iC.mk h
  clear h
  go_enter Tryd.func50, Tryd.ntmps50
  go_wp2
  go_loopw [8] (fun i wr => ∃ k : Nat, k ≤ 4 ∧ i = .int .i64 k ∧ iC (Bf B b (l ++ (layB x 4).take k) wr) ∧ iC (Kp B b w wr)) (fun i _ => 4 - (intOf i).toNat)
  case atStart => exact ⟨0, Nat.zero_le _, rfl, ⟨by rw [List.take_zero, List.append_nil]; exact H0.out⟩, ⟨Kp.refl _ _ _⟩⟩
  case round =>
    obtain ⟨k, hk, rfl, HI, HK⟩ := hrel
    have h' : k = 0 ∨ k = 1 ∨ k = 2 ∨ k = 3 ∨ k = 4 := by omega
    rcases h' with rfl | rfl | rfl | rfl | rfl
    · have hI := HI.out
      have hK := HK.out
      clear HI HK
      go_wp2_with (go_at_call 90; refine (Tryd.Buffer_WriteByte_kept B b _ _ wr hI (Nat.le_trans hB hK.size) (cells_one _) (kE l x 4 0 hl (by omega))).mono ?_; rintro e w1 ⟨rfl, hI1, hb1, hk1⟩; have HI1 := iC.mk hI1; have HK1 := iC.mk (hK.trans ⟨hb1, hk1⟩); clear hI1 hb1 hk1 hI hK)
      go_roundw
      case rel => exact ⟨1, by omega, by go_num, ⟨Bf.step (k := 0) HI1.out (by omega) (by first | rfl | (show _ = x / 16777216 % 256; rw [IntKind.wrap_u64]; omega) | (show _ = x / 16777216 % 256; omega))⟩, HK1⟩
      case measure => simp [intOf]
    · have hI := HI.out
      have hK := HK.out
      clear HI HK
      go_wp2_with (go_at_call 90; refine (Tryd.Buffer_WriteByte_kept B b _ _ wr hI (Nat.le_trans hB hK.size) (cells_one _) (kE l x 4 1 hl (by omega))).mono ?_; rintro e w1 ⟨rfl, hI1, hb1, hk1⟩; have HI1 := iC.mk hI1; have HK1 := iC.mk (hK.trans ⟨hb1, hk1⟩); clear hI1 hb1 hk1 hI hK)
      go_roundw
      case rel => exact ⟨2, by omega, by go_num, ⟨Bf.step (k := 1) HI1.out (by omega) (by first | rfl | (show _ = x / 65536 % 256; rw [IntKind.wrap_u64]; omega) | (show _ = x / 65536 % 256; omega))⟩, HK1⟩
      case measure => simp [intOf]
    · have hI := HI.out
      have hK := HK.out
      clear HI HK
      go_wp2_with (go_at_call 90; refine (Tryd.Buffer_WriteByte_kept B b _ _ wr hI (Nat.le_trans hB hK.size) (cells_one _) (kE l x 4 2 hl (by omega))).mono ?_; rintro e w1 ⟨rfl, hI1, hb1, hk1⟩; have HI1 := iC.mk hI1; have HK1 := iC.mk (hK.trans ⟨hb1, hk1⟩); clear hI1 hb1 hk1 hI hK)
      go_roundw
      case rel => exact ⟨3, by omega, by go_num, ⟨Bf.step (k := 2) HI1.out (by omega) (by first | rfl | (show _ = x / 256 % 256; rw [IntKind.wrap_u64]; omega) | (show _ = x / 256 % 256; omega))⟩, HK1⟩
      case measure => simp [intOf]
    · have hI := HI.out
      have hK := HK.out
      clear HI HK
      go_wp2_with (go_at_call 90; refine (Tryd.Buffer_WriteByte_kept B b _ _ wr hI (Nat.le_trans hB hK.size) (cells_one _) (kE l x 4 3 hl (by omega))).mono ?_; rintro e w1 ⟨rfl, hI1, hb1, hk1⟩; have HI1 := iC.mk hI1; have HK1 := iC.mk (hK.trans ⟨hb1, hk1⟩); clear hI1 hb1 hk1 hI hK)
      go_roundw
      case rel => exact ⟨4, by omega, by go_num, ⟨Bf.step (k := 3) HI1.out (by omega) (by first | rfl | (show _ = x / 1 % 256; rw [IntKind.wrap_u64]; omega) | (show _ = x / 1 % 256; omega))⟩, HK1⟩
      case measure => simp [intOf]
    · go_wp2
      go_end0
      refine ⟨rfl, ?_, HK.out⟩
      have := HI.out
      rwa [List.take_of_length_le (by rw [iL]; exact Nat.le_refl _)] at this
set_option maxHeartbeats 4000000 in
theorem pV (B b : Nat) (l : List UInt8) (x : Int) (w : World) (h : Bf B b l w) (hB : B ≤ w.heap.size) (hl : l.length + 1 ≤ 140737488355328) :
    Calls Tryd.prog 53 #[.pointer (some ⟨b, 0, none⟩), .int .i64 x, .int .i64 1] w fun e w' => e = .returned (.tuple #[]) ∧ Bf B b (l ++ layB x 1) w' ∧ Kp B b w w' := by
  have H0 := iC.mk h
  clear h
  go_enter Tryd.func53, Tryd.ntmps53
  go_wp2
  go_loopw [8] (fun i wr => ∃ k : Nat, k ≤ 1 ∧ i = .int .i64 k ∧ iC (Bf B b (l ++ (layB x 1).take k) wr) ∧ iC (Kp B b w wr)) (fun i _ => 1 - (intOf i).toNat)
  case atStart => exact ⟨0, Nat.zero_le _, rfl, ⟨by rw [List.take_zero, List.append_nil]; exact H0.out⟩, ⟨Kp.refl _ _ _⟩⟩
  case round =>
    obtain ⟨k, hk, rfl, HI, HK⟩ := hrel
    have h' : k = 0 ∨ k = 1 := by omega
    rcases h' with rfl | rfl
    · have hI := HI.out
      have hK := HK.out
      clear HI HK
      go_wp2_with (go_at_call 90; refine (Tryd.Buffer_WriteByte_kept B b _ _ wr hI (Nat.le_trans hB hK.size) (cells_one _) (kE l x 1 0 hl (by omega))).mono ?_; rintro e w1 ⟨rfl, hI1, hb1, hk1⟩; have HI1 := iC.mk hI1; have HK1 := iC.mk (hK.trans ⟨hb1, hk1⟩); clear hI1 hb1 hk1 hI hK)
      go_roundw
      case rel => exact ⟨1, by omega, by go_num, ⟨Bf.step (k := 0) HI1.out (by omega) (by first | rfl | (show _ = x / 1 % 256; rw [IntKind.wrap_u64]; omega) | (show _ = x / 1 % 256; omega))⟩, HK1⟩
      case measure => simp [intOf]
    · go_wp2
      go_end0
      refine ⟨rfl, ?_, HK.out⟩
      have := HI.out
      rwa [List.take_of_length_le (by rw [iL]; exact Nat.le_refl _)] at this
set_option maxHeartbeats 4000000 in
theorem nX (B b : Nat) (l : List UInt8) (x : Int) (w : World) (h : Bf B b l w) (hB : B ≤ w.heap.size) (hl : l.length + 4 ≤ 140737488355328) :
    Calls Tryd.prog 53 #[.pointer (some ⟨b, 0, none⟩), .int .i64 x, .int .i64 4] w fun e w' => e = .returned (.tuple #[]) ∧ Bf B b (l ++ layB x 4) w' ∧ Kp B b w w' := by
  have H0 := iC.mk h
  clear h
  go_enter Tryd.func53, Tryd.ntmps53
  go_wp2
  go_loopw [8] (fun i wr => ∃ k : Nat, k ≤ 4 ∧ i = .int .i64 k ∧ iC (Bf B b (l ++ (layB x 4).take k) wr) ∧ iC (Kp B b w wr)) (fun i _ => 4 - (intOf i).toNat)
  case atStart => exact ⟨0, Nat.zero_le _, rfl, ⟨by rw [List.take_zero, List.append_nil]; exact H0.out⟩, ⟨Kp.refl _ _ _⟩⟩
  case round =>
    obtain ⟨k, hk, rfl, HI, HK⟩ := hrel
    have h' : k = 0 ∨ k = 1 ∨ k = 2 ∨ k = 3 ∨ k = 4 := by omega
    rcases h' with rfl | rfl | rfl | rfl | rfl
    · have hI := HI.out
      have hK := HK.out
      clear HI HK
      go_wp2_with (go_at_call 90; refine (Tryd.Buffer_WriteByte_kept B b _ _ wr hI (Nat.le_trans hB hK.size) (cells_one _) (kE l x 4 0 hl (by omega))).mono ?_; rintro e w1 ⟨rfl, hI1, hb1, hk1⟩; have HI1 := iC.mk hI1; have HK1 := iC.mk (hK.trans ⟨hb1, hk1⟩); clear hI1 hb1 hk1 hI hK)
      go_roundw
      case rel => exact ⟨1, by omega, by go_num, ⟨Bf.step (k := 0) HI1.out (by omega) (by first | rfl | (show _ = x / 16777216 % 256; rw [IntKind.wrap_u64]; omega) | (show _ = x / 16777216 % 256; omega))⟩, HK1⟩
      case measure => simp [intOf]
    · have hI := HI.out
      have hK := HK.out
      clear HI HK
      go_wp2_with (go_at_call 90; refine (Tryd.Buffer_WriteByte_kept B b _ _ wr hI (Nat.le_trans hB hK.size) (cells_one _) (kE l x 4 1 hl (by omega))).mono ?_; rintro e w1 ⟨rfl, hI1, hb1, hk1⟩; have HI1 := iC.mk hI1; have HK1 := iC.mk (hK.trans ⟨hb1, hk1⟩); clear hI1 hb1 hk1 hI hK)
      go_roundw
      case rel => exact ⟨2, by omega, by go_num, ⟨Bf.step (k := 1) HI1.out (by omega) (by first | rfl | (show _ = x / 65536 % 256; rw [IntKind.wrap_u64]; omega) | (show _ = x / 65536 % 256; omega))⟩, HK1⟩
      case measure => simp [intOf]
    · have hI := HI.out
      have hK := HK.out
      clear HI HK
      go_wp2_with (go_at_call 90; refine (Tryd.Buffer_WriteByte_kept B b _ _ wr hI (Nat.le_trans hB hK.size) (cells_one _) (kE l x 4 2 hl (by omega))).mono ?_; rintro e w1 ⟨rfl, hI1, hb1, hk1⟩; have HI1 := iC.mk hI1; have HK1 := iC.mk (hK.trans ⟨hb1, hk1⟩); clear hI1 hb1 hk1 hI hK)
      go_roundw
      case rel => exact ⟨3, by omega, by go_num, ⟨Bf.step (k := 2) HI1.out (by omega) (by first | rfl | (show _ = x / 256 % 256; rw [IntKind.wrap_u64]; omega) | (show _ = x / 256 % 256; omega))⟩, HK1⟩
      case measure => simp [intOf]
    · have hI := HI.out
      have hK := HK.out
      clear HI HK
      go_wp2_with (go_at_call 90; refine (Tryd.Buffer_WriteByte_kept B b _ _ wr hI (Nat.le_trans hB hK.size) (cells_one _) (kE l x 4 3 hl (by omega))).mono ?_; rintro e w1 ⟨rfl, hI1, hb1, hk1⟩; have HI1 := iC.mk hI1; have HK1 := iC.mk (hK.trans ⟨hb1, hk1⟩); clear hI1 hb1 hk1 hI hK)
      go_roundw
      case rel => exact ⟨4, by omega, by go_num, ⟨Bf.step (k := 3) HI1.out (by omega) (by first | rfl | (show _ = x / 1 % 256; rw [IntKind.wrap_u64]; omega) | (show _ = x / 1 % 256; omega))⟩, HK1⟩
      case measure => simp [intOf]
    · go_wp2
      go_end0
      refine ⟨rfl, ?_, HK.out⟩
      have := HI.out
      rwa [List.take_of_length_le (by rw [iL]; exact Nat.le_refl _)] at this
set_option maxHeartbeats 4000000 in
theorem VQ (B b : Nat) (l : List UInt8) (x : Int) (w : World) (h : Bf B b l w) (hB : B ≤ w.heap.size) (hl : l.length + 8 ≤ 140737488355328) :
    Calls Tryd.prog 91 #[.pointer (some ⟨b, 0, none⟩), .int .i64 x, .int .i64 8] w fun e w' => e = .returned (.tuple #[]) ∧ Bf B b (l ++ layB x 8) w' ∧ Kp B b w w' := by
  have H0 := iC.mk h
  clear h
  go_enter Tryd.func91, Tryd.ntmps91
  go_wp2
  go_loopw [8] (fun i wr => ∃ k : Nat, k ≤ 8 ∧ i = .int .i64 k ∧ iC (Bf B b (l ++ (layB x 8).take k) wr) ∧ iC (Kp B b w wr)) (fun i _ => 8 - (intOf i).toNat)
  case atStart => exact ⟨0, Nat.zero_le _, rfl, ⟨by rw [List.take_zero, List.append_nil]; exact H0.out⟩, ⟨Kp.refl _ _ _⟩⟩
  case round =>
    obtain ⟨k, hk, rfl, HI, HK⟩ := hrel
    have h' : k = 0 ∨ k = 1 ∨ k = 2 ∨ k = 3 ∨ k = 4 ∨ k = 5 ∨ k = 6 ∨ k = 7 ∨ k = 8 := by omega
    rcases h' with rfl | rfl | rfl | rfl | rfl | rfl | rfl | rfl | rfl
    · have hI := HI.out
      have hK := HK.out
      clear HI HK
      go_wp2_with (go_at_call 90; refine (Tryd.Buffer_WriteByte_kept B b _ _ wr hI (Nat.le_trans hB hK.size) (cells_one _) (kE l x 8 0 hl (by omega))).mono ?_; rintro e w1 ⟨rfl, hI1, hb1, hk1⟩; have HI1 := iC.mk hI1; have HK1 := iC.mk (hK.trans ⟨hb1, hk1⟩); clear hI1 hb1 hk1 hI hK)
      go_roundw
      case rel => exact ⟨1, by omega, by go_num, ⟨Bf.step (k := 0) HI1.out (by omega) (by first | rfl | (show _ = x / 72057594037927936 % 256; rw [IntKind.wrap_u64]; omega) | (show _ = x / 72057594037927936 % 256; omega))⟩, HK1⟩
      case measure => simp [intOf]
    · have hI := HI.out
      have hK := HK.out
      clear HI HK
      go_wp2_with (go_at_call 90; refine (Tryd.Buffer_WriteByte_kept B b _ _ wr hI (Nat.le_trans hB hK.size) (cells_one _) (kE l x 8 1 hl (by omega))).mono ?_; rintro e w1 ⟨rfl, hI1, hb1, hk1⟩; have HI1 := iC.mk hI1; have HK1 := iC.mk (hK.trans ⟨hb1, hk1⟩); clear hI1 hb1 hk1 hI hK)
      go_roundw
      case rel => exact ⟨2, by omega, by go_num, ⟨Bf.step (k := 1) HI1.out (by omega) (by first | rfl | (show _ = x / 281474976710656 % 256; rw [IntKind.wrap_u64]; omega) | (show _ = x / 281474976710656 % 256; omega))⟩, HK1⟩
      case measure => simp [intOf]
    · have hI := HI.out
      have hK := HK.out
      clear HI HK
      go_wp2_with (go_at_call 90; refine (Tryd.Buffer_WriteByte_kept B b _ _ wr hI (Nat.le_trans hB hK.size) (cells_one _) (kE l x 8 2 hl (by omega))).mono ?_; rintro e w1 ⟨rfl, hI1, hb1, hk1⟩; have HI1 := iC.mk hI1; have HK1 := iC.mk (hK.trans ⟨hb1, hk1⟩); clear hI1 hb1 hk1 hI hK)
      go_roundw
      case rel => exact ⟨3, by omega, by go_num, ⟨Bf.step (k := 2) HI1.out (by omega) (by first | rfl | (show _ = x / 1099511627776 % 256; rw [IntKind.wrap_u64]; omega) | (show _ = x / 1099511627776 % 256; omega))⟩, HK1⟩
      case measure => simp [intOf]
    · have hI := HI.out
      have hK := HK.out
      clear HI HK
      go_wp2_with (go_at_call 90; refine (Tryd.Buffer_WriteByte_kept B b _ _ wr hI (Nat.le_trans hB hK.size) (cells_one _) (kE l x 8 3 hl (by omega))).mono ?_; rintro e w1 ⟨rfl, hI1, hb1, hk1⟩; have HI1 := iC.mk hI1; have HK1 := iC.mk (hK.trans ⟨hb1, hk1⟩); clear hI1 hb1 hk1 hI hK)
      go_roundw
      case rel => exact ⟨4, by omega, by go_num, ⟨Bf.step (k := 3) HI1.out (by omega) (by first | rfl | (show _ = x / 4294967296 % 256; rw [IntKind.wrap_u64]; omega) | (show _ = x / 4294967296 % 256; omega))⟩, HK1⟩
      case measure => simp [intOf]
    · have hI := HI.out
      have hK := HK.out
      clear HI HK
      go_wp2_with (go_at_call 90; refine (Tryd.Buffer_WriteByte_kept B b _ _ wr hI (Nat.le_trans hB hK.size) (cells_one _) (kE l x 8 4 hl (by omega))).mono ?_; rintro e w1 ⟨rfl, hI1, hb1, hk1⟩; have HI1 := iC.mk hI1; have HK1 := iC.mk (hK.trans ⟨hb1, hk1⟩); clear hI1 hb1 hk1 hI hK)
      go_roundw
      case rel => exact ⟨5, by omega, by go_num, ⟨Bf.step (k := 4) HI1.out (by omega) (by first | rfl | (show _ = x / 16777216 % 256; rw [IntKind.wrap_u64]; omega) | (show _ = x / 16777216 % 256; omega))⟩, HK1⟩
      case measure => simp [intOf]
    · have hI := HI.out
      have hK := HK.out
      clear HI HK
      go_wp2_with (go_at_call 90; refine (Tryd.Buffer_WriteByte_kept B b _ _ wr hI (Nat.le_trans hB hK.size) (cells_one _) (kE l x 8 5 hl (by omega))).mono ?_; rintro e w1 ⟨rfl, hI1, hb1, hk1⟩; have HI1 := iC.mk hI1; have HK1 := iC.mk (hK.trans ⟨hb1, hk1⟩); clear hI1 hb1 hk1 hI hK)
      go_roundw
      case rel => exact ⟨6, by omega, by go_num, ⟨Bf.step (k := 5) HI1.out (by omega) (by first | rfl | (show _ = x / 65536 % 256; rw [IntKind.wrap_u64]; omega) | (show _ = x / 65536 % 256; omega))⟩, HK1⟩
      case measure => simp [intOf]
    · have hI := HI.out
      have hK := HK.out
      clear HI HK
      go_wp2_with (go_at_call 90; refine (Tryd.Buffer_WriteByte_kept B b _ _ wr hI (Nat.le_trans hB hK.size) (cells_one _) (kE l x 8 6 hl (by omega))).mono ?_; rintro e w1 ⟨rfl, hI1, hb1, hk1⟩; have HI1 := iC.mk hI1; have HK1 := iC.mk (hK.trans ⟨hb1, hk1⟩); clear hI1 hb1 hk1 hI hK)
      go_roundw
      case rel => exact ⟨7, by omega, by go_num, ⟨Bf.step (k := 6) HI1.out (by omega) (by first | rfl | (show _ = x / 256 % 256; rw [IntKind.wrap_u64]; omega) | (show _ = x / 256 % 256; omega))⟩, HK1⟩
      case measure => simp [intOf]
    · have hI := HI.out
      have hK := HK.out
      clear HI HK
      go_wp2_with (go_at_call 90; refine (Tryd.Buffer_WriteByte_kept B b _ _ wr hI (Nat.le_trans hB hK.size) (cells_one _) (kE l x 8 7 hl (by omega))).mono ?_; rintro e w1 ⟨rfl, hI1, hb1, hk1⟩; have HI1 := iC.mk hI1; have HK1 := iC.mk (hK.trans ⟨hb1, hk1⟩); clear hI1 hb1 hk1 hI hK)
      go_roundw
      case rel => exact ⟨8, by omega, by go_num, ⟨Bf.step (k := 7) HI1.out (by omega) (by first | rfl | (show _ = x / 1 % 256; rw [IntKind.wrap_u64]; omega) | (show _ = x / 1 % 256; omega))⟩, HK1⟩
      case measure => simp [intOf]
    · go_wp2
      go_end0
      refine ⟨rfl, ?_, HK.out⟩
      have := HI.out
      rwa [List.take_of_length_le (by rw [iL]; exact Nat.le_refl _)] at this
end Go.Proofs.YtgfkgppomaapiaaDoor.K
end

section
namespace Go.Proofs.YtgfkgppomaapiaaDoor.K
open RowKit YtgfkgppomaapiaaDoorW.PrintWords YtgfkgppomaapiaaDoorW.PrintLast YtgfkgppomaapiaaDoorW.PrintMore My
theorem kG {α : Type} (e : α → List UInt8) (z : α) (l : List α) (k : Nat) (h : k < l.length) : (l.take (k + 1)).flatMap e = (l.take k).flatMap e ++ e (l.getD k z) := by
  rw [mD z l k h, List.flatMap_append]
  simp
theorem oG {α : Type} (e : α → List UInt8) (l : List α) (k : Nat) : ((l.take k).flatMap e).length ≤ (l.flatMap e).length := by
  conv => rhs; rw [← List.take_append_drop k l, List.flatMap_append, List.length_append]
  omega
theorem II (n : Nat) (l : List Int) : (l.flatMap (layB · n)).length = n * l.length := by
  induction l with
  | nil => rfl
  | cons x l ih => rw [List.flatMap_cons, List.length_append, ih, iL, List.length_cons, Nat.mul_add]; omega
theorem UX (l : List Int) (k : Nat) : rd l (k : Int) = l.getD k 0 := by unfold rd; rw [Int.toNat_natCast]
set_option maxHeartbeats 2000000 in
theorem uZ (b : Nat) (l : List UInt8) (A : Option Addr) (c : Nat) (ns : List Int) (w0 w : World) (h : Bf w0.heap.size b l w) (hb : Below w0.heap.size w0 w) (hr : Kd.C (Kd.int .i64) w0 A ns.length ns) (hl : l.length + 1 + ns.length ≤ 140737488355328) :
    Calls Tryd.prog 51 #[.pointer (some ⟨b, 0, none⟩), .slice A ns.length c] w fun e w' => e = .returned (.tuple #[]) ∧ Bf w0.heap.size b (l ++ lY ns) w' ∧ Kp w0.heap.size b w w' := by
  have HR := iC.mk hr
  have H0 := iC.mk h
  have HB0 := iC.mk hb
  have hm := kQ hr
  clear hr h hb
  go_enter Tryd.func51, Tryd.ntmps51
  go_wp2_with (go_at_call 53; refine (pV _ _ l _ _ H0.out HB0.out.size (by omega)).mono ?_; rintro e w1 ⟨rfl, hI, hK⟩; have HI1 := iC.mk hI; have HK1 := iC.mk hK; clear hI hK)
  go_loopw [12] (fun i wr => ∃ k : Nat, k ≤ ns.length ∧ i = .int .i64 k ∧ iC (Bf w0.heap.size b (l ++ layB ns.length 1 ++ (ns.take k).flatMap (layB · 1)) wr) ∧ iC (Kp w0.heap.size b w wr)) (fun i _ => ns.length - (intOf i).toNat)
  case atStart => exact ⟨0, Nat.zero_le _, rfl, ⟨by rw [List.take_zero, List.flatMap_nil, List.append_nil]; exact HI1.out⟩, HK1⟩
  case round =>
    obtain ⟨k, hk, rfl, HI, HK⟩ := hrel
    clear HI1 HK1
    by_cases hlt : k < ns.length
    · obtain ⟨ad, rfl, hx⟩ := Kd.at_int (Kd.C_below HR.out (HB0.out.trans HK.out.1)) (k : Int) (by omega) (by omega)
      rw [UX, Int.toNat_natCast] at hx
      have hts := iC.mk (kG (layB · 1) 0 ns k hlt)
      have hlen : (l ++ layB ns.length 1 ++ (ns.take k).flatMap (layB · 1)).length + 1 ≤ 140737488355328 := by
        rw [List.length_append, List.length_append, iL, II, List.length_take]
        omega
      have HL := iC.mk hlen
      clear hlen
      generalize ns.getD k 0 = v at hx hts
      go_wp2_with (go_at_call 53; refine (pV _ _ _ _ _ HI.out (HB0.out.trans HK.out.1).size HL.out).mono ?_; rintro e w1 ⟨rfl, hI, hK⟩; have HI1 := iC.mk hI; have HK1 := iC.mk (HK.out.trans hK); clear hI hK)
      go_roundw
      case rel => exact ⟨k + 1, by omega, by go_num, ⟨by rw [hts.out, ← List.append_assoc]; exact HI1.out⟩, HK1⟩
      case measure => simp [intOf]; omega
    · obtain rfl : k = ns.length := by omega
      go_wp2
      go_end0
      refine ⟨rfl, ?_, HK.out⟩
      have := HI.out
      rw [List.take_length] at this
      rw [lY, ← List.append_assoc]
      exact this
def zB : jQ := z139
theorem P8 (l : List jQ) (k : Nat) : iW l (k : Int) = l.getD k zB := by unfold iW zB; rw [Int.toNat_natCast]
theorem P7 (f : jQ) : (nV f).length = 9 + 4 * f.f0.length := xH f
set_option maxHeartbeats 4000000 in
theorem xQ (b : Nat) (l : List UInt8) (A : Option Addr) (c : Nat) (fs : List jQ) (w0 w : World) (h : Bf w0.heap.size b l w) (hb : Below w0.heap.size w0 w) (hr : Kd.C k139 w0 A fs.length fs) (hl : l.length + (kH fs).length ≤ 140737488355328) :
    Calls Tryd.prog 52 #[.pointer (some ⟨b, 0, none⟩), .slice A fs.length c] w fun e w' => e = .returned (.tuple #[]) ∧ Bf w0.heap.size b (l ++ kH fs) w' ∧ Kp w0.heap.size b w w' := by
  have HR := iC.mk hr
  have H0 := iC.mk h
  have HB0 := iC.mk hb
  have hm := kQ hr
  have hl' : l.length + 4 + (fs.flatMap nV).length ≤ 140737488355328 := by
    unfold kH at hl
    rw [List.length_append, iL] at hl
    omega
  clear hr h hb hl
  go_enter Tryd.func52, Tryd.ntmps52
  go_wp2_with (go_at_call 53; refine (nX _ _ l _ _ H0.out HB0.out.size (by omega)).mono ?_; rintro e w1 ⟨rfl, hI, hK⟩; have HI1 := iC.mk hI; have HK1 := iC.mk hK; clear hI hK)
  go_loopw [14] (fun i wr => ∃ k : Nat, k ≤ fs.length ∧ i = .int .i64 k ∧ iC (Bf w0.heap.size b (l ++ layB fs.length 4 ++ (fs.take k).flatMap nV) wr) ∧ iC (Kp w0.heap.size b w wr)) (fun i _ => fs.length - (intOf i).toNat)
  case atStart => exact ⟨0, Nat.zero_le _, rfl, ⟨by rw [List.take_zero, List.flatMap_nil, List.append_nil]; exact HI1.out⟩, HK1⟩
  case round =>
    obtain ⟨k, hk, rfl, HI, HK⟩ := hrel
    clear HI1 HK1
    by_cases hlt : k < fs.length
    · obtain ⟨ad, A1, c1, rfl, hx0, hx1, hl1, hC1⟩ := kU (Kd.C_below HR.out (HB0.out.trans HK.out.1)) (k : Int) (by omega) (by omega)
      have hC0 : Kd.C (Kd.int .i64) w0 A1 (fs.getD k zB).f0.length (fs.getD k zB).f0 := by
        obtain ⟨ad2, A2, c2, e2, hy0, hy1, hl2, hC2⟩ := kU HR.out (k : Int) (by omega) (by omega)
        have hz := jW (HB0.out.trans HK.out.1) hy0
        injection e2 with e2
        subst e2
        rw [hx0] at hz
        injection hz with hz
        injection hz with hz1 hz2 hz3
        subst hz1
        rw [P8] at hC2
        exact hC2
      rw [P8] at hx0 hx1 hl1
      rw [Int.toNat_natCast] at hx0 hx1
      clear hC1
      have hts := iC.mk (kG nV zB fs k hlt)
      have hle := oG nV fs (k + 1)
      rw [hts.out, List.length_append, P7] at hle
      obtain ⟨f, hf⟩ : ∃ f, f = fs.getD k zB := ⟨_, rfl⟩
      rw [← hf] at hx0 hx1 hl1 hC0 hts hle
      clear hf
      have HC0 := iC.mk hC0
      have hkm := kQ hC0
      obtain ⟨pre, hpre⟩ : ∃ p, p = l ++ layB fs.length 4 ++ (fs.take k).flatMap nV := ⟨_, rfl⟩
      have hpl : pre.length + 9 + 4 * f.f0.length ≤ 140737488355328 := by
        rw [hpre, List.length_append, List.length_append, iL]
        omega
      have hrest : l ++ layB fs.length 4 ++ (fs.take (k + 1)).flatMap nV = pre ++ nV f := by
        rw [hts.out, ← List.append_assoc, hpre]
      rw [← hpre] at HI
      have HREST := iC.mk hrest
      clear hts hpre hrest hle hC0 hl'
      obtain ⟨wo, rfl⟩ : ∃ wo : World, wo = wr := ⟨_, rfl⟩
      have HBX := iC.mk (Bf.alloc HI.out (.cells #[.slice A1 f.f0.length c1, .int .i64 f.f1] 139))
      have HKX := iC.mk (HK.out.alloc (HB0.out.trans HK.out.1).size (.cells #[.slice A1 f.f0.length c1, .int .i64 f.f1] 139))
      have hbne : w.heap.size ≤ w.heap.size := Nat.le_refl _
      have HNE := iC.mk (show wo.heap.size ≠ b from by have := HI.out.lt; omega)
      clear hbne
      go_wp2_with (go_at_call 53; refine (pV _ _ pre _ _ HBX.out (HB0.out.trans HKX.out.1).size (by omega)).mono ?_; rintro e w1 ⟨rfl, hI, hK⟩; have HI1 := iC.mk hI; have HK1 := iC.mk (HKX.out.trans hK); have hblk := hK.block (iM rfl) HNE.out (by decide); have HBL := iC.mk hblk; clear hI hK; have hz0 := (iE hblk 0); have hz1 := (iE hblk 1); have hz0 : w1.cell? ⟨wo.heap.size, 0, none⟩ = some (.slice A1 f.f0.length c1) := hz0.trans rfl; have hz1 : w1.cell? ⟨wo.heap.size, 1, none⟩ = some (.int .i64 f.f1) := hz1.trans rfl; clear hblk)
      clear hz0 hz1
      go_loopw [26] (fun i wi => ∃ m : Nat, m ≤ f.f0.length ∧ i = .int .i64 m ∧ iC (Bf w0.heap.size b (pre ++ layB f.f0.length 1 ++ (f.f0.take m).flatMap (layB · 4)) wi) ∧ iC (Kp w0.heap.size b w wi) ∧ iC (wi.heap[wo.heap.size]? = some (.cells #[.slice A1 f.f0.length c1, .int .i64 f.f1] 139 (0, 0)))) (fun i _ => f.f0.length - (intOf i).toNat)
      case atStart => exact ⟨0, Nat.zero_le _, rfl, ⟨by rw [List.take_zero, List.flatMap_nil, List.append_nil]; exact HI1.out⟩, HK1, HBL⟩
      case round =>
        obtain ⟨m, hmx, rfl, HIm, HKm, HBm⟩ := hrel
        clear HI1 HK1 HBL
        have hcap : (pre ++ layB f.f0.length 1 ++ (f.f0.take m).flatMap (layB · 4)).length + 8 ≤ 140737488355328 := by
          rw [List.length_append, List.length_append, iL, II, List.length_take]
          omega
        by_cases hml : m < f.f0.length
        · have HL := iC.mk (show (pre ++ layB f.f0.length 1 ++ (f.f0.take m).flatMap (layB · 4)).length + 4 ≤ 140737488355328 from by omega)
          obtain ⟨ad2, rfl, hx⟩ := Kd.at_int (Kd.C_below HC0.out (HB0.out.trans HKm.out.1)) (m : Int) (by omega) (by omega)
          rw [UX, Int.toNat_natCast] at hx
          have hts := iC.mk (kG (layB · 4) 0 f.f0 m hml)
          generalize f.f0.getD m 0 = v at hx hts
          clear hcap
          go_wp2_with (go_at_call 53; refine (nX _ _ _ _ _ HIm.out (HB0.out.trans HKm.out.1).size HL.out).mono ?_; rintro e w1 ⟨rfl, hI, hK⟩; have HI1 := iC.mk hI; have HK1 := iC.mk (HKm.out.trans hK); have HB1 := iC.mk (hK.block HBm.out HNE.out (by decide)); clear hI hK)
          go_roundw
          case rel => exact ⟨m + 1, by omega, by go_num, ⟨by rw [hts.out, ← List.append_assoc]; exact HI1.out⟩, HK1, HB1⟩
          case measure => simp [intOf]; omega
        · obtain rfl : m = f.f0.length := by omega
          have hI' := HIm.out
          rw [List.take_length] at hI' hcap
          have HI' := iC.mk hI'
          have HCAP := iC.mk hcap
          clear hI' hcap HIm
          have hz1 : wr.cell? ⟨wo.heap.size, 1, none⟩ = some (.int .i64 f.f1) := (iE HBm.out 1).trans rfl
          go_wp2_with (go_at_call 91; refine (VQ _ _ _ _ _ HI'.out (HB0.out.trans HKm.out.1).size HCAP.out).mono ?_; rintro e w1 ⟨rfl, hI, hK⟩; have HI1 := iC.mk hI; have HK1 := iC.mk (HKm.out.trans hK); clear hI hK)
          go_roundw
          case rel => exact ⟨k + 1, by omega, by go_num, ⟨by rw [HREST.out, nV, ← List.append_assoc, ← List.append_assoc]; exact HI1.out⟩, HK1⟩
          case measure => simp [intOf]; omega
    · obtain rfl : k = fs.length := by omega
      go_wp2
      go_end0
      refine ⟨rfl, ?_, HK.out⟩
      have := HI.out
      rw [List.take_length] at this
      rw [kH, ← List.append_assoc]
      exact this
def vJ : jG := z86
theorem PR (l : List jG) (k : Nat) : iQ l (k : Int) = l.getD k vJ := by unfold iQ vJ; rw [Int.toNat_natCast]
set_option maxHeartbeats 4000000 in
theorem yD (b : Nat) (l : List UInt8) (A : Option Addr) (c : Nat) (es : List jG) (w0 w : World) (h : Bf w0.heap.size b l w) (hb : Below w0.heap.size w0 w) (hr : Kd.C k86 w0 A es.length es) (hl : l.length + (jS es).length ≤ 140737488355328) :
    Calls Tryd.prog 54 #[.pointer (some ⟨b, 0, none⟩), .slice A es.length c] w fun e w' => e = .returned (.tuple #[]) ∧ Bf w0.heap.size b (l ++ jS es) w' ∧ Kp w0.heap.size b w w' := by
  have HR := iC.mk hr
  have H0 := iC.mk h
  have HB0 := iC.mk hb
  have hm := kQ hr
  have hl' : l.length + 4 + (es.flatMap lM).length ≤ 140737488355328 := by
    unfold jS at hl
    rw [List.length_append, iL] at hl
    omega
  clear hr h hb hl
  go_enter Tryd.func54, Tryd.ntmps54
  go_wp2_with (go_at_call 53; refine (nX _ _ l _ _ H0.out HB0.out.size (by omega)).mono ?_; rintro e w1 ⟨rfl, hI, hK⟩; have HI1 := iC.mk hI; have HK1 := iC.mk hK; clear hI hK)
  go_loopw [12] (fun i wr => ∃ k : Nat, k ≤ es.length ∧ i = .int .i64 k ∧ iC (Bf w0.heap.size b (l ++ layB es.length 4 ++ (es.take k).flatMap lM) wr) ∧ iC (Kp w0.heap.size b w wr)) (fun i _ => es.length - (intOf i).toNat)
  case atStart => exact ⟨0, Nat.zero_le _, rfl, ⟨by rw [List.take_zero, List.flatMap_nil, List.append_nil]; exact HI1.out⟩, HK1⟩
  case round =>
    obtain ⟨k, hk, rfl, HI, HK⟩ := hrel
    clear HI1 HK1
    by_cases hlt : k < es.length
    · obtain ⟨ad, A1, c1, rfl, hx0, hx1, hl1, hC1⟩ := kZ (Kd.C_below HR.out (HB0.out.trans HK.out.1)) (k : Int) (by omega) (by omega)
      have hC0 : Kd.C k139 w0 A1 (es.getD k vJ).f1.length (es.getD k vJ).f1 := by
        obtain ⟨ad2, A2, c2, e2, hy0, hy1, hl2, hC2⟩ := kZ HR.out (k : Int) (by omega) (by omega)
        have hz := jW (HB0.out.trans HK.out.1) hy1
        injection e2 with e2
        subst e2
        rw [hx1] at hz
        injection hz with hz
        injection hz with hz1 hz2 hz3
        subst hz1
        rw [PR] at hC2
        exact hC2
      rw [PR] at hx0 hx1 hl1
      rw [Int.toNat_natCast] at hx0 hx1
      clear hC1
      have hts := iC.mk (kG lM vJ es k hlt)
      have hle := oG lM es (k + 1)
      rw [hts.out, List.length_append] at hle
      obtain ⟨f, hf⟩ : ∃ f, f = es.getD k vJ := ⟨_, rfl⟩
      rw [← hf] at hx0 hx1 hl1 hC0 hts hle
      clear hf
      have HC0 := iC.mk hC0
      have hkm := kQ hC0
      obtain ⟨pre, hpre⟩ : ∃ p, p = l ++ layB es.length 4 ++ (es.take k).flatMap lM := ⟨_, rfl⟩
      have hpl : pre.length + 4 + (kH f.f1).length ≤ 140737488355328 := by
        rw [lM, List.length_append, iL] at hle
        rw [hpre, List.length_append, List.length_append, iL]
        omega
      have HPL := iC.mk (show (pre ++ layB f.f0 4).length + (kH f.f1).length ≤ 140737488355328 from by rw [List.length_append, iL]; exact hpl)
      have hpl4 : pre.length + 4 ≤ 140737488355328 := by omega
      have HPL4 := iC.mk hpl4
      have hrest : l ++ layB es.length 4 ++ (es.take (k + 1)).flatMap lM = pre ++ lM f := by
        rw [hts.out, ← List.append_assoc, hpre]
      rw [← hpre] at HI
      have HREST := iC.mk hrest
      clear hts hpre hrest hle hC0 hl' hpl hpl4
      obtain ⟨wo, rfl⟩ : ∃ wo : World, wo = wr := ⟨_, rfl⟩
      have HBX := iC.mk (Bf.alloc HI.out (.cells #[.int .u32 f.f0, .slice A1 f.f1.length c1] 86))
      have HKX := iC.mk (HK.out.alloc (HB0.out.trans HK.out.1).size (.cells #[.int .u32 f.f0, .slice A1 f.f1.length c1] 86))
      have HNE := iC.mk (show wo.heap.size ≠ b from by have := HI.out.lt; omega)
      go_wp2_with (first | (go_at_call 50; refine (lD _ _ pre _ _ HBX.out (HB0.out.trans HKX.out.1).size HPL4.out).mono ?_; rintro e w1 ⟨rfl, hI, hK⟩; have HI1 := iC.mk hI; have HK1 := iC.mk (HKX.out.trans hK); have hblk := hK.block (iM rfl) HNE.out (by decide); clear hI hK; have hz1 := (iE hblk 1); have hz1 : w1.cell? ⟨wo.heap.size, 1, none⟩ = some (.slice A1 f.f1.length c1) := hz1.trans rfl; clear hblk) | (go_at_call 52; refine (xQ _ _ _ _ f.f1 w0 _ HI1.out (HB0.out.trans HK1.out.1) HC0.out HPL.out).mono ?_; rintro e w2 ⟨rfl, hI, hK⟩; have HI2 := iC.mk hI; have HK2 := iC.mk (HK1.out.trans hK); clear hI hK))
      go_roundw
      case rel => exact ⟨k + 1, by omega, by go_num, ⟨by rw [HREST.out, lM, ← List.append_assoc]; exact HI2.out⟩, HK2⟩
      case measure => simp [intOf]; omega
    · obtain rfl : k = es.length := by omega
      go_wp2
      go_end0
      refine ⟨rfl, ?_, HK.out⟩
      have := HI.out
      rw [List.take_length] at this
      rw [jS, ← List.append_assoc]
      exact this
theorem uF (l : List jQ) (h : mV l = true) : (kH l).length ≤ 5004 := by
  unfold mV at h
  simp only [Bool.and_eq_true, decide_eq_true_eq, List.all_eq_true] at h
  obtain ⟨h1, h2⟩ := h
  have : ∀ l : List jQ, (∀ f ∈ l, oK f = true) → (l.flatMap nV).length ≤ 25 * l.length := by
    intro l
    induction l with
    | nil => intro _; simp
    | cons f l ih =>
      intro hf
      have h3 := hf f List.mem_cons_self
      unfold oK at h3
      simp only [Bool.and_eq_true, decide_eq_true_eq] at h3
      have := ih (fun g hg => hf g (List.mem_cons_of_mem _ hg))
      rw [List.flatMap_cons, List.length_append, xH, List.length_cons]
      omega
  have := this l h2
  unfold kH
  rw [List.length_append, iL]
  omega
theorem uC (l : List jG) (h : nZ l = true) (h5 : l.length ≤ 5000) : (jS l).length ≤ 25040004 := by
  have : ∀ l : List jG, (∀ e ∈ l, mV e.f1 = true) → (l.flatMap lM).length ≤ 5008 * l.length := by
    intro l
    induction l with
    | nil => intro _; simp
    | cons e l ih =>
      intro hf
      have h3 := uF _ (hf e List.mem_cons_self)
      have := ih (fun g hg => hf g (List.mem_cons_of_mem _ hg))
      rw [List.flatMap_cons, List.length_append, List.length_cons, lM, List.length_append, iL]
      omega
  have := this l (L8 l h)
  unfold jS
  rw [List.length_append, iL]
  omega
theorem oV (l : List Int) (h : mQ (-1) l = true) : l.length ≤ 6 := by
  have := (yF l (-1) h (by omega)).2
  omega
end Go.Proofs.YtgfkgppomaapiaaDoor.K
end
