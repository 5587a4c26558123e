/- Parts of the proof, one behind the other: DiskM0, WalB, WalC, WalD, WalP, WalH, WalI, WalJ, FrameQ, WalQ, WalS. -/
import Derived.Test.YtgfkgppomaapiaaDoorQWalFronts7
set_option linter.unusedVariables false
set_option linter.unusedSimpArgs false
section
namespace Go.Proofs.YtgfkgppomaapiaaDoor.K
open RowKit YtgfkgppomaapiaaDoorW.PrintWords YtgfkgppomaapiaaDoorW.PrintLast YtgfkgppomaapiaaDoorW.PrintMore My
structure DM where
 bs : List UInt8
 lasts : Nat
 room : Nat
 left : Int
structure DM.ok (d : DM) : Prop where
 fit : d.bs.length ≤ d.room
 las : d.lasts ≤ d.bs.length
 room : d.room ≤ 1048576
 lef : d.left ≤ 9223372036854775807
def DM.new (room : Nat) : DM := ⟨[], 0, room, -1⟩
def DM.full (d : DM) (l : List UInt8) : Prop := (d.room : Int) - d.bs.length < l.length
instance (d : DM) (l : List UInt8) : Decidable (d.full l) := by unfold DM.full; infer_instance
def DM.app (d : DM) (l : List UInt8) : DM := if d.left = 0 then d else if d.full l then { d with left := dec d.left } else { d with bs := d.bs ++ l, left := dec d.left }
def DM.appE (d : DM) (l : List UInt8) : Int := if d.left = 0 then 100 else if d.full l then 100 else 0
def DM.sync (d : DM) : DM := if d.left = 0 then d else { d with lasts := d.bs.length, left := dec d.left }
def DM.syncE (d : DM) : Int := if d.left = 0 then 100 else 0
def DM.out (d : DM) (n : Int) : Prop := n < 0 ∨ (d.bs.length : Int) < n
instance (d : DM) (n : Int) : Decidable (d.out n) := by unfold DM.out; infer_instance
def DM.cut (d : DM) (n : Int) : DM := if d.left = 0 then d else if d.out n then { d with left := dec d.left } else { d with bs := d.bs.take n.toNat, lasts := min d.lasts n.toNat, left := dec d.left }
def DM.cutE (d : DM) (n : Int) : Int := if d.left = 0 then 100 else if d.out n then 1 else 0
def DM.kept (d : DM) (keep : Int) : Nat := d.lasts + min keep.toNat (d.bs.length - d.lasts)
def DM.crash (d : DM) (keep : Int) : DM := { d with bs := d.bs.take (d.kept keep), lasts := d.kept keep, left := -1 }
theorem MS {x : Int} (h : x ≤ 9223372036854775807) : dec x ≤ 9223372036854775807 := by unfold dec; split <;> omega
theorem DM.new_ok {room : Nat} (h : room ≤ 1048576) : (DM.new room).ok := ⟨Nat.zero_le _, Nat.zero_le _, h, by show (-1 : Int) ≤ _; omega⟩
theorem DM.app_ok {d : DM} (h : d.ok) (l : List UInt8) : (d.app l).ok := by
 unfold DM.app
 split
 ·exact h
 ·split
  ·exact ⟨h.fit, h.las, h.room, MS h.lef⟩
  ·rename_i h1
   unfold DM.full at h1
   refine ⟨?_, ?_, h.room, MS h.lef⟩
   ·show (d.bs ++ l).length ≤ d.room
    rw [List.length_append]
    omega
   ·show d.lasts ≤ (d.bs ++ l).length
    have := h.las
    rw [List.length_append]
    omega
theorem DM.sync_ok {d : DM} (h : d.ok) : d.sync.ok := by
 unfold DM.sync
 split
 ·exact h
 ·exact ⟨h.fit, Nat.le_refl _, h.room, MS h.lef⟩
theorem DM.cut_ok {d : DM} (h : d.ok) (n : Int) : (d.cut n).ok := by
 unfold DM.cut
 split
 ·exact h
 ·split
  ·exact ⟨h.fit, h.las, h.room, MS h.lef⟩
  ·have h1 := h.fit
   have h2 := h.las
   refine ⟨?_, ?_, h.room, MS h.lef⟩
   ·show (d.bs.take n.toNat).length ≤ d.room
    rw [List.length_take]
    omega
   ·show min d.lasts n.toNat ≤ (d.bs.take n.toNat).length
    rw [List.length_take]
    omega
theorem DM.kept_le {d : DM} (h : d.ok) (keep : Int) : d.kept keep ≤ d.bs.length := by
 have := h.las
 unfold DM.kept
 omega
theorem DM.crash_ok {d : DM} (h : d.ok) (keep : Int) : (d.crash keep).ok := by
 have h1 := h.fit
 have h2 := DM.kept_le h keep
 refine ⟨?_, ?_, h.room, by show (-1 : Int) ≤ _; omega⟩
 ·show (d.bs.take (d.kept keep)).length ≤ d.room
  rw [List.length_take]
  omega
 ·show d.kept keep ≤ (d.bs.take (d.kept keep)).length
  rw [List.length_take]
  omega
def DD (w : World) (b : Nat) (row : Option Nat) (d : DM) : Prop := Dk w b row d.bs d.lasts d.room d.left ∧ d.ok
def DP (v : Value) (w : World) (b : Nat) (row : Option Nat) (d : DM) (e : Ending) (w' : World) : Prop := e = .returned v ∧ ∃ row', DD w' b row' d ∧ Nw w row row' ∧ Kb b row w w'
theorem DD.below {w w' : World} {b : Nat} {row : Option Nat} {d : DM} (h : DD w b row d) (hb : Below w.heap.size w w') : DD w' b row d := ⟨h.1.below hb, h.2⟩
theorem jd9 {lasts : Nat} {n : Int} (h : 0 ≤ n) : mn (lasts : Int) n = ((min lasts n.toNat : Nat) : Int) := by unfold mn; split <;> omega
theorem ZE {lasts len : Nat} {keep : Int} (h : lasts ≤ len) : ((lasts + min keep.toNat (len - lasts) : Nat) : Int) = lasts + mn (mx keep 0) ((len : Int) - lasts) := by unfold mn mx; split <;> split <;> omega
section
variable {w : World} {b : Nat} {row : Option Nat} {d : DM}
theorem j0_ {w : World} {b : Nat} {row : Option Nat} {n n' : Int} {bs : List UInt8} {lasts room left : Int} {d' : DM} {e : Ending} {w' : World} (h : EQ (DQ w b row n bs lasts room left) e w') (hn : n = n') (hd : bs = d'.bs ∧ lasts = d'.lasts ∧ room = d'.room ∧ left = d'.left) (hok : d'.ok) : DP (.int .u16 n') w b row d' e w' := by
 obtain ⟨m, rfl, rfl, row', h1, h2, h3⟩ := h
 obtain ⟨rfl, rfl, rfl, rfl⟩ := hd
 subst hn
 exact ⟨rfl, row', ⟨h1, hok⟩, h2, h3⟩
theorem YN (d : DM) (l : List UInt8) : (if d.left = 0 then 100 else apE d.bs l d.room) = d.appE l ∧ (if d.left = 0 then d.bs else apB d.bs l d.room) = (d.app l).bs ∧ (d.lasts : Int) = (d.app l).lasts ∧ (d.room : Int) = (d.app l).room ∧ dec d.left = (d.app l).left := by
 unfold DM.appE DM.app apE apB DM.full
 by_cases h0 : d.left = 0
 ·simp [h0, dec]
 ·by_cases h1 : (d.room : Int) - d.bs.length < l.length <;> simp [h0, h1]
theorem VJ (d : DM) : (if d.left = 0 then 100 else 0 : Int) = d.syncE ∧ d.bs = d.sync.bs ∧ (if d.left = 0 then (d.lasts : Int) else d.bs.length) = d.sync.lasts ∧ (d.room : Int) = d.sync.room ∧ dec d.left = d.sync.left := by
 unfold DM.syncE DM.sync
 by_cases h0 : d.left = 0 <;> simp [h0, dec]
theorem YZ (d : DM) (n : Int) : (if d.left = 0 then 100 else ctE d.bs n) = d.cutE n ∧ (if d.left = 0 then d.bs else ctB d.bs n) = (d.cut n).bs ∧ (if d.left = 0 then (d.lasts : Int) else ctL d.bs d.lasts n) = (d.cut n).lasts ∧ (d.room : Int) = (d.cut n).room ∧ dec d.left = (d.cut n).left := by
 unfold DM.cutE DM.cut ctE ctB ctL DM.out
 by_cases h0 : d.left = 0
 ·simp [h0, dec]
 ·by_cases h1 : n < 0 ∨ (d.bs.length : Int) < n
  ·simp [h0, h1]
  ·simp only [h0, h1, if_false]
   exact ⟨trivial, trivial, jd9 (by omega), trivial, trivial⟩
theorem X9 {l : List UInt8} {A : Option Addr} {c : Nat} (h : DD w b row d) (hC : kb.C w A l.length l) (hab : ∀ a, A = some a → 0 < l.length → a.block ≠ b) (hl : l.length ≤ 140737480000000) :
  Calls Tryd.prog 89 #[.pointer (some ⟨b, 0, none⟩), .slice A l.length c] w (DP (.int .u16 (d.appE l)) w b row (d.app l)) :=
 (OJ h.1 hC hab (by have := h.2.fit; omega) (by have := h.2.room; omega) hl h.2.lef).mono fun _ _ hq => j0_ hq (YN d l).1 (YN d l).2 (DM.app_ok h.2 l)
theorem VK (h : DD w b row d) : Calls Tryd.prog 85 #[.pointer (some ⟨b, 0, none⟩)] w (DP (.int .u16 d.syncE) w b row d.sync) :=
 (VP h.1 (by have := h.2.fit; have := h.2.room; omega) h.2.lef).mono fun _ _ hq => j0_ hq (VJ d).1 (VJ d).2 (DM.sync_ok h.2)
theorem j8_ (n : Int) (h : DD w b row d) : Calls Tryd.prog 84 #[.pointer (some ⟨b, 0, none⟩), .int .i64 n] w (DP (.int .u16 (d.cutE n)) w b row (d.cut n)) :=
 (WT n h.1 (by have := h.2.fit; have := h.2.room; omega) h.2.lef).mono fun _ _ hq => j0_ hq (YZ d n).1 (YZ d n).2 (DM.cut_ok h.2 n)
theorem TC (keep : Int) (h : DD w b row d) : Calls Tryd.prog 43 #[.pointer (some ⟨b, 0, none⟩), .int .i64 keep] w (DP (.tuple #[]) w b row (d.crash keep)) :=
 (RY (k := d.kept keep) keep h.1 (by have := h.2.fit; have := h.2.room; omega) (Int.natCast_nonneg _) (by have := h.2.las; omega) (ZE h.2.las)).mono fun _ _ ⟨he, h1, h2⟩ => ⟨he, row, ⟨h1, DM.crash_ok h.2 keep⟩, fun k e => .inl e, Kb.of_grown h2⟩
theorem Z5 (h : DD w b row d) : Calls Tryd.prog 40 #[.pointer (some ⟨b, 0, none⟩)] w fun e w' => ∃ v, e = .returned v ∧ OB w' w.heap.size v d.bs ∧ Below w.heap.size w w' := TQ h.1 (by have := h.2.fit; have := h.2.room; omega)
theorem jb8 (room : Nat) (w : World) (h : room ≤ 1048576) : Calls Tryd.prog 38 #[.int .i64 room] w fun e w' => e = .returned (.pointer (some ⟨w.heap.size, 0, none⟩)) ∧ DD w' w.heap.size none (DM.new room) ∧ Below w.heap.size w w' :=
 (VH room w (Int.natCast_nonneg _) (by omega)).mono fun _ _ ⟨h1, h2, h3⟩ => ⟨h1, ⟨h2, DM.new_ok h⟩, h3⟩
end
structure One (w0 w : World) (b : Nat) (row : Option Nat) (d : DM) : Prop where
 dd : DD w b row d
 blk : w0.heap.size ≤ b
 row : ∀ k, row = some k → w0.heap.size ≤ k
 bel : Below w0.heap.size w0 w
theorem One.step {w0 w w' : World} {b : Nat} {row row' : Option Nat} {d d' : DM} (h : One w0 w b row d) (hd : DD w' b row' d') (hn : Nw w row row') (hk : Kb b row w w') : One w0 w' b row' d' := by
 refine ⟨hd, h.blk, fun k e => (hn k e).elim (fun e' => h.row k e') (fun h' => Nat.le_trans h.bel.size h'), ?_⟩
 have := h.bel.trans (hk.below (B := w0.heap.size) h.bel.size h.blk h.row)
 exact this
theorem One.below {w0 w w' : World} {b : Nat} {row : Option Nat} {d : DM} (h : One w0 w b row d) (hb : Below w.heap.size w w') : One w0 w' b row d := ⟨h.dd.below hb, h.blk, h.row, h.bel.trans (hb.mono h.bel.size)⟩
theorem One.new {w0 w w' : World} {room : Nat} (h0 : Below w0.heap.size w0 w) (h : DD w' w.heap.size none (DM.new room)) (hb : Below w.heap.size w w') : One w0 w' w.heap.size none (DM.new room) :=
 ⟨h, h0.size, (fun _ e => by cases e), h0.trans (hb.mono h0.size)⟩
theorem Rw.kb {w w' : World} {b : Nat} {row : Option Nat} {r : Nat} {ao : Option Addr} {rr : Option Nat} {cap : Nat} {bs : List UInt8} (h : Rw w r ao rr cap bs) (hk : Kb b row w w') (h1 : ∀ k, rr = some k → k ≠ b ∧ some k ≠ row) : Rw w' r ao rr cap bs := by
 rcases h with h | ⟨g, cur, e1, e2, h3, h4, h5⟩
 ·exact .inl h
 ·exact .inr ⟨g, cur, e1, e2, h3, (hk.block g (jV h4) (h1 g e2).1 (h1 g e2).2).trans h4, h5⟩
theorem DD.kb {w w' : World} {b : Nat} {row : Option Nat} {r : Nat} {rr : Option Nat} {d : DM} (h : DD w r rr d) (hk : Kb b row w w') (hr : r ≠ b) (hr2 : some r ≠ row) (h1 : ∀ k, rr = some k → k ≠ b ∧ some k ≠ row) : DD w' r rr d := by
 obtain ⟨⟨ao, cap, lr, hD, hR⟩, hok⟩ := h
 exact ⟨⟨ao, cap, lr, (hk.block r hD.lt hr hr2).trans hD, hR.kb hk h1⟩, hok⟩
end Go.Proofs.YtgfkgppomaapiaaDoor.K
end

section
namespace Go.Proofs.YtgfkgppomaapiaaDoor.K
open RowKit YtgfkgppomaapiaaDoorW.PrintWords YtgfkgppomaapiaaDoorW.PrintLast YtgfkgppomaapiaaDoorW.PrintMore My
section
variable {w w' : World} {b : Nat} {row : Option Nat} {d : DM}
theorem DD.blk (h : DD w b row d) : ∃ cs, w.heap[b]? = some (.cells cs 128 (0, 0)) := by
 obtain ⟨⟨_, _, _, hD, _⟩, _⟩ := h
 exact ⟨_, hD⟩
theorem DD.rowt (h : DD w b row d) (k : Nat) (e : row = some k) : ∃ cs, w.heap[k]? = some (.cells cs 5 (0, 0)) := by
 obtain ⟨⟨_, _, _, _, hR⟩, _⟩ := h
 rcases hR with ⟨_, h2, _⟩ | ⟨g, cur, _, h2, _, h3, _⟩
 ·rw [h2] at e; cases e
 ·rw [h2] at e; injection e with e; subst e; exact ⟨cur, h3⟩
theorem DD.stays (h : DD w b row d) (hk : Kb b row w w') {g t : Nat} {cells : Array Value} (hg : w.heap[g]? = some (.cells cells t (0, 0))) (h1 : t ≠ 128) (h2 : t ≠ 5) : w'.heap[g]? = some (.cells cells t (0, 0)) := by
 refine (hk.block g (jV hg) (fun e => ?_) (fun e => ?_)).trans hg
 ·subst e
  obtain ⟨cs, hc⟩ := h.blk
  rw [hg] at hc
  injection hc with hc
  injection hc with _ hc
  exact h1 hc
 ·obtain ⟨cs, hc⟩ := h.rowt g e.symm
  rw [hg] at hc
  injection hc with hc
  injection hc with _ hc
  exact h2 hc
theorem R_kb {α : Type} {kd : Kd α} {e base : Nat} {v : Value} {xs : List α} (hr : kd.R e w base (fun _ => True) v xs) (h : DD w b row d) (hk : Kb b row w w') (hE : ∀ q ∈ e :: kd.E, q ≠ 128 ∧ q ≠ 5) : kd.R e w' base (fun _ => True) v xs :=
 Kd.R_mono (Kd.R_move (Kd.R_bound hr) (fun k hq => by
  obtain ⟨_, _, _, q, hq, cells, hc⟩ := hq
  rw [hc]
  exact h.stays hk hc (hE q hq).1 (hE q hq).2)) (fun _ _ => trivial)
theorem je3 : ∀ q ∈ 30 :: kR.E, q ≠ 128 ∧ q ≠ 5 := by decide
theorem RRs.kb {base : Nat} {v : Value} {l : List SRec} (hr : RRs w base v l) (h : DD w b row d) (hk : Kb b row w w') : RRs w' base v l := R_kb hr h hk je3
def Lg (w : World) (g b : Nat) : Prop := w.heap[g]? = some (.cells #[.pointer (some ⟨b, 0, none⟩)] 134 (0, 0))
theorem Lg.kb {g : Nat} (hl : Lg w g b) (h : DD w b row d) (hk : Kb b row w w') : Lg w' g b := h.stays hk hl (by decide) (by decide)
theorem Lg.below {g : Nat} (hl : Lg w g b) (hb : Below w.heap.size w w') : Lg w' g b := iO hb hl
theorem DD.len (h : DD w b row d) : d.bs.length ≤ 1048576 := Nat.le_trans h.2.fit h.2.room
end
def walN (d : DM) : Nat := endB (okL (lU d.bs))
theorem ja8 (ls : List (List UInt8)) : endB (okL ls) ≤ endB ls := by
 unfold okL
 induction ls with
 | nil => simp
 | cons x t ih =>
  rw [List.takeWhile_cons]
  split
  ·rw [qJ, qJ]; omega
  ·simp [endB]
theorem UG (d : DM) : walN d ≤ d.bs.length := Nat.le_trans (ja8 _) (YP _)
def cutD (d : DM) : DM := if walN d < d.bs.length then d.cut (walN d) else d
def cutO (d : DM) : Int := if walN d < d.bs.length then d.cutE (walN d) else 0
def xU (d : DM) : DM := if cutO d = 0 then (cutD d).sync else cutD d
def uB (d : DM) : Int := if cutO d = 0 then (cutD d).syncE else cutO d
def ja7 (w : World) (b : Nat) (row : Option Nat) (d : DM) (e : Ending) (w' : World) : Prop :=
 ∃ row', DD w' b row' (xU d) ∧ Nw w row row' ∧ Kb b row w w' ∧
  ((uB d = 0 ∧ ∃ g v, e = .returned (.tuple #[.pointer (some ⟨g, 0, none⟩), v, .int .u16 0]) ∧ w.heap.size ≤ g ∧ Lg w' g b ∧ RRs w' w.heap.size v (vV (lU d.bs))) ∨
   (uB d ≠ 0 ∧ e = .returned (.tuple #[.pointer none, .slice none 0 0, .int .u16 (uB d)])))
theorem Nw.trans {w w1 : World} {row row1 row2 : Option Nat} (h : Nw w row row1) (hs : w.heap.size ≤ w1.heap.size) (k : Nw w1 row1 row2) : Nw w row row2 := fun j e => (k j e).elim (fun e1 => h j e1) (fun h1 => .inr (by omega))
theorem Nw.refl (w : World) (row : Option Nat) : Nw w row row := fun _ e => .inl e
theorem Nw.older {w w1 : World} {row row1 : Option Nat} (h : Nw w1 row row1) (hs : w.heap.size ≤ w1.heap.size) : Nw w row row1 := fun j e => (h j e).imp id (fun h1 => by omega)
theorem Kb.then {w w1 w2 : World} {b : Nat} {row row1 : Option Nat} (h : Kb b row w w1) (k : Kb b row1 w1 w2) (hn : Nw w row row1) : Kb b row w w2 := h.trans hn k
theorem rF (d : DM) (n : Int) : (d.cutE n = 0 ∨ d.cutE n = 1 ∨ d.cutE n = 100) ∧ (d.syncE = 0 ∨ d.syncE = 100) := by
 unfold DM.cutE DM.syncE
 (repeat' split) <;> simp
theorem DD.drew {w : World} {b : Nat} {row : Option Nat} {d : DM} (h : DD w b row d) : DD w.drew b row d := h.below (iJ (Below.refl _ _))
set_option maxHeartbeats 8000000 in
theorem open_any {w : World} {b : Nat} {row : Option Nat} {d : DM} (h : DD w b row d) (hbig : (d.bs.length : Int) ≤ 1000000) : Calls Tryd.prog 39 #[.pointer (some ⟨b, 0, none⟩)] w (ja7 w b row d) := by
 have HD := iC.mk h
 have hcall := Z5 h
 have hwI : (walN d : Int) ≤ (d.bs.length : Int) := by have := UG d; omega
 clear h
 go_enter Tryd.func39, Tryd.ntmps39
 go_wp2_with fail
 go_at_call 40
 refine hcall.mono ?_
 rintro e w1 ⟨v1, rfl, ho1, hb1⟩
 obtain ⟨A1, c1, rfl, hc1, hC1⟩ := ho1.reads
 have HD1 := iC.mk (HD.out.below hb1)
 have HB1 := iC.mk hb1
 clear hcall ho1 hb1 HD
 have hcall := O5 A1 c1 d.bs w1 hC1 hc1 hbig
 clear hC1 hc1
 go_wp2_with fail
 go_at_call 83
 refine hcall.mono ?_
 rintro e w2 ⟨v2, rfl, hr2, hb2⟩
 rw [show (endB (okL (lU d.bs)) : Nat) = walN d from rfl]
 obtain ⟨A2, c2, rfl⟩ := Kd.R_slice hr2
 have HD2 := iC.mk (HD1.out.below hb2)
 have HR2 := iC.mk (show RRs w2 w.heap.size _ _ from Kd.R_lower hr2 HB1.out.size)
 have hB2 := iK HB1.out hb2
 have HK2 := iC.mk (Kb.of_below (b := b) (row := row) hB2)
 have HS2 := iC.mk hB2.size
 clear hcall hr2 hb2 HD1 HB1 hB2
 obtain ⟨rs, hrs⟩ : ∃ rs, rs = vV (lU d.bs) := ⟨_, rfl⟩
 rw [← hrs] at HR2
 have HRS := iC.mk hrs
 rw [← hrs]
 clear hrs
 by_cases hlt : (walN d : Int) < (d.bs.length : Int)
 ·have HCD := iC.mk (show cutD d = d.cut (walN d) from by unfold cutD; rw [if_pos (by omega)])
  have HCO := iC.mk (show cutO d = d.cutE (walN d) from by unfold cutO; rw [if_pos (by omega)])
  have hcut := j8_ (walN d : Int) HD2.out
  have hE := (rF d (walN d)).1
  have hS := (rF (d.cut (walN d)) 0).2
  obtain ⟨E, hEE⟩ : ∃ E, E = d.cutE (walN d) := ⟨_, rfl⟩
  rw [← hEE] at hcut hE HCO
  clear hEE
  go_wp2_with fail
  go_at_call 84
  refine hcut.mono ?_
  rintro e w3 ⟨rfl, row3, hD3, hn3, hk3⟩
  have HN3 := iC.mk (hn3.older HS2.out)
  have HK3 := iC.mk (HK2.out.then hk3 (Nw.refl _ _))
  have HR3 := iC.mk (HR2.out.kb HD2.out hk3)
  have HS3 := iC.mk (Nat.le_trans HS2.out hk3.size)
  have HD3 := iC.mk hD3
  clear hcut hn3 hk3 hD3 HD2 HR2 HK2 HS2
  by_cases hE0 : E = 0
  ·subst hE0
   have hsync := VK HD3.out
   have HOD := iC.mk (show xU d = (d.cut (walN d)).sync from by unfold xU; rw [HCO.out, if_pos rfl, HCD.out])
   have HOE := iC.mk (show uB d = (d.cut (walN d)).syncE from by unfold uB; rw [HCO.out, if_pos rfl, HCD.out])
   obtain ⟨S, hSE⟩ : ∃ S, S = (d.cut (walN d)).syncE := ⟨_, rfl⟩
   rw [← hSE] at hsync hS HOE
   clear hSE hE
   go_wp2_with fail
   go_at_call 85
   refine hsync.mono ?_
   rintro e w4 ⟨rfl, row4, hD4, hn4, hk4⟩
   have HN4 := iC.mk (HN3.out.trans HS3.out hn4)
   have HK4 := iC.mk (HK3.out.then hk4 HN3.out)
   have HR4 := iC.mk (HR3.out.kb HD3.out hk4)
   have HS4 := iC.mk (Nat.le_trans HS3.out hk4.size)
   have HD4 := iC.mk hD4
   clear hsync hn4 hk4 hD4 HD3 HR3 HK3 HS3 HN3
   by_cases hS0 : S = 0
   ·subst hS0
    clear hS
    go_wp2
    go_ret3
    have hb5 : Below w4.heap.size w4 (w4.alloc (.cells #[.pointer (some ⟨b, 0, none⟩)] 134)) := iG (Below.refl _ _) _
    refine ⟨row4, by rw [HOD.out]; exact HD4.out.below hb5, HN4.out, HK4.out.then (Kb.of_below hb5) HN4.out, .inl ⟨HOE.out, w4.heap.size, _, rfl, HS4.out, iZ rfl, ?_⟩⟩
    rw [← HRS.out]
    exact HR4.out.below hb5
   ·obtain rfl := hS.resolve_left hS0
    clear hS hS0
    go_wp2
    go_ret3
    exact ⟨row4, by rw [HOD.out]; exact HD4.out, HN4.out, HK4.out, .inr ⟨by rw [HOE.out]; decide, by rw [HOE.out]; rfl⟩⟩
  ·have HOD := iC.mk (show xU d = d.cut (walN d) from by unfold xU; rw [HCO.out, if_neg hE0, HCD.out])
   have HOE := iC.mk (show uB d = E from by unfold uB; rw [HCO.out, if_neg hE0])
   have hE1 : E = 1 ∨ E = 100 := hE.resolve_left hE0
   clear hE hS
   rcases hE1 with rfl | rfl
   ·go_wp2
    go_ret3
    exact ⟨row3, by rw [HOD.out]; exact HD3.out, HN3.out, HK3.out, .inr ⟨by rw [HOE.out]; decide, by rw [HOE.out]; rfl⟩⟩
   ·go_wp2
    go_ret3
    exact ⟨row3, by rw [HOD.out]; exact HD3.out, HN3.out, HK3.out, .inr ⟨by rw [HOE.out]; decide, by rw [HOE.out]; rfl⟩⟩
 ·have HCO := iC.mk (show cutO d = 0 from by unfold cutO; rw [if_neg (by omega)])
  have HCD := iC.mk (show cutD d = d from by unfold cutD; rw [if_neg (by omega)])
  have hsync := VK HD2.out
  have hS := (rF d 0).2
  have HOD := iC.mk (show xU d = d.sync from by unfold xU; rw [HCO.out, if_pos rfl, HCD.out])
  have HOE := iC.mk (show uB d = d.syncE from by unfold uB; rw [HCO.out, if_pos rfl, HCD.out])
  obtain ⟨S, hSE⟩ : ∃ S, S = d.syncE := ⟨_, rfl⟩
  rw [← hSE] at hsync hS HOE
  clear hSE
  go_wp2_with fail
  go_at_call 85
  refine hsync.mono ?_
  rintro e w4 ⟨rfl, row4, hD4, hn4, hk4⟩
  have HN4 := iC.mk (hn4.older HS2.out)
  have HK4 := iC.mk (HK2.out.then hk4 (Nw.refl _ _))
  have HR4 := iC.mk (HR2.out.kb HD2.out hk4)
  have HS4 := iC.mk (Nat.le_trans HS2.out hk4.size)
  have HD4 := iC.mk hD4
  clear hsync hn4 hk4 hD4 HD2 HR2 HK2 HS2
  by_cases hS0 : S = 0
  ·subst hS0
   clear hS
   go_wp2
   go_ret3
   have hb5 : Below w4.heap.size w4 (w4.alloc (.cells #[.pointer (some ⟨b, 0, none⟩)] 134)) := iG (Below.refl _ _) _
   refine ⟨row4, by rw [HOD.out]; exact HD4.out.below hb5, HN4.out, HK4.out.then (Kb.of_below hb5) HN4.out, .inl ⟨HOE.out, w4.heap.size, _, rfl, HS4.out, iZ rfl, ?_⟩⟩
   rw [← HRS.out]
   exact HR4.out.below hb5
  ·obtain rfl := hS.resolve_left hS0
   clear hS hS0
   go_wp2
   go_ret3
   exact ⟨row4, by rw [HOD.out]; exact HD4.out, HN4.out, HK4.out, .inr ⟨by rw [HOE.out]; decide, by rw [HOE.out]; rfl⟩⟩
end Go.Proofs.YtgfkgppomaapiaaDoor.K
end

section
namespace Go.Proofs.YtgfkgppomaapiaaDoor.K
open RowKit YtgfkgppomaapiaaDoorW.PrintWords YtgfkgppomaapiaaDoorW.PrintLast YtgfkgppomaapiaaDoorW.PrintMore My
def mZ (d : DM) (r : SRec) : Int := if (encR r).2 = 0 then d.appE (lK (recE r)) else (encR r).2
def mG (d : DM) (r : SRec) : DM := if (encR r).2 = 0 then d.app (lK (recE r)) else d
def qF (d : DM) (r : SRec) : Int := if mZ d r = 0 then (mG d r).syncE else mZ d r
def nR (d : DM) (r : SRec) : DM := if mZ d r = 0 then (if (mG d r).syncE = 0 then (mG d r).sync else (mG d r).sync.cut d.bs.length) else mG d r
theorem ZK (d : DM) (l : List UInt8) : d.appE l = 0 ∨ d.appE l = 100 := by
 unfold DM.appE
 (repeat' split) <;> simp
theorem NE (d : DM) (r : SRec) : mZ d r = 0 ∨ mZ d r = 1 ∨ mZ d r = 3 ∨ mZ d r = 100 := by
 unfold mZ
 rcases oQ r with h | h | h <;> rw [h]
 ·exact .inr (.inl (if_neg (by decide)))
 ·exact .inr (.inr (.inl (if_neg (by decide))))
 ·rw [if_pos rfl]
  rcases ZK d (lK (recE r)) with h | h <;> rw [h] <;> simp
theorem yO {r : SRec} (h : encR r = (nums (recE r), 0)) : (recE r).length ≤ 60000 := by
 unfold encR at h
 split at h
 ·split at h
  ·injection h with _ h2; cases h2
  ·omega
 ·injection h with _ h2; cases h2
attribute [-go_sem] Instr.build Instr.storeAt
set_option maxRecDepth 20000 in
set_option maxHeartbeats 8000000 in
theorem JM {w : World} {b g : Nat} {row : Option Nat} {d : DM} {r : SRec} {A3 A4 A6 A9 : Option Addr} {a3 a4 a6 a9 : Nat} (h : DD w b row d) (hg : Lg w g b) (hr : Lies w r A3 a3 A4 a4 A6 a6 A9 a9) :
  Calls Tryd.prog 45 #[.pointer (some ⟨g, 0, none⟩), .agg #[.int .u8 r.f0, .int .u32 r.f1, .int .u32 r.f2, .slice A3 r.f3.length a3, .slice A4 r.f4.length a4, .int .u32 r.f5.f0, .slice A6 r.f5.f1.length a6, .int .i64 r.f6, .int .i64 r.f7, .slice A9 r.f8.length a9]] w (DP (.int .u16 (mZ d r)) w b row (mG d r)) := by
 obtain ⟨W, hW⟩ : ∃ W, W = w.alloc (.cells #[.int .u8 r.f0, .int .u32 r.f1, .int .u32 r.f2, .slice A3 r.f3.length a3, .slice A4 r.f4.length a4, .int .u32 r.f5.f0, .slice A6 r.f5.f1.length a6, .int .i64 r.f6, .int .i64 r.f7, .slice A9 r.f8.length a9] 30) := ⟨_, rfl⟩
 have hb : Below w.heap.size w W := by rw [hW]; exact iG (Below.refl _ _) _
 have HX := iC.mk (show W.heap[w.heap.size]? = some (.cells #[.int .u8 r.f0, .int .u32 r.f1, .int .u32 r.f2, .slice A3 r.f3.length a3, .slice A4 r.f4.length a4, .int .u32 r.f5.f0, .slice A6 r.f5.f1.length a6, .int .i64 r.f6, .int .i64 r.f7, .slice A9 r.f8.length a9] 30 (0, 0)) from by rw [hW]; exact iZ rfl)
 have HD := iC.mk (h.below hb)
 have HG := iC.mk (hg.below hb)
 have HL := iC.mk (hr.below hb)
 have HB := iC.mk hb
 have HW := iC.mk hW
 have HLT := iC.mk h.1.lt
 have HLT2 := iC.mk (show b < W.heap.size from HD.out.1.lt)
 clear h hg hr hb hW
 obtain ⟨⟨E1, E2⟩, hE⟩ : ∃ E : List Int × Int, encR r = E := ⟨_, rfl⟩
 have hcall := OO HL.out hE
 have hcs := oQ r
 have HE := iC.mk hE
 rw [hE] at hcs
 have HCS := iC.mk hcs
 clear hE hcs
 go_enter Tryd.func45, Tryd.ntmps45
 go_upto_region 1 with fail
 rw [← HW.out]
 obtain ⟨wz0, wz1, wz2, wz3, wz4, wz5, wz6, wz7, wz8, wz9, wy0, wy1, wy2, wy3, wy4, wy5, wy6, wy7, wy8, wy9⟩ := ten (HX.out)
 clear wy0 wy1 wy2 wy3 wy4 wy5 wy6 wy7 wy8 wy9
 go_wp2_with fail
 go_at_call 17
 refine hcall.mono ?_
 rintro e w1 ⟨v0, rfl, h0, hb1⟩
 obtain ⟨A0, c0, rfl⟩ := Kd.R_slice h0
 obtain ⟨_, q0, C0⟩ := Kd.R_reads' h0
 have HD1 := iC.mk (HD.out.below hb1)
 have HG1 := iC.mk (HG.out.below hb1)
 have HB1 := iC.mk (iK HB.out hb1)
 have hcs := HCS.out
 clear hcall h0 hb1 wz0 wz1 wz2 wz3 wz4 wz5 wz6 wz7 wz8 wz9 HX HL HD HG HB
 have hbad : ∀ E, E ≠ 0 → (encR r).2 = E → DP (.int .u16 (mZ d r)) w b row (mG d r) (.returned (.int .u16 E)) w1 := fun E h0 hE => by
  unfold mZ mG
  rw [hE, if_neg h0, if_neg h0]
  exact ⟨rfl, row, HD1.out, Nw.refl _ _, Kb.of_below HB1.out⟩
 rcases hcs with hc | hc | hc
 ·obtain ⟨rfl, rfl⟩ := Prod.mk.inj hc
  have HBAD := iC.mk (hbad 1 (by decide) (by rw [HE.out]))
  clear hc hbad C0 q0
  go_wp2
  go_ret
  exact HBAD.out
 ·obtain ⟨rfl, rfl⟩ := Prod.mk.inj hc
  have HBAD := iC.mk (hbad 3 (by decide) (by rw [HE.out]))
  clear hc hbad C0 q0
  go_wp2
  go_ret
  exact HBAD.out
 ·obtain ⟨rfl, rfl⟩ := Prod.mk.inj hc
  have hlen : (nums (recE r)).length = (recE r).length := mF _
  have hsh := yO HE.out
  rw [hlen] at q0 C0
  have hwrap := wrap_any A0 c0 (recE r) w1 (IB C0) q0 hsh
  have HSH := iC.mk hsh
  rw [hlen]
  clear hc hbad C0 q0 hlen hsh
  go_wp2_with fail
  go_at_call 88
  refine hwrap.mono ?_
  rintro e w2 ⟨vw, rfl, hO, hb2⟩
  have hbase := fun k => Kd.R_base hO k
  obtain ⟨Aw, cw, rfl, hcw, hCw⟩ := hO.reads
  have HD2 := iC.mk (HD1.out.below hb2)
  have HB2 := iC.mk (iK HB1.out hb2)
  have hz := (iE (HG1.out.below hb2) 0).trans (show _ = some (Value.pointer (some ⟨b, 0, none⟩)) from rfl)
  have hwl := lG (recE r)
  have hlt := HD1.out.1.lt
  have happ := X9 (c := cw) HD2.out hCw (fun a e _ hab => by subst e; have := hbase a.block rfl; omega) (by have := HSH.out; omega)
  have HF := iC.mk (show ∀ e' w', DP (.int .u16 (d.appE (lK (recE r)))) w2 b row (d.app (lK (recE r))) e' w' → DP (.int .u16 (mZ d r)) w b row (mG d r) e' w' from fun e' w' hp => by
   unfold mZ mG
   rw [HE.out, if_pos rfl, if_pos rfl]
   obtain ⟨he, row', h1, h2, h3⟩ := hp
   exact ⟨he, row', h1, h2.older HB2.out.size, (Kb.of_below (b := b) (row := row) HB2.out).then h3 (Nw.refl _ _)⟩)
  generalize lK (recE r) = L at happ hcw hCw hwl HF
  obtain ⟨E, hEE⟩ : ∃ E, E = d.appE L := ⟨_, rfl⟩
  rw [← hEE] at happ HF
  clear hwrap hO hb2 hcw hCw hwl hlt HD1 HG1 HB1 hbase hEE
  go_wp2_with fail
  go_at_call 89
  refine happ.mono ?_
  rintro e w3 ⟨rfl, hp⟩
  have HP := iC.mk (HF.out _ _ ⟨rfl, hp⟩)
  clear happ hp HF
  go_wp2
  go_ret
  exact HP.out
end Go.Proofs.YtgfkgppomaapiaaDoor.K
end

section
namespace Go.Proofs.YtgfkgppomaapiaaDoor.K
open RowKit YtgfkgppomaapiaaDoorW.PrintWords YtgfkgppomaapiaaDoorW.PrintLast YtgfkgppomaapiaaDoorW.PrintMore My
theorem VO (d : DM) (r : SRec) : 0 ≤ mZ d r ∧ mZ d r ≤ 100 := by rcases NE d r with h | h | h | h <;> omega
attribute [-go_sem] Instr.build Instr.storeAt
set_option maxRecDepth 20000 in
set_option maxHeartbeats 8000000 in
theorem JV {w : World} {b g : Nat} {row : Option Nat} {d : DM} {r : SRec} {A3 A4 A6 A9 : Option Addr} {a3 a4 a6 a9 : Nat} (h : DD w b row d) (hg : Lg w g b) (hr : Lies w r A3 a3 A4 a4 A6 a6 A9 a9) :
  Calls Tryd.prog 41 #[.pointer (some ⟨g, 0, none⟩), .agg #[.int .u8 r.f0, .int .u32 r.f1, .int .u32 r.f2, .slice A3 r.f3.length a3, .slice A4 r.f4.length a4, .int .u32 r.f5.f0, .slice A6 r.f5.f1.length a6, .int .i64 r.f6, .int .i64 r.f7, .slice A9 r.f8.length a9]] w (DP (.int .u16 (qF d r)) w b row (nR d r)) := by
 obtain ⟨W, hW⟩ : ∃ W, W = w.alloc (.cells #[.int .u8 r.f0, .int .u32 r.f1, .int .u32 r.f2, .slice A3 r.f3.length a3, .slice A4 r.f4.length a4, .int .u32 r.f5.f0, .slice A6 r.f5.f1.length a6, .int .i64 r.f6, .int .i64 r.f7, .slice A9 r.f8.length a9] 30) := ⟨_, rfl⟩
 have hb : Below w.heap.size w W := by rw [hW]; exact iG (Below.refl _ _) _
 have HX := iC.mk (show W.heap[w.heap.size]? = some (.cells #[.int .u8 r.f0, .int .u32 r.f1, .int .u32 r.f2, .slice A3 r.f3.length a3, .slice A4 r.f4.length a4, .int .u32 r.f5.f0, .slice A6 r.f5.f1.length a6, .int .i64 r.f6, .int .i64 r.f7, .slice A9 r.f8.length a9] 30 (0, 0)) from by rw [hW]; exact iZ rfl)
 have HD := iC.mk (h.below hb)
 have HG := iC.mk (hg.below hb)
 have HL := iC.mk (hr.below hb)
 have HB := iC.mk hb
 have HW := iC.mk hW
 clear h hg hr hb hW
 have hz := (iE HG.out 0).trans (show _ = some (Value.pointer (some ⟨b, 0, none⟩)) from rfl)
 have hcall := Z5 HD.out
 go_enter Tryd.func41, Tryd.ntmps41
 go_upto_region 1 with fail
 rw [← HW.out]
 clear HW
 go_wp2_with fail
 go_at_call 40
 refine hcall.mono ?_
 rintro e w1 ⟨v1, rfl, ho1, hb1⟩
 obtain ⟨A1, c1, rfl, _, _⟩ := ho1.reads
 have HX1 := iC.mk (iO hb1 HX.out)
 have HD1 := iC.mk (HD.out.below hb1)
 have HG1 := iC.mk (HG.out.below hb1)
 have HB1 := iC.mk (iK HB.out hb1)
 have hcall := JM HD1.out HG1.out (HL.out.below hb1)
 have hE0 := VO d r
 obtain ⟨E, hE⟩ : ∃ E, mZ d r = E := ⟨_, rfl⟩
 have HE := iC.mk hE
 rw [hE] at hcall hE0
 have hE1 := hE0.1
 have hE2 := hE0.2
 clear ho1 hb1 HX HD HG HL HB hz hE hE0
 obtain ⟨wz0, wz1, wz2, wz3, wz4, wz5, wz6, wz7, wz8, wz9, wy0, wy1, wy2, wy3, wy4, wy5, wy6, wy7, wy8, wy9⟩ := ten (HX1.out)
 clear wy0 wy1 wy2 wy3 wy4 wy5 wy6 wy7 wy8 wy9
 go_wp2_with fail
 go_at_call 45
 refine hcall.mono ?_
 rintro e w2 ⟨rfl, row2, hD2, hn2, hk2⟩
 have HD2 := iC.mk hD2
 have HG2 := iC.mk (HG1.out.kb HD1.out hk2)
 have HN2 := iC.mk (hn2.older (w := w) HB1.out.size)
 have HK2 := iC.mk ((Kb.of_below (b := b) (row := row) HB1.out).then hk2 (Nw.refl _ _))
 clear hcall hD2 hn2 hk2 HX1 HD1 HG1 HB1 wz0 wz1 wz2 wz3 wz4 wz5 wz6 wz7 wz8 wz9
 by_cases h0 : E = 0
 ·subst h0
  have hsync := VK HD2.out
  have hS := (rF (mG d r) 0).2
  have HFE := iC.mk (show qF d r = (mG d r).syncE from by unfold qF; rw [if_pos HE.out])
  have HFD := iC.mk (show nR d r = if (mG d r).syncE = 0 then (mG d r).sync else (mG d r).sync.cut d.bs.length from by unfold nR; rw [if_pos HE.out])
  obtain ⟨S, hSE⟩ : ∃ S, S = (mG d r).syncE := ⟨_, rfl⟩
  rw [← hSE] at hsync hS HFE HFD
  have hz := (iE HG2.out 0).trans (show _ = some (Value.pointer (some ⟨b, 0, none⟩)) from rfl)
  clear hSE hE1 hE2
  go_wp2_with fail
  go_at_call 85
  refine hsync.mono ?_
  rintro e w3 ⟨rfl, row3, hD3, hn3, hk3⟩
  have HD3 := iC.mk hD3
  have HG3 := iC.mk (HG2.out.kb HD2.out hk3)
  have HN3 := iC.mk (HN2.out.trans HK2.out.size hn3)
  have HK3 := iC.mk (HK2.out.then hk3 HN2.out)
  clear hsync hD3 hn3 hk3 HD2 HG2 HN2 HK2 hz
  by_cases hS0 : S = 0
  ·subst hS0
   clear hS
   go_wp2
   go_ret
   exact ⟨by rw [HFE.out]; rfl, row3, by rw [HFD.out, if_pos (by trivial)]; exact HD3.out, HN3.out, HK3.out⟩
  ·obtain rfl := hS.resolve_left hS0
   have hcut := j8_ (d.bs.length : Int) HD3.out
   have hz := (iE HG3.out 0).trans (show _ = some (Value.pointer (some ⟨b, 0, none⟩)) from rfl)
   clear hS hS0
   go_wp2_with fail
   go_at_call 84
   refine hcut.mono ?_
   rintro e w4 ⟨rfl, row4, hD4, hn4, hk4⟩
   have HD4 := iC.mk hD4
   have HN4 := iC.mk (HN3.out.trans HK3.out.size hn4)
   have HK4 := iC.mk (HK3.out.then hk4 HN3.out)
   clear hcut hD4 hn4 hk4 hz
   go_wp2
   go_ret
   exact ⟨by rw [HFE.out]; rfl, row4, by rw [HFD.out, if_neg (by decide)]; exact HD4.out, HN4.out, HK4.out⟩
 ·have HFE := iC.mk (show qF d r = E from by unfold qF; rw [HE.out, if_neg h0])
  have HFD := iC.mk (show nR d r = mG d r from by unfold nR; rw [HE.out, if_neg h0])
  go_wp2
  go_ret
  exact ⟨by rw [HFE.out]; rfl, row2, by rw [HFD.out]; exact HD2.out, HN2.out, HK2.out⟩
end Go.Proofs.YtgfkgppomaapiaaDoor.K
end

section
namespace Go.Proofs.YtgfkgppomaapiaaDoor.K
open RowKit YtgfkgppomaapiaaDoorW.PrintWords YtgfkgppomaapiaaDoorW.PrintLast YtgfkgppomaapiaaDoorW.PrintMore My
theorem PK {d : DM} {l : List UInt8} (h : d.full l) (hl : d.left = -1) : d.app l = d ∧ d.appE l = 100 := by
 unfold DM.app DM.appE
 rw [if_neg (by omega), if_pos h, if_neg (by omega), if_pos h]
 refine ⟨?_, rfl⟩
 cases d
 simp only at hl
 subst hl
 rfl
theorem P7 {d : DM} {l : List UInt8} (h : ¬ d.full l) (hl : d.left = -1) : d.app l = { d with bs := d.bs ++ l } ∧ d.appE l = 0 := by
 unfold DM.app DM.appE
 rw [if_neg (by omega), if_neg h, if_neg (by omega), if_neg h]
 refine ⟨?_, rfl⟩
 cases d
 simp only at hl
 subst hl
 rfl
theorem yA {d : DM} (hl : d.left = -1) : d.sync = { d with lasts := d.bs.length } ∧ d.syncE = 0 := by
 unfold DM.sync DM.syncE
 rw [if_neg (by omega), if_neg (by omega)]
 refine ⟨?_, rfl⟩
 cases d
 simp only at hl
 subst hl
 rfl
theorem XT {d : DM} (hl : d.left = -1) (n : Nat) (hn : n ≤ d.bs.length) : d.cut n = { d with bs := d.bs.take n, lasts := min d.lasts n } ∧ d.cutE n = 0 := by
 unfold DM.cut DM.cutE
 have ho : ¬ d.out n := by unfold DM.out; omega
 rw [if_neg (by omega), if_neg ho, if_neg (by omega), if_neg ho]
 refine ⟨?_, rfl⟩
 cases d
 simp only at hl
 subst hl
 simp only [Int.toNat_natCast]
 rfl
theorem MQ {d : DM} (hl : d.left = -1) : uB d = 0 ∧ xU d = ⟨d.bs.take (walN d), walN d, d.room, -1⟩ := by
 have hw := UG d
 by_cases h : walN d < d.bs.length
 ·have hc := XT hl (walN d) hw
  have hO : cutO d = 0 := by unfold cutO; rw [if_pos h]; exact hc.2
  have hD : cutD d = d.cut (walN d) := by unfold cutD; rw [if_pos h]
  have hs := yA (d := d.cut (walN d)) (by rw [hc.1]; exact hl)
  refine ⟨by unfold uB; rw [if_pos hO, hD, hs.2], ?_⟩
  unfold xU
  rw [if_pos hO, hD, hs.1, hc.1]
  simp only [DM.mk.injEq, true_and]
  exact ⟨by rw [List.length_take]; omega, hl⟩
 ·have hO : cutO d = 0 := by unfold cutO; rw [if_neg h]
  have hD : cutD d = d := by unfold cutD; rw [if_neg h]
  have hs := yA hl
  refine ⟨by unfold uB; rw [if_pos hO, hD, hs.2], ?_⟩
  unfold xU
  rw [if_pos hO, hD, hs.1]
  have he : walN d = d.bs.length := by omega
  cases d
  simp only at hl he ⊢
  subst hl
  rw [he, List.take_length]
structure qM (r : SRec) : Prop where
 sound : jZ r = true
 ok : zI r
 len : (recE r).length ≤ 60000
def logB (rs : List SRec) : List UInt8 := uQ (rs.map recE)
theorem MB (rs : List SRec) (r : SRec) : logB (rs ++ [r]) = logB rs ++ lK (recE r) := by
 unfold logB uQ
 simp
theorem Q9 : lL [] = none := by decide
theorem IX (rs : List SRec) (t : List (List UInt8)) (h : ∀ r ∈ rs, qM r) : okL (rs.map recE ++ t) = rs.map recE ++ okL t := by
 induction rs with
 | nil => rfl
 | cons r rs ih =>
  have hr := h r List.mem_cons_self
  have := ih (fun x hx => h x (List.mem_cons_of_mem _ hx))
  show List.takeWhile _ (recE r :: (rs.map recE ++ t)) = _
  rw [List.takeWhile_cons_of_pos (p := fun x => (decR x).2 == 0) (by rw [JU hr.sound hr.ok hr.len]; rfl)]
  exact congrArg _ this
theorem MI (rs : List SRec) (h : ∀ r ∈ rs, qM r) : (rs.map recE).map (fun x => (decR x).1) = rs := by
 rw [List.map_map]
 conv => rhs; rw [← List.map_id rs]
 apply List.map_congr_left
 intro r hr
 have := h r hr
 simp only [Function.comp, id]
 rw [JU this.sound this.ok this.len]
theorem OY (rs : List SRec) (h : ∀ r ∈ rs, qM r) : lU (logB rs) = rs.map recE := by
 have := LX (rs.map recE) [] (fun x hx => by obtain ⟨r, hr, rfl⟩ := List.mem_map.1 hx; exact (h r hr).len)
 rw [List.append_nil, kX Q9, List.append_nil] at this
 exact this
theorem Y0 (rs : List SRec) (h : ∀ r ∈ rs, qM r) : vV (lU (logB rs)) = rs := by
 rw [OY rs h]
 unfold vV
 have := IX rs [] h
 rw [List.append_nil, show okL [] = [] from rfl, List.append_nil] at this
 rw [this, MI rs h]
theorem WY {d : DM} {rs : List SRec} (hb : d.bs = logB rs) (h : ∀ r ∈ rs, qM r) : walN d = d.bs.length := by
 unfold walN
 rw [hb, OY rs h]
 have := IX rs [] h
 rw [List.append_nil, show okL [] = [] from rfl, List.append_nil] at this
 rw [this]
 unfold logB
 rw [JZ]
structure Has (d : DM) (rs : List SRec) : Prop where
 bs : d.bs = logB rs
 las : d.lasts = d.bs.length
 live : d.left = -1
theorem Has.opened {d : DM} {rs : List SRec} (hd : Has d rs) (h : ∀ r ∈ rs, qM r) : uB d = 0 ∧ xU d = d := by
 obtain ⟨h1, h2⟩ := MQ hd.live
 refine ⟨h1, ?_⟩
 rw [h2, WY hd.bs h, List.take_length]
 have := hd.las
 have h3 := hd.live
 cases d
 simp only at this h3 ⊢
 rw [this, h3]
theorem Has.crash {d : DM} {rs : List SRec} (hd : Has d rs) (keep : Int) : d.crash keep = d := by
 have h1 := hd.las
 have h2 := hd.live
 have hk : d.kept keep = d.bs.length := by unfold DM.kept; rw [h1]; omega
 unfold DM.crash
 rw [hk, List.take_length]
 cases d
 simp only at h1 h2 ⊢
 rw [h1, h2]
theorem Has.force {d : DM} {rs : List SRec} (hd : Has d rs) (r : SRec) (hs : jZ r = true) (hk : zI r) :
  (qF d r = 0 ∧ qM r ∧ Has (nR d r) (rs ++ [r])) ∨ (qF d r ≠ 0 ∧ nR d r = d) := by
 by_cases he : (encR r).2 = 0
 ·have hen : encR r = (nums (recE r), 0) := by
   rcases oQ r with h | h | h
   ·rw [h] at he; cases he
   ·rw [h] at he; cases he
   ·exact h
  have hLE : mZ d r = d.appE (lK (recE r)) := by unfold mZ; rw [if_pos he]
  have hLD : mG d r = d.app (lK (recE r)) := by unfold mG; rw [if_pos he]
  by_cases hf : d.full (lK (recE r))
  ·obtain ⟨h1, h2⟩ := PK hf hd.live
   refine .inr ⟨?_, ?_⟩
   ·unfold qF; rw [hLE, h2, if_neg (by decide)]; decide
   ·unfold nR; rw [hLE, h2, if_neg (by decide), hLD, h1]
  ·obtain ⟨h1, h2⟩ := P7 hf hd.live
   have hsy := yA (d := d.app (lK (recE r))) (by rw [h1]; exact hd.live)
   refine .inl ⟨?_, ⟨hs, hk, yO hen⟩, ?_⟩
   ·unfold qF; rw [hLE, h2, if_pos rfl, hLD, hsy.2]
   ·have hFD : nR d r = (d.app (lK (recE r))).sync := by unfold nR; rw [hLE, h2, if_pos rfl, hLD, hsy.2, if_pos rfl]
    rw [hFD, hsy.1, h1]
    exact ⟨by rw [MB, ← hd.bs], rfl, hd.live⟩
 ·have hLE : mZ d r = (encR r).2 := by unfold mZ; rw [if_neg he]
  have hLD : mG d r = d := by unfold mG; rw [if_neg he]
  refine .inr ⟨?_, ?_⟩
  ·unfold qF; rw [hLE, if_neg he]; exact he
  ·unfold nR; rw [hLE, if_neg he, hLD]
theorem Has.new (room : Nat) : Has (DM.new room) [] := ⟨rfl, rfl, rfl⟩
end Go.Proofs.YtgfkgppomaapiaaDoor.K
end

section
namespace Go.Proofs.YtgfkgppomaapiaaDoor.K
open RowKit YtgfkgppomaapiaaDoorW.PrintWords YtgfkgppomaapiaaDoorW.PrintLast YtgfkgppomaapiaaDoorW.PrintMore My
def r5 : SRec := ⟨3, 5, 0, [], [], ⟨0, []⟩, 0, 0, []⟩
def r6 : SRec := ⟨3, 6, 0, [], [], ⟨0, []⟩, 0, 0, []⟩
def kd1 : DM := nR (DM.new 900) r5
def kd2 : DM := mG kd1 r6
def kd3 : DM := kd2.crash 0
theorem OW : qF (DM.new 900) r5 = 0 := by decide +kernel
theorem ZP : mZ kd1 r6 = 0 := by decide +kernel
theorem jd6 : kd3.bs = kd1.bs := by decide +kernel
theorem j5_ : kd3.left = -1 := by decide +kernel
theorem ja3 : kd3.lasts = kd3.bs.length := by decide +kernel
theorem j04 : kd3.room = 900 := by decide +kernel
theorem jd3 : zI r5 := ⟨by decide, by decide, by decide, fun _ h => by (cases h), by decide, fun _ h => by (cases h)⟩
theorem TM : qM r5 ∧ Has kd1 [r5] := by
 rcases (Has.new 900).force r5 (by decide) jd3 with ⟨_, h2, h3⟩ | ⟨h1, _⟩
 ·exact ⟨h2, h3⟩
 ·exact absurd OW h1
theorem YW : Has kd3 [r5] := ⟨by rw [jd6]; exact TM.2.bs, ja3, j5_⟩
theorem Y8 : ∀ r ∈ [r5], qM r := fun r hr => by
 obtain rfl := List.mem_singleton.1 hr
 exact TM.1
theorem PM (w : World) (k i : Int) : Lies w ⟨k, i, 0, [], [], ⟨0, []⟩, 0, 0, []⟩ none 0 none 0 none 0 none 0 := ⟨Kd.C_nil _ _, Nat.le_refl _, Kd.C_nil _ _, Nat.le_refl _, Kd.C_nil _ _, Nat.le_refl _, Kd.C_nil _ _, Nat.le_refl _⟩
theorem One.open {w0 w w' : World} {b : Nat} {row : Option Nat} {d : DM} {e : Ending} (h : One w0 w b row d) (hp : ja7 w b row d e w') (hE : uB d = 0) :
  ∃ row' g v, One w0 w' b row' (xU d) ∧ e = .returned (.tuple #[.pointer (some ⟨g, 0, none⟩), v, .int .u16 0]) ∧ Lg w' g b ∧ RRs w' w.heap.size v (vV (lU d.bs)) ∧ Kb b row w w' ∧ w0.heap.size ≤ g := by
 obtain ⟨row', h1, h2, h3, ⟨_, g, v, he, hg, hl, hr⟩ | ⟨hne, _⟩⟩ := hp
 ·exact ⟨row', g, v, h.step h1 h2 h3, he, hl, hr, h3, Nat.le_trans h.bel.size hg⟩
 ·exact absurd hE hne
theorem One.dpk {w0 w w' : World} {b : Nat} {row : Option Nat} {d d' : DM} {v : Value} {e : Ending} (h : One w0 w b row d) (hp : DP v w b row d' e w') : e = .returned v ∧ Kb b row w w' ∧ ∃ row', One w0 w' b row' d' := by
 obtain ⟨he, row', h1, h2, h3⟩ := hp
 exact ⟨he, h3, row', h.step h1 h2 h3⟩
attribute [-go_sem] Instr.build Instr.storeAt
attribute [local go_sem] YM
set_option maxRecDepth 20000 in
set_option maxHeartbeats 8000000 in
theorem NU (w : World) : Calls Tryd.prog 37 #[] w fun e w' => e = .returned (.bool true) ∧ Below w.heap.size w w' := by
 have hopn := (Has.new 900).opened (fun r hr => by cases hr)
 go_enter Tryd.func37, Tryd.ntmps37
 go_wp2_with fail
 go_at_call 38
 refine (jb8 900 w (by omega)).mono ?_
 rintro e w1 ⟨rfl, hd1, hb1⟩
 have H1 := iC.mk (One.new (Below.refl _ _) hd1 hb1)
 obtain ⟨b, hb⟩ : ∃ b, b = w.heap.size := ⟨_, rfl⟩
 rw [← hb] at H1 ⊢
 clear hd1 hb1 hb
 have hcall := open_any H1.out.dd (by show ((0 : Nat) : Int) ≤ 1000000; omega)
 go_wp2_with fail
 go_at_call 39
 refine hcall.mono ?_
 intro e w2 hp
 obtain ⟨row2, g, v2, h2, rfl, hg2, hr2, hk2, _⟩ := H1.out.open hp hopn.1
 rw [hopn.2] at h2
 have H2 := iC.mk h2
 have HG2 := iC.mk hg2
 obtain ⟨A2, c2, rfl⟩ := Kd.R_slice hr2
 clear hcall hp h2 hg2 hr2 hk2 hopn
 have hcall := JV H2.out.dd HG2.out (PM w2 3 5)
 rw [show (⟨3, 5, 0, [], [], ⟨0, []⟩, 0, 0, []⟩ : SRec) = r5 from rfl, OW, show nR (DM.new 900) r5 = kd1 from rfl] at hcall
 simp only [r5, List.length_nil] at hcall
 go_wp2_with fail
 go_at_call 41
 refine hcall.mono ?_
 intro e w3 hp
 obtain ⟨rfl, hk3, row3, h3⟩ := H2.out.dpk hp
 have H3 := iC.mk h3
 have HG3 := iC.mk (HG2.out.kb H2.out.dd hk3)
 clear hcall hp h3 hk3
 have hcall := JM H3.out.dd HG3.out (PM w3 3 6)
 rw [show (⟨3, 6, 0, [], [], ⟨0, []⟩, 0, 0, []⟩ : SRec) = r6 from rfl, ZP, show mG kd1 r6 = kd2 from rfl] at hcall
 simp only [r6, List.length_nil] at hcall
 go_wp2_with fail
 go_at_call 45
 refine hcall.mono ?_
 intro e w4 hp
 obtain ⟨rfl, hk4, row4, h4⟩ := H3.out.dpk hp
 have H4 := iC.mk h4
 clear hcall hp h4 hk4
 have hcall := TC 0 H4.out.dd
 rw [show kd2.crash 0 = kd3 from rfl] at hcall
 go_wp2_with fail
 go_at_call 43
 refine hcall.mono ?_
 intro e w5 hp
 obtain ⟨rfl, hk5, row5, h5⟩ := H4.out.dpk hp
 have H5 := iC.mk h5
 clear hcall hp h5 hk5
 have hopn := YW.opened Y8
 have hcall := open_any H5.out.dd (by have := H5.out.dd.2.fit; have hr := j04; omega)
 go_wp2_with fail
 go_at_call 39
 refine hcall.mono ?_
 intro e w6 hp
 obtain ⟨row6, g6, v6, h6, rfl, hg6, hr6, hk6, _⟩ := H5.out.open hp hopn.1
 rw [YW.bs, Y0 _ Y8] at hr6
 have H6 := iC.mk h6
 obtain ⟨A6, c6, rfl, hc6, C6⟩ := Kd.R_reads hr6
 obtain ⟨ad, cc, rfl, _, hK, hcc⟩ := Kd.C_get C6 default 0 (by omega) (by simp)
 obtain ⟨_, _, _, _, _, _, _, _, rfl, _⟩ := NR hK
 have hid := hcc 1 _ rfl
 rw [show (0 : Int).toNat * kR.sz + 1 = 0 + 1 from rfl, oU _ _ 1 (by omega), Addr.add_zero'] at hid
 have hid : w6.cell? ⟨ad.block, ad.off + 1, none⟩ = some (.int .u32 5) := hid
 clear hcall hp h6 hg6 hr6 hk6 hopn C6 hK hcc
 simp only [List.length_singleton]
 go_wp2
 go_ret
 exact ⟨rfl, H6.out.bel⟩
end Go.Proofs.YtgfkgppomaapiaaDoor.K
end

section
namespace Go.Proofs.YtgfkgppomaapiaaDoor.K
open RowKit YtgfkgppomaapiaaDoorW.PrintWords YtgfkgppomaapiaaDoorW.PrintLast YtgfkgppomaapiaaDoorW.PrintMore My
structure OpW (o : SOp) : Prop where
 k : 0 ≤ o.k ∧ o.k < 256
 r : RecW o.r
 wh : 0 ≤ o.wh ∧ o.wh < 256
 n : -9223372036854775808 ≤ o.n ∧ o.n ≤ 9223372036854775807
theorem XI (x : Int) : 0 ≤ IntKind.u16.wrap x ∧ IntKind.u16.wrap x < 65536 := by
 rw [show IntKind.u16.wrap x = x % 65536 by simp [IntKind.wrap, IntKind.bits, IntKind.signed]]
 omega
theorem xM {o : SOp} (h : OpW o) : jZ (xX o) = true :=
 QS _ _ _ _ _ _ _ _ _ h.wh.1 (fun v hv => by cases hv) (XI _) ⟨by decide, by decide⟩ (fun e he => (h.r.n9 e he).1.1)
theorem LC {o : SOp} (h : OpW o) : zI (xX o) :=
 ZG _ _ _ _ _ _ _ _ _ h.r.ok.id h.r.ok.at_ h.r.n4 h.r.n9
theorem One.grown {w0 w w' : World} {b : Nat} {row : Option Nat} {d : DM} {s n : Nat} {v : Value} {xs : List Value} (h : One w0 w b row d) (hv : w.ownsRow w0.heap.size 30 s v n xs) (hg : w.grownBy w' v.ownBlock) : One w0 w' b row d := by
 have hne : ∀ k, v.ownBlock = some k → w0.heap.size ≤ k ∧ k ≠ b ∧ row ≠ some k := fun k e => by
  obtain ⟨cs, hc⟩ := mJ hv k e
  refine ⟨own_base hv k e, fun e2 => ?_, fun e2 => ?_⟩
  ·subst e2
   obtain ⟨cs', hc'⟩ := h.dd.blk
   rw [hc] at hc'
   injection hc' with hc'
   injection hc' with _ hc'
   exact absurd hc' (by decide)
  ·obtain ⟨cs', hc'⟩ := h.dd.rowt k e2
   rw [hc] at hc'
   injection hc' with hc'
   injection hc' with _ hc'
   exact absurd hc' (by decide)
 obtain ⟨⟨ao, cap, lr, hD, hR⟩, hok⟩ := h.dd
 refine ⟨⟨⟨ao, cap, lr, (hg.block b hD.lt (fun e => (hne b e.symm).2.1 rfl)).trans hD, ?_⟩, hok⟩, h.blk, h.row, ?_⟩
 ·rcases hR with h1 | ⟨g, cur, e1, e2, h3, h4, h5⟩
  ·exact .inl h1
  ·exact .inr ⟨g, cur, e1, e2, h3, (hg.block g (jV h4) (fun e => (hne g e.symm).2.2 e2)).trans h4, h5⟩
 ·exact ⟨hg.os.trans h.bel.os, hg.tape.trans h.bel.tape, hg.output.trans h.bel.output, Nat.le_trans h.bel.size hg.size, fun k hk => (hg.block k (Nat.lt_of_lt_of_le hk h.bel.size) (fun e => by have := (hne k e.symm).1; omega)).trans (h.bel.block k hk)⟩
theorem Lg.grown {w w' : World} {g b b0 s n : Nat} {v : Value} {xs : List Value} (h : Lg w g b) (hv : w.ownsRow b0 30 s v n xs) (hg : w.grownBy w' v.ownBlock) : Lg w' g b :=
 (hg.block g (jV h) (fun e => by
  obtain ⟨cs', hc'⟩ := mJ hv g e.symm
  rw [show w.heap[g]? = _ from h] at hc'
  injection hc' with hc'
  injection hc' with _ hc'
  exact absurd hc' (by decide))).trans h
attribute [-go_sem] Instr.build Instr.storeAt Instr.loadAt
end Go.Proofs.YtgfkgppomaapiaaDoor.K
end

section
namespace Go.Proofs.YtgfkgppomaapiaaDoor.K
open Go Go.RowKit Go.Deep Go.ChangeShapes Go.WideShapes Go.ChangeAt Go.Proofs.YtgfkgppomaapiaaDoorW.PrintWords Go.Proofs.YtgfkgppomaapiaaDoor.My
def wtW (o : SOp) : Nat := wtR o.r
theorem Y6 : Came kOp 78 OpW wtW := by
 intro H enc w fuel cs x h
 obtain ⟨xs, n, rfl, rfl, hl, hlen, hf⟩ := DataW.trod_struct Tryd.underlying78 h
 match xs, hlen with
 | [y0, y1, y2, y3], _ =>
  rw [show Tryd.prog.cellsOf 78 = 13 from by kernel_rfl] at hl
  obtain ⟨a0, p0, o0, b0⟩ := lT Tryd.underlying5 enc w n _ y0 (hf 0 _ rfl)
  obtain ⟨r, hr, o1, b1⟩ := OE enc (hf 1 _ rfl)
  obtain ⟨a2, p2, o2, b2⟩ := lT Tryd.underlying5 enc w n _ y2 (hf 2 _ rfl)
  obtain ⟨a3, p3, o3, b3⟩ := lT Tryd.underlying3 enc w n _ y3 (hf 3 _ rfl)
  obtain ⟨A3, c3, A4, c4, A6, c6, A9, c9, p1, g3, l3, g4, l4, g6, l6, g9, l9⟩ := hr
  have p0 : List.take (Tryd.prog.cellsOf 5) (List.drop 0 cs) = [.int .u8 a0] := p0
  rw [show Tryd.prog.cellsOf 5 = 1 from by kernel_rfl] at p0
  have p1 : List.take (Tryd.prog.cellsOf 30) (List.drop 1 cs) = [.int .u8 r.f0, .int .u32 r.f1, .int .u32 r.f2, .slice A3 r.f3.length c3, .slice A4 r.f4.length c4, .int .u32 r.f5.f0, .slice A6 r.f5.f1.length c6, .int .i64 r.f6, .int .i64 r.f7, .slice A9 r.f8.length c9] := p1
  rw [show Tryd.prog.cellsOf 30 = 10 from by kernel_rfl] at p1
  have p2 : List.take (Tryd.prog.cellsOf 5) (List.drop 11 cs) = [.int .u8 a2] := p2
  rw [show Tryd.prog.cellsOf 5 = 1 from by kernel_rfl] at p2
  have p3 : List.take (Tryd.prog.cellsOf 3) (List.drop 12 cs) = [.int .i64 a3] := p3
  rw [show Tryd.prog.cellsOf 3 = 1 from by kernel_rfl] at p3
  obtain ⟨z0, t0, rfl, ht0⟩ := nG hl
  obtain ⟨z1, t1, rfl, ht1⟩ := nG ht0
  obtain ⟨z2, t2, rfl, ht2⟩ := nG ht1
  obtain ⟨z3, z4, z5, z6, z7, z8, z9, z10, z11, z12, rfl⟩ := PE ht2
  have s0 : [z0] = [.int .u8 a0] := p0
  have s1 : [z1, z2, z3, z4, z5, z6, z7, z8, z9, z10] = _ := p1
  have s2 : [z11] = [.int .u8 a2] := p2
  have s3 : [z12] = [.int .i64 a3] := p3
  simp only [List.cons.injEq, and_true] at s0 s1 s2 s3
  obtain ⟨rfl, rfl, rfl, rfl, rfl, rfl, rfl, rfl, rfl, rfl⟩ := s1
  subst s0; subst s2; subst s3
  refine ⟨⟨a0, r, a2, a3⟩, ⟨[.int .u8 a0], _, rfl, rfl, _, _, rfl, kR_K (⟨g3, l3, g4, l4, g6, l6, g9, l9⟩ : Lies w r A3 c3 A4 c4 A6 c6 A9 c9), [.int .u8 a2], [.int .i64 a3], rfl, rfl, rfl⟩, ⟨wf_u8 o0, o1, wf_u8 o2, wf_i64 o3⟩, ?_⟩
  show wtR r ≤ _
  simp only [Rows.uptoBulk, Rows.uptoBulkAll, List.map_cons, List.map_nil]
  omega
theorem came_wops : Came (Kd.slice 78 kOp) 66 (fun l => ∀ v ∈ l, OpW v) (fun l => pY wtW l + 1) :=
 oP Tryd.underlying66 (by kernel_rfl) Y6
end Go.Proofs.YtgfkgppomaapiaaDoor.K
end

section
namespace Go.Proofs.YtgfkgppomaapiaaDoor.My
theorem ZY (b b' : List UInt8) (h : b.take 3 = b'.take 3) (h3 : 3 ≤ b.length) (h3' : 3 ≤ b'.length) : num3 b = num3 b' := by
 have e : ∀ i, i < 3 → b.getD i 0 = b'.getD i 0 := fun i hi => by
  have := congrArg (fun l => l.getD i 0) h
  simp only [List.getD_eq_getElem?_getD, List.getElem?_take, if_pos hi] at this
  simpa [List.getD_eq_getElem?_getD] using this
 unfold num3
 rw [e 0 (by omega), e 1 (by omega), e 2 (by omega)]
theorem UR (x : List UInt8) (h : x.length ≤ 60000) : num3 (lK x) = x.length := by
 have := MG x.length (by omega) (x ++ pF (headB x.length ++ x))
 rw [← List.append_assoc] at this
 exact this
theorem XQ (x : List UInt8) (m : Nat) (h : x.length ≤ 60000) (hm : m < x.length + 7) : lL ((lK x).take m) = none := by
 have hl : ((lK x).take m).length = m := by rw [List.length_take, lG]; omega
 unfold lL
 by_cases h7 : m < 7
 ·rw [if_pos (by omega)]
 ·have hn : num3 ((lK x).take m) = x.length := by
   rw [← UR x h]
   exact ZY _ _ (by rw [List.take_take, Nat.min_eq_left (by omega)]) (by omega) (by rw [lG]; omega)
  rw [if_neg (by omega), if_pos (by omega)]
theorem XX (l : List (List UInt8)) (h : ∀ x ∈ l, x.length ≤ 60000) : ∀ m, ∃ j, j ≤ l.length ∧ lU ((uQ l).take m) = l.take j ∧ ((uQ l).length ≤ m → j = l.length) := by
 induction l with
 | nil => exact fun m => ⟨0, Nat.le_refl _, by simp [uQ]; rfl, fun _ => rfl⟩
 | cons x l ih =>
  intro m
  have hx := h x List.mem_cons_self
  by_cases hm : m < x.length + 7
  ·refine ⟨0, Nat.zero_le _, ?_, fun hle => ?_⟩
   ·rw [nJ, List.take_append_of_le_length (by rw [lG]; omega), kX (XQ x m hx hm)]; rfl
   ·rw [nJ, List.length_append, lG] at hle
    omega
  ·obtain ⟨j, h1, h2, h3⟩ := ih (fun y hy => h y (List.mem_cons_of_mem _ hy)) (m - (x.length + 7))
   refine ⟨j + 1, by rw [List.length_cons]; omega, ?_, fun hle => ?_⟩
   ·rw [nJ, List.take_append, List.take_of_length_le (by rw [lG]; omega), lG, oV (I7 x _ hx), List.drop_append_of_le_length (by rw [lG]; omega), List.drop_of_length_le (by rw [lG]; omega), List.nil_append, h2]
    rfl
   ·rw [nJ, List.length_append, lG] at hle
    rw [List.length_cons, h3 (by omega)]
end Go.Proofs.YtgfkgppomaapiaaDoor.My
end

section
namespace Go.Proofs.YtgfkgppomaapiaaDoor.K
open RowKit YtgfkgppomaapiaaDoorW.PrintWords YtgfkgppomaapiaaDoorW.PrintLast YtgfkgppomaapiaaDoorW.PrintMore My
structure Lay (d : DM) (rs : List SRec) (n : Nat) : Prop where
 bs : d.bs = logB rs
 las : d.lasts = (logB (rs.take n)).length
 le : n ≤ rs.length
 live : d.left = -1
theorem Has.lay {d : DM} {rs : List SRec} (h : Has d rs) : Lay d rs rs.length := ⟨h.bs, by rw [List.take_length, h.las, h.bs], Nat.le_refl _, h.live⟩
theorem Lay.lazy {d : DM} {rs : List SRec} {n : Nat} (hd : Lay d rs n) (r : SRec) (hs : jZ r = true) (hk : zI r) :
  (mZ d r = 0 ∧ qM r ∧ Lay (mG d r) (rs ++ [r]) n) ∨ (mZ d r ≠ 0 ∧ mG d r = d) := by
 by_cases he : (encR r).2 = 0
 ·have hen : encR r = (nums (recE r), 0) := by
   rcases oQ r with h | h | h
   ·rw [h] at he; cases he
   ·rw [h] at he; cases he
   ·exact h
  have hLE : mZ d r = d.appE (lK (recE r)) := by unfold mZ; rw [if_pos he]
  have hLD : mG d r = d.app (lK (recE r)) := by unfold mG; rw [if_pos he]
  by_cases hf : d.full (lK (recE r))
  ·obtain ⟨h1, h2⟩ := PK hf hd.live
   exact .inr ⟨by rw [hLE, h2]; decide, by rw [hLD, h1]⟩
  ·obtain ⟨h1, h2⟩ := P7 hf hd.live
   refine .inl ⟨by rw [hLE, h2], ⟨hs, hk, yO hen⟩, ?_⟩
   rw [hLD, h1]
   exact ⟨by rw [MB, ← hd.bs], by rw [List.take_append_of_le_length hd.le]; exact hd.las, by rw [List.length_append]; exact Nat.le_trans hd.le (Nat.le_add_right _ _), hd.live⟩
 ·have hLE : mZ d r = (encR r).2 := by unfold mZ; rw [if_neg he]
  have hLD : mG d r = d := by unfold mG; rw [if_neg he]
  exact .inr ⟨by rw [hLE]; exact he, hLD⟩
theorem WO (a b : List SRec) : logB (a ++ b) = logB a ++ logB b := by unfold logB uQ; simp
theorem ZQ {α : Type} (a b : List α) (m : Nat) (h : a.length ≤ m) : (a ++ b).take m = a ++ b.take (m - a.length) := by
 rw [List.take_append]
 rw [List.take_of_length_le h]
theorem PS (rs : List SRec) (n m : Nat) (h : ∀ r ∈ rs, qM r) (hn : n ≤ rs.length) (hm : (logB (rs.take n)).length ≤ m) : ∃ j, n ≤ j ∧ j ≤ rs.length ∧ vV (lU ((logB rs).take m)) = rs.take j := by
 have hsp : logB rs = logB (rs.take n) ++ logB (rs.drop n) := by rw [← WO, List.take_append_drop]
 have hg1 : ∀ r ∈ rs.take n, qM r := fun r hr => h r (List.mem_of_mem_take hr)
 have hg2 : ∀ r ∈ rs.drop n, qM r := fun r hr => h r (List.mem_of_mem_drop hr)
 obtain ⟨j, hj, hsc, _⟩ := XX ((rs.drop n).map recE) (fun x hx => by obtain ⟨r, hr, rfl⟩ := List.mem_map.1 hx; exact (hg2 r hr).len) (m - (logB (rs.take n)).length)
 rw [List.length_map, List.length_drop] at hj
 refine ⟨n + j, Nat.le_add_right _ _, by omega, ?_⟩
 rw [hsp, ZQ _ _ _ hm]
 have h1 := LX ((rs.take n).map recE) ((logB (rs.drop n)).take (m - (logB (rs.take n)).length)) (fun x hx => by obtain ⟨r, hr, rfl⟩ := List.mem_map.1 hx; exact (hg1 r hr).len)
 rw [show uQ ((rs.take n).map recE) = logB (rs.take n) from rfl] at h1
 rw [h1]
 rw [show logB (rs.drop n) = uQ ((rs.drop n).map recE) from rfl, hsc, ← List.map_take, ← List.map_append]
 have h2 : rs.take n ++ (rs.drop n).take j = rs.take (n + j) := by rw [List.take_add]
 rw [h2]
 have hg3 : ∀ r ∈ rs.take (n + j), qM r := fun r hr => h r (List.mem_of_mem_take hr)
 unfold vV
 have := IX (rs.take (n + j)) [] hg3
 rw [List.append_nil, show okL [] = [] from rfl, List.append_nil] at this
 rw [this, MI _ hg3]
theorem Lay.crash {d : DM} {rs : List SRec} {n : Nat} (hd : Lay d rs n) (keep : Int) (h : ∀ r ∈ rs, qM r) :
  ∃ j, n ≤ j ∧ j ≤ rs.length ∧ uB (d.crash keep) = 0 ∧ vV (lU (d.crash keep).bs) = rs.take j := by
 obtain ⟨j, h1, h2, h3⟩ := PS rs n (d.kept keep) h hd.le (by unfold DM.kept; rw [← hd.las]; omega)
 refine ⟨j, h1, h2, (MQ (d := d.crash keep) rfl).1, ?_⟩
 rw [show (d.crash keep).bs = d.bs.take (d.kept keep) from rfl, hd.bs]
 exact h3
theorem qK (d : DM) (r : SRec) : (mG d r).room = d.room := by
 unfold mG
 split
 ·unfold DM.app
  (repeat' split) <;> rfl
 ·rfl
theorem QT (d : DM) (r : SRec) : (nR d r).room = d.room := by
 unfold nR
 split
 ·split
  ·unfold DM.sync
   split
   ·exact qK d r
   ·exact qK d r
  ·unfold DM.cut
   (repeat' split) <;> (unfold DM.sync; (repeat' split) <;> exact qK d r)
 ·exact qK d r
theorem PR (A : Option Addr) (n c hi : Nat) (hiI : Int) (e1 : hiI = hi) (h1 : hi ≤ n) (hc : n ≤ c) :
  ∀ W : World, (Instr.slice 71 (.slice A n c) none (some (.int .i64 hiI)) none).run Tryd.prog W = .ok (.slice A hi c) W := by
 subst e1
 intro W
 obtain ⟨i, hi0, hsz⟩ := Option.map_eq_some_iff.1 (show (Tryd.prog.info? 30).map (·.size) = some 10 from by kernel_rfl)
 have hel : Tryd.prog.elem 71 = 30 := by simp [Program.elem, Tryd.underlying71]
 have hu : Tryd.prog.underlying 71 = some (.slice (Tryd.prog.elem 71)) := by rw [hel]; exact Tryd.underlying71
 rw [run_slice_h W 71 A n c hu .i64 (hi : Int) (Int.natCast_nonneg _) (by omega), hel]
 simp [sizeOf, typeInfo, hi0, hsz, sliced, Result.andThen]
 intro _
 cases A with
 | none => rfl
 | some a => simp [Addr.add]
structure Lq (w0 w : World) (b g : Nat) (P : DM → Prop) (rs : List SRec) (v : Value) : Prop where
 one : ∃ row d, One w0 w b row d ∧ P d
 lg : Lg w g b
 good : ∀ r ∈ rs, qM r
 rr : RRs w w0.heap.size v rs
theorem Lq.below {w0 w w' : World} {b g : Nat} {P : DM → Prop} {rs : List SRec} {v : Value} (h : Lq w0 w b g P rs v) (hb : Below w.heap.size w w') : Lq w0 w' b g P rs v := by
 obtain ⟨row, d, h1, h2⟩ := h.one
 exact ⟨⟨row, d, h1.below hb, h2⟩, h.lg.below hb, h.good, h.rr.below hb⟩
theorem Lq.append {w0 w w' : World} {b g : Nat} {P Q : DM → Prop} {rs : List SRec} {r : SRec} {v v' : Value} (h : Lq w0 w b g P rs v) (hPQ : ∀ d, P d → Q d) (hr : qM r) (hg : w.grownBy w' v.ownBlock) (ho : RRs w' w0.heap.size v' (rs ++ [r])) : Lq w0 w' b g Q (rs ++ [r]) v' := by
 obtain ⟨row, d, h1, h2⟩ := h.one
 obtain ⟨_, inner, hown, _⟩ := h.rr
 exact ⟨⟨row, d, h1.grown hown hg, hPQ d h2⟩, h.lg.grown hown hg, fun x hx => (List.mem_append.1 hx).elim (h.good x) (fun hx => by rw [List.mem_singleton.1 hx]; exact hr), ho⟩
end Go.Proofs.YtgfkgppomaapiaaDoor.K
end

section
namespace Go.Proofs.YtgfkgppomaapiaaDoor.K
open RowKit YtgfkgppomaapiaaDoorW.PrintWords YtgfkgppomaapiaaDoorW.PrintLast YtgfkgppomaapiaaDoorW.PrintMore My
theorem YV {w0 : World} {A : Option Addr} {n : Nat} {l : List SOp} (H : kOp.C w0 A n l) (k : Nat) (hk : k < n) {ad : Addr} (hA : A = some ad) (w' : World) (hb : Below w0.heap.size w0 w') :
  ∃ A3 a3 A4 a4 A6 a6 A9 a9, Lies w' (l.getD k default).r A3 a3 A4 a4 A6 a6 A9 a9 ∧ (True → (Instr.loadAt 78 (.pointer (some (ad.add (k * 13))))).run Tryd.prog w' = .ok (.agg #[.int .u8 (l.getD k default).k, .int .u8 (l.getD k default).r.f0, .int .u32 (l.getD k default).r.f1, .int .u32 (l.getD k default).r.f2, .slice A3 (l.getD k default).r.f3.length a3, .slice A4 (l.getD k default).r.f4.length a4, .int .u32 (l.getD k default).r.f5.f0, .slice A6 (l.getD k default).r.f5.f1.length a6, .int .i64 (l.getD k default).r.f6, .int .i64 (l.getD k default).r.f7, .slice A9 (l.getD k default).r.f8.length a9, .int .u8 (l.getD k default).wh, .int .i64 (l.getD k default).n]) w') := by
 obtain ⟨ad', B3, b3, B4, b4, B6, b6, B9, b9, he, h1, h2, _⟩ := jc6 (Kd.C_below H hb) k hk
 rw [hA] at he
 injection he with he
 subst he
 exact ⟨B3, b3, B4, b4, B6, b6, B9, b9, h1, h2⟩
theorem TL {w0 : World} {A : Option Addr} {n : Nat} {l : List SOp} (H : kOp.C w0 A n l) (hk : 0 < n) : ∃ ad, A = some ad := by
 obtain ⟨ad, _, h, _⟩ := H.2.2 hk |> fun ⟨ad, h, _⟩ => (⟨ad, 0, h, trivial⟩ : ∃ ad : Addr, ∃ _ : Nat, A = some ad ∧ True)
 exact ⟨ad, h⟩
attribute [-go_sem] Instr.build Instr.storeAt Instr.loadAt
set_option maxRecDepth 20000 in
set_option maxHeartbeats 16000000 in
theorem walFronts_walk (A : Option Addr) (c : Nat) (l : List SOp) (A' : Option Addr) (c' : Nat) (m : List SOp) (keep : Int) (w0 : World) (h : kOp.C w0 A l.length l) (hc : l.length ≤ c) (hok : ∀ o ∈ l, OpW o) (h' : kOp.C w0 A' m.length m) (hc' : m.length ≤ c') (hok' : ∀ o ∈ m, OpW o) (_ : -9223372036854775808 ≤ keep ∧ keep ≤ 9223372036854775807) :
  Calls Tryd.prog 13 #[.slice A l.length c, .slice A' m.length c', .int .i64 keep] w0 fun e w' => e = .returned (.bool true) ∧ Below w0.heap.size w0 w' := by
 have hhe := U7 A c l w0 h
 have hhe' := fun w hb => U7 A' c' m w (Kd.C_below h' hb)
 have hm := kW h
 have hm' := kW h'
 have H := iC.mk h
 have H' := iC.mk h'
 have HOK := iC.mk hok
 have HOK' := iC.mk hok'
 clear h hok h' hok'
 go_enter Tryd.func13, Tryd.ntmps13
 go_wp2_with fail
 go_at_call 36
 refine hhe.mono ?_
 rintro e w1 ⟨B, rfl, h40, hb1⟩
 have HB1 := iC.mk hb1
 have hhe' := hhe' w1 hb1
 clear hhe hb1
 cases B with
 | true =>
  clear hhe'
  go_wp2_with fail
  go_at_call 37
  refine (NU _).mono ?_
  rintro e w2 ⟨rfl, hb2⟩
  go_wp2
  go_ret
  exact ⟨rfl, iK HB1.out hb2⟩
 | false =>
  have hl40 := h40 rfl
  clear h40
  go_wp2_with fail
  go_at_call 36
  refine hhe'.mono ?_
  rintro e w1' ⟨B, rfl, h40, hb1⟩
  have HB1' := iC.mk (iK HB1.out hb1)
  clear hhe' hb1 HB1
  cases B with
  | true =>
   go_wp2_with fail
   go_at_call 37
   refine (NU _).mono ?_
   rintro e w2 ⟨rfl, hb2⟩
   go_wp2
   go_ret
   exact ⟨rfl, iK HB1'.out hb2⟩
  | false =>
   have hm40 := h40 rfl
   clear h40
   go_wp2_with fail
   go_at_call 37
   refine (NU _).mono ?_
   rintro e w2 ⟨rfl, hb2⟩
   have HB2 := iC.mk (iK HB1'.out hb2)
   clear hb2 HB1'
   go_wp2_with fail
   go_at_call 38
   refine (jb8 524288 w2 (by omega)).mono ?_
   rintro e w3 ⟨rfl, hd3, hb3⟩
   have H3 := iC.mk (One.new HB2.out hd3 hb3)
   obtain ⟨b, hb⟩ : ∃ b, b = w2.heap.size := ⟨_, rfl⟩
   rw [← hb] at H3 ⊢
   clear hd3 hb3 hb HB2
   have hopn := (Has.new 524288).opened (fun r hr => by cases hr)
   have hcall := open_any H3.out.dd (by show ((0 : Nat) : Int) ≤ 1000000; omega)
   go_wp2_with fail
   go_at_call 39
   refine hcall.mono ?_
   intro e w4 hp
   obtain ⟨row4, g, v4, h4, rfl, hg4, hr4, hk4, _⟩ := H3.out.open hp hopn.1
   rw [hopn.2] at h4
   have HLP := iC.mk (show Lq w0 w4 b g (fun d => Has d [] ∧ d.room = 524288) [] (.slice none 0 0) from ⟨⟨row4, _, h4, Has.new 524288, rfl⟩, hg4, fun r hr => (by cases hr), Kd.R_nil _ _ _ _ _⟩)
   clear hcall hp h4 hg4 hr4 hk4 hopn H3
   go_wp2
   go_loopw [11, 12] (fun a i wr => ∃ (k : Nat) (rs : List SRec), k ≤ l.length ∧ i = .int .i64 k ∧ iC (Lq w0 wr b g (fun d => Has d rs ∧ d.room = 524288) rs a) ∧ iC (rs.length ≤ k)) (fun _ i _ => l.length - (intOf i).toNat)
   case atStart => exact ⟨0, [], Nat.zero_le _, rfl, HLP, ⟨Nat.le_refl _⟩⟩
   case round =>
    obtain ⟨k, rs, hk, rfl, HL, HN⟩ := hrel
    clear HLP
    obtain ⟨Aa, ca, rfl⟩ := Kd.R_slice HL.out.rr
    obtain ⟨wr0, rfl⟩ : ∃ x : World, x = wr := ⟨_, rfl⟩
    by_cases hlt : k < l.length
    ·have HLT := iC.mk hlt
     obtain ⟨row, d, h1, h2⟩ := HL.out.one
     have HO := iC.mk h1
     have HD := iC.mk h2
     obtain ⟨ad, rfl⟩ := TL H.out (by omega)
     have hgen := YV H.out k hlt rfl
     have hmem : l.getD k default ∈ l := by rw [List.getD_eq_getElem?_getD, List.getElem?_eq_getElem HLT.out]; exact List.getElem_mem HLT.out
     have HOP := iC.mk (HOK.out _ hmem)
     have hk1 : (k : Int) < (l.length : Int) := by omega
     obtain ⟨o, ho⟩ : ∃ o, o = l.getD k default := ⟨_, rfl⟩
     rw [← ho] at HOP hgen
     obtain ⟨A3, a3, A4, a4, A6, a6, A9, a9, hLi, hld⟩ := hgen wr0 HO.out.bel
     have HGEN := iC.mk hgen
     clear hgen hmem ho h1 h2 hlt
     have hcall := IW hLi HOP.out.n
     have hsnd := xM HOP.out
     have hsok := LC HOP.out
     obtain ⟨rr, hrr⟩ : ∃ rr, rr = xX o := ⟨_, rfl⟩
     rw [← hrr] at hcall hsnd hsok
     have HRR := iC.mk hrr
     have hplain := HD.out.1.force rr hsnd hsok
     obtain ⟨E, hE⟩ : ∃ E, qF d rr = E := ⟨_, rfl⟩
     obtain ⟨D, hDD⟩ : ∃ D, nR d rr = D := ⟨_, rfl⟩
     have hFR : D.room = 524288 := by rw [← hDD, QT]; exact HD.out.2
     rw [hE, hDD] at hplain
     have HPL := iC.mk hplain
     have HFR := iC.mk hFR
     have HE := iC.mk hE
     have HDD := iC.mk hDD
     clear hsnd hsok hrr hLi hE hDD hFR hplain
     go_wp2_with fail
     go_at_call 42
     refine hcall.mono ?_
     rintro e wb ⟨B3, b3, B4, b4, B6, b6, B9, b9, rfl, hOw, hbb⟩
     have HOb := iC.mk (HO.out.below hbb)
     have HLb := iC.mk (HL.out.below hbb)
     have hcall := JV HOb.out.dd HLb.out.lg hOw.lies
     rw [HE.out, HDD.out] at hcall
     clear hld hbb hOw HO HL
     go_wp2_with fail
     go_at_call 41
     refine hcall.mono ?_
     intro e wc hp
     obtain ⟨rfl, hkc, rowc, hOc⟩ := HOb.out.dpk hp
     have hGc := HLb.out.lg.kb HOb.out.dd hkc
     have hRc := HLb.out.rr.kb HOb.out.dd hkc
     rcases HPL.out with ⟨rfl, hgr, hhas⟩ | ⟨hE0, hDe⟩
     ·have HGR := iC.mk hgr
      have HLc := iC.mk (show Lq w0 wc b g (fun d => Has d (rs ++ [rr]) ∧ d.room = 524288) rs (.slice Aa rs.length ca) from ⟨⟨rowc, D, hOc, ⟨hhas, HFR.out⟩⟩, hGc, HLb.out.good, hRc⟩)
      have hbl := hOc.bel
      clear hcall hp hOc hkc hGc hRc HOb HLb hgr hhas HPL HFR
      go_upto_region 14 with fail
      obtain ⟨C3, c3, C4, c4, C6, c6, C9, c9, hLc, hldc⟩ := HGEN.out wc hbl
      have HBL := iC.mk hbl
      have hcall := IW hLc HOP.out.n
      rw [← HRR.out] at hcall
      clear hLc hbl
      go_wp2_with fail
      go_at_call 42
      refine hcall.mono ?_
      rintro e wd ⟨D3, d3, D4, d4, D6, d6, D9, d9, rfl, hOw, hbd⟩
      have HLd := iC.mk (HLc.out.below hbd)
      have HOw := iC.mk (hOw.lower HBL.out.size)
      have HBd := iC.mk (HBL.out.trans (hbd.mono HBL.out.size))
      clear hcall hOw hbd hldc HLc
      go_wp2_with (at_builtin; go_loud (refine Kd.R_append kR (w0 := wd) w0.heap.size rfl (.tmp 58) (.tmp 64) 71 30 (.agg #[.int .u8 0, .int .u32 0, .int .u32 0, .slice none 0 0, .slice none 0 0, .int .u32 0, .slice none 0 0, .int .i64 0, .int .i64 0, .slice none 0 0]) 136 rfl Tryd.underlying71 J4 rfl (by decide) (by omega) (.slice Aa rs.length ca) rs rr [.int .u8 rr.f0, .int .u32 rr.f1, .int .u32 rr.f2, .slice D3 rr.f3.length d3, .slice D4 rr.f4.length d4, .int .u32 rr.f5.f0, .slice D6 rr.f5.f1.length d6, .int .i64 rr.f6, .int .i64 rr.f7, .slice D9 rr.f8.length d9] (fun _ => True) (fun j => some j ≠ (Value.slice Aa rs.length ca).ownBlock) rfl rfl ?aP ?aK ?aF ?aO (Below.refl _ _) ?aB ?aL ?_; (case aP => exact yJ (kR_M HOw.out) HLd.out.rr); (case aK => exact fun _ h => ⟨trivial, h⟩); (case aF => exact fun _ _ => trivial); (case aO => exact HLd.out.rr); (case aB => exact HBd.out.size); (case aL => (have := HN.out; omega)); intro v5 w5 ho hb5 hg5 hat; have HOO := iC.mk ho; have HG5 := iC.mk hg5; clear ho hb5 hg5 hat))
      have HL5 := iC.mk (HLd.out.append (Q := fun d => Has d (rs ++ [rr]) ∧ d.room = 524288) (fun _ h => h) HGR.out HG5.out HOO.out)
      go_roundw
      case rel => exact ⟨k + 1, rs ++ [rr], by omega, by go_num, HL5, ⟨by rw [List.length_append]; exact Nat.succ_le_succ HN.out⟩⟩
      case measure => simp [intOf]; omega
     ·subst hDe
      have HLc := iC.mk (show Lq w0 wc b g (fun d => Has d rs ∧ d.room = 524288) rs (.slice Aa rs.length ca) from ⟨⟨rowc, D, hOc, HD.out⟩, hGc, HLb.out.good, hRc⟩)
      clear hcall hp hOc hkc hGc hRc HOb HLb HPL HFR
      go_wp2
      go_roundw
      case rel => exact ⟨k + 1, rs, by omega, by go_num, HLc, ⟨by have := HN.out; omega⟩⟩
      case measure => simp [intOf]; omega
    ·obtain rfl : k = l.length := by omega
     have hN40 : (rs.length : Int) ≤ 40 := by have := HN.out; omega
     have HL2 := iC.mk (show Lq w0 wr0 b g (fun d => Lay d rs rs.length ∧ d.room = 524288) rs (.slice Aa rs.length ca) from (HL.out.one).elim fun row h => h.elim fun d h => ⟨⟨row, d, h.1, h.2.1.lay, h.2.2⟩, HL.out.lg, HL.out.good, HL.out.rr⟩)
     obtain ⟨n, hn⟩ : ∃ n, n = rs.length := ⟨_, rfl⟩
     have HL2 := iC.mk (show Lq w0 wr0 b g (fun d => Lay d rs n ∧ d.room = 524288) rs (.slice Aa n ca) from by rw [hn]; exact HL2.out)
     have hnI : (n : Int) ≤ 40 := by rw [hn]; exact hN40
     have HNN := iC.mk (show rs.length ≤ n from by rw [hn]; exact Nat.le_refl _)
     clear HL HN hlt hN40
     go_upto_region 16 with fail
     rw [← hn]
     clear hn
     go_wp2
     go_loopw [11, 14] (fun a i wr => ∃ (k : Nat) (rs : List SRec), k ≤ m.length ∧ i = .int .i64 k ∧ iC (Lq w0 wr b g (fun d => Lay d rs n ∧ d.room = 524288) rs a) ∧ iC (rs.length ≤ n + k)) (fun _ i _ => m.length - (intOf i).toNat)
     case atStart => exact ⟨0, rs, Nat.zero_le _, rfl, HL2, HNN⟩
     case round =>
      obtain ⟨k, rs, hk, rfl, HL, HN⟩ := hrel
      clear HL2 HNN
      obtain ⟨Aa, ca, rfl⟩ := Kd.R_slice HL.out.rr
      obtain ⟨wr0, rfl⟩ : ∃ x : World, x = wr := ⟨_, rfl⟩
      by_cases hlt : k < m.length
      ·have HLT := iC.mk hlt
       obtain ⟨row, d, h1, h2⟩ := HL.out.one
       have HO := iC.mk h1
       have HD := iC.mk h2
       obtain ⟨ad2, rfl⟩ := TL H'.out (by omega)
       have hgen := YV H'.out k hlt rfl
       have hmem : m.getD k default ∈ m := by rw [List.getD_eq_getElem?_getD, List.getElem?_eq_getElem HLT.out]; exact List.getElem_mem HLT.out
       have HOP := iC.mk (HOK'.out _ hmem)
       have hk1 : (k : Int) < (m.length : Int) := by omega
       obtain ⟨o, ho⟩ : ∃ o, o = m.getD k default := ⟨_, rfl⟩
       rw [← ho] at HOP hgen
       obtain ⟨A3, a3, A4, a4, A6, a6, A9, a9, hLi, hld⟩ := hgen wr0 HO.out.bel
       have HGEN := iC.mk hgen
       clear hgen hmem ho h1 h2 hlt
       have hcall := IW hLi HOP.out.n
       have hsnd := xM HOP.out
       have hsok := LC HOP.out
       obtain ⟨rr, hrr⟩ : ∃ rr, rr = xX o := ⟨_, rfl⟩
       rw [← hrr] at hcall hsnd hsok
       have HRR := iC.mk hrr
       have hplain := HD.out.1.lazy rr hsnd hsok
       obtain ⟨E, hE⟩ : ∃ E, mZ d rr = E := ⟨_, rfl⟩
       obtain ⟨D, hDD⟩ : ∃ D, mG d rr = D := ⟨_, rfl⟩
       have hFR : D.room = 524288 := by rw [← hDD, qK]; exact HD.out.2
       rw [hE, hDD] at hplain
       have HPL := iC.mk hplain
       have HFR := iC.mk hFR
       have HE := iC.mk hE
       have HDD := iC.mk hDD
       clear hsnd hsok hrr hLi hE hDD hFR hplain
       go_wp2_with fail
       go_at_call 42
       refine hcall.mono ?_
       rintro e wb ⟨B3, b3, B4, b4, B6, b6, B9, b9, rfl, hOw, hbb⟩
       have HOb := iC.mk (HO.out.below hbb)
       have HLb := iC.mk (HL.out.below hbb)
       have hcall := JM HOb.out.dd HLb.out.lg hOw.lies
       rw [HE.out, HDD.out] at hcall
       clear hld hbb hOw HO HL
       go_wp2_with fail
       go_at_call 45
       refine hcall.mono ?_
       intro e wc hp
       obtain ⟨rfl, hkc, rowc, hOc⟩ := HOb.out.dpk hp
       have hGc := HLb.out.lg.kb HOb.out.dd hkc
       have hRc := HLb.out.rr.kb HOb.out.dd hkc
       rcases HPL.out with ⟨rfl, hgr, hhas⟩ | ⟨hE0, hDe⟩
       ·have HGR := iC.mk hgr
        have HLc := iC.mk (show Lq w0 wc b g (fun d => Lay d (rs ++ [rr]) n ∧ d.room = 524288) rs (.slice Aa rs.length ca) from ⟨⟨rowc, D, hOc, ⟨hhas, HFR.out⟩⟩, hGc, HLb.out.good, hRc⟩)
        have hbl := hOc.bel
        clear hcall hp hOc hkc hGc hRc HOb HLb hgr hhas HPL HFR
        go_upto_region 20 with fail
        obtain ⟨C3, c3, C4, c4, C6, c6, C9, c9, hLc, hldc⟩ := HGEN.out wc hbl
        have HBL := iC.mk hbl
        have hcall := IW hLc HOP.out.n
        rw [← HRR.out] at hcall
        clear hLc hbl
        go_wp2_with fail
        go_at_call 42
        refine hcall.mono ?_
        rintro e wd ⟨D3, d3, D4, d4, D6, d6, D9, d9, rfl, hOw, hbd⟩
        have HLd := iC.mk (HLc.out.below hbd)
        have HOw := iC.mk (hOw.lower HBL.out.size)
        have HBd := iC.mk (HBL.out.trans (hbd.mono HBL.out.size))
        clear hcall hOw hbd hldc HLc
        go_wp2_with (at_builtin; go_loud (refine Kd.R_append kR (w0 := wd) w0.heap.size rfl (.tmp 82) (.tmp 88) 71 30 (.agg #[.int .u8 0, .int .u32 0, .int .u32 0, .slice none 0 0, .slice none 0 0, .int .u32 0, .slice none 0 0, .int .i64 0, .int .i64 0, .slice none 0 0]) 136 rfl Tryd.underlying71 J4 rfl (by decide) (by omega) (.slice Aa rs.length ca) rs rr [.int .u8 rr.f0, .int .u32 rr.f1, .int .u32 rr.f2, .slice D3 rr.f3.length d3, .slice D4 rr.f4.length d4, .int .u32 rr.f5.f0, .slice D6 rr.f5.f1.length d6, .int .i64 rr.f6, .int .i64 rr.f7, .slice D9 rr.f8.length d9] (fun _ => True) (fun j => some j ≠ (Value.slice Aa rs.length ca).ownBlock) rfl rfl ?aP ?aK ?aF ?aO (Below.refl _ _) ?aB ?aL ?_; (case aP => exact yJ (kR_M HOw.out) HLd.out.rr); (case aK => exact fun _ h => ⟨trivial, h⟩); (case aF => exact fun _ _ => trivial); (case aO => exact HLd.out.rr); (case aB => exact HBd.out.size); (case aL => (have := HN.out; omega)); intro v5 w5 ho hb5 hg5 hat; have HOO := iC.mk ho; have HG5 := iC.mk hg5; clear ho hb5 hg5 hat))
        have HL5 := iC.mk (HLd.out.append (Q := fun d => Lay d (rs ++ [rr]) n ∧ d.room = 524288) (fun _ h => h) HGR.out HG5.out HOO.out)
        go_roundw
        case rel => exact ⟨k + 1, rs ++ [rr], by omega, by go_num, HL5, ⟨by rw [List.length_append]; have := HN.out; simp only [List.length_singleton]; omega⟩⟩
        case measure => simp [intOf]; omega
       ·subst hDe
        have HLc := iC.mk (show Lq w0 wc b g (fun d => Lay d rs n ∧ d.room = 524288) rs (.slice Aa rs.length ca) from ⟨⟨rowc, D, hOc, HD.out⟩, hGc, HLb.out.good, hRc⟩)
        clear hcall hp hOc hkc hGc hRc HOb HLb HPL HFR
        go_wp2
        go_roundw
        case rel => exact ⟨k + 1, rs, by omega, by go_num, HLc, ⟨by have := HN.out; omega⟩⟩
        case measure => simp [intOf]; omega
      ·obtain rfl : k = m.length := by omega
       obtain ⟨row, d, h1, h2⟩ := HL.out.one
       obtain ⟨j, hj1, hj2, hopE, hrec⟩ := h2.1.crash keep HL.out.good
       have hcall := TC keep h1.dd
       have hcr : (d.crash keep).room = 524288 := h2.2
       obtain ⟨D, hDD⟩ : ∃ D, d.crash keep = D := ⟨_, rfl⟩
       rw [hDD] at hcall hopE hrec hcr
       have HO := iC.mk h1
       have HNI := iC.mk (show (rs.length : Int) ≤ 80 from by have := HN.out; omega)
       clear h1 h2 hlt hDD HN
       go_wp2_with fail
       go_at_call 43
       refine hcall.mono ?_
       intro e wa hp
       obtain ⟨rfl, hka, rowa, hOa⟩ := HO.out.dpk hp
       have HOa := iC.mk hOa
       have HRa := iC.mk (HL.out.rr.kb HO.out.dd hka)
       have HGD := iC.mk HL.out.good
       clear hcall hp hOa hka HO HL
       have hcall := open_any HOa.out.dd (by have := HOa.out.dd.2.fit; omega)
       go_wp2_with fail
       go_at_call 39
       refine hcall.mono ?_
       intro e wb hp
       obtain ⟨rowb, g2, vb, hOb, rfl, hgb, hrb, hkb, _⟩ := HOa.out.open hp hopE
       rw [hrec] at hrb
       obtain ⟨Ag, cg, rfl, hcg, Cg⟩ := Kd.R_reads hrb
       obtain ⟨_, hca, Ca⟩ := Kd.R_reads' (HRa.out.kb HOa.out.dd hkb)
       have hlj : (rs.take j).length = j := by rw [List.length_take]; omega
       have hca2 : kR.C wb Aa (rs.take j).length (rs.take j) := Kd.C_take Ca hj2
       have hcall := jb9 Ag Aa cg ca (rs.take j) wb Cg hca2 (fun x hx => QR x (HGD.out x (List.mem_of_mem_take hx)).sound)
       rw [hlj] at hcall ⊢
       have hcut := PR Aa rs.length ca j (j : Int) rfl hj2 hca
       have HOb := iC.mk hOb
       have hjI : (n : Int) ≤ (j : Int) := by omega
       have hjI2 : (j : Int) ≤ (rs.length : Int) := by omega
       have hrI := HNI.out
       clear hp hOb hgb hrb hkb hopE hrec Cg Ca hca2 HOa HRa hlj hcg
       go_wp2_with fail
       go_at_call 44
       refine hcall.mono ?_
       rintro e wc ⟨rfl, hbc⟩
       clear hcall
       go_wp2
       go_ret
       exact ⟨rfl, iK HOb.out.bel hbc⟩
end Go.Proofs.YtgfkgppomaapiaaDoor.K
end
