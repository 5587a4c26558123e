/- Parts of the proof, one behind the other: DiskM0, WalB, WalC, WalD, WalP, WalH, WalI, WalJ, FrameQ, WalQ, WalT, WalO, WalU. -/
import Derived.Test.YtgfkgppomaapiaaDoorQWalLasts7
set_option linter.unusedVariables false
set_option linter.unusedSimpArgs false
section
namespace Go.Proofs.YtgfkgppomaapiaaDoor.K
open RowKit YtgfkgppomaapiaaDoorW.PrintWords YtgfkgppomaapiaaDoorW.PrintLast YtgfkgppomaapiaaDoorW.PrintMore My
structure DM where
 bs : List UInt8
 lasts : Nat
 room : Nat
 left : Int
structure DM.ok (d : DM) : Prop where
 fit : d.bs.length ≤ d.room
 las : d.lasts ≤ d.bs.length
 room : d.room ≤ 1048576
 lef : d.left ≤ 9223372036854775807
def DM.new (room : Nat) : DM := ⟨[], 0, room, -1⟩
def DM.full (d : DM) (l : List UInt8) : Prop := (d.room : Int) - d.bs.length < l.length
instance (d : DM) (l : List UInt8) : Decidable (d.full l) := by unfold DM.full; infer_instance
def DM.app (d : DM) (l : List UInt8) : DM := if d.left = 0 then d else if d.full l then { d with left := dec d.left } else { d with bs := d.bs ++ l, left := dec d.left }
def DM.appE (d : DM) (l : List UInt8) : Int := if d.left = 0 then 100 else if d.full l then 100 else 0
def DM.sync (d : DM) : DM := if d.left = 0 then d else { d with lasts := d.bs.length, left := dec d.left }
def DM.syncE (d : DM) : Int := if d.left = 0 then 100 else 0
def DM.out (d : DM) (n : Int) : Prop := n < 0 ∨ (d.bs.length : Int) < n
instance (d : DM) (n : Int) : Decidable (d.out n) := by unfold DM.out; infer_instance
def DM.cut (d : DM) (n : Int) : DM := if d.left = 0 then d else if d.out n then { d with left := dec d.left } else { d with bs := d.bs.take n.toNat, lasts := min d.lasts n.toNat, left := dec d.left }
def DM.cutE (d : DM) (n : Int) : Int := if d.left = 0 then 100 else if d.out n then 1 else 0
def DM.kept (d : DM) (keep : Int) : Nat := d.lasts + min keep.toNat (d.bs.length - d.lasts)
def DM.crash (d : DM) (keep : Int) : DM := { d with bs := d.bs.take (d.kept keep), lasts := d.kept keep, left := -1 }
def DM.halt (d : DM) (n : Int) : DM := { d with left := max n (-1) }
theorem L8 {x : Int} (h : x ≤ 9223372036854775807) : dec x ≤ 9223372036854775807 := by unfold dec; split <;> omega
theorem DM.new_ok {room : Nat} (h : room ≤ 1048576) : (DM.new room).ok := ⟨Nat.zero_le _, Nat.zero_le _, h, by show (-1 : Int) ≤ _; omega⟩
theorem DM.app_ok {d : DM} (h : d.ok) (l : List UInt8) : (d.app l).ok := by
 unfold DM.app
 split
 ·exact h
 ·split
  ·exact ⟨h.fit, h.las, h.room, L8 h.lef⟩
  ·rename_i h1
   unfold DM.full at h1
   refine ⟨?_, ?_, h.room, L8 h.lef⟩
   ·show (d.bs ++ l).length ≤ d.room
    rw [List.length_append]
    omega
   ·show d.lasts ≤ (d.bs ++ l).length
    have := h.las
    rw [List.length_append]
    omega
theorem DM.sync_ok {d : DM} (h : d.ok) : d.sync.ok := by
 unfold DM.sync
 split
 ·exact h
 ·exact ⟨h.fit, Nat.le_refl _, h.room, L8 h.lef⟩
theorem DM.cut_ok {d : DM} (h : d.ok) (n : Int) : (d.cut n).ok := by
 unfold DM.cut
 split
 ·exact h
 ·split
  ·exact ⟨h.fit, h.las, h.room, L8 h.lef⟩
  ·have h1 := h.fit
   have h2 := h.las
   refine ⟨?_, ?_, h.room, L8 h.lef⟩
   ·show (d.bs.take n.toNat).length ≤ d.room
    rw [List.length_take]
    omega
   ·show min d.lasts n.toNat ≤ (d.bs.take n.toNat).length
    rw [List.length_take]
    omega
theorem DM.kept_le {d : DM} (h : d.ok) (keep : Int) : d.kept keep ≤ d.bs.length := by
 have := h.las
 unfold DM.kept
 omega
theorem DM.crash_ok {d : DM} (h : d.ok) (keep : Int) : (d.crash keep).ok := by
 have h1 := h.fit
 have h2 := DM.kept_le h keep
 refine ⟨?_, ?_, h.room, by show (-1 : Int) ≤ _; omega⟩
 ·show (d.bs.take (d.kept keep)).length ≤ d.room
  rw [List.length_take]
  omega
 ·show d.kept keep ≤ (d.bs.take (d.kept keep)).length
  rw [List.length_take]
  omega
theorem DM.halt_ok {d : DM} (h : d.ok) {n : Int} (hn : n ≤ 9223372036854775807) : (d.halt n).ok := ⟨h.fit, h.las, h.room, by show max n (-1) ≤ _; omega⟩
def DD (w : World) (b : Nat) (row : Option Nat) (d : DM) : Prop := Dk w b row d.bs d.lasts d.room d.left ∧ d.ok
def DP (v : Value) (w : World) (b : Nat) (row : Option Nat) (d : DM) (e : Ending) (w' : World) : Prop := e = .returned v ∧ ∃ row', DD w' b row' d ∧ Nw w row row' ∧ Kb b row w w'
theorem DD.below {w w' : World} {b : Nat} {row : Option Nat} {d : DM} (h : DD w b row d) (hb : Below w.heap.size w w') : DD w' b row d := ⟨h.1.below hb, h.2⟩
theorem jf4 {lasts : Nat} {n : Int} (h : 0 ≤ n) : mn (lasts : Int) n = ((min lasts n.toNat : Nat) : Int) := by unfold mn; split <;> omega
theorem ja6 {lasts len : Nat} {keep : Int} (h : lasts ≤ len) : ((lasts + min keep.toNat (len - lasts) : Nat) : Int) = lasts + mn (mx keep 0) ((len : Int) - lasts) := by unfold mn mx; split <;> split <;> omega
section
variable {w : World} {b : Nat} {row : Option Nat} {d : DM}
theorem j03 {w : World} {b : Nat} {row : Option Nat} {n n' : Int} {bs : List UInt8} {lasts room left : Int} {d' : DM} {e : Ending} {w' : World} (h : EQ (DQ w b row n bs lasts room left) e w') (hn : n = n') (hd : bs = d'.bs ∧ lasts = d'.lasts ∧ room = d'.room ∧ left = d'.left) (hok : d'.ok) : DP (.int .u16 n') w b row d' e w' := by
 obtain ⟨m, rfl, rfl, row', h1, h2, h3⟩ := h
 obtain ⟨rfl, rfl, rfl, rfl⟩ := hd
 subst hn
 exact ⟨rfl, row', ⟨h1, hok⟩, h2, h3⟩
theorem ZE (d : DM) (l : List UInt8) : (if d.left = 0 then 100 else apE d.bs l d.room) = d.appE l ∧ (if d.left = 0 then d.bs else apB d.bs l d.room) = (d.app l).bs ∧ (d.lasts : Int) = (d.app l).lasts ∧ (d.room : Int) = (d.app l).room ∧ dec d.left = (d.app l).left := by
 unfold DM.appE DM.app apE apB DM.full
 by_cases h0 : d.left = 0
 ·simp [h0, dec]
 ·by_cases h1 : (d.room : Int) - d.bs.length < l.length <;> simp [h0, h1]
theorem UV (d : DM) : (if d.left = 0 then 100 else 0 : Int) = d.syncE ∧ d.bs = d.sync.bs ∧ (if d.left = 0 then (d.lasts : Int) else d.bs.length) = d.sync.lasts ∧ (d.room : Int) = d.sync.room ∧ dec d.left = d.sync.left := by
 unfold DM.syncE DM.sync
 by_cases h0 : d.left = 0 <;> simp [h0, dec]
theorem YW (d : DM) (n : Int) : (if d.left = 0 then 100 else ctE d.bs n) = d.cutE n ∧ (if d.left = 0 then d.bs else ctB d.bs n) = (d.cut n).bs ∧ (if d.left = 0 then (d.lasts : Int) else ctL d.bs d.lasts n) = (d.cut n).lasts ∧ (d.room : Int) = (d.cut n).room ∧ dec d.left = (d.cut n).left := by
 unfold DM.cutE DM.cut ctE ctB ctL DM.out
 by_cases h0 : d.left = 0
 ·simp [h0, dec]
 ·by_cases h1 : n < 0 ∨ (d.bs.length : Int) < n
  ·simp [h0, h1]
  ·simp only [h0, h1, if_false]
   exact ⟨trivial, trivial, jf4 (by omega), trivial, trivial⟩
theorem Y9 {l : List UInt8} {A : Option Addr} {c : Nat} (h : DD w b row d) (hC : kb.C w A l.length l) (hab : ∀ a, A = some a → 0 < l.length → a.block ≠ b) (hl : l.length ≤ 140737480000000) :
  Calls Tryd.prog 89 #[.pointer (some ⟨b, 0, none⟩), .slice A l.length c] w (DP (.int .u16 (d.appE l)) w b row (d.app l)) :=
 (O9 h.1 hC hab (by have := h.2.fit; omega) (by have := h.2.room; omega) hl h.2.lef).mono fun _ _ hq => j03 hq (ZE d l).1 (ZE d l).2 (DM.app_ok h.2 l)
theorem TM (h : DD w b row d) : Calls Tryd.prog 85 #[.pointer (some ⟨b, 0, none⟩)] w (DP (.int .u16 d.syncE) w b row d.sync) :=
 (TR h.1 (by have := h.2.fit; have := h.2.room; omega) h.2.lef).mono fun _ _ hq => j03 hq (UV d).1 (UV d).2 (DM.sync_ok h.2)
theorem jc4 (n : Int) (h : DD w b row d) : Calls Tryd.prog 84 #[.pointer (some ⟨b, 0, none⟩), .int .i64 n] w (DP (.int .u16 (d.cutE n)) w b row (d.cut n)) :=
 (Y5 n h.1 (by have := h.2.fit; have := h.2.room; omega) h.2.lef).mono fun _ _ hq => j03 hq (YW d n).1 (YW d n).2 (DM.cut_ok h.2 n)
theorem OC (keep : Int) (h : DD w b row d) : Calls Tryd.prog 43 #[.pointer (some ⟨b, 0, none⟩), .int .i64 keep] w (DP (.tuple #[]) w b row (d.crash keep)) :=
 (QU (k := d.kept keep) keep h.1 (by have := h.2.fit; have := h.2.room; omega) (Int.natCast_nonneg _) (by have := h.2.las; omega) (ja6 h.2.las)).mono fun _ _ ⟨he, h1, h2⟩ => ⟨he, row, ⟨h1, DM.crash_ok h.2 keep⟩, fun k e => .inl e, Kb.of_grown h2⟩
theorem jc2 (n : Int) : mx n (-1) = max n (-1) := by unfold mx; split <;> omega
theorem jd9 (n : Int) (hn : n ≤ 9223372036854775807) (h : DD w b row d) : Calls Tryd.prog 46 #[.pointer (some ⟨b, 0, none⟩), .int .i64 n] w (DP (.tuple #[]) w b row (d.halt n)) :=
 (VG n h.1).mono fun _ _ ⟨he, h1, h2⟩ => ⟨he, row, ⟨by rw [jc2] at h1; exact h1, DM.halt_ok h.2 hn⟩, fun k e => .inl e, Kb.of_grown h2⟩
theorem Y6 (h : DD w b row d) : Calls Tryd.prog 47 #[.pointer (some ⟨b, 0, none⟩)] w fun e w' => e = .returned (.bool (decide (d.left = 0))) ∧ w' = w := NK h.1
theorem YO (h : DD w b row d) : Calls Tryd.prog 40 #[.pointer (some ⟨b, 0, none⟩)] w fun e w' => ∃ v, e = .returned v ∧ OB w' w.heap.size v d.bs ∧ Below w.heap.size w w' := UE h.1 (by have := h.2.fit; have := h.2.room; omega)
theorem jc1 (room : Nat) (w : World) (h : room ≤ 1048576) : Calls Tryd.prog 38 #[.int .i64 room] w fun e w' => e = .returned (.pointer (some ⟨w.heap.size, 0, none⟩)) ∧ DD w' w.heap.size none (DM.new room) ∧ Below w.heap.size w w' :=
 (VC room w (Int.natCast_nonneg _) (by omega)).mono fun _ _ ⟨h1, h2, h3⟩ => ⟨h1, ⟨h2, DM.new_ok h⟩, h3⟩
end
structure One (w0 w : World) (b : Nat) (row : Option Nat) (d : DM) : Prop where
 dd : DD w b row d
 blk : w0.heap.size ≤ b
 row : ∀ k, row = some k → w0.heap.size ≤ k
 bel : Below w0.heap.size w0 w
theorem One.step {w0 w w' : World} {b : Nat} {row row' : Option Nat} {d d' : DM} (h : One w0 w b row d) (hd : DD w' b row' d') (hn : Nw w row row') (hk : Kb b row w w') : One w0 w' b row' d' := by
 refine ⟨hd, h.blk, fun k e => (hn k e).elim (fun e' => h.row k e') (fun h' => Nat.le_trans h.bel.size h'), ?_⟩
 have := h.bel.trans (hk.below (B := w0.heap.size) h.bel.size h.blk h.row)
 exact this
theorem One.below {w0 w w' : World} {b : Nat} {row : Option Nat} {d : DM} (h : One w0 w b row d) (hb : Below w.heap.size w w') : One w0 w' b row d := ⟨h.dd.below hb, h.blk, h.row, h.bel.trans (hb.mono h.bel.size)⟩
theorem One.new {w0 w w' : World} {room : Nat} (h0 : Below w0.heap.size w0 w) (h : DD w' w.heap.size none (DM.new room)) (hb : Below w.heap.size w w') : One w0 w' w.heap.size none (DM.new room) :=
 ⟨h, h0.size, (fun _ e => by cases e), h0.trans (hb.mono h0.size)⟩
theorem Rw.kb {w w' : World} {b : Nat} {row : Option Nat} {r : Nat} {ao : Option Addr} {rr : Option Nat} {cap : Nat} {bs : List UInt8} (h : Rw w r ao rr cap bs) (hk : Kb b row w w') (h1 : ∀ k, rr = some k → k ≠ b ∧ some k ≠ row) : Rw w' r ao rr cap bs := by
 rcases h with h | ⟨g, cur, e1, e2, h3, h4, h5⟩
 ·exact .inl h
 ·exact .inr ⟨g, cur, e1, e2, h3, (hk.block g (jU h4) (h1 g e2).1 (h1 g e2).2).trans h4, h5⟩
theorem DD.kb {w w' : World} {b : Nat} {row : Option Nat} {r : Nat} {rr : Option Nat} {d : DM} (h : DD w r rr d) (hk : Kb b row w w') (hr : r ≠ b) (hr2 : some r ≠ row) (h1 : ∀ k, rr = some k → k ≠ b ∧ some k ≠ row) : DD w' r rr d := by
 obtain ⟨⟨ao, cap, lr, hD, hR⟩, hok⟩ := h
 exact ⟨⟨ao, cap, lr, (hk.block r hD.lt hr hr2).trans hD, hR.kb hk h1⟩, hok⟩
end Go.Proofs.YtgfkgppomaapiaaDoor.K
end

section
namespace Go.Proofs.YtgfkgppomaapiaaDoor.K
open RowKit YtgfkgppomaapiaaDoorW.PrintWords YtgfkgppomaapiaaDoorW.PrintLast YtgfkgppomaapiaaDoorW.PrintMore My
section
variable {w w' : World} {b : Nat} {row : Option Nat} {d : DM}
theorem DD.blk (h : DD w b row d) : ∃ cs, w.heap[b]? = some (.cells cs 128 (0, 0)) := by
 obtain ⟨⟨_, _, _, hD, _⟩, _⟩ := h
 exact ⟨_, hD⟩
theorem DD.rowt (h : DD w b row d) (k : Nat) (e : row = some k) : ∃ cs, w.heap[k]? = some (.cells cs 5 (0, 0)) := by
 obtain ⟨⟨_, _, _, _, hR⟩, _⟩ := h
 rcases hR with ⟨_, h2, _⟩ | ⟨g, cur, _, h2, _, h3, _⟩
 ·rw [h2] at e; cases e
 ·rw [h2] at e; injection e with e; subst e; exact ⟨cur, h3⟩
theorem DD.stays (h : DD w b row d) (hk : Kb b row w w') {g t : Nat} {cells : Array Value} (hg : w.heap[g]? = some (.cells cells t (0, 0))) (h1 : t ≠ 128) (h2 : t ≠ 5) : w'.heap[g]? = some (.cells cells t (0, 0)) := by
 refine (hk.block g (jU hg) (fun e => ?_) (fun e => ?_)).trans hg
 ·subst e
  obtain ⟨cs, hc⟩ := h.blk
  rw [hg] at hc
  injection hc with hc
  injection hc with _ hc
  exact h1 hc
 ·obtain ⟨cs, hc⟩ := h.rowt g e.symm
  rw [hg] at hc
  injection hc with hc
  injection hc with _ hc
  exact h2 hc
theorem R_kb {α : Type} {kd : Kd α} {e base : Nat} {v : Value} {xs : List α} (hr : kd.R e w base (fun _ => True) v xs) (h : DD w b row d) (hk : Kb b row w w') (hE : ∀ q ∈ e :: kd.E, q ≠ 128 ∧ q ≠ 5) : kd.R e w' base (fun _ => True) v xs :=
 Kd.R_mono (Kd.R_move (Kd.R_bound hr) (fun k hq => by
  obtain ⟨_, _, _, q, hq, cells, hc⟩ := hq
  rw [hc]
  exact h.stays hk hc (hE q hq).1 (hE q hq).2)) (fun _ _ => trivial)
theorem XR : ∀ q ∈ 30 :: kR.E, q ≠ 128 ∧ q ≠ 5 := by decide
theorem RRs.kb {base : Nat} {v : Value} {l : List SRec} (hr : RRs w base v l) (h : DD w b row d) (hk : Kb b row w w') : RRs w' base v l := R_kb hr h hk XR
def Lg (w : World) (g b : Nat) : Prop := w.heap[g]? = some (.cells #[.pointer (some ⟨b, 0, none⟩)] 134 (0, 0))
theorem Lg.kb {g : Nat} (hl : Lg w g b) (h : DD w b row d) (hk : Kb b row w w') : Lg w' g b := h.stays hk hl (by decide) (by decide)
theorem Lg.below {g : Nat} (hl : Lg w g b) (hb : Below w.heap.size w w') : Lg w' g b := iO hb hl
theorem DD.len (h : DD w b row d) : d.bs.length ≤ 1048576 := Nat.le_trans h.2.fit h.2.room
end
def walN (d : DM) : Nat := endB (okL (lK d.bs))
theorem jb3 (ls : List (List UInt8)) : endB (okL ls) ≤ endB ls := by
 unfold okL
 induction ls with
 | nil => simp
 | cons x t ih =>
  rw [List.takeWhile_cons]
  split
  ·rw [qR, qR]; omega
  ·simp [endB]
theorem UX (d : DM) : walN d ≤ d.bs.length := Nat.le_trans (jb3 _) (YQ _)
def cutD (d : DM) : DM := if walN d < d.bs.length then d.cut (walN d) else d
def cutO (d : DM) : Int := if walN d < d.bs.length then d.cutE (walN d) else 0
def xY (d : DM) : DM := if cutO d = 0 then (cutD d).sync else cutD d
def rX (d : DM) : Int := if cutO d = 0 then (cutD d).syncE else cutO d
def jb8 (w : World) (b : Nat) (row : Option Nat) (d : DM) (e : Ending) (w' : World) : Prop :=
 ∃ row', DD w' b row' (xY d) ∧ Nw w row row' ∧ Kb b row w w' ∧
  ((rX d = 0 ∧ ∃ g v, e = .returned (.tuple #[.pointer (some ⟨g, 0, none⟩), v, .int .u16 0]) ∧ w.heap.size ≤ g ∧ Lg w' g b ∧ RRs w' w.heap.size v (qM (lK d.bs))) ∨
   (rX d ≠ 0 ∧ e = .returned (.tuple #[.pointer none, .slice none 0 0, .int .u16 (rX d)])))
theorem Nw.trans {w w1 : World} {row row1 row2 : Option Nat} (h : Nw w row row1) (hs : w.heap.size ≤ w1.heap.size) (k : Nw w1 row1 row2) : Nw w row row2 := fun j e => (k j e).elim (fun e1 => h j e1) (fun h1 => .inr (by omega))
theorem Nw.refl (w : World) (row : Option Nat) : Nw w row row := fun _ e => .inl e
theorem Nw.older {w w1 : World} {row row1 : Option Nat} (h : Nw w1 row row1) (hs : w.heap.size ≤ w1.heap.size) : Nw w row row1 := fun j e => (h j e).imp id (fun h1 => by omega)
theorem Kb.then {w w1 w2 : World} {b : Nat} {row row1 : Option Nat} (h : Kb b row w w1) (k : Kb b row1 w1 w2) (hn : Nw w row row1) : Kb b row w w2 := h.trans hn k
theorem rM (d : DM) (n : Int) : (d.cutE n = 0 ∨ d.cutE n = 1 ∨ d.cutE n = 100) ∧ (d.syncE = 0 ∨ d.syncE = 100) := by
 unfold DM.cutE DM.syncE
 (repeat' split) <;> simp
theorem DD.drew {w : World} {b : Nat} {row : Option Nat} {d : DM} (h : DD w b row d) : DD w.drew b row d := h.below (iJ (Below.refl _ _))
set_option maxHeartbeats 8000000 in
theorem open_any {w : World} {b : Nat} {row : Option Nat} {d : DM} (h : DD w b row d) (hbig : (d.bs.length : Int) ≤ 1000000) : Calls Tryd.prog 39 #[.pointer (some ⟨b, 0, none⟩)] w (jb8 w b row d) := by
 have HD := iC.mk h
 have hcall := YO h
 have hwI : (walN d : Int) ≤ (d.bs.length : Int) := by have := UX d; omega
 clear h
 go_enter Tryd.func39, Tryd.ntmps39
 go_wp2_with fail
 go_at_call 40
 refine hcall.mono ?_
 rintro e w1 ⟨v1, rfl, ho1, hb1⟩
 obtain ⟨A1, c1, rfl, hc1, hC1⟩ := ho1.reads
 have HD1 := iC.mk (HD.out.below hb1)
 have HB1 := iC.mk hb1
 clear hcall ho1 hb1 HD
 have hcall := O5 A1 c1 d.bs w1 hC1 hc1 hbig
 clear hC1 hc1
 go_wp2_with fail
 go_at_call 83
 refine hcall.mono ?_
 rintro e w2 ⟨v2, rfl, hr2, hb2⟩
 rw [show (endB (okL (lK d.bs)) : Nat) = walN d from rfl]
 obtain ⟨A2, c2, rfl⟩ := Kd.R_slice hr2
 have HD2 := iC.mk (HD1.out.below hb2)
 have HR2 := iC.mk (show RRs w2 w.heap.size _ _ from Kd.R_lower hr2 HB1.out.size)
 have hB2 := iK HB1.out hb2
 have HK2 := iC.mk (Kb.of_below (b := b) (row := row) hB2)
 have HS2 := iC.mk hB2.size
 clear hcall hr2 hb2 HD1 HB1 hB2
 obtain ⟨rs, hrs⟩ : ∃ rs, rs = qM (lK d.bs) := ⟨_, rfl⟩
 rw [← hrs] at HR2
 have HRS := iC.mk hrs
 rw [← hrs]
 clear hrs
 by_cases hlt : (walN d : Int) < (d.bs.length : Int)
 ·have HCD := iC.mk (show cutD d = d.cut (walN d) from by unfold cutD; rw [if_pos (by omega)])
  have HCO := iC.mk (show cutO d = d.cutE (walN d) from by unfold cutO; rw [if_pos (by omega)])
  have hcut := jc4 (walN d : Int) HD2.out
  have hE := (rM d (walN d)).1
  have hS := (rM (d.cut (walN d)) 0).2
  obtain ⟨E, hEE⟩ : ∃ E, E = d.cutE (walN d) := ⟨_, rfl⟩
  rw [← hEE] at hcut hE HCO
  clear hEE
  go_wp2_with fail
  go_at_call 84
  refine hcut.mono ?_
  rintro e w3 ⟨rfl, row3, hD3, hn3, hk3⟩
  have HN3 := iC.mk (hn3.older HS2.out)
  have HK3 := iC.mk (HK2.out.then hk3 (Nw.refl _ _))
  have HR3 := iC.mk (HR2.out.kb HD2.out hk3)
  have HS3 := iC.mk (Nat.le_trans HS2.out hk3.size)
  have HD3 := iC.mk hD3
  clear hcut hn3 hk3 hD3 HD2 HR2 HK2 HS2
  by_cases hE0 : E = 0
  ·subst hE0
   have hsync := TM HD3.out
   have HOD := iC.mk (show xY d = (d.cut (walN d)).sync from by unfold xY; rw [HCO.out, if_pos rfl, HCD.out])
   have HOE := iC.mk (show rX d = (d.cut (walN d)).syncE from by unfold rX; rw [HCO.out, if_pos rfl, HCD.out])
   obtain ⟨S, hSE⟩ : ∃ S, S = (d.cut (walN d)).syncE := ⟨_, rfl⟩
   rw [← hSE] at hsync hS HOE
   clear hSE hE
   go_wp2_with fail
   go_at_call 85
   refine hsync.mono ?_
   rintro e w4 ⟨rfl, row4, hD4, hn4, hk4⟩
   have HN4 := iC.mk (HN3.out.trans HS3.out hn4)
   have HK4 := iC.mk (HK3.out.then hk4 HN3.out)
   have HR4 := iC.mk (HR3.out.kb HD3.out hk4)
   have HS4 := iC.mk (Nat.le_trans HS3.out hk4.size)
   have HD4 := iC.mk hD4
   clear hsync hn4 hk4 hD4 HD3 HR3 HK3 HS3 HN3
   by_cases hS0 : S = 0
   ·subst hS0
    clear hS
    go_wp2
    go_ret3
    have hb5 : Below w4.heap.size w4 (w4.alloc (.cells #[.pointer (some ⟨b, 0, none⟩)] 134)) := iG (Below.refl _ _) _
    refine ⟨row4, by rw [HOD.out]; exact HD4.out.below hb5, HN4.out, HK4.out.then (Kb.of_below hb5) HN4.out, .inl ⟨HOE.out, w4.heap.size, _, rfl, HS4.out, jB rfl, ?_⟩⟩
    rw [← HRS.out]
    exact HR4.out.below hb5
   ·obtain rfl := hS.resolve_left hS0
    clear hS hS0
    go_wp2
    go_ret3
    exact ⟨row4, by rw [HOD.out]; exact HD4.out, HN4.out, HK4.out, .inr ⟨by rw [HOE.out]; decide, by rw [HOE.out]; rfl⟩⟩
  ·have HOD := iC.mk (show xY d = d.cut (walN d) from by unfold xY; rw [HCO.out, if_neg hE0, HCD.out])
   have HOE := iC.mk (show rX d = E from by unfold rX; rw [HCO.out, if_neg hE0])
   have hE1 : E = 1 ∨ E = 100 := hE.resolve_left hE0
   clear hE hS
   rcases hE1 with rfl | rfl
   ·go_wp2
    go_ret3
    exact ⟨row3, by rw [HOD.out]; exact HD3.out, HN3.out, HK3.out, .inr ⟨by rw [HOE.out]; decide, by rw [HOE.out]; rfl⟩⟩
   ·go_wp2
    go_ret3
    exact ⟨row3, by rw [HOD.out]; exact HD3.out, HN3.out, HK3.out, .inr ⟨by rw [HOE.out]; decide, by rw [HOE.out]; rfl⟩⟩
 ·have HCO := iC.mk (show cutO d = 0 from by unfold cutO; rw [if_neg (by omega)])
  have HCD := iC.mk (show cutD d = d from by unfold cutD; rw [if_neg (by omega)])
  have hsync := TM HD2.out
  have hS := (rM d 0).2
  have HOD := iC.mk (show xY d = d.sync from by unfold xY; rw [HCO.out, if_pos rfl, HCD.out])
  have HOE := iC.mk (show rX d = d.syncE from by unfold rX; rw [HCO.out, if_pos rfl, HCD.out])
  obtain ⟨S, hSE⟩ : ∃ S, S = d.syncE := ⟨_, rfl⟩
  rw [← hSE] at hsync hS HOE
  clear hSE
  go_wp2_with fail
  go_at_call 85
  refine hsync.mono ?_
  rintro e w4 ⟨rfl, row4, hD4, hn4, hk4⟩
  have HN4 := iC.mk (hn4.older HS2.out)
  have HK4 := iC.mk (HK2.out.then hk4 (Nw.refl _ _))
  have HR4 := iC.mk (HR2.out.kb HD2.out hk4)
  have HS4 := iC.mk (Nat.le_trans HS2.out hk4.size)
  have HD4 := iC.mk hD4
  clear hsync hn4 hk4 hD4 HD2 HR2 HK2 HS2
  by_cases hS0 : S = 0
  ·subst hS0
   clear hS
   go_wp2
   go_ret3
   have hb5 : Below w4.heap.size w4 (w4.alloc (.cells #[.pointer (some ⟨b, 0, none⟩)] 134)) := iG (Below.refl _ _) _
   refine ⟨row4, by rw [HOD.out]; exact HD4.out.below hb5, HN4.out, HK4.out.then (Kb.of_below hb5) HN4.out, .inl ⟨HOE.out, w4.heap.size, _, rfl, HS4.out, jB rfl, ?_⟩⟩
   rw [← HRS.out]
   exact HR4.out.below hb5
  ·obtain rfl := hS.resolve_left hS0
   clear hS hS0
   go_wp2
   go_ret3
   exact ⟨row4, by rw [HOD.out]; exact HD4.out, HN4.out, HK4.out, .inr ⟨by rw [HOE.out]; decide, by rw [HOE.out]; rfl⟩⟩
end Go.Proofs.YtgfkgppomaapiaaDoor.K
end

section
namespace Go.Proofs.YtgfkgppomaapiaaDoor.K
open RowKit YtgfkgppomaapiaaDoorW.PrintWords YtgfkgppomaapiaaDoorW.PrintLast YtgfkgppomaapiaaDoorW.PrintMore My
def nU (d : DM) (r : SRec) : Int := if (encR r).2 = 0 then d.appE (kS (recE r)) else (encR r).2
def nC (d : DM) (r : SRec) : DM := if (encR r).2 = 0 then d.app (kS (recE r)) else d
def nH (d : DM) (r : SRec) : Int := if nU d r = 0 then (nC d r).syncE else nU d r
def lM (d : DM) (r : SRec) : DM := if nU d r = 0 then (if (nC d r).syncE = 0 then (nC d r).sync else (nC d r).sync.cut d.bs.length) else nC d r
theorem ZO (d : DM) (l : List UInt8) : d.appE l = 0 ∨ d.appE l = 100 := by
 unfold DM.appE
 (repeat' split) <;> simp
theorem OG (d : DM) (r : SRec) : nU d r = 0 ∨ nU d r = 1 ∨ nU d r = 3 ∨ nU d r = 100 := by
 unfold nU
 rcases pO r with h | h | h <;> rw [h]
 ·exact .inr (.inl (if_neg (by decide)))
 ·exact .inr (.inr (.inl (if_neg (by decide))))
 ·rw [if_pos rfl]
  rcases ZO d (kS (recE r)) with h | h <;> rw [h] <;> simp
theorem yY {r : SRec} (h : encR r = (nums (recE r), 0)) : (recE r).length ≤ 60000 := by
 unfold encR at h
 split at h
 ·split at h
  ·injection h with _ h2; cases h2
  ·omega
 ·injection h with _ h2; cases h2
attribute [-go_sem] Instr.build Instr.storeAt
set_option maxRecDepth 20000 in
set_option maxHeartbeats 8000000 in
theorem P6 {w : World} {b g : Nat} {row : Option Nat} {d : DM} {r : SRec} {A3 A4 A6 A9 : Option Addr} {a3 a4 a6 a9 : Nat} (h : DD w b row d) (hg : Lg w g b) (hr : Lies w r A3 a3 A4 a4 A6 a6 A9 a9) :
  Calls Tryd.prog 45 #[.pointer (some ⟨g, 0, none⟩), .agg #[.int .u8 r.f0, .int .u32 r.f1, .int .u32 r.f2, .slice A3 r.f3.length a3, .slice A4 r.f4.length a4, .int .u32 r.f5.f0, .slice A6 r.f5.f1.length a6, .int .i64 r.f6, .int .i64 r.f7, .slice A9 r.f8.length a9]] w (DP (.int .u16 (nU d r)) w b row (nC d r)) := by
 obtain ⟨W, hW⟩ : ∃ W, W = w.alloc (.cells #[.int .u8 r.f0, .int .u32 r.f1, .int .u32 r.f2, .slice A3 r.f3.length a3, .slice A4 r.f4.length a4, .int .u32 r.f5.f0, .slice A6 r.f5.f1.length a6, .int .i64 r.f6, .int .i64 r.f7, .slice A9 r.f8.length a9] 30) := ⟨_, rfl⟩
 have hb : Below w.heap.size w W := by rw [hW]; exact iG (Below.refl _ _) _
 have HX := iC.mk (show W.heap[w.heap.size]? = some (.cells #[.int .u8 r.f0, .int .u32 r.f1, .int .u32 r.f2, .slice A3 r.f3.length a3, .slice A4 r.f4.length a4, .int .u32 r.f5.f0, .slice A6 r.f5.f1.length a6, .int .i64 r.f6, .int .i64 r.f7, .slice A9 r.f8.length a9] 30 (0, 0)) from by rw [hW]; exact jB rfl)
 have HD := iC.mk (h.below hb)
 have HG := iC.mk (hg.below hb)
 have HL := iC.mk (hr.below hb)
 have HB := iC.mk hb
 have HW := iC.mk hW
 have HLT := iC.mk h.1.lt
 have HLT2 := iC.mk (show b < W.heap.size from HD.out.1.lt)
 clear h hg hr hb hW
 obtain ⟨⟨E1, E2⟩, hE⟩ : ∃ E : List Int × Int, encR r = E := ⟨_, rfl⟩
 have hcall := N9 HL.out hE
 have hcs := pO r
 have HE := iC.mk hE
 rw [hE] at hcs
 have HCS := iC.mk hcs
 clear hE hcs
 go_enter Tryd.func45, Tryd.ntmps45
 go_upto_region 1 with fail
 rw [← HW.out]
 obtain ⟨wz0, wz1, wz2, wz3, wz4, wz5, wz6, wz7, wz8, wz9, wy0, wy1, wy2, wy3, wy4, wy5, wy6, wy7, wy8, wy9⟩ := ten (HX.out)
 clear wy0 wy1 wy2 wy3 wy4 wy5 wy6 wy7 wy8 wy9
 go_wp2_with fail
 go_at_call 17
 refine hcall.mono ?_
 rintro e w1 ⟨v0, rfl, h0, hb1⟩
 obtain ⟨A0, c0, rfl⟩ := Kd.R_slice h0
 obtain ⟨_, q0, C0⟩ := Kd.R_reads' h0
 have HD1 := iC.mk (HD.out.below hb1)
 have HG1 := iC.mk (HG.out.below hb1)
 have HB1 := iC.mk (iK HB.out hb1)
 have hcs := HCS.out
 clear hcall h0 hb1 wz0 wz1 wz2 wz3 wz4 wz5 wz6 wz7 wz8 wz9 HX HL HD HG HB
 have hbad : ∀ E, E ≠ 0 → (encR r).2 = E → DP (.int .u16 (nU d r)) w b row (nC d r) (.returned (.int .u16 E)) w1 := fun E h0 hE => by
  unfold nU nC
  rw [hE, if_neg h0, if_neg h0]
  exact ⟨rfl, row, HD1.out, Nw.refl _ _, Kb.of_below HB1.out⟩
 rcases hcs with hc | hc | hc
 ·obtain ⟨rfl, rfl⟩ := Prod.mk.inj hc
  have HBAD := iC.mk (hbad 1 (by decide) (by rw [HE.out]))
  clear hc hbad C0 q0
  go_wp2
  go_ret
  exact HBAD.out
 ·obtain ⟨rfl, rfl⟩ := Prod.mk.inj hc
  have HBAD := iC.mk (hbad 3 (by decide) (by rw [HE.out]))
  clear hc hbad C0 q0
  go_wp2
  go_ret
  exact HBAD.out
 ·obtain ⟨rfl, rfl⟩ := Prod.mk.inj hc
  have hlen : (nums (recE r)).length = (recE r).length := mJ _
  have hsh := yY HE.out
  rw [hlen] at q0 C0
  have hwrap := wrap_any A0 c0 (recE r) w1 (IU C0) q0 hsh
  have HSH := iC.mk hsh
  rw [hlen]
  clear hc hbad C0 q0 hlen hsh
  go_wp2_with fail
  go_at_call 88
  refine hwrap.mono ?_
  rintro e w2 ⟨vw, rfl, hO, hb2⟩
  have hbase := fun k => Kd.R_base hO k
  obtain ⟨Aw, cw, rfl, hcw, hCw⟩ := hO.reads
  have HD2 := iC.mk (HD1.out.below hb2)
  have HB2 := iC.mk (iK HB1.out hb2)
  have hz := (iE (HG1.out.below hb2) 0).trans (show _ = some (Value.pointer (some ⟨b, 0, none⟩)) from rfl)
  have hwl := lF (recE r)
  have hlt := HD1.out.1.lt
  have happ := Y9 (c := cw) HD2.out hCw (fun a e _ hab => by subst e; have := hbase a.block rfl; omega) (by have := HSH.out; omega)
  have HF := iC.mk (show ∀ e' w', DP (.int .u16 (d.appE (kS (recE r)))) w2 b row (d.app (kS (recE r))) e' w' → DP (.int .u16 (nU d r)) w b row (nC d r) e' w' from fun e' w' hp => by
   unfold nU nC
   rw [HE.out, if_pos rfl, if_pos rfl]
   obtain ⟨he, row', h1, h2, h3⟩ := hp
   exact ⟨he, row', h1, h2.older HB2.out.size, (Kb.of_below (b := b) (row := row) HB2.out).then h3 (Nw.refl _ _)⟩)
  generalize kS (recE r) = L at happ hcw hCw hwl HF
  obtain ⟨E, hEE⟩ : ∃ E, E = d.appE L := ⟨_, rfl⟩
  rw [← hEE] at happ HF
  clear hwrap hO hb2 hcw hCw hwl hlt HD1 HG1 HB1 hbase hEE
  go_wp2_with fail
  go_at_call 89
  refine happ.mono ?_
  rintro e w3 ⟨rfl, hp⟩
  have HP := iC.mk (HF.out _ _ ⟨rfl, hp⟩)
  clear happ hp HF
  go_wp2
  go_ret
  exact HP.out
end Go.Proofs.YtgfkgppomaapiaaDoor.K
end

section
namespace Go.Proofs.YtgfkgppomaapiaaDoor.K
open RowKit YtgfkgppomaapiaaDoorW.PrintWords YtgfkgppomaapiaaDoorW.PrintLast YtgfkgppomaapiaaDoorW.PrintMore My
theorem U3 (d : DM) (r : SRec) : 0 ≤ nU d r ∧ nU d r ≤ 100 := by rcases OG d r with h | h | h | h <;> omega
attribute [-go_sem] Instr.build Instr.storeAt
set_option maxRecDepth 20000 in
set_option maxHeartbeats 8000000 in
theorem MH {w : World} {b g : Nat} {row : Option Nat} {d : DM} {r : SRec} {A3 A4 A6 A9 : Option Addr} {a3 a4 a6 a9 : Nat} (h : DD w b row d) (hg : Lg w g b) (hr : Lies w r A3 a3 A4 a4 A6 a6 A9 a9) :
  Calls Tryd.prog 41 #[.pointer (some ⟨g, 0, none⟩), .agg #[.int .u8 r.f0, .int .u32 r.f1, .int .u32 r.f2, .slice A3 r.f3.length a3, .slice A4 r.f4.length a4, .int .u32 r.f5.f0, .slice A6 r.f5.f1.length a6, .int .i64 r.f6, .int .i64 r.f7, .slice A9 r.f8.length a9]] w (DP (.int .u16 (nH d r)) w b row (lM d r)) := by
 obtain ⟨W, hW⟩ : ∃ W, W = w.alloc (.cells #[.int .u8 r.f0, .int .u32 r.f1, .int .u32 r.f2, .slice A3 r.f3.length a3, .slice A4 r.f4.length a4, .int .u32 r.f5.f0, .slice A6 r.f5.f1.length a6, .int .i64 r.f6, .int .i64 r.f7, .slice A9 r.f8.length a9] 30) := ⟨_, rfl⟩
 have hb : Below w.heap.size w W := by rw [hW]; exact iG (Below.refl _ _) _
 have HX := iC.mk (show W.heap[w.heap.size]? = some (.cells #[.int .u8 r.f0, .int .u32 r.f1, .int .u32 r.f2, .slice A3 r.f3.length a3, .slice A4 r.f4.length a4, .int .u32 r.f5.f0, .slice A6 r.f5.f1.length a6, .int .i64 r.f6, .int .i64 r.f7, .slice A9 r.f8.length a9] 30 (0, 0)) from by rw [hW]; exact jB rfl)
 have HD := iC.mk (h.below hb)
 have HG := iC.mk (hg.below hb)
 have HL := iC.mk (hr.below hb)
 have HB := iC.mk hb
 have HW := iC.mk hW
 clear h hg hr hb hW
 have hz := (iE HG.out 0).trans (show _ = some (Value.pointer (some ⟨b, 0, none⟩)) from rfl)
 have hcall := YO HD.out
 go_enter Tryd.func41, Tryd.ntmps41
 go_upto_region 1 with fail
 rw [← HW.out]
 clear HW
 go_wp2_with fail
 go_at_call 40
 refine hcall.mono ?_
 rintro e w1 ⟨v1, rfl, ho1, hb1⟩
 obtain ⟨A1, c1, rfl, _, _⟩ := ho1.reads
 have HX1 := iC.mk (iO hb1 HX.out)
 have HD1 := iC.mk (HD.out.below hb1)
 have HG1 := iC.mk (HG.out.below hb1)
 have HB1 := iC.mk (iK HB.out hb1)
 have hcall := P6 HD1.out HG1.out (HL.out.below hb1)
 have hE0 := U3 d r
 obtain ⟨E, hE⟩ : ∃ E, nU d r = E := ⟨_, rfl⟩
 have HE := iC.mk hE
 rw [hE] at hcall hE0
 have hE1 := hE0.1
 have hE2 := hE0.2
 clear ho1 hb1 HX HD HG HL HB hz hE hE0
 obtain ⟨wz0, wz1, wz2, wz3, wz4, wz5, wz6, wz7, wz8, wz9, wy0, wy1, wy2, wy3, wy4, wy5, wy6, wy7, wy8, wy9⟩ := ten (HX1.out)
 clear wy0 wy1 wy2 wy3 wy4 wy5 wy6 wy7 wy8 wy9
 go_wp2_with fail
 go_at_call 45
 refine hcall.mono ?_
 rintro e w2 ⟨rfl, row2, hD2, hn2, hk2⟩
 have HD2 := iC.mk hD2
 have HG2 := iC.mk (HG1.out.kb HD1.out hk2)
 have HN2 := iC.mk (hn2.older (w := w) HB1.out.size)
 have HK2 := iC.mk ((Kb.of_below (b := b) (row := row) HB1.out).then hk2 (Nw.refl _ _))
 clear hcall hD2 hn2 hk2 HX1 HD1 HG1 HB1 wz0 wz1 wz2 wz3 wz4 wz5 wz6 wz7 wz8 wz9
 by_cases h0 : E = 0
 ·subst h0
  have hsync := TM HD2.out
  have hS := (rM (nC d r) 0).2
  have HFE := iC.mk (show nH d r = (nC d r).syncE from by unfold nH; rw [if_pos HE.out])
  have HFD := iC.mk (show lM d r = if (nC d r).syncE = 0 then (nC d r).sync else (nC d r).sync.cut d.bs.length from by unfold lM; rw [if_pos HE.out])
  obtain ⟨S, hSE⟩ : ∃ S, S = (nC d r).syncE := ⟨_, rfl⟩
  rw [← hSE] at hsync hS HFE HFD
  have hz := (iE HG2.out 0).trans (show _ = some (Value.pointer (some ⟨b, 0, none⟩)) from rfl)
  clear hSE hE1 hE2
  go_wp2_with fail
  go_at_call 85
  refine hsync.mono ?_
  rintro e w3 ⟨rfl, row3, hD3, hn3, hk3⟩
  have HD3 := iC.mk hD3
  have HG3 := iC.mk (HG2.out.kb HD2.out hk3)
  have HN3 := iC.mk (HN2.out.trans HK2.out.size hn3)
  have HK3 := iC.mk (HK2.out.then hk3 HN2.out)
  clear hsync hD3 hn3 hk3 HD2 HG2 HN2 HK2 hz
  by_cases hS0 : S = 0
  ·subst hS0
   clear hS
   go_wp2
   go_ret
   exact ⟨by rw [HFE.out]; rfl, row3, by rw [HFD.out, if_pos (by trivial)]; exact HD3.out, HN3.out, HK3.out⟩
  ·obtain rfl := hS.resolve_left hS0
   have hcut := jc4 (d.bs.length : Int) HD3.out
   have hz := (iE HG3.out 0).trans (show _ = some (Value.pointer (some ⟨b, 0, none⟩)) from rfl)
   clear hS hS0
   go_wp2_with fail
   go_at_call 84
   refine hcut.mono ?_
   rintro e w4 ⟨rfl, row4, hD4, hn4, hk4⟩
   have HD4 := iC.mk hD4
   have HN4 := iC.mk (HN3.out.trans HK3.out.size hn4)
   have HK4 := iC.mk (HK3.out.then hk4 HN3.out)
   clear hcut hD4 hn4 hk4 hz
   go_wp2
   go_ret
   exact ⟨by rw [HFE.out]; rfl, row4, by rw [HFD.out, if_neg (by decide)]; exact HD4.out, HN4.out, HK4.out⟩
 ·have HFE := iC.mk (show nH d r = E from by unfold nH; rw [HE.out, if_neg h0])
  have HFD := iC.mk (show lM d r = nC d r from by unfold lM; rw [HE.out, if_neg h0])
  go_wp2
  go_ret
  exact ⟨by rw [HFE.out]; rfl, row2, by rw [HFD.out]; exact HD2.out, HN2.out, HK2.out⟩
end Go.Proofs.YtgfkgppomaapiaaDoor.K
end

section
namespace Go.Proofs.YtgfkgppomaapiaaDoor.K
open RowKit YtgfkgppomaapiaaDoorW.PrintWords YtgfkgppomaapiaaDoorW.PrintLast YtgfkgppomaapiaaDoorW.PrintMore My
theorem XT {d : DM} {l : List UInt8} (h : d.full l) (hl : d.left = -1) : d.app l = d ∧ d.appE l = 100 := by
 unfold DM.app DM.appE
 rw [if_neg (by omega), if_pos h, if_neg (by omega), if_pos h]
 refine ⟨?_, rfl⟩
 cases d
 simp only at hl
 subst hl
 rfl
theorem X5 {d : DM} {l : List UInt8} (h : ¬ d.full l) (hl : d.left = -1) : d.app l = { d with bs := d.bs ++ l } ∧ d.appE l = 0 := by
 unfold DM.app DM.appE
 rw [if_neg (by omega), if_neg h, if_neg (by omega), if_neg h]
 refine ⟨?_, rfl⟩
 cases d
 simp only at hl
 subst hl
 rfl
theorem zD {d : DM} (hl : d.left = -1) : d.sync = { d with lasts := d.bs.length } ∧ d.syncE = 0 := by
 unfold DM.sync DM.syncE
 rw [if_neg (by omega), if_neg (by omega)]
 refine ⟨?_, rfl⟩
 cases d
 simp only at hl
 subst hl
 rfl
theorem YI {d : DM} (hl : d.left = -1) (n : Nat) (hn : n ≤ d.bs.length) : d.cut n = { d with bs := d.bs.take n, lasts := min d.lasts n } ∧ d.cutE n = 0 := by
 unfold DM.cut DM.cutE
 have ho : ¬ d.out n := by unfold DM.out; omega
 rw [if_neg (by omega), if_neg ho, if_neg (by omega), if_neg ho]
 refine ⟨?_, rfl⟩
 cases d
 simp only at hl
 subst hl
 simp only [Int.toNat_natCast]
 rfl
theorem yN {d : DM} (hl : d.left = -1) : rX d = 0 ∧ xY d = ⟨d.bs.take (walN d), walN d, d.room, -1⟩ := by
 have hw := UX d
 by_cases h : walN d < d.bs.length
 ·have hc := YI hl (walN d) hw
  have hO : cutO d = 0 := by unfold cutO; rw [if_pos h]; exact hc.2
  have hD : cutD d = d.cut (walN d) := by unfold cutD; rw [if_pos h]
  have hs := zD (d := d.cut (walN d)) (by rw [hc.1]; exact hl)
  refine ⟨by unfold rX; rw [if_pos hO, hD, hs.2], ?_⟩
  unfold xY
  rw [if_pos hO, hD, hs.1, hc.1]
  simp only [DM.mk.injEq, true_and]
  exact ⟨by rw [List.length_take]; omega, hl⟩
 ·have hO : cutO d = 0 := by unfold cutO; rw [if_neg h]
  have hD : cutD d = d := by unfold cutD; rw [if_neg h]
  have hs := zD hl
  refine ⟨by unfold rX; rw [if_pos hO, hD, hs.2], ?_⟩
  unfold xY
  rw [if_pos hO, hD, hs.1]
  have he : walN d = d.bs.length := by omega
  cases d
  simp only at hl he ⊢
  subst hl
  rw [he, List.take_length]
structure oZ (r : SRec) : Prop where
 sound : kC r = true
 ok : zQ r
 len : (recE r).length ≤ 60000
def logB (rs : List SRec) : List UInt8 := uD (rs.map recE)
theorem zA (rs : List SRec) (r : SRec) : logB (rs ++ [r]) = logB rs ++ kS (recE r) := by
 unfold logB uD
 simp
theorem TB : lV [] = none := by decide
theorem yB (rs : List SRec) (t : List (List UInt8)) (h : ∀ r ∈ rs, oZ r) : okL (rs.map recE ++ t) = rs.map recE ++ okL t := by
 induction rs with
 | nil => rfl
 | cons r rs ih =>
  have hr := h r List.mem_cons_self
  have := ih (fun x hx => h x (List.mem_cons_of_mem _ hx))
  show List.takeWhile _ (recE r :: (rs.map recE ++ t)) = _
  rw [List.takeWhile_cons_of_pos (p := fun x => (decR x).2 == 0) (by rw [JZ hr.sound hr.ok hr.len]; rfl)]
  exact congrArg _ this
theorem yE (rs : List SRec) (h : ∀ r ∈ rs, oZ r) : (rs.map recE).map (fun x => (decR x).1) = rs := by
 rw [List.map_map]
 conv => rhs; rw [← List.map_id rs]
 apply List.map_congr_left
 intro r hr
 have := h r hr
 simp only [Function.comp, id]
 rw [JZ this.sound this.ok this.len]
theorem OZ (rs : List SRec) (h : ∀ r ∈ rs, oZ r) : lK (logB rs) = rs.map recE := by
 have := yT (rs.map recE) [] (fun x hx => by obtain ⟨r, hr, rfl⟩ := List.mem_map.1 hx; exact (h r hr).len)
 rw [List.append_nil, kV TB, List.append_nil] at this
 exact this
theorem J6 (rs : List SRec) (h : ∀ r ∈ rs, oZ r) : qM (lK (logB rs)) = rs := by
 rw [OZ rs h]
 unfold qM
 have := yB rs [] h
 rw [List.append_nil, show okL [] = [] from rfl, List.append_nil] at this
 rw [this, yE rs h]
theorem XF {d : DM} {rs : List SRec} (hb : d.bs = logB rs) (h : ∀ r ∈ rs, oZ r) : walN d = d.bs.length := by
 unfold walN
 rw [hb, OZ rs h]
 have := yB rs [] h
 rw [List.append_nil, show okL [] = [] from rfl, List.append_nil] at this
 rw [this]
 unfold logB
 rw [LP]
structure Has (d : DM) (rs : List SRec) : Prop where
 bs : d.bs = logB rs
 las : d.lasts = d.bs.length
 live : d.left = -1
theorem Has.opened {d : DM} {rs : List SRec} (hd : Has d rs) (h : ∀ r ∈ rs, oZ r) : rX d = 0 ∧ xY d = d := by
 obtain ⟨h1, h2⟩ := yN hd.live
 refine ⟨h1, ?_⟩
 rw [h2, XF hd.bs h, List.take_length]
 have := hd.las
 have h3 := hd.live
 cases d
 simp only at this h3 ⊢
 rw [this, h3]
theorem Has.crash {d : DM} {rs : List SRec} (hd : Has d rs) (keep : Int) : d.crash keep = d := by
 have h1 := hd.las
 have h2 := hd.live
 have hk : d.kept keep = d.bs.length := by unfold DM.kept; rw [h1]; omega
 unfold DM.crash
 rw [hk, List.take_length]
 cases d
 simp only at h1 h2 ⊢
 rw [h1, h2]
theorem Has.force {d : DM} {rs : List SRec} (hd : Has d rs) (r : SRec) (hs : kC r = true) (hk : zQ r) :
  (nH d r = 0 ∧ oZ r ∧ Has (lM d r) (rs ++ [r])) ∨ (nH d r ≠ 0 ∧ lM d r = d) := by
 by_cases he : (encR r).2 = 0
 ·have hen : encR r = (nums (recE r), 0) := by
   rcases pO r with h | h | h
   ·rw [h] at he; cases he
   ·rw [h] at he; cases he
   ·exact h
  have hLE : nU d r = d.appE (kS (recE r)) := by unfold nU; rw [if_pos he]
  have hLD : nC d r = d.app (kS (recE r)) := by unfold nC; rw [if_pos he]
  by_cases hf : d.full (kS (recE r))
  ·obtain ⟨h1, h2⟩ := XT hf hd.live
   refine .inr ⟨?_, ?_⟩
   ·unfold nH; rw [hLE, h2, if_neg (by decide)]; decide
   ·unfold lM; rw [hLE, h2, if_neg (by decide), hLD, h1]
  ·obtain ⟨h1, h2⟩ := X5 hf hd.live
   have hsy := zD (d := d.app (kS (recE r))) (by rw [h1]; exact hd.live)
   refine .inl ⟨?_, ⟨hs, hk, yY hen⟩, ?_⟩
   ·unfold nH; rw [hLE, h2, if_pos rfl, hLD, hsy.2]
   ·have hFD : lM d r = (d.app (kS (recE r))).sync := by unfold lM; rw [hLE, h2, if_pos rfl, hLD, hsy.2, if_pos rfl]
    rw [hFD, hsy.1, h1]
    exact ⟨by rw [zA, ← hd.bs], rfl, hd.live⟩
 ·have hLE : nU d r = (encR r).2 := by unfold nU; rw [if_neg he]
  have hLD : nC d r = d := by unfold nC; rw [if_neg he]
  refine .inr ⟨?_, ?_⟩
  ·unfold nH; rw [hLE, if_neg he]; exact he
  ·unfold lM; rw [hLE, if_neg he, hLD]
theorem Has.new (room : Nat) : Has (DM.new room) [] := ⟨rfl, rfl, rfl⟩
end Go.Proofs.YtgfkgppomaapiaaDoor.K
end

section
namespace Go.Proofs.YtgfkgppomaapiaaDoor.K
open RowKit YtgfkgppomaapiaaDoorW.PrintWords YtgfkgppomaapiaaDoorW.PrintLast YtgfkgppomaapiaaDoorW.PrintMore My
def r5 : SRec := ⟨3, 5, 0, [], [], ⟨0, []⟩, 0, 0, []⟩
def r6 : SRec := ⟨3, 6, 0, [], [], ⟨0, []⟩, 0, 0, []⟩
def kd1 : DM := lM (DM.new 900) r5
def kd2 : DM := nC kd1 r6
def kd3 : DM := kd2.crash 0
theorem PQ : nH (DM.new 900) r5 = 0 := by decide +kernel
theorem j00 : nU kd1 r6 = 0 := by decide +kernel
theorem je8 : kd3.bs = kd1.bs := by decide +kernel
theorem j2_ : kd3.left = -1 := by decide +kernel
theorem jd0 : kd3.lasts = kd3.bs.length := by decide +kernel
theorem ZL : kd3.room = 900 := by decide +kernel
theorem jf1 : zQ r5 := ⟨by decide, by decide, by decide, fun _ h => by (cases h), by decide, fun _ h => by (cases h)⟩
theorem VI : oZ r5 ∧ Has kd1 [r5] := by
 rcases (Has.new 900).force r5 (by decide) jf1 with ⟨_, h2, h3⟩ | ⟨h1, _⟩
 ·exact ⟨h2, h3⟩
 ·exact absurd PQ h1
theorem Z7 : Has kd3 [r5] := ⟨by rw [je8]; exact VI.2.bs, jd0, j2_⟩
theorem Z4 : ∀ r ∈ [r5], oZ r := fun r hr => by
 obtain rfl := List.mem_singleton.1 hr
 exact VI.1
theorem P8 (w : World) (k i : Int) : Lies w ⟨k, i, 0, [], [], ⟨0, []⟩, 0, 0, []⟩ none 0 none 0 none 0 none 0 := ⟨Kd.C_nil _ _, Nat.le_refl _, Kd.C_nil _ _, Nat.le_refl _, Kd.C_nil _ _, Nat.le_refl _, Kd.C_nil _ _, Nat.le_refl _⟩
theorem One.open {w0 w w' : World} {b : Nat} {row : Option Nat} {d : DM} {e : Ending} (h : One w0 w b row d) (hp : jb8 w b row d e w') (hE : rX d = 0) :
  ∃ row' g v, One w0 w' b row' (xY d) ∧ e = .returned (.tuple #[.pointer (some ⟨g, 0, none⟩), v, .int .u16 0]) ∧ Lg w' g b ∧ RRs w' w.heap.size v (qM (lK d.bs)) ∧ Kb b row w w' ∧ w0.heap.size ≤ g := by
 obtain ⟨row', h1, h2, h3, ⟨_, g, v, he, hg, hl, hr⟩ | ⟨hne, _⟩⟩ := hp
 ·exact ⟨row', g, v, h.step h1 h2 h3, he, hl, hr, h3, Nat.le_trans h.bel.size hg⟩
 ·exact absurd hE hne
theorem One.dpk {w0 w w' : World} {b : Nat} {row : Option Nat} {d d' : DM} {v : Value} {e : Ending} (h : One w0 w b row d) (hp : DP v w b row d' e w') : e = .returned v ∧ Kb b row w w' ∧ ∃ row', One w0 w' b row' d' := by
 obtain ⟨he, row', h1, h2, h3⟩ := hp
 exact ⟨he, h3, row', h.step h1 h2 h3⟩
attribute [-go_sem] Instr.build Instr.storeAt
attribute [local go_sem] ZF
set_option maxRecDepth 20000 in
set_option maxHeartbeats 8000000 in
theorem U6 (w : World) : Calls Tryd.prog 37 #[] w fun e w' => e = .returned (.bool true) ∧ Below w.heap.size w w' := by
 have hopn := (Has.new 900).opened (fun r hr => by cases hr)
 go_enter Tryd.func37, Tryd.ntmps37
 go_wp2_with fail
 go_at_call 38
 refine (jc1 900 w (by omega)).mono ?_
 rintro e w1 ⟨rfl, hd1, hb1⟩
 have H1 := iC.mk (One.new (Below.refl _ _) hd1 hb1)
 obtain ⟨b, hb⟩ : ∃ b, b = w.heap.size := ⟨_, rfl⟩
 rw [← hb] at H1 ⊢
 clear hd1 hb1 hb
 have hcall := open_any H1.out.dd (by show ((0 : Nat) : Int) ≤ 1000000; omega)
 go_wp2_with fail
 go_at_call 39
 refine hcall.mono ?_
 intro e w2 hp
 obtain ⟨row2, g, v2, h2, rfl, hg2, hr2, hk2, _⟩ := H1.out.open hp hopn.1
 rw [hopn.2] at h2
 have H2 := iC.mk h2
 have HG2 := iC.mk hg2
 obtain ⟨A2, c2, rfl⟩ := Kd.R_slice hr2
 clear hcall hp h2 hg2 hr2 hk2 hopn
 have hcall := MH H2.out.dd HG2.out (P8 w2 3 5)
 rw [show (⟨3, 5, 0, [], [], ⟨0, []⟩, 0, 0, []⟩ : SRec) = r5 from rfl, PQ, show lM (DM.new 900) r5 = kd1 from rfl] at hcall
 simp only [r5, List.length_nil] at hcall
 go_wp2_with fail
 go_at_call 41
 refine hcall.mono ?_
 intro e w3 hp
 obtain ⟨rfl, hk3, row3, h3⟩ := H2.out.dpk hp
 have H3 := iC.mk h3
 have HG3 := iC.mk (HG2.out.kb H2.out.dd hk3)
 clear hcall hp h3 hk3
 have hcall := P6 H3.out.dd HG3.out (P8 w3 3 6)
 rw [show (⟨3, 6, 0, [], [], ⟨0, []⟩, 0, 0, []⟩ : SRec) = r6 from rfl, j00, show nC kd1 r6 = kd2 from rfl] at hcall
 simp only [r6, List.length_nil] at hcall
 go_wp2_with fail
 go_at_call 45
 refine hcall.mono ?_
 intro e w4 hp
 obtain ⟨rfl, hk4, row4, h4⟩ := H3.out.dpk hp
 have H4 := iC.mk h4
 clear hcall hp h4 hk4
 have hcall := OC 0 H4.out.dd
 rw [show kd2.crash 0 = kd3 from rfl] at hcall
 go_wp2_with fail
 go_at_call 43
 refine hcall.mono ?_
 intro e w5 hp
 obtain ⟨rfl, hk5, row5, h5⟩ := H4.out.dpk hp
 have H5 := iC.mk h5
 clear hcall hp h5 hk5
 have hopn := Z7.opened Z4
 have hcall := open_any H5.out.dd (by have := H5.out.dd.2.fit; have hr := ZL; omega)
 go_wp2_with fail
 go_at_call 39
 refine hcall.mono ?_
 intro e w6 hp
 obtain ⟨row6, g6, v6, h6, rfl, hg6, hr6, hk6, _⟩ := H5.out.open hp hopn.1
 rw [Z7.bs, J6 _ Z4] at hr6
 have H6 := iC.mk h6
 obtain ⟨A6, c6, rfl, hc6, C6⟩ := Kd.R_reads hr6
 obtain ⟨ad, cc, rfl, _, hK, hcc⟩ := Kd.C_get C6 default 0 (by omega) (by simp)
 obtain ⟨_, _, _, _, _, _, _, _, rfl, _⟩ := OO hK
 have hid := hcc 1 _ rfl
 rw [show (0 : Int).toNat * kR.sz + 1 = 0 + 1 from rfl, pU _ _ 1 (by omega), Addr.add_zero'] at hid
 have hid : w6.cell? ⟨ad.block, ad.off + 1, none⟩ = some (.int .u32 5) := hid
 clear hcall hp h6 hg6 hr6 hk6 hopn C6 hK hcc
 simp only [List.length_singleton]
 go_wp2
 go_ret
 exact ⟨rfl, H6.out.bel⟩
end Go.Proofs.YtgfkgppomaapiaaDoor.K
end

section
namespace Go.Proofs.YtgfkgppomaapiaaDoor.K
open RowKit YtgfkgppomaapiaaDoorW.PrintWords YtgfkgppomaapiaaDoorW.PrintLast YtgfkgppomaapiaaDoorW.PrintMore My
structure OpW (o : SOp) : Prop where
 k : 0 ≤ o.k ∧ o.k < 256
 r : RecW o.r
 wh : 0 ≤ o.wh ∧ o.wh < 256
 n : -9223372036854775808 ≤ o.n ∧ o.n ≤ 9223372036854775807
theorem XC (x : Int) : 0 ≤ IntKind.u16.wrap x ∧ IntKind.u16.wrap x < 65536 := by
 rw [show IntKind.u16.wrap x = x % 65536 by simp [IntKind.wrap, IntKind.bits, IntKind.signed]]
 omega
theorem MC {o : SOp} (h : OpW o) : kC (IB o) = true :=
 RU _ _ _ _ _ _ _ _ _ h.wh.1 (fun v hv => by cases hv) (XC _) ⟨by decide, by decide⟩ (fun e he => (h.r.n9 e he).1.1)
theorem UJ {o : SOp} (h : OpW o) : zQ (IB o) :=
 ZI _ _ _ _ _ _ _ _ _ h.r.ok.id h.r.ok.at_ h.r.n4 h.r.n9
attribute [-go_sem] Instr.build Instr.storeAt Instr.loadAt
end Go.Proofs.YtgfkgppomaapiaaDoor.K
end

section
namespace Go.Proofs.YtgfkgppomaapiaaDoor.K
open Go Go.RowKit Go.Deep Go.ChangeShapes Go.WideShapes Go.ChangeAt Go.Proofs.YtgfkgppomaapiaaDoorW.PrintWords Go.Proofs.YtgfkgppomaapiaaDoor.My
def wtW (o : SOp) : Nat := wtR o.r
theorem Y1 : Came kOp 78 OpW wtW := by
 intro H enc w fuel cs x h
 obtain ⟨xs, n, rfl, rfl, hl, hlen, hf⟩ := DataW.trod_struct Tryd.underlying78 h
 match xs, hlen with
 | [y0, y1, y2, y3], _ =>
  rw [show Tryd.prog.cellsOf 78 = 13 from by kernel_rfl] at hl
  obtain ⟨a0, p0, o0, b0⟩ := lQ Tryd.underlying5 enc w n _ y0 (hf 0 _ rfl)
  obtain ⟨r, hr, o1, b1⟩ := O1 enc (hf 1 _ rfl)
  obtain ⟨a2, p2, o2, b2⟩ := lQ Tryd.underlying5 enc w n _ y2 (hf 2 _ rfl)
  obtain ⟨a3, p3, o3, b3⟩ := lQ Tryd.underlying3 enc w n _ y3 (hf 3 _ rfl)
  obtain ⟨A3, c3, A4, c4, A6, c6, A9, c9, p1, g3, l3, g4, l4, g6, l6, g9, l9⟩ := hr
  have p0 : List.take (Tryd.prog.cellsOf 5) (List.drop 0 cs) = [.int .u8 a0] := p0
  rw [show Tryd.prog.cellsOf 5 = 1 from by kernel_rfl] at p0
  have p1 : List.take (Tryd.prog.cellsOf 30) (List.drop 1 cs) = [.int .u8 r.f0, .int .u32 r.f1, .int .u32 r.f2, .slice A3 r.f3.length c3, .slice A4 r.f4.length c4, .int .u32 r.f5.f0, .slice A6 r.f5.f1.length c6, .int .i64 r.f6, .int .i64 r.f7, .slice A9 r.f8.length c9] := p1
  rw [show Tryd.prog.cellsOf 30 = 10 from by kernel_rfl] at p1
  have p2 : List.take (Tryd.prog.cellsOf 5) (List.drop 11 cs) = [.int .u8 a2] := p2
  rw [show Tryd.prog.cellsOf 5 = 1 from by kernel_rfl] at p2
  have p3 : List.take (Tryd.prog.cellsOf 3) (List.drop 12 cs) = [.int .i64 a3] := p3
  rw [show Tryd.prog.cellsOf 3 = 1 from by kernel_rfl] at p3
  obtain ⟨z0, t0, rfl, ht0⟩ := nK hl
  obtain ⟨z1, t1, rfl, ht1⟩ := nK ht0
  obtain ⟨z2, t2, rfl, ht2⟩ := nK ht1
  obtain ⟨z3, z4, z5, z6, z7, z8, z9, z10, z11, z12, rfl⟩ := PG ht2
  have s0 : [z0] = [.int .u8 a0] := p0
  have s1 : [z1, z2, z3, z4, z5, z6, z7, z8, z9, z10] = _ := p1
  have s2 : [z11] = [.int .u8 a2] := p2
  have s3 : [z12] = [.int .i64 a3] := p3
  simp only [List.cons.injEq, and_true] at s0 s1 s2 s3
  obtain ⟨rfl, rfl, rfl, rfl, rfl, rfl, rfl, rfl, rfl, rfl⟩ := s1
  subst s0; subst s2; subst s3
  refine ⟨⟨a0, r, a2, a3⟩, ⟨[.int .u8 a0], _, rfl, rfl, _, _, rfl, kR_K (⟨g3, l3, g4, l4, g6, l6, g9, l9⟩ : Lies w r A3 c3 A4 c4 A6 c6 A9 c9), [.int .u8 a2], [.int .i64 a3], rfl, rfl, rfl⟩, ⟨wf_u8 o0, o1, wf_u8 o2, wf_i64 o3⟩, ?_⟩
  show wtR r ≤ _
  simp only [Rows.uptoBulk, Rows.uptoBulkAll, List.map_cons, List.map_nil]
  omega
theorem came_wops : Came (Kd.slice 78 kOp) 66 (fun l => ∀ v ∈ l, OpW v) (fun l => qE wtW l + 1) :=
 pM Tryd.underlying66 (by kernel_rfl) Y1
end Go.Proofs.YtgfkgppomaapiaaDoor.K
end

section
namespace Go.Proofs.YtgfkgppomaapiaaDoor.My
theorem ZK (b b' : List UInt8) (h : b.take 3 = b'.take 3) (h3 : 3 ≤ b.length) (h3' : 3 ≤ b'.length) : num3 b = num3 b' := by
 have e : ∀ i, i < 3 → b.getD i 0 = b'.getD i 0 := fun i hi => by
  have := congrArg (fun l => l.getD i 0) h
  simp only [List.getD_eq_getElem?_getD, List.getElem?_take, if_pos hi] at this
  simpa [List.getD_eq_getElem?_getD] using this
 unfold num3
 rw [e 0 (by omega), e 1 (by omega), e 2 (by omega)]
theorem UI (x : List UInt8) (h : x.length ≤ 60000) : num3 (kS x) = x.length := by
 have := N8 x.length (by omega) (x ++ pI (headB x.length ++ x))
 rw [← List.append_assoc] at this
 exact this
theorem PK (x : List UInt8) (m : Nat) (h : x.length ≤ 60000) (hm : m < x.length + 7) : lV ((kS x).take m) = none := by
 have hl : ((kS x).take m).length = m := by rw [List.length_take, lF]; omega
 unfold lV
 by_cases h7 : m < 7
 ·rw [if_pos (by omega)]
 ·have hn : num3 ((kS x).take m) = x.length := by
   rw [← UI x h]
   exact ZK _ _ (by rw [List.take_take, Nat.min_eq_left (by omega)]) (by omega) (by rw [lF]; omega)
  rw [if_neg (by omega), if_pos (by omega)]
theorem XN (l : List (List UInt8)) (h : ∀ x ∈ l, x.length ≤ 60000) : ∀ m, ∃ j, j ≤ l.length ∧ lK ((uD l).take m) = l.take j ∧ ((uD l).length ≤ m → j = l.length) := by
 induction l with
 | nil => exact fun m => ⟨0, Nat.le_refl _, by simp [uD]; rfl, fun _ => rfl⟩
 | cons x l ih =>
  intro m
  have hx := h x List.mem_cons_self
  by_cases hm : m < x.length + 7
  ·refine ⟨0, Nat.zero_le _, ?_, fun hle => ?_⟩
   ·rw [nO, List.take_append_of_le_length (by rw [lF]; omega), kV (PK x m hx hm)]; rfl
   ·rw [nO, List.length_append, lF] at hle
    omega
  ·obtain ⟨j, h1, h2, h3⟩ := ih (fun y hy => h y (List.mem_cons_of_mem _ hy)) (m - (x.length + 7))
   refine ⟨j + 1, by rw [List.length_cons]; omega, ?_, fun hle => ?_⟩
   ·rw [nO, List.take_append, List.take_of_length_le (by rw [lF]; omega), lF, pG (IR x _ hx), List.drop_append_of_le_length (by rw [lF]; omega), List.drop_of_length_le (by rw [lF]; omega), List.nil_append, h2]
    rfl
   ·rw [nO, List.length_append, lF] at hle
    rw [List.length_cons, h3 (by omega)]
end Go.Proofs.YtgfkgppomaapiaaDoor.My
end

section
namespace Go.Proofs.YtgfkgppomaapiaaDoor.K
open RowKit YtgfkgppomaapiaaDoorW.PrintWords YtgfkgppomaapiaaDoorW.PrintLast YtgfkgppomaapiaaDoorW.PrintMore My
structure Lay (d : DM) (rs : List SRec) (n : Nat) : Prop where
 bs : d.bs = logB rs
 las : d.lasts = (logB (rs.take n)).length
 le : n ≤ rs.length
 live : d.left = -1
theorem WA (a b : List SRec) : logB (a ++ b) = logB a ++ logB b := by unfold logB uD; simp
theorem UK {α : Type} (a b : List α) (m : Nat) (h : a.length ≤ m) : (a ++ b).take m = a ++ b.take (m - a.length) := by
 rw [List.take_append]
 rw [List.take_of_length_le h]
theorem QF (rs : List SRec) (n m : Nat) (h : ∀ r ∈ rs, oZ r) (hn : n ≤ rs.length) (hm : (logB (rs.take n)).length ≤ m) : ∃ j, n ≤ j ∧ j ≤ rs.length ∧ qM (lK ((logB rs).take m)) = rs.take j := by
 have hsp : logB rs = logB (rs.take n) ++ logB (rs.drop n) := by rw [← WA, List.take_append_drop]
 have hg1 : ∀ r ∈ rs.take n, oZ r := fun r hr => h r (List.mem_of_mem_take hr)
 have hg2 : ∀ r ∈ rs.drop n, oZ r := fun r hr => h r (List.mem_of_mem_drop hr)
 obtain ⟨j, hj, hsc, _⟩ := XN ((rs.drop n).map recE) (fun x hx => by obtain ⟨r, hr, rfl⟩ := List.mem_map.1 hx; exact (hg2 r hr).len) (m - (logB (rs.take n)).length)
 rw [List.length_map, List.length_drop] at hj
 refine ⟨n + j, Nat.le_add_right _ _, by omega, ?_⟩
 rw [hsp, UK _ _ _ hm]
 have h1 := yT ((rs.take n).map recE) ((logB (rs.drop n)).take (m - (logB (rs.take n)).length)) (fun x hx => by obtain ⟨r, hr, rfl⟩ := List.mem_map.1 hx; exact (hg1 r hr).len)
 rw [show uD ((rs.take n).map recE) = logB (rs.take n) from rfl] at h1
 rw [h1]
 rw [show logB (rs.drop n) = uD ((rs.drop n).map recE) from rfl, hsc, ← List.map_take, ← List.map_append]
 have h2 : rs.take n ++ (rs.drop n).take j = rs.take (n + j) := by rw [List.take_add]
 rw [h2]
 have hg3 : ∀ r ∈ rs.take (n + j), oZ r := fun r hr => h r (List.mem_of_mem_take hr)
 unfold qM
 have := yB (rs.take (n + j)) [] hg3
 rw [List.append_nil, show okL [] = [] from rfl, List.append_nil] at this
 rw [this, yE _ hg3]
theorem Lay.crash {d : DM} {rs : List SRec} {n : Nat} (hd : Lay d rs n) (keep : Int) (h : ∀ r ∈ rs, oZ r) :
  ∃ j, n ≤ j ∧ j ≤ rs.length ∧ rX (d.crash keep) = 0 ∧ qM (lK (d.crash keep).bs) = rs.take j := by
 obtain ⟨j, h1, h2, h3⟩ := QF rs n (d.kept keep) h hd.le (by unfold DM.kept; rw [← hd.las]; omega)
 refine ⟨j, h1, h2, (yN (d := d.crash keep) rfl).1, ?_⟩
 rw [show (d.crash keep).bs = d.bs.take (d.kept keep) from rfl, hd.bs]
 exact h3
theorem uY (d : DM) (r : SRec) : (nC d r).room = d.room := by
 unfold nC
 split
 ·unfold DM.app
  (repeat' split) <;> rfl
 ·rfl
theorem RP (d : DM) (r : SRec) : (lM d r).room = d.room := by
 unfold lM
 split
 ·split
  ·unfold DM.sync
   split
   ·exact uY d r
   ·exact uY d r
  ·unfold DM.cut
   (repeat' split) <;> (unfold DM.sync; (repeat' split) <;> exact uY d r)
 ·exact uY d r
theorem rO (A : Option Addr) (n c hi : Nat) (hiI : Int) (e1 : hiI = hi) (h1 : hi ≤ n) (hc : n ≤ c) :
  ∀ W : World, (Instr.slice 71 (.slice A n c) none (some (.int .i64 hiI)) none).run Tryd.prog W = .ok (.slice A hi c) W := by
 subst e1
 intro W
 obtain ⟨i, hi0, hsz⟩ := Option.map_eq_some_iff.1 (show (Tryd.prog.info? 30).map (·.size) = some 10 from by kernel_rfl)
 have hel : Tryd.prog.elem 71 = 30 := by simp [Program.elem, Tryd.underlying71]
 have hu : Tryd.prog.underlying 71 = some (.slice (Tryd.prog.elem 71)) := by rw [hel]; exact Tryd.underlying71
 rw [run_slice_h W 71 A n c hu .i64 (hi : Int) (Int.natCast_nonneg _) (by omega), hel]
 simp [sizeOf, typeInfo, hi0, hsz, sliced, Result.andThen]
 intro _
 cases A with
 | none => rfl
 | some a => simp [Addr.add]
end Go.Proofs.YtgfkgppomaapiaaDoor.K
end

section
namespace Go.Proofs.YtgfkgppomaapiaaDoor.K
open RowKit YtgfkgppomaapiaaDoorW.PrintWords YtgfkgppomaapiaaDoorW.PrintLast YtgfkgppomaapiaaDoorW.PrintMore My
structure Run (d : DM) (rs : List SRec) : Prop where
 bs : d.bs = logB rs
 las : d.lasts = d.bs.length
structure Torn (d : DM) (rs : List SRec) (x : SRec) : Prop where
 bs : d.bs = logB rs ++ kS (recE x)
 las : d.lasts = (logB rs).length
 left : d.left = 0
 good : oZ x
theorem je6 {d : DM} (l : List UInt8) (hl : d.left ≠ 0) (h : ¬ d.full l) : d.app l = { d with bs := d.bs ++ l, left := dec d.left } ∧ d.appE l = 0 := by
 unfold DM.app DM.appE
 rw [if_neg hl, if_neg h, if_neg hl, if_neg h]
 exact ⟨rfl, rfl⟩
theorem WX {d : DM} (l : List UInt8) (hl : d.left ≠ 0) (h : d.full l) : d.app l = { d with left := dec d.left } ∧ d.appE l = 100 := by
 unfold DM.app DM.appE
 rw [if_neg hl, if_pos h, if_neg hl, if_pos h]
 exact ⟨rfl, rfl⟩
theorem Run.force {d : DM} {rs : List SRec} (hd : Run d rs) (hl : d.left ≠ 0) (r : SRec) (hs : kC r = true) (hk : zQ r) :
  (nH d r = 0 ∧ oZ r ∧ Run (lM d r) (rs ++ [r])) ∨ (nH d r ≠ 0 ∧ (Run (lM d r) rs ∨ Torn (lM d r) rs r)) := by
 by_cases he : (encR r).2 = 0
 ·have hen : encR r = (nums (recE r), 0) := by
   rcases pO r with h | h | h
   ·rw [h] at he; cases he
   ·rw [h] at he; cases he
   ·exact h
  have hg : oZ r := ⟨hs, hk, yY hen⟩
  have hLE : nU d r = d.appE (kS (recE r)) := by unfold nU; rw [if_pos he]
  have hLD : nC d r = d.app (kS (recE r)) := by unfold nC; rw [if_pos he]
  by_cases hf : d.full (kS (recE r))
  ·obtain ⟨h1, h2⟩ := WX _ hl hf
   refine .inr ⟨?_, .inl ?_⟩
   ·unfold nH; rw [hLE, h2, if_neg (by decide)]; decide
   ·unfold lM; rw [hLE, h2, if_neg (by decide), hLD, h1]; exact ⟨hd.bs, hd.las⟩
  ·obtain ⟨h1, h2⟩ := je6 _ hl hf
   by_cases h0 : dec d.left = 0
   ·have hs1 : (d.app (kS (recE r))).syncE = 100 := by rw [h1]; unfold DM.syncE; rw [if_pos h0]
    have hs2 : (d.app (kS (recE r))).sync = d.app (kS (recE r)) := by rw [h1]; unfold DM.sync; rw [if_pos h0]
    have hc : (d.app (kS (recE r))).cut d.bs.length = d.app (kS (recE r)) := by rw [h1]; unfold DM.cut; rw [if_pos h0]
    have hFD : lM d r = d.app (kS (recE r)) := by unfold lM; rw [hLE, h2, if_pos rfl, hLD, hs1, if_neg (by decide), hs2, hc]
    refine .inr ⟨?_, .inr ?_⟩
    ·unfold nH; rw [hLE, h2, if_pos rfl, hLD, hs1]; decide
    ·rw [hFD, h1]
     exact ⟨by rw [← hd.bs], by show d.lasts = _; rw [hd.las, hd.bs], h0, hg⟩
   ·have hs1 : (d.app (kS (recE r))).syncE = 0 := by rw [h1]; unfold DM.syncE; rw [if_neg h0]
    have hFD : lM d r = (d.app (kS (recE r))).sync := by unfold lM; rw [hLE, h2, if_pos rfl, hLD, hs1, if_pos rfl]
    refine .inl ⟨?_, hg, ?_⟩
    ·unfold nH; rw [hLE, h2, if_pos rfl, hLD, hs1]
    ·rw [hFD, h1]
     unfold DM.sync
     rw [if_neg h0]
     exact ⟨by rw [zA, ← hd.bs], rfl⟩
 ·have hLE : nU d r = (encR r).2 := by unfold nU; rw [if_neg he]
  have hLD : nC d r = d := by unfold nC; rw [if_neg he]
  refine .inr ⟨?_, .inl ?_⟩
  ·unfold nH; rw [hLE, if_neg he]; exact he
  ·unfold lM; rw [hLE, if_neg he, hLD]; exact hd
theorem PV {d : DM} {rs : List SRec} {x : SRec} (keep : Int) (h : ∀ r ∈ rs, oZ r) (hd : Run d rs ∨ Torn d rs x) :
  rX (d.crash keep) = 0 ∧ (qM (lK (d.crash keep).bs) = rs ∨ (qM (lK (d.crash keep).bs) = rs ++ [x] ∧ oZ x)) := by
 refine ⟨(yN (d := d.crash keep) rfl).1, ?_⟩
 rcases hd with hd | hd
 ·have hk : d.kept keep = d.bs.length := by unfold DM.kept; rw [hd.las]; omega
  rw [show (d.crash keep).bs = d.bs.take (d.kept keep) from rfl, hk, List.take_length, hd.bs]
  exact .inl (J6 rs h)
 ·have hlen : d.bs.length = (logB rs).length + (kS (recE x)).length := by rw [hd.bs, List.length_append]
  have hge : (logB rs).length ≤ d.kept keep := by unfold DM.kept; rw [hd.las]; omega
  rw [show (d.crash keep).bs = d.bs.take (d.kept keep) from rfl, hd.bs, UK _ _ _ hge]
  by_cases hf : (kS (recE x)).length ≤ d.kept keep - (logB rs).length
  ·rw [List.take_of_length_le hf, ← zA]
   exact .inr ⟨J6 (rs ++ [x]) (fun r hr => (List.mem_append.1 hr).elim (h r) (fun hr => by rw [List.mem_singleton.1 hr]; exact hd.good)), hd.good⟩
  ·have hn := PK (recE x) (d.kept keep - (logB rs).length) hd.good.len (by rw [lF] at hf; omega)
   have h1 := yT (rs.map recE) ((kS (recE x)).take (d.kept keep - (logB rs).length)) (fun y hy => by obtain ⟨r, hr, rfl⟩ := List.mem_map.1 hy; exact (h r hr).len)
   rw [show uD (rs.map recE) = logB rs from rfl, kV hn, List.append_nil] at h1
   rw [h1]
   refine .inl ?_
   unfold qM
   have := yB rs [] h
   rw [List.append_nil, show okL [] = [] from rfl, List.append_nil] at this
   rw [this, yE rs h]
theorem O8 {α : Type} {kd : Kd α} {e base : Nat} {v : Value} {xs : List α} {ok : Nat → Prop} {w w' : World} {b : Nat} {row : Option Nat} {d : DM} (hr : kd.R e w base ok v xs) (h : DD w b row d) (hk : Kb b row w w') (hE : ∀ q ∈ e :: kd.E, q ≠ 128 ∧ q ≠ 5) : kd.R e w' base ok v xs :=
 Kd.R_mono (Kd.R_move (Kd.R_bound hr) (fun k hq => by
  obtain ⟨_, _, _, q, hq, cells, hc⟩ := hq
  rw [hc]
  exact h.stays hk hc (hE q hq).1 (hE q hq).2)) (fun _ h => h.1)
theorem XG {α : Type} {kd : Kd α} {e base : Nat} {v : Value} {xs : List α} {ok : Nat → Prop} {w w' : World} {q : Option Nat} (hr : kd.R e w base ok v xs) (hg : w.grownBy w' q) (hq : ∀ k, q = some k → ∃ cs, w.heap[k]? = some (.cells cs 30 (0, 0))) (hE : ∀ q ∈ e :: kd.E, q ≠ 30) : kd.R e w' base ok v xs :=
 Kd.R_mono (Kd.R_move (Kd.R_bound hr) (fun k hk => by
  obtain ⟨_, _, hlt, t, ht, cells, hc⟩ := hk
  refine hg.block k hlt (fun e => ?_)
  obtain ⟨cs, hc'⟩ := hq k e.symm
  rw [hc] at hc'
  injection hc' with hc'
  injection hc' with _ hc'
  exact hE t ht hc')) (fun _ h => h.1)
section
variable {base : Nat} {w w' : World} {x : SRec} {A3 A4 A6 A9 : Option Addr} {a3 a4 a6 a9 : Nat}
theorem Owns.kb {b : Nat} {row : Option Nat} {d : DM} (h : Owns base w x A3 a3 A4 a4 A6 a6 A9 a9) (hd : DD w b row d) (hk : Kb b row w w') : Owns base w' x A3 a3 A4 a4 A6 a6 A9 a9 :=
 ⟨O8 h.r3 hd hk (by decide), O8 h.r4 hd hk (by decide), O8 h.r6 hd hk (by decide), O8 h.r9 hd hk (by decide)⟩
theorem Owns.grt {q : Option Nat} (h : Owns base w x A3 a3 A4 a4 A6 a6 A9 a9) (hg : w.grownBy w' q) (hq : ∀ k, q = some k → ∃ cs, w.heap[k]? = some (.cells cs 30 (0, 0))) : Owns base w' x A3 a3 A4 a4 A6 a6 A9 a9 :=
 ⟨XG h.r3 hg hq (by decide), XG h.r4 hg hq (by decide), XG h.r6 hg hq (by decide), XG h.r9 hg hq (by decide)⟩
end
theorem One.grt {w0 w w' : World} {b : Nat} {row : Option Nat} {d : DM} {q : Option Nat} (h : One w0 w b row d) (hg : w.grownBy w' q) (hq : ∀ k, q = some k → w0.heap.size ≤ k ∧ ∃ cs, w.heap[k]? = some (.cells cs 30 (0, 0))) : One w0 w' b row d := by
 have hne : ∀ k, q = some k → w0.heap.size ≤ k ∧ k ≠ b ∧ row ≠ some k := fun k e => by
  obtain ⟨h0, cs, hc⟩ := hq k e
  refine ⟨h0, fun e2 => ?_, fun e2 => ?_⟩
  ·subst e2
   obtain ⟨cs', hc'⟩ := h.dd.blk
   rw [hc] at hc'
   injection hc' with hc'
   injection hc' with _ hc'
   exact absurd hc' (by decide)
  ·obtain ⟨cs', hc'⟩ := h.dd.rowt k e2
   rw [hc] at hc'
   injection hc' with hc'
   injection hc' with _ hc'
   exact absurd hc' (by decide)
 obtain ⟨⟨ao, cap, lr, hD, hR⟩, hok⟩ := h.dd
 refine ⟨⟨⟨ao, cap, lr, (hg.block b hD.lt (fun e => (hne b e.symm).2.1 rfl)).trans hD, ?_⟩, hok⟩, h.blk, h.row, ?_⟩
 ·rcases hR with h1 | ⟨g, cur, e1, e2, h3, h4, h5⟩
  ·exact .inl h1
  ·exact .inr ⟨g, cur, e1, e2, h3, (hg.block g (jU h4) (fun e => (hne g e.symm).2.2 e2)).trans h4, h5⟩
 ·exact ⟨hg.os.trans h.bel.os, hg.tape.trans h.bel.tape, hg.output.trans h.bel.output, Nat.le_trans h.bel.size hg.size, fun k hk => (hg.block k (Nat.lt_of_lt_of_le hk h.bel.size) (fun e => by have := (hne k e.symm).1; omega)).trans (h.bel.block k hk)⟩
theorem Lg.grt {w w' : World} {g b : Nat} {q : Option Nat} (h : Lg w g b) (hg : w.grownBy w' q) (hq : ∀ k, q = some k → ∃ cs, w.heap[k]? = some (.cells cs 30 (0, 0))) : Lg w' g b :=
 (hg.block g (jU h) (fun e => by
  obtain ⟨cs', hc'⟩ := hq g e.symm
  rw [show w.heap[g]? = _ from h] at hc'
  injection hc' with hc'
  injection hc' with _ hc'
  exact absurd hc' (by decide))).trans h
structure Ln (w0 w : World) (b g q : Nat) (row : Option Nat) (d : DM) (rs : List SRec) (v : Value) (x : SRec) (A3 : Option Addr) (a3 : Nat) (A4 : Option Addr) (a4 : Nat) (A6 : Option Addr) (a6 : Nat) (A9 : Option Addr) (a9 : Nat) : Prop where
 one : One w0 w b row d
 lg : Lg w g b
 good : ∀ r ∈ rs, oZ r
 rr : kR.R 30 w w0.heap.size (fun k => k ≠ q) v rs
 nx : w.heap[q]? = some (.cells #[.int .u8 x.f0, .int .u32 x.f1, .int .u32 x.f2, .slice A3 x.f3.length a3, .slice A4 x.f4.length a4, .int .u32 x.f5.f0, .slice A6 x.f5.f1.length a6, .int .i64 x.f6, .int .i64 x.f7, .slice A9 x.f8.length a9] 30 (0, 0))
 own : Owns w0.heap.size w x A3 a3 A4 a4 A6 a6 A9 a9
 q0 : w0.heap.size ≤ q
 room : d.room = 524288
section
variable {w0 w w' : World} {b g q : Nat} {row row' : Option Nat} {d d' : DM} {rs : List SRec} {v : Value} {x y : SRec} {A3 A4 A6 A9 B3 B4 B6 B9 : Option Addr} {a3 a4 a6 a9 b3 b4 b6 b9 : Nat}
theorem Ln.below (h : Ln w0 w b g q row d rs v x A3 a3 A4 a4 A6 a6 A9 a9) (hb : Below w.heap.size w w') : Ln w0 w' b g q row d rs v x A3 a3 A4 a4 A6 a6 A9 a9 :=
 ⟨h.one.below hb, h.lg.below hb, h.good, Kd.R_below h.rr hb, iO hb h.nx, h.own.below hb, h.q0, h.room⟩
theorem Ln.kb {e : Ending} {u : Value} (h : Ln w0 w b g q row d rs v x A3 a3 A4 a4 A6 a6 A9 a9) (hp : DP u w b row d' e w') (hr : d'.room = d.room) : e = .returned u ∧ ∃ row', Ln w0 w' b g q row' d' rs v x A3 a3 A4 a4 A6 a6 A9 a9 := by
 obtain ⟨he, hk, row', h1⟩ := h.one.dpk hp
 exact ⟨he, row', h1, h.lg.kb h.one.dd hk, h.good, O8 h.rr h.one.dd hk XR, h.one.dd.stays hk h.nx (by decide) (by decide), h.own.kb h.one.dd hk, h.q0, hr.trans h.room⟩
theorem Ln.put (h : Ln w0 w b g q row d rs v x A3 a3 A4 a4 A6 a6 A9 a9) (ho : Owns w0.heap.size w y B3 b3 B4 b4 B6 b6 B9 b9) : Ln w0 (w.setRow q #[.int .u8 y.f0, .int .u32 y.f1, .int .u32 y.f2, .slice B3 y.f3.length b3, .slice B4 y.f4.length b4, .int .u32 y.f5.f0, .slice B6 y.f5.f1.length b6, .int .i64 y.f6, .int .i64 y.f7, .slice B9 y.f8.length b9]) b g q row d rs v y B3 b3 B4 b4 B6 b6 B9 b9 :=
 have hg := jR w q #[.int .u8 y.f0, .int .u32 y.f1, .int .u32 y.f2, .slice B3 y.f3.length b3, .slice B4 y.f4.length b4, .int .u32 y.f5.f0, .slice B6 y.f5.f1.length b6, .int .i64 y.f6, .int .i64 y.f7, .slice B9 y.f8.length b9]
 have hq : ∀ k, some q = some k → ∃ cs, w.heap[k]? = some (.cells cs 30 (0, 0)) := fun k e => by injection e with e; subst e; exact ⟨_, h.nx⟩
 ⟨h.one.grt hg (fun k e => ⟨by injection e with e; have := h.q0; omega, hq k e⟩), h.lg.grt hg hq, h.good,
  Kd.R_mono (Kd.R_grown (Kd.R_mono h.rr (fun _ hk => hk)) hg (fun k hk e => by injection e with e; exact hk e)) (fun _ hk => hk), setRow_heap _ _ _ _ _ _ h.nx, ho.grt hg hq, h.q0, h.room⟩
theorem Ln.append {r : SRec} {v' : Value} (h : Ln w0 w b g q row d rs v x A3 a3 A4 a4 A6 a6 A9 a9) (hr : oZ r) (hg : w.grownBy w' v.ownBlock) (ho : kR.R 30 w' w0.heap.size (fun k => k ≠ q) v' (rs ++ [r])) : Ln w0 w' b g q row d (rs ++ [r]) v' x A3 a3 A4 a4 A6 a6 A9 a9 := by
 obtain ⟨h0, inner, hown, _⟩ := h.rr
 have hq : ∀ k, v.ownBlock = some k → ∃ cs, w.heap[k]? = some (.cells cs 30 (0, 0)) := fun k e => mM hown k e
 exact ⟨h.one.grt hg (fun k e => ⟨own_base hown k e, hq k e⟩), h.lg.grt hg hq, fun z hz => (List.mem_append.1 hz).elim (h.good z) (fun hz => by rw [List.mem_singleton.1 hz]; exact hr), ho,
  (hg.block q (jU h.nx) (fun e => h0 q e.symm rfl)).trans h.nx, h.own.grt hg hq, h.q0, h.room⟩
end
end Go.Proofs.YtgfkgppomaapiaaDoor.K
end

section
namespace Go.Proofs.YtgfkgppomaapiaaDoor.K
open RowKit YtgfkgppomaapiaaDoorW.PrintWords YtgfkgppomaapiaaDoorW.PrintLast YtgfkgppomaapiaaDoorW.PrintMore My
theorem UC {base : Nat} {w : World} {x : SRec} {cs : List Value} {v : Value} {l : List SRec} {b0 q : Nat} {ok : Nat → Prop} {cells : Array Value} (h : kR.M w base (fun _ => True) x cs) (hv : kR.R 30 w b0 ok v l) (hq : w.heap[q]? = some (.cells cells 30 (0, 0))) : kR.M w base (fun k => k ≠ q ∧ some k ≠ v.ownBlock) x cs := by
 obtain ⟨_, inner, hown, _⟩ := hv
 refine kR.M_mono (fun k hk => ?_) (kR.M_bound h)
 obtain ⟨_, _, _, t, ht, cells', hc⟩ := hk
 refine ⟨fun e => ?_, fun e => ?_⟩
 ·subst e
  rw [hc] at hq
  injection hq with hq
  injection hq with _ hq
  exact kR_E t ht hq
 ·obtain ⟨cs', hc'⟩ := mM hown k e.symm
  rw [hc] at hc'
  injection hc' with hc'
  injection hc' with _ hc'
  exact kR_E t ht hc'
theorem jd1 {w0 : World} {A : Option Addr} {n : Nat} {l : List SOp} (H : kOp.C w0 A n l) (k : Nat) (hk : k < n) {ad : Addr} (hA : A = some ad) (w' : World) (hb : Below w0.heap.size w0 w') :
  ∃ A3 a3 A4 a4 A6 a6 A9 a9, Lies w' (l.getD k default).r A3 a3 A4 a4 A6 a6 A9 a9 ∧ (True → (Instr.loadAt 78 (.pointer (some (ad.add (k * 13))))).run Tryd.prog w' = .ok (.agg #[.int .u8 (l.getD k default).k, .int .u8 (l.getD k default).r.f0, .int .u32 (l.getD k default).r.f1, .int .u32 (l.getD k default).r.f2, .slice A3 (l.getD k default).r.f3.length a3, .slice A4 (l.getD k default).r.f4.length a4, .int .u32 (l.getD k default).r.f5.f0, .slice A6 (l.getD k default).r.f5.f1.length a6, .int .i64 (l.getD k default).r.f6, .int .i64 (l.getD k default).r.f7, .slice A9 (l.getD k default).r.f8.length a9, .int .u8 (l.getD k default).wh, .int .i64 (l.getD k default).n]) w') := by
 obtain ⟨ad', B3, b3, B4, b4, B6, b6, B9, b9, he, h1, h2, _⟩ := jb4 (Kd.C_below H hb) k hk
 rw [hA] at he
 injection he with he
 subst he
 exact ⟨B3, b3, B4, b4, B6, b6, B9, b9, h1, h2⟩
theorem ZQ {w0 : World} {A : Option Addr} {n : Nat} {l : List SOp} (H : kOp.C w0 A n l) (hk : 0 < n) : ∃ ad, A = some ad := by
 obtain ⟨ad, _, h, _⟩ := H.2.2 hk |> fun ⟨ad, h, _⟩ => (⟨ad, 0, h, trivial⟩ : ∃ ad : Addr, ∃ _ : Nat, A = some ad ∧ True)
 exact ⟨ad, h⟩
end Go.Proofs.YtgfkgppomaapiaaDoor.K
end

section
namespace Go.Proofs.YtgfkgppomaapiaaDoor.K
open RowKit YtgfkgppomaapiaaDoorW.PrintWords YtgfkgppomaapiaaDoorW.PrintLast YtgfkgppomaapiaaDoorW.PrintMore My
attribute [-go_sem] Instr.build Instr.storeAt Instr.loadAt
attribute [local go_sem] NZ
set_option maxRecDepth 20000 in
set_option maxHeartbeats 16000000 in
theorem walLasts_walk (A : Option Addr) (c : Nat) (l : List SOp) (halt keep : Int) (w0 : World) (h : kOp.C w0 A l.length l) (hc : l.length ≤ c) (hok : ∀ o ∈ l, OpW o) (hhalt : 0 ≤ halt ∧ halt < 256) (_ : -9223372036854775808 ≤ keep ∧ keep ≤ 9223372036854775807) :
  Calls Tryd.prog 14 #[.slice A l.length c, .int .u8 halt, .int .i64 keep] w0 fun e w' => e = .returned (.bool true) ∧ Below w0.heap.size w0 w' := by
 obtain ⟨hr0, hr1⟩ := hhalt
 have hhe := ZN A c l w0 h
 have hm := lC h
 have H := iC.mk h
 have HOK := iC.mk hok
 clear h hok
 obtain ⟨N, hN⟩ : ∃ N : Nat, (N : Int) = halt % 60 := ⟨(halt % 60).toNat, by omega⟩
 have hN2 : (N : Int) < 60 := by omega
 have q1 : halt.tmod 60 = N := by rw [hN, Int.tmod_eq_emod_of_nonneg hr0]
 have q2 : halt % 60 = N := hN.symm
 clear hN
 go_enter Tryd.func14, Tryd.ntmps14
 go_wp2_with fail
 go_at_call 36
 refine hhe.mono ?_
 rintro e w1 ⟨B, rfl, h40, hb1⟩
 have HB1 := iC.mk hb1
 clear hhe hb1
 cases B with
 | true =>
  go_wp2_with fail
  go_at_call 37
  refine (U6 _).mono ?_
  rintro e w2 ⟨rfl, hb2⟩
  go_wp2
  go_ret
  exact ⟨rfl, iK HB1.out hb2⟩
 | false =>
  have hl40 := h40 rfl
  clear h40
  go_wp2_with fail
  go_at_call 37
  refine (U6 _).mono ?_
  rintro e w2 ⟨rfl, hb2⟩
  have HB2 := iC.mk (iK HB1.out hb2)
  clear hb2 HB1
  go_wp2_with fail
  go_at_call 38
  refine (jc1 524288 w2 (by omega)).mono ?_
  rintro e w3 ⟨rfl, hd3, hb3⟩
  have H3 := iC.mk (One.new HB2.out hd3 hb3)
  obtain ⟨b, hb⟩ : ∃ b, b = w2.heap.size := ⟨_, rfl⟩
  rw [← hb] at H3 ⊢
  clear hd3 hb3 hb HB2
  have hopn := (Has.new 524288).opened (fun r hr => by cases hr)
  have hcall := open_any H3.out.dd (by show ((0 : Nat) : Int) ≤ 1000000; omega)
  go_wp2_with fail
  go_at_call 39
  refine hcall.mono ?_
  intro e w4 hp
  obtain ⟨row4, g, v4, h4, rfl, hg4, hr4, hk4, _⟩ := H3.out.open hp hopn.1
  rw [hopn.2] at h4
  have H4 := iC.mk h4
  have HG4 := iC.mk hg4
  clear hcall hp h4 hg4 hr4 hk4 hopn H3
  have hcall := jd9 (N : Int) (by omega) H4.out.dd
  go_wp2_with fail
  go_at_call 46
  refine hcall.mono ?_
  intro e w5 hp
  obtain ⟨rfl, hk5, row5, h5⟩ := H4.out.dpk hp
  have hg5 := HG4.out.kb H4.out.dd hk5
  have hsx := fun (_ : True) => run_storeAt_new (P := Tryd.prog) w5 30 #[.int .u8 0, .int .u32 0, .int .u32 0, .slice none 0 0, .slice none 0 0, .int .u32 0, .slice none 0 0, .int .i64 0, .int .i64 0, .slice none 0 0] #[.int .u8 0, .int .u32 0, .int .u32 0, .slice none 0 0, .slice none 0 0, .int .u32 0, .slice none 0 0, .int .i64 0, .int .i64 0, .slice none 0 0] (by kernel_rfl) rfl (by simp [Value.oneCell'])
  obtain ⟨W6, hW6⟩ : ∃ W, W = w5.alloc (.cells #[.int .u8 0, .int .u32 0, .int .u32 0, .slice none 0 0, .slice none 0 0, .int .u32 0, .slice none 0 0, .int .i64 0, .int .i64 0, .slice none 0 0] 30) := ⟨_, rfl⟩
  have hb6 : Below w5.heap.size w5 W6 := by rw [hW6]; exact iG (Below.refl _ _) _
  have HL := iC.mk (show Ln w0 W6 b g w5.heap.size row5 ((DM.new 524288).halt N) [] (.slice none 0 0) mX none 0 none 0 none 0 none 0 from
   ⟨h5.below hb6, hg5.below hb6, fun r hr => (by cases hr), Kd.R_nil _ _ _ _ _, by rw [hW6]; exact jB rfl, ⟨Kd.R_nil _ _ _ _ _, Kd.R_nil _ _ _ _ _, Kd.R_nil _ _ _ _ _, Kd.R_nil _ _ _ _ _⟩, h5.bel.size, rfl⟩)
  have HRUN := iC.mk (show Run ((DM.new 524288).halt N) [] ∨ Torn ((DM.new 524288).halt N) [] mX from .inl ⟨rfl, rfl⟩)
  have HW6 := iC.mk hW6
  obtain ⟨q, hq⟩ : ∃ q, q = w5.heap.size := ⟨_, rfl⟩
  rw [← hq] at HL
  have HQ := iC.mk hq
  clear hcall hp hk5 h5 hg5 hb6 hW6 hq H4 HG4
  go_upto_region 12 with fail
  rw [← HW6.out, ← HQ.out]
  clear hsx HW6 HQ
  go_wp2
  go_loopw [11, 13] (fun a i wr => ∃ (k : Nat) (rs : List SRec) (row : Option Nat) (d : DM) (x : SRec) (A3 : Option Addr) (a3 : Nat) (A4 : Option Addr) (a4 : Nat) (A6 : Option Addr) (a6 : Nat) (A9 : Option Addr) (a9 : Nat), k ≤ l.length ∧ i = .int .i64 k ∧ iC (Ln w0 wr b g q row d rs a x A3 a3 A4 a4 A6 a6 A9 a9) ∧ iC (Run d rs ∨ Torn d rs x) ∧ iC (rs.length ≤ k)) (fun _ i _ => l.length - (intOf i).toNat)
  case atStart => exact ⟨0, [], row5, _, mX, none, 0, none, 0, none, 0, none, 0, Nat.zero_le _, rfl, HL, HRUN, ⟨Nat.le_refl _⟩⟩
  case round =>
   obtain ⟨k, rs, row, d, x, A3, a3, A4, a4, A6, a6, A9, a9, hk, rfl, HL, HRUN, HN⟩ := hrel
   obtain ⟨Aa, ca, rfl⟩ := Kd.R_slice HL.out.rr
   obtain ⟨wr0, rfl⟩ : ∃ x : World, x = wr := ⟨_, rfl⟩
   by_cases hlt : k < l.length
   ·have HLT := iC.mk hlt
    have hk1 : (k : Int) < (l.length : Int) := by omega
    have hcall := Y6 HL.out.one.dd
    by_cases hz : d.left = 0
    ·rw [decide_eq_true hz] at hcall
     clear hlt hz
     go_wp2_with fail
     go_at_call 47
     refine hcall.mono ?_
     rintro e wh ⟨rfl, rfl⟩
     clear hcall
     have hrd := PV keep HL.out.good HRUN.out
     obtain ⟨hopE, hG⟩ := hrd
     have hcall := OC keep HL.out.one.dd
     have hcr : (d.crash keep).room = d.room := rfl
     obtain ⟨D, hDD⟩ : ∃ D, d.crash keep = D := ⟨_, rfl⟩
     rw [hDD] at hcall hopE hG hcr
     have HG := iC.mk hG
     have HCR := iC.mk hcr
     clear hG hcr hDD HRUN
     go_wp2_with fail
     go_at_call 43
     refine hcall.mono ?_
     intro e wa hp
     obtain ⟨rfl, rowa, hLa⟩ := HL.out.kb hp HCR.out
     have HLa := iC.mk hLa
     clear hcall hp hLa HL HCR
     have hcall := open_any HLa.out.one.dd (by have := HLa.out.one.dd.2.fit; have := HLa.out.room; omega)
     go_wp2_with fail
     go_at_call 39
     refine hcall.mono ?_
     intro e wb hp
     obtain ⟨rowb, g2, vb, hOb, rfl, hgb, hrb, hkb, _⟩ := HLa.out.one.open hp hopE
     have hrr := O8 HLa.out.rr HLa.out.one.dd hkb XR
     have hnx := HLa.out.one.dd.stays hkb HLa.out.nx (by decide) (by decide)
     have hown := HLa.out.own.kb HLa.out.one.dd hkb
     have HGD := iC.mk HLa.out.good
     have HOb := iC.mk hOb
     obtain ⟨G, hGG⟩ : ∃ G, qM (lK D.bs) = G := ⟨_, rfl⟩
     rw [hGG] at hrb HG
     obtain ⟨Ag, cg, rfl, hcg, Cg⟩ := Kd.R_reads hrb
     obtain ⟨_, hca, Ca⟩ := Kd.R_reads' hrr
     have hsl : ∀ x ∈ rs, SLen x := fun x hx => rQ x (HGD.out x hx).sound
     clear hcall hp hOb hgb hrb hkb hopE hGG hrr HLa
     rcases HG.out with rfl | ⟨rfl, hgx⟩
     ·have hcall := PR Ag Aa cg ca G wb Cg Ca hsl
      have hcut := rO Ag G.length cg G.length (G.length : Int) rfl (Nat.le_refl _) hcg
      have hrl : (G.length : Int) ≤ 40 := by have := HN.out; omega
      clear Cg Ca hsl hnx hown hcg
      go_wp2_with fail
      go_at_call 44
      refine hcall.mono ?_
      rintro e wc ⟨rfl, hbc⟩
      clear hcall
      go_upto_region 23 with fail
      go_quiet (fail)
      go_wp2
      go_ret
      exact ⟨rfl, iF (iK HOb.out.bel hbc) _⟩
     ·have hgl : (rs ++ [x]).length = rs.length + 1 := by rw [List.length_append]; rfl
      have hCt := Kd.C_take Cg (show rs.length ≤ (rs ++ [x]).length from by rw [hgl]; exact Nat.le_succ _)
      rw [List.take_left] at hCt
      obtain ⟨ag, G3, g3, G4, g4, G6, g6, G9, g9, rfl, hLg, hldg⟩ := P9 Cg rs.length (by rw [hgl]; exact Nat.lt_succ_self _)
      have hx : (rs ++ [x]).getD rs.length default = x := by simp [List.getD_eq_getElem?_getD]
      rw [hx] at hLg hldg
      rw [hgl] at hcg ⊢
      have hcall := PR (some ag) Aa cg ca rs wb hCt Ca hsl
      have hcut := rO (some ag) (rs.length + 1) cg rs.length (rs.length : Int) rfl (Nat.le_succ _) hcg
      have HLG := iC.mk hLg
      have HLDG := iC.mk hldg
      have HNX := iC.mk hnx
      have HLX := iC.mk hown.lies
      have HSX := iC.mk (yP (rQ x hgx.sound))
      clear Cg Ca hsl hgl hCt hx hLg hldg hnx hown hgx hcg
      have hrl : (rs.length : Int) ≤ 40 := by have := HN.out; omega
      go_wp2_with fail
      go_at_call 44
      refine hcall.mono ?_
      rintro e wc ⟨rfl, hbc⟩
      have HBC := iC.mk hbc
      clear hcall hcut
      go_upto_region 23 with fail
      refine vW [105, 106, 107, 108, 109, 110, 111, 112, 113, 114, 115, 116, 117, 118, 6] [fun v _ => v = (.slice (some ag) (rs.length + 1) cg), fun v _ => v = (.int .i64 ((rs.length : Int) + 1)), fun v _ => v = (.slice Aa rs.length ca), fun v _ => v = (.int .i64 (rs.length : Int)), fun v _ => v = (.bool false), fun v _ => v = (.bool false), fun v _ => v = (.slice (some ag) (rs.length + 1) cg), fun v _ => v = (.slice Aa rs.length ca), fun v _ => v = (.int .i64 (rs.length : Int)), fun v _ => v = (.pointer (some (ag.add (rs.length * 10)))), fun v _ => v = (.agg #[.int .u8 x.f0, .int .u32 x.f1, .int .u32 x.f2, .slice G3 x.f3.length g3, .slice G4 x.f4.length g4, .int .u32 x.f5.f0, .slice G6 x.f5.f1.length g6, .int .i64 x.f6, .int .i64 x.f7, .slice G9 x.f8.length g9]), fun v _ => v = (.agg #[.int .u8 x.f0, .int .u32 x.f1, .int .u32 x.f2, .slice A3 x.f3.length a3, .slice A4 x.f4.length a4, .int .u32 x.f5.f0, .slice A6 x.f5.f1.length a6, .int .i64 x.f6, .int .i64 x.f7, .slice A9 x.f8.length a9]), fun v _ => v = (.bool true), fun v _ => v = (.bool true), fun v _ => v = (.bool true)] [0, 1, 2, 3, 4, 5, 6, 7, 8, 9, 10, 11, 12, 13, 14] (true, [([], []), ([0], [0]), ([], []), ([2], [2]), ([1, 3], [1, 3]), ([4], [4]), ([5], [5]), ([5], [5]), ([7, 5], [5, 7]), ([6, 8, 5], [5, 6, 8]), ([9, 5], [5, 9]), ([5], [5]), ([10, 11, 5, 5], [5, 10, 11]), ([5, 12], [5, 12]), ([13, 12, 0, 1, 2, 3, 4, 5, 6, 7, 8, 9, 10, 11, 12, 13], [13])]) [0, 1, 0, 4, 15, 31, 63, 63, 191, 511, 1023, 63, 4095, 8191, 16383] (by kernel_rfl) (by kernel_rfl) (by kernel_rfl) (by kernel_rfl) (by kernel_rfl) (by kernel_rfl) (by kernel_rfl) (by rfl) (by kernel_rfl) ?_ ?_ ?_
      ·exact (jA (jW _) (jA (jW _) (jA (jW _) (jA (jW _) (jA (jW _) (jA (jW _) (jA (jW _) (jA (jW _) (jA (jW _) (jA (jW _) (jA (jW _) (jA (jW _) (jA (jW _) (jA (jW _) (jA (jW _) xG)))))))))))))))
      ·refine iP ?_ ?_
       ·intro a w' vs hB hel hd
        have e15 : a.tmps[15]? = some (.slice (some ag) (rs.length + 1) cg) := (hel 15 (by kernel_rfl)).trans (by rfl)
        refine ⟨_, rfl, rfl, fun K hK => ?_⟩
        refine jH (w1 := w') (v := .slice (some ag) (rs.length + 1) cg) (by rfl) rfl ?_ (hK _ _ (by exact rfl) (Below.refl _ _))
        ·go_simp
         (try simp only [iR, jC])
         (try rfl)
         (try (unfold Go.RowKit.wrap64; omega))
       refine iP ?_ ?_
       ·intro a w' vs hB hel hd
        obtain ⟨f105, r105⟩ := hd 0 (by kernel_rfl)
        have e105 : a.tmps[105]? = some (.slice (some ag) (rs.length + 1) cg) := f105.trans (congrArg some (r105 : vs 0 = (.slice (some ag) (rs.length + 1) cg)))
        refine ⟨_, rfl, rfl, fun K hK => ?_⟩
        refine jH (w1 := w') (v := .int .i64 ((rs.length : Int) + 1)) (by rfl) rfl ?_ (hK _ _ (by exact rfl) (Below.refl _ _))
        ·go_simp
         (try simp only [iR, jC])
         (try rfl)
         (try (unfold Go.RowKit.wrap64; omega))
       refine iP ?_ ?_
       ·intro a w' vs hB hel hd
        have e11 : a.tmps[11]? = some (.slice Aa rs.length ca) := (hel 11 (by kernel_rfl)).trans (by rfl)
        refine ⟨_, rfl, rfl, fun K hK => ?_⟩
        refine jH (w1 := w') (v := .slice Aa rs.length ca) (by rfl) rfl ?_ (hK _ _ (by exact rfl) (Below.refl _ _))
        ·go_simp
         (try simp only [iR, jC])
         (try rfl)
         (try (unfold Go.RowKit.wrap64; omega))
       refine iP ?_ ?_
       ·intro a w' vs hB hel hd
        obtain ⟨f107, r107⟩ := hd 2 (by kernel_rfl)
        have e107 : a.tmps[107]? = some (.slice Aa rs.length ca) := f107.trans (congrArg some (r107 : vs 2 = (.slice Aa rs.length ca)))
        refine ⟨_, rfl, rfl, fun K hK => ?_⟩
        refine jH (w1 := w') (v := .int .i64 (rs.length : Int)) (by rfl) rfl ?_ (hK _ _ (by exact rfl) (Below.refl _ _))
        ·go_simp
         (try simp only [iR, jC])
         (try rfl)
         (try (unfold Go.RowKit.wrap64; omega))
       refine iP ?_ ?_
       ·intro a w' vs hB hel hd
        obtain ⟨f106, r106⟩ := hd 1 (by kernel_rfl)
        have e106 : a.tmps[106]? = some (.int .i64 ((rs.length : Int) + 1)) := f106.trans (congrArg some (r106 : vs 1 = (.int .i64 ((rs.length : Int) + 1))))
        obtain ⟨f108, r108⟩ := hd 3 (by kernel_rfl)
        have e108 : a.tmps[108]? = some (.int .i64 (rs.length : Int)) := f108.trans (congrArg some (r108 : vs 3 = (.int .i64 (rs.length : Int))))
        have hz0 : ¬ ((rs.length : Int) + 1 = (rs.length : Int)) := by omega
        refine ⟨_, rfl, rfl, fun K hK => ?_⟩
        refine jH (w1 := w') (v := .bool false) (by rfl) rfl ?_ (hK _ _ (by exact rfl) (Below.refl _ _))
        ·go_simp
         (try simp only [iR, jC])
         (try rfl)
         (try (unfold Go.RowKit.wrap64; omega))
       refine iP ?_ ?_
       ·intro a w' vs hB hel hd
        obtain ⟨f109, r109⟩ := hd 4 (by kernel_rfl)
        have e109 : a.tmps[109]? = some (.bool false) := f109.trans (congrArg some (r109 : vs 4 = (.bool false)))
        refine ⟨_, rfl, rfl, fun K hK => ?_⟩
        refine jH (w1 := w') (v := .bool false) (by rfl) rfl ?_ (hK _ _ (by exact rfl) (Below.refl _ _))
        ·go_simp
         (try simp only [iR, jC])
         (try rfl)
         (try (unfold Go.RowKit.wrap64; omega))
       refine iP ?_ ?_
       ·intro a w' vs hB hel hd
        have e15 : a.tmps[15]? = some (.slice (some ag) (rs.length + 1) cg) := (hel 15 (by kernel_rfl)).trans (by rfl)
        obtain ⟨f110, r110⟩ := hd 5 (by kernel_rfl)
        have e110 : a.tmps[110]? = some (.bool false) := f110.trans (congrArg some (r110 : vs 5 = (.bool false)))
        refine ⟨_, rfl, rfl, fun K hK => ?_⟩
        refine jH (w1 := w') (v := .slice (some ag) (rs.length + 1) cg) (lG rfl rfl rfl e110) rfl ?_ (hK _ _ (by exact rfl) (Below.refl _ _))
        ·go_simp
         (try simp only [iR, jC])
         (try rfl)
         (try (unfold Go.RowKit.wrap64; omega))
       refine iP ?_ ?_
       ·intro a w' vs hB hel hd
        have e11 : a.tmps[11]? = some (.slice Aa rs.length ca) := (hel 11 (by kernel_rfl)).trans (by rfl)
        obtain ⟨f110, r110⟩ := hd 5 (by kernel_rfl)
        have e110 : a.tmps[110]? = some (.bool false) := f110.trans (congrArg some (r110 : vs 5 = (.bool false)))
        refine ⟨_, rfl, rfl, fun K hK => ?_⟩
        refine jH (w1 := w') (v := .slice Aa rs.length ca) (lG rfl rfl rfl e110) rfl ?_ (hK _ _ (by exact rfl) (Below.refl _ _))
        ·go_simp
         (try simp only [iR, jC])
         (try rfl)
         (try (unfold Go.RowKit.wrap64; omega))
       refine iP ?_ ?_
       ·intro a w' vs hB hel hd
        obtain ⟨f112, r112⟩ := hd 7 (by kernel_rfl)
        have e112 : a.tmps[112]? = some (.slice Aa rs.length ca) := f112.trans (congrArg some (r112 : vs 7 = (.slice Aa rs.length ca)))
        obtain ⟨f110, r110⟩ := hd 5 (by kernel_rfl)
        have e110 : a.tmps[110]? = some (.bool false) := f110.trans (congrArg some (r110 : vs 5 = (.bool false)))
        refine ⟨_, rfl, rfl, fun K hK => ?_⟩
        refine jH (w1 := w') (v := .int .i64 (rs.length : Int)) (lG rfl rfl rfl e110) rfl ?_ (hK _ _ (by exact rfl) (Below.refl _ _))
        ·go_simp
         (try simp only [iR, jC])
         (try rfl)
         (try (unfold Go.RowKit.wrap64; omega))
       refine iP ?_ ?_
       ·intro a w' vs hB hel hd
        obtain ⟨f111, r111⟩ := hd 6 (by kernel_rfl)
        have e111 : a.tmps[111]? = some (.slice (some ag) (rs.length + 1) cg) := f111.trans (congrArg some (r111 : vs 6 = (.slice (some ag) (rs.length + 1) cg)))
        obtain ⟨f113, r113⟩ := hd 8 (by kernel_rfl)
        have e113 : a.tmps[113]? = some (.int .i64 (rs.length : Int)) := f113.trans (congrArg some (r113 : vs 8 = (.int .i64 (rs.length : Int))))
        obtain ⟨f110, r110⟩ := hd 5 (by kernel_rfl)
        have e110 : a.tmps[110]? = some (.bool false) := f110.trans (congrArg some (r110 : vs 5 = (.bool false)))
        have hz0 : ¬ ((rs.length : Int) + 1 ≤ (rs.length : Int)) := by omega
        refine ⟨_, rfl, rfl, fun K hK => ?_⟩
        refine jH (w1 := w') (v := .pointer (some (ag.add (rs.length * 10)))) (lG rfl rfl rfl e110) rfl ?_ (hK _ _ (by exact rfl) (Below.refl _ _))
        ·go_simp
         (try simp only [iR, jC])
         (try rfl)
         (try (unfold Go.RowKit.wrap64; omega))
       refine iP ?_ ?_
       ·intro a w' vs hB hel hd
        obtain ⟨f114, r114⟩ := hd 9 (by kernel_rfl)
        have e114 : a.tmps[114]? = some (.pointer (some (ag.add (rs.length * 10)))) := f114.trans (congrArg some (r114 : vs 9 = (.pointer (some (ag.add (rs.length * 10))))))
        obtain ⟨f110, r110⟩ := hd 5 (by kernel_rfl)
        have e110 : a.tmps[110]? = some (.bool false) := f110.trans (congrArg some (r110 : vs 5 = (.bool false)))
        have hz0 := HLDG.out w' (iK HBC.out hB)
        refine ⟨_, rfl, rfl, fun K hK => ?_⟩
        refine jH (w1 := w') (v := .agg #[.int .u8 x.f0, .int .u32 x.f1, .int .u32 x.f2, .slice G3 x.f3.length g3, .slice G4 x.f4.length g4, .int .u32 x.f5.f0, .slice G6 x.f5.f1.length g6, .int .i64 x.f6, .int .i64 x.f7, .slice G9 x.f8.length g9]) (lG rfl rfl rfl e110) rfl ?_ (hK _ _ (by exact rfl) (Below.refl _ _))
        ·go_simp
         (try simp only [iR, jC])
         (try rfl)
         (try (unfold Go.RowKit.wrap64; omega))
       refine iP ?_ ?_
       ·intro a w' vs hB hel hd
        have e12 : a.tmps[12]? = some (.pointer (some ⟨q, 0, none⟩)) := (hel 12 (by kernel_rfl)).trans (by rfl)
        obtain ⟨f110, r110⟩ := hd 5 (by kernel_rfl)
        have e110 : a.tmps[110]? = some (.bool false) := f110.trans (congrArg some (r110 : vs 5 = (.bool false)))
        have hz0 := fun (_ : True) => nV (iO hB (iO HBC.out HNX.out)) rfl
        refine ⟨_, rfl, rfl, fun K hK => ?_⟩
        refine jH (w1 := w') (v := .agg #[.int .u8 x.f0, .int .u32 x.f1, .int .u32 x.f2, .slice A3 x.f3.length a3, .slice A4 x.f4.length a4, .int .u32 x.f5.f0, .slice A6 x.f5.f1.length a6, .int .i64 x.f6, .int .i64 x.f7, .slice A9 x.f8.length a9]) (lG rfl rfl rfl e110) rfl ?_ (hK _ _ (by exact rfl) (Below.refl _ _))
        ·go_simp
         (try simp only [iR, jC])
         (try rfl)
         (try (unfold Go.RowKit.wrap64; omega))
       refine iP ?_ ?_
       ·intro a w' vs hB hel hd
        obtain ⟨f115, r115⟩ := hd 10 (by kernel_rfl)
        have e115 : a.tmps[115]? = some (.agg #[.int .u8 x.f0, .int .u32 x.f1, .int .u32 x.f2, .slice G3 x.f3.length g3, .slice G4 x.f4.length g4, .int .u32 x.f5.f0, .slice G6 x.f5.f1.length g6, .int .i64 x.f6, .int .i64 x.f7, .slice G9 x.f8.length g9]) := f115.trans (congrArg some (r115 : vs 10 = (.agg #[.int .u8 x.f0, .int .u32 x.f1, .int .u32 x.f2, .slice G3 x.f3.length g3, .slice G4 x.f4.length g4, .int .u32 x.f5.f0, .slice G6 x.f5.f1.length g6, .int .i64 x.f6, .int .i64 x.f7, .slice G9 x.f8.length g9])))
        obtain ⟨f116, r116⟩ := hd 11 (by kernel_rfl)
        have e116 : a.tmps[116]? = some (.agg #[.int .u8 x.f0, .int .u32 x.f1, .int .u32 x.f2, .slice A3 x.f3.length a3, .slice A4 x.f4.length a4, .int .u32 x.f5.f0, .slice A6 x.f5.f1.length a6, .int .i64 x.f6, .int .i64 x.f7, .slice A9 x.f8.length a9]) := f116.trans (congrArg some (r116 : vs 11 = (.agg #[.int .u8 x.f0, .int .u32 x.f1, .int .u32 x.f2, .slice A3 x.f3.length a3, .slice A4 x.f4.length a4, .int .u32 x.f5.f0, .slice A6 x.f5.f1.length a6, .int .i64 x.f6, .int .i64 x.f7, .slice A9 x.f8.length a9])))
        obtain ⟨f110, r110⟩ := hd 5 (by kernel_rfl)
        have e110 : a.tmps[110]? = some (.bool false) := f110.trans (congrArg some (r110 : vs 5 = (.bool false)))
        refine ⟨_, rfl, rfl, fun K hK => ?_⟩
        refine qC Tryd.func23 (by kernel_rfl) rfl #[.agg #[.int .u8 x.f0, .int .u32 x.f1, .int .u32 x.f2, .slice G3 x.f3.length g3, .slice G4 x.f4.length g4, .int .u32 x.f5.f0, .slice G6 x.f5.f1.length g6, .int .i64 x.f6, .int .i64 x.f7, .slice G9 x.f8.length g9], .agg #[.int .u8 x.f0, .int .u32 x.f1, .int .u32 x.f2, .slice A3 x.f3.length a3, .slice A4 x.f4.length a4, .int .u32 x.f5.f0, .slice A6 x.f5.f1.length a6, .int .i64 x.f6, .int .i64 x.f7, .slice A9 x.f8.length a9]] (lG rfl rfl rfl e110) rfl rfl (by first | (simp only [List.map_toArray, List.map_cons, List.map_nil, Act.eval, Array.getD_eq_getD_getElem?, Option.getD_some, e115, e116, e110]; done) | (simp only [List.map_toArray, List.map_cons, List.map_nil, Act.eval, Array.getD_eq_getD_getElem?, Option.getD_some, e115, e116, e110]; rfl)) ?_
        refine (yD ((HLG.out.below HBC.out).below hB) ((HLX.out.below HBC.out).below hB) HSX.out).mono ?_
        rintro e_ w2_ ⟨rfl, hb2_⟩
        exact ⟨_, rfl, hK _ _ (by exact rfl) hb2_⟩
       refine iP ?_ ?_
       ·intro a w' vs hB hel hd
        obtain ⟨f110, r110⟩ := hd 5 (by kernel_rfl)
        have e110 : a.tmps[110]? = some (.bool false) := f110.trans (congrArg some (r110 : vs 5 = (.bool false)))
        obtain ⟨f117, r117⟩ := hd 12 (by kernel_rfl)
        have e117 : a.tmps[117]? = some (.bool true) := f117.trans (congrArg some (r117 : vs 12 = (.bool true)))
        refine ⟨_, rfl, rfl, fun K hK => ?_⟩
        refine jH (w1 := w') (v := .bool true) (by rfl) rfl ?_ (hK _ _ (by exact rfl) (Below.refl _ _))
        ·go_simp
         (try simp only [iR, jC])
         (try rfl)
         (try (unfold Go.RowKit.wrap64; omega))
       refine iP ?_ ?_
       ·intro a w' vs hB hel hd
        obtain ⟨f118, r118⟩ := hd 13 (by kernel_rfl)
        have e118 : a.tmps[118]? = some (.bool true) := f118.trans (congrArg some (r118 : vs 13 = (.bool true)))
        refine ⟨_, rfl, rfl, fun K hK => ?_⟩
        refine jH (w1 := w') (v := .bool true) (by rfl) rfl ?_ (hK _ _ (by exact rfl) (Below.refl _ _))
        ·go_simp
         (try simp only [iR, jC])
         (try rfl)
         (try (unfold Go.RowKit.wrap64; omega))
       exact oG
      ·intro vs w' hB hR
       have hv0_ : vs 0 = (.slice (some ag) (rs.length + 1) cg) := hR 0 (by kernel_rfl)
       have hv1_ : vs 1 = (.int .i64 ((rs.length : Int) + 1)) := hR 1 (by kernel_rfl)
       have hv2_ : vs 2 = (.slice Aa rs.length ca) := hR 2 (by kernel_rfl)
       have hv3_ : vs 3 = (.int .i64 (rs.length : Int)) := hR 3 (by kernel_rfl)
       have hv4_ : vs 4 = (.bool false) := hR 4 (by kernel_rfl)
       have hv5_ : vs 5 = (.bool false) := hR 5 (by kernel_rfl)
       have hv6_ : vs 6 = (.slice (some ag) (rs.length + 1) cg) := hR 6 (by kernel_rfl)
       have hv7_ : vs 7 = (.slice Aa rs.length ca) := hR 7 (by kernel_rfl)
       have hv8_ : vs 8 = (.int .i64 (rs.length : Int)) := hR 8 (by kernel_rfl)
       have hv9_ : vs 9 = (.pointer (some (ag.add (rs.length * 10)))) := hR 9 (by kernel_rfl)
       have hv10_ : vs 10 = (.agg #[.int .u8 x.f0, .int .u32 x.f1, .int .u32 x.f2, .slice G3 x.f3.length g3, .slice G4 x.f4.length g4, .int .u32 x.f5.f0, .slice G6 x.f5.f1.length g6, .int .i64 x.f6, .int .i64 x.f7, .slice G9 x.f8.length g9]) := hR 10 (by kernel_rfl)
       have hv11_ : vs 11 = (.agg #[.int .u8 x.f0, .int .u32 x.f1, .int .u32 x.f2, .slice A3 x.f3.length a3, .slice A4 x.f4.length a4, .int .u32 x.f5.f0, .slice A6 x.f5.f1.length a6, .int .i64 x.f6, .int .i64 x.f7, .slice A9 x.f8.length a9]) := hR 11 (by kernel_rfl)
       have hv12_ : vs 12 = (.bool true) := hR 12 (by kernel_rfl)
       have hv13_ : vs 13 = (.bool true) := hR 13 (by kernel_rfl)
       have hv14_ : vs 14 = (.bool true) := hR 14 (by kernel_rfl)
       rw [show entries [105, 106, 107, 108, 109, 110, 111, 112, 113, 114, 115, 116, 117, 118, 6] vs = [(0, 105, vs 0), (1, 106, vs 1), (2, 107, vs 2), (3, 108, vs 3), (4, 109, vs 4), (5, 110, vs 5), (6, 111, vs 6), (7, 112, vs 7), (8, 113, vs 8), (9, 114, vs 9), (10, 115, vs 10), (11, 116, vs 11), (12, 117, vs 12), (13, 118, vs 13), (14, 6, vs 14)] from rfl]
       simp only [jX, if_true, Act.put, List.setIfInBounds_toArray, List.set_cons_zero, List.set_cons_succ, hv0_, hv1_, hv2_, hv3_, hv4_, hv5_, hv6_, hv7_, hv8_, hv9_, hv10_, hv11_, hv12_, hv13_, hv14_]
       clear hR hv0_ hv1_ hv2_ hv3_ hv4_ hv5_ hv6_ hv7_ hv8_ hv9_ hv10_ hv11_ hv12_ hv13_ hv14_
       go_wp2
       go_ret
       exact ⟨rfl, iK HOb.out.bel (iK HBC.out hB)⟩
    ·rw [decide_eq_false hz] at hcall
     have hrun : Run d rs := by
      rcases HRUN.out with h | h
      ·exact h
      ·exact absurd h.left hz
     obtain ⟨ad, rfl⟩ := ZQ H.out (by omega)
     have hgen := jd1 H.out k hlt rfl
     have hmem : l.getD k default ∈ l := by rw [List.getD_eq_getElem?_getD, List.getElem?_eq_getElem HLT.out]; exact List.getElem_mem HLT.out
     have HOP := iC.mk (HOK.out _ hmem)
     obtain ⟨o, ho⟩ : ∃ o, o = l.getD k default := ⟨_, rfl⟩
     rw [← ho] at HOP hgen
     obtain ⟨I3, i3, I4, i4, I6, i6, I9, i9, hLi, hld⟩ := hgen wr0 HL.out.one.bel
     have hsound := j01 hLi HOP.out.n
     have hsnd := MC HOP.out
     have hsok := UJ HOP.out
     obtain ⟨rr, hrr⟩ : ∃ rr, rr = IB o := ⟨_, rfl⟩
     rw [← hrr] at hsound hsnd hsok
     have hplain := hrun.force hz rr hsnd hsok
     have HPL := iC.mk hplain
     clear hgen hmem ho hlt hrr hsnd hsok hplain hrun hz hLi HRUN
     go_wp2_with fail
     go_at_call 47
     refine hcall.mono ?_
     rintro e wh ⟨rfl, rfl⟩
     clear hcall
     go_wp2_with fail
     go_at_call 42
     refine hsound.mono ?_
     rintro e wb ⟨B3, b3, B4, b4, B6, b6, B9, b9, rfl, hOw, hbb⟩
     have hLb := HL.out.below hbb
     have hst := fun (_ : True) => qL (a := rr.f0) (k := rr.f1) (i := rr.f2) (x3 := .slice B3 rr.f3.length b3) (x4 := .slice B4 rr.f4.length b4) (j := rr.f5.f0) (x6 := .slice B6 rr.f5.f1.length b6) (p := rr.f6) (q := rr.f7) (x9 := .slice B9 rr.f8.length b9) hLb.nx rfl rfl rfl rfl
     have HLc := iC.mk (hLb.put (hOw.lower HL.out.one.bel.size))
     clear hsound hld hbb hOw hLb HL
     go_upto_region 16 with fail
     obtain ⟨wc, hwc⟩ : ∃ W, W = wb.setRow q #[.int .u8 rr.f0, .int .u32 rr.f1, .int .u32 rr.f2, .slice B3 rr.f3.length b3, .slice B4 rr.f4.length b4, .int .u32 rr.f5.f0, .slice B6 rr.f5.f1.length b6, .int .i64 rr.f6, .int .i64 rr.f7, .slice B9 rr.f8.length b9] := ⟨_, rfl⟩
     rw [← hwc] at HLc ⊢
     clear hwc hst
     have hlr := fun (_ : True) => nV HLc.out.nx rfl
     have hcall := MH HLc.out.one.dd HLc.out.lg HLc.out.own.lies
     obtain ⟨E, hE⟩ : ∃ E, nH d rr = E := ⟨_, rfl⟩
     obtain ⟨D, hDD⟩ : ∃ D, lM d rr = D := ⟨_, rfl⟩
     have hFR : D.room = d.room := by rw [← hDD, RP]
     rw [hE, hDD] at hcall HPL
     have HFR := iC.mk hFR
     clear hE hDD hFR
     go_wp2_with fail
     go_at_call 41
     refine hcall.mono ?_
     intro e wd hp
     obtain ⟨rfl, rowd, hLd⟩ := HLc.out.kb hp HFR.out
     have HLd := iC.mk hLd
     clear hcall hp hLd HLc HFR hlr
     rcases HPL.out with ⟨rfl, hgr, hrun⟩ | ⟨hE0, hor⟩
     ·have HGR := iC.mk hgr
      have HRU := iC.mk hrun
      have hlr := fun (_ : True) => nV HLd.out.nx rfl
      clear hgr hrun HPL
      go_upto_region 17 with fail
      go_wp2_with (at_builtin; go_loud (refine Kd.R_append kR (w0 := wd) w0.heap.size rfl (.tmp 65) (.tmp 67) 71 30 (.agg #[.int .u8 0, .int .u32 0, .int .u32 0, .slice none 0 0, .slice none 0 0, .int .u32 0, .slice none 0 0, .int .i64 0, .int .i64 0, .slice none 0 0]) 136 rfl Tryd.underlying71 PI rfl (by decide) (by omega) (.slice Aa rs.length ca) rs rr [.int .u8 rr.f0, .int .u32 rr.f1, .int .u32 rr.f2, .slice B3 rr.f3.length b3, .slice B4 rr.f4.length b4, .int .u32 rr.f5.f0, .slice B6 rr.f5.f1.length b6, .int .i64 rr.f6, .int .i64 rr.f7, .slice B9 rr.f8.length b9] (fun k => k ≠ q) (fun j => j ≠ q ∧ some j ≠ (Value.slice Aa rs.length ca).ownBlock) rfl rfl ?aP ?aK ?aF ?aO (Below.refl _ _) ?aB ?aL ?_; (case aP => exact UC (kR_M HLd.out.own) HLd.out.rr HLd.out.nx); (case aK => exact fun _ h => h); (case aF => exact Kd.freshB HLd.out.nx); (case aO => exact HLd.out.rr); (case aB => exact HLd.out.one.bel.size); (case aL => (have := HN.out; omega)); intro v5 w5 ho hb5 hg5 hat; have hL5 := HLd.out.append HGR.out hg5 ho; have hst := fun (_ : True) => qL (a := 0) (k := 0) (i := 0) (x3 := .slice none 0 0) (x4 := .slice none 0 0) (j := 0) (x6 := .slice none 0 0) (p := 0) (q := 0) (x9 := .slice none 0 0) hL5.nx rfl rfl rfl rfl; have HL6 := iC.mk (hL5.put (y := mX) (B3 := none) (b3 := 0) (B4 := none) (b4 := 0) (B6 := none) (b6 := 0) (B9 := none) (b9 := 0) ⟨Kd.R_nil _ _ _ _ _, Kd.R_nil _ _ _ _ _, Kd.R_nil _ _ _ _ _, Kd.R_nil _ _ _ _ _⟩); clear ho hb5 hg5 hat hL5))
      go_roundw
      case rel => exact ⟨k + 1, rs ++ [rr], rowd, D, mX, none, 0, none, 0, none, 0, none, 0, by omega, by go_num, HL6, ⟨.inl HRU.out⟩, ⟨by rw [List.length_append]; exact Nat.succ_le_succ HN.out⟩⟩
      case measure => simp [intOf]; omega
     ·have HOR := iC.mk hor
      clear hor HPL
      go_wp2
      go_roundw
      case rel => exact ⟨k + 1, rs, rowd, D, rr, B3, b3, B4, b4, B6, b6, B9, b9, by omega, by go_num, HLd, HOR, ⟨by have := HN.out; omega⟩⟩
      case measure => simp [intOf]; omega
   ·obtain rfl : k = l.length := by omega
    clear hlt
    have hrd := PV keep HL.out.good HRUN.out
    obtain ⟨hopE, hG⟩ := hrd
    have hcall := OC keep HL.out.one.dd
    have hcr : (d.crash keep).room = d.room := rfl
    obtain ⟨D, hDD⟩ : ∃ D, d.crash keep = D := ⟨_, rfl⟩
    rw [hDD] at hcall hopE hG hcr
    have HG := iC.mk hG
    have HCR := iC.mk hcr
    clear hG hcr hDD HRUN
    go_wp2_with fail
    go_at_call 43
    refine hcall.mono ?_
    intro e wa hp
    obtain ⟨rfl, rowa, hLa⟩ := HL.out.kb hp HCR.out
    have HLa := iC.mk hLa
    clear hcall hp hLa HL HCR
    have hcall := open_any HLa.out.one.dd (by have := HLa.out.one.dd.2.fit; have := HLa.out.room; omega)
    go_wp2_with fail
    go_at_call 39
    refine hcall.mono ?_
    intro e wb hp
    obtain ⟨rowb, g2, vb, hOb, rfl, hgb, hrb, hkb, _⟩ := HLa.out.one.open hp hopE
    have hrr := O8 HLa.out.rr HLa.out.one.dd hkb XR
    have hnx := HLa.out.one.dd.stays hkb HLa.out.nx (by decide) (by decide)
    have hown := HLa.out.own.kb HLa.out.one.dd hkb
    have HGD := iC.mk HLa.out.good
    have HOb := iC.mk hOb
    obtain ⟨G, hGG⟩ : ∃ G, qM (lK D.bs) = G := ⟨_, rfl⟩
    rw [hGG] at hrb HG
    obtain ⟨Ag, cg, rfl, hcg, Cg⟩ := Kd.R_reads hrb
    obtain ⟨_, hca, Ca⟩ := Kd.R_reads' hrr
    have hsl : ∀ x ∈ rs, SLen x := fun x hx => rQ x (HGD.out x hx).sound
    clear hcall hp hOb hgb hrb hkb hopE hGG hrr HLa
    rcases HG.out with rfl | ⟨rfl, hgx⟩
    ·have hcall := PR Ag Aa cg ca G wb Cg Ca hsl
     have hcut := rO Ag G.length cg G.length (G.length : Int) rfl (Nat.le_refl _) hcg
     have hrl : (G.length : Int) ≤ 40 := by have := HN.out; omega
     clear Cg Ca hsl hnx hown hcg
     go_wp2_with fail
     go_at_call 44
     refine hcall.mono ?_
     rintro e wc ⟨rfl, hbc⟩
     clear hcall
     go_upto_region 23 with fail
     go_quiet (fail)
     go_wp2
     go_ret
     exact ⟨rfl, iF (iK HOb.out.bel hbc) _⟩
    ·have hgl : (rs ++ [x]).length = rs.length + 1 := by rw [List.length_append]; rfl
     have hCt := Kd.C_take Cg (show rs.length ≤ (rs ++ [x]).length from by rw [hgl]; exact Nat.le_succ _)
     rw [List.take_left] at hCt
     obtain ⟨ag, G3, g3, G4, g4, G6, g6, G9, g9, rfl, hLg, hldg⟩ := P9 Cg rs.length (by rw [hgl]; exact Nat.lt_succ_self _)
     have hx : (rs ++ [x]).getD rs.length default = x := by simp [List.getD_eq_getElem?_getD]
     rw [hx] at hLg hldg
     rw [hgl] at hcg ⊢
     have hcall := PR (some ag) Aa cg ca rs wb hCt Ca hsl
     have hcut := rO (some ag) (rs.length + 1) cg rs.length (rs.length : Int) rfl (Nat.le_succ _) hcg
     have HLG := iC.mk hLg
     have HLDG := iC.mk hldg
     have HNX := iC.mk hnx
     have HLX := iC.mk hown.lies
     have HSX := iC.mk (yP (rQ x hgx.sound))
     clear Cg Ca hsl hgl hCt hx hLg hldg hnx hown hgx hcg
     have hrl : (rs.length : Int) ≤ 40 := by have := HN.out; omega
     go_wp2_with fail
     go_at_call 44
     refine hcall.mono ?_
     rintro e wc ⟨rfl, hbc⟩
     have HBC := iC.mk hbc
     clear hcall hcut
     go_upto_region 23 with fail
     refine vW [105, 106, 107, 108, 109, 110, 111, 112, 113, 114, 115, 116, 117, 118, 6] [fun v _ => v = (.slice (some ag) (rs.length + 1) cg), fun v _ => v = (.int .i64 ((rs.length : Int) + 1)), fun v _ => v = (.slice Aa rs.length ca), fun v _ => v = (.int .i64 (rs.length : Int)), fun v _ => v = (.bool false), fun v _ => v = (.bool false), fun v _ => v = (.slice (some ag) (rs.length + 1) cg), fun v _ => v = (.slice Aa rs.length ca), fun v _ => v = (.int .i64 (rs.length : Int)), fun v _ => v = (.pointer (some (ag.add (rs.length * 10)))), fun v _ => v = (.agg #[.int .u8 x.f0, .int .u32 x.f1, .int .u32 x.f2, .slice G3 x.f3.length g3, .slice G4 x.f4.length g4, .int .u32 x.f5.f0, .slice G6 x.f5.f1.length g6, .int .i64 x.f6, .int .i64 x.f7, .slice G9 x.f8.length g9]), fun v _ => v = (.agg #[.int .u8 x.f0, .int .u32 x.f1, .int .u32 x.f2, .slice A3 x.f3.length a3, .slice A4 x.f4.length a4, .int .u32 x.f5.f0, .slice A6 x.f5.f1.length a6, .int .i64 x.f6, .int .i64 x.f7, .slice A9 x.f8.length a9]), fun v _ => v = (.bool true), fun v _ => v = (.bool true), fun v _ => v = (.bool true)] [0, 1, 2, 3, 4, 5, 6, 7, 8, 9, 10, 11, 12, 13, 14] (true, [([], []), ([0], [0]), ([], []), ([2], [2]), ([1, 3], [1, 3]), ([4], [4]), ([5], [5]), ([5], [5]), ([7, 5], [5, 7]), ([6, 8, 5], [5, 6, 8]), ([9, 5], [5, 9]), ([5], [5]), ([10, 11, 5, 5], [5, 10, 11]), ([5, 12], [5, 12]), ([13, 12, 0, 1, 2, 3, 4, 5, 6, 7, 8, 9, 10, 11, 12, 13], [13])]) [0, 1, 0, 4, 15, 31, 63, 63, 191, 511, 1023, 63, 4095, 8191, 16383] (by kernel_rfl) (by kernel_rfl) (by kernel_rfl) (by kernel_rfl) (by kernel_rfl) (by kernel_rfl) (by kernel_rfl) (by rfl) (by kernel_rfl) ?_ ?_ ?_
     ·exact (jA (jW _) (jA (jW _) (jA (jW _) (jA (jW _) (jA (jW _) (jA (jW _) (jA (jW _) (jA (jW _) (jA (jW _) (jA (jW _) (jA (jW _) (jA (jW _) (jA (jW _) (jA (jW _) (jA (jW _) xG)))))))))))))))
     ·refine iP ?_ ?_
      ·intro a w' vs hB hel hd
       have e15 : a.tmps[15]? = some (.slice (some ag) (rs.length + 1) cg) := (hel 15 (by kernel_rfl)).trans (by rfl)
       refine ⟨_, rfl, rfl, fun K hK => ?_⟩
       refine jH (w1 := w') (v := .slice (some ag) (rs.length + 1) cg) (by rfl) rfl ?_ (hK _ _ (by exact rfl) (Below.refl _ _))
       ·go_simp
        (try simp only [iR, jC])
        (try rfl)
        (try (unfold Go.RowKit.wrap64; omega))
      refine iP ?_ ?_
      ·intro a w' vs hB hel hd
       obtain ⟨f105, r105⟩ := hd 0 (by kernel_rfl)
       have e105 : a.tmps[105]? = some (.slice (some ag) (rs.length + 1) cg) := f105.trans (congrArg some (r105 : vs 0 = (.slice (some ag) (rs.length + 1) cg)))
       refine ⟨_, rfl, rfl, fun K hK => ?_⟩
       refine jH (w1 := w') (v := .int .i64 ((rs.length : Int) + 1)) (by rfl) rfl ?_ (hK _ _ (by exact rfl) (Below.refl _ _))
       ·go_simp
        (try simp only [iR, jC])
        (try rfl)
        (try (unfold Go.RowKit.wrap64; omega))
      refine iP ?_ ?_
      ·intro a w' vs hB hel hd
       have e11 : a.tmps[11]? = some (.slice Aa rs.length ca) := (hel 11 (by kernel_rfl)).trans (by rfl)
       refine ⟨_, rfl, rfl, fun K hK => ?_⟩
       refine jH (w1 := w') (v := .slice Aa rs.length ca) (by rfl) rfl ?_ (hK _ _ (by exact rfl) (Below.refl _ _))
       ·go_simp
        (try simp only [iR, jC])
        (try rfl)
        (try (unfold Go.RowKit.wrap64; omega))
      refine iP ?_ ?_
      ·intro a w' vs hB hel hd
       obtain ⟨f107, r107⟩ := hd 2 (by kernel_rfl)
       have e107 : a.tmps[107]? = some (.slice Aa rs.length ca) := f107.trans (congrArg some (r107 : vs 2 = (.slice Aa rs.length ca)))
       refine ⟨_, rfl, rfl, fun K hK => ?_⟩
       refine jH (w1 := w') (v := .int .i64 (rs.length : Int)) (by rfl) rfl ?_ (hK _ _ (by exact rfl) (Below.refl _ _))
       ·go_simp
        (try simp only [iR, jC])
        (try rfl)
        (try (unfold Go.RowKit.wrap64; omega))
      refine iP ?_ ?_
      ·intro a w' vs hB hel hd
       obtain ⟨f106, r106⟩ := hd 1 (by kernel_rfl)
       have e106 : a.tmps[106]? = some (.int .i64 ((rs.length : Int) + 1)) := f106.trans (congrArg some (r106 : vs 1 = (.int .i64 ((rs.length : Int) + 1))))
       obtain ⟨f108, r108⟩ := hd 3 (by kernel_rfl)
       have e108 : a.tmps[108]? = some (.int .i64 (rs.length : Int)) := f108.trans (congrArg some (r108 : vs 3 = (.int .i64 (rs.length : Int))))
       have hz0 : ¬ ((rs.length : Int) + 1 = (rs.length : Int)) := by omega
       refine ⟨_, rfl, rfl, fun K hK => ?_⟩
       refine jH (w1 := w') (v := .bool false) (by rfl) rfl ?_ (hK _ _ (by exact rfl) (Below.refl _ _))
       ·go_simp
        (try simp only [iR, jC])
        (try rfl)
        (try (unfold Go.RowKit.wrap64; omega))
      refine iP ?_ ?_
      ·intro a w' vs hB hel hd
       obtain ⟨f109, r109⟩ := hd 4 (by kernel_rfl)
       have e109 : a.tmps[109]? = some (.bool false) := f109.trans (congrArg some (r109 : vs 4 = (.bool false)))
       refine ⟨_, rfl, rfl, fun K hK => ?_⟩
       refine jH (w1 := w') (v := .bool false) (by rfl) rfl ?_ (hK _ _ (by exact rfl) (Below.refl _ _))
       ·go_simp
        (try simp only [iR, jC])
        (try rfl)
        (try (unfold Go.RowKit.wrap64; omega))
      refine iP ?_ ?_
      ·intro a w' vs hB hel hd
       have e15 : a.tmps[15]? = some (.slice (some ag) (rs.length + 1) cg) := (hel 15 (by kernel_rfl)).trans (by rfl)
       obtain ⟨f110, r110⟩ := hd 5 (by kernel_rfl)
       have e110 : a.tmps[110]? = some (.bool false) := f110.trans (congrArg some (r110 : vs 5 = (.bool false)))
       refine ⟨_, rfl, rfl, fun K hK => ?_⟩
       refine jH (w1 := w') (v := .slice (some ag) (rs.length + 1) cg) (lG rfl rfl rfl e110) rfl ?_ (hK _ _ (by exact rfl) (Below.refl _ _))
       ·go_simp
        (try simp only [iR, jC])
        (try rfl)
        (try (unfold Go.RowKit.wrap64; omega))
      refine iP ?_ ?_
      ·intro a w' vs hB hel hd
       have e11 : a.tmps[11]? = some (.slice Aa rs.length ca) := (hel 11 (by kernel_rfl)).trans (by rfl)
       obtain ⟨f110, r110⟩ := hd 5 (by kernel_rfl)
       have e110 : a.tmps[110]? = some (.bool false) := f110.trans (congrArg some (r110 : vs 5 = (.bool false)))
       refine ⟨_, rfl, rfl, fun K hK => ?_⟩
       refine jH (w1 := w') (v := .slice Aa rs.length ca) (lG rfl rfl rfl e110) rfl ?_ (hK _ _ (by exact rfl) (Below.refl _ _))
       ·go_simp
        (try simp only [iR, jC])
        (try rfl)
        (try (unfold Go.RowKit.wrap64; omega))
      refine iP ?_ ?_
      ·intro a w' vs hB hel hd
       obtain ⟨f112, r112⟩ := hd 7 (by kernel_rfl)
       have e112 : a.tmps[112]? = some (.slice Aa rs.length ca) := f112.trans (congrArg some (r112 : vs 7 = (.slice Aa rs.length ca)))
       obtain ⟨f110, r110⟩ := hd 5 (by kernel_rfl)
       have e110 : a.tmps[110]? = some (.bool false) := f110.trans (congrArg some (r110 : vs 5 = (.bool false)))
       refine ⟨_, rfl, rfl, fun K hK => ?_⟩
       refine jH (w1 := w') (v := .int .i64 (rs.length : Int)) (lG rfl rfl rfl e110) rfl ?_ (hK _ _ (by exact rfl) (Below.refl _ _))
       ·go_simp
        (try simp only [iR, jC])
        (try rfl)
        (try (unfold Go.RowKit.wrap64; omega))
      refine iP ?_ ?_
      ·intro a w' vs hB hel hd
       obtain ⟨f111, r111⟩ := hd 6 (by kernel_rfl)
       have e111 : a.tmps[111]? = some (.slice (some ag) (rs.length + 1) cg) := f111.trans (congrArg some (r111 : vs 6 = (.slice (some ag) (rs.length + 1) cg)))
       obtain ⟨f113, r113⟩ := hd 8 (by kernel_rfl)
       have e113 : a.tmps[113]? = some (.int .i64 (rs.length : Int)) := f113.trans (congrArg some (r113 : vs 8 = (.int .i64 (rs.length : Int))))
       obtain ⟨f110, r110⟩ := hd 5 (by kernel_rfl)
       have e110 : a.tmps[110]? = some (.bool false) := f110.trans (congrArg some (r110 : vs 5 = (.bool false)))
       have hz0 : ¬ ((rs.length : Int) + 1 ≤ (rs.length : Int)) := by omega
       refine ⟨_, rfl, rfl, fun K hK => ?_⟩
       refine jH (w1 := w') (v := .pointer (some (ag.add (rs.length * 10)))) (lG rfl rfl rfl e110) rfl ?_ (hK _ _ (by exact rfl) (Below.refl _ _))
       ·go_simp
        (try simp only [iR, jC])
        (try rfl)
        (try (unfold Go.RowKit.wrap64; omega))
      refine iP ?_ ?_
      ·intro a w' vs hB hel hd
       obtain ⟨f114, r114⟩ := hd 9 (by kernel_rfl)
       have e114 : a.tmps[114]? = some (.pointer (some (ag.add (rs.length * 10)))) := f114.trans (congrArg some (r114 : vs 9 = (.pointer (some (ag.add (rs.length * 10))))))
       obtain ⟨f110, r110⟩ := hd 5 (by kernel_rfl)
       have e110 : a.tmps[110]? = some (.bool false) := f110.trans (congrArg some (r110 : vs 5 = (.bool false)))
       have hz0 := HLDG.out w' (iK HBC.out hB)
       refine ⟨_, rfl, rfl, fun K hK => ?_⟩
       refine jH (w1 := w') (v := .agg #[.int .u8 x.f0, .int .u32 x.f1, .int .u32 x.f2, .slice G3 x.f3.length g3, .slice G4 x.f4.length g4, .int .u32 x.f5.f0, .slice G6 x.f5.f1.length g6, .int .i64 x.f6, .int .i64 x.f7, .slice G9 x.f8.length g9]) (lG rfl rfl rfl e110) rfl ?_ (hK _ _ (by exact rfl) (Below.refl _ _))
       ·go_simp
        (try simp only [iR, jC])
        (try rfl)
        (try (unfold Go.RowKit.wrap64; omega))
      refine iP ?_ ?_
      ·intro a w' vs hB hel hd
       have e12 : a.tmps[12]? = some (.pointer (some ⟨q, 0, none⟩)) := (hel 12 (by kernel_rfl)).trans (by rfl)
       obtain ⟨f110, r110⟩ := hd 5 (by kernel_rfl)
       have e110 : a.tmps[110]? = some (.bool false) := f110.trans (congrArg some (r110 : vs 5 = (.bool false)))
       have hz0 := fun (_ : True) => nV (iO hB (iO HBC.out HNX.out)) rfl
       refine ⟨_, rfl, rfl, fun K hK => ?_⟩
       refine jH (w1 := w') (v := .agg #[.int .u8 x.f0, .int .u32 x.f1, .int .u32 x.f2, .slice A3 x.f3.length a3, .slice A4 x.f4.length a4, .int .u32 x.f5.f0, .slice A6 x.f5.f1.length a6, .int .i64 x.f6, .int .i64 x.f7, .slice A9 x.f8.length a9]) (lG rfl rfl rfl e110) rfl ?_ (hK _ _ (by exact rfl) (Below.refl _ _))
       ·go_simp
        (try simp only [iR, jC])
        (try rfl)
        (try (unfold Go.RowKit.wrap64; omega))
      refine iP ?_ ?_
      ·intro a w' vs hB hel hd
       obtain ⟨f115, r115⟩ := hd 10 (by kernel_rfl)
       have e115 : a.tmps[115]? = some (.agg #[.int .u8 x.f0, .int .u32 x.f1, .int .u32 x.f2, .slice G3 x.f3.length g3, .slice G4 x.f4.length g4, .int .u32 x.f5.f0, .slice G6 x.f5.f1.length g6, .int .i64 x.f6, .int .i64 x.f7, .slice G9 x.f8.length g9]) := f115.trans (congrArg some (r115 : vs 10 = (.agg #[.int .u8 x.f0, .int .u32 x.f1, .int .u32 x.f2, .slice G3 x.f3.length g3, .slice G4 x.f4.length g4, .int .u32 x.f5.f0, .slice G6 x.f5.f1.length g6, .int .i64 x.f6, .int .i64 x.f7, .slice G9 x.f8.length g9])))
       obtain ⟨f116, r116⟩ := hd 11 (by kernel_rfl)
       have e116 : a.tmps[116]? = some (.agg #[.int .u8 x.f0, .int .u32 x.f1, .int .u32 x.f2, .slice A3 x.f3.length a3, .slice A4 x.f4.length a4, .int .u32 x.f5.f0, .slice A6 x.f5.f1.length a6, .int .i64 x.f6, .int .i64 x.f7, .slice A9 x.f8.length a9]) := f116.trans (congrArg some (r116 : vs 11 = (.agg #[.int .u8 x.f0, .int .u32 x.f1, .int .u32 x.f2, .slice A3 x.f3.length a3, .slice A4 x.f4.length a4, .int .u32 x.f5.f0, .slice A6 x.f5.f1.length a6, .int .i64 x.f6, .int .i64 x.f7, .slice A9 x.f8.length a9])))
       obtain ⟨f110, r110⟩ := hd 5 (by kernel_rfl)
       have e110 : a.tmps[110]? = some (.bool false) := f110.trans (congrArg some (r110 : vs 5 = (.bool false)))
       refine ⟨_, rfl, rfl, fun K hK => ?_⟩
       refine qC Tryd.func23 (by kernel_rfl) rfl #[.agg #[.int .u8 x.f0, .int .u32 x.f1, .int .u32 x.f2, .slice G3 x.f3.length g3, .slice G4 x.f4.length g4, .int .u32 x.f5.f0, .slice G6 x.f5.f1.length g6, .int .i64 x.f6, .int .i64 x.f7, .slice G9 x.f8.length g9], .agg #[.int .u8 x.f0, .int .u32 x.f1, .int .u32 x.f2, .slice A3 x.f3.length a3, .slice A4 x.f4.length a4, .int .u32 x.f5.f0, .slice A6 x.f5.f1.length a6, .int .i64 x.f6, .int .i64 x.f7, .slice A9 x.f8.length a9]] (lG rfl rfl rfl e110) rfl rfl (by first | (simp only [List.map_toArray, List.map_cons, List.map_nil, Act.eval, Array.getD_eq_getD_getElem?, Option.getD_some, e115, e116, e110]; done) | (simp only [List.map_toArray, List.map_cons, List.map_nil, Act.eval, Array.getD_eq_getD_getElem?, Option.getD_some, e115, e116, e110]; rfl)) ?_
       refine (yD ((HLG.out.below HBC.out).below hB) ((HLX.out.below HBC.out).below hB) HSX.out).mono ?_
       rintro e_ w2_ ⟨rfl, hb2_⟩
       exact ⟨_, rfl, hK _ _ (by exact rfl) hb2_⟩
      refine iP ?_ ?_
      ·intro a w' vs hB hel hd
       obtain ⟨f110, r110⟩ := hd 5 (by kernel_rfl)
       have e110 : a.tmps[110]? = some (.bool false) := f110.trans (congrArg some (r110 : vs 5 = (.bool false)))
       obtain ⟨f117, r117⟩ := hd 12 (by kernel_rfl)
       have e117 : a.tmps[117]? = some (.bool true) := f117.trans (congrArg some (r117 : vs 12 = (.bool true)))
       refine ⟨_, rfl, rfl, fun K hK => ?_⟩
       refine jH (w1 := w') (v := .bool true) (by rfl) rfl ?_ (hK _ _ (by exact rfl) (Below.refl _ _))
       ·go_simp
        (try simp only [iR, jC])
        (try rfl)
        (try (unfold Go.RowKit.wrap64; omega))
      refine iP ?_ ?_
      ·intro a w' vs hB hel hd
       obtain ⟨f118, r118⟩ := hd 13 (by kernel_rfl)
       have e118 : a.tmps[118]? = some (.bool true) := f118.trans (congrArg some (r118 : vs 13 = (.bool true)))
       refine ⟨_, rfl, rfl, fun K hK => ?_⟩
       refine jH (w1 := w') (v := .bool true) (by rfl) rfl ?_ (hK _ _ (by exact rfl) (Below.refl _ _))
       ·go_simp
        (try simp only [iR, jC])
        (try rfl)
        (try (unfold Go.RowKit.wrap64; omega))
      exact oG
     ·intro vs w' hB hR
      have hv0_ : vs 0 = (.slice (some ag) (rs.length + 1) cg) := hR 0 (by kernel_rfl)
      have hv1_ : vs 1 = (.int .i64 ((rs.length : Int) + 1)) := hR 1 (by kernel_rfl)
      have hv2_ : vs 2 = (.slice Aa rs.length ca) := hR 2 (by kernel_rfl)
      have hv3_ : vs 3 = (.int .i64 (rs.length : Int)) := hR 3 (by kernel_rfl)
      have hv4_ : vs 4 = (.bool false) := hR 4 (by kernel_rfl)
      have hv5_ : vs 5 = (.bool false) := hR 5 (by kernel_rfl)
      have hv6_ : vs 6 = (.slice (some ag) (rs.length + 1) cg) := hR 6 (by kernel_rfl)
      have hv7_ : vs 7 = (.slice Aa rs.length ca) := hR 7 (by kernel_rfl)
      have hv8_ : vs 8 = (.int .i64 (rs.length : Int)) := hR 8 (by kernel_rfl)
      have hv9_ : vs 9 = (.pointer (some (ag.add (rs.length * 10)))) := hR 9 (by kernel_rfl)
      have hv10_ : vs 10 = (.agg #[.int .u8 x.f0, .int .u32 x.f1, .int .u32 x.f2, .slice G3 x.f3.length g3, .slice G4 x.f4.length g4, .int .u32 x.f5.f0, .slice G6 x.f5.f1.length g6, .int .i64 x.f6, .int .i64 x.f7, .slice G9 x.f8.length g9]) := hR 10 (by kernel_rfl)
      have hv11_ : vs 11 = (.agg #[.int .u8 x.f0, .int .u32 x.f1, .int .u32 x.f2, .slice A3 x.f3.length a3, .slice A4 x.f4.length a4, .int .u32 x.f5.f0, .slice A6 x.f5.f1.length a6, .int .i64 x.f6, .int .i64 x.f7, .slice A9 x.f8.length a9]) := hR 11 (by kernel_rfl)
      have hv12_ : vs 12 = (.bool true) := hR 12 (by kernel_rfl)
      have hv13_ : vs 13 = (.bool true) := hR 13 (by kernel_rfl)
      have hv14_ : vs 14 = (.bool true) := hR 14 (by kernel_rfl)
      rw [show entries [105, 106, 107, 108, 109, 110, 111, 112, 113, 114, 115, 116, 117, 118, 6] vs = [(0, 105, vs 0), (1, 106, vs 1), (2, 107, vs 2), (3, 108, vs 3), (4, 109, vs 4), (5, 110, vs 5), (6, 111, vs 6), (7, 112, vs 7), (8, 113, vs 8), (9, 114, vs 9), (10, 115, vs 10), (11, 116, vs 11), (12, 117, vs 12), (13, 118, vs 13), (14, 6, vs 14)] from rfl]
      simp only [jX, if_true, Act.put, List.setIfInBounds_toArray, List.set_cons_zero, List.set_cons_succ, hv0_, hv1_, hv2_, hv3_, hv4_, hv5_, hv6_, hv7_, hv8_, hv9_, hv10_, hv11_, hv12_, hv13_, hv14_]
      clear hR hv0_ hv1_ hv2_ hv3_ hv4_ hv5_ hv6_ hv7_ hv8_ hv9_ hv10_ hv11_ hv12_ hv13_ hv14_
      go_wp2
      go_ret
      exact ⟨rfl, iK HOb.out.bel (iK HBC.out hB)⟩
end Go.Proofs.YtgfkgppomaapiaaDoor.K
end
