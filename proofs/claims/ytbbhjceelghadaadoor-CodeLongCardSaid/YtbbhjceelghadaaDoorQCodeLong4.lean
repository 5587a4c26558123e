/- Parts of the proof, one behind the other: ReadN, ReadL, ReadS, Region, RegCS, ReadF, ReadE, CodeB, K4. -/
import Derived.Test.YtbbhjceelghadaaDoorQCodeLong3
import Derived.Test.YtbbhjceelghadaaDoorProg
import Derived.Below
import Derived.Deep.Draws
import Derived.Deep.AppendLies
import Derived.Maps.AppendAt
import Derived.OwnWalk
import Derived.Laws.BytesArg
import Derived.Laws.MakeOwn
import Derived.Laws.OwnMore
import Derived.Deep.OwnRows
import Derived.Tactics
import Derived.Lib.ConvBytes
import Derived.Laws.Slices
import Derived.WalkKit
import Derived.KernelRfl
import Derived.RowKit3
import Derived.Deep.LoopGhost
import Derived.Deep.QuietTactic
import Derived.BigQuiet
import Derived.WideLaws
import Derived.Deep.DeepCutAuto
import Derived.Deep.CutBlock
import Derived.Deep.RegionHeld3
import Derived.Laws.Rows
import Derived.Lib.AppendStr
import Derived.ArgAppend
import Derived.Laws.IdiomCopy
import Derived.OrdersHeld
import Derived.Laws.BitsLemmas
import Derived.RowKit
import Derived.WalkSpells
import Derived.WalkLawsBesides
import Derived.RegionTactic
import Derived.ChangeAlike
import Derived.Lib.Hide
import Derived.Lib.SlBytesConst
import Derived.Lib.BufferMore
import Derived.Laws.StructEq
import Derived.Shelf.Abstract
set_option linter.unusedVariables false
set_option linter.unusedSimpArgs false
section
-- from ReadN
namespace Go.Proofs.YtbbhjceelghadaaDoor.K
open Go Go.RowKit Go.Proofs.YtbbhjceelghadaaDoorW.PrintWords Go.Proofs.YtbbhjceelghadaaDoorW.PrintLast Go.Proofs.YtbbhjceelghadaaDoorW.PrintMore Go.Proofs.YtbbhjceelghadaaDoor.My
/-- What reading panics with. -/
def shortE : List PanicEntry := [{ v := .iface 173 (.agg #[]), recovered := false }]
/-- A reader in block g, with the bytes l left; they lie in w0. -/
def Rd (w0 w : World) (g : Nat) (l : List UInt8) : Prop := ∃ A c, w.heap[g]? = some (.cells #[.slice A l.length c] 176 (0, 0)) ∧ l.length ≤ c ∧ kb.C w0 A l.length l
theorem Rd.grown {w0 w w' : World} {g : Nat} {l : List UInt8} (h : Rd w0 w g l) {row : Option Nat} (hg : w.grownBy w' row) (hne : some g ≠ row) : Rd w0 w' g l := by
  obtain ⟨A, c, hb, hc, hC⟩ := h
  exact ⟨A, c, (hg.block g (blk_lt hb) hne).trans hb, hc, hC⟩
theorem Rd.lt {w0 w : World} {g : Nat} {l : List UInt8} (h : Rd w0 w g l) : g < w.heap.size := by
  obtain ⟨A, c, hb, _⟩ := h
  exact blk_lt hb
theorem grown_refl (w : World) (row : Option Nat) : w.grownBy w row := ⟨rfl, rfl, rfl, Nat.le_refl _, fun _ _ _ => rfl⟩
theorem grown_trans {a w w' : World} {row : Option Nat} (h : a.grownBy w row) (k : w.grownBy w' row) : a.grownBy w' row :=
  ⟨k.os.trans h.os, k.tape.trans h.tape, k.output.trans h.output, Nat.le_trans h.size k.size, fun i hi hne => (k.block i (Nat.lt_of_lt_of_le hi h.size) hne).trans (h.block i hi hne)⟩
theorem grown_set (w : World) (g i : Nat) (v : Value) : w.grownBy (w.setCell ⟨g, i, none⟩ v) (some g) :=
  ⟨rfl, rfl, rfl, by simp [World.setCell], fun k _ hne => Below.heap_setCell _ _ _ _ (fun e => hne (by rw [e]))⟩
theorem grown_below {w w' : World} {row : Option Nat} (h : Below w.heap.size w w') : w.grownBy w' row := ⟨h.os, h.tape, h.output, h.size, fun k hk _ => h.block k hk⟩
theorem below_grown {B : Nat} {w0 w w' : World} {g : Nat} (h : Below B w0 w) (hg : w.grownBy w' (some g)) (hB : B ≤ g) (h0 : B ≤ w0.heap.size) : Below B w0 w' :=
  ⟨hg.os.trans h.os, hg.tape.trans h.tape, hg.output.trans h.output, Nat.le_trans h.size hg.size, fun k hk => (hg.block k (by have := h.size; omega) (fun e => by injection e with e; omega)).trans (h.block k hk)⟩
theorem numB_take_succ (l : List UInt8) (k : Nat) (h : k < l.length) : numB (l.take (k + 1)) = numB (l.take k) * 256 + (l.getD k 0).toNat := by
  rw [take_succ_getD 0 l k h, numB_snoc]
theorem numB_take_lt (l : List UInt8) (k : Nat) (h : k ≤ 7) : numB (l.take k) < 72057594037927936 := by
  have h1 := numB_lt (l.take k)
  have h2 : (l.take k).length ≤ 7 := by rw [List.length_take]; omega
  have h3 : 256 ^ (l.take k).length ≤ 256 ^ 7 := Nat.pow_le_pow_right (by decide) h2
  have h4 : 256 ^ 7 = 72057594037927936 := by decide
  omega
theorem or_next (n : Nat) (c : UInt8) (h : n < 72057594037927936) : bits .or .u64 ((n : Int) * 256) (c.toNat : Int) = ((n * 256 + c.toNat : Nat) : Int) := by
  have hc := c.toNat_lt
  rw [show ((n : Int) * 256) = ((n * 256 : Nat) : Int) by omega, u64_or_nat _ _ (by omega) (by omega)]
  congr 1
  have := Nat.shiftLeft_add_eq_or_of_lt (i := 8) (show c.toNat < 2 ^ 8 by omega) n
  rw [Nat.shiftLeft_eq] at this
  exact this.symm
set_option maxHeartbeats 2000000 in
theorem number_ok (s : Nat) (S : Int) (hS : S = s) (hs8 : s ≤ 8) (g : Nat) (l : List UInt8) (w0 w : World) (h : Rd w0 w g l) (hb : Below w0.heap.size w0 w) (hl : s ≤ l.length) :
    Calls Tryd.prog 141 #[.pointer (some ⟨g, 0, none⟩), .int .i64 S] w fun e w' => e = .returned (.int .u64 (numB (l.take s) : Int)) ∧ Rd w0 w' g (l.drop s) ∧ w.grownBy w' (some g) := by
  subst hS
  obtain ⟨A, c, hblk, hc, hC⟩ := h
  have HBL := Aside0.mk hblk
  have HB := Aside0.mk hb
  have hm := C_max hC
  have HC := Aside0.mk hC
  have z0 : w.cell? ⟨g, 0, none⟩ = some (.slice A l.length c) := (blk_cell hblk 0).trans rfl
  have f0 : w.frozen? ⟨g, 0, none⟩ = false := blk_frozen hblk 0
  have hcut := cut_h A l.length c s (s : Int) rfl hl hc
  obtain ⟨A2, hcut2, hC2⟩ := cut_l hC hc s (s : Int) rfl hl
  have HC2 := Aside0.mk hC2
  have hnot : ¬ (l.length : Int) < (s : Int) := by omega
  clear hblk hb hC hC2
  go_enter Tryd.func141, Tryd.ntmps141
  go_wp2
  go_loop [5, 24] (fun n i => ∃ k : Nat, k ≤ s ∧ i = .int .i64 k ∧ n = .int .u64 (numB (l.take k) : Int)) (fun _ i => s - (intOf i).toNat)
  case atStart => exact ⟨0, Nat.zero_le _, rfl, rfl⟩
  case round =>
    obtain ⟨k, hk, rfl, rfl⟩ := hrel
    by_cases hlt : k < s
    · obtain ⟨ad, rfl, hx⟩ := C_at (Kd.C_below HC.out HB.out) k (by omega)
      have hsn := Aside0.mk (numB_take_succ l k (by omega))
      have hn := numB_take_lt l k (by omega)
      generalize l.getD k 0 = cb at hx hsn
      have HOR := Aside0.mk (or_next (numB (l.take k)) cb hn)
      obtain ⟨n, hnn⟩ : ∃ n, n = numB (l.take k) := ⟨_, rfl⟩
      rw [← hnn] at hn HOR hsn ⊢
      clear hnn
      have hnI : (n : Int) < 72057594037927936 := by omega
      clear hn
      have hcb := cb.toNat_lt
      go_wp2
      go_round
      case rel => exact ⟨k + 1, by omega, by go_num, by rw [hsn.out, ← HOR.out]⟩
      case measure => simp [intOf]; omega
    · obtain rfl : k = s := by omega
      go_wp2
      go_ret
      refine ⟨rfl, ⟨A2, c - k, ?_, by rw [List.length_drop]; omega, ?_⟩, grown_set _ _ _ _⟩
      · rw [List.length_drop]
        exact (Lib.heap_setCell_same HBL.out _).trans rfl
      · rw [List.length_drop]
        exact HC2.out
set_option maxHeartbeats 1000000 in
theorem number_short (s : Nat) (S : Int) (hS : S = s) (g : Nat) (l : List UInt8) (w0 w : World) (h : Rd w0 w g l) (hl : l.length < s) :
    Calls Tryd.prog 141 #[.pointer (some ⟨g, 0, none⟩), .int .i64 S] w fun e w' => e = .panicked shortE ∧ w.grownBy w' (some g) := by
  subst hS
  obtain ⟨A, c, hblk, hc, hC⟩ := h
  have hm := C_max hC
  have z0 : w.cell? ⟨g, 0, none⟩ = some (.slice A l.length c) := (blk_cell hblk 0).trans rfl
  have f0 : w.frozen? ⟨g, 0, none⟩ = false := blk_frozen hblk 0
  have hyes : (l.length : Int) < (s : Int) := by omega
  clear hblk hC
  go_enter Tryd.func141, Tryd.ntmps141
  go_wp2
  exact ⟨rfl, rfl, grown_refl _ _⟩
theorem number_some {s : Nat} {l l' : List UInt8} {n : Nat} (h : number s l = some (n, l')) : s ≤ l.length ∧ n = numB (l.take s) ∧ l' = l.drop s := by
  unfold number at h
  split at h
  · cases h
  · injection h with h
    injection h with h1 h2
    exact ⟨by omega, h1.symm, h2.symm⟩
theorem number_none {s : Nat} {l : List UInt8} (h : number s l = none) : l.length < s := by
  unfold number at h
  split at h
  · assumption
  · cases h
theorem quo_wrap (a b : Nat) (h : a ≤ 9223372036854775807) : wrap64 ((a : Int) / (b : Int)) = (a : Int) / (b : Int) ∧ IntKind.u64.wrap ((a : Int) / (b : Int)) = (a : Int) / (b : Int) := by
  rw [← Int.natCast_ediv]
  have h1 : a / b ≤ a := Nat.div_le_self _ _
  generalize a / b = q at h1 ⊢
  constructor
  · unfold wrap64; omega
  · rw [IntKind.wrap_u64]; omega
set_option maxHeartbeats 2000000 in
theorem many_ok (s least : Nat) (S T : Int) (hS : S = s) (hT : T = least) (hs8 : s ≤ 8) (h1 : 1 ≤ least) (g : Nat) (l l' : List UInt8) (n : Nat) (w0 w : World) (h : Rd w0 w g l) (hb : Below w0.heap.size w0 w) (hg : w0.heap.size ≤ g) (hl : many s least l = some (n, l')) :
    Calls Tryd.prog 151 #[.pointer (some ⟨g, 0, none⟩), .int .i64 S, .int .i64 T] w fun e w' => e = .returned (.int .i64 (n : Int)) ∧ Rd w0 w' g l' ∧ w.grownBy w' (some g) ∧ n * least ≤ l'.length := by
  subst hT
  unfold many at hl
  obtain ⟨⟨m, r⟩, hn, hl⟩ := Option.bind_eq_some_iff.1 hl
  simp only at hl
  split at hl
  · cases hl
  injection hl with hl
  injection hl with e1 e2
  subst e1; subst e2
  rename_i hle
  obtain ⟨hsl, hm, hr⟩ := number_some hn
  have hle' : m * least ≤ r.length := by
    have : m ≤ r.length / least := by omega
    exact (Nat.le_div_iff_mul_le (by omega)).1 this
  have hmd : ¬ ((r.length : Int) / (least : Int)) < (m : Int) := by
    rw [← Int.natCast_ediv]
    omega
  have hcall := number_ok s S hS hs8 g l w0 w h hb hsl
  rw [← hm, ← hr] at hcall
  have HLE := Aside0.mk hle'
  clear hn hm hr hle hle' h hb hsl hS
  have hl1 : (1 : Int) ≤ (least : Int) := by omega
  go_enter Tryd.func151, Tryd.ntmps151
  go_wp2_with (go_at_call 141; refine hcall.mono ?_; rintro e w1 ⟨rfl, hR, hG⟩; obtain ⟨A1, c1, hblk, hc1, hC1⟩ := hR; have HBL := Aside0.mk hblk; have HC1 := Aside0.mk hC1; have hm1 := C_max hC1; have z0 : w1.cell? ⟨g, 0, none⟩ = some (.slice A1 r.length c1) := (blk_cell hblk 0).trans rfl; clear hblk hC1; obtain ⟨hq1, hq2⟩ := quo_wrap r.length least hm1; have hmr : (m : Int) ≤ 9223372036854775807 := by (have := HLE.out; have := Nat.le_mul_of_pos_right m (show 0 < least by omega); omega))
  go_ret
  exact ⟨rfl, ⟨A1, c1, HBL.out, hc1, HC1.out⟩, hG, HLE.out⟩
set_option maxHeartbeats 2000000 in
theorem many_short (s least : Nat) (S T : Int) (hS : S = s) (hT : T = least) (hs8 : s ≤ 8) (h1 : 1 ≤ least) (g : Nat) (l : List UInt8) (w0 w : World) (h : Rd w0 w g l) (hb : Below w0.heap.size w0 w) (hg : w0.heap.size ≤ g) (hl : many s least l = none) :
    Calls Tryd.prog 151 #[.pointer (some ⟨g, 0, none⟩), .int .i64 S, .int .i64 T] w fun e w' => e = .panicked shortE ∧ w.grownBy w' (some g) := by
  subst hT
  unfold many at hl
  cases hn : number s l with
  | none =>
    have hcall := number_short s S hS g l w0 w h (number_none hn)
    clear hn hl h hb hS
    go_enter Tryd.func151, Tryd.ntmps151
    go_wp2_with (go_at_call 141; refine hcall.mono ?_; rintro e w1 ⟨rfl, hG⟩)
    exact ⟨rfl, rfl, hG⟩
  | some x =>
    obtain ⟨m, r⟩ := x
    rw [hn] at hl
    simp only [Option.bind_some] at hl
    split at hl
    · rename_i hgt
      obtain ⟨hsl, hm, hr⟩ := number_some hn
      have hmd : ((r.length : Int) / (least : Int)) < (m : Int) := by
        rw [← Int.natCast_ediv]
        omega
      have hcall := number_ok s S hS hs8 g l w0 w h hb hsl
      rw [← hm, ← hr] at hcall
      clear hn hm hr hgt h hb hsl hS hl
      have hl1 : (1 : Int) ≤ (least : Int) := by omega
      go_enter Tryd.func151, Tryd.ntmps151
      go_wp2_with (go_at_call 141; refine hcall.mono ?_; rintro e w1 ⟨rfl, hR, hG⟩; obtain ⟨A1, c1, hblk, hc1, hC1⟩ := hR; have hm1 := C_max hC1; have z0 : w1.cell? ⟨g, 0, none⟩ = some (.slice A1 r.length c1) := (blk_cell hblk 0).trans rfl; clear hblk hC1; obtain ⟨hq1, hq2⟩ := quo_wrap r.length least hm1)
      exact ⟨rfl, rfl, hG⟩
    · cases hl
end Go.Proofs.YtbbhjceelghadaaDoor.K
end

section
-- from ReadL
namespace Go.Proofs.YtbbhjceelghadaaDoor.K
open Go Go.RowKit Go.Proofs.YtbbhjceelghadaaDoorW.PrintWords Go.Proofs.YtbbhjceelghadaaDoorW.PrintLast Go.Proofs.YtbbhjceelghadaaDoorW.PrintMore Go.Proofs.YtbbhjceelghadaaDoor.My
/-- What a reading comes to: a value and what is left, or the panic. -/
def PP {α : Type} (res : Option (α × List UInt8)) (val : α → Value → World → Prop) (w0 w : World) (g : Nat) (e : Ending) (w' : World) : Prop :=
  w.grownBy w' (some g) ∧ ((∃ x l' v, res = some (x, l') ∧ e = .returned v ∧ val x v w' ∧ Rd w0 w' g l') ∨ (res = none ∧ e = .panicked shortE))
theorem PP.ok {α : Type} {res : Option (α × List UInt8)} {val : α → Value → World → Prop} {w0 w w' : World} {g : Nat} {e : Ending} {x : α} {l : List UInt8} (h : PP res val w0 w g e w') (hr : res = some (x, l)) : ∃ v, e = .returned v ∧ val x v w' ∧ Rd w0 w' g l ∧ w.grownBy w' (some g) := by
  obtain ⟨hg, ⟨x', l', v, h1, h2, h3, h4⟩ | ⟨h1, _⟩⟩ := h
  · rw [hr] at h1
    injection h1 with h1
    injection h1 with h1 h5
    subst h1; subst h5
    exact ⟨v, h2, h3, h4, hg⟩
  · rw [hr] at h1; cases h1
theorem PP.short {α : Type} {res : Option (α × List UInt8)} {val : α → Value → World → Prop} {w0 w w' : World} {g : Nat} {e : Ending} (h : PP res val w0 w g e w') (hr : res = none) : e = .panicked shortE ∧ w.grownBy w' (some g) := by
  obtain ⟨hg, ⟨x', l', v, h1, _⟩ | ⟨_, h2⟩⟩ := h
  · rw [hr] at h1; cases h1
  · exact ⟨h2, hg⟩
/-- Numbers in a row of the call's own. -/
def RI (w : World) (base : Nat) (v : Value) (xs : List Int) : Prop := Kd.R (Kd.int .i64) 3 w base (fun _ => True) v xs
theorem R_keep {α : Type} {d : Kd α} {e : Nat} {w w1 : World} {base : Nat} {ok : Nat → Prop} {v : Value} {xs : List α} {g : Nat} (h : d.R e w base ok v xs) (hg : w.grownBy w1 (some g)) (hlt : g < base) : d.R e w1 base ok v xs :=
  Kd.R_mono (Kd.R_grown (Kd.R_bound h) hg (fun k hk e => by have := hk.2.1; injection e with e; omega)) (fun _ hk => hk.1)
theorem R_head' {α : Type} {d : Kd α} {e : Nat} {w : World} {base : Nat} {ok : Nat → Prop} {ad : Addr} {n cap : Nat} {xs : List α} (h : d.R e w base ok (.slice (some ad) n cap) xs) : ∃ g, ad = ⟨g, 0, none⟩ := Kd.R_head h
theorem RI_at {w : World} {base : Nat} {ad : Addr} {n c : Nat} {xs : List Int} (h : RI w base (.slice (some ad) n c) xs) (k : Nat) (hk : k < n) (x : Int) :
    (∃ old, w.cell? (ad.add k) = some old) ∧ w.frozen? (ad.add k) = false ∧ base ≤ ad.block ∧
    RI (w.setCell (ad.add k) (.int .i64 x)) base (.slice (some ad) n c) (xs.set k x) ∧ w.grownBy (w.setCell (ad.add k) (.int .i64 x)) (some ad.block) := by
  obtain ⟨g, rfl⟩ := R_head' h
  have ho := Kd.own_of_R (enc := Value.int .i64) (h1 := fun _ => rfl) h
  obtain ⟨hlen, _, hC⟩ := Kd.R_reads' h
  obtain ⟨A1, e1, hx⟩ := Kd.at_int hC (k : Int) (by omega) (by omega)
  injection e1 with e1
  subst e1
  rw [Int.toNat_natCast] at hx
  obtain ⟨cells, hc⟩ := own_typed ho g (by simp [Value.ownBlock])
  rw [← hlen] at ho
  obtain ⟨h2, h3⟩ := own_store_of ho (k : Int) x
  rw [Int.toNat_natCast] at h2 h3
  have ha : (⟨g, 0, none⟩ : Addr).add k = ⟨g, k, none⟩ := by rw [add_plain]
  rw [ha] at hx ⊢
  refine ⟨⟨_, hx⟩, blk_frozen hc k, ?_, Kd.R_of_own ?_ (fun _ _ => trivial), h3⟩
  · exact Kd.R_base h g (by simp [Value.ownBlock])
  · rw [List.length_set, ← hlen]
    exact h2
theorem RI_new {W : World} {n base : Nat} (hn : n ≤ 9223372036854775807) (hb : base ≤ W.heap.size) : RI (W.alloc (.cells (madeCells #[.int .i64 0] n) 3)) base (.slice (some ⟨W.heap.size, 0, none⟩) n n) (List.replicate n 0) := by
  refine Kd.R_of_own ?_ (fun _ _ => trivial)
  have h := World.ownsRow_lit (base := base) (e := 3) (size := 1) W (madeCells #[.int .i64 0] n) n hb (by unfold maxLen; omega) (by simp [madeCells])
  rw [List.length_replicate]
  have e : (madeCells #[.int .i64 0] n).toList = encs (Value.int .i64) (List.replicate n 0) := by
    apply List.ext_getElem
    · simp [madeCells, encs]
    · intro i h1 h2
      simp [madeCells, Nat.mod_one, encs]
  rw [← e]
  exact h
theorem grown_new {w w1 w2 : World} {g b : Nat} (h : w.grownBy w1 (some g)) (k : w1.grownBy w2 (some b)) (hb : w.heap.size ≤ b) : w.grownBy w2 (some g) :=
  ⟨k.os.trans h.os, k.tape.trans h.tape, k.output.trans h.output, Nat.le_trans h.size k.size, fun i hi hne => (k.block i (Nat.lt_of_lt_of_le hi h.size) (fun e => by injection e with e; omega)).trans (h.block i hi hne)⟩
theorem repP_step {α : Type} (p : List UInt8 → Option (α × List UInt8)) (n : Nat) (b : List UInt8) : repP p (n + 1) b = (p b).bind fun x => (repP p n x.2).bind fun y => some (x.1 :: y.1, y.2) := rfl
/-- What is known between two elements: some are done, some are left. -/
def Left {α : Type} (p : List UInt8 → Option (α × List UInt8)) (n k : Nat) (l r : List UInt8) (done : List α) : Prop :=
  done.length = k ∧ repP p n l = (repP p (n - k) r).bind fun y => some (done ++ y.1, y.2)
theorem Left.start {α : Type} (p : List UInt8 → Option (α × List UInt8)) (n : Nat) (l : List UInt8) : Left p n 0 l l [] := by
  refine ⟨rfl, ?_⟩
  rw [Nat.sub_zero]
  cases repP p n l <;> rfl
theorem Left.next {α : Type} {p : List UInt8 → Option (α × List UInt8)} {n k : Nat} {l r r' : List UInt8} {done : List α} {x : α} (h : Left p n k l r done) (hk : k < n) (hp : p r = some (x, r')) : Left p n (k + 1) l r' (done ++ [x]) := by
  refine ⟨by rw [List.length_append, h.1]; rfl, ?_⟩
  rw [h.2, show n - k = (n - (k + 1)) + 1 by omega, repP_step, hp]
  simp only [Option.bind_some]
  cases repP p (n - (k + 1)) r' with
  | none => rfl
  | some y => simp
theorem Left.fail {α : Type} {p : List UInt8 → Option (α × List UInt8)} {n k : Nat} {l r : List UInt8} {done : List α} (h : Left p n k l r done) (hk : k < n) (hp : p r = none) : repP p n l = none := by
  rw [h.2, show n - k = (n - (k + 1)) + 1 by omega, repP_step, hp]
  rfl
theorem Left.done {α : Type} {p : List UInt8 → Option (α × List UInt8)} {n : Nat} {l r : List UInt8} {done : List α} (h : Left p n n l r done) : repP p n l = some (done, r) := by
  rw [h.2, Nat.sub_self]
  simp [repP]
theorem set_rep {α : Type} (z x : α) (done : List α) (n k : Nat) (hd : done.length = k) (hk : k < n) : (done ++ List.replicate (n - k) z).set k x = (done ++ [x]) ++ List.replicate (n - (k + 1)) z := by
  rw [List.set_append_right _ _ (by omega), hd, Nat.sub_self, show n - k = (n - (k + 1)) + 1 by omega, List.replicate_succ, List.set_cons_zero, List.append_assoc]
  rfl
theorem many_len {s least n : Nat} {l r : List UInt8} (h : many s least l = some (n, r)) (h1 : 1 ≤ least) : r.length + s = l.length ∧ n * least ≤ r.length := by
  unfold many at h
  obtain ⟨⟨m, r'⟩, hn, hl⟩ := Option.bind_eq_some_iff.1 h
  simp only at hl
  split at hl
  · cases hl
  injection hl with hl
  injection hl with e1 e2
  subst e1; subst e2
  rename_i hle
  obtain ⟨h3, _, rfl⟩ := number_some hn
  refine ⟨by rw [List.length_drop]; omega, (Nat.le_div_iff_mul_le (by omega)).1 (by omega)⟩
theorem u64_int (n : Nat) (h : n < 9223372036854775808) : wrap64 (n : Int) = (n : Int) := by unfold wrap64; omega
theorem make_row {t e : TypeId} {z : Value} {size bytes : Nat} (ht : Tryd.prog.underlying t = some (.slice e)) (hinfo : (Tryd.prog.info? e).map (fun i => (i.zero, i.size, i.bytes)) = some (some z, size, bytes)) (hb : bytes ≤ 100000) (n : Nat) (hn : (n : Int) ≤ 100000) (W : World) :
    (Instr.makeSlice t (.int .i64 (n : Int)) (.int .i64 (n : Int))).run Tryd.prog W = .ok (.slice (some ⟨W.heap.size, 0, none⟩) n n) (W.alloc (.cells (madeCells z.cells (n * size)) e)) := by
  obtain ⟨i, hi, he⟩ := Option.map_eq_some_iff.1 hinfo
  simp only [Prod.mk.injEq] at he
  obtain ⟨h1, h2, h3⟩ := he
  have hbn : (i.bytes : Int) * (n : Int) ≤ 281474976710656 := by
    have h4 : (i.bytes : Int) ≤ 100000 := by omega
    have h5 : (i.bytes : Int) * (n : Int) ≤ 100000 * 100000 := Int.mul_le_mul h4 hn (by omega) (by omega)
    omega
  have := run_make W t e i z ht hi h1 .i64 .i64 (n : Int) (n : Int) (by omega) (by omega) hbn (by omega)
  rw [h2, Int.toNat_natCast] at this
  exact this
theorem intP_some {s : Nat} {l r : List UInt8} {x : Int} (h : intP s l = some (x, r)) : s ≤ l.length ∧ x = (numB (l.take s) : Int) ∧ r = l.drop s := by
  unfold intP at h
  obtain ⟨⟨m, r'⟩, hn, hl⟩ := Option.bind_eq_some_iff.1 h
  injection hl with hl
  injection hl with e1 e2
  subst e1; subst e2
  obtain ⟨h1, rfl, rfl⟩ := number_some hn
  exact ⟨h1, rfl, rfl⟩
theorem intP_none {s : Nat} {l : List UInt8} (h : intP s l = none) : l.length < s := by
  unfold intP at h
  cases hn : number s l with
  | none => exact number_none hn
  | some x => rw [hn] at h; cases h
theorem num_small (l : List UInt8) (s : Nat) (hs : s ≤ 4) : (numB (l.take s) : Int) < 4294967296 := by
  have h1 := numB_lt (l.take s)
  have h2 : (l.take s).length ≤ 4 := by rw [List.length_take]; omega
  have h3 : 256 ^ (l.take s).length ≤ 256 ^ 4 := Nat.pow_le_pow_right (by decide) h2
  have h4 : 256 ^ 4 = 4294967296 := by decide
  omega
set_option maxRecDepth 20000 in
set_option maxHeartbeats 2000000 in
theorem rnodes_any (g : Nat) (l : List UInt8) (w0 w : World) (h : Rd w0 w g l) (hb : Below w0.heap.size w0 w) (hg : w0.heap.size ≤ g) (hm : (l.length : Int) ≤ 100000) :
    Calls Tryd.prog 142 #[.pointer (some ⟨g, 0, none⟩)] w (PP (nodesP l) (fun xs v w' => RI w' w.heap.size v xs) w0 w g) := by
  have HR := Aside0.mk h
  have HB := Aside0.mk hb
  have hlt := h.lt
  clear h hb
  cases hmy : many 1 1 l with
  | none =>
    have hn : nodesP l = none := by unfold nodesP; rw [hmy]; rfl
    have hcall := many_short 1 1 1 1 rfl rfl (by omega) (by omega) g l w0 w HR.out HB.out hg hmy
    have HN := Aside0.mk hn
    clear hmy hn
    go_enter Tryd.func142, Tryd.ntmps142
    go_wp2_with (go_at_call 151; refine hcall.mono ?_; rintro e w1 ⟨rfl, hG⟩)
    exact ⟨rfl, hG, .inr ⟨HN.out, rfl⟩⟩
  | some x =>
    obtain ⟨n, r0⟩ := x
    have hn : nodesP l = repP (intP 1) n r0 := by unfold nodesP; rw [hmy]; rfl
    have hcall := many_ok 1 1 1 1 rfl rfl (by omega) (by omega) g l r0 n w0 w HR.out HB.out hg hmy
    have HN := Aside0.mk hn
    obtain ⟨hl1, hl2⟩ := many_len hmy (by omega)
    have hn1 : (n : Int) ≤ 100000 := by omega
    have hr1 : (r0.length : Int) ≤ 100000 := by omega
    have hmk := make_row (t := 50) (e := 3) Tryd.underlying50 info3 (by omega) n hn1
    clear hmy hn hl1 hl2
    go_enter Tryd.func142, Tryd.ntmps142
    go_wp2_with (go_at_call 151; refine hcall.mono ?_; rintro e w1 ⟨rfl, hR, hG, hle⟩; clear hle; have HR1 := Aside0.mk hR; have HG1 := Aside0.mk hG; clear hR hG)
    have HO := Aside0.mk (RI_new (W := w1) (n := n) (base := w.heap.size) (by omega) HG1.out.size)
    have HG := Aside0.mk (grown_trans HG1.out (grown_below (below_alloc (Below.refl _ _) (.cells (madeCells #[.int .i64 0] n) 3))))
    have HR2 := Aside0.mk (Rd.grown HR1.out (grown_below (row := none) (below_alloc (Below.refl _ _) (.cells (madeCells #[.int .i64 0] n) 3))) (by simp))
    clear HR1 HG1 hcall hmk
    obtain ⟨ad, had⟩ : ∃ ad : Addr, ad = ⟨w1.heap.size, 0, none⟩ := ⟨_, rfl⟩
    rw [← had] at HO ⊢
    obtain ⟨W2, hW⟩ : ∃ W2, W2 = w1.alloc (.cells (madeCells #[.int .i64 0] n) 3) := ⟨_, rfl⟩
    rw [← hW] at HO HG HR2 ⊢
    clear hW had
    go_loopw [10] (fun i wr => ∃ (k : Nat) (done : List Int) (r : List UInt8), k ≤ n ∧ i = .int .i64 k ∧ Aside0 (Left (intP 1) n k r0 r done) ∧ Aside0 (Rd w0 wr g r) ∧ Aside0 (RI wr w.heap.size (.slice (some ad) n n) (done ++ List.replicate (n - k) 0)) ∧ Aside0 (w.grownBy wr (some g))) (fun i _ => n - (intOf i).toNat)
    case atStart => exact ⟨0, [], r0, Nat.zero_le _, rfl, ⟨Left.start _ _ _⟩, HR2, HO, HG⟩
    case round =>
      obtain ⟨k, done, r, hk, rfl, HL, HRd, HOk, HGk⟩ := hrel
      clear HR2 HO HG
      by_cases hkn : k < n
      · cases hp : intP 1 r with
        | none =>
          have hcall := number_short 1 1 rfl g r w0 wr HRd.out (intP_none hp)
          have HF := Aside0.mk (Left.fail HL.out hkn hp)
          clear hp
          go_wp2_with (go_at_call 141; refine hcall.mono ?_; rintro e w2 ⟨rfl, hG⟩)
          exact ⟨rfl, grown_trans HGk.out hG, .inr ⟨by rw [HN.out]; exact HF.out, rfl⟩⟩
        | some x =>
          obtain ⟨x, r'⟩ := x
          obtain ⟨hs1, hx, hr'⟩ := intP_some hp
          have HN1 := Aside0.mk (Left.next HL.out hkn hp)
          have hcall := number_ok 1 1 rfl (by omega) g r w0 wr HRd.out (below_grown HB.out HGk.out hg (Nat.le_refl _)) hs1
          have hsm := num_small r 1 (by omega)
          rw [← hr'] at hcall
          obtain ⟨m, hm1⟩ : ∃ m, m = numB (r.take 1) := ⟨_, rfl⟩
          rw [← hm1] at hcall hsm hx
          subst hx
          clear hp hr' hm1 hs1
          go_wp2_with (go_at_call 141; refine hcall.mono ?_; rintro e w2 ⟨rfl, hR, hG⟩; obtain ⟨⟨old, ho⟩, hf, hbs, hset, hgr⟩ := RI_at (R_keep HOk.out hG hlt) k hkn (m : Int); have HS := Aside0.mk hset; have HGR := Aside0.mk (grown_new (grown_trans HGk.out hG) hgr hbs); have HRR := Aside0.mk (Rd.grown hR hgr (by (intro e; injection e with e; omega))); clear hset hgr hbs hR hG)
          go_roundw
          case rel => exact ⟨k + 1, done ++ [(m : Int)], r', by omega, by go_num, HN1, HRR, ⟨by rw [← set_rep _ _ _ _ _ HL.out.1 hkn]; exact HS.out⟩, HGR⟩
          case measure => simp [intOf]; omega
      · obtain rfl : k = n := by omega
        go_wp2
        go_ret
        have hd := HOk.out
        rw [Nat.sub_self, List.replicate_zero, List.append_nil] at hd
        exact ⟨HGk.out, .inl ⟨done, r, _, by rw [HN.out]; exact Left.done HL.out, rfl, hd, HRd.out⟩⟩
/-- Rows of two cells each, as cells. -/
def RW (e : Nat) (w : World) (base : Nat) (v : Value) (rows : List (List Value)) : Prop := (Kd.raw 2).R e w base (fun _ => True) v rows
theorem RW_at {e : Nat} {w : World} {base : Nat} {ad : Addr} {n c : Nat} {rows : List (List Value)} (h : RW e w base (.slice (some ad) n c) rows) (k : Nat) (hk : k < n) :
    ∃ x y, rows.getD k [] = [x, y] ∧ w.cell? (ad.add (k * 2)) = some x ∧ w.cell? ⟨(ad.add (k * 2)).block, (ad.add (k * 2)).off + 1, none⟩ = some y ∧ w.frozen? (ad.add (k * 2)) = false ∧ w.frozen? ⟨(ad.add (k * 2)).block, (ad.add (k * 2)).off + 1, none⟩ = false ∧ base ≤ ad.block ∧ ad.block < w.heap.size ∧
    (∀ u : Value, u.oneCell' = true → RW e (w.setCell (ad.add (k * 2)) u) base (.slice (some ad) n c) (rows.set k [u, y]) ∧ w.grownBy (w.setCell (ad.add (k * 2)) u) (some ad.block)) ∧
    (∀ u : Value, u.oneCell' = true → RW e (w.setCell ⟨(ad.add (k * 2)).block, (ad.add (k * 2)).off + 1, none⟩ u) base (.slice (some ad) n c) (rows.set k [x, u]) ∧ w.grownBy (w.setCell ⟨(ad.add (k * 2)).block, (ad.add (k * 2)).off + 1, none⟩ u) (some ad.block)) := by
  obtain ⟨g, rfl⟩ := R_head' h
  have hb := Kd.R_base h g (by simp [Value.ownBlock])
  have hlt := Kd.R_lt h g (by simp [Value.ownBlock])
  obtain ⟨cc, hcl, hM, hcc, hf⟩ := Kd.R_elem h [] (k : Int) (by omega) (by omega)
  rw [Int.toNat_natCast] at hM hcc hf
  have hM' : cc = rows.getD k [] ∧ cc.length = 2 ∧ ∀ u ∈ cc, u.oneCell' = true := hM
  obtain ⟨hc1, hc2, hc3⟩ := hM'
  obtain ⟨x, y, rfl⟩ : ∃ x y, cc = [x, y] := by
    match cc, hc2 with
    | [x, y], _ => exact ⟨x, y, rfl⟩
  have ha : (⟨g, 0, none⟩ : Addr).add (k * 2) = ⟨g, k * 2, none⟩ := by rw [add_plain]
  rw [ha]
  have z0 : w.cell? ⟨g, k * 2, none⟩ = some x := hcc 0 x rfl
  have z1 : w.cell? ⟨g, k * 2 + 1, none⟩ = some y := hcc 1 y rfl
  have f0 : w.frozen? ⟨g, k * 2, none⟩ = false := hf 0
  have f1 : w.frozen? ⟨g, k * 2 + 1, none⟩ = false := hf 1
  have ox := hc3 x (by simp)
  have oy := hc3 y (by simp)
  have hcc' : ∀ j u, [x, y][j]? = some u → w.cell? ⟨g, (k : Int).toNat * (Kd.raw 2).sz + j, none⟩ = some u := by rw [Int.toNat_natCast]; exact hcc
  refine ⟨x, y, hc1.symm, z0, z1, f0, f1, hb, hlt, fun u hu => ?_, fun u hu => ?_⟩
  · have := Kd.R_seg (d := Kd.raw 2) (okp := fun _ => False) (c := [x, y]) (seg := [u]) (j := 0) (x' := [u, y]) h (k : Int) (by omega) (by omega) rfl hcc' (show _ ≤ 2 by simp) ⟨rfl, rfl, by
      intro z hz
      rcases List.mem_cons.1 hz with rfl | hz
      · exact hu
      · rcases List.mem_cons.1 hz with rfl | hz
        · exact oy
        · cases hz⟩ (fun _ hk => hk.elim)
    rw [Int.toNat_natCast] at this
    exact this
  · have := Kd.R_seg (d := Kd.raw 2) (okp := fun _ => False) (c := [x, y]) (seg := [u]) (j := 1) (x' := [x, u]) h (k : Int) (by omega) (by omega) rfl hcc' (show _ ≤ 2 by simp) ⟨rfl, rfl, by
      intro z hz
      rcases List.mem_cons.1 hz with rfl | hz
      · exact ox
      · rcases List.mem_cons.1 hz with rfl | hz
        · exact hu
        · cases hz⟩ (fun _ hk => hk.elim)
    rw [Int.toNat_natCast] at this
    exact this
theorem RW_new {e : Nat} {W : World} {n base : Nat} {x y : Value} (ox : x.oneCell' = true) (oy : y.oneCell' = true) (hn : n ≤ 9223372036854775807) (hb : base ≤ W.heap.size) : RW e (W.alloc (.cells (madeCells #[x, y] (n * 2)) e)) base (.slice (some ⟨W.heap.size, 0, none⟩) n n) (List.replicate n [x, y]) := by
  refine ⟨fun _ _ => trivial, (madeCells #[x, y] (n * 2)).toList, ?_, ?_, ?_⟩
  · rw [List.length_replicate]
    exact World.ownsRow_lit W (madeCells #[x, y] (n * 2)) n hb (by unfold maxLen; omega) (by simp [madeCells, Kd.raw])
  · simp [madeCells, Kd.raw]
  · intro j p hj
    obtain ⟨hjl, hjp⟩ := List.getElem?_eq_some_iff.1 hj
    rw [List.length_replicate] at hjl
    rw [List.getElem_replicate] at hjp
    subst hjp
    have hcell : (((madeCells #[x, y] (n * 2)).toList.drop (j * (Kd.raw 2).sz)).take (Kd.raw 2).sz) = [x, y] := by
      apply List.ext_getElem
      · simp [madeCells, Kd.raw]; omega
      · intro i h1 h2
        have hi : i < 2 := by simpa using h2
        rw [List.getElem_take, List.getElem_drop]
        have hi' : i = 0 ∨ i = 1 := by omega
        rcases hi' with rfl | rfl <;> simp [madeCells, Kd.raw, Nat.add_mod]
    rw [hcell]
    refine ⟨rfl, rfl, fun u hu => ?_⟩
    rcases List.mem_cons.1 hu with rfl | hu
    · exact ox
    · rcases List.mem_cons.1 hu with rfl | hu
      · exact oy
      · cases hu
theorem R_of_raw {α : Type} {d : Kd α} (hd : d.sz = 2) {e : Nat} {w : World} {base : Nat} {v : Value} {rows : List (List Value)} {xs : List α} {ok : Nat → Prop} (h : RW e w base v rows) (hl : xs.length = rows.length) (hok : ∀ k, v.ownBlock = some k → ok k) (hM : ∀ (j : Nat) (p : α) (c : List Value), xs[j]? = some p → rows[j]? = some c → d.M w base (fun k => ok k ∧ some k ≠ v.ownBlock) p c) : d.R e w base ok v xs := by
  obtain ⟨_, inner, ho, hr⟩ := h
  refine ⟨hok, inner, ?_, ?_, ?_⟩
  · rw [hl, hd]; exact ho
  · rw [hl, hd]; exact hr.1
  · intro j p hj
    have hjl : j < rows.length := by rw [← hl]; exact (List.getElem?_eq_some_iff.1 hj).1
    have hc := hr.2 j rows[j] (List.getElem?_eq_getElem hjl)
    rw [hd]
    have e : ((inner.drop (j * (Kd.raw 2).sz)).take (Kd.raw 2).sz) = rows[j] := hc.1
    show d.M w base _ p ((inner.drop (j * 2)).take 2)
    rw [show ((inner.drop (j * 2)).take 2) = rows[j] from e]
    exact hM j p _ hj (List.getElem?_eq_getElem hjl)
end Go.Proofs.YtbbhjceelghadaaDoor.K
end

section
-- from ReadS
namespace Go.Proofs.YtbbhjceelghadaaDoor.K
open Go Go.RowKit Go.Proofs.YtbbhjceelghadaaDoorW.PrintWords Go.Proofs.YtbbhjceelghadaaDoorW.PrintLast Go.Proofs.YtbbhjceelghadaaDoorW.PrintMore Go.Proofs.YtbbhjceelghadaaDoor.My
def encS (s : SSpan) : List Value := [.int .i64 s.f0, .int .i64 s.f1]
theorem set_map_rep {α β : Type} (f : α → β) (z u : β) (done : List α) (n k : Nat) (x : α) (hu : u = f x) (hd : done.length = k) (hk : k < n) : (done.map f ++ List.replicate (n - k) z).set k u = (done ++ [x]).map f ++ List.replicate (n - (k + 1)) z := by
  subst hu
  rw [set_rep z (f x) (done.map f) n k (by rw [List.length_map]; exact hd) hk, List.map_append]
  rfl
theorem spanP_none1 {r : List UInt8} (h : intP 4 r = none) : spanP r = none := by unfold spanP; rw [h]; rfl
theorem spanP_none2 {r r1 : List UInt8} {x : Int} (h : intP 4 r = some (x, r1)) (h1 : intP 1 r1 = none) : spanP r = none := by unfold spanP; rw [h]; simp only [Option.bind_some]; rw [h1]; rfl
theorem spanP_some {r r1 r2 : List UInt8} {x y : Int} (h : intP 4 r = some (x, r1)) (h1 : intP 1 r1 = some (y, r2)) : spanP r = some (⟨x, y⟩, r2) := by unfold spanP; rw [h]; simp only [Option.bind_some]; rw [h1]; rfl
set_option maxRecDepth 20000 in
set_option maxHeartbeats 4000000 in
theorem rspans_any (g : Nat) (l : List UInt8) (w0 w : World) (h : Rd w0 w g l) (hb : Below w0.heap.size w0 w) (hg : w0.heap.size ≤ g) (hm : (l.length : Int) ≤ 100000) :
    Calls Tryd.prog 144 #[.pointer (some ⟨g, 0, none⟩)] w (PP (spansP l) (fun xs v w' => Kd.R k132 132 w' w.heap.size (fun _ => True) v xs) w0 w g) := by
  have HR := Aside0.mk h
  have HB := Aside0.mk hb
  have hlt := h.lt
  clear h hb
  cases hmy : many 1 5 l with
  | none =>
    have hn : spansP l = none := by unfold spansP; rw [hmy]; rfl
    have hcall := many_short 1 5 1 5 rfl rfl (by omega) (by omega) g l w0 w HR.out HB.out hg hmy
    have HN := Aside0.mk hn
    clear hmy hn
    go_enter Tryd.func144, Tryd.ntmps144
    go_wp2_with (go_at_call 151; refine hcall.mono ?_; rintro e w1 ⟨rfl, hG⟩)
    exact ⟨rfl, hG, .inr ⟨HN.out, rfl⟩⟩
  | some x =>
    obtain ⟨n, r0⟩ := x
    have hn : spansP l = repP spanP n r0 := by unfold spansP; rw [hmy]; rfl
    have hcall := many_ok 1 5 1 5 rfl rfl (by omega) (by omega) g l r0 n w0 w HR.out HB.out hg hmy
    have HN := Aside0.mk hn
    obtain ⟨hl1, hl2⟩ := many_len hmy (by omega)
    have hn1 : (n : Int) ≤ 100000 := by omega
    have hmk := make_row (t := 52) (e := 132) Tryd.underlying52 info132 (by omega) n hn1
    clear hmy hn hl1 hl2
    go_enter Tryd.func144, Tryd.ntmps144
    go_wp2_with (go_at_call 151; refine hcall.mono ?_; rintro e w1 ⟨rfl, hR, hG, hle⟩; clear hle; have HR1 := Aside0.mk hR; have HG1 := Aside0.mk hG; clear hR hG)
    have HO := Aside0.mk (RW_new (e := 132) (W := w1) (n := n) (base := w.heap.size) (x := .int .i64 0) (y := .int .i64 0) rfl rfl (by omega) HG1.out.size)
    have HG := Aside0.mk (grown_trans HG1.out (grown_below (below_alloc (Below.refl _ _) (.cells (madeCells #[.int .i64 0, .int .i64 0] (n * 2)) 132))))
    have HR2 := Aside0.mk (Rd.grown HR1.out (grown_below (row := none) (below_alloc (Below.refl _ _) (.cells (madeCells #[.int .i64 0, .int .i64 0] (n * 2)) 132))) (by simp))
    clear HR1 HG1 hcall hmk
    obtain ⟨ad, had⟩ : ∃ ad : Addr, ad = ⟨w1.heap.size, 0, none⟩ := ⟨_, rfl⟩
    rw [← had] at HO ⊢
    obtain ⟨W2, hW⟩ : ∃ W2, W2 = w1.alloc (.cells (madeCells #[.int .i64 0, .int .i64 0] (n * 2)) 132) := ⟨_, rfl⟩
    rw [← hW] at HO HG HR2
    first | rw [← hW] | (rw [show w1.alloc (.cells (madeCells (Value.agg #[.int .i64 0, .int .i64 0]).cells (n * 2)) 132) = W2 from hW.symm])
    clear hW had
    go_loopw [10] (fun i wr => ∃ (k : Nat) (done : List SSpan) (r : List UInt8), k ≤ n ∧ i = .int .i64 k ∧ Aside0 (Left spanP n k r0 r done) ∧ Aside0 (Rd w0 wr g r) ∧ Aside0 (RW 132 wr w.heap.size (.slice (some ad) n n) (done.map encS ++ List.replicate (n - k) [.int .i64 0, .int .i64 0])) ∧ Aside0 (w.grownBy wr (some g))) (fun i _ => n - (intOf i).toNat)
    case atStart => exact ⟨0, [], r0, Nat.zero_le _, rfl, ⟨Left.start _ _ _⟩, HR2, HO, HG⟩
    case round =>
      obtain ⟨k, done, r, hk, rfl, HL, HRd, HOk, HGk⟩ := hrel
      clear HR2 HO HG
      by_cases hkn : k < n
      · cases hp : intP 4 r with
        | none =>
          have hcall := number_short 4 4 rfl g r w0 wr HRd.out (intP_none hp)
          have HF := Aside0.mk (Left.fail HL.out hkn (spanP_none1 hp))
          clear hp
          go_wp2_with (go_at_call 141; refine hcall.mono ?_; rintro e w2 ⟨rfl, hG⟩)
          exact ⟨rfl, grown_trans HGk.out hG, .inr ⟨by rw [HN.out]; exact HF.out, rfl⟩⟩
        | some x =>
          obtain ⟨x, r1⟩ := x
          obtain ⟨hs1, hx, hr1⟩ := intP_some hp
          have hcall := number_ok 4 4 rfl (by omega) g r w0 wr HRd.out (below_grown HB.out HGk.out hg (Nat.le_refl _)) hs1
          have hsm := num_small r 4 (by omega)
          rw [← hr1] at hcall
          obtain ⟨m, hm1⟩ : ∃ m, m = numB (r.take 4) := ⟨_, rfl⟩
          rw [← hm1] at hcall hsm hx
          subst hx
          clear hr1 hm1 hs1
          cases hp1 : intP 1 r1 with
          | none =>
            have HF := Aside0.mk (Left.fail HL.out hkn (spanP_none2 hp hp1))
            have HP1 := Aside0.mk hp1
            clear hp hp1
            go_wp2_with fail
            refine hcall.mono ?_
            rintro e w2 ⟨rfl, hR, hG⟩
            obtain ⟨x0, y0, hrow, z0, z1, f0, f1, hbs, hbl, hset0, _⟩ := RW_at (R_keep HOk.out hG hlt) k hkn
            obtain ⟨hs0, hg0⟩ := hset0 (.int .i64 (m : Int)) rfl
            have HGR := Aside0.mk (grown_new (grown_trans HGk.out hG) hg0 hbs)
            have HRR := Aside0.mk (Rd.grown hR hg0 (by (intro e; injection e with e; omega)))
            clear hset0 hs0 hg0 hR hG hrow z1 f1 hcall
            go_wp2_with fail
            refine (number_short 1 1 rfl g r1 w0 _ HRR.out (intP_none HP1.out)).mono ?_
            rintro e w3 ⟨rfl, hG⟩
            go_wp2
            exact ⟨rfl, grown_trans HGR.out hG, .inr ⟨by rw [HN.out]; exact HF.out, rfl⟩⟩
          | some y =>
            obtain ⟨y, r2⟩ := y
            have HN1 := Aside0.mk (Left.next HL.out hkn (spanP_some hp hp1))
            obtain ⟨hs2, hy, hr2⟩ := intP_some hp1
            have hsm2 := num_small r1 1 (by omega)
            obtain ⟨m2, hm2⟩ : ∃ m2, m2 = numB (r1.take 1) := ⟨_, rfl⟩
            rw [← hm2] at hsm2 hy
            subst hy
            clear hp hp1
            go_wp2_with fail
            refine hcall.mono ?_
            rintro e w2 ⟨rfl, hR, hG⟩
            obtain ⟨x0, y0, hrow, z0, z1, f0, f1, hbs, hbl, hset0, _⟩ := RW_at (R_keep HOk.out hG hlt) k hkn
            obtain ⟨hs0, hg0⟩ := hset0 (.int .i64 (m : Int)) rfl
            have HGR := Aside0.mk (grown_new (grown_trans HGk.out hG) hg0 hbs)
            have HRR := Aside0.mk (Rd.grown hR hg0 (by (intro e; injection e with e; omega)))
            have HS0 := Aside0.mk hs0
            clear hset0 hs0 hg0 hR hG hrow z1 f1 hcall
            go_wp2_with fail
            have hcall := number_ok 1 1 rfl (by omega) g r1 w0 _ HRR.out (below_grown HB.out HGR.out hg (Nat.le_refl _)) hs2
            rw [← hr2, ← hm2] at hcall
            refine hcall.mono ?_
            rintro e w3 ⟨rfl, hR, hG⟩
            obtain ⟨x1, y1, hrow, z0', z1, f0', f1, hbs1, hbl1, _, hset1⟩ := RW_at (R_keep HS0.out hG hlt) k hkn
            obtain ⟨hs1, hg1⟩ := hset1 (.int .i64 (m2 : Int)) rfl
            have hkl : k < (done.map encS ++ List.replicate (n - k) [Value.int .i64 0, .int .i64 0]).length := by rw [List.length_append, List.length_map, List.length_replicate, HL.out.1]; omega
            rw [List.getD_eq_getElem?_getD, List.getElem?_set_self hkl] at hrow
            have hx1 : x1 = .int .i64 (m : Int) := by injection hrow with hx _; exact hx.symm
            subst hx1
            rw [List.set_set] at hs1
            have HS1 := Aside0.mk hs1
            have HGR2 := Aside0.mk (grown_new (grown_trans HGR.out hG) hg1 hbs1)
            have HRR2 := Aside0.mk (Rd.grown hR hg1 (by (intro e; injection e with e; omega)))
            clear hset1 hs1 hg1 hR hG hrow hcall z0 f0 z0' f0' hr2 hm2 hs2 hkl HS0 HGR HRR
            go_wp2
            go_roundw
            case rel => exact ⟨k + 1, done ++ [⟨(m : Int), (m2 : Int)⟩], r2, by omega, by go_num, HN1, HRR2, ⟨by rw [← set_map_rep encS _ [.int .i64 (m : Int), .int .i64 (m2 : Int)] done n k ⟨(m : Int), (m2 : Int)⟩ rfl HL.out.1 hkn]; exact HS1.out⟩, HGR2⟩
            case measure => simp [intOf]; omega
      · obtain rfl : k = n := by omega
        go_wp2
        go_ret
        have hd := HOk.out
        rw [Nat.sub_self, List.replicate_zero, List.append_nil] at hd
        refine ⟨HGk.out, .inl ⟨done, r, _, by rw [HN.out]; exact Left.done HL.out, rfl, ?_, HRd.out⟩⟩
        refine R_of_raw rfl hd (by rw [List.length_map]) (fun _ _ => trivial) (fun j p c hj hc => ?_)
        rw [List.getElem?_map, hj] at hc
        injection hc with hc
        subst hc
        exact k132_mkM _ _ _ _
end Go.Proofs.YtbbhjceelghadaaDoor.K
end

section
-- from Region
namespace Go.Proofs.YtbbhjceelghadaaDoor.My
open Go Go.RowKit Go.Proofs.YtbbhjceelghadaaDoorW.PrintWords Go.Proofs.YtbbhjceelghadaaDoorW.PrintLast
def entries (D : List Tmp) (vs : Nat → Value) : List (Nat × Tmp × Value) := (List.range D.length).map fun i => (i, D.getD i 0, vs i)
theorem entries_get {D : List Tmp} {vs : Nat → Value} {i : Nat} (h : i < D.length) : (entries D vs)[i]? = some (i, D.getD i 0, vs i) := by
  unfold entries
  rw [List.getElem?_map, List.getElem?_range h]
  rfl
theorem entries_length (D : List Tmp) (vs : Nat → Value) : (entries D vs).length = D.length := by simp [entries]
theorem entries_set {D : List Tmp} {vs : Nat → Value} {i : Nat} (v : Value) : (entries D vs).set i (i, D.getD i 0, v) = entries D (fun j => if j = i then v else vs j) := by
  apply List.ext_getElem?
  intro j
  by_cases hj : j < D.length
  · by_cases hij : i = j
    · subst hij
      rw [List.getElem?_set_self (by rw [entries_length]; exact hj), entries_get hj, if_pos rfl]
    · rw [List.getElem?_set_ne hij, entries_get hj, entries_get hj, if_neg (Ne.symm hij)]
  · rw [List.getElem?_eq_none (by simp [entries_length]; omega), List.getElem?_eq_none (by rw [entries_length]; omega)]
/-- The places of D other than i do not hold D's i-th. -/
def distinctD (D : List Tmp) : Bool := decide D.Nodup
theorem nodup_getD {D : List Tmp} (h : D.Nodup) {i j : Nat} (hi : i < D.length) (hj : j < D.length) (e : D.getD i 0 = D.getD j 0) : i = j := by
  rw [List.getD_eq_getElem?_getD, List.getD_eq_getElem?_getD, List.getElem?_eq_getElem hi, List.getElem?_eq_getElem hj] at e
  simp only [Option.getD_some] at e
  have hp := List.pairwise_iff_getElem.1 h
  rcases Nat.lt_trichotomy i j with hij | hij | hij
  · exact absurd e (hp i j hi hj hij)
  · exact hij
  · exact absurd e.symm (hp j i hj hi hij)
theorem putSel_congr {b b' : Nat → Bool} : ∀ {L : List (Nat × Tmp × Value)} {a : Act}, (∀ e ∈ L, b e.1 = b' e.1) → putSel a b L = putSel a b' L
  | [], _, _ => rfl
  | e :: L, a, h => by
    unfold putSel
    rw [h e List.mem_cons_self]
    exact putSel_congr (fun x hx => h x (List.mem_cons_of_mem _ hx))
theorem entries_apart {D : List Tmp} {vs : Nat → Value} {i : Nat} (hD : distinctD D = true) (hi : i < D.length) :
    (((entries D vs).take i ++ (entries D vs).drop (i + 1)).all fun e => !(e.1 == i) && !(e.2.1 == D.getD i 0)) = true := by
  have hnd : D.Nodup := of_decide_eq_true hD
  rw [List.all_eq_true]
  intro e he
  obtain ⟨j, hj, hne⟩ : ∃ j, (entries D vs)[j]? = some e ∧ j ≠ i := by
    rcases List.mem_append.1 he with h | h
    · obtain ⟨j, hj⟩ := List.getElem?_of_mem h
      rw [List.getElem?_take] at hj
      split at hj
      · exact ⟨j, hj, by omega⟩
      · cases hj
    · obtain ⟨j, hj⟩ := List.getElem?_of_mem h
      rw [List.getElem?_drop] at hj
      exact ⟨_, hj, by omega⟩
  have hjl : j < D.length := by have := (List.getElem?_eq_some_iff.1 hj).1; rwa [entries_length] at this
  rw [entries_get hjl] at hj
  simp only [Option.some.injEq] at hj
  subst hj
  simp only [Bool.and_eq_true, Bool.not_eq_true', beq_eq_false_iff_ne]
  exact ⟨hne, fun e => hne (nodup_getD hnd hjl hi e)⟩
section
variable {P : Program} {ops : Array Oper} {Q : Exit → Act → World → Prop} {T : Bool × List (List Nat × List Nat)} {B : List Nat}
end
end Go.Proofs.YtbbhjceelghadaaDoor.My
end

section
-- from RegCS
namespace Go.Proofs.YtbbhjceelghadaaDoor.My
open Go Go.RowKit Go.Proofs.YtbbhjceelghadaaDoorW.PrintWords Go.Proofs.YtbbhjceelghadaaDoorW.PrintLast
section
variable {P : Program} {ops : Array Oper} {Q : Exit → Act → World → Prop} {T : Bool × List (List Nat × List Nat)} {B : List Nat}
/-- What has come up when operation i is met. -/
def Met (B : List Nat) (D : List Tmp) (V : Nat → Value) (a0 a : Act) (i : Nat) : Prop :=
  (∀ s, D.contains s = false → a.tmps[s]? = a0.tmps[s]?) ∧ (∀ j, (B.getD i 0).testBit j = true → a.tmps[D.getD j 0]? = some (V j)) ∧ a.defers = a0.defers
/-- An operation that leaves the world. -/
def PureStep (P : Program) (ops : Array Oper) (Q : Exit → Act → World → Prop) (B : List Nat) (D : List Tmp) (V : Nat → Value) (a0 : Act) (Ok : World → Prop) (i : Nat) : Prop :=
  ∀ (a : Act) (w : World), Ok w → Met B D V a0 a i → ∃ oi, ops[i]? = some oi ∧ oi.dst = some (D.getD i 0) ∧ ∀ K : Act → World → Prop, K (a.put (some (D.getD i 0)) (V i)) w →
    if Region.wanted oi (yielded ops a.tmps) = true then Oper.wp P oi a w K Q else K (a.put (some (D.getD i 0)) undef) w
theorem psteps_nil {D : List Tmp} {V : Nat → Value} {a0 : Act} {Ok : World → Prop} : ∀ i ∈ ([] : List Nat), PureStep P ops Q B D V a0 Ok i := fun _ h => by cases h
theorem psteps_cons {D : List Tmp} {V : Nat → Value} {a0 : Act} {Ok : World → Prop} {i : Nat} {rs : List Nat} (h : PureStep P ops Q B D V a0 Ok i) (hs : ∀ j ∈ rs, PureStep P ops Q B D V a0 Ok j) : ∀ j ∈ i :: rs, PureStep P ops Q B D V a0 Ok j := fun j hj => by
  rcases List.mem_cons.1 hj with rfl | hj
  · exact h
  · exact hs j hj
/-- A call that panics. -/
theorem panics_ {oi : Oper} {N : Option Tmp} {a : Act} {w : World} {K : Act → World → Prop} {f : FuncId} {fn : Func} {ops0 : Array Operand} {ts : Array TypeId} (hf : P.funcs[f]? = some fn) (hname : (fn.name == "runtime.NumGoroutine") = false) (hb : fn.body.isSome = true) (args : Array Value)
    (hw : Region.wanted oi (yielded ops a.tmps) = true) (hop : oi.op = .call { callee := .value (.func f), args := ops0, argTypes := ts }) (hargs : ops0.map a.eval = args)
    (h : Calls P f args w fun e w' => ∃ chain, e = .panicked chain ∧ Q (.panic chain) a w') : if Region.wanted oi (yielded ops a.tmps) = true then Oper.wp P oi a w K Q else K (a.put N undef) w := by
  have he := enters_ hf hname hb args w
  have hrun : (execOp a.eval oi).run P w = .ok (.enter f args) w := by
    unfold execOp
    simp [hop, resolve, Deferred.ofValue, invoke, Act.eval, hargs, he]
  rw [if_pos hw]
  unfold Oper.wp
  rw [hrun, Oper.upon_enter]
  refine h.mono fun e w'' hh => ?_
  obtain ⟨chain, rfl, hk⟩ := hh
  exact hk
theorem call_store {id : Nat} {a0 : Act} {w0 : World} (D : List Tmp) (V : Nat → Value) (c : Nat) (Aft Fin : World → Prop) (L : List Nat) (Lp : List Nat) (T : Bool × List (List Nat × List Nat)) (B : List Nat) (hm : P.follows .mixedOrders = true)
    (hT : rtab .any ops = T) (hL : List.range ops.size = L) (hw : waitsOk T.2 B = true) (hk : baseOk T.2 L = true) (hD : distinctD D = true) (hDn : D.length + 1 = ops.size)
    (hin : (D.all fun t => Nat.ble (t + 1) a0.tmps.size) = true) (hBn : (L.all fun i => Nat.ble (B.getD i 0) (2 ^ D.length - 1)) = true)
    (hLp : ((List.range D.length).all fun i => i == c || Lp.contains i) = true)
    (hlast : ((List.range D.length).all fun j => (B.getD D.length 0).testBit j) = true)
    (hpure : ∀ i ∈ Lp, PureStep P ops Q B D V a0 (fun w => w = w0.drew ∨ Aft w) i)
    (hcall : ∀ (a : Act), Met B D V a0 a c → ∃ oi, ops[c]? = some oi ∧ oi.dst = some (D.getD c 0) ∧ ∀ K : Act → World → Prop, (∀ w', Aft w' → K (a.put (some (D.getD c 0)) (V c)) w') →
      if Region.wanted oi (yielded ops a.tmps) = true then Oper.wp P oi a w0.drew K Q else K (a.put (some (D.getD c 0)) undef) w0.drew)
    (hc : Nat.ble (c + 1) D.length = true)
    (hstore : ∀ (a : Act) (w : World), Aft w → Met B D V a0 a D.length → ∃ om, ops[D.length]? = some om ∧ om.dst = none ∧ ∀ K : Act → World → Prop, (∀ w', Fin w' → K a w') →
      if Region.wanted om (yielded ops a.tmps) = true then Oper.wp P om a w K Q else K (a.put none undef) w)
    (hend : ∀ w, Fin w → Q .normal (putSel a0 (fun _ => true) (entries D V)) w) :
    (Code.region id ops true).wp P Q a0 w0 := by
  subst hL
  have hTl : T.2.length = ops.size := by rw [← hT, rtab_length]
  have hcl : c < D.length := by have := Nat.le_of_ble_eq_true hc; omega
  refine start_ (n := ops.size) (S := fun _ => True) (ds := []) (Array.replicate ops.size false) hm rfl rfl trivial (fun _ => ?_)
  have hall : ∀ {b : Nat → Bool}, (∀ j, j < D.length → b j = true) → putSel a0 b (entries D V) = putSel a0 (fun _ => true) (entries D V) := by
    intro b hb
    refine putSel_congr (fun e he => ?_)
    obtain ⟨j, hj⟩ := List.getElem?_of_mem he
    have hjl : j < D.length := by have := (List.getElem?_eq_some_iff.1 hj).1; rwa [entries_length] at this
    rw [entries_get hjl] at hj
    simp only [Option.some.injEq] at hj
    subst hj
    exact hb j hjl
  have hoffs : ∀ (b : Nat → Bool) s, D.contains s = false → (putSel a0 b (entries D V)).tmps[s]? = a0.tmps[s]? := by
    intro b s hsD
    refine putSel_off ?_
    rw [List.all_eq_true]
    intro e he
    obtain ⟨j, hj⟩ := List.getElem?_of_mem he
    have hjl : j < D.length := by have := (List.getElem?_eq_some_iff.1 hj).1; rwa [entries_length] at this
    rw [entries_get hjl] at hj
    simp only [Option.some.injEq] at hj
    subst hj
    simp only [Bool.not_eq_true', beq_eq_false_iff_ne]
    intro h
    have : D.contains s = true := by
      rw [List.contains_iff_mem, ← h, List.getD_eq_getElem?_getD, List.getElem?_eq_getElem hjl]
      exact List.getElem_mem hjl
    rw [this] at hsD
    cases hsD
  have hons : ∀ (b : Nat → Bool) j, j < D.length → b j = true → (putSel a0 b (entries D V)).tmps[D.getD j 0]? = some (V j) := by
    intro b j hjD hbj
    refine putSel_on (e := (j, D.getD j 0, V j)) j (entries_get hjD) ?_ hbj ?_
    · have := entries_apart (vs := V) hD hjD
      rw [List.all_append, Bool.and_eq_true] at this
      have h2 := this.2
      rw [List.all_eq_true] at h2 ⊢
      intro x hx
      have := h2 x hx
      rw [Bool.and_eq_true] at this
      exact this.2
    · exact List.all_eq_true.1 hin (D.getD j 0) (by rw [List.getD_eq_getElem?_getD, List.getElem?_eq_getElem hjD]; exact List.getElem_mem hjD)
  refine inv_ (T := T) (B := B) (List.range ops.size) (fun b a w => a = putSel a0 b (entries D V) ∧ (b D.length = true → (∀ j, j < D.length → b j = true) ∧ Fin w) ∧ (b D.length = false → if b c = true then Aft w else w = w0.drew)) hT hw hk ?_ ?_ ?_ ?_
  · simp only [Bool.and_eq_true, beq_iff_eq, List.length_range, and_true]
    rw [hTl]
    apply List.ext_getElem
    · simp [lof]
    · intro i h1 h2
      simp [lof] at h1 ⊢
      exact h1
  · refine ⟨?_, (fun h => by cases h), fun _ => by simp⟩
    have : ∀ (L : List (Nat × Tmp × Value)) (a : Act), putSel a (fun _ => false) L = a := by
      intro L
      induction L with
      | nil => intro a; rfl
      | cons e L ih => intro a; unfold putSel; rw [if_neg (by simp)]; exact ih a
    rw [this]
  · intro i hi
    have hil : i < ops.size := List.mem_range.1 hi
    intro b a w ⟨ha, hfin, hbef⟩ hb hon hoff
    have hdepb : ∀ j, (B.getD i 0).testBit j = true → j < D.length ∧ b j = true := by
      intro j hj
      have hjn : j < D.length := by
        rcases Nat.lt_or_ge j D.length with h | h
        · exact h
        · have h1 := List.all_eq_true.1 hBn i hi
          have h2 : B.getD i 0 ≤ 2 ^ D.length - 1 := Nat.le_of_ble_eq_true h1
          have h3 : B.getD i 0 < 2 ^ j := Nat.lt_of_le_of_lt h2 (Nat.lt_of_lt_of_le (Nat.sub_lt (Nat.two_pow_pos _) Nat.one_pos) (Nat.pow_le_pow_right (by decide) h))
          rw [Nat.testBit_lt_two_pow h3] at hj
          cases hj
      exact ⟨hjn, hon j (by rw [Bool.and_eq_true]; exact ⟨by simpa using (by omega : j < ops.size), hj⟩)⟩
    have hmet : Met B D V a0 a i := by
      subst ha
      exact ⟨hoffs b, fun j hj => hons b j (hdepb j hj).1 (hdepb j hj).2, (putSel_size b _ _).2⟩
    by_cases hiD : i < D.length
    · have hne : b D.length = false := by
        cases hbD : b D.length with
        | false => rfl
        | true => rw [(hfin hbD).1 i hiD] at hb; cases hb
      have hbw := hbef hne
      have hup : up b i D.length = false := by rw [up_ne (by omega)]; exact hne
      have hnext : a.put (some (D.getD i 0)) (V i) = putSel a0 (up b i) (entries D V) := by
        rw [ha]
        exact putSel_upk i hb (entries_get hiD) (by rw [entries_set]; congr 1; funext j; split <;> simp_all) (entries_apart hD hiD)
      by_cases hic : i = c
      · subst hic
        rw [if_neg (by rw [hb]; decide)] at hbw
        subst hbw
        obtain ⟨oi, ho, hdst, hstep⟩ := hcall a hmet
        refine ⟨oi, ho, fun K hK => ?_⟩
        rw [hdst]
        refine hstep K fun w' hw' => hK.out _ _ ⟨hnext, (fun h => by rw [hup] at h; cases h), fun _ => ?_⟩
        rw [if_pos (up_self b i)]
        exact hw'
      · have hLi : i ∈ Lp := by
          have := List.all_eq_true.1 hLp i (List.mem_range.2 hiD)
          rw [Bool.or_eq_true, beq_iff_eq] at this
          rcases this with h | h
          · exact absurd h hic
          · exact List.contains_iff_mem.1 h
        obtain ⟨oi, ho, hdst, hstep⟩ := hpure i hLi a w (by
          split at hbw
          · exact .inr hbw
          · exact .inl hbw) hmet
        refine ⟨oi, ho, fun K hK => ?_⟩
        rw [hdst]
        refine hstep K (hK.out _ _ ⟨hnext, (fun h => by rw [hup] at h; cases h), fun _ => ?_⟩)
        rw [up_ne (Ne.symm hic)]
        exact hbw
    · have hiD' : i = D.length := by omega
      subst hiD'
      have hbs : ∀ j, j < D.length → b j = true := fun j hj => (hdepb j (List.all_eq_true.1 hlast j (List.mem_range.2 hj))).2
      have hbw := hbef hb
      rw [if_pos (hbs c hcl)] at hbw
      have ha' : a = putSel a0 (fun _ => true) (entries D V) := by rw [ha, hall hbs]
      subst ha'
      obtain ⟨om, ho, hdst, hstep⟩ := hstore _ w hbw hmet
      refine ⟨om, ho, fun K hK => ?_⟩
      rw [hdst]
      refine hstep K fun w' hw' => ?_
      refine hK.out _ _ ⟨?_, fun _ => ⟨fun j hj => by rw [up_ne (by omega)]; exact hbs j hj, hw'⟩, fun h => by rw [up_self] at h; cases h⟩
      rw [hall (b := up b D.length) (fun j hj => by rw [up_ne (by omega)]; exact hbs j hj)]
  · intro b a w hallb ⟨ha, hfin, _⟩
    have hb : ∀ j, j < D.length + 1 → b j = true := fun j hj => hallb j (by simpa using (by omega : j < ops.size))
    have hf := hfin (hb _ (Nat.lt_succ_self _))
    rw [ha, hall hf.1]
    exact hend w hf.2
end
end Go.Proofs.YtbbhjceelghadaaDoor.My
end

section
-- from ReadF
namespace Go.Proofs.YtbbhjceelghadaaDoor.K
open Go Go.RowKit Go.Proofs.YtbbhjceelghadaaDoorW.PrintWords Go.Proofs.YtbbhjceelghadaaDoorW.PrintLast Go.Proofs.YtbbhjceelghadaaDoorW.PrintMore Go.Proofs.YtbbhjceelghadaaDoor.My
theorem info_fact : (Tryd.prog.info? 76).map (fun i => (i.zero, i.size, i.bytes)) = some (some (.agg #[(.slice none 0 0), (.int .i64 0)]), 2, 32) := by kernel_rfl
/-- What is known of the elements that are done. -/
def DoneM {α : Type} (d : Kd α) (w : World) (base : Nat) (P : Nat → Prop) (done : List α) (rows : List (List Value)) : Prop :=
  ∀ (j : Nat) (p : α) (c : List Value), done[j]? = some p → rows[j]? = some c → d.M w base P p c
theorem DoneM.move {α : Type} {d : Kd α} {w w' : World} {base : Nat} {P : Nat → Prop} {done : List α} {rows : List (List Value)} (h : DoneM d w base P done rows) (hm : ∀ b, P b → base ≤ b → b < w.heap.size → w'.heap[b]? = w.heap[b]?) : DoneM d w' base P done rows := fun j p c hj hc =>
  d.M_mono (fun _ hk => hk.1) (d.M_move (fun k hk => hm k hk.1 hk.2.1 hk.2.2.1) (d.M_bound (h j p c hj hc)))
theorem DoneM.bound {α : Type} {d : Kd α} {w : World} {base : Nat} {P : Nat → Prop} {done : List α} {rows : List (List Value)} (h : DoneM d w base P done rows) : DoneM d w base (fun b => P b ∧ b < w.heap.size) done rows := fun j p c hj hc =>
  d.M_mono (fun _ hk => ⟨hk.1, hk.2.2.1⟩) (d.M_bound (h j p c hj hc))
theorem DoneM.mono {α : Type} {d : Kd α} {w : World} {base : Nat} {P P' : Nat → Prop} {done : List α} {rows : List (List Value)} (h : DoneM d w base P done rows) (hp : ∀ b, P b → P' b) : DoneM d w base P' done rows := fun j p c hj hc => d.M_mono hp (h j p c hj hc)
theorem DoneM.set {α : Type} {d : Kd α} {w : World} {base : Nat} {P : Nat → Prop} {done : List α} {rows : List (List Value)} {k : Nat} (h : DoneM d w base P done rows) (hk : done.length ≤ k) (u : List Value) : DoneM d w base P done (rows.set k u) := fun j p c hj hc => by
  have hjl := (List.getElem?_eq_some_iff.1 hj).1
  rw [List.getElem?_set_ne (by omega)] at hc
  exact h j p c hj hc
theorem DoneM.snoc {α : Type} {d : Kd α} {w : World} {base : Nat} {P : Nat → Prop} {done : List α} {rows : List (List Value)} {x : α} {c : List Value} (h : DoneM d w base P done rows) (hc : rows[done.length]? = some c) (hx : d.M w base P x c) : DoneM d w base P (done ++ [x]) rows := fun j p c' hj hc' => by
  rcases Nat.lt_or_ge j done.length with hj' | hj'
  · rw [List.getElem?_append_left hj'] at hj
    exact h j p c' hj hc'
  · have hjl := (List.getElem?_eq_some_iff.1 hj).1
    rw [List.length_append, List.length_singleton] at hjl
    obtain rfl : j = done.length := by omega
    rw [List.getElem?_append_right (Nat.le_refl _), Nat.sub_self] at hj
    obtain rfl : x = p := by simpa using hj
    rw [hc] at hc'
    injection hc' with hc'
    subst hc'
    exact hx
theorem DoneM.grown {α : Type} {d : Kd α} {w w' : World} {base g : Nat} {P : Nat → Prop} {done : List α} {rows : List (List Value)} (h : DoneM d w base P done rows) (hg : w.grownBy w' (some g)) (hlt : g < base) : DoneM d w' base P done rows :=
  h.move (fun b _ hb hl => hg.block b hl (fun e => by injection e with e; omega))
theorem DoneM.other {α : Type} {d : Kd α} {w w' : World} {base g : Nat} {P : Nat → Prop} {done : List α} {rows : List (List Value)} (h : DoneM d w base P done rows) (hg : w.grownBy w' (some g)) (hp : ∀ b, P b → b ≠ g) : DoneM d w' base P done rows :=
  h.move (fun b hb _ hl => hg.block b hl (fun e => hp b hb (by injection e)))
theorem R_other {α : Type} {d : Kd α} {e : Nat} {w w1 : World} {base : Nat} {ok : Nat → Prop} {v : Value} {xs : List α} {g : Nat} (h : d.R e w base ok v xs) (hE : d.E = []) (hg : w.grownBy w1 (some g)) (hne : some g ≠ v.ownBlock) : d.R e w1 base ok v xs := by
  have h1 := Kd.R_tight hE h
  have h2 := Kd.R_grown h1 hg (fun k hk e => hne (by rw [← hk]; exact e.symm))
  exact ⟨fun k hk => h.1 k hk, (by
    obtain ⟨_, inner, ho, hr⟩ := h2
    refine ⟨inner, ho, hr.imp_ (fun p c hp => ?_)⟩
    refine d.M_mono (fun k hk => ?_) (d.M_bound hp)
    obtain ⟨_, _, _, q, hq, _⟩ := hk
    rw [hE] at hq
    cases hq)⟩
theorem factP_none1 {r : List UInt8} (h : many 1 4 r = none) : factP r = none := by unfold factP; rw [h]; rfl
theorem factP_none2 {r r1 : List UInt8} {n : Nat} (h : many 1 4 r = some (n, r1)) (h1 : repP (intP 4) n r1 = none) : factP r = none := by unfold factP; rw [h]; simp only [Option.bind_some]; rw [h1]; rfl
theorem factP_none3 {r r1 r2 : List UInt8} {n : Nat} {ks : List Int} (h : many 1 4 r = some (n, r1)) (h1 : repP (intP 4) n r1 = some (ks, r2)) (h2 : number 8 r2 = none) : factP r = none := by unfold factP; rw [h]; simp only [Option.bind_some]; rw [h1]; simp only [Option.bind_some]; rw [h2]; rfl
theorem factP_some {r r1 r2 r3 : List UInt8} {n m : Nat} {ks : List Int} (h : many 1 4 r = some (n, r1)) (h1 : repP (intP 4) n r1 = some (ks, r2)) (h2 : number 8 r2 = some (m, r3)) : factP r = some (⟨ks, s64 m⟩, r3) := by unfold factP; rw [h]; simp only [Option.bind_some]; rw [h1]; simp only [Option.bind_some]; rw [h2]; rfl
theorem s64_wrap (m : Nat) (h : m < 18446744073709551616) : wrap64 (m : Int) = s64 m := by
  unfold wrap64 s64
  split <;> omega
theorem num_big (l : List UInt8) : numB (l.take 8) < 18446744073709551616 := by
  have h1 := numB_lt (l.take 8)
  have h2 : (l.take 8).length ≤ 8 := by rw [List.length_take]; omega
  have h3 : 256 ^ (l.take 8).length ≤ 256 ^ 8 := Nat.pow_le_pow_right (by decide) h2
  have h4 : 256 ^ 8 = 18446744073709551616 := by decide
  omega
theorem Left.len {α : Type} {p : List UInt8 → Option (α × List UInt8)} {n k : Nat} {l r : List UInt8} {done : List α} (h : Left p n k l r done) : done.length = k := h.1
/-- What is left is never more. -/
def Short {α : Type} (p : List UInt8 → Option (α × List UInt8)) : Prop := ∀ l x r, p l = some (x, r) → r.length ≤ l.length
theorem short_int (s : Nat) : Short (intP s) := fun l x r h => by
  obtain ⟨_, _, rfl⟩ := intP_some h
  rw [List.length_drop]; omega
theorem short_rep {α : Type} {p : List UInt8 → Option (α × List UInt8)} (hp : Short p) : ∀ n, Short (repP p n)
  | 0, l, x, r, h => by
    simp only [repP, Option.some.injEq, Prod.mk.injEq] at h
    rw [h.2]; exact Nat.le_refl _
  | n + 1, l, x, r, h => by
    rw [repP_step] at h
    obtain ⟨⟨y, r1⟩, h1, h⟩ := Option.bind_eq_some_iff.1 h
    obtain ⟨⟨ys, r2⟩, h2, h⟩ := Option.bind_eq_some_iff.1 h
    simp only [Option.some.injEq, Prod.mk.injEq] at h
    have a := hp _ _ _ h1
    have b := short_rep hp n _ _ _ h2
    rw [← h.2]
    exact Nat.le_trans b a
theorem short_fact : Short factP := fun l x r h => by
  unfold factP at h
  obtain ⟨⟨n, r1⟩, h1, h⟩ := Option.bind_eq_some_iff.1 h
  obtain ⟨⟨ks, r2⟩, h2, h⟩ := Option.bind_eq_some_iff.1 h
  obtain ⟨⟨m, r3⟩, h3, h⟩ := Option.bind_eq_some_iff.1 h
  simp only [Option.some.injEq, Prod.mk.injEq] at h
  have a := (many_len h1 (by omega)).1
  have b := short_rep (short_int 4) n _ _ _ h2
  obtain ⟨_, _, hd⟩ := number_some h3
  simp only at a b hd
  have c : r3.length ≤ r2.length := by rw [hd, List.length_drop]; omega
  rw [← h.2]
  omega
theorem Left.short {α : Type} {p : List UInt8 → Option (α × List UInt8)} {n k : Nat} {l r : List UInt8} {done : List α} (_ : Left p n k l r done) : True := trivial
theorem set_same (rows : List (List Value)) (k : Nat) (u : List Value) (h : k < rows.length) : (rows.set k u).getD k [] = u := by
  rw [List.getD_eq_getElem?_getD, List.getElem?_set_self h]; rfl
set_option maxRecDepth 20000 in
set_option maxHeartbeats 8000000 in
theorem rfacts_any (g : Nat) (l : List UInt8) (w0 w : World) (h : Rd w0 w g l) (hb : Below w0.heap.size w0 w) (hg : w0.heap.size ≤ g) (hm : (l.length : Int) ≤ 100000) :
    Calls Tryd.prog 143 #[.pointer (some ⟨g, 0, none⟩)] w (PP (factsP l) (fun xs v w' => Kd.R k76 76 w' w.heap.size (fun _ => True) v xs) w0 w g) := by
  have HR := Aside0.mk h
  have HB := Aside0.mk hb
  have hlt := h.lt
  clear h hb
  cases hmy : many 4 9 l with
  | none =>
    have hn : factsP l = none := by unfold factsP; rw [hmy]; rfl
    have hcall := many_short 4 9 4 9 rfl rfl (by omega) (by omega) g l w0 w HR.out HB.out hg hmy
    have HN := Aside0.mk hn
    clear hmy hn
    go_enter Tryd.func143, Tryd.ntmps143
    go_wp2_with (go_at_call 151; refine hcall.mono ?_; rintro e w1 ⟨rfl, hG⟩)
    exact ⟨rfl, hG, .inr ⟨HN.out, rfl⟩⟩
  | some x =>
    obtain ⟨n, r0⟩ := x
    have hn : factsP l = repP factP n r0 := by unfold factsP; rw [hmy]; rfl
    have hcall := many_ok 4 9 4 9 rfl rfl (by omega) (by omega) g l r0 n w0 w HR.out HB.out hg hmy
    have HN := Aside0.mk hn
    obtain ⟨hl1, hl2⟩ := many_len hmy (by omega)
    have hn1 : (n : Int) ≤ 100000 := by omega
    have hr0 : (r0.length : Int) ≤ 100000 := by omega
    have hmk := make_row (t := 51) (e := 76) Tryd.underlying51 info_fact (by omega) n hn1
    clear hmy hn hl1 hl2
    go_enter Tryd.func143, Tryd.ntmps143
    go_wp2_with (go_at_call 151; refine hcall.mono ?_; rintro e w1 ⟨rfl, hR, hG, hle⟩; clear hle; have HR1 := Aside0.mk hR; have HG1 := Aside0.mk hG; clear hR hG)
    have HO := Aside0.mk (RW_new (e := 76) (W := w1) (n := n) (base := w.heap.size) (x := .slice none 0 0) (y := .int .i64 0) rfl rfl (by omega) HG1.out.size)
    have HG := Aside0.mk (grown_trans HG1.out (grown_below (below_alloc (Below.refl _ _) (.cells (madeCells #[.slice none 0 0, .int .i64 0] (n * 2)) 76))))
    have HR2 := Aside0.mk (Rd.grown HR1.out (grown_below (row := none) (below_alloc (Below.refl _ _) (.cells (madeCells #[.slice none 0 0, .int .i64 0] (n * 2)) 76))) (by simp))
    clear HR1 HG1 hcall hmk
    obtain ⟨ad, had⟩ : ∃ ad : Addr, ad = ⟨w1.heap.size, 0, none⟩ := ⟨_, rfl⟩
    rw [← had] at HO ⊢
    obtain ⟨W2, hW⟩ : ∃ W2, W2 = w1.alloc (.cells (madeCells #[.slice none 0 0, .int .i64 0] (n * 2)) 76) := ⟨_, rfl⟩
    rw [← hW] at HO HG HR2
    first | rw [← hW] | (rw [show w1.alloc (.cells (madeCells (Value.agg #[.slice none 0 0, .int .i64 0]).cells (n * 2)) 76) = W2 from hW.symm])
    clear hW had
    go_loopw [11] (fun i wr => ∃ (k : Nat) (done : List SFact) (r : List UInt8) (rows : List (List Value)), k ≤ n ∧ i = .int .i64 k ∧ Aside0 (Left factP n k r0 r done) ∧ (r.length : Int) ≤ 100000 ∧ Aside0 (Rd w0 wr g r) ∧ Aside0 (RW 76 wr w.heap.size (.slice (some ad) n n) rows) ∧ Aside0 (rows.length = n) ∧ Aside0 (DoneM k76 wr w.heap.size (fun b => b ≠ ad.block) done rows) ∧ Aside0 (w.grownBy wr (some g))) (fun i _ => n - (intOf i).toNat)
    case atStart => exact ⟨0, [], r0, _, Nat.zero_le _, rfl, ⟨Left.start _ _ _⟩, hr0, HR2, HO, ⟨List.length_replicate⟩, ⟨fun j p c hj _ => by simp at hj⟩, HG⟩
    case round =>
      obtain ⟨k, done, r, rows, hk, rfl, HL, hrl, HRd, HOk, HLEN, HD, HGk⟩ := hrel
      clear HR2 HO HG
      by_cases hkn : k < n
      · cases hp : many 1 4 r with
        | none =>
          have hcall := many_short 1 4 1 4 rfl rfl (by omega) (by omega) g r w0 wr HRd.out (below_grown HB.out HGk.out hg (Nat.le_refl _)) hg hp
          have HF := Aside0.mk (Left.fail HL.out hkn (factP_none1 hp))
          clear hp
          go_wp2_with (go_at_call 151; refine hcall.mono ?_; rintro e w2 ⟨rfl, hG⟩)
          exact ⟨rfl, grown_trans HGk.out hG, .inr ⟨by rw [HN.out]; exact HF.out, rfl⟩⟩
        | some x =>
          obtain ⟨nk, r1⟩ := x
          have hcall := many_ok 1 4 1 4 rfl rfl (by omega) (by omega) g r r1 nk w0 wr HRd.out (below_grown HB.out HGk.out hg (Nat.le_refl _)) hg hp
          obtain ⟨hl1, hl2⟩ := many_len hp (by omega)
          have hnk : (nk : Int) ≤ 100000 := by omega
          have hr1 : (r1.length : Int) ≤ 100000 := by omega
          have hmk := make_row (t := 50) (e := 3) Tryd.underlying50 info3 (by omega) nk hnk
          have HP := Aside0.mk hp
          clear hp hl1 hl2
          obtain ⟨wo, rfl⟩ : ∃ wo : World, wo = wr := ⟨_, rfl⟩
          obtain ⟨_, _, _, _, _, _, _, _, hadlt, _, _⟩ := RW_at HOk.out k hkn
          go_wp2_with (go_at_call 151; refine hcall.mono ?_; rintro e w2 ⟨rfl, hR, hG, hle⟩; clear hle; have HR1 := Aside0.mk hR; have HG1 := Aside0.mk hG; clear hR; obtain ⟨x0, y0, hrow, z0, z1, f0, f1, hbs, hbl, hset0, _⟩ := RW_at (Kd.R_below (R_keep HOk.out hG hlt) (below_alloc (Below.refl _ _) (.cells (madeCells #[.int .i64 0] nk) 3))) k hkn; have HROW := Aside0.mk hrow; have HSET := Aside0.mk hset0; clear hrow hset0 hG z1 f1 hbl; rename_i junk_; clear junk_)
          clear hcall hmk z0 f0
          obtain ⟨hs3, hg3⟩ := HSET.out (.slice (some ⟨w2.heap.size, 0, none⟩) nk nk) rfl
          have hRI0 : RI (w2.alloc (.cells (madeCells #[.int .i64 0] nk) 3)) w.heap.size (.slice (some ⟨w2.heap.size, 0, none⟩) nk nk) (List.replicate nk 0) := RI_new (by omega) (grown_trans HGk.out HG1.out).size
          have hsz2 : wo.heap.size ≤ w2.heap.size := HG1.out.size
          have hRI := R_other hRI0 rfl hg3 (by simp [Value.ownBlock]; omega)
          have hgW : w.grownBy ((w2.alloc (.cells (madeCells #[.int .i64 0] nk) 3)).setCell (ad.add (k * 2)) (.slice (some ⟨w2.heap.size, 0, none⟩) nk nk)) (some g) :=
            grown_new (grown_trans (grown_trans HGk.out HG1.out) (grown_below (below_alloc (Below.refl _ _) _))) hg3 hbs
          have hRd3 := Rd.grown (Rd.grown HR1.out (grown_below (row := none) (below_alloc (Below.refl _ _) (.cells (madeCells #[.int .i64 0] nk) 3))) (by simp)) hg3 (by intro e; injection e with e; omega)
          have hD3 : DoneM k76 ((w2.alloc (.cells (madeCells #[.int .i64 0] nk) 3)).setCell (ad.add (k * 2)) (.slice (some ⟨w2.heap.size, 0, none⟩) nk nk)) w.heap.size (fun b => b ≠ ad.block ∧ b < wo.heap.size) done (rows.set k [.slice (some ⟨w2.heap.size, 0, none⟩) nk nk, y0]) :=
            DoneM.set (HD.out.bound.move (fun b hP hb hl => by
              have h1 : b ≠ g := by omega
              have h2 := HG1.out.block b hl (fun e => h1 (by injection e))
              have h3 : (w2.alloc (.cells (madeCells #[.int .i64 0] nk) 3)).heap[b]? = w2.heap[b]? := Below.heap_alloc _ _ _ (by omega)
              exact (hg3.block b (by simp; omega) (fun e => hP.1 (by injection e))).trans (h3.trans h2))) (by rw [HL.out.1]; exact Nat.le_refl _) _
          have HKB := Aside0.mk (show w2.heap.size ≠ ad.block ∧ wo.heap.size ≤ w2.heap.size from ⟨by omega, hsz2⟩)
          have HS3 := Aside0.mk hs3
          have HRI3 := Aside0.mk hRI
          have HG3 := Aside0.mk hgW
          have HRd3 := Aside0.mk hRd3
          have HD3 := Aside0.mk hD3
          clear hs3 hg3 hRI0 hRI hgW hRd3 hD3 HSET HR1 HG1 hsz2 HROW
          obtain ⟨kad, hkad⟩ : ∃ kad : Addr, kad = ⟨w2.heap.size, 0, none⟩ := ⟨_, rfl⟩
          rw [show w2.heap.size = kad.block by rw [hkad]] at HKB
          rw [← hkad] at HS3 HRI3 HG3 HRd3 HD3 ⊢
          obtain ⟨W3, hW3⟩ : ∃ W3, W3 = (w2.alloc (.cells (madeCells #[.int .i64 0] nk) 3)).setCell (ad.add (k * 2)) (.slice (some kad) nk nk) := ⟨_, rfl⟩
          rw [← hW3] at HS3 HRI3 HG3 HRd3 HD3
          first | rw [← hW3] | (rw [show (w2.alloc (.cells (madeCells (Value.int .i64 0).cells (nk * 1)) 3)).setCell (ad.add (k * 2)) (.slice (some kad) nk nk) = W3 from by rw [hW3, Nat.mul_one]; rfl])
          clear hW3 hkad
          have hadI : (k : Int) < (n : Int) := by omega
          have HKN := Aside0.mk hkn
          go_loopw [27] (fun i wi => ∃ (j : Nat) (kd : List Int) (r2 : List UInt8), j ≤ nk ∧ i = .int .i64 j ∧ Aside0 (Left (intP 4) nk j r1 r2 kd) ∧ (r2.length : Int) ≤ 100000 ∧ Aside0 (Rd w0 wi g r2) ∧ Aside0 (RI wi w.heap.size (.slice (some kad) nk nk) (kd ++ List.replicate (nk - j) 0)) ∧ Aside0 (RW 76 wi w.heap.size (.slice (some ad) n n) (rows.set k [.slice (some kad) nk nk, y0])) ∧ Aside0 (DoneM k76 wi w.heap.size (fun b => b ≠ ad.block ∧ b < wo.heap.size) done (rows.set k [.slice (some kad) nk nk, y0])) ∧ Aside0 (w.grownBy wi (some g))) (fun i _ => nk - (intOf i).toNat)
          case atStart => exact ⟨0, [], r1, Nat.zero_le _, rfl, ⟨Left.start _ _ _⟩, hr1, HRd3, HRI3, HS3, HD3, HG3⟩
          case round =>
            obtain ⟨j, kd, r2, hj, rfl, HLk, hrl2, HRd, HRI, HOk, HD, HGi⟩ := hrel
            clear HRd3 HRI3 HS3 HD3 HG3
            obtain ⟨xx, yy, hrow, hz0, hz1, hf0, hf1, _, hbl2, _, hset1⟩ := RW_at HOk.out k hkn
            rw [set_same _ _ _ (by rw [HLEN.out]; exact hkn)] at hrow
            injection hrow with hrow1 hrow2
            injection hrow2 with hrow2 _
            subst hrow1; subst hrow2
            by_cases hjn : j < nk
            · cases hp4 : intP 4 r2 with
              | none =>
                have HP4 := Aside0.mk hp4
                have HF := Aside0.mk (Left.fail HL.out hkn (factP_none2 HP.out (Left.fail HLk.out hjn hp4)))
                have Z0 := Aside0.mk hz0
                clear hp4 hset1 hz1 hf1 hz0
                go_wp2
                refine call_store [30, 31, 32, 33, 34, 35, 36, 37, 38, 39] (fun i => [.slice (some ad) n n, .int .i64 (k : Int), .pointer (some (ad.add (k * 2))), .pointer (some (ad.add (k * 2))), .slice (some kad) nk nk, .int .i64 (j : Int), .pointer (some ⟨g, 0, none⟩), .int .u64 0, .int .i64 0, .pointer (some (kad.add j))].getD i undef) 7 (fun _ => False) (fun _ => False) [0, 1, 2, 3, 4, 5, 6, 7, 8, 9, 10] [0, 1, 2, 3, 4, 5, 6, 8, 9] (true, [([], []), ([], []), ([0, 1], [0, 1]), ([2], [2]), ([3], [3]), ([], []), ([], []), ([6], [6]), ([7], [7]), ([4, 5, 0, 1, 2, 3, 4, 5, 6, 7, 8], [4, 5]), ([9, 8, 7, 0, 1, 2, 3, 4, 5, 6, 7, 8], [8, 9])]) [0, 0, 3, 7, 15, 0, 0, 64, 192, 511, 1023] (by kernel_rfl) (by kernel_rfl) (by kernel_rfl) (by kernel_rfl) (by kernel_rfl) (by kernel_rfl) (by kernel_rfl) (by rfl) (by kernel_rfl) (by kernel_rfl) (by kernel_rfl) ?_ ?_ (by kernel_rfl) ?_ ?_
                · refine psteps_cons ?_ ?_
                  · intro a w' hok ⟨hel, hd, _⟩
                    have e3 : a.tmps[3]? = some (.slice (some ad) n n) := (hel 3 (by kernel_rfl)).trans (by rfl)
                    refine ⟨_, rfl, rfl, fun K hK => ?_⟩
                    refine value_ (w1 := w') (v := .slice (some ad) n n) (by rfl) rfl ?_ hK
                    go_simp
                    (try simp only [i64_w, bs_list])
                    (try rfl)
                    (try (unfold Go.RowKit.wrap64; omega))
                  refine psteps_cons ?_ ?_
                  · intro a w' hok ⟨hel, hd, _⟩
                    have e4 : a.tmps[4]? = some (.int .i64 (k : Int)) := (hel 4 (by kernel_rfl)).trans (by rfl)
                    refine ⟨_, rfl, rfl, fun K hK => ?_⟩
                    refine value_ (w1 := w') (v := .int .i64 (k : Int)) (by rfl) rfl ?_ hK
                    go_simp
                    (try simp only [i64_w, bs_list])
                    (try rfl)
                    (try (unfold Go.RowKit.wrap64; omega))
                  refine psteps_cons ?_ ?_
                  · intro a w' hok ⟨hel, hd, _⟩
                    have e30 : a.tmps[30]? = some (.slice (some ad) n n) := hd 0 (by kernel_rfl)
                    have e31 : a.tmps[31]? = some (.int .i64 (k : Int)) := hd 1 (by kernel_rfl)
                    refine ⟨_, rfl, rfl, fun K hK => ?_⟩
                    refine value_ (w1 := w') (v := .pointer (some (ad.add (k * 2)))) (by rfl) rfl ?_ hK
                    go_simp
                    (try simp only [i64_w, bs_list])
                    (try rfl)
                    (try (unfold Go.RowKit.wrap64; omega))
                  refine psteps_cons ?_ ?_
                  · intro a w' hok ⟨hel, hd, _⟩
                    have e32 : a.tmps[32]? = some (.pointer (some (ad.add (k * 2)))) := hd 2 (by kernel_rfl)
                    refine ⟨_, rfl, rfl, fun K hK => ?_⟩
                    refine value_ (w1 := w') (v := .pointer (some (ad.add (k * 2)))) (by rfl) rfl ?_ hK
                    go_simp
                    (try simp only [i64_w, bs_list])
                    (try rfl)
                    (try (unfold Go.RowKit.wrap64; omega))
                  refine psteps_cons ?_ ?_
                  · intro a w' hok ⟨hel, hd, _⟩
                    have e33 : a.tmps[33]? = some (.pointer (some (ad.add (k * 2)))) := hd 3 (by kernel_rfl)
                    have hz : w'.cell? (ad.add (k * 2)) = some (.slice (some kad) nk nk) := by (rcases hok with rfl | hf; exact Z0.out; exact hf.elim)
                    refine ⟨_, rfl, rfl, fun K hK => ?_⟩
                    refine value_ (w1 := w') (v := .slice (some kad) nk nk) (by rfl) rfl ?_ hK
                    go_simp
                    (try simp only [i64_w, bs_list])
                    (try rfl)
                    (try (unfold Go.RowKit.wrap64; omega))
                  refine psteps_cons ?_ ?_
                  · intro a w' hok ⟨hel, hd, _⟩
                    have e5 : a.tmps[5]? = some (.int .i64 (j : Int)) := (hel 5 (by kernel_rfl)).trans (by rfl)
                    refine ⟨_, rfl, rfl, fun K hK => ?_⟩
                    refine value_ (w1 := w') (v := .int .i64 (j : Int)) (by rfl) rfl ?_ hK
                    go_simp
                    (try simp only [i64_w, bs_list])
                    (try rfl)
                    (try (unfold Go.RowKit.wrap64; omega))
                  refine psteps_cons ?_ ?_
                  · intro a w' hok ⟨hel, hd, _⟩
                    have e0 : a.tmps[0]? = some (.pointer (some ⟨g, 0, none⟩)) := (hel 0 (by kernel_rfl)).trans (by rfl)
                    refine ⟨_, rfl, rfl, fun K hK => ?_⟩
                    refine value_ (w1 := w') (v := .pointer (some ⟨g, 0, none⟩)) (by rfl) rfl ?_ hK
                    go_simp
                    (try simp only [i64_w, bs_list])
                    (try rfl)
                    (try (unfold Go.RowKit.wrap64; omega))
                  refine psteps_cons ?_ ?_
                  · intro a w' hok ⟨hel, hd, _⟩
                    have e37 : a.tmps[37]? = some (.int .u64 0) := hd 7 (by kernel_rfl)
                    refine ⟨_, rfl, rfl, fun K hK => ?_⟩
                    refine value_ (w1 := w') (v := .int .i64 0) (by rfl) rfl ?_ hK
                    go_simp
                    (try simp only [i64_w, bs_list])
                    (try rfl)
                    (try (unfold Go.RowKit.wrap64; omega))
                  refine psteps_cons ?_ ?_
                  · intro a w' hok ⟨hel, hd, _⟩
                    have e34 : a.tmps[34]? = some (.slice (some kad) nk nk) := hd 4 (by kernel_rfl)
                    have e35 : a.tmps[35]? = some (.int .i64 (j : Int)) := hd 5 (by kernel_rfl)
                    refine ⟨_, rfl, rfl, fun K hK => ?_⟩
                    refine value_ (w1 := w') (v := .pointer (some (kad.add j))) (by rfl) rfl ?_ hK
                    go_simp
                    (try simp only [i64_w, bs_list])
                    (try rfl)
                    (try (unfold Go.RowKit.wrap64; omega))
                  exact psteps_nil
                · intro a ⟨hel, hd, hdef⟩
                  have e36 : a.tmps[36]? = some (.pointer (some ⟨g, 0, none⟩)) := hd 6 (by kernel_rfl)
                  refine ⟨_, rfl, rfl, fun K hK => ?_⟩
                  refine panics_ Tryd.func141 (by kernel_rfl) rfl #[.pointer (some ⟨g, 0, none⟩), (Value.int IntKind.i64 4)] (by rfl) rfl (by first | (simp only [List.map_toArray, List.map_cons, List.map_nil, Act.eval, Array.getD_eq_getD_getElem?, Option.getD_some, e36]; done) | (simp only [List.map_toArray, List.map_cons, List.map_nil, Act.eval, Array.getD_eq_getD_getElem?, Option.getD_some, e36]; rfl)) ?_
                  refine (number_short 4 4 rfl g r2 w0 wr.drew HRd.out (intP_none HP4.out)).mono ?_
                  rintro e_ w2_ ⟨rfl, hG⟩
                  exact ⟨_, rfl, hdef, grown_trans HGi.out ⟨hG.os, hG.tape, hG.output, hG.size, hG.block⟩, .inr ⟨by rw [HN.out]; exact HF.out, rfl⟩⟩
                · intro a w' hA ⟨hel, hd, _⟩
                  exact hA.elim
                · intro w' hF
                  exact hF.elim
              | some x =>
                obtain ⟨x, r3⟩ := x
                obtain ⟨hs1, hx, hr3⟩ := intP_some hp4
                have hr3l := short_int 4 _ _ _ hp4
                have HN1 := Aside0.mk (Left.next HLk.out hjn hp4)
                have hcall := number_ok 4 4 rfl (by omega) g r2 w0 wr.drew HRd.out (below_drew (below_grown HB.out HGi.out hg (Nat.le_refl _))) hs1
                have hsm := num_small r2 4 (by omega)
                rw [← hr3] at hcall
                obtain ⟨m, hm1⟩ : ∃ m, m = numB (r2.take 4) := ⟨_, rfl⟩
                rw [← hm1] at hcall hsm hx
                subst hx
                have HCALL := Aside0.mk hcall
                have Z0 := Aside0.mk hz0
                have HBL2 := Aside0.mk hbl2
                clear hp4 hr3 hm1 hs1 hcall hset1 hz1 hf1 hz0
                go_wp2
                refine call_store [30, 31, 32, 33, 34, 35, 36, 37, 38, 39] (fun i => [.slice (some ad) n n, .int .i64 (k : Int), .pointer (some (ad.add (k * 2))), .pointer (some (ad.add (k * 2))), .slice (some kad) nk nk, .int .i64 (j : Int), .pointer (some ⟨g, 0, none⟩), .int .u64 (m : Int), .int .i64 (m : Int), .pointer (some (kad.add j))].getD i undef) 7 (fun W => Rd w0 W g r3 ∧ wr.grownBy W (some g)) (fun W => ∃ W1, (Rd w0 W1 g r3 ∧ wr.grownBy W1 (some g)) ∧ W = W1.setCell (kad.add j) (.int .i64 (m : Int))) [0, 1, 2, 3, 4, 5, 6, 7, 8, 9, 10] [0, 1, 2, 3, 4, 5, 6, 8, 9] (true, [([], []), ([], []), ([0, 1], [0, 1]), ([2], [2]), ([3], [3]), ([], []), ([], []), ([6], [6]), ([7], [7]), ([4, 5, 0, 1, 2, 3, 4, 5, 6, 7, 8], [4, 5]), ([9, 8, 7, 0, 1, 2, 3, 4, 5, 6, 7, 8], [8, 9])]) [0, 0, 3, 7, 15, 0, 0, 64, 192, 511, 1023] (by kernel_rfl) (by kernel_rfl) (by kernel_rfl) (by kernel_rfl) (by kernel_rfl) (by kernel_rfl) (by kernel_rfl) (by rfl) (by kernel_rfl) (by kernel_rfl) (by kernel_rfl) ?_ ?_ (by kernel_rfl) ?_ ?_
                · refine psteps_cons ?_ ?_
                  · intro a w' hok ⟨hel, hd, _⟩
                    have e3 : a.tmps[3]? = some (.slice (some ad) n n) := (hel 3 (by kernel_rfl)).trans (by rfl)
                    refine ⟨_, rfl, rfl, fun K hK => ?_⟩
                    refine value_ (w1 := w') (v := .slice (some ad) n n) (by rfl) rfl ?_ hK
                    go_simp
                    (try simp only [i64_w, bs_list])
                    (try rfl)
                    (try (unfold Go.RowKit.wrap64; omega))
                  refine psteps_cons ?_ ?_
                  · intro a w' hok ⟨hel, hd, _⟩
                    have e4 : a.tmps[4]? = some (.int .i64 (k : Int)) := (hel 4 (by kernel_rfl)).trans (by rfl)
                    refine ⟨_, rfl, rfl, fun K hK => ?_⟩
                    refine value_ (w1 := w') (v := .int .i64 (k : Int)) (by rfl) rfl ?_ hK
                    go_simp
                    (try simp only [i64_w, bs_list])
                    (try rfl)
                    (try (unfold Go.RowKit.wrap64; omega))
                  refine psteps_cons ?_ ?_
                  · intro a w' hok ⟨hel, hd, _⟩
                    have e30 : a.tmps[30]? = some (.slice (some ad) n n) := hd 0 (by kernel_rfl)
                    have e31 : a.tmps[31]? = some (.int .i64 (k : Int)) := hd 1 (by kernel_rfl)
                    refine ⟨_, rfl, rfl, fun K hK => ?_⟩
                    refine value_ (w1 := w') (v := .pointer (some (ad.add (k * 2)))) (by rfl) rfl ?_ hK
                    go_simp
                    (try simp only [i64_w, bs_list])
                    (try rfl)
                    (try (unfold Go.RowKit.wrap64; omega))
                  refine psteps_cons ?_ ?_
                  · intro a w' hok ⟨hel, hd, _⟩
                    have e32 : a.tmps[32]? = some (.pointer (some (ad.add (k * 2)))) := hd 2 (by kernel_rfl)
                    refine ⟨_, rfl, rfl, fun K hK => ?_⟩
                    refine value_ (w1 := w') (v := .pointer (some (ad.add (k * 2)))) (by rfl) rfl ?_ hK
                    go_simp
                    (try simp only [i64_w, bs_list])
                    (try rfl)
                    (try (unfold Go.RowKit.wrap64; omega))
                  refine psteps_cons ?_ ?_
                  · intro a w' hok ⟨hel, hd, _⟩
                    have e33 : a.tmps[33]? = some (.pointer (some (ad.add (k * 2)))) := hd 3 (by kernel_rfl)
                    have hz : w'.cell? (ad.add (k * 2)) = some (.slice (some kad) nk nk) := by (rcases hok with rfl | hf; exact Z0.out; exact hf.2.cell Z0.out (by rw [show (ad.add (k * 2)).block = ad.block from by (unfold Addr.add; split <;> rfl)]; intro e; injection e with e; omega))
                    refine ⟨_, rfl, rfl, fun K hK => ?_⟩
                    refine value_ (w1 := w') (v := .slice (some kad) nk nk) (by rfl) rfl ?_ hK
                    go_simp
                    (try simp only [i64_w, bs_list])
                    (try rfl)
                    (try (unfold Go.RowKit.wrap64; omega))
                  refine psteps_cons ?_ ?_
                  · intro a w' hok ⟨hel, hd, _⟩
                    have e5 : a.tmps[5]? = some (.int .i64 (j : Int)) := (hel 5 (by kernel_rfl)).trans (by rfl)
                    refine ⟨_, rfl, rfl, fun K hK => ?_⟩
                    refine value_ (w1 := w') (v := .int .i64 (j : Int)) (by rfl) rfl ?_ hK
                    go_simp
                    (try simp only [i64_w, bs_list])
                    (try rfl)
                    (try (unfold Go.RowKit.wrap64; omega))
                  refine psteps_cons ?_ ?_
                  · intro a w' hok ⟨hel, hd, _⟩
                    have e0 : a.tmps[0]? = some (.pointer (some ⟨g, 0, none⟩)) := (hel 0 (by kernel_rfl)).trans (by rfl)
                    refine ⟨_, rfl, rfl, fun K hK => ?_⟩
                    refine value_ (w1 := w') (v := .pointer (some ⟨g, 0, none⟩)) (by rfl) rfl ?_ hK
                    go_simp
                    (try simp only [i64_w, bs_list])
                    (try rfl)
                    (try (unfold Go.RowKit.wrap64; omega))
                  refine psteps_cons ?_ ?_
                  · intro a w' hok ⟨hel, hd, _⟩
                    have e37 : a.tmps[37]? = some (.int .u64 (m : Int)) := hd 7 (by kernel_rfl)
                    refine ⟨_, rfl, rfl, fun K hK => ?_⟩
                    refine value_ (w1 := w') (v := .int .i64 (m : Int)) (by rfl) rfl ?_ hK
                    go_simp
                    (try simp only [i64_w, bs_list])
                    (try rfl)
                    (try (unfold Go.RowKit.wrap64; omega))
                  refine psteps_cons ?_ ?_
                  · intro a w' hok ⟨hel, hd, _⟩
                    have e34 : a.tmps[34]? = some (.slice (some kad) nk nk) := hd 4 (by kernel_rfl)
                    have e35 : a.tmps[35]? = some (.int .i64 (j : Int)) := hd 5 (by kernel_rfl)
                    refine ⟨_, rfl, rfl, fun K hK => ?_⟩
                    refine value_ (w1 := w') (v := .pointer (some (kad.add j))) (by rfl) rfl ?_ hK
                    go_simp
                    (try simp only [i64_w, bs_list])
                    (try rfl)
                    (try (unfold Go.RowKit.wrap64; omega))
                  exact psteps_nil
                · intro a ⟨hel, hd, hdef⟩
                  have e36 : a.tmps[36]? = some (.pointer (some ⟨g, 0, none⟩)) := hd 6 (by kernel_rfl)
                  refine ⟨_, rfl, rfl, fun K hK => ?_⟩
                  refine goes_ Tryd.func141 (by kernel_rfl) rfl #[.pointer (some ⟨g, 0, none⟩), (Value.int IntKind.i64 4)] (by rfl) rfl rfl (by first | (simp only [List.map_toArray, List.map_cons, List.map_nil, Act.eval, Array.getD_eq_getD_getElem?, Option.getD_some, e36]; done) | (simp only [List.map_toArray, List.map_cons, List.map_nil, Act.eval, Array.getD_eq_getD_getElem?, Option.getD_some, e36]; rfl)) ?_
                  refine HCALL.out.mono ?_
                  rintro e_ w2_ ⟨rfl, hR, hG⟩
                  exact ⟨_, rfl, hK _ ⟨hR, ⟨hG.os, hG.tape, hG.output, hG.size, hG.block⟩⟩⟩
                · intro a w' hA ⟨hel, hd, _⟩
                  have e39 : a.tmps[39]? = some (.pointer (some (kad.add j))) := hd 9 (by kernel_rfl)
                  have e38 : a.tmps[38]? = some (.int .i64 (m : Int)) := hd 8 (by kernel_rfl)
                  obtain ⟨⟨old, ho⟩, hf, _⟩ := RI_at (R_keep HRI.out hA.2 hlt) j hjn (m : Int)
                  refine ⟨_, rfl, rfl, fun K hK => ?_⟩
                  refine skip_ (w1 := w'.setCell (kad.add j) (.int .i64 (m : Int))) (by rfl) rfl ?_ (hK _ ?_)
                  · go_simp
                    (try rfl)
                  · exact ⟨w', hA, rfl⟩
                · intro w' hF
                  rw [show entries [30, 31, 32, 33, 34, 35, 36, 37, 38, 39] (fun i => [.slice (some ad) n n, .int .i64 (k : Int), .pointer (some (ad.add (k * 2))), .pointer (some (ad.add (k * 2))), .slice (some kad) nk nk, .int .i64 (j : Int), .pointer (some ⟨g, 0, none⟩), .int .u64 (m : Int), .int .i64 (m : Int), .pointer (some (kad.add j))].getD i undef) = [(0, 30, .slice (some ad) n n), (1, 31, .int .i64 (k : Int)), (2, 32, .pointer (some (ad.add (k * 2)))), (3, 33, .pointer (some (ad.add (k * 2)))), (4, 34, .slice (some kad) nk nk), (5, 35, .int .i64 (j : Int)), (6, 36, .pointer (some ⟨g, 0, none⟩)), (7, 37, .int .u64 (m : Int)), (8, 38, .int .i64 (m : Int)), (9, 39, .pointer (some (kad.add j)))] from rfl]
                  simp only [putSel, if_true, Act.put, List.setIfInBounds_toArray, List.set_cons_zero, List.set_cons_succ, List.map_toArray, List.map_cons, List.map_nil]
                  obtain ⟨W4, ⟨hR4, hG4⟩, rfl⟩ := hF
                  obtain ⟨_, _, hbk, hset, hgr⟩ := RI_at (R_keep HRI.out hG4 hlt) j hjn (m : Int)
                  have HSI := Aside0.mk hset
                  have HGI := Aside0.mk (grown_new (grown_trans HGi.out hG4) hgr hbk)
                  have HRR := Aside0.mk (Rd.grown hR4 hgr (by intro e; injection e with e; omega))
                  have HOI := Aside0.mk (R_other (R_keep HOk.out hG4 hlt) rfl hgr (by simp [Value.ownBlock]; exact HKB.out.1))
                  have HDI := Aside0.mk (DoneM.other (DoneM.grown HD.out hG4 hlt) hgr (fun b hb e => by have := HKB.out.2; omega))
                  clear hset hgr hR4 hG4 hbk
                  go_wp2
                  go_roundw
                  case rel => exact ⟨j + 1, kd ++ [(m : Int)], r3, by omega, by go_num, HN1, by omega, HRR, ⟨by rw [← set_rep _ _ _ _ _ HLk.out.1 hjn]; exact HSI.out⟩, HOI, HDI, HGI⟩
                  case measure => simp [intOf]; omega
            · obtain rfl : j = nk := by omega
              have hRI := HRI.out
              rw [Nat.sub_self, List.replicate_zero, List.append_nil] at hRI
              have hL4 := Left.done HLk.out
              cases hp8 : number 8 r2 with
              | none =>
                have hcall := number_short 8 8 rfl g r2 w0 wr HRd.out (number_none hp8)
                have HF := Aside0.mk (Left.fail HL.out hkn (factP_none3 HP.out hL4 hp8))
                clear hp8 hL4 hset1 hRI
                go_wp2_with (go_at_call 141; refine hcall.mono ?_; rintro e w4 ⟨rfl, hG⟩)
                exact ⟨rfl, grown_trans HGi.out hG, .inr ⟨by rw [HN.out]; exact HF.out, rfl⟩⟩
              | some x =>
                obtain ⟨m, r3⟩ := x
                obtain ⟨hs8, hm8, hr8⟩ := number_some hp8
                have HN1 := Aside0.mk (Left.next HL.out hkn (factP_some HP.out hL4 hp8))
                have hcall := number_ok 8 8 rfl (by omega) g r2 w0 wr HRd.out (below_grown HB.out HGi.out hg (Nat.le_refl _)) hs8
                rw [← hm8, ← hr8] at hcall
                have hmb : m < 18446744073709551616 := by rw [hm8]; exact num_big _
                have hw64 := s64_wrap m hmb
                have hr3l : (r3.length : Int) ≤ 100000 := by rw [hr8, List.length_drop]; omega
                have HRIx := Aside0.mk hRI
                have HMB := Aside0.mk hmb
                have hmI : (m : Int) < 18446744073709551616 := by omega
                clear hp8 hL4 hset1 hRI hm8 hr8 hs8 hmb hz0 hz1 hf0 hf1 hbl2
                go_wp2_with (go_at_call 141; refine hcall.mono ?_; rintro e w4 ⟨rfl, hR, hG⟩; obtain ⟨xx, yy, hrow, hz0, hz1, hf0, hf1, _, hbl2, _, hset1⟩ := RW_at (R_keep HOk.out hG hlt) k hkn; rw [set_same _ _ _ (by rw [HLEN.out]; exact hkn)] at hrow; injection hrow with hrow1 hrow2; subst hrow1; clear hrow2; have HSET1 := Aside0.mk hset1; have HR4 := Aside0.mk hR; have HG4 := Aside0.mk hG; clear hset1 hR hG hz0 hf0)
                obtain ⟨hsV, hgV⟩ := HSET1.out (.int .i64 (s64 m)) rfl
                rw [List.set_set] at hsV
                have HGV := Aside0.mk (grown_new (grown_trans HGi.out HG4.out) hgV hbs)
                have HRV := Aside0.mk (Rd.grown HR4.out hgV (by intro e; injection e with e; omega))
                have hRIk := Kd.R_tight rfl (R_other (R_keep HRIx.out HG4.out hlt) rfl hgV (by simp [Value.ownBlock]; intro e; exact HKB.out.1 e.symm))
                have hDk := (DoneM.other (DoneM.grown HD.out HG4.out hlt) hgV (fun b hb => hb.1)).mono (fun b hb => hb.1)
                have hDk' := hDk.set (k := k) (by rw [HL.out.1]; exact Nat.le_refl _) [.slice (some kad) j j, .int .i64 (s64 m)]
                rw [List.set_set] at hDk'
                have hDone := hDk'.snoc (x := ⟨kd, s64 m⟩) (c := [.slice (some kad) j j, .int .i64 (s64 m)]) (by rw [HL.out.1]; exact List.getElem?_set_self (by rw [HLEN.out]; exact hkn)) (k76_mkM _ _ _ ⟨kd, s64 m⟩ (Kd.R_mono hRIk (fun b hb => by
                  have hb' : kad.block = b := by simpa [Value.ownBlock] using hb.symm
                  rw [← hb']; exact HKB.out.1)))
                have HDONE := Aside0.mk hDone
                have HSV := Aside0.mk hsV
                have HLEN2 := Aside0.mk (show (rows.set k [.slice (some kad) j j, .int .i64 (s64 m)]).length = n from by rw [List.length_set]; exact HLEN.out)
                clear hsV hgV hRIk hDk hDk' hDone hcall
                go_roundw
                case rel => exact ⟨k + 1, done ++ [⟨kd, s64 m⟩], r3, _, by omega, by go_num, HN1, hr3l, HRV, HSV, HLEN2, HDONE, HGV⟩
                case measure => simp [intOf]; omega
      · obtain rfl : k = n := by omega
        go_wp2
        go_ret
        refine ⟨HGk.out, .inl ⟨done, r, _, by rw [HN.out]; exact Left.done HL.out, rfl, ?_, HRd.out⟩⟩
        refine R_of_raw rfl HOk.out (by rw [HL.out.1, HLEN.out]) (fun _ _ => trivial) (fun j p c hj hc => ?_)
        exact k76.M_mono (fun b hb => ⟨trivial, by simp [Value.ownBlock]; exact hb⟩) (HD.out j p c hj hc)
end Go.Proofs.YtbbhjceelghadaaDoor.K
end

section
-- from ReadE
namespace Go.Proofs.YtbbhjceelghadaaDoor.K
open Go Go.RowKit Go.Proofs.YtbbhjceelghadaaDoorW.PrintWords Go.Proofs.YtbbhjceelghadaaDoorW.PrintLast Go.Proofs.YtbbhjceelghadaaDoorW.PrintMore Go.Proofs.YtbbhjceelghadaaDoor.My
theorem entryP_none1 {r : List UInt8} (h : intP 4 r = none) : entryP r = none := by unfold entryP; rw [h]; rfl
theorem entryP_none2 {r r1 : List UInt8} {x : Int} (h : intP 4 r = some (x, r1)) (h1 : factsP r1 = none) : entryP r = none := by unfold entryP; rw [h]; simp only [Option.bind_some]; rw [h1]; rfl
theorem entryP_some {r r1 r2 : List UInt8} {x : Int} {fs : List SFact} (h : intP 4 r = some (x, r1)) (h1 : factsP r1 = some (fs, r2)) : entryP r = some (⟨x, fs⟩, r2) := by unfold entryP; rw [h]; simp only [Option.bind_some]; rw [h1]; rfl
theorem short_facts : Short factsP := fun l x r h => by
  unfold factsP at h
  obtain ⟨⟨n, r1⟩, h1, h⟩ := Option.bind_eq_some_iff.1 h
  have a := (many_len h1 (by omega)).1
  have b := short_rep short_fact n _ _ _ h
  simp only at a b
  omega
set_option maxRecDepth 20000 in
set_option maxHeartbeats 8000000 in
theorem rentries_any (g : Nat) (l : List UInt8) (w0 w : World) (h : Rd w0 w g l) (hb : Below w0.heap.size w0 w) (hg : w0.heap.size ≤ g) (hm : (l.length : Int) ≤ 100000) :
    Calls Tryd.prog 145 #[.pointer (some ⟨g, 0, none⟩)] w (PP (entriesP l) (fun xs v w' => Kd.R k124 124 w' w.heap.size (fun _ => True) v xs) w0 w g) := by
  have HR := Aside0.mk h
  have HB := Aside0.mk hb
  have hlt := h.lt
  clear h hb
  cases hmy : many 4 8 l with
  | none =>
    have hn : entriesP l = none := by unfold entriesP; rw [hmy]; rfl
    have hcall := many_short 4 8 4 8 rfl rfl (by omega) (by omega) g l w0 w HR.out HB.out hg hmy
    have HN := Aside0.mk hn
    clear hmy hn
    go_enter Tryd.func145, Tryd.ntmps145
    go_wp2_with (go_at_call 151; refine hcall.mono ?_; rintro e w1 ⟨rfl, hG⟩)
    exact ⟨rfl, hG, .inr ⟨HN.out, rfl⟩⟩
  | some x =>
    obtain ⟨n, r0⟩ := x
    have hn : entriesP l = repP entryP n r0 := by unfold entriesP; rw [hmy]; rfl
    have hcall := many_ok 4 8 4 8 rfl rfl (by omega) (by omega) g l r0 n w0 w HR.out HB.out hg hmy
    have HN := Aside0.mk hn
    obtain ⟨hl1, hl2⟩ := many_len hmy (by omega)
    have hn1 : (n : Int) ≤ 100000 := by omega
    have hr0 : (r0.length : Int) ≤ 100000 := by omega
    have hmk := make_row (t := 55) (e := 124) Tryd.underlying55 info124 (by omega) n hn1
    clear hmy hn hl1 hl2
    go_enter Tryd.func145, Tryd.ntmps145
    go_wp2_with (go_at_call 151; refine hcall.mono ?_; rintro e w1 ⟨rfl, hR, hG, hle⟩; clear hle; have HR1 := Aside0.mk hR; have HG1 := Aside0.mk hG; clear hR hG)
    have HO := Aside0.mk (RW_new (e := 124) (W := w1) (n := n) (base := w.heap.size) (x := .int .u32 0) (y := .slice none 0 0) rfl rfl (by omega) HG1.out.size)
    have HG := Aside0.mk (grown_trans HG1.out (grown_below (below_alloc (Below.refl _ _) (.cells (madeCells #[.int .u32 0, .slice none 0 0] (n * 2)) 124))))
    have HR2 := Aside0.mk (Rd.grown HR1.out (grown_below (row := none) (below_alloc (Below.refl _ _) (.cells (madeCells #[.int .u32 0, .slice none 0 0] (n * 2)) 124))) (by simp))
    clear HR1 HG1 hcall hmk
    obtain ⟨ad, had⟩ : ∃ ad : Addr, ad = ⟨w1.heap.size, 0, none⟩ := ⟨_, rfl⟩
    rw [← had] at HO ⊢
    obtain ⟨W2, hW⟩ : ∃ W2, W2 = w1.alloc (.cells (madeCells #[.int .u32 0, .slice none 0 0] (n * 2)) 124) := ⟨_, rfl⟩
    rw [← hW] at HO HG HR2
    first | rw [← hW] | (rw [show w1.alloc (.cells (madeCells (Value.agg #[.int .u32 0, .slice none 0 0]).cells (n * 2)) 124) = W2 from hW.symm])
    clear hW had
    go_loopw [10] (fun i wr => ∃ (k : Nat) (done : List SEntry) (r : List UInt8) (rows : List (List Value)), k ≤ n ∧ i = .int .i64 k ∧ Aside0 (Left entryP n k r0 r done) ∧ (r.length : Int) ≤ 100000 ∧ Aside0 (Rd w0 wr g r) ∧ Aside0 (RW 124 wr w.heap.size (.slice (some ad) n n) rows) ∧ Aside0 (rows.length = n) ∧ Aside0 (DoneM k124 wr w.heap.size (fun b => b ≠ ad.block) done rows) ∧ Aside0 (w.grownBy wr (some g))) (fun i _ => n - (intOf i).toNat)
    case atStart => exact ⟨0, [], r0, _, Nat.zero_le _, rfl, ⟨Left.start _ _ _⟩, hr0, HR2, HO, ⟨List.length_replicate⟩, ⟨fun j p c hj _ => by simp at hj⟩, HG⟩
    case round =>
      obtain ⟨k, done, r, rows, hk, rfl, HL, hrl, HRd, HOk, HLEN, HD, HGk⟩ := hrel
      clear HR2 HO HG
      by_cases hkn : k < n
      · cases hp : intP 4 r with
        | none =>
          have hcall := number_short 4 4 rfl g r w0 wr HRd.out (intP_none hp)
          have HF := Aside0.mk (Left.fail HL.out hkn (entryP_none1 hp))
          clear hp
          go_wp2_with (go_at_call 141; refine hcall.mono ?_; rintro e w2 ⟨rfl, hG⟩)
          exact ⟨rfl, grown_trans HGk.out hG, .inr ⟨by rw [HN.out]; exact HF.out, rfl⟩⟩
        | some x =>
          obtain ⟨x, r1⟩ := x
          obtain ⟨hs1, hx, hr1⟩ := intP_some hp
          have hr1l := short_int 4 _ _ _ hp
          have hr1I : (r1.length : Int) ≤ 100000 := by omega
          have hcall := number_ok 4 4 rfl (by omega) g r w0 wr HRd.out (below_grown HB.out HGk.out hg (Nat.le_refl _)) hs1
          have hsm := num_small r 4 (by omega)
          rw [← hr1] at hcall
          obtain ⟨m, hm1⟩ : ∃ m, m = numB (r.take 4) := ⟨_, rfl⟩
          rw [← hm1] at hcall hsm hx
          subst hx
          have HP := Aside0.mk hp
          clear hr1 hm1 hs1 hp hr1l
          go_wp2_with fail
          refine hcall.mono ?_
          rintro e w2 ⟨rfl, hR, hG⟩
          obtain ⟨x0, y0, hrow, z0, z1, f0, f1, hbs, hbl, hset0, _⟩ := RW_at (R_keep HOk.out hG hlt) k hkn
          obtain ⟨hs0, hg0⟩ := hset0 (.int .u32 (m : Int)) rfl
          have HGR := Aside0.mk (grown_new (grown_trans HGk.out hG) hg0 hbs)
          have HRR := Aside0.mk (Rd.grown hR hg0 (by (intro e; injection e with e; omega)))
          have HS0 := Aside0.mk hs0
          have HD0 := Aside0.mk ((DoneM.other (DoneM.grown HD.out hG hlt) hg0 (fun b hb => hb)).set (k := k) (by rw [HL.out.1]; exact Nat.le_refl _) [.int .u32 (m : Int), y0])
          clear hset0 hs0 hg0 hR hG hrow z1 f1 hcall
          go_wp2_with fail
          refine (rfacts_any g r1 w0 _ HRR.out (below_grown HB.out HGR.out hg (Nat.le_refl _)) hg hr1I).mono ?_
          intro e w3 hpp
          cases hp2 : factsP r1 with
          | none =>
            obtain ⟨rfl, hG⟩ := hpp.short hp2
            have HF := Aside0.mk (Left.fail HL.out hkn (entryP_none2 HP.out hp2))
            clear hp2 hpp
            go_wp2
            exact ⟨rfl, grown_trans HGR.out hG, .inr ⟨by rw [HN.out]; exact HF.out, rfl⟩⟩
          | some y =>
            obtain ⟨fs, r2⟩ := y
            obtain ⟨v, rfl, hv, hR, hG⟩ := hpp.ok hp2
            have HN1 := Aside0.mk (Left.next HL.out hkn (entryP_some HP.out hp2))
            have hr2l := short_facts _ _ _ hp2
            have hr2I : (r2.length : Int) ≤ 100000 := by omega
            obtain ⟨x1, y1, hrow, z0', z1, f0', f1, hbs1, hbl1, _, hset1⟩ := RW_at (R_keep HS0.out hG hlt) k hkn
            rw [set_same _ _ _ (by rw [HLEN.out]; exact hkn)] at hrow
            injection hrow with hrow1 hrow2
            subst hrow1
            obtain ⟨Av, cv, rfl⟩ := Kd.R_slice hv
            obtain ⟨hs1, hg1⟩ := hset1 (.slice Av fs.length cv) rfl
            rw [List.set_set] at hs1
            have hvb := Kd.R_lower (Kd.R_mono (Kd.R_bound hv) (ok' := fun b => b ≠ ad.block) (fun b hb => by have := hb.2.1; simp at this; omega)) (HGR.out.size)
            have hvb1 := Kd.R_grown hvb hg1 (fun b hb e => hb (by injection e))
            have hDk := (DoneM.other (DoneM.grown HD0.out hG hlt) hg1 (fun b hb => hb)).set (k := k) (by rw [HL.out.1]; exact Nat.le_refl _) [.int .u32 (m : Int), .slice Av fs.length cv]
            rw [List.set_set] at hDk
            have hDone := hDk.snoc (x := ⟨(m : Int), fs⟩) (c := [.int .u32 (m : Int), .slice Av fs.length cv]) (by rw [HL.out.1]; exact List.getElem?_set_self (by rw [HLEN.out]; exact hkn)) (k124_mkM _ _ _ ⟨(m : Int), fs⟩ hvb1)
            have HDONE := Aside0.mk hDone
            have HSV := Aside0.mk hs1
            have HGV := Aside0.mk (grown_new (grown_trans HGR.out hG) hg1 hbs1)
            have HRV := Aside0.mk (Rd.grown hR hg1 (by (intro e; injection e with e; omega)))
            have HLEN2 := Aside0.mk (show (rows.set k [.int .u32 (m : Int), .slice Av fs.length cv]).length = n from by rw [List.length_set]; exact HLEN.out)
            clear hset1 hs1 hg1 hR hG hrow2 z0 f0 z0' f0' hv hvb hvb1 hDk hDone hpp hp2 hr2l
            go_wp2
            go_roundw
            case rel => exact ⟨k + 1, done ++ [⟨(m : Int), fs⟩], r2, _, by omega, by go_num, HN1, hr2I, HRV, HSV, HLEN2, HDONE, HGV⟩
            case measure => simp [intOf]; omega
      · obtain rfl : k = n := by omega
        go_wp2
        go_ret
        refine ⟨HGk.out, .inl ⟨done, r, _, by rw [HN.out]; exact Left.done HL.out, rfl, ?_, HRd.out⟩⟩
        refine R_of_raw rfl HOk.out (by rw [HL.out.1, HLEN.out]) (fun _ _ => trivial) (fun j p c hj hc => ?_)
        exact k124.M_mono (fun b hb => ⟨trivial, by simp [Value.ownBlock]; exact hb⟩) (HD.out j p c hj hc)
end Go.Proofs.YtbbhjceelghadaaDoor.K
end

section
-- from CodeB
namespace Go.Proofs.YtbbhjceelghadaaDoor.K
open Go Go.RowKit Go.Proofs.YtbbhjceelghadaaDoorW.PrintWords Go.Proofs.YtbbhjceelghadaaDoorW.PrintLast Go.Proofs.YtbbhjceelghadaaDoorW.PrintMore Go.Proofs.YtbbhjceelghadaaDoor.My
/-- What slices.IndexFunc tells: a place, if there is one. -/
def IdxPost (b : Bool) (w : World) (e : Ending) (w' : World) : Prop := ∃ r : Int, e = .returned (.int .i64 r) ∧ decide (0 ≤ r) = b ∧ Below w.heap.size w w'
theorem any_take_succ {α : Type} (p : α → Bool) (z : α) (l : List α) (k : Nat) (h : k < l.length) : (l.take (k + 1)).any p = ((l.take k).any p || p (l.getD k z)) := by
  rw [take_succ_getD z l k h, List.any_append]
  simp
theorem any_hit {α : Type} (p : α → Bool) (z : α) (l : List α) (k : Nat) (h : k < l.length) (hp : p (l.getD k z) = true) : l.any p = true := by
  rw [List.any_eq_true]
  refine ⟨l.getD k z, ?_, hp⟩
  rw [List.getD_eq_getElem?_getD, List.getElem?_eq_getElem h]
  exact List.getElem_mem h
theorem any_miss {α : Type} (p : α → Bool) (l : List α) (h : (l.take l.length).any p = false) : l.any p = false := by rwa [List.take_length] at h
def badV (v : Int) : Bool := decide (v < 0) || decide (9999 < v)
set_option maxHeartbeats 400000 in
theorem badV_any (v : Int) (w : World) : Calls Tryd.prog 140 #[.int .i64 v] w fun e w' => e = .returned (.bool (badV v)) ∧ w = w' := by
  by_cases h0 : v < 0
  · have e : badV v = true := by unfold badV; rw [decide_eq_true h0]; rfl
    rw [e]
    clear e
    go_enter Tryd.func140, Tryd.ntmps140
    go_wp2
    go_ret
    exact ⟨rfl, rfl⟩
  · by_cases h1 : 9999 < v
    · have e : badV v = true := by unfold badV; rw [decide_eq_true h1]; simp
      rw [e]
      clear e
      go_enter Tryd.func140, Tryd.ntmps140
      go_wp2
      go_ret
      exact ⟨rfl, rfl⟩
    · have e : badV v = false := by unfold badV; rw [decide_eq_false h0, decide_eq_false h1]; rfl
      rw [e]
      clear e
      go_enter Tryd.func140, Tryd.ntmps140
      go_wp2
      go_ret
      exact ⟨rfl, rfl⟩
set_option maxHeartbeats 1000000 in
theorem idxInt_any (A : Option Addr) (c : Nat) (l : List Int) (w : World) (hr : Kd.C (Kd.int .i64) w A l.length l) :
    Calls Tryd.prog 150 #[.slice A l.length c, .func (.func 140) #[] #[]] w (IdxPost (l.any badV) w) := by
  have hm := C_max hr
  have HR := Aside0.mk hr
  clear hr
  go_enter Tryd.func150, Tryd.ntmps150
  go_wp2
  go_loopg [5, 8] l.length (fun gg _ s8 wr => ∃ k : Nat, k ≤ l.length ∧ l.length - k ≤ gg ∧ s8 = .int .i64 k ∧ Aside0 (w = wr) ∧ Aside0 ((l.take k).any badV = false))
  case atStart => exact ⟨0, Nat.zero_le _, by omega, rfl, ⟨rfl⟩, ⟨rfl⟩⟩
  case round =>
    obtain ⟨k, hk, hg, rfl, HW, HA⟩ := hrel
    obtain rfl := HW.out
    by_cases hlt : k < l.length
    · obtain ⟨ad, rfl, hx⟩ := Kd.at_int HR.out (k : Int) (by omega) (by omega)
      have hsn := any_take_succ badV 0 l k hlt
      have hgd : rd l (k : Int) = l.getD k 0 := by unfold rd; rw [Int.toNat_natCast]
      rw [hgd, Int.toNat_natCast] at hx
      clear hgd
      obtain ⟨v, hv⟩ : ∃ v, v = l.getD k 0 := ⟨_, rfl⟩
      rw [← hv] at hx hsn
      cases hq : badV v with
      | true =>
        have HH := Aside0.mk (any_hit badV 0 l k hlt (by rw [← hv]; exact hq))
        have hcall := badV_any v w
        rw [hq] at hcall
        clear hv hsn hq
        go_wp2_with (go_at_call 140; refine hcall.mono ?_; rintro e w' ⟨rfl, rfl⟩)
        go_ret
        exact ⟨k, rfl, by rw [HH.out]; simp, Below.refl _ _⟩
      | false =>
        have HN := Aside0.mk (show (l.take (k + 1)).any badV = false by rw [hsn, HA.out, hq]; rfl)
        have hcall := badV_any v w
        rw [hq] at hcall
        clear hv hsn hq
        go_wp2_with (go_at_call 140; refine hcall.mono ?_; rintro e w' ⟨rfl, rfl⟩)
        go_roundg (l.length - (k + 1))
        case measure => omega
        case rel => exact ⟨k + 1, by omega, by omega, by go_num, ⟨rfl⟩, HN⟩
    · have : k = l.length := by omega
      subst this
      go_wp2
      go_ret
      exact ⟨-1, rfl, by rw [any_miss _ _ HA.out]; rfl, Below.refl _ _⟩
set_option maxHeartbeats 400000 in
theorem anyInt_any (A : Option Addr) (c : Nat) (l : List Int) (w : World) (hr : Kd.C (Kd.int .i64) w A l.length l) :
    Calls Tryd.prog 139 #[.slice A l.length c, .func (.func 140) #[] #[]] w fun e w' => e = .returned (.bool (l.any badV)) ∧ Below w.heap.size w w' := by
  have hcall := idxInt_any A c l w hr
  clear hr
  generalize l.any badV = b at hcall
  go_enter Tryd.func139, Tryd.ntmps139
  go_wp2_with (go_at_call 150; refine hcall.mono ?_; rintro e w' ⟨r, rfl, hr, hb⟩; have HR := Aside0.mk hr; clear hr)
  go_ret
  exact ⟨by rw [← HR.out]; rfl, hb⟩
theorem factB_eq (f : SFact) : factB f = (decide ((f.f0.length : Int) ≤ 4) && !f.f0.any badV) := by
  unfold factB
  congr 1
  · rw [decide_eq_decide]; omega
  · rw [List.any_eq_not_all_not, Bool.not_not]
    congr 1
    funext v
    unfold badV
    rw [Bool.eq_iff_iff]
    simp
set_option maxHeartbeats 1000000 in
theorem fact_any (A : Option Addr) (c : Nat) (f : SFact) (w : World) (hr : Kd.C (Kd.int .i64) w A f.f0.length f.f0) :
    Calls Tryd.prog 122 #[.agg #[.slice A f.f0.length c, .int .i64 f.f1]] w fun e w' => e = .returned (.bool (factB f)) ∧ Below w.heap.size w w' := by
  have hcall := anyInt_any A c f.f0 (w.alloc (.cells #[.slice A f.f0.length c, .int .i64 f.f1] 76)) (Kd.C_below hr (below_alloc (Below.refl _ _) _))
  clear hr
  rw [factB_eq]
  by_cases h4 : (f.f0.length : Int) ≤ 4
  · rw [decide_eq_true h4, Bool.true_and]
    generalize f.f0.any badV = b at hcall
    go_enter Tryd.func122, Tryd.ntmps122
    go_wp2_with (go_at_call 139; refine hcall.mono ?_; rintro e w' ⟨rfl, hb⟩)
    go_ret
    exact ⟨rfl, below_step (below_alloc (Below.refl _ _) _) hb⟩
  · rw [decide_eq_false h4, Bool.false_and]
    clear hcall
    go_enter Tryd.func122, Tryd.ntmps122
    go_wp2
    go_ret
    exact ⟨rfl, below_alloc (Below.refl _ _) _⟩
set_option maxHeartbeats 400000 in
theorem notFact_any (A : Option Addr) (c : Nat) (f : SFact) (w : World) (hr : Kd.C (Kd.int .i64) w A f.f0.length f.f0) :
    Calls Tryd.prog 121 #[.agg #[.slice A f.f0.length c, .int .i64 f.f1]] w fun e w' => e = .returned (.bool (!factB f)) ∧ Below w.heap.size w w' := by
  have hcall := fact_any A c f (w.alloc (.cells #[.slice A f.f0.length c, .int .i64 f.f1] 76)) (Kd.C_below hr (below_alloc (Below.refl _ _) _))
  clear hr
  generalize factB f = b at hcall
  go_enter Tryd.func121, Tryd.ntmps121
  go_wp2_with (go_at_call 122; refine hcall.mono ?_; rintro e w' ⟨rfl, hb⟩)
  go_ret
  exact ⟨rfl, below_step (below_alloc (Below.refl _ _) _) hb⟩
def zFact : SFact := z76
set_option maxHeartbeats 1000000 in
theorem idxFact_any (A : Option Addr) (c : Nat) (l : List SFact) (w : World) (hr : Kd.C k76 w A l.length l) :
    Calls Tryd.prog 138 #[.slice A l.length c, .func (.func 121) #[] #[]] w (IdxPost (l.any fun f => !factB f) w) := by
  have hm := C_max hr
  have HR := Aside0.mk hr
  clear hr
  go_enter Tryd.func138, Tryd.ntmps138
  go_wp2
  go_loopg [5, 8] l.length (fun gg _ s8 wr => ∃ k : Nat, k ≤ l.length ∧ l.length - k ≤ gg ∧ s8 = .int .i64 k ∧ Aside0 (Below w.heap.size w wr) ∧ Aside0 ((l.take k).any (fun f => !factB f) = false))
  case atStart => exact ⟨0, Nat.zero_le _, by omega, rfl, ⟨Below.refl _ _⟩, ⟨rfl⟩⟩
  case round =>
    obtain ⟨k, hk, hg, rfl, HW, HA⟩ := hrel
    by_cases hlt : k < l.length
    · obtain ⟨ad, A1, c1, rfl, hx0, hx1, hl1, hC1⟩ := at_T76 (Kd.C_below HR.out HW.out) (k : Int) (by omega) (by omega)
      have hsn := any_take_succ (fun f => !factB f) zFact l k hlt
      have hgd : rd_T76 l (k : Int) = l.getD k zFact := by unfold rd_T76 zFact; rw [Int.toNat_natCast]
      rw [hgd] at hx0 hx1 hl1 hC1
      rw [Int.toNat_natCast] at hx0 hx1
      clear hgd
      obtain ⟨f, hf⟩ : ∃ v, v = l.getD k zFact := ⟨_, rfl⟩
      rw [← hf] at hx0 hx1 hsn hl1 hC1
      have hcall := notFact_any A1 c1 f wr hC1
      cases hq : (!factB f) with
      | true =>
        have HH := Aside0.mk (any_hit (fun f => !factB f) zFact l k hlt (by rw [← hf]; exact hq))
        rw [hq] at hcall
        clear hf hsn hq hC1 hl1
        go_wp2_with (go_at_call 121; refine hcall.mono ?_; rintro e w' ⟨rfl, hb⟩)
        go_ret
        exact ⟨k, rfl, by rw [HH.out]; simp, below_step HW.out hb⟩
      | false =>
        have HN := Aside0.mk (show (l.take (k + 1)).any (fun f => !factB f) = false by rw [hsn, HA.out, hq]; rfl)
        rw [hq] at hcall
        clear hf hsn hq hC1 hl1
        go_wp2_with (go_at_call 121; refine hcall.mono ?_; rintro e w' ⟨rfl, hb⟩)
        go_roundg (l.length - (k + 1))
        case measure => omega
        case rel => exact ⟨k + 1, by omega, by omega, by go_num, ⟨below_step HW.out hb⟩, HN⟩
    · have : k = l.length := by omega
      subst this
      go_wp2
      go_ret
      exact ⟨-1, rfl, by rw [any_miss _ _ HA.out]; rfl, HW.out⟩
set_option maxHeartbeats 400000 in
theorem anyFact_any (A : Option Addr) (c : Nat) (l : List SFact) (w : World) (hr : Kd.C k76 w A l.length l) :
    Calls Tryd.prog 120 #[.slice A l.length c, .func (.func 121) #[] #[]] w fun e w' => e = .returned (.bool (l.any fun f => !factB f)) ∧ Below w.heap.size w w' := by
  have hcall := idxFact_any A c l w hr
  clear hr
  generalize (l.any fun f => !factB f) = b at hcall
  go_enter Tryd.func120, Tryd.ntmps120
  go_wp2_with (go_at_call 138; refine hcall.mono ?_; rintro e w' ⟨r, rfl, hr, hb⟩; have HR := Aside0.mk hr; clear hr)
  go_ret
  exact ⟨by rw [← HR.out]; rfl, hb⟩
theorem batchB_eq (l : List SFact) : batchB l = (decide ((l.length : Int) ≤ 200) && !l.any fun f => !factB f) := by
  unfold batchB
  congr 1
  · rw [decide_eq_decide]; omega
  · rw [List.any_eq_not_all_not, Bool.not_not]
    congr 1
    funext v
    simp
def code_batch.f (l0 : List SFact) : Option Bool := some (batchB l0)
set_option maxHeartbeats 1000000 in
theorem code_batch.calls (A0 : Option Addr) (c0 : Nat) (l0 : List SFact) (r : Bool) (w : World) (hr0 : Kd.C k76 w A0 l0.length l0) (hc0 : l0.length ≤ c0) (h : code_batch.f l0 = some r) :
    Calls Tryd.prog 91 #[.slice A0 l0.length c0] w fun e w' => e = .returned (.bool r) ∧ Below w.heap.size w w' := by
  obtain rfl := Option.some.inj h
  have hm := C_max hr0
  have hcall := anyFact_any A0 c0 l0 w hr0
  clear hr0 h
  rw [batchB_eq]
  by_cases h4 : (l0.length : Int) ≤ 200
  · rw [decide_eq_true h4, Bool.true_and]
    generalize (l0.any fun f => !factB f) = b at hcall
    go_enter Tryd.func91, Tryd.ntmps91
    go_wp2_with (go_at_call 120; refine hcall.mono ?_; rintro e w' ⟨rfl, hb⟩)
    go_ret
    exact ⟨rfl, hb⟩
  · rw [decide_eq_false h4, Bool.false_and]
    clear hcall
    go_enter Tryd.func91, Tryd.ntmps91
    go_wp2
    go_ret
    exact ⟨rfl, Below.refl _ _⟩
end Go.Proofs.YtbbhjceelghadaaDoor.K
end

section
-- from K4
namespace Go.Proofs.YtbbhjceelghadaaDoor.K
open Go.RowKit Go.Proofs.YtbbhjceelghadaaDoorW.PrintWords Go.Proofs.YtbbhjceelghadaaDoorW.PrintLast Go.Proofs.YtbbhjceelghadaaDoorW.PrintMore
attribute [local go_sem] max2_int min2_int max_two min_two max_three min_three max_four min_four
set_option linter.unusedVariables false
set_option linter.unusedSimpArgs false
def code_rises.l0 : Nat → Int → List Int → Int → Int → Option (Bool)
  | 0, _, _, _, _ => none
  | k + 1, x3, x6, x7, x8 => if x8 < x7 then (if 0 ≤ x8 then (if x8 < (x6.length : Int) then (if (rd x6 x8) ≤ x3 then (some false) else (if (rd x6 x8) ≥ 6 then (some false) else (code_rises.l0 k (rd x6 x8) x6 x7 (wrap64 (x8 + 1))))) else (none)) else (none)) else (some true)
def code_rises.f (k : Nat) (l0 : List Int) : Option (Bool) := code_rises.l0 k (-1) l0 (l0.length : Int) 0
theorem code_rises.mono_l : ∀ k, (∀ y0 y1 y2 y3, LeO (code_rises.l0 k y0 y1 y2 y3) (code_rises.l0 (k + 1) y0 y1 y2 y3))
  | 0 => fun _ _ _ _ r h => by simp [code_rises.l0] at h
  | k + 1 => by
    have ih0 := code_rises.mono_l k
    · intro y0 y1 y2 y3
      unfold code_rises.l0
      repeat' first
      | (with_reducible exact ih0 _ _ _ _)
      | (with_reducible exact LeO.refl _)
      | (with_reducible exact LeO.none _)
      | (with_reducible refine LeO.ite ?_ ?_)
      | (with_reducible refine LeO.bind ?_ (fun _ => ?_))
      | exact ih0 _ _ _ _
      | exact LeO.none _
      | refine LeO.ite ?_ ?_
      | refine LeO.bind ?_ (fun _ => ?_)
theorem code_rises.mono : ∀ a0 k, LeO (code_rises.f k a0) (code_rises.f (k + 1) a0) := by
  intro a0 k
  have ih0 := code_rises.mono_l k
  unfold code_rises.f
  repeat' first
      | (with_reducible exact ih0 _ _ _ _)
      | (with_reducible exact LeO.refl _)
      | (with_reducible exact LeO.none _)
      | (with_reducible refine LeO.ite ?_ ?_)
      | (with_reducible refine LeO.bind ?_ (fun _ => ?_))
      | exact ih0 _ _ _ _
      | exact LeO.none _
      | refine LeO.ite ?_ ?_
      | refine LeO.bind ?_ (fun _ => ?_)
set_option maxHeartbeats 8000000 in
set_option maxRecDepth 100000 in
theorem code_rises.calls (k : Nat) (A0 : Option Addr) (c0 : Nat) (l0 : List Int) (r : Bool) (w : World) (hr0 : Kd.C (Kd.int .i64) w A0 l0.length l0) (hc0 : l0.length ≤ c0) (h : code_rises.f k l0 = some r) :
    Calls Tryd.prog 90 #[.slice A0 l0.length c0] w fun e w' => e = .returned (.bool r) ∧ Drawn0 w w' := by
  have HR0 := Aside0.mk hr0
  have HC0 := Aside0.mk hc0
  clear hr0 hc0
  have H : (code_rises.l0 k (-1) l0 (l0.length : Int) 0) = some r := h
  clear h
  have H' := Aside0.mk H
  clear H
  go_enter Tryd.func90, Tryd.ntmps90
  go_wp2
  go_loopg [3, 8] k (fun kq v3 v8 w' => ∃ (x3_1 : Int) (x8_1 : Int), v3 = .int .i64 x3_1 ∧ v8 = .int .i64 x8_1 ∧ Aside0 (code_rises.l0 kq x3_1 l0 (l0.length : Int) x8_1 = some r) ∧ Aside0 (kq ≤ k) ∧ Drawn0 w w')
  case atStart => exact ⟨((-1)), (0), (by first | rfl | (simp; done) | (simp [*]; done)), (by first | rfl | (simp; done) | (simp [*]; done)), H', ⟨Nat.le_refl _⟩, by repeat (first | exact Drawn0.refl _ | apply Drawn0.step)⟩
  case round =>
    clear H'
    obtain ⟨x3_1, x8_1, rfl, rfl, HA, HK1, ⟨m1, rfl⟩⟩ := hrel
    cases gk with
    | zero => exact absurd HA.out (by simp [code_rises.l0])
    | succ k1 =>
      have H := HA.out
      clear HA
      simp only [code_rises.l0] at H
      by_cases c2 : x8_1 < (l0.length : Int)
      · rw [if_pos c2] at H
        have c2b0 : decide (x8_1 < (l0.length : Int)) = true := decide_eq_true c2
        clear c2
        by_cases c3 : 0 ≤ x8_1
        · rw [if_pos c3] at H
          have c3b0 : decide (0 ≤ x8_1) = true := decide_eq_true c3
          clear c3
          by_cases c4 : x8_1 < (l0.length : Int)
          · rw [if_pos c4] at H
            have c4b0 : decide (x8_1 < (l0.length : Int)) = true := decide_eq_true c4
            clear c4
            by_cases c5 : (rd l0 x8_1) ≤ x3_1
            · rw [if_pos c5] at H
              have c5b0 : decide ((rd l0 x8_1) ≤ x3_1) = true := decide_eq_true c5
              clear c5
              obtain rfl := Option.some.inj H
              have p106 : 0 ≤ (x8_1 : Int) := of_decide_eq_true (by first | (with_reducible assumption) | assumption)
              have q106 : x8_1 < (l0.length : Int) := of_decide_eq_true (by first | (with_reducible assumption) | assumption)
              obtain ⟨ad106, e106, hx106_0⟩ := Kd.at_int HR0.out x8_1 p106 q106
              cases e106
              replace p106 := eq_true p106
              replace q106 := eq_true q106
              go_wp2
              go_ret
              exact ⟨by first | rfl | (simp; done) | (simp [*]; done), by repeat (first | exact Drawn0.refl _ | apply Drawn0.step)⟩
            · rw [if_neg c5] at H
              have c5b0 : decide ((rd l0 x8_1) ≤ x3_1) = false := decide_eq_false c5
              clear c5
              by_cases c6 : (rd l0 x8_1) ≥ 6
              · rw [if_pos c6] at H
                have c6b0 : decide (6 ≤ (rd l0 x8_1)) = true := decide_eq_true c6
                clear c6
                obtain rfl := Option.some.inj H
                have p106 : 0 ≤ (x8_1 : Int) := of_decide_eq_true (by first | (with_reducible assumption) | assumption)
                have q106 : x8_1 < (l0.length : Int) := of_decide_eq_true (by first | (with_reducible assumption) | assumption)
                obtain ⟨ad106, e106, hx106_0⟩ := Kd.at_int HR0.out x8_1 p106 q106
                cases e106
                replace p106 := eq_true p106
                replace q106 := eq_true q106
                go_wp2
                go_ret
                exact ⟨by first | rfl | (simp; done) | (simp [*]; done), by repeat (first | exact Drawn0.refl _ | apply Drawn0.step)⟩
              · rw [if_neg c6] at H
                have c6b0 : decide (6 ≤ (rd l0 x8_1)) = false := decide_eq_false c6
                clear c6
                have H' := Aside0.mk H
                clear H
                have p106 : 0 ≤ (x8_1 : Int) := of_decide_eq_true (by first | (with_reducible assumption) | assumption)
                have q106 : x8_1 < (l0.length : Int) := of_decide_eq_true (by first | (with_reducible assumption) | assumption)
                obtain ⟨ad106, e106, hx106_0⟩ := Kd.at_int HR0.out x8_1 p106 q106
                cases e106
                replace p106 := eq_true p106
                replace q106 := eq_true q106
                go_wp2
                go_roundg k1
                case measure => have := HK1.out; omega
                case rel => exact ⟨(rd l0 x8_1), (wrap64 (x8_1 + 1)), (by first | rfl | (simp; done) | (simp [*]; done)), (by first | rfl | (simp; done) | (simp [*]; done)), H', ⟨by have := HK1.out; omega⟩, by repeat (first | exact Drawn0.refl _ | apply Drawn0.step)⟩
          · rw [if_neg c4] at H
            exact absurd H (by simp)
        · rw [if_neg c3] at H
          exact absurd H (by simp)
      · rw [if_neg c2] at H
        have c2b0 : decide (x8_1 < (l0.length : Int)) = false := decide_eq_false c2
        clear c2
        obtain rfl := Option.some.inj H
        go_wp2
        go_ret
        exact ⟨by first | rfl | (simp; done) | (simp [*]; done), by repeat (first | exact Drawn0.refl _ | apply Drawn0.step)⟩
end Go.Proofs.YtbbhjceelghadaaDoor.K
end
