/- Words of this claim's own over the printed words: bytes as a kind; a block that alone may change. -/
import Derived.Test.YtbbhjceelghadaaProg
import Derived.Below
import Derived.Deep.Draws
import Derived.Deep.AppendLies
import Derived.Maps.AppendAt
import Derived.OwnWalk
import Derived.Laws.BytesArg
import Derived.Laws.MakeOwn
import Derived.Laws.OwnMore
import Derived.Deep.OwnRows
import Derived.Tactics
import Derived.Lib.ConvBytes
import Derived.Laws.Slices
import Derived.WalkKit
import Derived.KernelRfl
import Derived.RowKit3
import Derived.Deep.LoopGhost
import Derived.Deep.QuietTactic
import Derived.BigQuiet
import Derived.WideLaws
import Derived.Deep.DeepCutAuto
import Derived.Deep.CutBlock
import Derived.Deep.RegionHeld3
import Derived.Laws.Rows
import Derived.Lib.AppendStr
import Derived.ArgAppend
import Derived.Laws.IdiomCopy
import Derived.OrdersHeld
import Derived.Laws.BitsLemmas
import Derived.RowKit
import Derived.WalkSpells
import Derived.WalkLawsBesides
import Derived.RegionTactic
import Derived.ChangeAlike
import Derived.Lib.Hide
import Derived.Lib.SlBytesConst
import Derived.Test.YtbbhjceelghadaaWWords
import Derived.Test.YtbbhjceelghadaaWMore
namespace Go.Proofs.Ytbbhjceelghadaa.My
open Go Go.RowKit Go.Proofs.YtbbhjceelghadaaW.PrintWords

/-- A byte in a cell. -/
def kb : Kd UInt8 := Kd.scalar (fun b => Value.int .u8 (b.toNat : Int)) (fun _ => rfl)

theorem C_at {w : World} {A : Option Addr} {n : Nat} {l : List UInt8} (h : kb.C w A n l) (i : Nat) (hi : i < n) : ∃ ad, A = some ad ∧ w.cell? (ad.add i) = some (.int .u8 (l.getD i 0).toNat) := by
  obtain ⟨ad, c, e, hl, hK, hc⟩ := Kd.C_get h 0 (i : Int) (by omega) (by omega)
  have hK' : c = [.int .u8 (l.getD i 0).toNat] := hK
  subst hK'
  have := hc 0 _ rfl
  simp only [Int.toNat_natCast, Nat.add_zero] at this
  rw [show kb.sz = 1 from rfl, Nat.mul_one] at this
  exact ⟨ad, e, this⟩
theorem C_len {α : Type} {d : Kd α} {w : World} {A : Option Addr} {n : Nat} {l : List α} (h : d.C w A n l) : l.length = n := h.1
theorem C_max {α : Type} {d : Kd α} {w : World} {A : Option Addr} {n : Nat} {l : List α} (h : d.C w A n l) : n ≤ 9223372036854775807 := h.2.1

/-- A slice of slices of bytes: its element i. -/
theorem CC_at {w : World} {e : Nat} {A : Option Addr} {n : Nat} {l : List (List UInt8)} (h : (Kd.slice e kb).C w A n l) (i : Nat) (hi : i < n) :
    ∃ ad A' c', A = some ad ∧ w.cell? (ad.add i) = some (.slice A' (l.getD i []).length c') ∧ (l.getD i []).length ≤ c' ∧ kb.C w A' (l.getD i []).length (l.getD i []) := by
  obtain ⟨ad, c, e, hl, hK, hc⟩ := Kd.C_get h [] (i : Int) (by omega) (by omega)
  obtain ⟨A', c', rfl, h1, h2⟩ := hK
  have := hc 0 _ rfl
  simp only [Int.toNat_natCast, Nat.add_zero] at this h1 h2
  rw [show (Kd.slice _ kb).sz = 1 from rfl, Nat.mul_one] at this
  exact ⟨ad, A', c', e, this, h1, h2⟩

theorem take_succ_getD {α : Type} (d : α) (l : List α) (k : Nat) (h : k < l.length) : l.take (k + 1) = l.take k ++ [l.getD k d] := by
  rw [List.take_succ_eq_append_getElem h, List.getD_eq_getElem?_getD, List.getElem?_eq_getElem h]; rfl

/-- A new row of bytes. -/
theorem C_new {W : World} {b e : Nat} {cells : Array Value} {fz : Nat × Nat} {l : List UInt8} {n : Nat} (hb : b = W.heap.size) (hn : n = l.length) (hm : l.length ≤ 9223372036854775807) (hc : cells.toList = l.map fun x => Value.int .u8 (x.toNat : Int)) :
    kb.C (W.alloc (.cells cells e fz)) (some ⟨b, 0, none⟩) n l := by
  subst hb; subst hn
  refine ⟨rfl, hm, fun _ => ⟨_, rfl, fun j p hj => ⟨[.int .u8 (p.toNat : Int)], rfl, rfl, fun i u hi => ?_⟩⟩⟩
  have hi0 : i = 0 := by
    rcases i with _ | i
    · rfl
    · simp at hi
  subst hi0
  have hu : u = .int .u8 (p.toNat : Int) := by simpa using hi.symm
  subst hu
  have e1 : cells[j]? = some (.int .u8 (p.toNat : Int)) := by rw [← Array.getElem?_toList, hc, List.getElem?_map, hj]; rfl
  rw [add_plain, show kb.sz = 1 from rfl, Nat.mul_one, Nat.add_zero]
  show (match (W.heap.push _)[W.heap.size]? with | some (.cells c _ _) => _ | _ => _) = _
  simp [e1]
theorem C_made {W : World} {b e : Nat} {m : Nat} (hb : b = W.heap.size) (hm : m ≤ 9223372036854775807) :
    kb.C (W.alloc (.cells (madeCells #[.int .u8 0] m) e)) (some ⟨b, 0, none⟩) m (List.replicate m 0) :=
  C_new hb (by simp) (by simpa using hm) (by
    apply List.ext_getElem
    · simp [madeCells]
    · intro i h1 h2
      simp [madeCells, Nat.mod_one])
/-- The cells of a slice of slices of bytes. -/
def Cs (W : World) (cs : List Value) (ls : List (List UInt8)) : Prop :=
  cs.length = ls.length ∧ ∀ (i : Nat) (l : List UInt8), ls[i]? = some l → ∃ A c, cs[i]? = some (.slice A l.length c) ∧ l.length ≤ c ∧ kb.C W A l.length l
theorem Cs.nil (W : World) : Cs W [] [] := ⟨rfl, fun i l h => by simp at h⟩
theorem Cs.cons {W : World} {cs : List Value} {ls : List (List UInt8)} {A : Option Addr} {c n : Nat} {l : List UInt8} (h : kb.C W A n l) (hc : n ≤ c) (hs : Cs W cs ls) : Cs W (.slice A n c :: cs) (l :: ls) := by
  have hn := h.1
  subst hn
  refine ⟨by simp [hs.1], fun i x hx => ?_⟩
  rcases i with _ | i
  · obtain rfl : l = x := by simpa using hx
    exact ⟨A, c, rfl, hc, h⟩
  · exact hs.2 i x (by simpa using hx)
theorem C_nil0 (W : World) : kb.C W none 0 [] := ⟨rfl, by omega, fun h => absurd h (Nat.lt_irrefl 0)⟩
theorem CC_new {W : World} {b e t : Nat} {cells : Array Value} {ls : List (List UInt8)} {n : Nat} (hb : b = W.heap.size) (hn : n = ls.length) (hm : ls.length ≤ 9223372036854775807) (hc : Cs W cells.toList ls) :
    (Kd.slice t kb).C (W.alloc (.cells cells e)) (some ⟨b, 0, none⟩) n ls := by
  subst hb; subst hn
  refine ⟨rfl, hm, fun _ => ⟨_, rfl, fun j p hj => ?_⟩⟩
  obtain ⟨A, c, h1, h2, h3⟩ := hc.2 j p hj
  refine ⟨[.slice A p.length c], rfl, ⟨A, c, rfl, h2, Kd.C_below h3 (below_alloc (Below.refl _ _) _)⟩, fun i u hi => ?_⟩
  have hi0 : i = 0 := by
    rcases i with _ | i
    · rfl
    · simp at hi
  subst hi0
  have hu : u = .slice A p.length c := by simpa using hi.symm
  subst hu
  rw [add_plain, show (Kd.slice _ kb).sz = 1 from rfl, Nat.mul_one, Nat.add_zero]
  have e1 : cells[j]? = some (.slice A p.length c) := by rw [← Array.getElem?_toList]; exact h1
  show (match (W.heap.push _)[W.heap.size]? with | some (.cells c _ _) => _ | _ => _) = _
  simp [e1]

theorem addr_pos (a : Addr) (i : Nat) (h : 0 < i) : a.add i = ⟨a.block, a.off + i, none⟩ := by unfold Addr.add; rw [if_neg (by omega)]
theorem addr_zero (a : Addr) : a.add 0 = a := by unfold Addr.add; rw [if_pos rfl]
theorem heap_new' {W : World} {o : Obj} {b : Nat} (hb : b = W.heap.size) : (W.alloc o).heap[b]? = some o := by
  subst hb
  show (W.heap.push o)[W.heap.size]? = _
  simp
theorem heap_old' {W : World} {o o' : Obj} {b : Nat} (h : W.heap[b]? = some o') : (W.alloc o).heap[b]? = some o' := by
  rw [Below.heap_alloc _ _ _ (blk_lt h)]
  exact h
theorem heap_drew' {W : World} {o : Obj} {b : Nat} (h : W.heap[b]? = some o) : W.drew.heap[b]? = some o := h
theorem heap_below {W W' : World} {o : Obj} {b : Nat} (hb : Below W.heap.size W W') (h : W.heap[b]? = some o) : W'.heap[b]? = some o := (hb.block b (blk_lt h)).trans h
/-- A block known whole: a row of slices of bytes. -/
theorem CC_blk {W : World} {b e t : Nat} {fz : Nat × Nat} {cells : Array Value} {ls : List (List UInt8)} {n : Nat} (hb : W.heap[b]? = some (.cells cells e fz)) (hn : n = ls.length) (hm : ls.length ≤ 9223372036854775807) (hc : Cs W cells.toList ls) :
    (Kd.slice t kb).C W (some ⟨b, 0, none⟩) n ls := by
  subst hn
  refine ⟨rfl, hm, fun _ => ⟨_, rfl, fun j p hj => ?_⟩⟩
  obtain ⟨A, c, h1, h2, h3⟩ := hc.2 j p hj
  refine ⟨[.slice A p.length c], rfl, ⟨A, c, rfl, h2, h3⟩, fun i u hi => ?_⟩
  have hi0 : i = 0 := by
    rcases i with _ | i
    · rfl
    · simp at hi
  subst hi0
  have hu : u = .slice A p.length c := by simpa using hi.symm
  subst hu
  rw [add_plain, show (Kd.slice _ kb).sz = 1 from rfl, Nat.mul_one, Nat.add_zero]
  have e1 : cells[j]? = some (.slice A p.length c) := by rw [← Array.getElem?_toList]; exact h1
  simp [World.cell?, hb, e1]
theorem info_bytes : (Try.prog.info? 5).map (·.size) = some 1 := by kernel_rfl
/-- 'b[lo:hi]' of bytes that are read: the address is a letter. -/
theorem cut_lh {w : World} {A : Option Addr} {c : Nat} {l : List UInt8} (h : kb.C w A l.length l) (hc : l.length ≤ c) (lo hi : Nat) (loI hiI : Int) (e1 : loI = lo) (e2 : hiI = hi) (h1 : lo ≤ hi) (h2 : hi ≤ l.length) :
    ∃ A', (∀ W : World, (Instr.slice 22 (.slice A l.length c) (some (.int .i64 loI)) (some (.int .i64 hiI)) none).run Try.prog W = .ok (.slice A' (hi - lo) (c - lo)) W) ∧ kb.C w A' (hi - lo) ((l.take hi).drop lo) := by
  subst e1; subst e2
  obtain ⟨i, hi0, hsz⟩ := Option.map_eq_some_iff.1 info_bytes
  have hl : ((l.take hi).drop lo).length = hi - lo := by rw [List.length_drop, List.length_take]; omega
  refine ⟨if c = lo then A else A.map (·.add (lo * 1)), fun W => ?_, ?_⟩
  · have := cut_mid (P := Try.prog) 22 5 .i64 .i64 Try.underlying22 hi0 1 hsz A l.length c lo hi (by omega) (by omega) (by omega) hc W
    simpa using this
  · have := Kd.C_mid h h1 h2 hc
    rw [hl] at this
    exact this
theorem cut_l {w : World} {A : Option Addr} {c : Nat} {l : List UInt8} (h : kb.C w A l.length l) (hc : l.length ≤ c) (lo : Nat) (loI : Int) (e1 : loI = lo) (h1 : lo ≤ l.length) :
    ∃ A', (∀ W : World, (Instr.slice 22 (.slice A l.length c) (some (.int .i64 loI)) none none).run Try.prog W = .ok (.slice A' (l.length - lo) (c - lo)) W) ∧ kb.C w A' (l.length - lo) (l.drop lo) := by
  subst e1
  obtain ⟨i, hi0, hsz⟩ := Option.map_eq_some_iff.1 info_bytes
  have hl : (l.drop lo).length = l.length - lo := List.length_drop
  refine ⟨if c = lo then A else A.map (·.add lo), fun W => ?_, ?_⟩
  · have hel : Try.prog.elem 22 = 5 := by simp [Program.elem, Try.underlying22]
    have hu : Try.prog.underlying 22 = some (.slice (Try.prog.elem 22)) := by rw [hel]; exact Try.underlying22
    rw [run_slice_l W 22 A l.length c hu .i64 (lo : Int) (Int.natCast_nonneg _) (by omega), hel]
    simp [sizeOf, typeInfo, hi0, hsz, sliced, Result.andThen]
  · have := Kd.C_drop h h1 hc
    rw [hl, show lo * kb.sz = lo from Nat.mul_one _] at this
    exact this
theorem cut_h (A : Option Addr) (n c hi : Nat) (hiI : Int) (e1 : hiI = hi) (h1 : hi ≤ n) (hc : n ≤ c) :
    ∀ W : World, (Instr.slice 22 (.slice A n c) none (some (.int .i64 hiI)) none).run Try.prog W = .ok (.slice A hi c) W := by
  subst e1
  intro W
  obtain ⟨i, hi0, hsz⟩ := Option.map_eq_some_iff.1 info_bytes
  have hel : Try.prog.elem 22 = 5 := by simp [Program.elem, Try.underlying22]
  have hu : Try.prog.underlying 22 = some (.slice (Try.prog.elem 22)) := by rw [hel]; exact Try.underlying22
  rw [run_slice_h W 22 A n c hu .i64 (hi : Int) (Int.natCast_nonneg _) (by omega), hel]
  simp [sizeOf, typeInfo, hi0, hsz, sliced, Result.andThen]
  intro _
  cases A with
  | none => rfl
  | some a => simp [Addr.add]
theorem C_take_n {w : World} {A : Option Addr} {l : List UInt8} (h : kb.C w A l.length l) (n : Nat) (hn : n ≤ l.length) : kb.C w A n (l.take n) := by
  have := Kd.C_take h hn
  rwa [show (l.take n).length = n from by rw [List.length_take]; omega] at this
/-- Bytes as a string. -/
def bs (l : List UInt8) : ByteArray := ⟨l.toArray⟩
theorem bs_size (l : List UInt8) : (bs l).size = l.length := by simp [bs, ByteArray.size]
theorem bs_toList (l : List UInt8) : (bs l).data.toList = l := by simp [bs]
theorem bs_list (l : List UInt8) : (bs l).toList = l := by rw [ByteArray.toList_eq, bs_toList]
theorem ints_of_kb {w : World} {A : Option Addr} {n : Nat} {l : List UInt8} (h : kb.C w A n l) : ReadsInt w .u8 A n (l.map fun b => (b.toNat : Int)) := by
  refine ⟨by rw [List.length_map]; exact h.1, h.2.1, fun hn => ?_⟩
  obtain ⟨ad, e, _⟩ := h.2.2 hn
  refine ⟨ad, e, fun i hi => ?_⟩
  obtain ⟨ad', e', hc⟩ := C_at h i hi
  obtain rfl : ad = ad' := by rw [e] at e'; injection e'
  rw [hc, List.getD_eq_getElem?_getD, List.getD_eq_getElem?_getD, List.getElem?_map]
  rw [List.getElem?_eq_getElem (by have := h.1; omega)]
  rfl
theorem kb_of_ints {w : World} {A : Option Addr} {n : Nat} {l : List UInt8} (h : ReadsInt w .u8 A n (l.map fun b => (b.toNat : Int))) : kb.C w A n l := by
  refine ⟨by rw [← h.1, List.length_map], h.2.1, fun hn => ?_⟩
  obtain ⟨ad, e, hc⟩ := h.2.2 hn
  refine ⟨ad, e, fun j p hj => ⟨[.int .u8 (p.toNat : Int)], rfl, rfl, fun i u hi => ?_⟩⟩
  have hi0 : i = 0 := by
    rcases i with _ | i
    · rfl
    · simp at hi
  subst hi0
  have hu : u = .int .u8 (p.toNat : Int) := by simpa using hi.symm
  subst hu
  have hl := (List.getElem?_eq_some_iff.1 hj).1
  rw [show kb.sz = 1 from rfl, Nat.mul_one, Nat.add_zero, hc j (by have := h.1; rw [List.length_map] at this; omega), List.getD_eq_getElem?_getD, List.getElem?_map, hj]
  rfl
theorem str_of_nums (l : List UInt8) : strOfNums (l.map fun b => (b.toNat : Int)) = bs l := by
  unfold strOfNums bs
  congr 1
  apply Array.ext'
  simp only [List.map_map]
  conv => rhs; rw [← List.map_id l]
  apply List.map_congr_left
  intro b _
  simp
theorem conv_string {w : World} {A : Option Addr} {n c : Nat} {l : List UInt8} (h : kb.C w A n l) : (convert 22 9 (.slice A n c)).run Try.prog w = .ok (.string (bs l)) w := by
  rw [← str_of_nums]
  exact string_of_reads Try.underlying22 Try.underlying5 Try.underlying9 (ints_of_kb h)
theorem conv_bytes (l : List UInt8) (W : World) : (convert 9 22 (.string (bs l))).run Try.prog W = .ok (.slice (some ⟨W.heap.size, 0, none⟩) l.length (grownCap W l.length 0 5)) (Lib.bytesWorld W 5 (bs l)) := by
  have h := print_bytes (P := Try.prog) 9 22 5 Try.underlying9 Try.underlying22 Try.underlying5 (bs l) W
  rw [bs_size] at h
  exact h
theorem C_bytesWorld (W : World) (l : List UInt8) (hl : l.length ≤ 9223372036854775807) : kb.C (Lib.bytesWorld W 5 (bs l)) (some ⟨W.heap.size, 0, none⟩) l.length l := by
  have h := bytes_reads W 5 (bs l) (by rw [bs_size]; exact hl)
  rw [bs_size] at h
  apply kb_of_ints
  rw [show (l.map fun b => (b.toNat : Int)) = bytesOf (bs l) from by simp [bytesOf, bs_toList]]
  exact h
theorem below_bytesWorld {w W : World} (h : Below w.heap.size w W) (e : TypeId) (s : ByteArray) : Below w.heap.size w (Lib.bytesWorld W e s) := bytes_below h h.size e s

/-- A row of bytes of the call's own, not empty: where it lies. -/
theorem kb_form {w : World} {base e : Nat} {ok : Nat → Prop} {v : Value} {l : List UInt8} (h : kb.R e w base ok v l) (hp : 0 < l.length) :
    ∃ g cap, v = .slice (some ⟨g, 0, none⟩) l.length cap ∧ l.length ≤ cap ∧ base ≤ g ∧ ok g ∧ (∀ i, w.frozen? ⟨g, i, none⟩ = false) ∧ kb.C w (some ⟨g, 0, none⟩) l.length l := by
  have ho := Kd.own_of_R (enc := fun b : UInt8 => Value.int .u8 (b.toNat : Int)) (h1 := fun _ => rfl) h
  obtain ⟨g, cap, rfl, hb, hl⟩ := ho.form hp
  obtain ⟨A', c', e', h1, h2⟩ := Kd.R_reads h
  injection e' with e1 e2 e3
  subst e1; subst e3
  obtain ⟨cells, hc⟩ := own_typed ho g (by simp [Value.ownBlock])
  exact ⟨g, cap, rfl, h1, hb, h.1 g (by simp [Value.ownBlock]), fun i => blk_frozen hc i, h2⟩
theorem kb_set {w : World} {base e g n cap : Nat} {ok : Nat → Prop} {l : List UInt8} (h : kb.R e w base ok (.slice (some ⟨g, 0, none⟩) n cap) l) (i : Nat) (x : UInt8) :
    kb.R e (w.setCell ⟨g, i, none⟩ (.int .u8 (x.toNat : Int))) base ok (.slice (some ⟨g, 0, none⟩) n cap) (l.set i x) := by
  have ho := Kd.own_of_R (enc := fun b : UInt8 => Value.int .u8 (b.toNat : Int)) (h1 := fun _ => rfl) h
  have hn : n = l.length := (Kd.R_reads' h).1
  have h2 := (own_store_of (enc := fun b : UInt8 => Value.int .u8 (b.toNat : Int)) (n := l.length) (by rw [← hn] at ho ⊢; exact ho) (i : Int) x).1
  rw [Int.toNat_natCast] at h2
  rw [← hn] at h2
  exact Kd.R_of_own (by rw [List.length_set, ← hn]; exact h2) h.1
theorem kb_R {w : World} {base : Nat} {ok : Nat → Prop} {e n c : Nat} {A : Option Addr} {l : List UInt8} (h : kb.R e w base ok (.slice A n c) l) : n = l.length ∧ n ≤ c ∧ kb.C w A l.length l := by
  obtain ⟨A', c', e', h1, h2⟩ := Kd.R_reads h
  injection e' with e1 e2 e3
  subst e1; subst e2; subst e3
  exact ⟨rfl, h1, h2⟩
theorem xor_byte (x y : UInt8) : bits .xor .u8 (x.toNat : Int) (y.toNat : Int) = ((x ^^^ y).toNat : Int) := by
  rw [u8_xor_nat _ _ x.toNat_lt y.toNat_lt, UInt8.toNat_xor]

/-- 'Below', and what it gives the walk: the cells that there were. -/
theorem bcell {W w1 : World} (hb : Below W.heap.size W w1) {a : Addr} {v : Value} (h : W.cell? a = some v) : w1.cell? a = some v := pw_cell_below hb h

/-- All blocks but one are as they were, and no block has come or gone. -/
structure Only (b : Nat) (w w' : World) : Prop where
  os : w'.os = w.os
  tape : w'.tape = w.tape
  output : w'.output = w.output
  size : w'.heap.size = w.heap.size
  block : ∀ k, k ≠ b → w'.heap[k]? = w.heap[k]?
theorem Only.refl (b : Nat) (w : World) : Only b w w := ⟨rfl, rfl, rfl, rfl, fun _ _ => rfl⟩
theorem Only.set {b : Nat} {w w' : World} (h : Only b w w') (o : Nat) (v : Value) : Only b w (w'.setCell ⟨b, o, none⟩ v) :=
  ⟨h.os, h.tape, h.output, by simp [World.setCell, h.size], fun k hk => by rw [Below.heap_setCell _ _ _ _ hk]; exact h.block k hk⟩
theorem Only.drew {b : Nat} {w w' : World} (h : Only b w w') : Only b w w'.drew := ⟨h.os, h.tape, h.output, h.size, h.block⟩
theorem Only.below {b B : Nat} {w0 w w' : World} (h : Only b w w') (hB : B ≤ b) (h0 : Below B w0 w) : Below B w0 w' :=
  ⟨h.os.trans h0.os, h.tape.trans h0.tape, h.output.trans h0.output, by rw [h.size]; exact h0.size, fun k hk => (h.block k (by omega)).trans (h0.block k hk)⟩

end Go.Proofs.Ytbbhjceelghadaa.My
