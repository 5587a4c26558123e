/- Parts of the proof, one behind the other: Base, Row, K0, SpB, SpG, SpC, CoP, CoA, CoB, SpF, SpY, SpL, SpN, CoC, Region, CoD, K34, CoE, CoF, CoG, CoY, CoH, CoI, J0. -/
import Derived.Test.YtjppookmjdaplaaQCoordOnce1
import Derived.Test.YtjppookmjdaplaaProg
import Derived.WalkSpells
import Derived.WalkLawsBesides
import Derived.RegionTactic
import Derived.ChangeAlike
import Derived.Lib.Hide
import Derived.Lib.SlBytesConst
import Derived.ProofKit
import Derived.OpenShut
import Derived.ShutString
import Derived.ChangeOld
import Derived.SizedLaws
import Derived.ChangeSlices
import Derived.Laws.StructEq
import Derived.RangeFuncNested
import Derived.RangeFuncBound
import Derived.RangeFuncCalls
import Derived.RangeFuncLeaves
import Derived.RangeFuncBox
import Derived.Shelf.Abstract
import Derived.Shelf.RegionOpen
import Derived.OwnWalkIn
import Derived.TacticsInMore
import Derived.LoopNIn
import Derived.LoopIn
import Derived.Lib.SliceRun
import Derived.Maps.OwnSet
import Derived.Maps.OwnOps
import Derived.Maps.RangeWalk
import Derived.Lib.SlKeysI
import Derived.Lib.SlMapFilter
import Derived.Shelf.SlIterI.Nil
import Derived.Shelf.SortM.Plain
import Derived.Shelf.SortM.SortNone
import Derived.Ground.GgzProg
import Derived.Ground.SlgmProg
import Derived.Test.YtjppookmjdaplaaChecked
import Derived.Laws.Build
import Derived.Shelf.SlMaps.DeleteFunc
import Derived.Ground.SlmdProg
set_option linter.unusedVariables false
set_option linter.unusedSimpArgs false
section
namespace Go.Proofs.Ytjppookmjdaplaa.My
open Go Go.RowKit Go.Proofs.YtjppookmjdaplaaW.PrintWords
/-- A byte in a cell. -/
def kb : Kd UInt8 := Kd.scalar (fun b => Value.int .u8 (b.toNat : Int)) (fun _ => rfl)
theorem pV {α : Type} (d : α) (l : List α) (k : Nat) (h : k < l.length) : l.take (k + 1) = l.take k ++ [l.getD k d] := by
  rw [List.take_succ_eq_append_getElem h, List.getD_eq_getElem?_getD, List.getElem?_eq_getElem h]; rfl
/-- The cells of a slice of slices of bytes. -/
def Cs (W : World) (cs : List Value) (ls : List (List UInt8)) : Prop :=
  cs.length = ls.length ∧ ∀ (i : Nat) (l : List UInt8), ls[i]? = some l → ∃ A c, cs[i]? = some (.slice A l.length c) ∧ l.length ≤ c ∧ kb.C W A l.length l
theorem Cs.cons {W : World} {cs : List Value} {ls : List (List UInt8)} {A : Option Addr} {c n : Nat} {l : List UInt8} (h : kb.C W A n l) (hc : n ≤ c) (hs : Cs W cs ls) : Cs W (.slice A n c :: cs) (l :: ls) := by
  have hn := h.1
  subst hn
  refine ⟨by simp [hs.1], fun i x hx => ?_⟩
  rcases i with _ | i
  · obtain rfl : l = x := by simpa using hx
    exact ⟨A, c, rfl, hc, h⟩
  · exact hs.2 i x (by simpa using hx)
theorem jD {W : World} {o : Obj} {b : Nat} (hb : b = W.heap.size) : (W.alloc o).heap[b]? = some o := by
  subst hb
  show (W.heap.push o)[W.heap.size]? = _
  simp
theorem zX {W : World} {o o' : Obj} {b : Nat} (h : W.heap[b]? = some o') : (W.alloc o).heap[b]? = some o' := by
  rw [Below.heap_alloc _ _ _ (jJ h)]
  exact h
theorem qK {W : World} {o : Obj} {b : Nat} (h : W.heap[b]? = some o) : W.drew.heap[b]? = some o := h
theorem iV {W W' : World} {o : Obj} {b : Nat} (hb : Below W.heap.size W W') (h : W.heap[b]? = some o) : W'.heap[b]? = some o := (hb.block b (jJ h)).trans h
/-- Bytes as a string. -/
def bs (l : List UInt8) : ByteArray := ⟨l.toArray⟩
theorem yP (l : List UInt8) : (bs l).data.toList = l := by simp [bs]
theorem zZ (l : List UInt8) : (bs l).toList = l := by rw [ByteArray.toList_eq, yP]
/-- 'Below', and what it gives the walk: the cells that there were. -/
theorem jI {W w1 : World} (hb : Below W.heap.size W w1) {a : Addr} {v : Value} (h : W.cell? a = some v) : w1.cell? a = some v := nT hb h
end Go.Proofs.Ytjppookmjdaplaa.My
end
section
namespace Go.Proofs.YtjppookmjdaplaaW.PrintMore
open Go Go.RowKit Go.Proofs.YtjppookmjdaplaaW.PrintWords Go.Proofs.YtjppookmjdaplaaW.PrintLast Go.Proofs.YtjppookmjdaplaaW.PrintMore
theorem bel_ {p : Prop} (h : p := by (with_reducible (repeat (first | exact Below.refl _ _ | apply iF | apply iP | apply iG | apply Go.Proofs.Ytjppookmjdaplaa.My.below_bytesWorld | (refine iH ?_ (by first | assumption | omega)) | refine iQ ?_ (by assumption))))) : p := h
theorem hb_ {p : Prop} (h : p := by repeat (first | (with_reducible first | exact HB.out | apply iF | apply iG | apply iL) | exact HB.out)) : p := h
theorem asm_ {p : Prop} (h : p := by first | (with_reducible assumption) | assumption) : p := h
theorem bk_ {p q : Prop} (h : p) (f : p → q := by intro h; (with_reducible repeat (first | refine iR ?_ _ | refine iU ?_ | refine iO ?_ _)); exact h) : q := f h
end Go.Proofs.YtjppookmjdaplaaW.PrintMore
end

section
namespace Go.Proofs.Ytjppookmjdaplaa.My
open Go Go.RowKit Go.Proofs.YtjppookmjdaplaaW.PrintWords
theorem own : ownKnob Try.prog.godebug = none := by kernel_rfl
theorem laidOut : laidOutB Try.prog = true := by kernel_rfl
theorem wf_u8 {n : Int} (h : (Lit.int .u8 n).wf = true) : 0 ≤ n ∧ n < 256 := by
  have := bounds_u8 h
  omega
theorem wf_u32 {n : Int} (h : (Lit.int .u32 n).wf = true) : 0 ≤ n ∧ n < 4294967296 := by
  have := bounds_u32 h
  omega
theorem wf_u16 {n : Int} (h : (Lit.int .u16 n).wf = true) : 0 ≤ n ∧ n < 65536 := by
  have := bounds_u16 h
  omega
end Go.Proofs.Ytjppookmjdaplaa.My
end

section
namespace Go.Proofs.Ytjppookmjdaplaa.K
open Go.RowKit Go.Proofs.YtjppookmjdaplaaW.PrintWords Go.Proofs.YtjppookmjdaplaaW.PrintLast Go.Proofs.YtjppookmjdaplaaW.PrintMore
attribute [local go_sem] jV kJ
def errW : Option Int → Value
  | none => .nilIface
  | some c => .iface 0 (.int .i64 c)
theorem jF : errW none = .nilIface := rfl
theorem jG (c : Int) : errW (some c) = .iface 0 (.int .i64 c) := rfl
theorem zK : (Try.prog.info? 96).map (fun i => (i.zero, i.size, i.bytes)) = some (some (.agg #[(.int .i64 0), (.int .i64 0)]), 2, 16) := by kernel_rfl
structure S96 where
  f0 : Int
  f1 : Int
def z96 : S96 := ⟨(0 : Int), (0 : Int)⟩
def k96 : Kd S96 := Kd.iso (Kd.pair (Kd.int .i64) (Kd.int .i64)) (fun x : S96 => (x.f0, x.f1))
theorem k96_open {w : World} {x : S96} {cs : List Value} (h : k96.K w x cs) : cs = [.int .i64 x.f0, .int .i64 x.f1] := by
  obtain ⟨_, _, rfl, rfl, rfl⟩ := h
  exact rfl
theorem k96_mkM (w : World) (base : Nat) (ok : Nat → Prop) (x : S96)  : k96.M w base ok x [.int .i64 x.f0, .int .i64 x.f1] := ⟨[.int .i64 x.f0], [.int .i64 x.f1], rfl, rfl, rfl⟩
def jC (xs : List S96) (i : Int) : S96 := xs.getD i.toNat z96
theorem jW {w : World} {A : Option Addr} {n : Nat} {xs : List S96} (h : Kd.C k96 w A n xs) (i : Int) (h0 : 0 ≤ i) (h1 : i < n) : ∃ ad , A = some ad ∧ w.cell? (ad.add (i.toNat * 2)) = some (.int .i64 (jC xs i).f0) ∧ w.cell? ⟨(ad.add (i.toNat * 2)).block, (ad.add (i.toNat * 2)).off + 1, none⟩ = some (.int .i64 (jC xs i).f1) := by
  obtain ⟨ad, c, e, _, hK, hc0⟩ := Kd.C_get h z96 i h0 h1
  have hc : ∀ j u, c[j]? = some u → w.cell? (ad.add (i.toNat * 2 + j)) = some u := hc0
  obtain rfl := k96_open hK
  exact ⟨ad, e, hc 0 _ rfl, by rw [← kT _ _ 1 (by omega)]; exact hc 1 _ rfl⟩
structure S91 where
  f0 : Int
  f1 : Int
  f2 : Int
def z91 : S91 := ⟨(0 : Int), (0 : Int), (0 : Int)⟩
def k91 : Kd S91 := Kd.iso (Kd.pair (Kd.int .u16) (Kd.pair (Kd.int .u16) (Kd.int .u8))) (fun x : S91 => (x.f0, x.f1, x.f2))
theorem IX {w : World} {x : S91} {cs : List Value} (h : k91.K w x cs) : cs = [.int .u16 x.f0, .int .u16 x.f1, .int .u8 x.f2] := by
  obtain ⟨_, _, rfl, rfl, ⟨_, _, rfl, rfl, rfl⟩⟩ := h
  exact rfl
def jB (xs : List S91) (i : Int) : S91 := xs.getD i.toNat z91
theorem qC {w : World} {A : Option Addr} {n : Nat} {xs : List S91} (h : Kd.C k91 w A n xs) (i : Int) (h0 : 0 ≤ i) (h1 : i < n) : ∃ ad , A = some ad ∧ w.cell? (ad.add (i.toNat * 3)) = some (.int .u16 (jB xs i).f0) ∧ w.cell? ⟨(ad.add (i.toNat * 3)).block, (ad.add (i.toNat * 3)).off + 1, none⟩ = some (.int .u16 (jB xs i).f1) ∧ w.cell? ⟨(ad.add (i.toNat * 3)).block, (ad.add (i.toNat * 3)).off + 2, none⟩ = some (.int .u8 (jB xs i).f2) := by
  obtain ⟨ad, c, e, _, hK, hc0⟩ := Kd.C_get h z91 i h0 h1
  have hc : ∀ j u, c[j]? = some u → w.cell? (ad.add (i.toNat * 3 + j)) = some u := hc0
  obtain rfl := IX hK
  exact ⟨ad, e, hc 0 _ rfl, by rw [← kT _ _ 1 (by omega)]; exact hc 1 _ rfl, by rw [← kT _ _ 2 (by omega)]; exact hc 2 _ rfl⟩
structure S103 where
  f0 : (List Int)
  f1 : Int
def z103 : S103 := ⟨([] : List Int), (0 : Int)⟩
def oQ (xs : List S103) (i : Int) : S103 := xs.getD i.toNat z103
end Go.Proofs.Ytjppookmjdaplaa.K
end

section
namespace Go.Proofs.Ytjppookmjdaplaa.K
open Go Go.RowKit Go.Proofs.YtjppookmjdaplaaW.PrintWords Go.Proofs.YtjppookmjdaplaaW.PrintLast Go.Proofs.YtjppookmjdaplaaW.PrintMore Go.Proofs.Ytjppookmjdaplaa.My
attribute [local go_sem] Oper.semAt_some
abbrev TSp := S96
abbrev rdSp (l : List TSp) (i : Int) : TSp := jC l i
end Go.Proofs.Ytjppookmjdaplaa.K
end

section
namespace Go.Proofs.Ytjppookmjdaplaa.K
open Go Go.RowKit Go.Proofs.YtjppookmjdaplaaW.PrintWords Go.Proofs.YtjppookmjdaplaaW.PrintLast Go.Proofs.YtjppookmjdaplaaW.PrintMore Go.Proofs.Ytjppookmjdaplaa.My
attribute [local go_sem] Oper.semAt_some
/-- The first m of xs, those side by side of one node as one. -/
def glN (xs : List TSp) : Nat → List TSp
  | 0 => []
  | m + 1 => if 0 < m ∧ (rdSp xs m).f1 = (rdSp xs ((m : Int) - 1)).f1 then glN xs m else glN xs m ++ [rdSp xs m]
theorem JC (xs : List TSp) (k : Nat) : rdSp xs (k : Int) = xs.getD k ⟨0, 0⟩ := rfl
theorem take_snoc (xs : List TSp) (k : Nat) (hk : k < xs.length) : xs.take (k + 1) = xs.take k ++ [rdSp xs k] := by
  rw [JC, List.getD_eq_getElem?_getD, List.getElem?_eq_getElem hk, List.take_add_one]
  simp [hk]
abbrev RSp (w : World) (base : Nat) (ad : Addr) (n cap : Nat) (xs : List TSp) : Prop := Kd.R k96 96 w base (fun _ => True) (.slice (some ad) n cap) xs
/-- The cells of a member. -/
theorem RSp.at {w : World} {base n cap : Nat} {ad : Addr} {xs : List TSp} (h : RSp w base ad n cap xs) (k : Nat) (hk : k < n) :
    w.cell? (ad.add (k * 2)) = some (.int .i64 (rdSp xs k).f0) ∧ w.cell? ⟨(ad.add (k * 2)).block, (ad.add (k * 2)).off + 1, none⟩ = some (.int .i64 (rdSp xs k).f1) := by
  have hn : n = xs.length := (Kd.R_reads' h).1
  obtain ⟨_, e1, h1, h2⟩ := jW (Kd.R_reads' h).2.2 (k : Int) (by omega) (by omega)
  cases e1
  exact ⟨h1, h2⟩
theorem RSp.len {w : World} {base n cap : Nat} {ad : Addr} {xs : List TSp} (h : RSp w base ad n cap xs) : n = xs.length := (Kd.R_reads' h).1
theorem RSp.cap {w : World} {base n cap : Nat} {ad : Addr} {xs : List TSp} (h : RSp w base ad n cap xs) : n ≤ cap := (Kd.R_reads' h).2.1
theorem RSp.base {w : World} {base n cap g : Nat} {ad : Addr} {xs : List TSp} (h : RSp w base ad n cap xs) (ha : ad = ⟨g, 0, none⟩) : base ≤ g := by
  subst ha
  exact Kd.R_base h g rfl
/-- Every old block but g stays. -/
def Fr (g : Nat) (W W' : World) : Prop := W.heap.size ≤ W'.heap.size ∧ ∀ k, k < W.heap.size → k ≠ g → W'.heap[k]? = W.heap[k]?
theorem Fr.trans {g : Nat} {A B C : World} (h : Fr g A B) (k : Fr g B C) : Fr g A C := ⟨Nat.le_trans h.1 k.1, fun j h1 h2 => (k.2 j (Nat.lt_of_lt_of_le h1 h.1) h2).trans (h.2 j h1 h2)⟩
theorem Fr.cells {g : Nat} {A B : World} (h : Fr g A B) (o : Nat) (vs : List Value) : Fr g A (B.setCells g o vs) := h.trans ⟨Nat.le_of_eq (lQ g vs o B).2.2.2.symm, fun j _ h2 => lZ vs o j h2⟩
/-- The row's block. -/
theorem RSp.row {w : World} {base n cap g : Nat} {xs : List TSp} (h : RSp w base ⟨g, 0, none⟩ n cap xs) : ∃ cur, w.heap[g]? = some (.cells cur 96 (0, 0)) ∧ cur.size = cap * 2 := by
  obtain ⟨_, inner, ⟨_, ho⟩, _⟩ := h
  rcases ho with ⟨he, _⟩ | ⟨g', cap', cur, he, _, hh, _, _, hs, _⟩
  · cases he
  · cases he
    exact ⟨cur, hh, hs⟩
end Go.Proofs.Ytjppookmjdaplaa.K
end

section
namespace Go.Proofs.Ytjppookmjdaplaa.K
open Go Go.RowKit Go.Proofs.YtjppookmjdaplaaW.PrintWords Go.Proofs.YtjppookmjdaplaaW.PrintLast Go.Proofs.YtjppookmjdaplaaW.PrintMore Go.Proofs.Ytjppookmjdaplaa.My
abbrev ki : Kd Int := Kd.int .i64
theorem zH : (Try.prog.info? 3).map (fun i => (i.zero, i.size, i.bytes)) = some (some (.int .i64 0), ki.sz, 8) := by kernel_rfl
theorem OI.empty (w : World) : ki.R 3 (w.alloc (.cells #[] 3)) w.heap.size (fun _ => True) (.slice (some ⟨w.heap.size, 0, none⟩) 0 0) [] := by
  refine Kd.R_of_own ?_ (fun _ _ => trivial)
  have h := World.ownsRow_lit (base := w.heap.size) (e := 3) (size := 1) w #[] 0 (Nat.le_refl _) (by simp) (by simp)
  simpa [encs] using h
theorem LM {w : World} {n : Nat} {l : List Int} (h : ki.C w none n l) : l = [] ∧ n = 0 := by
  have h1 := h.1
  rcases Nat.eq_zero_or_pos n with h0 | h0
  · subst h0; exact ⟨List.length_eq_zero_iff.1 h1, rfl⟩
  · obtain ⟨ad, e, _⟩ := h.2.2 h0; cases e
def slices_Clone_int_int.f (l : List Int) : Option (List Int) := if (l.length : Int) ≤ 17592186044416 then some l else none
set_option maxHeartbeats 1000000 in
theorem slices_Clone_int_int.calls (A : Option Addr) (c : Nat) (l r : List Int) (w : World) (hr : ki.C w A l.length l) (hc : l.length ≤ c) (h : slices_Clone_int_int.f l = some r) :
    Calls Try.prog 55 #[.slice A l.length c] w fun e w' => ∃ v0_, e = .returned v0_ ∧ (Kd.int .i64).R 3 w' w.heap.size (fun _ => True) v0_ r ∧ Below w.heap.size w w' := by
  have hs : (l.length : Int) ≤ 17592186044416 := by
    unfold slices_Clone_int_int.f at h; split at h
    · assumption
    · cases h
  have hlr : l = r := by
    unfold slices_Clone_int_int.f at h; rw [if_pos hs] at h; exact Option.some.inj h
  subst hlr
  clear h
  have hnil := fun (w : World) (a : Option Addr) (n c : Nat) => Lib.run_eql_slice_nil (P := Try.prog) w 25 3 a n c 0 0 Try.underlying25
  cases A with
  | none =>
    obtain ⟨rfl, _⟩ := LM hr
    go_enter Try.func55, Try.ntmps55
    go_wp2
    go_ret
    exact ⟨_, rfl, Kd.R_nil _ _ _ _ _, Below.refl _ _⟩
  | some ad =>
    have HL := iC.mk hr
    clear hr
    go_enter Try.func55, Try.ntmps55
    go_wp2_with (at_builtin; refine Kd.R_append_rows ki (w0 := w) w.heap.size rfl (.tmp 5) (.tmp 6) 25 3 (.int .i64 0) 8 rfl Try.underlying25 zH rfl (by decide) (by omega) (.slice (some ⟨w.heap.size, 0, none⟩) 0 0) [] l _ _ _ (fun _ => True) (fun _ => False) rfl rfl (OI.empty w) ?aR (fun _ _ h => h) (fun _ h => h.elim) (fun _ _ => trivial) ?aB ?aS ?aL ?_; (case aR => exact Kd.C_below HL.out (by (repeat (first | exact Below.refl _ _ | apply iF | apply iP | apply iG | apply below_bytesWorld | (refine iH ?_ (by first | assumption | omega)) | refine iQ ?_ (by assumption))))); (case aB => (repeat (first | exact Below.refl _ _ | apply iF | apply iP | apply iG | apply below_bytesWorld | (refine iH ?_ (by first | assumption | omega)) | refine iQ ?_ (by assumption)))); (case aS => exact iW (by (repeat (first | exact Below.refl _ _ | apply iF | apply iP | apply iG | apply below_bytesWorld | (refine iH ?_ (by first | assumption | omega)) | refine iQ ?_ (by assumption))))); (case aL => simp; omega); intro v1 w2 HO HB hg hat)
    go_ret
    exact ⟨_, rfl, HO, HB⟩
def spans_glued.f (xs : List TSp) : Option (List TSp) := if (xs.length : Int) ≤ 8796093022208 then some (glN xs xs.length) else none
end Go.Proofs.Ytjppookmjdaplaa.K
end

section
namespace Go.Proofs.Ytjppookmjdaplaa.K
open Go Go.RowKit Go.Proofs.YtjppookmjdaplaaW.PrintWords Go.Proofs.YtjppookmjdaplaaW.PrintLast Go.Proofs.YtjppookmjdaplaaW.PrintMore Go.Proofs.Ytjppookmjdaplaa.My
/-- A batch: state, time, nodes, who has said so, ended. -/
structure CB where
  st : Int
  at_ : Int
  nodes : List Int
  said : List Int
  ended : Bool
def CB.lacks (b : CB) : List Int := b.nodes.filter fun x => decide (x ∉ b.said)
def CB.say (b : CB) (n : Int) : CB := if n ∈ b.nodes ∧ n ∉ b.said then ⟨b.st, b.at_, b.nodes, b.said ++ [n], b.ended⟩ else b
def CB.all (b : CB) : Bool := b.lacks.isEmpty
def CB.end_ (b : CB) : CB := ⟨b.st, b.at_, b.nodes, b.said, true⟩
theorem CB.say_st (b : CB) (n : Int) : (b.say n).st = b.st := by unfold CB.say; split <;> rfl
theorem CB.say_at (b : CB) (n : Int) : (b.say n).at_ = b.at_ := by unfold CB.say; split <;> rfl
theorem CB.say_nodes (b : CB) (n : Int) : (b.say n).nodes = b.nodes := by unfold CB.say; split <;> rfl
theorem CB.say_ended (b : CB) (n : Int) : (b.say n).ended = b.ended := by unfold CB.say; split <;> rfl
theorem CB.mem_lacks (b : CB) (x : Int) : x ∈ b.lacks ↔ x ∈ b.nodes ∧ x ∉ b.said := by simp [CB.lacks]
theorem CB.say_lacks (b : CB) (n x : Int) : x ∈ (b.say n).lacks ↔ x ∈ b.lacks ∧ x ≠ n := by
  rw [CB.mem_lacks, CB.mem_lacks, CB.say_nodes]
  unfold CB.say
  split
  · simp only [List.mem_append, List.mem_singleton, not_or]
    constructor
    · rintro ⟨h1, h2, h3⟩; exact ⟨⟨h1, h2⟩, h3⟩
    · rintro ⟨⟨h1, h2⟩, h3⟩; exact ⟨h1, h2, h3⟩
  · rename_i h
    constructor
    · rintro ⟨h1, h2⟩; exact ⟨⟨h1, h2⟩, fun e => h (e ▸ ⟨h1, h2⟩)⟩
    · exact fun h1 => h1.1
/-- The batch of a number. -/
def getB : List (Int × CB) → Int → Option CB
  | [], _ => none
  | p :: l, id => if p.1 = id then some p.2 else getB l id
def cutB (l : List (Int × CB)) (id : Int) : List (Int × CB) := l.filter fun p => decide (p.1 ≠ id)
def setB (l : List (Int × CB)) (id : Int) (b : CB) : List (Int × CB) := l.map fun p => if p.1 = id then (id, b) else p
theorem nC (l m : List (Int × CB)) (id : Int) : getB (l ++ m) id = match getB l id with | some b => some b | none => getB m id := by
  induction l with
  | nil => rfl
  | cons p r ih => simp only [List.cons_append, getB]; split <;> simp_all
theorem lS (l : List (Int × CB)) (i id : Int) : getB (cutB l i) id = if id = i then none else getB l id := by
  induction l with
  | nil => simp [cutB, getB]
  | cons p r ih =>
    unfold cutB at ih ⊢
    rw [List.filter_cons]
    by_cases h : p.1 = i
    · rw [if_neg (by simp [h]), ih, getB]
      by_cases h2 : id = i
      · simp [h2]
      · rw [if_neg h2, if_neg h2, if_neg (by rw [h]; exact Ne.symm h2)]
    · rw [if_pos (by simp [h]), getB, getB, ih]
      by_cases h2 : p.1 = id
      · rw [if_pos h2, if_pos h2, if_neg (by rw [← h2]; exact h)]
      · rw [if_neg h2, if_neg h2]
theorem qV (l : List (Int × CB)) (i id : Int) (b : CB) : getB (setB l i b) id = if id = i then (getB l i).map (fun _ => b) else getB l id := by
  induction l with
  | nil => simp [setB, getB]
  | cons p r ih =>
    unfold setB at ih ⊢
    rw [List.map_cons]
    by_cases h : p.1 = i
    · simp only [h, getB, if_true, ih]
      by_cases h2 : id = i
      · subst h2; simp
      · rw [if_neg (Ne.symm h2), if_neg h2, if_neg (Ne.symm h2), if_neg h2]
    · simp only [h, getB, if_false, ih]
      by_cases h2 : p.1 = id
      · rw [if_pos h2, if_neg (by rw [← h2]; exact h), if_pos h2]
      · rw [if_neg h2, if_neg h2]
def keysB (l : List (Int × CB)) : List Int := l.map (·.1)
theorem vT {l : List (Int × CB)} {id : Int} {b : CB} (h : getB l id = some b) : (id, b) ∈ l := by
  induction l with
  | nil => cases h
  | cons p r ih =>
    rw [getB] at h
    split at h
    · rename_i e; cases h; subst e; exact List.mem_cons_self
    · exact List.mem_cons_of_mem _ (ih h)
theorem nM {l : List (Int × CB)} {id : Int} : getB l id = none ↔ id ∉ keysB l := by
  induction l with
  | nil => simp [getB, keysB]
  | cons p r ih =>
    rw [getB]
    by_cases h : p.1 = id
    · simp [h, keysB]
    · rw [if_neg h, ih]; simp [keysB, Ne.symm h]
theorem nD {l : List (Int × CB)} (hn : (keysB l).Nodup) (f : CB → Bool) (id : Int) : getB (l.filter fun p => f p.2) id = (getB l id).filter f := by
  induction l with
  | nil => rfl
  | cons p r ih =>
    have hn' := List.nodup_cons.1 (show (p.1 :: keysB r).Nodup from hn)
    rw [List.filter_cons, getB]
    by_cases h : p.1 = id
    · rw [if_pos h]
      cases hf : f p.2
      · rw [if_neg (by simp), ih hn'.2, nM.2 (by rw [← h]; exact hn'.1)]
        simp [Option.filter, hf]
      · rw [if_pos rfl, getB, if_pos h]; simp [Option.filter, hf]
    · rw [if_neg h, ← ih hn'.2]
      split
      · rw [getB, if_neg h]
      · rfl
theorem IM (l : List (Int × CB)) (i : Int) (b : CB) : keysB (setB l i b) = keysB l := by
  unfold keysB setB
  rw [List.map_map]
  apply List.map_congr_left
  intro p _
  simp only [Function.comp]
  split <;> simp_all
theorem J3 {l : List (Int × CB)} (hn : (keysB l).Nodup) {i : Int} (hi : getB l i = none) (b : CB) : (keysB (l ++ [(i, b)])).Nodup := by
  unfold keysB at *
  rw [List.map_append, List.nodup_append]
  refine ⟨hn, by simp, ?_⟩
  intro a ha c hc e
  simp at hc
  subst e
  exact nM.1 hi (by rw [← hc]; exact ha)
/-- May nodes be? -/
def lK : Int → List Int → Bool
  | last, [] => decide (0 ≤ last)
  | last, n :: r => decide (last < n) && decide (n < 6) && lK n r
def kW (l : List Int) : Bool := lK (-1) l
/-- Nodes that may be a batch's: rising, 0 to 5. -/
structure Rt (l : List Int) : Prop where
  rng : ∀ x ∈ l, 0 ≤ x ∧ x < 6
  asc : l.Pairwise (· < ·)
theorem rO : ∀ (l : List Int) (last : Int), -1 ≤ last → lK last l = true → (∀ x ∈ l, last < x ∧ x < 6) ∧ l.Pairwise (· < ·)
  | [], last, _, _ => ⟨fun x h => (by cases h), List.Pairwise.nil⟩
  | n :: r, last, hl, h => by
    simp only [lK, Bool.and_eq_true, decide_eq_true_eq] at h
    obtain ⟨h1, h2⟩ := rO r n (by omega) h.2
    refine ⟨fun x hx => ?_, List.pairwise_cons.2 ⟨fun x hx => (h1 x hx).1, h2⟩⟩
    rcases List.mem_cons.1 hx with rfl | hx'
    · exact h.1
    · have := h1 x hx'; omega
theorem l9 {l : List Int} (h : kW l = true) : Rt l := by
  obtain ⟨h1, h2⟩ := rO l (-1) (by omega) h
  exact ⟨fun x hx => by have := h1 x hx; omega, h2⟩
theorem JH : Rt [] := ⟨fun x h => (by cases h), List.Pairwise.nil⟩
theorem Rt.nodup {l : List Int} (h : Rt l) : l.Nodup := h.asc.imp (fun h => by omega)
theorem yR : ∀ (l : List Int) (a : Int), (∀ x ∈ l, a ≤ x ∧ x < 6) → l.Pairwise (· < ·) → (l.length : Int) ≤ 6 - a ∨ l = []
  | [], _, _, _ => .inr rfl
  | n :: r, a, h1, h2 => by
    obtain ⟨h3, h4⟩ := List.pairwise_cons.1 h2
    have hn := h1 n List.mem_cons_self
    rcases yR r (n + 1) (fun x hx => ⟨by have := h3 x hx; omega, (h1 x (List.mem_cons_of_mem _ hx)).2⟩) h4 with h | rfl
    · left; simp only [List.length_cons]; omega
    · left; simp; omega
theorem Rt.len {l : List Int} (h : Rt l) : l.length ≤ 6 := by
  rcases yR l 0 h.rng h.asc with h1 | rfl
  · omega
  · simp
/-- All that it knows. -/
structure CS where
  L : List (Int × CB)
  last : Int
  starts : Int
  begun : Int
  ep : Int
  sp : List TSp
def CS.new : CS := ⟨[], 0, 0, 0, 1, [⟨0, 0⟩]⟩
def CS.inn (s : CS) (id st : Int) : Option CB := (getB s.L id).filter fun b => decide (b.st = st)
def CS.beginId (s : CS) (l : List Int) : Int × Int :=
  if kW l = false then (0, 1) else if 900 ≤ s.begun then (0, 3) else if (getB s.L (s.starts * 1000 + (s.begun + 1))).isSome then (0, 140) else (s.starts * 1000 + (s.begun + 1), 0)
def CS.begin_ (s : CS) (l : List Int) : CS :=
  if kW l = false then s else if 900 ≤ s.begun then s else if (getB s.L (s.starts * 1000 + (s.begun + 1))).isSome then ⟨s.L, s.last, s.starts, s.begun + 1, s.ep, s.sp⟩
  else ⟨s.L ++ [(s.starts * 1000 + (s.begun + 1), ⟨1, 0, l, [], false⟩)], s.last, s.starts, s.begun + 1, s.ep, s.sp⟩
def CS.withL (s : CS) (L : List (Int × CB)) : CS := ⟨L, s.last, s.starts, s.begun, s.ep, s.sp⟩
def CS.sayE (s : CS) (o : Option CB) (n : Int) : Bool := match o with | none => false | some b => (b.say n).all
def CS.say (s : CS) (o : Option CB) (id n : Int) : CS := match o with | none => s | some b => s.withL (setB s.L id (b.say n))
def CS.voteE (s : CS) (id n : Int) : Bool := s.sayE (s.inn id 1) n
def CS.vote (s : CS) (id n : Int) : CS := s.say (s.inn id 1) id n
def CS.owe (s : CS) (id : Int) : Option CB := (s.inn id 2).filter fun b => !b.ended
def CS.doneE (s : CS) (id n : Int) : Bool := s.sayE (s.owe id) n
def CS.done (s : CS) (id n : Int) : CS := s.say (s.owe id) id n
def CS.dropE (s : CS) (id : Int) : Bool := (s.inn id 1).isSome
def CS.drop (s : CS) (id : Int) : CS := if (s.inn id 1).isSome then s.withL (cutB s.L id) else s
def CS.commitE (s : CS) (id t : Int) : Int := if (s.inn id 2).isSome then 140 else if t ≤ s.last then 130 else 0
def CS.commit (s : CS) (id t : Int) (l : List Int) : CS :=
  if (s.inn id 2).isSome then s else if t ≤ s.last then s else ⟨cutB s.L id ++ [(id, ⟨2, t, l, [], false⟩)], t, s.starts, s.begun, s.ep, s.sp⟩
def CS.startE (s : CS) (id : Int) : Int := if id ≤ s.starts ∨ 1000 < id then 140 else 0
def CS.start (s : CS) (id : Int) : CS := if id ≤ s.starts ∨ 1000 < id then s else ⟨s.L.filter fun p => decide (p.2.st ≠ 1), s.last, id, 0, s.ep, s.sp⟩
def CS.endE (s : CS) (id : Int) : Int := if (s.inn id 2).isSome then 0 else 140
def CS.end_ (s : CS) (id : Int) : CS := match s.inn id 2 with | none => s | some b => s.withL (setB s.L id b.end_)
def CS.mapE (s : CS) (e : Int) : Int := if e = (s.ep + 1) % 4294967296 then 0 else 120
def CS.map_ (s : CS) (e : Int) (sp : List TSp) : CS := if e = (s.ep + 1) % 4294967296 then ⟨s.L, s.last, s.starts, s.begun, e, sp⟩ else s
def CS.status (s : CS) (id : Int) : Int × Int := match getB s.L id with | some b => (b.st, b.at_) | none => (3, 0)
def CS.nodes (s : CS) (id : Int) : List Int := match getB s.L id with | some b => b.nodes | none => []
def CS.lacks (s : CS) (id : Int) : List Int := match getB s.L id with | some b => if b.ended then [] else b.lacks | none => []
/-- What always holds of it. -/
structure CS.Ok (s : CS) : Prop where
  nd : (keysB s.L).Nodup
  key : ∀ p ∈ s.L, 0 ≤ p.1 ∧ p.1 < 4294967296
  bat : ∀ p ∈ s.L, (0 ≤ p.2.st ∧ p.2.st < 256) ∧ (0 ≤ p.2.at_ ∧ p.2.at_ < 4294967296) ∧ Rt p.2.nodes
  last : 0 ≤ s.last ∧ s.last < 4294967296
  starts : 0 ≤ s.starts ∧ s.starts ≤ 1000
  begun : 0 ≤ s.begun ∧ s.begun ≤ 900
  ep : 0 ≤ s.ep ∧ s.ep < 4294967296
  spl : s.sp.length ≤ 1000
theorem CS.new_ok : CS.new.Ok := ⟨by simp [CS.new, keysB], fun _ h => (by cases h), fun _ h => (by cases h), by decide, by decide, by decide, by decide, by decide⟩
theorem CS.inn_get {s : CS} {id st : Int} {b : CB} (h : s.inn id st = some b) : getB s.L id = some b ∧ b.st = st := by
  unfold CS.inn at h
  cases hg : getB s.L id with
  | none => rw [hg] at h; cases h
  | some c =>
    rw [hg] at h
    by_cases hc : c.st = st
    · simp [Option.filter, hc] at h; subst h; exact ⟨rfl, hc⟩
    · simp [Option.filter, hc] at h
theorem IJ {l : List (Int × CB)} {i : Int} {b : CB} {p : Int × CB} (h : p ∈ setB l i b) : p ∈ l ∨ (p = (i, b) ∧ i ∈ keysB l) := by
  unfold setB at h
  obtain ⟨q, hq, rfl⟩ := List.mem_map.1 h
  split
  · rename_i e; exact .inr ⟨rfl, List.mem_map.2 ⟨q, hq, e⟩⟩
  · exact .inl hq
theorem CS.Ok.withL {s : CS} (h : s.Ok) {L : List (Int × CB)} (nd : (keysB L).Nodup) (key : ∀ p ∈ L, 0 ≤ p.1 ∧ p.1 < 4294967296) (bat : ∀ p ∈ L, (0 ≤ p.2.st ∧ p.2.st < 256) ∧ (0 ≤ p.2.at_ ∧ p.2.at_ < 4294967296) ∧ Rt p.2.nodes) : (s.withL L).Ok :=
  ⟨nd, key, bat, h.last, h.starts, h.begun, h.ep, h.spl⟩
theorem CS.Ok.set {s : CS} (h : s.Ok) {id : Int} {b c : CB} (hb : getB s.L id = some b) (h1 : c.st = b.st) (h2 : c.at_ = b.at_) (h3 : c.nodes = b.nodes) : (s.withL (setB s.L id c)).Ok := by
  have hm := vT hb
  refine h.withL (by rw [IM]; exact h.nd) (fun p hp => ?_) (fun p hp => ?_)
  · rcases IJ hp with hp | ⟨rfl, _⟩
    · exact h.key p hp
    · exact h.key (id, b) hm
  · rcases IJ hp with hp | ⟨rfl, _⟩
    · exact h.bat p hp
    · have := h.bat _ hm
      show (0 ≤ c.st ∧ c.st < 256) ∧ (0 ≤ c.at_ ∧ c.at_ < 4294967296) ∧ Rt c.nodes
      rw [h1, h2, h3]; exact this
theorem CS.Ok.say {s : CS} (h : s.Ok) {o : Option CB} {id n : Int} (ho : ∀ b, o = some b → getB s.L id = some b) : (s.say o id n).Ok := by
  unfold CS.say
  split
  · exact h
  · rename_i b
    exact h.set (ho b rfl) (b.say_st n) (b.say_at n) (b.say_nodes n)
theorem CS.owe_get {s : CS} {id : Int} {b : CB} (h : s.owe id = some b) : getB s.L id = some b ∧ b.st = 2 ∧ b.ended = false := by
  unfold CS.owe at h
  cases hg : s.inn id 2 with
  | none => rw [hg] at h; cases h
  | some c =>
    rw [hg] at h
    cases hc : c.ended
    · simp [Option.filter, hc] at h; subst h; exact ⟨(CS.inn_get hg).1, (CS.inn_get hg).2, hc⟩
    · simp [Option.filter, hc] at h
theorem CS.Ok.vote {s : CS} (h : s.Ok) (id n : Int) : (s.vote id n).Ok := h.say fun _ hb => (CS.inn_get hb).1
theorem CS.Ok.done {s : CS} (h : s.Ok) (id n : Int) : (s.done id n).Ok := h.say fun _ hb => (CS.owe_get hb).1
theorem CS.Ok.sub {s : CS} (h : s.Ok) {L : List (Int × CB)} (hs : L.Sublist s.L) : (s.withL L).Ok :=
  h.withL (h.nd.sublist (List.Sublist.map _ hs)) (fun p hp => h.key p (hs.subset hp)) (fun p hp => h.bat p (hs.subset hp))
theorem CS.Ok.drop {s : CS} (h : s.Ok) (id : Int) : (s.drop id).Ok := by
  unfold CS.drop; split
  · exact h.sub List.filter_sublist
  · exact h
theorem CS.Ok.end_ {s : CS} (h : s.Ok) (id : Int) : (s.end_ id).Ok := by
  unfold CS.end_; split
  · exact h
  · rename_i b hb; exact h.set (CS.inn_get hb).1 rfl rfl rfl
theorem CS.Ok.start {s : CS} (h : s.Ok) {id : Int} (h0 : 0 ≤ id) : (s.start id).Ok := by
  unfold CS.start; split
  · exact h
  · have hs : (s.L.filter fun p => decide (p.2.st ≠ 1)).Sublist s.L := List.filter_sublist
    exact ⟨h.nd.sublist (List.Sublist.map _ hs), fun p hp => h.key p (hs.subset hp), fun p hp => h.bat p (hs.subset hp), h.last, by show 0 ≤ id ∧ id ≤ 1000; omega, by show (0 : Int) ≤ 0 ∧ (0 : Int) ≤ 900; omega, h.ep, h.spl⟩
theorem CS.Ok.map_ {s : CS} (h : s.Ok) {e : Int} (he : 0 ≤ e ∧ e < 4294967296) {sp : List TSp} (hs : sp.length ≤ 1000) : (s.map_ e sp).Ok := by
  unfold CS.map_; split
  · exact ⟨h.nd, h.key, h.bat, h.last, h.starts, h.begun, he, hs⟩
  · exact h
theorem CS.Ok.add {s : CS} (h : s.Ok) {L : List (Int × CB)} (hs : L.Sublist s.L) {id : Int} {b : CB} (hi : getB L id = none) (hid : 0 ≤ id ∧ id < 4294967296) (hb : (0 ≤ b.st ∧ b.st < 256) ∧ (0 ≤ b.at_ ∧ b.at_ < 4294967296) ∧ Rt b.nodes) : (s.withL (L ++ [(id, b)])).Ok := by
  have h1 := h.sub hs
  refine h.withL (J3 h1.nd hi b) (fun p hp => ?_) (fun p hp => ?_)
  · rcases List.mem_append.1 hp with hp | hp
    · exact h1.key p hp
    · obtain rfl := List.mem_singleton.1 hp; exact hid
  · rcases List.mem_append.1 hp with hp | hp
    · exact h1.bat p hp
    · obtain rfl := List.mem_singleton.1 hp; exact hb
theorem CS.Ok.commit {s : CS} (h : s.Ok) {id t : Int} {l : List Int} (hid : 0 ≤ id ∧ id < 4294967296) (ht : 0 ≤ t ∧ t < 4294967296) (hl : Rt l) : (s.commit id t l).Ok := by
  unfold CS.commit; split
  · exact h
  · split
    · exact h
    · have := h.add (L := cutB s.L id) List.filter_sublist (id := id) (b := ⟨2, t, l, [], false⟩) (by rw [lS, if_pos rfl]) hid ⟨by show (0 : Int) ≤ 2 ∧ (2 : Int) < 256; omega, ht, hl⟩
      exact ⟨this.nd, this.key, this.bat, ht, h.starts, h.begun, h.ep, h.spl⟩
theorem CS.Ok.begin_ {s : CS} (h : s.Ok) (l : List Int) : (s.begin_ l).Ok := by
  have h1 := h.starts
  have h2 := h.begun
  unfold CS.begin_
  split
  · exact h
  · rename_i hr
    split
    · exact h
    · rename_i h9
      split
      · exact ⟨h.nd, h.key, h.bat, h.last, h.starts, by show 0 ≤ s.begun + 1 ∧ s.begun + 1 ≤ 900; omega, h.ep, h.spl⟩
      · rename_i hg
        have := h.add (L := s.L) (List.Sublist.refl _) (id := s.starts * 1000 + (s.begun + 1)) (b := ⟨1, 0, l, [], false⟩) (by simpa using hg) (by omega) ⟨by show (0 : Int) ≤ 1 ∧ (1 : Int) < 256; omega, by show (0 : Int) ≤ 0 ∧ (0 : Int) < 4294967296; omega, l9 (by simpa using hr)⟩
        exact ⟨this.nd, this.key, this.bat, h.last, h.starts, by show 0 ≤ s.begun + 1 ∧ s.begun + 1 ≤ 900; omega, h.ep, h.spl⟩
end Go.Proofs.Ytjppookmjdaplaa.K
end

section
namespace Go.Proofs.Ytjppookmjdaplaa.K
open Go Go.RowKit Go.Maps Go.Proofs.YtjppookmjdaplaaW.PrintWords Go.Proofs.YtjppookmjdaplaaW.PrintLast Go.Proofs.YtjppookmjdaplaaW.PrintMore Go.Proofs.Ytjppookmjdaplaa.My
open Go.WideElems (Fit rd rg rd_key rd_val rg_of)
/-- How a pointer reads. -/
def RP : Value → Option (DataW Nat × List MemPlace)
  | .pointer none => some (.map [], [])
  | .pointer (some ⟨p, 0, none⟩) => some (.lit (.int .i64 (p : Int)), [])
  | _ => none
theorem zM {v : Value} {p : Nat} {ps : List MemPlace} (h : RP v = some (.lit (.int .i64 (p : Int)), ps)) : v = .pointer (some ⟨p, 0, none⟩) := by
  unfold RP at h
  split at h
  · cases h
  · simp only [Option.some.injEq, Prod.mk.injEq, DataW.lit.injEq, Lit.int.injEq, true_and] at h
    have := h.1
    rename_i q
    obtain rfl : q = p := by omega
    rfl
  · cases h
theorem LQ {v : Value} {ps : List MemPlace} (h : RP v = some (.map [], ps)) : v = .pointer none := by
  unfold RP at h
  split at h
  · rfl
  · cases h
  · cases h
theorem JF : Keyed Try.prog 3 := int_keyed Try.underlying3
theorem qL : Keyed Try.prog 28 := int_keyed Try.underlying28
theorem keyI (x : Int) : WideAt.IsKeyLit (.int .i64 x) := by simp [WideAt.IsKeyLit]
theorem keyU (x : Int) : WideAt.IsKeyLit (.int .u32 x) := by simp [WideAt.IsKeyLit]
abbrev OM (w : World) (b n : Nat) (D : DataW Nat) : Prop := w.ownsMap Try.prog 3 (plainElem Try.prog 3) b n D
abbrev UM (w : World) (b n : Nat) (D : DataW Nat) : Prop := w.ownsMap Try.prog 28 RP b n D
/-- The map's keys are numbers. -/
def KI (D : DataW Nat) : Prop := ∃ es, D = .map es ∧ es.Pairwise (fun p q => p.1 ≠ q.1) ∧ ∀ p ∈ es, ∃ x, p.1 = .int .i64 x
def KU (D : DataW Nat) : Prop := ∃ es, D = .map es ∧ es.Pairwise (fun p q => p.1 ≠ q.1) ∧ ∀ p ∈ es, ∃ x, p.1 = .int .u32 x
theorem KI.isMap {D : DataW Nat} (h : KI D) : IsMap D := by obtain ⟨es, rfl, _⟩ := h; exact ⟨es, rfl⟩
theorem KU.isMap {D : DataW Nat} (h : KU D) : IsMap D := by obtain ⟨es, rfl, _⟩ := h; exact ⟨es, rfl⟩
theorem vW {es : List (Lit × DataW Nat)} (P : Lit → Prop) (h1 : es.Pairwise (fun p q => p.1 ≠ q.1)) (h2 : ∀ p ∈ es, P p.1) {k : Lit} (hk : WideAt.IsKeyLit k) (hP : P k) (d : DataW Nat) :
    ∃ es', (DataW.map es : DataW Nat).put k d = .map es' ∧ es'.Pairwise (fun p q => p.1 ≠ q.1) ∧ ∀ p ∈ es', P p.1 := by
  obtain ⟨es', he, h3⟩ := (show Tidy (.map es : DataW Nat) from ⟨es, rfl, h1⟩).put hk d
  refine ⟨es', he, h3, fun p hp => ?_⟩
  have he' : (DataW.map es : DataW Nat).put k d = .map (DataW.insert (k, d) (es.filter fun p => !p.1.sameKey k)) := rfl
  rw [he'] at he
  cases he
  have := (WideShapes.insert_perm _ _).mem_iff.1 hp
  rcases List.mem_cons.1 this with rfl | hm
  · exact hP
  · exact h2 p (List.mem_filter.1 hm).1
theorem KI.put {D : DataW Nat} (h : KI D) (x : Int) (d : DataW Nat) : KI (D.put (.int .i64 x) d) := by
  obtain ⟨es, rfl, h1, h2⟩ := h
  obtain ⟨es', he, h3, h4⟩ := vW (fun k => ∃ x, k = .int .i64 x) h1 h2 (keyI x) ⟨x, rfl⟩ d
  exact ⟨es', he, h3, h4⟩
theorem KU.put {D : DataW Nat} (h : KU D) (x : Int) (d : DataW Nat) : KU (D.put (.int .u32 x) d) := by
  obtain ⟨es, rfl, h1, h2⟩ := h
  obtain ⟨es', he, h3, h4⟩ := vW (fun k => ∃ x, k = .int .u32 x) h1 h2 (keyU x) ⟨x, rfl⟩ d
  exact ⟨es', he, h3, h4⟩
theorem KI.del {D : DataW Nat} (h : KI D) (k : Lit) : KI (D.del k) := by
  obtain ⟨es, rfl, h1, h2⟩ := h
  exact ⟨_, rfl, h1.filter _, fun p hp => h2 p (List.mem_filter.1 hp).1⟩
theorem KU.del {D : DataW Nat} (h : KU D) (k : Lit) : KU (D.del k) := by
  obtain ⟨es, rfl, h1, h2⟩ := h
  exact ⟨_, rfl, h1.filter _, fun p hp => h2 p (List.mem_filter.1 hp).1⟩
theorem KI.nil : KI (.map []) := ⟨[], rfl, List.Pairwise.nil, by simp⟩
theorem KU.nil : KU (.map []) := ⟨[], rfl, List.Pairwise.nil, by simp⟩
/-- No keys, no size. -/
theorem KI.size0 {D : DataW Nat} (h : KI D) : Maps.size D = 0 ↔ ∀ x : Int, has D (.int .i64 x) = false := by
  obtain ⟨es, rfl, h1, h2⟩ := h
  constructor
  · intro h3 x
    obtain rfl : es = [] := List.length_eq_zero_iff.1 (by simpa [Maps.size] using h3)
    rfl
  · intro h3
    cases es with
    | nil => rfl
    | cons p r =>
      obtain ⟨x, hx⟩ := h2 p List.mem_cons_self
      have := h3 x
      rw [Maps.has, List.any_cons, hx, WideAt.sameKey_self (keyI x)] at this
      cases this
theorem lG {k : TypeId} {R : Value → Option (DataW Nat × List MemPlace)} {w w' : World} {b n : Nat} {D : DataW Nat} (h : w.ownsMap Try.prog k R b n D) (hb : w'.heap[b]? = w.heap[b]?) : w'.ownsMap Try.prog k R b n D := by
  obtain ⟨es, clock, h1, r⟩ := h
  exact ⟨es, clock, hb.trans h1, r⟩
variable {Z : Nat}
/-- A row of ints that stays. -/
theorem kZ {α : Type} {d : Kd α} {e B : Nat} {ok : Nat → Prop} {w w' : World} {v : Value} {l : List α} (h : d.R e w B ok v l) (hm : ∀ (k : Nat) (q : TypeId) (cs : Array Value), q ∈ e :: d.E → w.heap[k]? = some (Obj.cells cs q (0, 0)) → w'.heap[k]? = w.heap[k]?) : d.R e w' B ok v l :=
  Kd.R_mono (Kd.R_move (Kd.R_bound h) (fun k hk => by obtain ⟨_, _, _, q, hq, cs, hc⟩ := hk; exact hm k q cs hq hc)) (fun _ hk => hk.1)
/-- A batch as it lies: its block, the map of those that have not said it. -/
structure CoB (Z : Nat) (w : World) (B p mp : Nat) (b : CB) : Prop where
  pB : B ≤ p
  mB : B ≤ mp
  blk : ∃ A c, w.heap[p]? = some (Obj.cells #[.int .u8 b.st, .int .u32 b.at_, .slice A b.nodes.length c, .map (some mp), .bool b.ended] 85 (0, 0)) ∧ ki.R 3 w B (fun k => k ≠ Z) (.slice A b.nodes.length c) b.nodes
  map : ∃ D, OM w mp 6 D ∧ KI D ∧ ∀ x : Int, has D (.int .i64 x) = true ↔ x ∈ b.lacks
theorem CoB.step {w w' : World} {B p mp : Nat} {b : CB} (h : CoB Z w B p mp b) (hp : w'.heap[p]? = w.heap[p]?) (hm : w'.heap[mp]? = w.heap[mp]?) (hr : ∀ (k : Nat) (cs : Array Value), w.heap[k]? = some (Obj.cells cs 3 (0, 0)) → w'.heap[k]? = w.heap[k]?) : CoB Z w' B p mp b := by
  obtain ⟨A, c, h1, h2⟩ := h.blk
  obtain ⟨D, h3, h4⟩ := h.map
  refine ⟨h.pB, h.mB, ⟨A, c, hp.trans h1, kZ h2 (fun k q cs hq hc => ?_)⟩, ⟨D, lG h3 hm, h4⟩⟩
  obtain rfl : q = 3 := by simpa [show ki.E = [] from rfl] using hq
  exact hr k cs hc
theorem CoB.plt {w : World} {B p mp : Nat} {b : CB} (h : CoB Z w B p mp b) : p < w.heap.size := by obtain ⟨A, c, h1, _⟩ := h.blk; exact jJ h1
theorem CoB.mlt {w : World} {B p mp : Nat} {b : CB} (h : CoB Z w B p mp b) : mp < w.heap.size := by obtain ⟨D, h3, _⟩ := h.map; exact h3.lt
theorem CoB.lower {w : World} {B B' p mp : Nat} {b : CB} (h : CoB Z w B p mp b) (hB : B' ≤ B) : CoB Z w B' p mp b := by
  obtain ⟨A, c, h1, h2⟩ := h.blk
  exact ⟨Nat.le_trans hB h.pB, Nat.le_trans hB h.mB, ⟨A, c, h1, Kd.R_lower h2 hB⟩, h.map⟩
/-- All that the boss knows, as it lies. -/
structure CoX (Z : Nat) (w : World) (B c : Nat) (s : CS) (mb n : Nat) (D : DataW Nat) (ptr mp : Int → Nat) : Prop where
  cB : B ≤ c
  bB : B ≤ mb
  blk : ∃ A k, w.heap[c]? = some (Obj.cells #[.map (some mb), .int .u32 s.last, .int .u32 s.starts, .int .u32 s.begun, .int .u32 s.ep, .slice A s.sp.length k] 76 (0, 0)) ∧ Kd.R k96 96 w B (fun _ => True) (.slice A s.sp.length k) s.sp
  own : UM w mb n D
  ks : KU D
  at_ : ∀ id z, D.atKey (.int .u32 id) z = match getB s.L id with | some _ => .lit (.int .i64 (ptr id : Int)) | none => z
  bat : ∀ id b, getB s.L id = some b → CoB Z w B (ptr id) (mp id) b
  inj : ∀ id id' b b', getB s.L id = some b → getB s.L id' = some b' → id ≠ id' → ptr id ≠ ptr id' ∧ mp id ≠ mp id'
  ne : ∀ id b, getB s.L id = some b → mp id ≠ mb
  ok : s.Ok
  zlt : Z < w.heap.size
theorem CoX.clt {w : World} {B c : Nat} {s : CS} {mb n : Nat} {D : DataW Nat} {ptr mp : Int → Nat} (h : CoX Z w B c s mb n D ptr mp) : c < w.heap.size := by obtain ⟨A, k, h1, _⟩ := h.blk; exact jJ h1
theorem CoX.mono {w : World} {B c : Nat} {s : CS} {mb n n' : Nat} {D : DataW Nat} {ptr mp : Int → Nat} (h : CoX Z w B c s mb n D ptr mp) (hn : n ≤ n') : CoX Z w B c s mb n' D ptr mp :=
  ⟨h.cB, h.bB, h.blk, h.own.mono hn, h.ks, h.at_, h.bat, h.inj, h.ne, h.ok, h.zlt⟩
theorem CoX.step {w w' : World} {B c : Nat} {s : CS} {mb n : Nat} {D : DataW Nat} {ptr mp : Int → Nat} (h : CoX Z w B c s mb n D ptr mp) (hsz : w.heap.size ≤ w'.heap.size) (hc : w'.heap[c]? = w.heap[c]?) (hm : w'.heap[mb]? = w.heap[mb]?) (hb : ∀ id b, getB s.L id = some b → w'.heap[ptr id]? = w.heap[ptr id]? ∧ w'.heap[mp id]? = w.heap[mp id]?)
    (hr : ∀ (k : Nat) (q : TypeId) (cs : Array Value), q = 3 ∨ q = 96 → w.heap[k]? = some (Obj.cells cs q (0, 0)) → w'.heap[k]? = w.heap[k]?) : CoX Z w' B c s mb n D ptr mp := by
  obtain ⟨A, k, h1, h2⟩ := h.blk
  refine ⟨h.cB, h.bB, ⟨A, k, hc.trans h1, kZ h2 (fun j q cs hq hj => ?_)⟩, lG h.own hm, h.ks, h.at_, fun id b hi => (h.bat id b hi).step (hb id b hi).1 (hb id b hi).2 (fun j cs hj => hr j _ cs (.inl rfl) hj), h.inj, h.ne, h.ok, Nat.lt_of_lt_of_le h.zlt hsz⟩
  exact hr j q cs (.inr (by simpa [show (k96).E = [] from rfl] using hq)) hj
theorem CoX.below {w w' : World} {B c : Nat} {s : CS} {mb n : Nat} {D : DataW Nat} {ptr mp : Int → Nat} (h : CoX Z w B c s mb n D ptr mp) (hb : Below w.heap.size w w') : CoX Z w' B c s mb n D ptr mp :=
  h.step hb.size (hb.block c h.clt) (hb.block mb h.own.lt) (fun id b hi => ⟨hb.block _ (h.bat id b hi).plt, hb.block _ (h.bat id b hi).mlt⟩) (fun k _ _ _ hk => hb.block k (jJ hk))
/-- Only blocks of what the boss knows may have changed. -/
structure CoFr (B : Nat) (w w' : World) : Prop where
  os : w'.os = w.os
  tape : w'.tape = w.tape
  output : w'.output = w.output
  size : w.heap.size ≤ w'.heap.size
  low : ∀ k : Nat, k < B → w'.heap[k]? = w.heap[k]?
  cells : ∀ (k : Nat) (cs : Array Value) (t : TypeId) (fz : Nat × Nat), w.heap[k]? = some (Obj.cells cs t fz) → t ≠ 76 → t ≠ 85 → w'.heap[k]? = some (Obj.cells cs t fz)
theorem CoFr.refl (B : Nat) (w : World) : CoFr B w w := ⟨rfl, rfl, rfl, Nat.le_refl _, fun _ _ => rfl, fun _ _ _ _ h _ _ => h⟩
theorem CoFr.trans {B : Nat} {w w1 w2 : World} (h : CoFr B w w1) (k : CoFr B w1 w2) : CoFr B w w2 :=
  ⟨k.os.trans h.os, k.tape.trans h.tape, k.output.trans h.output, Nat.le_trans h.size k.size, fun i hi => (k.low i hi).trans (h.low i hi), fun i cs t fz hi h1 h2 => k.cells i cs t fz (h.cells i cs t fz hi h1 h2) h1 h2⟩
theorem CoFr.of_below {B : Nat} {w w' : World} (h : Below w.heap.size w w') (hB : B ≤ w.heap.size) : CoFr B w w' :=
  ⟨h.os, h.tape, h.output, h.size, fun k hk => h.block k (by omega), fun k _ _ _ hk _ _ => (h.block k (jJ hk)).trans hk⟩
theorem CoFr.below {B : Nat} {w w' : World} (h : CoFr B w w') : Below B w w' := ⟨h.os, h.tape, h.output, h.size, h.low⟩
theorem CoFr.of_grown {B g : Nat} {w w' : World} (h : w.grownBy w' (some g)) (hB : B ≤ g) (hz : B ≤ w.heap.size) (hg : ∀ (cs : Array Value) (t : TypeId) (fz : Nat × Nat), w.heap[g]? = some (Obj.cells cs t fz) → t = 76 ∨ t = 85) : CoFr B w w' :=
  ⟨h.os, h.tape, h.output, h.size, fun k hk => h.block k (by omega) (by intro e; injection e with e; omega), fun k cs t fz hk h1 h2 => by
    refine (h.block k (jJ hk) (fun e => ?_)).trans hk
    injection e with e
    subst e
    rcases hg cs t fz hk with rfl | rfl
    · exact h1 rfl
    · exact h2 rfl⟩
theorem CoFr.rows {α : Type} {d : Kd α} {e B B' : Nat} {w w' : World} {ok : Nat → Prop} {v : Value} {l : List α} (hf : CoFr B w w') (h : d.R e w B' ok v l) (hE : ∀ q, q ∈ e :: d.E → q ≠ 76 ∧ q ≠ 85) : d.R e w' B' ok v l :=
  Kd.R_mono (Kd.R_move (Kd.R_bound h) (fun k hk => by obtain ⟨_, _, _, q, hq, cs, hc⟩ := hk; rw [hc]; exact hf.cells k cs q _ hc (hE q hq).1 (hE q hq).2)) (fun _ hk => hk.1)
theorem lL {k : TypeId} {R : Value → Option (DataW Nat × List MemPlace)} {w : World} {g n : Nat} {D : DataW Nat} (h : w.ownsMap Try.prog k R g n D) (cs : Array Value) (t : TypeId) (fz : Nat × Nat) : w.heap[g]? ≠ some (Obj.cells cs t fz) := by
  obtain ⟨es, clock, h1, _⟩ := h
  intro e
  rw [h1] at e; cases e
/-- A block that is written: the others stay. -/
theorem jL {w w' : World} {g k : Nat} {o : Obj} (h : w.grownBy w' (some g)) (hk : w.heap[k]? = some o) (hne : k ≠ g) : w'.heap[k]? = w.heap[k]? := h.block k (jJ hk) (by intro e; injection e with e; exact hne e)
theorem jS {w w' : World} {g k : Nat} (h : w.grownBy w' (some g)) (hk : k < w.heap.size) (hne : k ≠ g) : w'.heap[k]? = w.heap[k]? := h.block k hk (by intro e; injection e with e; exact hne e)
section
variable {w w' : World} {B c : Nat} {s : CS} {mb n : Nat} {D : DataW Nat} {ptr mp : Int → Nat}
theorem CoX.c_ne_p (h : CoX Z w B c s mb n D ptr mp) {id : Int} {b : CB} (hb : getB s.L id = some b) : c ≠ ptr id := by
  obtain ⟨A, k, h1, _⟩ := h.blk
  obtain ⟨A', k', h2, _⟩ := (h.bat id b hb).blk
  exact MZ h1 h2 (by decide)
theorem CoX.c_ne_m (h : CoX Z w B c s mb n D ptr mp) {id : Int} {b : CB} (hb : getB s.L id = some b) : c ≠ mp id := by
  obtain ⟨A, k, h1, _⟩ := h.blk
  obtain ⟨E, h2, _⟩ := (h.bat id b hb).map
  intro e; rw [e] at h1; exact lL h2 _ _ _ h1
theorem CoX.c_ne_mb (h : CoX Z w B c s mb n D ptr mp) : c ≠ mb := by
  obtain ⟨A, k, h1, _⟩ := h.blk
  intro e; rw [e] at h1; exact lL h.own _ _ _ h1
theorem CoX.p_ne_mb (h : CoX Z w B c s mb n D ptr mp) {id : Int} {b : CB} (hb : getB s.L id = some b) : ptr id ≠ mb := by
  obtain ⟨A', k', h2, _⟩ := (h.bat id b hb).blk
  intro e; rw [e] at h2; exact lL h.own _ _ _ h2
theorem CoX.p_ne_m (h : CoX Z w B c s mb n D ptr mp) {id id' : Int} {b b' : CB} (hb : getB s.L id = some b) (hb' : getB s.L id' = some b') : ptr id ≠ mp id' := by
  obtain ⟨A', k', h2, _⟩ := (h.bat id b hb).blk
  obtain ⟨E, h3, _⟩ := (h.bat id' b' hb').map
  intro e; rw [e] at h2; exact lL h3 _ _ _ h2
theorem lH {k : TypeId} {R : Value → Option (DataW Nat × List MemPlace)} {g n : Nat} {D : DataW Nat} (hm : w.ownsMap Try.prog k R g n D) (hg : w.grownBy w' (some g)) (j : Nat) (q : TypeId) (cs : Array Value) (hj : w.heap[j]? = some (Obj.cells cs q (0, 0))) : w'.heap[j]? = w.heap[j]? :=
  jL hg hj (fun e => by subst e; exact lL hm _ _ _ hj)
theorem qJ {g : Nat} {t : TypeId} {ds : Array Value} (hm : w.heap[g]? = some (Obj.cells ds t (0, 0))) (hg : w.grownBy w' (some g)) (h1 : t ≠ 3) (h2 : t ≠ 96) (j : Nat) (q : TypeId) (cs : Array Value) (hq : q = 3 ∨ q = 96) (hj : w.heap[j]? = some (Obj.cells cs q (0, 0))) : w'.heap[j]? = w.heap[j]? :=
  jL hg hj (fun e => by subst e; rw [hm] at hj; cases hj; rcases hq with rfl | rfl; exact h1 rfl; exact h2 rfl)
/-- A node has said it. -/
theorem CoX.say (h : CoX Z w B c s mb n D ptr mp) {id : Int} {b b' : CB} (hb : getB s.L id = some b) (hg : w.grownBy w' (some (mp id))) (hb' : CoB Z w' B (ptr id) (mp id) b') (h1 : b'.st = b.st) (h2 : b'.at_ = b.at_) (h3 : b'.nodes = b.nodes) : CoX Z w' B c (s.withL (setB s.L id b')) mb n D ptr mp := by
  obtain ⟨E, hE, _⟩ := (h.bat id b hb).map
  obtain ⟨A, k, h4, h5⟩ := h.blk
  have hget : ∀ i, getB (setB s.L id b') i = if i = id then some b' else getB s.L i := fun i => by rw [qV, hb]; rfl
  have hex : ∀ i x, getB (setB s.L id b') i = some x → ∃ y, getB s.L i = some y := fun i x hx => by
    rw [hget] at hx
    split at hx
    · rename_i e; exact ⟨b, by rw [e]; exact hb⟩
    · exact ⟨x, hx⟩
  refine ⟨h.cB, h.bB, ⟨A, k, (jL hg h4 (h.c_ne_m hb)).trans h4, kZ h5 (fun j q cs _ hj => lH hE hg j q cs hj)⟩, lG h.own (jS hg h.own.lt (Ne.symm (h.ne id b hb))), h.ks, fun i z => ?_, fun i x hx => ?_, fun i i' x x' hx hx' hne => ?_, fun i x hx => ?_, h.ok.set hb h1 h2 h3, Nat.lt_of_lt_of_le h.zlt hg.size⟩
  · rw [h.at_]
    show (match getB s.L i with | some _ => _ | none => _) = match getB (setB s.L id b') i with | some _ => _ | none => _
    rw [hget]
    split <;> rename_i e1 <;> split <;> rename_i e2 <;> first | rfl | (split at e2 <;> simp_all)
  · have hx0 := hx
    rw [show (s.withL (setB s.L id b')).L = setB s.L id b' from rfl, hget] at hx
    split at hx
    · rename_i e; cases hx; subst e; exact hb'
    · rename_i hne
      obtain ⟨hp, hq⟩ := h.inj i id x b hx hb hne
      exact (h.bat i x hx).step (jS hg (h.bat i x hx).plt (h.p_ne_m hx hb)) (jS hg (h.bat i x hx).mlt hq) (fun j cs hj => lH hE hg j _ cs hj)
  · obtain ⟨y, hy⟩ := hex i x hx
    obtain ⟨y', hy'⟩ := hex i' x' hx'
    exact h.inj i i' y y' hy hy' hne
  · obtain ⟨y, hy⟩ := hex i x hx
    exact h.ne i y hy
/-- The head is written. -/
theorem CoX.head (h : CoX Z w B c s mb n D ptr mp) {s' : CS} (hL : s'.L = s.L) (hg : w.grownBy w' (some c)) (hblk : ∃ A k, w'.heap[c]? = some (Obj.cells #[.map (some mb), .int .u32 s'.last, .int .u32 s'.starts, .int .u32 s'.begun, .int .u32 s'.ep, .slice A s'.sp.length k] 76 (0, 0)) ∧ Kd.R k96 96 w' B (fun _ => True) (.slice A s'.sp.length k) s'.sp) (hok : s'.Ok) : CoX Z w' B c s' mb n D ptr mp := by
  obtain ⟨A, k, h4, h5⟩ := h.blk
  have hr := fun j q cs hq hj => qJ (t := 76) h4 hg (by decide) (by decide) j q cs hq hj
  refine ⟨h.cB, h.bB, hblk, lG h.own (jS hg h.own.lt (Ne.symm h.c_ne_mb)), h.ks, by rw [hL]; exact h.at_, fun i x hx => ?_, by rw [hL]; exact h.inj, by rw [hL]; exact h.ne, hok, Nat.lt_of_lt_of_le h.zlt hg.size⟩
  rw [hL] at hx
  exact (h.bat i x hx).step (jS hg (h.bat i x hx).plt (Ne.symm (h.c_ne_p hx))) (jS hg (h.bat i x hx).mlt (Ne.symm (h.c_ne_m hx))) (fun j cs hj => hr j _ cs (.inl rfl) hj)
/-- A batch's block is written. -/
theorem CoX.pset (h : CoX Z w B c s mb n D ptr mp) {id : Int} {b b' : CB} (hb : getB s.L id = some b) (hg : w.grownBy w' (some (ptr id))) (hb' : CoB Z w' B (ptr id) (mp id) b') (h1 : b'.st = b.st) (h2 : b'.at_ = b.at_) (h3 : b'.nodes = b.nodes) : CoX Z w' B c (s.withL (setB s.L id b')) mb n D ptr mp := by
  obtain ⟨A', k', hE, _⟩ := (h.bat id b hb).blk
  obtain ⟨A, k, h4, h5⟩ := h.blk
  have hr := fun j q cs hq hj => qJ (t := 85) hE hg (by decide) (by decide) j q cs hq hj
  have hget : ∀ i, getB (setB s.L id b') i = if i = id then some b' else getB s.L i := fun i => by rw [qV, hb]; rfl
  have hex : ∀ i x, getB (setB s.L id b') i = some x → ∃ y, getB s.L i = some y := fun i x hx => by
    rw [hget] at hx
    split at hx
    · rename_i e; exact ⟨b, by rw [e]; exact hb⟩
    · exact ⟨x, hx⟩
  refine ⟨h.cB, h.bB, ⟨A, k, (jL hg h4 (h.c_ne_p hb)).trans h4, kZ h5 (fun j q cs hq hj => hr j q cs (.inr (by simpa [show (k96).E = [] from rfl] using hq)) hj)⟩, lG h.own (jS hg h.own.lt (Ne.symm (h.p_ne_mb hb))), h.ks, fun i z => ?_, fun i x hx => ?_, fun i i' x x' hx hx' hne => ?_, fun i x hx => ?_, h.ok.set hb h1 h2 h3, Nat.lt_of_lt_of_le h.zlt hg.size⟩
  · rw [h.at_]
    show (match getB s.L i with | some _ => _ | none => _) = match getB (setB s.L id b') i with | some _ => _ | none => _
    rw [hget]
    split <;> rename_i e1 <;> split <;> rename_i e2 <;> first | rfl | (split at e2 <;> simp_all)
  · rw [show (s.withL (setB s.L id b')).L = setB s.L id b' from rfl, hget] at hx
    split at hx
    · rename_i e; cases hx; subst e; exact hb'
    · rename_i hne
      obtain ⟨hp, hq⟩ := h.inj i id x b hx hb hne
      exact (h.bat i x hx).step (jS hg (h.bat i x hx).plt hp) (jS hg (h.bat i x hx).mlt (Ne.symm (h.p_ne_m hb hx))) (fun j cs hj => hr j _ cs (.inl rfl) hj)
  · obtain ⟨y, hy⟩ := hex i x hx
    obtain ⟨y', hy'⟩ := hex i' x' hx'
    exact h.inj i i' y y' hy hy' hne
  · obtain ⟨y, hy⟩ := hex i x hx
    exact h.ne i y hy
/-- The batches' map is written: some go. -/
theorem CoX.less (h : CoX Z w B c s mb n D ptr mp) {L : List (Int × CB)} {D' : DataW Nat} {n' : Nat} (hg : w.grownBy w' (some mb)) (hD : UM w' mb n' D') (hk : KU D') (hs : L.Sublist s.L) (hsub : ∀ id b, getB L id = some b → getB s.L id = some b)
    (hat : ∀ id z, D'.atKey (.int .u32 id) z = match getB L id with | some _ => .lit (.int .i64 (ptr id : Int)) | none => z) : CoX Z w' B c (s.withL L) mb n' D' ptr mp := by
  obtain ⟨A, k, h4, h5⟩ := h.blk
  refine ⟨h.cB, h.bB, ⟨A, k, (jL hg h4 h.c_ne_mb).trans h4, kZ h5 (fun j q cs _ hj => lH h.own hg j q cs hj)⟩, hD, hk, hat, fun i x hx => ?_, fun i i' x x' hx hx' hne => h.inj i i' x x' (hsub i x hx) (hsub i' x' hx') hne, fun i x hx => h.ne i x (hsub i x hx), h.ok.sub hs, Nat.lt_of_lt_of_le h.zlt hg.size⟩
  have hx' := hsub i x hx
  exact (h.bat i x hx').step (jS hg (h.bat i x hx').plt (h.p_ne_mb hx')) (jS hg (h.bat i x hx').mlt (h.ne i x hx')) (fun j cs hj => lH h.own hg j _ cs hj)
theorem rH {l : List (Int × CB)} {i id : Int} {b : CB} (h : getB (cutB l i) id = some b) : getB l id = some b ∧ id ≠ i := by
  rw [lS] at h
  split at h
  · cases h
  · exact ⟨h, by assumption⟩
theorem CoX.del (h : CoX Z w B c s mb n D ptr mp) (id : Int) (hg : w.grownBy w' (some mb)) (hD : UM w' mb n (D.del (.int .u32 id))) : CoX Z w' B c (s.withL (cutB s.L id)) mb n (D.del (.int .u32 id)) ptr mp := by
  refine h.less hg hD (h.ks.del _) List.filter_sublist (fun i x hx => (rH hx).1) (fun i z => ?_)
  rw [lS]
  by_cases e : i = id
  · subst e; rw [atKey_del_same, if_pos rfl]
  · rw [atKey_del_other (by intro e2; injection e2 with _ e2; exact e e2), h.at_, if_neg e]
def updN (f : Int → Nat) (id : Int) (v : Nat) : Int → Nat := fun i => if i = id then v else f i
/-- .. one comes (in the place of what had its number). -/
theorem CoX.add {w0 : World} (h : CoX Z w B c s mb n D ptr mp) (h0 : CoX Z w0 B c s mb n D ptr mp) {id : Int} {b : CB} {p m : Nat} (hp : w0.heap.size ≤ p) (hm : w0.heap.size ≤ m) (hb : CoB Z w B p m b) (hg : w.grownBy w' (some mb)) (hD : UM w' mb (n + 1) (D.put (.int .u32 id) (.lit (.int .i64 (p : Int))))) (hid : 0 ≤ id ∧ id < 4294967296) (hok : (0 ≤ b.st ∧ b.st < 256) ∧ (0 ≤ b.at_ ∧ b.at_ < 4294967296) ∧ Rt b.nodes) :
    CoX Z w' B c (s.withL (cutB s.L id ++ [(id, b)])) mb (n + 1) (D.put (.int .u32 id) (.lit (.int .i64 (p : Int)))) (updN ptr id p) (updN mp id m) := by
  obtain ⟨A, k, h4, h5⟩ := h.blk
  have hget : ∀ i, getB (cutB s.L id ++ [(id, b)]) i = if i = id then some b else getB s.L i := fun i => by
    rw [nC, lS]
    by_cases e : i = id
    · rw [if_pos e, if_pos e]; show getB [(id, b)] i = _; rw [getB, if_pos e.symm]
    · rw [if_neg e, if_neg e]
      cases getB s.L i with
      | some x => rfl
      | none => show getB [(id, b)] i = _; rw [getB, if_neg (Ne.symm e)]; rfl
  have hpm : p ≠ mb := by have := h0.own.lt; omega
  have hmm : m ≠ mb := by have := h0.own.lt; omega
  refine ⟨h.cB, h.bB, ⟨A, k, (jL hg h4 h.c_ne_mb).trans h4, kZ h5 (fun j q cs _ hj => lH h.own hg j q cs hj)⟩, hD, h.ks.put _ _, fun i z => ?_, fun i x hx => ?_, fun i i' x x' hx hx' hne => ?_, fun i x hx => ?_, h.ok.add (L := cutB s.L id) List.filter_sublist (by rw [lS, if_pos rfl]) hid hok, Nat.lt_of_lt_of_le h.zlt hg.size⟩
  · show _ = match getB (cutB s.L id ++ [(id, b)]) i with | some _ => _ | none => _
    rw [hget]
    by_cases e : i = id
    · subst e; rw [atKey_put_same h.ks.isMap (keyU _), if_pos rfl]; simp [updN]
    · rw [atKey_put_other (by intro e2; injection e2 with _ e2; exact e e2), h.at_, if_neg e]; simp [updN, e]
  · rw [show (s.withL (cutB s.L id ++ [(id, b)])).L = cutB s.L id ++ [(id, b)] from rfl, hget] at hx
    by_cases e : i = id
    · subst e
      rw [if_pos rfl] at hx; cases hx
      simp only [updN, if_true]
      exact hb.step (jS hg hb.plt hpm) (jS hg hb.mlt hmm) (fun j cs hj => lH h.own hg j _ cs hj)
    · rw [if_neg e] at hx
      simp only [updN, if_neg e]
      exact (h.bat i x hx).step (jS hg (h.bat i x hx).plt (h.p_ne_mb hx)) (jS hg (h.bat i x hx).mlt (h.ne i x hx)) (fun j cs hj => lH h.own hg j _ cs hj)
  · rw [show (s.withL (cutB s.L id ++ [(id, b)])).L = cutB s.L id ++ [(id, b)] from rfl, hget] at hx hx'
    by_cases e : i = id
    · have e' : i' ≠ id := fun e2 => hne (e.trans e2.symm)
      rw [if_neg e'] at hx'
      have h6 := (h0.bat i' x' hx').plt
      have h7 := (h0.bat i' x' hx').mlt
      simp only [updN, if_pos e, if_neg e']
      omega
    · rw [if_neg e] at hx
      have h6 := (h0.bat i x hx).plt
      have h7 := (h0.bat i x hx).mlt
      by_cases e' : i' = id
      · simp only [updN, if_neg e, if_pos e']
        omega
      · rw [if_neg e'] at hx'
        simp only [updN, if_neg e, if_neg e']
        exact h.inj i i' x x' hx hx' hne
  · rw [show (s.withL (cutB s.L id ++ [(id, b)])).L = cutB s.L id ++ [(id, b)] from rfl, hget] at hx
    by_cases e : i = id
    · simp only [updN, if_pos e]; exact hmm
    · rw [if_neg e] at hx
      simp only [updN, if_neg e]
      exact h.ne i x hx
/-- That block is written, or one of another type. -/
theorem CoX.other (h : CoX Z w B c s mb n D ptr mp) {g : Nat} {t : TypeId} {ds : Array Value} (hm : w.heap[g]? = some (.cells ds t (0, 0))) (hg : w.grownBy w' (some g)) (h1 : t ≠ 76) (h2 : t ≠ 85) (h3 : t ≠ 96) (h4 : t = 3 → g = Z) : CoX Z w' B c s mb n D ptr mp := by
  obtain ⟨A, k, h5, h6⟩ := h.blk
  have hne : ∀ {j : Nat} {q : TypeId} {cs : Array Value}, w.heap[j]? = some (.cells cs q (0, 0)) → q ≠ t → j ≠ g := fun hj hq e => by subst e; rw [hm] at hj; cases hj; exact hq rfl
  have hmp : ∀ {k : TypeId} {R : Value → Option (DataW Nat × List MemPlace)} {j n : Nat} {E : DataW Nat}, w.ownsMap Try.prog k R j n E → j ≠ g := fun hj e => by subst e; exact lL hj _ _ _ hm
  refine ⟨h.cB, h.bB, ⟨A, k, (jL hg h5 (hne h5 (Ne.symm h1))).trans h5, kZ h6 (fun j q cs hq hj => jL hg hj (hne hj (by obtain rfl : q = 96 := (by simpa [show (k96).E = [] from rfl] using hq); exact Ne.symm h3)))⟩, lG h.own (jS hg h.own.lt (hmp h.own)), h.ks, h.at_, fun i x hx => ?_, h.inj, h.ne, h.ok, Nat.lt_of_lt_of_le h.zlt hg.size⟩
  obtain ⟨A', k', h7, h8⟩ := (h.bat i x hx).blk
  obtain ⟨E, h9, hE⟩ := (h.bat i x hx).map
  refine ⟨(h.bat i x hx).pB, (h.bat i x hx).mB, ⟨A', k', (jL hg h7 (hne h7 (Ne.symm h2))).trans h7, ?_⟩, ⟨E, lG h9 (jS hg h9.lt (hmp h9)), hE⟩⟩
  refine Kd.R_mono (Kd.R_move (Kd.R_bound h8) (fun j hj => ?_)) (fun _ hk => hk.1)
  obtain ⟨hz, _, _, q, hq, cs, hc⟩ := hj
  obtain rfl : q = 3 := by simpa [show ki.E = [] from rfl] using hq
  refine jL hg hc (fun e => ?_)
  subst e
  rw [hm] at hc
  cases hc
  exact hz (h4 rfl)
/-- What a look-up gives. -/
def ptrV (s : CS) (ptr : Int → Nat) (id : Int) : Value := match getB s.L id with | some _ => .pointer (some ⟨ptr id, 0, none⟩) | none => .pointer none
theorem NR (w : World) : (zeroValue 79).run Try.prog w = .ok (.pointer none) w := by kernel_rfl
theorem vU {x : Int} (h : 0 ≤ x ∧ x < 4294967296) : (Lit.int .u32 x).wf = true := by
  simp only [Lit.wf, IntKind.min, IntKind.max, decide_eq_true_eq, Bool.and_eq_true, IntKind.signed, IntKind.bits]
  simp
  omega
theorem CoX.look (h : CoX Z w B c s mb n D ptr mp) {id : Int} (hid : 0 ≤ id ∧ id < 4294967296) : (Instr.lookup 74 (.map (some mb)) (.int .u32 id) false).run Try.prog w = .ok (ptrV s ptr id) w := by
  obtain ⟨v, ps, h1, h2⟩ := h.own.lookup qL Try.underlying74 (NR w) (zd := .map []) (zp := []) rfl (keyOf_int_mk Try.underlying28 (vU hid))
  rw [h1, h.at_] at *
  unfold ptrV
  cases hg : getB s.L id with
  | none => rw [hg] at h2; rw [LQ h2]
  | some b => rw [hg] at h2; rw [zM h2]
end
end Go.Proofs.Ytjppookmjdaplaa.K
end

section
namespace Go.Proofs.Ytjppookmjdaplaa.K
open Go Go.RowKit Go.Maps Go.Proofs.YtjppookmjdaplaaW.PrintWords Go.Proofs.YtjppookmjdaplaaW.PrintLast Go.Proofs.YtjppookmjdaplaaW.PrintMore Go.Proofs.Ytjppookmjdaplaa.My
variable {Z : Nat}
/-- What the boss knows lies at c. -/
def Co (Z : Nat) (w : World) (B c n : Nat) (s : CS) : Prop := ∃ mb D ptr mp, CoX Z w B c s mb n D ptr mp
theorem Co.below {w w' : World} {B c n : Nat} {s : CS} (h : Co Z w B c n s) (hb : Below w.heap.size w w') : Co Z w' B c n s := by
  obtain ⟨mb, D, ptr, mp, hx⟩ := h
  exact ⟨mb, D, ptr, mp, hx.below hb⟩
theorem Co.other {w w' : World} {B c n : Nat} {s : CS} (h : Co Z w B c n s) {g : Nat} {t : TypeId} {ds : Array Value} (hm : w.heap[g]? = some (.cells ds t (0, 0))) (hg : w.grownBy w' (some g)) (h1 : t ≠ 76) (h2 : t ≠ 85) (h3 : t ≠ 96) (h4 : t = 3 → g = Z) : Co Z w' B c n s := by
  obtain ⟨mb, D, ptr, mp, hx⟩ := h
  exact ⟨mb, D, ptr, mp, hx.other hm hg h1 h2 h3 h4⟩
/-- A row of another type is appended to. -/
theorem Co.app {α : Type} {d : Kd α} {e B' : Nat} {ok : Nat → Prop} {w w' : World} {B c n : Nat} {s : CS} {v : Value} {l : List α} (h : Co Z w B c n s) (hr : d.R e w B' ok v l) (hg : w.grownBy w' v.ownBlock) (he : e ≠ 76 ∧ e ≠ 85 ∧ e ≠ 96 ∧ e ≠ 3) : Co Z w' B c n s := by
  cases hv : v.ownBlock with
  | none => rw [hv] at hg; exact h.below ⟨hg.os, hg.tape, hg.output, hg.size, fun i hi => hg.block i hi (by simp)⟩
  | some g =>
    obtain ⟨inner, ho⟩ := Kd.R_own hr
    obtain ⟨cs, hc⟩ := jZ ho g hv
    rw [hv] at hg
    exact h.other hc hg he.1 he.2.1 he.2.2.1 (fun e2 => absurd e2 he.2.2.2)
theorem Co.ok {w : World} {B c n : Nat} {s : CS} (h : Co Z w B c n s) : s.Ok := by obtain ⟨mb, D, ptr, mp, hx⟩ := h; exact hx.ok
theorem Co.lt {w : World} {B c n : Nat} {s : CS} (h : Co Z w B c n s) : c < w.heap.size := by obtain ⟨mb, D, ptr, mp, hx⟩ := h; exact hx.clt
theorem Co.ge {w : World} {B c n : Nat} {s : CS} (h : Co Z w B c n s) : B ≤ c := by obtain ⟨mb, D, ptr, mp, hx⟩ := h; exact hx.cB
def ptrI (s : CS) (ptr : Int → Nat) (id st : Int) : Value := match s.inn id st with | some _ => .pointer (some ⟨ptr id, 0, none⟩) | none => .pointer none
section
variable {w : World} {B c : Nat} {s : CS} {mb n : Nat} {D : DataW Nat} {ptr mp : Int → Nat}
theorem CoX.cells (h : CoX Z w B c s mb n D ptr mp) : w.cell? ⟨c, 0, none⟩ = some (.map (some mb)) ∧ w.cell? ⟨c, 1, none⟩ = some (.int .u32 s.last) ∧ w.cell? ⟨c, 2, none⟩ = some (.int .u32 s.starts) ∧ w.cell? ⟨c, 3, none⟩ = some (.int .u32 s.begun) ∧ w.cell? ⟨c, 4, none⟩ = some (.int .u32 s.ep) := by
  obtain ⟨A, k, h1, _⟩ := h.blk
  exact ⟨(iD h1 0).trans rfl, (iD h1 1).trans rfl, (iD h1 2).trans rfl, (iD h1 3).trans rfl, (iD h1 4).trans rfl⟩
theorem CoB.cells {p m : Nat} {b : CB} (h : CoB Z w B p m b) : w.cell? ⟨p, 0, none⟩ = some (.int .u8 b.st) ∧ w.cell? ⟨p, 1, none⟩ = some (.int .u32 b.at_) ∧ w.cell? ⟨p, 3, none⟩ = some (.map (some m)) ∧ w.cell? ⟨p, 4, none⟩ = some (.bool b.ended) := by
  obtain ⟨A, k, h1, _⟩ := h.blk
  exact ⟨(iD h1 0).trans rfl, (iD h1 1).trans rfl, (iD h1 3).trans rfl, (iD h1 4).trans rfl⟩
set_option maxRecDepth 20000 in
theorem uP (h : CoX Z w B c s mb n D ptr mp) {id st : Int} (hid : 0 ≤ id ∧ id < 4294967296) :
    Calls Try.prog 41 #[.pointer (some ⟨c, 0, none⟩), .int .u32 id, .int .u8 st] w fun e w' => e = .returned (ptrI s ptr id st) ∧ w' = w := by
  have c0 := h.cells.1
  have hl := h.look hid
  unfold ptrV at hl
  clear hid
  cases hg : getB s.L id with
  | none =>
    simp only [hg] at hl
    rw [show ptrI s ptr id st = .pointer none from by simp [ptrI, CS.inn, hg]]
    clear h hg
    go_enter Try.func41, Try.ntmps41
    go_wp2
    go_ret
    exact ⟨rfl, rfl⟩
  | some b =>
    simp only [hg] at hl
    have z0 := (h.bat id b hg).cells.1
    by_cases hs : b.st = st
    · rw [show ptrI s ptr id st = .pointer (some ⟨ptr id, 0, none⟩) from by simp [ptrI, CS.inn, hg, Option.filter, hs]]
      clear h hg
      subst hs
      go_enter Try.func41, Try.ntmps41
      go_wp2
      go_ret
      exact ⟨rfl, rfl⟩
    · rw [show ptrI s ptr id st = .pointer none from by simp [ptrI, CS.inn, hg, Option.filter, hs]]
      clear h hg
      have hs' : (b.st == st) = false := by simpa using hs
      go_enter Try.func41, Try.ntmps41
      go_wp2
      go_ret
      exact ⟨rfl, rfl⟩
theorem o7 {k : TypeId} {R : Value → Option (DataW Nat × List MemPlace)} {w w1 : World} {g m n : Nat} {D : DataW Nat} {cs : Array Value} {t : TypeId} {fz : Nat × Nat} (hT : w.mapTurned w1 m) (hD : w.ownsMap Try.prog k R m n D) (hc : w.heap[g]? = some (.cells cs t fz)) : w1.heap[g]? = some (.cells cs t fz) :=
  (jL hT.grown hc (fun e => by subst e; exact lL hD _ _ _ hc)).trans hc
theorem zD {x : Int} (h : -9223372036854775808 ≤ x ∧ x ≤ 9223372036854775807) : (Lit.int .i64 x).wf = true := by
  simp only [Lit.wf, IntKind.min, IntKind.max, decide_eq_true_eq, Bool.and_eq_true, IntKind.signed, IntKind.bits]
  simp
  omega
/-- A node's word. -/
theorem CoB.said {w w1 : World} {p m : Nat} {b : CB} {D : DataW Nat} (h : CoB Z w B p m b) (hD : OM w m 6 D) (hk : KI D) (hm : ∀ x : Int, has D (.int .i64 x) = true ↔ x ∈ b.lacks) (x : Int) (hO : OM w1 m 6 (D.del (.int .i64 x))) (hT : w.mapTurned w1 m) :
    CoB Z w1 B p m (b.say x) ∧ w.grownBy w1 (some m) ∧ (Maps.size (D.del (.int .i64 x)) = 0 ↔ (b.say x).all = true) := by
  obtain ⟨A, c, h1, h2⟩ := h.blk
  have hmem : ∀ y : Int, has (D.del (.int .i64 x)) (.int .i64 y) = true ↔ y ∈ (b.say x).lacks := fun y => by
    rw [CB.say_lacks]
    by_cases e : y = x
    · subst e; rw [has_del_same]; simp
    · rw [has_del_other (by intro e2; injection e2 with _ e2; exact e e2), hm y]; simp [e]
  refine ⟨⟨h.pB, h.mB, ⟨A, c, ?_, ?_⟩, ⟨_, hO, hk.del _, hmem⟩⟩, hT.grown, ?_⟩
  · rw [CB.say_st, CB.say_at, CB.say_nodes, CB.say_ended]; exact o7 hT hD h1
  · rw [CB.say_nodes]
    exact kZ h2 (fun j q cs _ hj => (o7 hT hD hj).trans hj.symm)
  · rw [(hk.del _).size0]
    unfold CB.all
    rw [List.isEmpty_iff]
    constructor
    · intro h3
      refine List.eq_nil_iff_forall_not_mem.2 (fun y hy => ?_)
      rw [← hmem y, h3 y] at hy; cases hy
    · intro h3 y
      cases hh : has (D.del (.int .i64 x)) (.int .i64 y)
      · rfl
      · have := (hmem y).1 hh
        rw [h3] at this; cases this
set_option maxRecDepth 20000 in
theorem vX {p m : Nat} {b : CB} (h : CoB Z w B p m b) (x : Int) (hx : -9223372036854775808 ≤ x ∧ x ≤ 9223372036854775807) :
    Calls Try.prog 42 #[.pointer (some ⟨p, 0, none⟩), .int .i64 x] w fun e w' => e = .returned (.bool (b.say x).all) ∧ CoB Z w' B p m (b.say x) ∧ w.grownBy w' (some m) := by
  have z3 := h.cells.2.2.1
  obtain ⟨A0, k0, hb, _⟩ := h.blk
  obtain ⟨D, hD, hk, hm⟩ := h.map
  have HX := iC.mk (keyOf_int_mk Try.underlying3 (zD hx))
  have HS := iC.mk (fun w1 => CoB.said (w1 := w1) h hD hk hm x)
  have HD := iC.mk hD
  have HB := iC.mk hb
  clear h hk hm hx hD hb
  go_enter Try.func42, Try.ntmps42
  go_wp2_with (first
    | (at_delete; go_loud (refine wpList_delete_own _ rfl _ _ 83 3 rfl 3 JF Try.underlying83 _ m 6 D rfl HD.out _ _ rfl HX.out ?_; intro w1 hown1 hturn1; have HO1 := iC.mk hown1; have HT1 := iC.mk hturn1; have z3' := (iD (o7 hturn1 HD.out HB.out) 3).trans (show _ = some (Value.map (some m)) from rfl); clear hown1 hturn1))
    | (at_len; refine wpList_len_own _ rfl _ 83 rfl 3 3 Try.underlying83 _ m 6 _ rfl HO1.out ?_))
  go_ret
  obtain ⟨q1, q2, q3⟩ := HS.out _ HO1.out HT1.out
  refine ⟨?_, q1, q2⟩
  cases hA : (b.say x).all
  · have : ¬ Maps.size (D.del (.int .i64 x)) = 0 := fun h => by rw [q3.1 h] at hA; cases hA
    simp; omega
  · have := q3.2 hA
    simp [this]
/-- .. in all that it knows. -/
theorem CoX.said {w1 : World} (h : CoX Z w B c s mb n D ptr mp) {id : Int} {b : CB} (hb : getB s.L id = some b) (x : Int) (hw : CoB Z w1 B (ptr id) (mp id) (b.say x)) (hg : w.grownBy w1 (some (mp id))) : Co Z w1 B c n (s.withL (setB s.L id (b.say x))) ∧ CoFr B w w1 := by
  obtain ⟨E, hE, _⟩ := (h.bat id b hb).map
  exact ⟨⟨_, _, _, _, h.say hb hg hw (b.say_st x) (b.say_at x) (b.say_nodes x)⟩, CoFr.of_grown hg (h.bat id b hb).mB (Nat.le_trans h.cB (Nat.le_of_lt h.clt)) (fun cs t fz e => absurd e (lL hE _ _ _))⟩
set_option maxRecDepth 20000 in
theorem qM (h : Co Z w B c n s) {id : Int} (hid : 0 ≤ id ∧ id < 4294967296) (x : Int) (hx : -9223372036854775808 ≤ x ∧ x ≤ 9223372036854775807) :
    Calls Try.prog 14 #[.pointer (some ⟨c, 0, none⟩), .int .u32 id, .int .i64 x] w fun e w' => e = .returned (.bool (s.voteE id x)) ∧ Co Z w' B c n (s.vote id x) ∧ CoFr B w w' := by
  obtain ⟨mb, D, ptr, mp, h⟩ := h
  have hin := uP h hid (st := 1)
  unfold CS.voteE CS.vote
  unfold ptrI at hin
  cases hI : s.inn id 1 with
  | none =>
    rw [hI] at hin
    have HH := iC.mk h
    clear h hid hx hI
    go_enter Try.func14, Try.ntmps14
    go_wp2_with (go_at_call 41; refine hin.mono ?_; rintro e w1 ⟨rfl, rfl⟩)
    go_ret
    exact ⟨rfl, ⟨_, _, _, _, HH.out⟩, CoFr.refl _ _⟩
  | some b =>
    rw [hI] at hin
    obtain ⟨hb, hst⟩ := CS.inn_get hI
    have hs := vX (h.bat id b hb) x hx
    have HH := iC.mk h
    have HB := iC.mk hb
    clear h hid hx hI hst hb
    go_enter Try.func14, Try.ntmps14
    go_wp2_with (first
      | (go_at_call 41; refine hin.mono ?_; rintro e w1 ⟨rfl, rfl⟩)
      | (go_at_call 42; refine hs.mono ?_; rintro e w1 ⟨rfl, hw, hg⟩))
    go_ret
    obtain ⟨q1, q2⟩ := HH.out.said HB.out x hw hg
    exact ⟨rfl, q1, q2⟩
set_option maxRecDepth 20000 in
theorem J5 (h : Co Z w B c n s) {id : Int} (hid : 0 ≤ id ∧ id < 4294967296) (x : Int) (hx : -9223372036854775808 ≤ x ∧ x ≤ 9223372036854775807) :
    Calls Try.prog 32 #[.pointer (some ⟨c, 0, none⟩), .int .u32 id, .int .i64 x] w fun e w' => e = .returned (.bool (s.doneE id x)) ∧ Co Z w' B c n (s.done id x) ∧ CoFr B w w' := by
  obtain ⟨mb, D, ptr, mp, h⟩ := h
  have hin := uP h hid (st := 2)
  unfold CS.doneE CS.done
  unfold ptrI at hin
  cases hI : s.inn id 2 with
  | none =>
    rw [hI] at hin
    rw [show s.owe id = none from by simp [CS.owe, hI]]
    have HH := iC.mk h
    clear h hid hx hI
    go_enter Try.func32, Try.ntmps32
    go_wp2_with (go_at_call 41; refine hin.mono ?_; rintro e w1 ⟨rfl, rfl⟩)
    go_ret
    exact ⟨rfl, ⟨_, _, _, _, HH.out⟩, CoFr.refl _ _⟩
  | some b =>
    rw [hI] at hin
    obtain ⟨hb, hst⟩ := CS.inn_get hI
    have hs := vX (h.bat id b hb) x hx
    have z4 := (h.bat id b hb).cells.2.2.2
    have HH := iC.mk h
    have HB := iC.mk hb
    cases hE : b.ended
    · rw [show s.owe id = some b from by simp [CS.owe, hI, Option.filter, hE]]
      rw [hE] at z4
      clear h hid hx hI hst hb hE
      go_enter Try.func32, Try.ntmps32
      go_wp2_with (first
        | (go_at_call 41; refine hin.mono ?_; rintro e w1 ⟨rfl, rfl⟩)
        | (go_at_call 42; refine hs.mono ?_; rintro e w1 ⟨rfl, hw, hg⟩))
      go_ret
      obtain ⟨q1, q2⟩ := HH.out.said HB.out x hw hg
      exact ⟨rfl, q1, q2⟩
    · rw [show s.owe id = none from by simp [CS.owe, hI, Option.filter, hE]]
      rw [hE] at z4
      clear h hid hx hI hst hb hE
      go_enter Try.func32, Try.ntmps32
      go_wp2_with (go_at_call 41; refine hin.mono ?_; rintro e w1 ⟨rfl, rfl⟩)
      go_ret
      exact ⟨rfl, ⟨_, _, _, _, HH.out⟩, CoFr.refl _ _⟩
set_option maxRecDepth 20000 in
theorem last_any (h : Co Z w B c n s) : Calls Try.prog 31 #[.pointer (some ⟨c, 0, none⟩)] w fun e w' => e = .returned (.int .u32 s.last) ∧ w' = w := by
  obtain ⟨mb, D, ptr, mp, h⟩ := h
  have c2 := h.cells.2.1
  clear h
  go_enter Try.func31, Try.ntmps31
  go_wp2
  go_ret
  exact ⟨rfl, rfl⟩
set_option maxRecDepth 20000 in
theorem mM (h : Co Z w B c n s) {id : Int} (hid : 0 ≤ id ∧ id < 4294967296) : Calls Try.prog 16 #[.pointer (some ⟨c, 0, none⟩), .int .u32 id] w fun e w' => e = .returned (.agg #[.int .u8 (s.status id).1, .int .u32 (s.status id).2]) ∧ Below w.heap.size w w' := by
  obtain ⟨mb, D, ptr, mp, h⟩ := h
  obtain ⟨W, hW⟩ : ∃ W, W = w.alloc (.cells #[.int .u8 0, .int .u32 0] 36) := ⟨_, rfl⟩
  have hb : Below w.heap.size w W := by rw [hW]; exact iF (Below.refl _ _) _
  have hX : W.heap[w.heap.size]? = some (.cells #[.int .u8 0, .int .u32 0] 36 (0, 0)) := by rw [hW]; exact jD rfl
  have h2 := h.below hb
  have c0 := h2.cells.1
  have hl := h2.look hid
  have y0 := (iD hX 0).trans (show _ = some (Value.int .u8 0) from rfl)
  have y1 := (iD hX 1).trans (show _ = some (Value.int .u32 0) from rfl)
  have f0 := iE hX 0
  have f1 := iE hX 1
  have HX := iC.mk hX
  have HB := iC.mk hb
  have HW := iC.mk hW
  clear hX
  unfold ptrV at hl
  unfold CS.status
  clear hid hW hb
  cases hg : getB s.L id with
  | none =>
    simp only [hg] at hl ⊢
    clear h h2 hg
    go_enter Try.func16, Try.ntmps16
    go_upto_region 1 with fail
    rw [← HW.out]
    clear HW
    go_wp2
    refine bodyPost_ret (results_cell_row rfl _ _ w.heap.size 36 #[.int .u8 3, .int .u32 0] (0, 0) _ rfl (iZ (cs := #[.int .u8 3, .int .u32 0]) (iZ (cs := #[.int .u8 0, .int .u32 0]) HX.out 0 _ rfl) 1 _ rfl) Try.underlying36 rfl (by kernel_rfl)) rfl ?_
    exact ⟨rfl, iH (iH HB.out (Nat.le_refl _)) (Nat.le_refl _)⟩
  | some b =>
    simp only [hg] at hl ⊢
    have z0 := (h2.bat id b hg).cells.1
    have z1 := (h2.bat id b hg).cells.2.1
    clear h h2 hg
    go_enter Try.func16, Try.ntmps16
    go_upto_region 1 with fail
    rw [← HW.out]
    clear HW
    go_wp2
    refine bodyPost_ret (results_cell_row rfl _ _ w.heap.size 36 #[.int .u8 b.st, .int .u32 b.at_] (0, 0) _ rfl (iZ (cs := #[.int .u8 b.st, .int .u32 0]) (iZ (cs := #[.int .u8 0, .int .u32 0]) HX.out 0 _ rfl) 1 _ rfl) Try.underlying36 rfl (by kernel_rfl)) rfl ?_
    exact ⟨rfl, iH (iH HB.out (Nat.le_refl _)) (Nat.le_refl _)⟩
end
end Go.Proofs.Ytjppookmjdaplaa.K
end

section
namespace Go.Proofs.Ytjppookmjdaplaa.K
open Go Go.RowKit Go.Proofs.YtjppookmjdaplaaW.PrintWords Go.Proofs.YtjppookmjdaplaaW.PrintLast Go.Proofs.YtjppookmjdaplaaW.PrintMore Go.Proofs.Ytjppookmjdaplaa.My
attribute [local go_sem] Oper.semAt_some
/-- The node of m among members: -1 where none begins at or below m. -/
def kU (l : List TSp) (m : Int) : Int := ((l.reverse.find? (fun x => decide (x.f0 ≤ m))).map (fun x => x.f1)).getD (-1)
def spans_Find.f (a0 : Int) (l : List TSp) (m : Int) : Option Int := if (l.length : Int) ≤ 8796093022208 then some (kU l m) else none
end Go.Proofs.Ytjppookmjdaplaa.K
end

section
namespace Go.Proofs
open Go.Shelf
def Try.keysA_ren : Go.Shelf.Ren := ⟨fun | 7 => 44 | 10 => 68 | n => n, fun | 23 => 83 | 26 => 3 | 3 => 3 | 28 => 88 | 0 => 0 | 27 => 87 | 33 => 82 | 4 => 4 | n => n, fun | n => n⟩
theorem Try.keysA : Go.Proofs.SlLaysZI.n7 Try.prog Try.keysA_ren := {
  mixed := by kernel_rfl
  f7 := ⟨Try.f44.name, by decide, Try.func44.trans (congrArg some (by kernel_rfl))⟩
  f10 := ⟨Try.f68.name, by decide, Try.func68.trans (congrArg some (by kernel_rfl))⟩
  t0 := Try.underlying0
  a0 := Try.isAgg0
  z0 := Try.sizeOf0
  v0 := Try.zeroValue0
  t4 := Try.underlying4
  a4 := Try.isAgg4
  z4 := Try.sizeOf4
  v4 := Try.zeroValue4
  t23 := Try.underlying83
  a23 := Try.isAgg83
  z23 := Try.sizeOf83
  v23 := Try.zeroValue83
  t26 := Try.underlying3
  a26 := Try.isAgg3
  z26 := Try.sizeOf3
  v26 := Try.zeroValue3
  t27 := Try.underlying87
  a27 := Try.isAgg87
  z27 := Try.sizeOf87
  v27 := Try.zeroValue87
  t28 := Try.underlying88
  a28 := Try.isAgg88
  z28 := Try.sizeOf88
  v28 := Try.zeroValue88
  t33 := Try.underlying82
  a33 := Try.isAgg82
  z33 := Try.sizeOf82
  v33 := Try.zeroValue82 }
def Try.sortedA_ren : Go.Shelf.Ren := ⟨fun | 6 => 43 | 8 => 66 | 9 => 67 | 11 => 90 | 13 => 92 | 12 => 91 | 23 => 110 | 24 => 111 | 14 => 101 | 15 => 102 | 16 => 103 | 17 => 104 | 18 => 105 | 19 => 106 | 20 => 107 | 21 => 108 | 22 => 109 | 25 => 114 | 26 => 115 | 27 => 116 | 28 => 117 | 29 => 118 | 30 => 119 | 31 => 129 | n => n, fun | 26 => 3 | 28 => 88 | 24 => 25 | 0 => 0 | 3 => 3 | 37 => 116 | 48 => 28 | 50 => 127 | 4 => 4 | 40 => 151 | 39 => 150 | 45 => 155 | 5 => 5 | 9 => 9 | 51 => 160 | 55 => 164 | 57 => 172 | 58 => 173 | 33 => 82 | n => n, fun | n => n⟩
theorem Try.sortedA : Go.Proofs.SlLaysZI.n6 Try.prog Try.sortedA_ren := {
  mixed := by kernel_rfl
  f6 := ⟨Try.f43.name, by decide, Try.func43.trans (congrArg some (by kernel_rfl))⟩
  f8 := ⟨Try.f66.name, by decide, Try.func66.trans (congrArg some (by kernel_rfl))⟩
  f11 := ⟨Try.f90.name, by decide, Try.func90.trans (congrArg some (by kernel_rfl))⟩
  t0 := Try.underlying0
  a0 := Try.isAgg0
  z0 := Try.sizeOf0
  v0 := Try.zeroValue0
  t24 := Try.underlying25
  a24 := Try.isAgg25
  z24 := Try.sizeOf25
  v24 := Try.zeroValue25
  t26 := Try.underlying3
  a26 := Try.isAgg3
  z26 := Try.sizeOf3
  v26 := Try.zeroValue3
  t28 := Try.underlying88
  a28 := Try.isAgg88
  z28 := Try.sizeOf88
  v28 := Try.zeroValue88
  i26 := by kernel_rfl }
def Try.sortA_ren : Go.Shelf.Ren := ⟨fun | 5 => 67 | 8 => 92 | 7 => 91 | 19 => 110 | 20 => 111 | 10 => 101 | 11 => 102 | 12 => 103 | 13 => 104 | 14 => 105 | 15 => 106 | 16 => 107 | 17 => 108 | 18 => 109 | 30 => 114 | 31 => 115 | 32 => 116 | 33 => 117 | 34 => 118 | 35 => 119 | 40 => 129 | n => n, fun | 23 => 25 | 25 => 3 | 3 => 3 | 32 => 116 | 22 => 25 | 0 => 0 | 44 => 28 | 46 => 127 | 4 => 4 | 36 => 151 | 35 => 150 | 41 => 155 | 5 => 5 | 9 => 9 | 53 => 160 | 57 => 164 | 63 => 172 | 64 => 173 | n => n, fun | n => n⟩
theorem Try.sortA : Go.Proofs.SlLaysM.n5 Try.prog Try.sortA_ren := {
  mixed := by kernel_rfl
  f5 := ⟨Try.f67.name, by decide, Try.func67.trans (congrArg some (by kernel_rfl))⟩
  f7 := ⟨Try.f91.name, by decide, Try.func91.trans (congrArg some (by kernel_rfl))⟩
  f8 := Try.func92.trans (congrArg some (by kernel_rfl))
  f10 := ⟨Try.f101.name, by decide, Try.func101.trans (congrArg some (by kernel_rfl))⟩
  f11 := ⟨Try.f102.name, by decide, Try.func102.trans (congrArg some (by kernel_rfl))⟩
  f12 := ⟨Try.f103.name, by decide, Try.func103.trans (congrArg some (by kernel_rfl))⟩
  f13 := ⟨Try.f104.name, by decide, Try.func104.trans (congrArg some (by kernel_rfl))⟩
  f14 := ⟨Try.f105.name, by decide, Try.func105.trans (congrArg some (by kernel_rfl))⟩
  f15 := ⟨Try.f106.name, by decide, Try.func106.trans (congrArg some (by kernel_rfl))⟩
  f16 := ⟨Try.f107.name, by decide, Try.func107.trans (congrArg some (by kernel_rfl))⟩
  f17 := ⟨Try.f108.name, by decide, Try.func108.trans (congrArg some (by kernel_rfl))⟩
  f18 := ⟨Try.f109.name, by decide, Try.func109.trans (congrArg some (by kernel_rfl))⟩
  f19 := Try.func110.trans (congrArg some (by kernel_rfl))
  f20 := Try.func111.trans (congrArg some (by kernel_rfl))
  f30 := ⟨Try.f114.name, by decide, Try.func114.trans (congrArg some (by kernel_rfl))⟩
  f31 := Try.func115.trans (congrArg some (by kernel_rfl))
  f32 := Try.func116.trans (congrArg some (by kernel_rfl))
  f33 := ⟨Try.f117.name, by decide, Try.func117.trans (congrArg some (by kernel_rfl))⟩
  f34 := ⟨Try.f118.name, by decide, Try.func118.trans (congrArg some (by kernel_rfl))⟩
  f35 := ⟨Try.f119.name, by decide, Try.func119.trans (congrArg some (by kernel_rfl))⟩
  f40 := ⟨Try.f129.name, by decide, Try.func129.trans (congrArg some (by kernel_rfl))⟩
  t0 := Try.underlying0
  a0 := Try.isAgg0
  z0 := Try.sizeOf0
  v0 := Try.zeroValue0
  t3 := Try.underlying3
  a3 := Try.isAgg3
  z3 := Try.sizeOf3
  v3 := Try.zeroValue3
  t4 := Try.underlying4
  a4 := Try.isAgg4
  z4 := Try.sizeOf4
  v4 := Try.zeroValue4
  t5 := Try.underlying5
  a5 := Try.isAgg5
  z5 := Try.sizeOf5
  v5 := Try.zeroValue5
  t9 := Try.underlying9
  a9 := Try.isAgg9
  z9 := Try.sizeOf9
  v9 := Try.zeroValue9
  t22 := Try.underlying25
  a22 := Try.isAgg25
  z22 := Try.sizeOf25
  v22 := Try.zeroValue25
  t23 := Try.underlying25
  a23 := Try.isAgg25
  z23 := Try.sizeOf25
  v23 := Try.zeroValue25
  t25 := Try.underlying3
  a25 := Try.isAgg3
  z25 := Try.sizeOf3
  v25 := Try.zeroValue3
  t32 := Try.underlying116
  a32 := Try.isAgg116
  z32 := Try.sizeOf116
  v32 := Try.zeroValue116
  t35 := Try.underlying150
  a35 := Try.isAgg150
  z35 := Try.sizeOf150
  v35 := Try.zeroValue150
  t36 := Try.underlying151
  a36 := Try.isAgg151
  z36 := Try.sizeOf151
  v36 := Try.zeroValue151
  t41 := Try.underlying155
  a41 := Try.isAgg155
  z41 := Try.sizeOf155
  v41 := Try.zeroValue155
  t44 := Try.underlying28
  a44 := Try.isAgg28
  z44 := Try.sizeOf28
  v44 := Try.zeroValue28
  t46 := Try.underlying127
  a46 := Try.isAgg127
  z46 := Try.sizeOf127
  v46 := Try.zeroValue127
  t53 := Try.underlying160
  a53 := Try.isAgg160
  z53 := Try.sizeOf160
  v53 := Try.zeroValue160
  t57 := Try.underlying164
  a57 := Try.isAgg164
  z57 := Try.sizeOf164
  v57 := Try.zeroValue164
  t63 := Try.underlying172
  a63 := Try.isAgg172
  z63 := Try.sizeOf172
  v63 := Try.zeroValue172
  t64 := Try.underlying173
  a64 := Try.isAgg173
  z64 := Try.sizeOf173
  v64 := Try.zeroValue173 }
end Go.Proofs
end

section
namespace Go.Proofs
open Go.RowKit Go.Maps Go.Sort Go.Shelf
/-- slices.Sort's two contracts here. -/
theorem Try.sortsA (m : Nat) : AnyZI.SortsIn Try.prog Try.sortedA_ren Fence.wide m :=
  ⟨fun blk off cap ss W hH hblk hsz => callsIn_wide.2 (AnyM.slices_Sort_int Try.sortA blk off cap ss W hH hblk hsz),
   fun p cap W => callsIn_wide.2 (AnyM.slices_Sort_int_none Try.sortA p cap W)⟩
/-- maps.Keys: the map is boxed, the function captures the box. -/
theorem Try.keys_any (mb : Option Nat) (W : World) : Calls Try.prog 44 #[.map mb] W fun e w' => e = .returned (.func (.func 68) #[] #[.pointer (some ⟨W.heap.size, 0, none⟩)]) ∧ w' = W.alloc (.cells #[.map mb] 83) :=
  (callsIn_wide (n := 5)).1 (AnyZI.keys_in Try.keysA Fence.wide 5 trivial rfl mb W)
/-- slices.Sorted of the keys of a map that is not nil. -/
theorem Try.sorted_any {H : Type} (b nn : Nat) (D0 : DataW H) (R : Value → Option (DataW H × List MemPlace)) (w : World) (hown : w.ownsMap Try.prog 3 R b nn D0) (hmax : Maps.size D0 ≤ maxLen) (hbytes : Maps.size D0 * 8 ≤ 140737488355328) :
    Calls Try.prog 43 #[.func (.func 68) #[] #[.pointer (some ⟨w.heap.size, 0, none⟩)]] (w.alloc (.cells #[.map (some b)] 83)) fun e w' => ∃ (v : Value) (ss : List Int), e = .returned v ∧ ss.Perm (intKeys D0) ∧
      w'.ownsRow (w.alloc (.cells #[.map (some b)] 83)).heap.size 3 1 v ss.length ((ss.mergeSort (fun x y => decide (x ≤ y))).map encZ) ∧ (v = .slice none 0 0 ↔ ss = []) ∧ Below (w.alloc (.cells #[.map (some b)] 83)).heap.size (w.alloc (.cells #[.map (some b)] 83)) w' := by
  have hbl := hown.lt
  have hseq : SeqGives Fence.wide 2 Try.prog 68 #[.pointer (some ⟨w.heap.size, 0, none⟩)] encZ (fun ss => ss.Perm (intKeys D0)) (Maps.size D0) (w.alloc (.cells #[.map (some b)] 83)) :=
    AnyZI.keys_gives (ρ := Try.keysA_ren) { Try.keysA with } Fence.wide _ trivial rfl (by omega) w.heap.size b nn D0 _ (by simp) (by simp) (by
      obtain ⟨es, clock, hb, Ft, hs, hD⟩ := hown
      exact ⟨es, clock, (Below.heap_alloc _ _ b hbl).trans hb, Ft, hs, hD⟩)
  have cS := AnyZI.sorted_in Try.sortedA Fence.wide 5 trivial trivial trivial trivial rfl (by omega) (Try.sortsA _) (enters_of Try.func67 (by kernel_rfl) rfl) 68 #[.pointer (some ⟨w.heap.size, 0, none⟩)] trivial (enters_of Try.func68 (by kernel_rfl) rfl) _ _ hmax hbytes _ hseq
  exact (callsIn_wide (n := 5)).1 cS
end Go.Proofs
end

section
namespace Go.Proofs.Ytjppookmjdaplaa.K
open Go Go.RowKit Go.Maps Go.Proofs.YtjppookmjdaplaaW.PrintWords Go.Proofs.YtjppookmjdaplaaW.PrintLast Go.Proofs.YtjppookmjdaplaaW.PrintMore Go.Proofs.Ytjppookmjdaplaa.My
attribute [local go_sem] Oper.semAt_some
attribute [local go_sem] kJ
/-- Is u a node of one of lo .. hi - 1? -/
def xM (l : List TSp) (lo hi : Int) (x : Int) : Bool := (List.range (hi - lo).toNat).any fun i => decide (kU l (lo + (i : Nat)) = x)
abbrev loN (a : Int) : Int := mx a 0
abbrev hiN (b : Int) : Int := mn b 10000
def pO (l : List TSp) (a b : Int) : List Int := ([0, 1, 2, 3, 4, 5] : List Int).filter (xM l (loN a) (hiN b))
theorem oW (l : List TSp) (lo hi x : Int) : xM l lo hi x = true ↔ ∃ u, lo ≤ u ∧ u < hi ∧ kU l u = x := by
  simp only [xM, List.any_eq_true, List.mem_range, decide_eq_true_eq]
  constructor
  · rintro ⟨i, hi, rfl⟩
    exact ⟨lo + i, by omega, by omega, rfl⟩
  · rintro ⟨u, h1, h2, rfl⟩
    exact ⟨(u - lo).toNat, by omega, by congr 1; omega⟩
/-- The map's keys: the nodes found so far. -/
def KeyI (D : DataW Nat) : Prop := ∃ es, D = .map es ∧ es.Pairwise (fun p q => p.1 ≠ q.1) ∧ ∀ p ∈ es, ∃ x, p.1 = .int .i64 x
theorem isKey (x : Int) : WideAt.IsKeyLit (.int .i64 x) := by simp [WideAt.IsKeyLit]
theorem KeyI.put {D : DataW Nat} (h : KeyI D) (x : Int) (d : DataW Nat) : KeyI (D.put (.int .i64 x) d) := by
  obtain ⟨es, rfl, h1, h2⟩ := h
  obtain ⟨es', he, h3⟩ := (show Tidy (.map es : DataW Nat) from ⟨es, rfl, h1⟩).put (isKey x) d
  refine ⟨es', he, h3, fun p hp => ?_⟩
  have he' : (DataW.map es : DataW Nat).put (.int .i64 x) d = .map (DataW.insert (.int .i64 x, d) (es.filter fun p => !p.1.sameKey (.int .i64 x))) := rfl
  rw [he'] at he
  cases he
  have := (WideShapes.insert_perm _ _).mem_iff.1 hp
  rcases List.mem_cons.1 this with rfl | hm
  · exact ⟨x, rfl⟩
  · exact h2 p (List.mem_filter.1 hm).1
def spans_Nodes.f (a0 : Int) (l : List TSp) (a b : Int) : Option (List Int) := if (l.length : Int) ≤ 8796093022208 then some (pO l a b) else none
end Go.Proofs.Ytjppookmjdaplaa.K
end

section
namespace Go.Proofs.Ytjppookmjdaplaa.K
open Go Go.RowKit Go.Maps Go.Proofs.YtjppookmjdaplaaW.PrintWords Go.Proofs.YtjppookmjdaplaaW.PrintLast Go.Proofs.YtjppookmjdaplaaW.PrintMore Go.Proofs.Ytjppookmjdaplaa.My
variable {Z : Nat}
attribute [local go_sem] Oper.semAt_some
abbrev kS : Kd TSp := k96
theorem JP : (Try.prog.info? 96).map (fun i => (i.zero, i.size, i.bytes)) = some (some (.agg #[.int .i64 0, .int .i64 0]), kS.sz, 16) := by kernel_rfl
theorem OS.empty (w : World) : kS.R 96 (w.alloc (.cells #[] 96)) w.heap.size (fun _ => True) (.slice (some ⟨w.heap.size, 0, none⟩) 0 0) [] :=
  ⟨fun _ _ => trivial, kX.lit w w.heap.size (inner := []) (ps := []) (Reps.none _ _) (Nat.le_refl _) (by simp)⟩
theorem LJ {w : World} {n : Nat} {l : List TSp} (h : kS.C w none n l) : l = [] ∧ n = 0 := by
  have h1 := h.1
  rcases Nat.eq_zero_or_pos n with h0 | h0
  · subst h0; exact ⟨List.length_eq_zero_iff.1 h1, rfl⟩
  · obtain ⟨ad, e, _⟩ := h.2.2 h0; cases e
set_option maxHeartbeats 1000000 in
theorem qG (A : Option Addr) (c : Nat) (l : List TSp) (w : World) (hr : kS.C w A l.length l) (hc : l.length ≤ c) (hs : (l.length : Int) ≤ 8796093022208) :
    Calls Try.prog 49 #[.slice A l.length c] w fun e w' => ∃ v0_, e = .returned v0_ ∧ kS.R 96 w' w.heap.size (fun _ => True) v0_ l ∧ Below w.heap.size w w' := by
  have hnil := fun (w : World) (a : Option Addr) (n c : Nat) => Lib.run_eql_slice_nil (P := Try.prog) w 40 96 a n c 0 0 Try.underlying40
  cases A with
  | none =>
    obtain ⟨rfl, _⟩ := LJ hr
    go_enter Try.func49, Try.ntmps49
    go_wp2
    go_ret
    exact ⟨_, rfl, Kd.R_nil _ _ _ _ _, Below.refl _ _⟩
  | some ad =>
    have HL := iC.mk hr
    clear hr
    go_enter Try.func49, Try.ntmps49
    go_wp2_with (at_builtin; refine Kd.R_append_rows kS (w0 := w) w.heap.size rfl (.tmp 5) (.tmp 6) 40 96 (.agg #[.int .i64 0, .int .i64 0]) 16 rfl Try.underlying40 JP rfl (by decide) (by omega) (.slice (some ⟨w.heap.size, 0, none⟩) 0 0) [] l _ _ _ (fun _ => True) (fun _ => False) rfl rfl (OS.empty w) ?aR (fun _ _ h => h) (fun _ h => h.elim) (fun _ _ => trivial) ?aB ?aS ?aL ?_; (case aR => exact Kd.C_below HL.out (by (repeat (first | exact Below.refl _ _ | apply iF | apply iP | apply iG | apply below_bytesWorld | (refine iH ?_ (by first | assumption | omega)) | refine iQ ?_ (by assumption))))); (case aB => (repeat (first | exact Below.refl _ _ | apply iF | apply iP | apply iG | apply below_bytesWorld | (refine iH ?_ (by first | assumption | omega)) | refine iQ ?_ (by assumption)))); (case aS => exact iW (by (repeat (first | exact Below.refl _ _ | apply iF | apply iP | apply iG | apply below_bytesWorld | (refine iH ?_ (by first | assumption | omega)) | refine iQ ?_ (by assumption))))); (case aL => simp; omega); intro v1 w2 HO HB hg hat)
    go_ret
    exact ⟨_, rfl, HO, HB⟩
section
variable {w : World} {B c : Nat} {s : CS} {n : Nat}
theorem CB.lacks_sorted {b : CB} (hb : Rt b.nodes) {D : DataW Nat} (hk : KI D) (hm : ∀ x : Int, has D (.int .i64 x) = true ↔ x ∈ b.lacks) {ss : List Int} (hp : ss.Perm (intKeys D)) : ss.mergeSort (fun x y => decide (x ≤ y)) = b.lacks := by
  obtain ⟨es, rfl, h1, h2⟩ := hk
  have hnd : b.lacks.Nodup := hb.nodup.sublist List.filter_sublist
  have hq := perm_intKeys h1 h2 hnd (fun x => (hm x).symm)
  have h5 := mergeSort_of_perm_i (hp.trans hq.symm)
  rw [show (ss.mergeSort fun x y => decide (x ≤ y)) = ss.mergeSort leI from rfl, h5]
  refine List.mergeSort_of_pairwise (le := leI) ?_
  exact (hb.asc.sublist List.filter_sublist).imp (fun h => by simp [leI]; omega)
set_option maxRecDepth 20000 in
theorem yX (h : Co Z w B c n s) {id : Int} (hid : 0 ≤ id ∧ id < 4294967296) :
    Calls Try.prog 15 #[.pointer (some ⟨c, 0, none⟩), .int .u32 id] w fun e w' => ∃ v, e = .returned v ∧ ki.R 3 w' w.heap.size (fun _ => True) v (s.lacks id) ∧ Below w.heap.size w w' := by
  obtain ⟨mb, D, ptr, mp, h⟩ := h
  have c0 := h.cells.1
  have hl := h.look hid
  unfold ptrV at hl
  unfold CS.lacks
  cases hg : getB s.L id with
  | none =>
    simp only [hg] at hl ⊢
    clear h hg hid
    go_enter Try.func15, Try.ntmps15
    go_wp2
    go_ret
    exact ⟨_, rfl, Kd.R_nil _ _ _ _ _, Below.refl _ _⟩
  | some b =>
    simp only [hg] at hl ⊢
    obtain ⟨_, _, z3, z4⟩ := (h.bat id b hg).cells
    obtain ⟨E, hE, hk, hm⟩ := (h.bat id b hg).map
    have hrt := (h.ok.bat _ (vT hg)).2.2
    have hsz := hE.size_le
    have hsort := Try.sorted_any (mp id) 6 E (plainElem Try.prog 3) w hE (by unfold maxLen; omega) (by omega)
    have HF := iC.mk (fun (ss : List Int) (hp : ss.Perm (intKeys E)) => CB.lacks_sorted hrt hk hm hp)
    clear h hg hid hE hk hm hrt hsz
    cases hen : b.ended
    · rw [hen] at z4
      simp only [Bool.false_eq_true, if_false]
      clear hen
      go_enter Try.func15, Try.ntmps15
      go_wp2_with (first
        | (go_at_call 44; refine (Try.keys_any _ _).mono ?_; rintro e w2 ⟨rfl, rfl⟩)
        | (go_at_call 43; refine hsort.mono ?_; rintro e w3 ⟨vv, ss, rfl, hS, hrow, hnil, hb⟩; rw [HF.out ss hS] at hrow; have hlen := hS.length_eq))
      go_ret
      have hle : ss.length = b.lacks.length := by rw [← HF.out ss hS, List.length_mergeSort]
      rw [hle] at hrow
      exact ⟨vv, rfl, Kd.R_lower (Kd.R_of_own hrow (fun _ _ => trivial)) (by simp), (iF (Below.refl _ _) _).trans (hb.mono (by simp))⟩
    · rw [hen] at z4
      simp only [if_true]
      clear hen
      go_enter Try.func15, Try.ntmps15
      go_wp2
      go_ret
      exact ⟨_, rfl, Kd.R_nil _ _ _ _ _, Below.refl _ _⟩
end
end Go.Proofs.Ytjppookmjdaplaa.K
end

section
namespace Go.Proofs.Ytjppookmjdaplaa.My
open Go Go.RowKit Go.Proofs.YtjppookmjdaplaaW.PrintWords Go.Proofs.YtjppookmjdaplaaW.PrintLast
def entries (D : List Tmp) (vs : Nat → Value) : List (Nat × Tmp × Value) := (List.range D.length).map fun i => (i, D.getD i 0, vs i)
theorem kH {D : List Tmp} {vs : Nat → Value} {i : Nat} (h : i < D.length) : (entries D vs)[i]? = some (i, D.getD i 0, vs i) := by
  unfold entries
  rw [List.getElem?_map, List.getElem?_range h]
  rfl
theorem kD (D : List Tmp) (vs : Nat → Value) : (entries D vs).length = D.length := by simp [entries]
theorem uV {D : List Tmp} {vs : Nat → Value} {i : Nat} (v : Value) : (entries D vs).set i (i, D.getD i 0, v) = entries D (fun j => if j = i then v else vs j) := by
  apply List.ext_getElem?
  intro j
  by_cases hj : j < D.length
  · by_cases hij : i = j
    · subst hij
      rw [List.getElem?_set_self (by rw [kD]; exact hj), kH hj, if_pos rfl]
    · rw [List.getElem?_set_ne hij, kH hj, kH hj, if_neg (Ne.symm hij)]
  · rw [List.getElem?_eq_none (by simp [kD]; omega), List.getElem?_eq_none (by rw [kD]; omega)]
/-- The places of D other than i do not hold D's i-th. -/
def oP (D : List Tmp) : Bool := decide D.Nodup
theorem xR {D : List Tmp} (h : D.Nodup) {i j : Nat} (hi : i < D.length) (hj : j < D.length) (e : D.getD i 0 = D.getD j 0) : i = j := by
  rw [List.getD_eq_getElem?_getD, List.getD_eq_getElem?_getD, List.getElem?_eq_getElem hi, List.getElem?_eq_getElem hj] at e
  simp only [Option.getD_some] at e
  have hp := List.pairwise_iff_getElem.1 h
  rcases Nat.lt_trichotomy i j with hij | hij | hij
  · exact absurd e (hp i j hi hj hij)
  · exact hij
  · exact absurd e.symm (hp j i hj hi hij)
theorem oI {b b' : Nat → Bool} : ∀ {L : List (Nat × Tmp × Value)} {a : Act}, (∀ e ∈ L, b e.1 = b' e.1) → jU a b L = jU a b' L
  | [], _, _ => rfl
  | e :: L, a, h => by
    unfold jU
    rw [h e List.mem_cons_self]
    exact oI (fun x hx => h x (List.mem_cons_of_mem _ hx))
theorem nJ {D : List Tmp} {vs : Nat → Value} {i : Nat} (hD : oP D = true) (hi : i < D.length) :
    (((entries D vs).take i ++ (entries D vs).drop (i + 1)).all fun e => !(e.1 == i) && !(e.2.1 == D.getD i 0)) = true := by
  have hnd : D.Nodup := of_decide_eq_true hD
  rw [List.all_eq_true]
  intro e he
  obtain ⟨j, hj, hne⟩ : ∃ j, (entries D vs)[j]? = some e ∧ j ≠ i := by
    rcases List.mem_append.1 he with h | h
    · obtain ⟨j, hj⟩ := List.getElem?_of_mem h
      rw [List.getElem?_take] at hj
      split at hj
      · exact ⟨j, hj, by omega⟩
      · cases hj
    · obtain ⟨j, hj⟩ := List.getElem?_of_mem h
      rw [List.getElem?_drop] at hj
      exact ⟨_, hj, by omega⟩
  have hjl : j < D.length := by have := (List.getElem?_eq_some_iff.1 hj).1; rwa [kD] at this
  rw [kH hjl] at hj
  simp only [Option.some.injEq] at hj
  subst hj
  simp only [Bool.and_eq_true, Bool.not_eq_true', beq_eq_false_iff_ne]
  exact ⟨hne, fun e => hne (xR hnd hjl hi e)⟩
section
variable {P : Program} {ops : Array Oper} {Q : Exit → Act → World → Prop} {T : Bool × List (List Nat × List Nat)} {B : List Nat}
/-- One operation: whatever has come up before it, if all that it waits for has. -/
def mG (P : Program) (ops : Array Oper) (Q : Exit → Act → World → Prop) (B : List Nat) (D : List Tmp) (R : Nat → Value → World → Prop) (a0 : Act) (w0 : World) (i : Nat) : Prop :=
  ∀ (a : Act) (w : World) (vs : Nat → Value), Below w0.heap.size w0 w → (∀ s, D.contains s = false → a.tmps[s]? = a0.tmps[s]?) →
    (∀ j, (B.getD i 0).testBit j = true → a.tmps[D.getD j 0]? = some (vs j) ∧ R j (vs j) w) →
    ∃ oi, ops[i]? = some oi ∧ oi.dst = some (D.getD i 0) ∧ ∀ K : Act → World → Prop, (∀ v w', R i v w' → Below w.heap.size w w' → K (a.put (some (D.getD i 0)) v) w') →
      if Region.wanted oi (yielded ops a.tmps) = true then Oper.wp P oi a w K Q else K (a.put (some (D.getD i 0)) undef) w
theorem yF {D : List Tmp} {R : Nat → Value → World → Prop} {a0 : Act} {w0 : World} : ∀ i ∈ ([] : List Nat), mG P ops Q B D R a0 w0 i := fun _ h => by cases h
theorem kQ {D : List Tmp} {R : Nat → Value → World → Prop} {a0 : Act} {w0 : World} {i : Nat} {rs : List Nat} (h : mG P ops Q B D R a0 w0 i) (hs : ∀ j ∈ rs, mG P ops Q B D R a0 w0 j) : ∀ j ∈ i :: rs, mG P ops Q B D R a0 w0 j := fun j hj => by
  rcases List.mem_cons.1 hj with rfl | hj
  · exact h
  · exact hs j hj
/-- What stays known while memory grows. -/
def Rm (r : Value → World → Prop) : Prop := ∀ v w w', r v w → Below w.heap.size w w' → r v w'
theorem MQ (t : Value) : Rm (fun v _ => v = t) := fun _ _ _ h _ => h
theorem JW : ∀ r ∈ ([] : List (Value → World → Prop)), Rm r := fun _ h => by cases h
theorem lN {r : Value → World → Prop} {rs : List (Value → World → Prop)} (h : Rm r) (hs : ∀ r ∈ rs, Rm r) : ∀ x ∈ r :: rs, Rm x := fun x hx => by
  rcases List.mem_cons.1 hx with rfl | hx
  · exact h
  · exact hs x hx
def RR (Rs : List (Value → World → Prop)) : Nat → Value → World → Prop := fun i => Rs.getD i (fun _ _ => True)
theorem LX {Rs : List (Value → World → Prop)} (h : ∀ r ∈ Rs, Rm r) : ∀ i v w w', RR Rs i v w → Below w.heap.size w w' → RR Rs i v w' := by
  intro i v w w' hr hb
  unfold RR at *
  rcases Nat.lt_or_ge i Rs.length with hl | hl
  · have e : Rs.getD i (fun _ _ => True) = Rs[i] := by rw [List.getD_eq_getElem?_getD, List.getElem?_eq_getElem hl]; rfl
    rw [e] at hr ⊢
    exact h _ (List.getElem_mem hl) v w w' hr hb
  · rw [List.getD_eq_getElem?_getD, List.getElem?_eq_none hl]
    trivial
theorem vH {id : Nat} {a0 : Act} {w0 : World} (D : List Tmp) (R : Nat → Value → World → Prop) (hm : P.follows .mixedOrders = true)
    (hT : rtab .any ops = T) (hw : lC T.2 B = true) (hk : lU T.2 (List.range ops.size) = true) (hD : oP D = true) (hDn : D.length = ops.size)
    (hin : (D.all fun t => Nat.ble (t + 1) a0.tmps.size) = true) (hBn : ((List.range ops.size).all fun i => Nat.ble (B.getD i 0) (2 ^ ops.size - 1)) = true)
    (hmono : ∀ i v w w', R i v w → Below w.heap.size w w' → R i v w')
    (hs : ∀ i ∈ List.range ops.size, mG P ops Q B D R a0 w0 i)
    (hend : ∀ (vs : Nat → Value) (w : World), Below w0.heap.size w0 w → (∀ i, i < ops.size → R i (vs i) w) → Q .normal (jU a0 (fun _ => true) (entries D vs)) w) :
    (Code.region id ops true).wp P Q a0 w0 := by
  have hTl : T.2.length = ops.size := by rw [← hT, lF]
  refine jQ (n := ops.size) (S := fun _ => True) (ds := []) (Array.replicate ops.size false) hm rfl rfl trivial (fun _ => ?_)
  refine inv_ (T := T) (B := B) (List.range ops.size) (fun b a w => ∃ vs : Nat → Value, a = jU a0 b (entries D vs) ∧ (∀ i, i < ops.size → b i = true → R i (vs i) w) ∧ Below w0.heap.size w0 w) hT hw hk ?_ ?_ ?_ ?_
  · simp only [Bool.and_eq_true, beq_iff_eq, List.length_range, and_true]
    rw [hTl]
    apply List.ext_getElem
    · simp [lof]
    · intro i h1 h2
      simp [lof] at h1 ⊢
      exact h1
  · refine ⟨fun _ => undef, ?_, (fun _ _ h => by cases h), iP (Below.refl _ _)⟩
    have : ∀ (L : List (Nat × Tmp × Value)) (a : Act), jU a (fun _ => false) L = a := by
      intro L
      induction L with
      | nil => intro a; rfl
      | cons e L ih => intro a; unfold jU; rw [if_neg (by simp)]; exact ih a
    rw [this]
  · intro i hi
    have hil : i < ops.size := List.mem_range.1 hi
    have hiD : i < D.length := by omega
    intro b a w ⟨vs, ha, hR, hB⟩ hb hon hoff
    have hsz : ∀ s, D.contains s = false → a.tmps[s]? = a0.tmps[s]? := by
      intro s hsD
      rw [ha]
      refine mP ?_
      rw [List.all_eq_true]
      intro e he
      obtain ⟨j, hj⟩ := List.getElem?_of_mem he
      have hjl : j < D.length := by have := (List.getElem?_eq_some_iff.1 hj).1; rwa [kD] at this
      rw [kH hjl] at hj
      simp only [Option.some.injEq] at hj
      subst hj
      simp only [Bool.not_eq_true', beq_eq_false_iff_ne]
      intro h
      have : D.contains s = true := by
        rw [List.contains_iff_mem, ← h, List.getD_eq_getElem?_getD, List.getElem?_eq_getElem hjl]
        exact List.getElem_mem hjl
      rw [this] at hsD
      cases hsD
    have hdep : ∀ j, (B.getD i 0).testBit j = true → a.tmps[D.getD j 0]? = some (vs j) ∧ R j (vs j) w := by
      intro j hj
      have hjn : j < ops.size := by
        rcases Nat.lt_or_ge j ops.size with h | h
        · exact h
        · have h1 := List.all_eq_true.1 hBn i hi
          have h2 : B.getD i 0 ≤ 2 ^ ops.size - 1 := Nat.le_of_ble_eq_true h1
          have h3 : B.getD i 0 < 2 ^ j := Nat.lt_of_le_of_lt h2 (Nat.lt_of_lt_of_le (Nat.sub_lt (Nat.two_pow_pos _) Nat.one_pos) (Nat.pow_le_pow_right (by decide) h))
          rw [Nat.testBit_lt_two_pow h3] at hj
          cases hj
      have hbj : b j = true := hon j (by rw [Bool.and_eq_true]; exact ⟨by simpa using hjn, hj⟩)
      refine ⟨?_, hR j hjn hbj⟩
      rw [ha]
      have hjD : j < D.length := by omega
      refine rX (e := (j, D.getD j 0, vs j)) j (kH hjD) ?_ hbj ?_
      · have := nJ (vs := vs) hD hjD
        rw [List.all_append, Bool.and_eq_true] at this
        have h2 := this.2
        rw [List.all_eq_true] at h2 ⊢
        intro x hx
        have := h2 x hx
        rw [Bool.and_eq_true] at this
        exact this.2
      · have h1 := List.all_eq_true.1 hin (D.getD j 0) (by rw [List.getD_eq_getElem?_getD, List.getElem?_eq_getElem hjD]; exact List.getElem_mem hjD)
        exact h1
    obtain ⟨oi, ho, hdst, hstep⟩ := hs i hi a w vs hB hsz hdep
    refine ⟨oi, ho, fun K hK => ?_⟩
    rw [hdst]
    refine hstep K fun v w' hv hbw => ?_
    refine hK.out _ _ ⟨fun j => if j = i then v else vs j, ?_, ?_, iQ hB hbw⟩
    · rw [ha]
      exact xY i hb (kH hiD) (uV v) (nJ hD hiD)
    · intro j hj hbj
      by_cases hji : j = i
      · subst hji
        simp only [if_pos]
        exact hv
      · simp only [if_neg hji]
        rw [uK hji] at hbj
        exact hmono _ _ _ _ (hR j hj hbj) hbw
  · intro b a w hall ⟨vs, ha, hR, hB⟩
    have : jU a0 b (entries D vs) = jU a0 (fun _ => true) (entries D vs) := by
      have hlt : ∀ e ∈ entries D vs, b e.1 = true := by
        intro e he
        obtain ⟨j, hj⟩ := List.getElem?_of_mem he
        have hjl : j < D.length := by have := (List.getElem?_eq_some_iff.1 hj).1; rwa [kD] at this
        rw [kH hjl] at hj
        simp only [Option.some.injEq] at hj
        subst hj
        exact hall j (by simpa using (by omega : j < ops.size))
      exact oI (fun e he => hlt e he)
    rw [ha, this]
    exact hend vs w hB (fun i hi => hR i hi (hall i (by simpa using hi)))
/-- The same, as it is used. -/
theorem MC {id : Nat} {a0 : Act} {w0 : World} (D : List Tmp) (Rs : List (Value → World → Prop)) (L : List Nat) (T : Bool × List (List Nat × List Nat)) (B : List Nat) (hm : P.follows .mixedOrders = true)
    (hT : rtab .any ops = T) (hL : List.range ops.size = L) (hw : lC T.2 B = true) (hk : lU T.2 L = true) (hD : oP D = true) (hDn : D.length = ops.size)
    (hin : (D.all fun t => Nat.ble (t + 1) a0.tmps.size) = true) (hBn : (L.all fun i => Nat.ble (B.getD i 0) (2 ^ D.length - 1)) = true)
    (hmono : ∀ r ∈ Rs, Rm r) (hs : ∀ i ∈ L, mG P ops Q B D (RR Rs) a0 w0 i)
    (hend : ∀ (vs : Nat → Value) (w : World), Below w0.heap.size w0 w → (∀ i, Nat.ble (i + 1) D.length = true → RR Rs i (vs i) w) → Q .normal (jU a0 (fun _ => true) (entries D vs)) w) :
    (Code.region id ops true).wp P Q a0 w0 := by
  subst hL
  rw [hDn] at hBn
  exact vH D (RR Rs) hm hT hw hk hD hDn hin hBn (LX hmono) hs (fun vs w hb h => hend vs w hb (fun i hi => h i (by have := Nat.le_of_ble_eq_true hi; omega)))
end
end Go.Proofs.Ytjppookmjdaplaa.My
end

section
namespace Go.Proofs.Ytjppookmjdaplaa.K
open Go Go.RowKit Go.Maps Go.Proofs.YtjppookmjdaplaaW.PrintWords Go.Proofs.YtjppookmjdaplaaW.PrintLast Go.Proofs.YtjppookmjdaplaaW.PrintMore Go.Proofs.Ytjppookmjdaplaa.My
variable {Z : Nat}
def RCl (B : Nat) (l : List Int) : Value → World → Prop := fun v w => ∃ A c, v = .slice A l.length c ∧ ki.R 3 w B (fun _ => True) (.slice A l.length c) l
theorem NS (B : Nat) (l : List Int) : Rm (RCl B l) := fun _ _ _ ⟨A, c, h1, h2⟩ hb => ⟨A, c, h1, Kd.R_below h2 hb⟩
def RMk (B : Nat) : Value → World → Prop := fun v w => ∃ m, v = .map (some m) ∧ OM w m 0 (.map []) ∧ B ≤ m
theorem NQ (B : Nat) : Rm (RMk B) := fun _ _ _ ⟨m, h1, h2, h3⟩ hb => ⟨m, h1, lG h2 (hb.block m h2.lt), h3⟩
def RBd (B : Nat) (st t : Int) (l : List Int) : Value → World → Prop := fun v w => ∃ A c m, v = .agg #[.int .u8 st, .int .u32 t, .slice A l.length c, .map (some m), .bool false] ∧ ki.R 3 w B (fun _ => True) (.slice A l.length c) l ∧ OM w m 0 (.map []) ∧ B ≤ m
theorem NK (B : Nat) (st t : Int) (l : List Int) : Rm (RBd B st t l) := fun _ _ _ ⟨A, c, m, h1, h2, h3, h4⟩ hb => ⟨A, c, m, h1, Kd.R_below h2 hb, lG h3 (hb.block m h3.lt), h4⟩
def RBx (B : Nat) (st t : Int) (l : List Int) : Value → World → Prop := fun v w => ∃ p A c m, v = .pointer (some ⟨p, 0, none⟩) ∧ w.heap[p]? = some (.cells #[.int .u8 st, .int .u32 t, .slice A l.length c, .map (some m), .bool false] 85 (0, 0)) ∧ ki.R 3 w B (fun _ => True) (.slice A l.length c) l ∧ OM w m 0 (.map []) ∧ B ≤ m ∧ B ≤ p
theorem MN (B : Nat) (st t : Int) (l : List Int) : Rm (RBx B st t l) := fun _ _ _ ⟨p, A, c, m, h1, h2, h3, h4, h5, h6⟩ hb => ⟨p, A, c, m, h1, iV hb h2, Kd.R_below h3 hb, lG h4 (hb.block m h4.lt), h5, h6⟩
theorem zG {w1 w2 : World} {B m : Nat} {l : List Int} {v : Value} (hR : ki.R 3 w1 B (fun _ => True) v l) {n : Nat} {D : DataW Nat} (hO : OM w1 m n D) (hg : w1.grownBy w2 (some m)) : ki.R 3 w2 B (fun _ => True) v l :=
  kZ hR (fun j q cs _ hj => lH hO hg j q cs hj)
theorem qR {l : List Int} {j : Nat} (hj : j < l.length) (x : Int) : x ∈ l.take (j + 1) ↔ x ∈ l.take j ∨ x = rd l j := by
  rw [pV 0 l j hj]
  simp [rd]
set_option maxRecDepth 20000 in
set_option maxHeartbeats 4000000 in
theorem JU {st t : Int} {A : Option Addr} {c : Nat} {l : List Int} (w : World) (hr : ki.C w A l.length l) (hc : l.length ≤ c) (hl : Rt l) (hz : Z < w.heap.size) :
    Calls Try.prog 40 #[.agg #[.int .u8 st, .int .u32 t], .slice A l.length c] w fun e w' => ∃ p m, e = .returned (.pointer (some ⟨p, 0, none⟩)) ∧ CoB Z w' w.heap.size p m ⟨st, t, l, [], false⟩ ∧ Below w.heap.size w w' := by
  have hl6 := hl.len
  obtain ⟨W, hW⟩ : ∃ W, W = w.alloc (.cells #[.int .u8 st, .int .u32 t] 36) := ⟨_, rfl⟩
  have hb : Below w.heap.size w W := by rw [hW]; exact iF (Below.refl _ _) _
  have hX : W.heap[w.heap.size]? = some (.cells #[.int .u8 st, .int .u32 t] 36 (0, 0)) := by rw [hW]; exact jD rfl
  have y0 := (iD hX 0).trans (show _ = some (Value.int .u8 st) from rfl)
  have y1 := (iD hX 1).trans (show _ = some (Value.int .u32 t) from rfl)
  have HL := iC.mk hr
  have HB := iC.mk hb
  have HW := iC.mk hW
  have HT := iC.mk hl
  have HC := iC.mk (Kd.C_below hr hb)
  clear hr hb hX hl hW
  go_enter Try.func40, Try.ntmps40
  go_upto_region 1 with fail
  rw [← HW.out]
  clear HW
  refine MC [8, 9, 10, 11, 12, 13, 5] [fun v _ => v = (.agg #[.int .u8 st, .int .u32 t]), fun v _ => v = (.slice A l.length c), RCl w.heap.size l, RMk w.heap.size, RBd w.heap.size st t l, RBx w.heap.size st t l, RBx w.heap.size st t l] [0, 1, 2, 3, 4, 5, 6] (true, [([], []), ([], []), ([1], [1]), ([], []), ([0, 2, 3], [0, 2, 3]), ([4], [4]), ([5, 2, 0, 1, 2, 3, 4, 5], [5])]) [0, 0, 2, 0, 15, 31, 63] (by kernel_rfl) (by kernel_rfl) (by kernel_rfl) (by kernel_rfl) (by kernel_rfl) (by kernel_rfl) (by kernel_rfl) (by rfl) (by kernel_rfl) ?_ ?_ ?_
  · exact (lN (MQ _) (lN (MQ _) (lN (NS _ l) (lN (NQ _) (lN (NK _ st t l) (lN (MN _ st t l) (lN (MN _ st t l) JW)))))))
  · refine kQ ?_ ?_
    · intro a w' vs hB hel hd
      have e2 : a.tmps[2]? = some (.pointer (some ⟨w.heap.size, 0, none⟩)) := (hel 2 (by kernel_rfl)).trans (by rfl)
      have q0 := jI hB y0
      have q1 := jI hB y1
      refine ⟨_, rfl, rfl, fun K hK => ?_⟩
      refine mV (w1 := w') (v := .agg #[.int .u8 st, .int .u32 t]) (by rfl) rfl ?_ (hK _ _ (by exact rfl) (Below.refl _ _))
      · go_simp
        (try simp only [iJ, zZ])
        (try rfl)
        (try (unfold Go.RowKit.wrap64; omega))
    refine kQ ?_ ?_
    · intro a w' vs hB hel hd
      have e1 : a.tmps[1]? = some (.slice A l.length c) := (hel 1 (by kernel_rfl)).trans (by rfl)
      refine ⟨_, rfl, rfl, fun K hK => ?_⟩
      refine mV (w1 := w') (v := .slice A l.length c) (by rfl) rfl ?_ (hK _ _ (by exact rfl) (Below.refl _ _))
      · go_simp
        (try simp only [iJ, zZ])
        (try rfl)
        (try (unfold Go.RowKit.wrap64; omega))
    refine kQ ?_ ?_
    · intro a w' vs hB hel hd
      obtain ⟨f9, r9⟩ := hd 1 (by kernel_rfl)
      have e9 : a.tmps[9]? = some (.slice A l.length c) := f9.trans (congrArg some (r9 : vs 1 = (.slice A l.length c)))
      refine ⟨_, rfl, rfl, fun K hK => ?_⟩
      refine l7 Try.func55 (by kernel_rfl) rfl #[.slice A l.length c] (by rfl) rfl rfl (by first | (simp only [List.map_toArray, List.map_cons, List.map_nil, Act.eval, Array.getD_eq_getD_getElem?, Option.getD_some, e9]; done) | (simp only [List.map_toArray, List.map_cons, List.map_nil, Act.eval, Array.getD_eq_getD_getElem?, Option.getD_some, e9]; rfl)) ?_
      refine (slices_Clone_int_int.calls A c l l _ (Kd.C_below HC.out hB) hc (by unfold slices_Clone_int_int.f; rw [if_pos (by omega)])).mono ?_
      rintro e_ w2_ ⟨v_, rfl, hR_, hb2_⟩
      obtain ⟨A_, c_, rfl⟩ := Kd.R_slice hR_
      exact ⟨_, rfl, hK _ _ ⟨A_, c_, rfl, Kd.R_lower hR_ (Nat.le_trans HB.out.size hB.size)⟩ hb2_⟩
    refine kQ ?_ ?_
    · intro a w' vs hB hel hd
      refine ⟨_, rfl, rfl, fun K hK => ?_⟩
      refine mV (w1 := w'.alloc (.map #[] 0)) (v := .map (some w'.heap.size)) (by rfl) rfl ?_ (hK _ _ ⟨_, rfl, World.ownsMap_made _ _ _ _, Nat.le_trans HB.out.size hB.size⟩ (iF (Below.refl _ _) _))
      · go_simp; (try rfl)
    refine kQ ?_ ?_
    · intro a w' vs hB hel hd
      obtain ⟨f8, r8⟩ := hd 0 (by kernel_rfl)
      have e8 : a.tmps[8]? = some (.agg #[.int .u8 st, .int .u32 t]) := f8.trans (congrArg some (r8 : vs 0 = (.agg #[.int .u8 st, .int .u32 t])))
      obtain ⟨f10, r10⟩ := hd 2 (by kernel_rfl)
      obtain ⟨A2_, c2_, hv2_, hR2_⟩ := (r10 : (RCl w.heap.size l) (vs 2) w')
      have e10 : a.tmps[10]? = some (.slice A2_ l.length c2_) := f10.trans (congrArg some hv2_)
      obtain ⟨f11, r11⟩ := hd 3 (by kernel_rfl)
      obtain ⟨m3_, hv3_, hO3_, hm3_⟩ := (r11 : (RMk w.heap.size) (vs 3) w')
      have e11 : a.tmps[11]? = some (.map (some m3_)) := f11.trans (congrArg some hv3_)
      refine ⟨_, rfl, rfl, fun K hK => ?_⟩
      refine mV (w1 := w') (v := .agg #[.int .u8 st, .int .u32 t, .slice A2_ l.length c2_, .map (some m3_), .bool false]) (by rfl) rfl ?_ (hK _ _ ⟨A2_, c2_, m3_, rfl, hR2_, hO3_, hm3_⟩ (Below.refl _ _))
      · go_simp; (try rfl)
    refine kQ ?_ ?_
    · intro a w' vs hB hel hd
      obtain ⟨f12, r12⟩ := hd 4 (by kernel_rfl)
      obtain ⟨A4_, c4_, m4_, hv4_, hR4_, hO4_, hm4_⟩ := (r12 : (RBd w.heap.size st t l) (vs 4) w')
      have e12 : a.tmps[12]? = some (.agg #[.int .u8 st, .int .u32 t, .slice A4_ l.length c4_, .map (some m4_), .bool false]) := f12.trans (congrArg some hv4_)
      refine ⟨_, rfl, rfl, fun K hK => ?_⟩
      refine mV (w1 := w'.alloc (.cells #[.int .u8 st, .int .u32 t, .slice A4_ l.length c4_, .map (some m4_), .bool false] 85)) (v := .pointer (some ⟨w'.heap.size, 0, none⟩)) (by rfl) rfl ?_ (hK _ _ ⟨_, A4_, c4_, m4_, rfl, jD rfl, Kd.R_below hR4_ (iF (Below.refl _ _) _), lG hO4_ (Below.heap_alloc _ _ _ hO4_.lt), hm4_, Nat.le_trans HB.out.size hB.size⟩ (iF (Below.refl _ _) _))
      · go_simp; (try rfl)
    refine kQ ?_ ?_
    · intro a w' vs hB hel hd
      obtain ⟨f13, r13⟩ := hd 5 (by kernel_rfl)
      obtain ⟨p5_, A5_, c5_, m5_, hv5_, hX5_, hR5_, hO5_, hm5_, hp5_⟩ := (r13 : (RBx w.heap.size st t l) (vs 5) w')
      have e13 : a.tmps[13]? = some (.pointer (some ⟨p5_, 0, none⟩)) := f13.trans (congrArg some hv5_)
      refine ⟨_, rfl, rfl, fun K hK => ?_⟩
      refine mV (w1 := w') (v := .pointer (some ⟨p5_, 0, none⟩)) (by rfl) rfl ?_ (hK _ _ ⟨p5_, A5_, c5_, m5_, rfl, hX5_, hR5_, hO5_, hm5_, hp5_⟩ (Below.refl _ _))
      · go_simp; (try rfl)
    exact yF
  · intro vs w' hB hR
    have hv0_ : vs 0 = (.agg #[.int .u8 st, .int .u32 t]) := hR 0 (by kernel_rfl)
    have hv1_ : vs 1 = (.slice A l.length c) := hR 1 (by kernel_rfl)
    obtain ⟨A2_, c2_, hv2_, hR2_⟩ := (hR 2 (by kernel_rfl) : (RCl w.heap.size l) (vs 2) w')
    obtain ⟨m3_, hv3_, hO3_, hm3_⟩ := (hR 3 (by kernel_rfl) : (RMk w.heap.size) (vs 3) w')
    obtain ⟨A4_, c4_, m4_, hv4_, hR4_, hO4_, hm4_⟩ := (hR 4 (by kernel_rfl) : (RBd w.heap.size st t l) (vs 4) w')
    obtain ⟨p5_, A5_, c5_, m5_, hv5_, hX5_, hR5_, hO5_, hm5_, hp5_⟩ := (hR 5 (by kernel_rfl) : (RBx w.heap.size st t l) (vs 5) w')
    obtain ⟨p6_, A6_, c6_, m6_, hv6_, hX6_, hR6_, hO6_, hm6_, hp6_⟩ := (hR 6 (by kernel_rfl) : (RBx w.heap.size st t l) (vs 6) w')
    rw [show entries [8, 9, 10, 11, 12, 13, 5] vs = [(0, 8, vs 0), (1, 9, vs 1), (2, 10, vs 2), (3, 11, vs 3), (4, 12, vs 4), (5, 13, vs 5), (6, 5, vs 6)] from rfl]
    simp only [jU, if_true, Act.put, List.setIfInBounds_toArray, List.set_cons_zero, List.set_cons_succ, hv0_, hv1_, hv2_, hv3_, hv4_, hv5_, hv6_]
    clear hR hv0_ hv1_
    have HB2 := iC.mk (iQ HB.out hB)
    have HX := iC.mk hX6_
    have HR := iC.mk hR6_
    have HO := iC.mk hO6_
    have HM := iC.mk hm6_
    have HP := iC.mk hp6_
    clear hB hv2_ hR2_ hv3_ hO3_ hm3_ hv4_ hR4_ hO4_ hm4_ hv5_ hX5_ hR5_ hO5_ hm5_ hp5_ hv6_ hX6_ hR6_ hO6_ hm6_ hp6_ y0 y1
    generalize vs 5 = u5
    go_wp2
    go_loopw [16] (fun q wr => ∃ (j : Nat) (D : DataW Nat), q = .int .i64 (j : Int) ∧ j ≤ l.length ∧ iC (OM wr m6_ j D ∧ KI D ∧ ∀ x : Int, has D (.int .i64 x) = true ↔ x ∈ l.take j) ∧ iC (Below w.heap.size w wr) ∧ iC (wr.heap[p6_]? = some (.cells #[.int .u8 st, .int .u32 t, .slice A6_ l.length c6_, .map (some m6_), .bool false] 85 (0, 0))) ∧ iC (ki.R 3 wr w.heap.size (fun _ => True) (.slice A6_ l.length c6_) l)) (fun q _ => ((l.length : Int) - intOf q).toNat)
    case atStart => exact ⟨0, .map [], rfl, Nat.zero_le _, ⟨HO.out, KI.nil, fun x => by simp [has]⟩, HB2, HX, HR⟩
    case round =>
      obtain ⟨j, D, rfl, hj, HOj, HBj, HXj, HRj⟩ := hrel
      have z3 := (iD HXj.out 3).trans (show _ = some (Value.map (some m6_)) from rfl)
      by_cases hlt : j < l.length
      · obtain ⟨ad, _, rfl, _, _, _⟩ := Kd.C_get HC.out 0 (j : Int) (by omega) (by omega)
        have hx := Kd.foot_int (Kd.C_below HL.out HBj.out) (j : Int) (by omega) (by omega)
        obtain ⟨x, hxe⟩ : ∃ x, x = rd l j := ⟨_, rfl⟩
        have hxm : x ∈ l := by rw [hxe]; unfold rd; rw [Int.toNat_natCast, List.getD_eq_getElem?_getD, List.getElem?_eq_getElem hlt]; exact List.getElem_mem hlt
        have hxr := HT.out.rng x hxm
        rw [Int.toNat_natCast, ← hxe] at hx
        have hw : wrap64 ((j : Int) + 1) = ((j + 1 : Nat) : Int) := by unfold wrap64; omega
        have HKEY := iC.mk (keyOf_int_mk Try.underlying3 (zD (x := x) (by omega)))
        have HW1 := iC.mk (plainElem_int (H := Nat) (P := Try.prog) Try.underlying3 (zD (x := (j : Int)) (by omega)))
        have HXE := iC.mk hxe
        clear hxe hxm hxr
        go_wp2_with (at_mapUpdate; refine wpList_mapUpdate_own _ rfl _ _ _ 83 rfl 3 3 JF Try.underlying83 _ m6_ j D rfl HOj.out.1 (by unfold maxLen; omega) _ _ _ rfl rfl HKEY.out _ [] HW1.out ?_; intro w3 hown1 hgrow1; have HO3 := iC.mk hown1; have HG3 := iC.mk hgrow1; clear hown1 hgrow1)
        go_roundw
        case rel => exact ⟨j + 1, _, by first | rfl | rw [hw], hlt, ⟨HO3.out, HOj.out.2.1.put _ _, fun y => by
          rw [qR hlt, ← HXE.out]
          by_cases e : y = x
          · subst e; rw [has_put_same HOj.out.2.1.isMap (keyI _)]; simp
          · rw [has_put_other (by intro e2; injection e2 with _ e2; exact e e2), HOj.out.2.2 y]; simp [e]⟩, ⟨HBj.out.grown HG3.out HBj.out.size (fun i hi => by cases hi; exact HM.out)⟩, ⟨(jL HG3.out HXj.out (fun e => by subst e; exact lL HOj.out.1 _ _ _ HXj.out)).trans HXj.out⟩, ⟨zG HRj.out HOj.out.1 HG3.out⟩⟩
        case measure => (first | (simp [intOf, hw]; omega) | (simp [intOf]; omega))
      · obtain rfl : j = l.length := by omega
        go_wp2
        go_ret
        refine ⟨p6_, m6_, rfl, ⟨HP.out, HM.out, ⟨A6_, c6_, HXj.out, Kd.R_mono (Kd.R_bound HRj.out) (fun k hk => by have := hk.2.1; omega)⟩, ⟨D, HOj.out.1.mono hl6, HOj.out.2.1, fun x => ?_⟩⟩, HBj.out⟩
        rw [HOj.out.2.2 x, List.take_length, CB.mem_lacks]
        simp
end Go.Proofs.Ytjppookmjdaplaa.K
end

section
namespace Go.Proofs.Ytjppookmjdaplaa.K
open Go.RowKit Go.Proofs.YtjppookmjdaplaaW.PrintWords Go.Proofs.YtjppookmjdaplaaW.PrintLast Go.Proofs.YtjppookmjdaplaaW.PrintMore
attribute [local go_sem] jV kJ
def spans_New.f  : Option (Int × (List (S96))) := some (1, (([(⟨0, 0⟩ : S96)] : List (S96))))
set_option maxHeartbeats 8000000 in
set_option maxRecDepth 100000 in
theorem spans_New.calls  (r1 : Int) (r2 : List (S96)) (w : World) (h : spans_New.f  = some (r1, r2)) :
    Calls Try.prog 37 #[] w fun e w' => ∃ v1_ : Value, e = .returned (.agg #[.int .u32 r1, v1_]) ∧ Kd.R k96 96 w' w.heap.size (fun _ => True) v1_ r2 ∧ Below w.heap.size w w' := by
  have hu42 := Try.underlying42
  have hu96 := Try.underlying96
  have HB := iC.mk (Below.refl w.heap.size w)
  have H : (some (1, (([(⟨0, 0⟩ : S96)] : List (S96))))) = some (r1, r2) := h
  clear h
  obtain ⟨y278, hy278⟩ : ∃ y_ : List (S96), y_ = (([(⟨0, 0⟩ : S96)] : List (S96))) := ⟨_, rfl⟩
  replace H : (some (1, y278)) = some (r1, r2) := by first | (rw [hy278]; with_reducible exact H) | (have H2_ := (Option.bind_some _ _).symm.trans H; rw [hy278]; with_reducible exact H2_) | (have H2_ := (Option.bind_some _ _).symm.trans H; with_reducible exact H2_) | with_reducible exact H | (rw [hy278]; exact H) | exact H
  have Ny278 := iC.mk hy278
  clear hy278
  simp only [Option.some.injEq, Prod.mk.injEq] at H
  obtain ⟨rfl, rfl⟩ := H
  go_enter Try.func37, Try.ntmps37
  go_wp2_with (first | ((with_reducible refine kL (N := 0) rfl ?_); refine kF ?hg (N := 0) ?hd (cs := #[.int .u32 0, .slice none 0 0]) (t := 42) ?hr ?_; (case hd => rfl); (case hg => rfl); (case hr => first | (go_simp; done) | (go_simp; rfl)); intro gb277 hg w1 hbox hb; have n0_ := iC.mk (iQ hb_ hb); have n1_ := iC.mk (hbox); have n2_ := iC.mk ((by rw [hg]; exact (iW hb_) : w.heap.size ≤ gb277)); have n3_ := iC.mk ((by rw [hg]; exact (iW hb_) : w.heap.size ≤ gb277)); clear HB; have HB := n0_; have BK277 := n1_; have GW277 := n2_; have GE277 := n3_; clear n0_ n1_ n2_ n3_; clear hb hbox hg) | ((with_reducible refine kL (N := 2) rfl ?_); refine Kd.R_lit k96 _ 96 ?hg (N := 2) ?hd (xs := ([(⟨0, 0⟩ : S96)] : List (S96))) (inner := [.int .i64 0, .int .i64 0]) (ok := fun _ => True) (okp := fun _ => True) ?hr ?hp (fun _ hk => hk) trivial (Below.refl _ _) (Nat.le_refl _) (by simp) ?_; (case hd => rfl); (case hg => rfl); (case hr => first | (go_simp; done) | (go_simp; rfl)); (case hp => exact (Reps.c2 (show Kd.M k96 _ _ _ (⟨0, 0⟩ : S96) [.int .i64 0, .int .i64 0] from (k96_mkM _ _ _ (⟨0, 0⟩ : S96) )) (Reps.none _ _))); intro v279 w2 ho3 hb hg_ hnew_; clear hg_ hnew_; (first | rw [← Ny278.out] at ho3 | (simp only [Int.reduceToNat] at ho3; rw [← Ny278.out] at ho3)); have n0_ := iC.mk (Kd.R_lower ho3 (iW (by repeat (first | (with_reducible first | exact HB.out | apply iF | apply iG | apply iL | refine iH ?_ GE277.out) | exact HB.out)))); have n1_ := iC.mk (iY (g := gb277) (o := .cells #[.int .u32 0, .slice none 0 0] 42 (0, 0)) (bk_ BK277.out) hb); have n2_ := iC.mk (iQ (by repeat (first | (with_reducible first | exact HB.out | apply iF | apply iG | apply iL | refine iH ?_ GE277.out) | exact HB.out)) hb); clear BK277; clear HB; have HO280 := n0_; have BK277 := n1_; have HB := n2_; clear n0_ n1_ n2_; clear hb ho3; obtain ⟨Ao4, co4, eo4⟩ := Kd.R_slice HO280.out; subst eo4; have hcz5_0 : w2.cell? ⟨gb277, 0, none⟩ = some (.int .u32 0) := (iD BK277.out 0).trans rfl; have hcz5_1 : w2.cell? ⟨gb277, 1, none⟩ = some (.slice none 0 0) := (iD BK277.out 1).trans rfl; have hfz5_0 := iE BK277.out 0; have hfz5_1 := iE BK277.out 1))
  refine bodyPost_ret (results_cell_row rfl _ _ gb277 42 #[.int .u32 1, .slice Ao4 y278.length co4] (0, 0) _ rfl (by (with_reducible repeat (first | refine iR ?_ _ | refine iU ?_ | refine iO ?_ _)); refine iZ (cs := #[.int .u32 1, .slice none 0 0]) ?_ 1 _ rfl; (with_reducible repeat (first | refine iR ?_ _ | refine iU ?_ | refine iO ?_ _)); refine iZ (cs := #[.int .u32 0, .slice none 0 0]) ?_ 0 _ rfl; (with_reducible repeat (first | refine iR ?_ _ | refine iU ?_ | refine iO ?_ _)); exact BK277.out) Try.underlying42 rfl (by kernel_rfl)) rfl ?_
  exact ⟨_, by first | rfl | (simp [jF, jG] <;> rfl) | (simp [*, jF, jG] <;> rfl), by (with_reducible repeat (first | apply Kd.R_alloc | apply Kd.R_drewN | apply Kd.R_drew)); exact Kd.R_mono (Kd.R_far (p := ⟨gb277, 1, none⟩) (Kd.R_far (p := ⟨gb277, 0, none⟩) (Kd.R_types HO280.out BK277.out (by decide)) (fun _ hk => hk.2) (.int .u32 1)) (fun _ hk => hk.2) (.slice Ao4 y278.length co4)) (fun _ hk => trivial), by repeat (first | (with_reducible first | exact HB.out | apply iF | apply iG | apply iL | refine iH ?_ GE277.out) | exact HB.out)⟩
end Go.Proofs.Ytjppookmjdaplaa.K
end

section
namespace Go.Proofs.Ytjppookmjdaplaa.K
open Go Go.RowKit Go.Maps Go.Proofs.YtjppookmjdaplaaW.PrintWords Go.Proofs.YtjppookmjdaplaaW.PrintLast Go.Proofs.YtjppookmjdaplaaW.PrintMore Go.Proofs.Ytjppookmjdaplaa.My
variable {Z : Nat}
theorem kM (w : World) (b i : Nat) (v : Value) : w.grownBy (w.setCell ⟨b, i, none⟩ v) (some b) :=
  ⟨rfl, rfl, rfl, by simp [World.setCell], fun k _ hk => Below.heap_setCell _ _ _ _ (by intro e; exact hk (by rw [e]))⟩
set_option maxRecDepth 20000 in
theorem new_any (w : World) : Calls Try.prog 10 #[] w fun e w' => ∃ c, e = .returned (.pointer (some ⟨c, 0, none⟩)) ∧ Co c w' w.heap.size c 0 CS.new ∧ Below w.heap.size w w' := by
  have hmm := @run_makeMap Try.prog
  have hcall := fun W => spans_New.calls 1 [⟨0, 0⟩] W rfl
  go_enter Try.func10, Try.ntmps10
  go_wp2_with (go_at_call 37; refine (hcall _).mono ?_; rintro e w2 ⟨v, rfl, hR, hB⟩; obtain ⟨A, k, rfl⟩ := Kd.R_slice hR; have HR := iC.mk hR; have HB := iC.mk hB; clear hcall hR hB)
  go_ret
  have hb1 : Below w.heap.size w (w.alloc (.map #[] 0)) := iF (Below.refl _ _) _
  have hb2 := iQ hb1 HB.out
  have hO : UM w2 w.heap.size 0 (.map []) := lG (World.ownsMap_made w _ _ _) (HB.out.block _ (by simp))
  have hlt := hO.lt
  refine ⟨w2.heap.size, rfl, ⟨w.heap.size, .map [], fun _ => 0, fun _ => 0, ?_⟩, iF hb2 _⟩
  refine ⟨hb2.size, Nat.le_refl _, ⟨A, k, jD rfl, Kd.R_lower (Kd.R_below HR.out (iF (Below.refl _ _) _)) (by simp)⟩, lG hO (Below.heap_alloc _ _ _ hlt), KU.nil, fun _ _ => rfl, fun _ _ h => (by cases h), fun _ _ _ _ h => (by cases h), fun _ _ h => (by cases h), CS.new_ok, by simp⟩
set_option maxRecDepth 20000 in
theorem zU {A : Option Addr} {c : Nat} {l : List Int} (w : World) (hr : ki.C w A l.length l) (hc : l.length ≤ c) :
    Calls Try.prog 39 #[.slice A l.length c] w fun e w' => e = .returned (.bool (kW l)) ∧ w' = w := by
  have hmx := hr.2.1
  have HL := iC.mk hr
  obtain ⟨N, hN⟩ : ∃ N, l.length = N := ⟨_, rfl⟩
  have HN := iC.mk hN
  rw [hN] at hmx
  clear hr hN
  go_enter Try.func39, Try.ntmps39
  go_wp2
  rw [HN.out]
  go_loopw [3, 8] (fun p q wr => ∃ (last : Int) (j : Nat), p = .int .i64 last ∧ q = .int .i64 (j : Int) ∧ j ≤ N ∧ iC (kW l = lK last (l.drop j)) ∧ wr = w) (fun _ q _ => ((N : Int) - intOf q).toNat)
  case atStart => exact ⟨-1, 0, rfl, rfl, Nat.zero_le _, ⟨rfl⟩, rfl⟩
  case round =>
    obtain ⟨last, j, rfl, rfl, hj, HJ, rfl⟩ := hrel
    by_cases hlt : j < N
    · have hC : ki.C wr A N l := by have := HL.out; rwa [HN.out] at this
      obtain ⟨ad, _, rfl, _, _, _⟩ := Kd.C_get hC 0 (j : Int) (by omega) (by omega)
      have hx := Kd.foot_int hC (j : Int) (by omega) (by omega)
      rw [Int.toNat_natCast] at hx
      have hd : l.drop j = rd l j :: l.drop (j + 1) := by
        have hjl : j < l.length := by rw [HN.out]; exact hlt
        rw [List.drop_eq_getElem_cons hjl]
        unfold rd
        rw [Int.toNat_natCast, List.getD_eq_getElem?_getD, List.getElem?_eq_getElem hjl]; rfl
      obtain ⟨x, hxe⟩ : ∃ x, x = rd l j := ⟨_, rfl⟩
      rw [← hxe] at hx hd
      have hw : wrap64 ((j : Int) + 1) = ((j + 1 : Nat) : Int) := by unfold wrap64; omega
      have HJ2 := iC.mk (show kW l = (decide (last < x) && decide (x < 6) && lK x (l.drop (j + 1))) from by rw [HJ.out, hd]; rfl)
      clear hd hxe hC HJ
      by_cases h1 : x ≤ last
      · have HR := iC.mk (show kW l = false from by rw [HJ2.out, decide_eq_false (show ¬ last < x by omega)]; rfl)
        clear HJ2 hw
        go_wp2
        go_ret
        exact ⟨by rw [HR.out]; rfl, rfl⟩
      · by_cases h2 : 6 ≤ x
        · have HR := iC.mk (show kW l = false from by rw [HJ2.out, decide_eq_false (show ¬ x < 6 by omega), Bool.and_false]; rfl)
          clear HJ2 hw
          go_wp2
          go_ret
          exact ⟨by rw [HR.out]; rfl, rfl⟩
        · have HR := iC.mk (show kW l = lK x (l.drop (j + 1)) from by rw [HJ2.out, decide_eq_true (show last < x by omega), decide_eq_true (show x < 6 by omega)]; rfl)
          clear HJ2
          go_wp2
          go_roundw
          case rel => exact ⟨x, j + 1, rfl, by first | rfl | rw [hw], hlt, HR, trivial⟩
          case measure => (first | (simp [intOf, hw]; omega) | (simp [intOf]; omega))
    · obtain rfl : j = N := by omega
      have HR := iC.mk (show kW l = decide (0 ≤ last) from by rw [HJ.out, List.drop_eq_nil_of_le (by rw [HN.out]; exact Nat.le_refl _)]; rfl)
      clear HJ
      go_wp2
      all_goals (go_ret; exact ⟨by rw [HR.out]; simp [*], rfl⟩)
theorem CoX.spc {w : World} {B c : Nat} {s : CS} {mb n : Nat} {D : DataW Nat} {ptr mp : Int → Nat} (h : CoX Z w B c s mb n D ptr mp) : ∃ A k, w.cell? ⟨c, 5, none⟩ = some (.slice A s.sp.length k) ∧ kS.C w A s.sp.length s.sp ∧ s.sp.length ≤ k := by
  obtain ⟨A, k, h1, h2⟩ := h.blk
  obtain ⟨A', c', e', h3, h4⟩ := Kd.R_reads h2
  injection e' with e1 e2 e3
  subst e1; subst e3
  exact ⟨A, k, (iD h1 5).trans rfl, h4, h3⟩
set_option maxRecDepth 20000 in
set_option maxHeartbeats 2000000 in
theorem JV {w : World} {B c n : Nat} {s : CS} (h : Co Z w B c n s) :
    Calls Try.prog 19 #[.pointer (some ⟨c, 0, none⟩)] w fun e w' => ∃ v, e = .returned (.agg #[.int .u32 s.ep, v]) ∧ kS.R 96 w' w.heap.size (fun _ => True) v s.sp ∧ Below w.heap.size w w' := by
  obtain ⟨mb, D, ptr, mp, h⟩ := h
  have hsl := h.ok.spl
  obtain ⟨W, hW⟩ : ∃ W, W = w.alloc (.cells #[.int .u32 0, .slice none 0 0] 42) := ⟨_, rfl⟩
  have hb : Below w.heap.size w W := by rw [hW]; exact iF (Below.refl _ _) _
  have hX : W.heap[w.heap.size]? = some (.cells #[.int .u32 0, .slice none 0 0] 42 (0, 0)) := by rw [hW]; exact jD rfl
  have h2 := h.below hb
  obtain ⟨_, _, _, _, c4⟩ := h2.cells
  obtain ⟨A, k, c5, hC, hk⟩ := h2.spc
  have HCE := iC.mk (show ∀ W', Below W.heap.size W W' → W'.cell? ⟨c, 4, none⟩ = some (.int .u32 s.ep) ∧ W'.cell? ⟨c, 5, none⟩ = some (.slice A s.sp.length k) from fun W' hb => ⟨jI hb c4, jI hb c5⟩)
  have HX := iC.mk hX
  have HB := iC.mk hb
  have HW := iC.mk hW
  have hcall := qG A k s.sp W.drew (Kd.C_below hC (iP (Below.refl _ _))) hk (by omega)
  obtain ⟨ep, hep⟩ : ∃ ep, ep = s.ep := ⟨_, rfl⟩
  rw [← hep] at c4 HCE ⊢
  clear h h2 hX hb hW hC hk hep
  go_enter Try.func19, Try.ntmps19
  go_upto_region 1 with fail
  rw [← HW.out]
  clear HW
  refine jQ (n := 13) (S := fun w' => w'.cell? ⟨c, 4, none⟩ = some (.int .u32 ep) ∧ w'.cell? ⟨c, 5, none⟩ = some (.slice A s.sp.length k)) (ds := [12]) #[false, false, false, false, false, false, false, false, false, false, false, false, false] (by kernel_rfl) rfl rfl ⟨c4, c5⟩ (fun hHeld => ?_)
  refine jE (T := (true, [([], []), ([0], [0]), ([1], [1]), ([2], [2]), ([3], [3]), ([], []), ([5], [5]), ([6], [6]), ([7], [7]), ([8], [8]), ([9], [9]), ([4, 10], [4, 10]), ([11, 10, 0, 1, 2, 3, 4, 5, 6, 7, 8, 9, 10, 11], [11])])) (B := [0, 1, 3, 7, 15, 0, 32, 96, 224, 480, 992, 2047, 4095]) (by kernel_rfl) (by kernel_rfl) (fun HT_ HW_ => ?_)
  refine iM (i := 0) (N := some 3) (v := ?_) (a' := ?_) #[true, false, false, false, false, false, false, false, false, false, false, false, false] rfl rfl (iI HT_.out (by kernel_rfl)) (fun _ _ _ h => h) (Or.inl ⟨by rfl, ?_⟩) ?_ ?_
  rotate_left
  · intro w'
    go_simp
    with_reducible rfl
  rotate_left
  · simp only [Act.put, List.setIfInBounds_toArray, List.set_cons_zero, List.set_cons_succ, iJ, iK]
    rfl
  refine iM (i := 1) (N := some 4) (v := ?_) (a' := ?_) #[true, true, false, false, false, false, false, false, false, false, false, false, false] rfl rfl (iI HT_.out (by kernel_rfl)) (fun _ _ _ h => h) (Or.inl ⟨by rfl, ?_⟩) ?_ ?_
  rotate_left
  · intro w'
    go_simp
    with_reducible rfl
  rotate_left
  · simp only [Act.put, List.setIfInBounds_toArray, List.set_cons_zero, List.set_cons_succ, iJ, iK]
    rfl
  refine iM (i := 2) (N := some 5) (v := ?_) (a' := ?_) #[true, true, true, false, false, false, false, false, false, false, false, false, false] rfl rfl (iI HT_.out (by kernel_rfl)) (fun _ _ _ h => h) (Or.inl ⟨by rfl, ?_⟩) ?_ ?_
  rotate_left
  · intro w'
    go_simp
    with_reducible rfl
  rotate_left
  · simp only [Act.put, List.setIfInBounds_toArray, List.set_cons_zero, List.set_cons_succ, iJ, iK]
    rfl
  refine iM (i := 3) (N := some 6) (v := ?_) (a' := ?_) #[true, true, true, true, false, false, false, false, false, false, false, false, false] rfl rfl (iI HT_.out (by kernel_rfl)) (fun _ _ _ h => h) (Or.inl ⟨by rfl, ?_⟩) ?_ ?_
  rotate_left
  · intro w'
    go_simp
    with_reducible rfl
  rotate_left
  · simp only [Act.put, List.setIfInBounds_toArray, List.set_cons_zero, List.set_cons_succ, iJ, iK]
    rfl
  refine iM (i := 5) (N := some 8) (v := ?_) (a' := ?_) #[true, true, true, true, false, true, false, false, false, false, false, false, false] rfl rfl (iI HT_.out (by kernel_rfl)) (fun _ _ _ h => h) (Or.inl ⟨by rfl, ?_⟩) ?_ ?_
  rotate_left
  · intro w'
    go_simp
    with_reducible rfl
  rotate_left
  · simp only [Act.put, List.setIfInBounds_toArray, List.set_cons_zero, List.set_cons_succ, iJ, iK]
    rfl
  refine iM (i := 6) (N := some 9) (v := ?_) (a' := ?_) #[true, true, true, true, false, true, true, false, false, false, false, false, false] rfl rfl (iI HT_.out (by kernel_rfl)) (fun _ _ _ h => h) (Or.inl ⟨by rfl, ?_⟩) ?_ ?_
  rotate_left
  · intro w'
    go_simp
    with_reducible rfl
  rotate_left
  · simp only [Act.put, List.setIfInBounds_toArray, List.set_cons_zero, List.set_cons_succ, iJ, iK]
    rfl
  refine iM (i := 7) (N := some 10) (v := ?_) (a' := ?_) #[true, true, true, true, false, true, true, true, false, false, false, false, false] rfl rfl (iI HT_.out (by kernel_rfl)) (fun _ _ _ h => h) (Or.inl ⟨by rfl, ?_⟩) ?_ ?_
  rotate_left
  · intro w'
    go_simp
    with_reducible rfl
  rotate_left
  · simp only [Act.put, List.setIfInBounds_toArray, List.set_cons_zero, List.set_cons_succ, iJ, iK]
    rfl
  refine iM (i := 8) (N := some 11) (v := ?_) (a' := ?_) #[true, true, true, true, false, true, true, true, true, false, false, false, false] rfl rfl (iI HT_.out (by kernel_rfl)) (fun _ _ _ h => h) (Or.inl ⟨by rfl, ?_⟩) ?_ ?_
  rotate_left
  · intro w'
    go_simp
    with_reducible rfl
  rotate_left
  · simp only [Act.put, List.setIfInBounds_toArray, List.set_cons_zero, List.set_cons_succ, iJ, iK]
    rfl
  refine jH (i := 4) (N := some 7) (v := ?_) (a' := ?_) #[true, true, true, true, true, true, true, true, true, false, false, false, false] rfl rfl (iT HT_.out HW_.out (by kernel_rfl)) (fun _ _ _ h => h) (Or.inl ⟨by rfl, ?_⟩) hHeld ?_ ?_
  rotate_left
  · rintro w' ⟨s0, s1⟩
    go_simp
    with_reducible rfl
  rotate_left
  · simp only [Act.put, List.setIfInBounds_toArray, List.set_cons_zero, List.set_cons_succ, iJ, iK]
    rfl
  refine jH (i := 9) (N := some 12) (v := ?_) (a' := ?_) #[true, true, true, true, true, true, true, true, true, true, false, false, false] rfl rfl (iT HT_.out HW_.out (by kernel_rfl)) (fun _ _ _ h => h) (Or.inl ⟨by rfl, ?_⟩) hHeld ?_ ?_
  rotate_left
  · rintro w' ⟨s0, s1⟩
    go_simp
    with_reducible rfl
  rotate_left
  · simp only [Act.put, List.setIfInBounds_toArray, List.set_cons_zero, List.set_cons_succ, iJ, iK]
    rfl
  refine one_ (i := 10) (N := some 13) #[true, true, true, true, true, true, true, true, true, true, true, false, false] rfl rfl (jK HT_.out (by kernel_rfl)) (by decide) (fun K hK => ?_)
  refine l7 Try.func49 (by kernel_rfl) rfl #[.slice A s.sp.length k] (by rfl) rfl rfl (by simp only [List.map_toArray, List.map_cons, List.map_nil]; rfl) ?_
  with_reducible refine (hcall).mono ?_
  rintro e w2 ⟨v, rfl, hR, hb2⟩
  refine ⟨_, rfl, ?_⟩
  obtain ⟨A2, k2, rfl⟩ := Kd.R_slice hR
  have HR2 := iC.mk hR
  have HB2 := iC.mk (show Below W.heap.size W w2 from iQ (iP (Below.refl _ _)) hb2)
  have HX2 := iC.mk (iV HB2.out HX.out)
  have y0 := (iD HX2.out 0).trans (show _ = some (Value.int .u32 0) from rfl)
  have y1 := (iD HX2.out 1).trans (show _ = some (Value.slice none 0 0) from rfl)
  have f0 := iE HX2.out 0
  have f1 := iE HX2.out 1
  clear hR hb2 hcall
  refine hK.out _ _ ⟨(HCE.out _ HB2.out).1, (HCE.out _ HB2.out).2⟩ (fun hHeld => ?_)
  clear hK K
  refine kC (a' := ?_) ?_ ?_
  rotate_left
  · show Act.put _ (some 13) _ = _
    simp only [Act.put, List.setIfInBounds_toArray, List.set_cons_zero, List.set_cons_succ, iJ, iK]
    rfl
  refine iM (i := 11) (N := some 14) (v := ?_) (a' := ?_) #[true, true, true, true, true, true, true, true, true, true, true, true, false] rfl rfl (iI HT_.out (by kernel_rfl)) (fun _ _ _ h => h) (Or.inl ⟨by rfl, ?_⟩) ?_ ?_
  rotate_left
  · intro w'
    go_simp
    with_reducible rfl
  rotate_left
  · simp only [Act.put, List.setIfInBounds_toArray, List.set_cons_zero, List.set_cons_succ, iJ, iK]
    rfl
  refine mQ (i := 12) (N := none) #[true, true, true, true, true, true, true, true, true, true, true, true, true] rfl rfl (jK HT_.out (by kernel_rfl)) (by decide) (fun K hK => ?_)
  refine mX (w1 := ?_) (by rfl) rfl ?_ ?_
  rotate_left
  · go_simp
    rfl
  refine hK.out _ _ ?_
  clear hK K
  refine kP (jM HT_.out (by kernel_rfl)) ?_
  go_wp2
  have hp0 := iZ (cs := #[.int .u32 0, .slice none 0 0]) (cs' := #[.int .u32 ep, .slice none 0 0]) HX2.out 0 (.int .u32 ep) rfl
  have hp1 := iZ (cs := #[.int .u32 ep, .slice none 0 0]) (cs' := #[.int .u32 ep, .slice A2 s.sp.length k2]) hp0 1 (.slice A2 s.sp.length k2) rfl
  refine bodyPost_ret (results_cell_row rfl _ _ w.heap.size 42 #[.int .u32 ep, .slice A2 s.sp.length k2] (0, 0) _ rfl hp1 Try.underlying42 rfl (by kernel_rfl)) rfl ?_
  exact ⟨_, rfl, Kd.R_lower (Kd.R_set (Kd.R_set HR2.out HX2.out (by decide) 0 (.int .u32 ep)) hp0 (by decide) 1 (.slice A2 s.sp.length k2)) HB.out.size, iH (iH (iQ HB.out HB2.out) (Nat.le_refl _)) (Nat.le_refl _)⟩
end Go.Proofs.Ytjppookmjdaplaa.K
end

section
namespace Go.Proofs.Ytjppookmjdaplaa.K
open Go Go.RowKit Go.Maps Go.Proofs.YtjppookmjdaplaaW.PrintWords Go.Proofs.YtjppookmjdaplaaW.PrintLast Go.Proofs.YtjppookmjdaplaaW.PrintMore Go.Proofs.Ytjppookmjdaplaa.My
variable {Z : Nat}
/-- A number in the head is written. -/
theorem CoX.head1 {w : World} {B c : Nat} {s s' : CS} {mb n : Nat} {D : DataW Nat} {ptr mp : Int → Nat} (h : CoX Z w B c s mb n D ptr mp) (i : Nat) (v : Value) (hL : s'.L = s.L) (hsp : s'.sp = s.sp) (hok : s'.Ok)
    (hc : ∀ (V : Value), (#[Value.map (some mb), .int .u32 s.last, .int .u32 s.starts, .int .u32 s.begun, .int .u32 s.ep, V]).setIfInBounds i v = #[.map (some mb), .int .u32 s'.last, .int .u32 s'.starts, .int .u32 s'.begun, .int .u32 s'.ep, V]) :
    CoX Z (w.setCell ⟨c, i, none⟩ v) B c s' mb n D ptr mp ∧ CoFr B w (w.setCell ⟨c, i, none⟩ v) := by
  obtain ⟨A, k, h1, h2⟩ := h.blk
  refine ⟨h.head hL (kM w c i v) ⟨A, k, ?_, ?_⟩ hok, CoFr.of_grown (kM w c i v) h.cB (Nat.le_trans h.cB (Nat.le_of_lt h.clt)) (fun cs t fz e => ?_)⟩
  · rw [hsp]; exact iZ h1 i v (hc _)
  · rw [hsp]; exact Kd.R_set h2 h1 (by decide) i v
  · rw [h1] at e; cases e; exact .inl rfl
theorem uS {l : List (Int × CB)} {id : Int} (h : getB l id = none) : cutB l id = l := by
  unfold cutB
  refine List.filter_eq_self.2 (fun p hp => ?_)
  have := nM.1 h
  simp only [decide_eq_true_eq]
  intro e
  exact this (List.mem_map.2 ⟨p, hp, e⟩)
section
variable {w : World} {B c : Nat} {s : CS} {n : Nat}
set_option maxRecDepth 20000 in
set_option maxHeartbeats 4000000 in
theorem uM (h : Co Z w B c n s) {A : Option Addr} {k : Nat} {l : List Int} (hr : ∀ W', CoFr B w W' → ki.C W' A l.length l) (hc : l.length ≤ k) (hn : n < 1000000) :
    Calls Try.prog 13 #[.pointer (some ⟨c, 0, none⟩), .slice A l.length k] w fun e w' => e = .returned (.tuple #[.int .u32 (s.beginId l).1, .int .u16 (s.beginId l).2]) ∧ Co Z w' B c (n + 1) (s.begin_ l) ∧ CoFr B w w' := by
  obtain ⟨mb, D, ptr, mp, h⟩ := h
  have hrt := zU w (hr w (CoFr.refl _ _)) hc
  obtain ⟨N, hN⟩ : ∃ N, l.length = N := ⟨_, rfl⟩
  rw [hN] at hr hc hrt ⊢
  have c3 := h.cells.2.2.2.1
  have HH := iC.mk h
  have HR := iC.mk hr
  cases hb : kW l with
  | false =>
    rw [hb] at hrt
    rw [show s.beginId l = (0, 1) from by unfold CS.beginId; rw [if_pos hb], show s.begin_ l = s from by unfold CS.begin_; rw [if_pos hb]]
    clear h hr
    go_enter Try.func13, Try.ntmps13
    go_wp2_with (go_at_call 39; refine hrt.mono ?_; rintro e w1 ⟨rfl, rfl⟩)
    go_ret2
    exact ⟨rfl, ⟨_, _, _, _, HH.out.mono (Nat.le_succ _)⟩, CoFr.refl _ _⟩
  | true =>
    rw [hb] at hrt
    have hbf : ¬ kW l = false := by rw [hb]; simp
    by_cases h9 : 900 ≤ s.begun
    · rw [show s.beginId l = (0, 3) from by unfold CS.beginId; rw [if_neg hbf, if_pos h9], show s.begin_ l = s from by unfold CS.begin_; rw [if_neg hbf, if_pos h9]]
      clear h hr hbf
      go_enter Try.func13, Try.ntmps13
      go_wp2_with (go_at_call 39; refine hrt.mono ?_; rintro e w1 ⟨rfl, rfl⟩)
      go_ret2
      exact ⟨rfl, ⟨_, _, _, _, HH.out.mono (Nat.le_succ _)⟩, CoFr.refl _ _⟩
    · have hok := h.ok
      obtain ⟨A0, k0, hblk, _⟩ := h.blk
      have f3 := iE hblk 3
      have hbg := hok.begun
      have hst := hok.starts
      obtain ⟨b1, hb1⟩ : ∃ b1, b1 = s.begun + 1 := ⟨_, rfl⟩
      have e1 : (s.begun + 1) % 4294967296 = b1 := by omega
      obtain ⟨id, hid⟩ : ∃ id, id = s.starts * 1000 + b1 := ⟨_, rfl⟩
      have e2 : (s.starts * 1000 % 4294967296 + b1) % 4294967296 = id := by omega
      have hidr : 0 ≤ id ∧ id < 4294967296 := by omega
      obtain ⟨E, hE⟩ : ∃ E, E = s.beginId l := ⟨_, rfl⟩
      obtain ⟨S', hS⟩ : ∃ S', S' = s.begin_ l := ⟨_, rfl⟩
      rw [← hE, ← hS]
      unfold CS.beginId at hE
      unfold CS.begin_ at hS
      rw [if_neg hbf, if_neg h9, ← hb1, ← hid] at hE hS
      have HE := iC.mk hE
      have HS := iC.mk hS
      have E1 := iC.mk e1
      have E2 := iC.mk e2
      have HIR := iC.mk hidr
      have h1 := (h.head1 (s' := ⟨s.L, s.last, s.starts, b1, s.ep, s.sp⟩) 3 (.int .u32 b1) rfl rfl ⟨hok.nd, hok.key, hok.bat, hok.last, hok.starts, by show 0 ≤ b1 ∧ b1 ≤ 900; omega, hok.ep, hok.spl⟩ (fun _ => rfl))
      have HX1 := iC.mk h1.1
      have HF1 := iC.mk h1.2
      clear h hr hok hblk hbg hst hb1 hid e1 e2 hidr h1 hE hS hbf
      go_enter Try.func13, Try.ntmps13
      go_upto_region 6 with (go_at_call 39; refine hrt.mono ?_; rintro e w1 ⟨rfl, rfl⟩)
      rw [E1.out]
      obtain ⟨W, hW⟩ : ∃ W, W = w1.setCell ⟨c, 3, none⟩ (.int .u32 b1) := ⟨_, rfl⟩
      rw [← hW] at HX1 HF1 ⊢
      clear hW c3 f3 hrt
      obtain ⟨_, _, c2, c3, _⟩ := HX1.out.cells
      go_quiet (fail)
      rw [E2.out]
      obtain ⟨W2, hW2⟩ : ∃ x, x = W.drewN nq := ⟨_, rfl⟩
      have hb2 : Below W.heap.size W W2 := by rw [hW2]; exact iG (Below.refl _ _) nq
      have hx2 := HX1.out.below hb2
      have HF2 := iC.mk (HF1.out.trans (CoFr.of_below hb2 (Nat.le_trans hx2.cB (by have := HX1.out.clt; omega))))
      rw [← hW2]
      have c0 := hx2.cells.1
      have hl := hx2.look HIR.out
      have HX2 := iC.mk hx2
      unfold ptrV at hl
      clear hW2 hb2 hx2 c2 c3 HX1 HF1
      cases hg : getB s.L id with
      | some b =>
        simp only [hg] at hl
        have hE := HE.out
        have hS := HS.out
        rw [hg, Option.isSome_some, if_pos rfl] at hE hS
        subst hE
        subst hS
        clear hg HE HS
        go_wp2
        go_ret2
        exact ⟨rfl, ⟨_, _, _, _, HX2.out.mono (Nat.le_succ _)⟩, HF2.out⟩
      | none =>
        simp only [hg] at hl
        have hE := HE.out
        have hS := HS.out
        rw [hg, Option.isSome_none, if_neg (by simp)] at hE hS
        subst hE
        subst hS
        have HG := iC.mk hg
        clear hg HE HS
        go_upto_region 9 with fail
        have HXd := iC.mk (HX2.out.below (iP (Below.refl _ _)))
        have HFd := iC.mk (HF2.out.trans (CoFr.of_below (iP (Below.refl _ _)) (Nat.le_trans HX2.out.cB (by have := HX2.out.clt; omega))))
        have hcall := JU (st := 1) (t := 0) (c := k) (l := l) W2.drew (by rw [hN]; exact HR.out _ HFd.out) (by rw [hN]; exact hc) (l9 hb) HXd.out.zlt
        rw [hN] at hcall
        refine jQ (n := 9) (S := fun w' => w'.cell? ⟨c, 0, none⟩ = some (.map (some mb))) (ds := [8]) #[false, false, false, false, false, false, false, false, false] (by kernel_rfl) rfl rfl (c0) (fun hHeld => ?_)
        refine jE (T := (true, [([], []), ([0], [0]), ([1], [1]), ([2], [2]), ([], []), ([], []), ([], []), ([5, 6], [5, 6]), ([3, 4, 7, 7, 0, 1, 2, 3, 4, 5, 6, 7], [3, 4, 7])])) (B := [0, 1, 3, 7, 0, 0, 0, 96, 255]) (by kernel_rfl) (by kernel_rfl) (fun HT_ HW_ => ?_)
        refine iM (i := 0) (N := some 41) (v := ?_) (a' := ?_) #[true, false, false, false, false, false, false, false, false] rfl rfl (iI HT_.out (by kernel_rfl)) (fun _ _ _ h => h) (Or.inl ⟨by rfl, ?_⟩) ?_ ?_
        rotate_left
        · intro w'
          go_simp
          with_reducible rfl
        rotate_left
        · simp only [Act.put, List.setIfInBounds_toArray, List.set_cons_zero, List.set_cons_succ, iJ, iK]
          rfl
        refine iM (i := 1) (N := some 42) (v := ?_) (a' := ?_) #[true, true, false, false, false, false, false, false, false] rfl rfl (iI HT_.out (by kernel_rfl)) (fun _ _ _ h => h) (Or.inl ⟨by rfl, ?_⟩) ?_ ?_
        rotate_left
        · intro w'
          go_simp
          with_reducible rfl
        rotate_left
        · simp only [Act.put, List.setIfInBounds_toArray, List.set_cons_zero, List.set_cons_succ, iJ, iK]
          rfl
        refine iM (i := 2) (N := some 43) (v := ?_) (a' := ?_) #[true, true, true, false, false, false, false, false, false] rfl rfl (iI HT_.out (by kernel_rfl)) (fun _ _ _ h => h) (Or.inl ⟨by rfl, ?_⟩) ?_ ?_
        rotate_left
        · intro w'
          go_simp
          with_reducible rfl
        rotate_left
        · simp only [Act.put, List.setIfInBounds_toArray, List.set_cons_zero, List.set_cons_succ, iJ, iK]
          rfl
        refine iM (i := 4) (N := some 45) (v := ?_) (a' := ?_) #[true, true, true, false, true, false, false, false, false] rfl rfl (iI HT_.out (by kernel_rfl)) (fun _ _ _ h => h) (Or.inl ⟨by rfl, ?_⟩) ?_ ?_
        rotate_left
        · intro w'
          go_simp
          with_reducible rfl
        rotate_left
        · simp only [Act.put, List.setIfInBounds_toArray, List.set_cons_zero, List.set_cons_succ, iJ, iK]
          rfl
        refine iM (i := 5) (N := some 46) (v := ?_) (a' := ?_) #[true, true, true, false, true, true, false, false, false] rfl rfl (iI HT_.out (by kernel_rfl)) (fun _ _ _ h => h) (Or.inl ⟨by rfl, ?_⟩) ?_ ?_
        rotate_left
        · intro w'
          go_simp
          with_reducible rfl
        rotate_left
        · simp only [Act.put, List.setIfInBounds_toArray, List.set_cons_zero, List.set_cons_succ, iJ, iK]
          rfl
        refine iM (i := 6) (N := some 47) (v := ?_) (a' := ?_) #[true, true, true, false, true, true, true, false, false] rfl rfl (iI HT_.out (by kernel_rfl)) (fun _ _ _ h => h) (Or.inl ⟨by rfl, ?_⟩) ?_ ?_
        rotate_left
        · intro w'
          go_simp
          with_reducible rfl
        rotate_left
        · simp only [Act.put, List.setIfInBounds_toArray, List.set_cons_zero, List.set_cons_succ, iJ, iK]
          rfl
        refine jH (i := 3) (N := some 44) (v := ?_) (a' := ?_) #[true, true, true, true, true, true, true, false, false] rfl rfl (iT HT_.out HW_.out (by kernel_rfl)) (fun _ _ _ h => h) (Or.inl ⟨by rfl, ?_⟩) hHeld ?_ ?_
        rotate_left
        · intro w' s0
          go_simp
          with_reducible rfl
        rotate_left
        · simp only [Act.put, List.setIfInBounds_toArray, List.set_cons_zero, List.set_cons_succ, iJ, iK]
          rfl
        refine one_ (i := 7) (N := some 48) #[true, true, true, true, true, true, true, true, false] rfl rfl (jK HT_.out (by kernel_rfl)) (by decide) (fun K hK => ?_)
        refine l7 Try.func40 (by kernel_rfl) rfl #[.agg #[.int .u8 1, .int .u32 0], .slice A N k] (by rfl) rfl rfl (by simp only [List.map_toArray, List.map_cons, List.map_nil]; rfl) ?_
        with_reducible refine (hcall).mono ?_
        rintro e w3 ⟨p, m, rfl, hB3, hb3⟩
        refine ⟨_, rfl, ?_⟩
        have HX3 := iC.mk (HXd.out.below hb3)
        have HF3 := iC.mk (HFd.out.trans (CoFr.of_below hb3 (Nat.le_trans HXd.out.cB (by have := HXd.out.clt; omega))))
        have HB3 := iC.mk hB3
        obtain ⟨w4, hrun, hO4, hg4⟩ := HX3.out.own.update qL Try.underlying74 (by unfold maxLen; omega) (keyOf_int_mk Try.underlying28 (vU HIR.out)) (show RP (.pointer (some ⟨p, 0, none⟩)) = some (.lit (.int .i64 (p : Int)), []) from rfl)
        have HO4 := iC.mk hO4
        have HG4 := iC.mk hg4
        clear hB3 hb3 hcall hO4 hg4
        refine hK.out _ _ (HX3.out.cells.1) (fun hHeld => ?_)
        clear hK K
        refine kC (a' := ?_) ?_ ?_
        rotate_left
        · show Act.put _ (some 48) _ = _
          simp only [Act.put, List.setIfInBounds_toArray, List.set_cons_zero, List.set_cons_succ, iJ, iK]
          rfl
        refine mQ (i := 8) (N := none) #[true, true, true, true, true, true, true, true, true] rfl rfl (jK HT_.out (by kernel_rfl)) (by decide) (fun K hK => ?_)
        refine mX (w1 := ?_) (by rfl) rfl ?_ ?_
        rotate_left
        · go_simp
          rfl
        refine hK.out _ _ ?_
        clear hK K
        refine kP (jM HT_.out (by kernel_rfl)) ?_
        go_wp2
        go_ret2
        have hlow := HB3.out.lower (B' := B) (Nat.le_trans HXd.out.cB (by have := HXd.out.clt; omega))
        have hadd := HX3.out.add HXd.out HB3.out.pB HB3.out.mB hlow HG4.out HO4.out HIR.out ⟨by show (0 : Int) ≤ 1 ∧ (1 : Int) < 256; omega, by show (0 : Int) ≤ 0 ∧ (0 : Int) < 4294967296; omega, l9 hb⟩
        rw [uS HG.out] at hadd
        exact ⟨rfl, ⟨_, _, _, _, hadd⟩, HF3.out.trans (CoFr.of_grown HG4.out HX3.out.bB (Nat.le_trans HX3.out.cB (Nat.le_of_lt HX3.out.clt)) (fun cs t fz e => absurd e (lL HX3.out.own _ _ _)))⟩
end
end Go.Proofs.Ytjppookmjdaplaa.K
end

section
namespace Go.Proofs.Ytjppookmjdaplaa.K
open Go Go.RowKit Go.Maps Go.Proofs.YtjppookmjdaplaaW.PrintWords Go.Proofs.YtjppookmjdaplaaW.PrintLast Go.Proofs.YtjppookmjdaplaaW.PrintMore Go.Proofs.Ytjppookmjdaplaa.My
variable {Z : Nat}
/-- A record in its block: the cells that are looked at. -/
theorem jX {w : World} {b : Nat} {v0 v1 v2 v3 v4 v5 v6 v7 v8 v9 : Value} (h : w.heap[b]? = some (.cells #[v0, v1, v2, v3, v4, v5, v6, v7, v8, v9] 48 (0, 0))) :
    w.cell? ⟨b, 0, none⟩ = some v0 ∧ w.cell? ⟨b, 1, none⟩ = some v1 ∧ w.cell? ⟨b, 2, none⟩ = some v2 ∧ w.cell? ⟨b, 3, none⟩ = some v3 ∧ w.cell? ⟨b, 5, none⟩ = some v5 ∧ w.cell? ⟨b, 6, none⟩ = some v6 :=
  ⟨(iD h 0).trans rfl, (iD h 1).trans rfl, (iD h 2).trans rfl, (iD h 3).trans rfl, (iD h 5).trans rfl, (iD h 6).trans rfl⟩
theorem rJ {w : World} {b : Nat} {cs : Array Value} (h : w.heap[b]? = some (.cells cs 48 (0, 0))) (hs : cs.size = 10) : (Instr.loadAt 48 (.pointer (some ⟨b, 0, none⟩))).run Try.prog w = .ok (.agg cs) w := by
  simp only [Instr.loadAt, Instr.sureAddr, Sem.run_bind, Sem.run_pure, Result.andThen]
  exact run_loadVar_row w b 48 48 cs (0, 0) _ h Try.underlying48 rfl (by rw [hs]; kernel_rfl)
section
variable {w : World} {B c : Nat} {s : CS} {n : Nat}
theorem CoX.Ble {mb : Nat} {D : DataW Nat} {ptr mp : Int → Nat} (h : CoX Z w B c s mb n D ptr mp) : B ≤ w.heap.size := Nat.le_trans h.cB (Nat.le_of_lt h.clt)
theorem CoX.fr {mb : Nat} {D : DataW Nat} {ptr mp : Int → Nat} {w' : World} (h : CoX Z w B c s mb n D ptr mp) (hg : w.grownBy w' (some mb)) : CoFr B w w' :=
  CoFr.of_grown hg h.bB h.Ble (fun cs t fz e => absurd e (lL h.own _ _ _))
set_option maxRecDepth 20000 in
theorem IW (h : Co Z w B c n s) {id : Int} (hid : 0 ≤ id ∧ id < 4294967296) :
    Calls Try.prog 35 #[.pointer (some ⟨c, 0, none⟩), .int .u32 id] w fun e w' => e = .returned (.bool (s.dropE id)) ∧ Co Z w' B c n (s.drop id) ∧ CoFr B w w' := by
  obtain ⟨mb, D, ptr, mp, h⟩ := h
  have hin := uP h hid (st := 1)
  have c0 := h.cells.1
  unfold CS.dropE CS.drop
  unfold ptrI at hin
  cases hI : s.inn id 1 with
  | none =>
    rw [hI] at hin
    rw [Option.isSome_none, if_neg (by simp)]
    have HH := iC.mk h
    clear h hid hI
    go_enter Try.func35, Try.ntmps35
    go_wp2_with (go_at_call 41; refine hin.mono ?_; rintro e w1 ⟨rfl, rfl⟩)
    go_ret
    exact ⟨rfl, ⟨_, _, _, _, HH.out⟩, CoFr.refl _ _⟩
  | some b =>
    rw [hI] at hin
    rw [Option.isSome_some, if_pos rfl]
    have HH := iC.mk h
    have HX := iC.mk (keyOf_int_mk Try.underlying28 (vU hid))
    clear h hid hI
    go_enter Try.func35, Try.ntmps35
    go_wp2_with (first
      | (go_at_call 41; refine hin.mono ?_; rintro e w1 ⟨rfl, rfl⟩)
      | (at_delete; refine wpList_delete_own _ rfl _ _ 74 28 rfl 79 qL Try.underlying74 RP mb n D rfl HH.out.own _ _ rfl HX.out ?_; intro w2 hown2 hturn2; have HO2 := iC.mk hown2; have HT2 := iC.mk hturn2; clear hown2 hturn2))
    go_ret
    exact ⟨rfl, ⟨_, _, _, _, HH.out.del id HT2.out.grown HO2.out⟩, HH.out.fr HT2.out.grown⟩
set_option maxRecDepth 20000 in
set_option maxHeartbeats 4000000 in
theorem yE (h : Co Z w B c n s) {id t : Int} {A : Option Addr} {k : Nat} {l : List Int} {v0 v4 v5 v6 v7 v8 v9 : Value} (hr : ∀ W', CoFr B w W' → ki.C W' A l.length l) (hc : l.length ≤ k) (hl : Rt l) (hid : 0 ≤ id ∧ id < 4294967296) (ht : 0 ≤ t ∧ t < 4294967296) (hn : n < 1000000) :
    Calls Try.prog 47 #[.pointer (some ⟨c, 0, none⟩), .agg #[v0, .int .u32 id, .int .u32 t, .slice A l.length k, v4, v5, v6, v7, v8, v9]] w fun e w' => e = .returned (.int .u16 (s.commitE id t)) ∧ Co Z w' B c (n + 1) (s.commit id t l) ∧ CoFr B w w' := by
  obtain ⟨mb, D, ptr, mp, h⟩ := h
  obtain ⟨W, hW⟩ : ∃ W, W = w.alloc (.cells #[v0, .int .u32 id, .int .u32 t, .slice A l.length k, v4, v5, v6, v7, v8, v9] 48) := ⟨_, rfl⟩
  have hb : Below w.heap.size w W := by rw [hW]; exact iF (Below.refl _ _) _
  have hX : W.heap[w.heap.size]? = some (.cells #[v0, .int .u32 id, .int .u32 t, .slice A l.length k, v4, v5, v6, v7, v8, v9] 48 (0, 0)) := by rw [hW]; exact jD rfl
  have h2 := h.below hb
  obtain ⟨_, r1, r2, r3, _, _⟩ := jX hX
  have hin := uP h2 hid (st := 2)
  obtain ⟨c0, c1, _⟩ := h2.cells
  obtain ⟨E, hE⟩ : ∃ E, E = s.commitE id t := ⟨_, rfl⟩
  obtain ⟨S', hS⟩ : ∃ S', S' = s.commit id t l := ⟨_, rfl⟩
  rw [← hE, ← hS]
  unfold CS.commitE at hE
  unfold CS.commit at hS
  unfold ptrI at hin
  have HH := iC.mk h2
  have HR := iC.mk hr
  have HF := iC.mk (CoFr.of_below hb h.Ble)
  have HX := iC.mk hX
  have HW := iC.mk hW
  have HID := iC.mk hid
  have HT := iC.mk ht
  have HL := iC.mk hl
  obtain ⟨last, hlast⟩ : ∃ x, x = s.last := ⟨_, rfl⟩
  rw [← hlast] at c1 hE hS
  have HLA := iC.mk hlast
  obtain ⟨N, hN⟩ : ∃ N, l.length = N := ⟨_, rfl⟩
  have HN := iC.mk hN
  rw [hN] at r3 hc HW HX ⊢
  clear h h2 hb hX hr hid ht hl hW hlast hN
  cases hI : s.inn id 2 with
  | some b =>
    rw [hI] at hin
    rw [hI, Option.isSome_some, if_pos rfl] at hE hS
    subst hE; subst hS
    clear hI
    go_enter Try.func47, Try.ntmps47
    go_upto_region 1 with fail
    rw [← HW.out]
    clear HW
    go_wp2_with (go_at_call 41; refine hin.mono ?_; rintro e w1 ⟨rfl, rfl⟩)
    go_ret
    exact ⟨rfl, ⟨_, _, _, _, HH.out.mono (Nat.le_succ _)⟩, HF.out⟩
  | none =>
    rw [hI] at hin
    rw [hI, Option.isSome_none, if_neg (by simp)] at hE hS
    clear hI
    go_enter Try.func47, Try.ntmps47
    go_upto_region 1 with fail
    rw [← HW.out]
    clear HW
    go_upto_region 3 with (go_at_call 41; refine hin.mono ?_; rintro e w1 ⟨rfl, rfl⟩)
    go_quiet (fail)
    obtain ⟨W2, hW2⟩ : ∃ x, x = w1.drewN nq := ⟨_, rfl⟩
    have hb2 : Below w1.heap.size w1 W2 := by rw [hW2]; exact iG (Below.refl _ _) nq
    have hx2 := HH.out.below hb2
    have HX2 := iC.mk hx2
    have HF2 := iC.mk (HF.out.trans (CoFr.of_below hb2 HH.out.Ble))
    have HR2 := iC.mk (iV hb2 HX.out)
    rw [← hW2]
    clear hW2 hb2 hx2 HH HF HX c0 c1 r1 r2 r3 hin
    by_cases hle : t ≤ last
    · rw [if_pos hle] at hE hS
      subst hE; subst hS
      go_wp2
      go_ret
      exact ⟨rfl, ⟨_, _, _, _, HX2.out.mono (Nat.le_succ _)⟩, HF2.out⟩
    · rw [if_neg hle] at hE hS
      have HS := iC.mk hS
      subst hE
      clear hS
      go_upto_region 5 with fail
      have HXd := iC.mk (HX2.out.below (iP (Below.refl _ _)))
      have HFd := iC.mk (HF2.out.trans (CoFr.of_below (iP (Below.refl _ _)) HX2.out.Ble))
      have hcall := JU (st := 2) (t := t) (c := k) (l := l) W2.drew (HR.out _ HFd.out) (by rw [HN.out]; exact hc) HL.out HXd.out.zlt
      rw [HN.out] at hcall
      obtain ⟨_, r1, r2, r3, _, _⟩ := jX HR2.out
      have c0 := HX2.out.cells.1
      refine jQ (n := 13) (S := fun w' => w'.cell? ⟨c, 0, none⟩ = some (.map (some mb)) ∧ w'.cell? ⟨w.heap.size, 1, none⟩ = some (.int .u32 id) ∧ w'.cell? ⟨w.heap.size, 2, none⟩ = some (.int .u32 t) ∧ w'.cell? ⟨w.heap.size, 3, none⟩ = some (.slice A N k)) (ds := [12]) #[false, false, false, false, false, false, false, false, false, false, false, false, false] (by kernel_rfl) rfl rfl ⟨c0, r1, r2, r3⟩ (fun hHeld => ?_)
      refine jE (T := (true, [([], []), ([0], [0]), ([1], [1]), ([2], [2]), ([], []), ([4], [4]), ([], []), ([6], [6]), ([7], [7]), ([], []), ([9], [9]), ([8, 10], [8, 10]), ([3, 5, 11, 11, 0, 1, 2, 3, 4, 5, 6, 7, 8, 9, 10, 11], [3, 5, 11])])) (B := [0, 1, 3, 7, 0, 16, 0, 64, 192, 0, 512, 1984, 4095]) (by kernel_rfl) (by kernel_rfl) (fun HT_ HW_ => ?_)
      refine iM (i := 0) (N := some 19) (v := ?_) (a' := ?_) #[true, false, false, false, false, false, false, false, false, false, false, false, false] rfl rfl (iI HT_.out (by kernel_rfl)) (fun _ _ _ h => h) (Or.inl ⟨by rfl, ?_⟩) ?_ ?_
      rotate_left
      · intro w'
        go_simp
        with_reducible rfl
      rotate_left
      · simp only [Act.put, List.setIfInBounds_toArray, List.set_cons_zero, List.set_cons_succ, iJ, iK]
        rfl
      refine iM (i := 1) (N := some 20) (v := ?_) (a' := ?_) #[true, true, false, false, false, false, false, false, false, false, false, false, false] rfl rfl (iI HT_.out (by kernel_rfl)) (fun _ _ _ h => h) (Or.inl ⟨by rfl, ?_⟩) ?_ ?_
      rotate_left
      · intro w'
        go_simp
        with_reducible rfl
      rotate_left
      · simp only [Act.put, List.setIfInBounds_toArray, List.set_cons_zero, List.set_cons_succ, iJ, iK]
        rfl
      refine iM (i := 2) (N := some 21) (v := ?_) (a' := ?_) #[true, true, true, false, false, false, false, false, false, false, false, false, false] rfl rfl (iI HT_.out (by kernel_rfl)) (fun _ _ _ h => h) (Or.inl ⟨by rfl, ?_⟩) ?_ ?_
      rotate_left
      · intro w'
        go_simp
        with_reducible rfl
      rotate_left
      · simp only [Act.put, List.setIfInBounds_toArray, List.set_cons_zero, List.set_cons_succ, iJ, iK]
        rfl
      refine iM (i := 4) (N := some 23) (v := ?_) (a' := ?_) #[true, true, true, false, true, false, false, false, false, false, false, false, false] rfl rfl (iI HT_.out (by kernel_rfl)) (fun _ _ _ h => h) (Or.inl ⟨by rfl, ?_⟩) ?_ ?_
      rotate_left
      · intro w'
        go_simp
        with_reducible rfl
      rotate_left
      · simp only [Act.put, List.setIfInBounds_toArray, List.set_cons_zero, List.set_cons_succ, iJ, iK]
        rfl
      refine iM (i := 6) (N := some 25) (v := ?_) (a' := ?_) #[true, true, true, false, true, false, true, false, false, false, false, false, false] rfl rfl (iI HT_.out (by kernel_rfl)) (fun _ _ _ h => h) (Or.inl ⟨by rfl, ?_⟩) ?_ ?_
      rotate_left
      · intro w'
        go_simp
        with_reducible rfl
      rotate_left
      · simp only [Act.put, List.setIfInBounds_toArray, List.set_cons_zero, List.set_cons_succ, iJ, iK]
        rfl
      refine iM (i := 9) (N := some 28) (v := ?_) (a' := ?_) #[true, true, true, false, true, false, true, false, false, true, false, false, false] rfl rfl (iI HT_.out (by kernel_rfl)) (fun _ _ _ h => h) (Or.inl ⟨by rfl, ?_⟩) ?_ ?_
      rotate_left
      · intro w'
        go_simp
        with_reducible rfl
      rotate_left
      · simp only [Act.put, List.setIfInBounds_toArray, List.set_cons_zero, List.set_cons_succ, iJ, iK]
        rfl
      refine jH (i := 3) (N := some 22) (v := ?_) (a' := ?_) #[true, true, true, true, true, false, true, false, false, true, false, false, false] rfl rfl (iT HT_.out HW_.out (by kernel_rfl)) (fun _ _ _ h => h) (Or.inl ⟨by rfl, ?_⟩) hHeld ?_ ?_
      rotate_left
      · rintro w' ⟨s0, s1, s2, s3⟩
        go_simp
        with_reducible rfl
      rotate_left
      · simp only [Act.put, List.setIfInBounds_toArray, List.set_cons_zero, List.set_cons_succ, iJ, iK]
        rfl
      refine jH (i := 5) (N := some 24) (v := ?_) (a' := ?_) #[true, true, true, true, true, true, true, false, false, true, false, false, false] rfl rfl (iT HT_.out HW_.out (by kernel_rfl)) (fun _ _ _ h => h) (Or.inl ⟨by rfl, ?_⟩) hHeld ?_ ?_
      rotate_left
      · rintro w' ⟨s0, s1, s2, s3⟩
        go_simp
        with_reducible rfl
      rotate_left
      · simp only [Act.put, List.setIfInBounds_toArray, List.set_cons_zero, List.set_cons_succ, iJ, iK]
        rfl
      refine jH (i := 7) (N := some 26) (v := ?_) (a' := ?_) #[true, true, true, true, true, true, true, true, false, true, false, false, false] rfl rfl (iT HT_.out HW_.out (by kernel_rfl)) (fun _ _ _ h => h) (Or.inl ⟨by rfl, ?_⟩) hHeld ?_ ?_
      rotate_left
      · rintro w' ⟨s0, s1, s2, s3⟩
        go_simp
        with_reducible rfl
      rotate_left
      · simp only [Act.put, List.setIfInBounds_toArray, List.set_cons_zero, List.set_cons_succ, iJ, iK]
        rfl
      refine iM (i := 8) (N := some 27) (v := ?_) (a' := ?_) #[true, true, true, true, true, true, true, true, true, true, false, false, false] rfl rfl (iI HT_.out (by kernel_rfl)) (fun _ _ _ h => h) (Or.inl ⟨by rfl, ?_⟩) ?_ ?_
      rotate_left
      · intro w'
        go_simp
        with_reducible rfl
      rotate_left
      · simp only [Act.put, List.setIfInBounds_toArray, List.set_cons_zero, List.set_cons_succ, iJ, iK]
        rfl
      refine jH (i := 10) (N := some 29) (v := ?_) (a' := ?_) #[true, true, true, true, true, true, true, true, true, true, true, false, false] rfl rfl (iT HT_.out HW_.out (by kernel_rfl)) (fun _ _ _ h => h) (Or.inl ⟨by rfl, ?_⟩) hHeld ?_ ?_
      rotate_left
      · rintro w' ⟨s0, s1, s2, s3⟩
        go_simp
        with_reducible rfl
      rotate_left
      · simp only [Act.put, List.setIfInBounds_toArray, List.set_cons_zero, List.set_cons_succ, iJ, iK]
        rfl
      refine one_ (i := 11) (N := some 30) #[true, true, true, true, true, true, true, true, true, true, true, true, false] rfl rfl (jK HT_.out (by kernel_rfl)) (by decide) (fun K hK => ?_)
      refine l7 Try.func40 (by kernel_rfl) rfl #[.agg #[.int .u8 2, .int .u32 t], .slice A N k] (by rfl) rfl rfl (by simp only [List.map_toArray, List.map_cons, List.map_nil]; rfl) ?_
      with_reducible refine (hcall).mono ?_
      rintro e w3 ⟨p, m, rfl, hB3, hb3⟩
      refine ⟨_, rfl, ?_⟩
      have HX3 := iC.mk (HXd.out.below hb3)
      have HF3 := iC.mk (HFd.out.trans (CoFr.of_below hb3 HXd.out.Ble))
      have HB3 := iC.mk hB3
      have HRB := iC.mk (iV hb3 HR2.out)
      have HR3 := iC.mk (jX HRB.out)
      obtain ⟨w4, hrun, hO4, hg4⟩ := HX3.out.own.update qL Try.underlying74 (by unfold maxLen; omega) (keyOf_int_mk Try.underlying28 (vU HID.out)) (show RP (.pointer (some ⟨p, 0, none⟩)) = some (.lit (.int .i64 (p : Int)), []) from rfl)
      have HO4 := iC.mk hO4
      have HG4 := iC.mk hg4
      clear hB3 hb3 hcall hO4 hg4
      refine hK.out _ _ ⟨HX3.out.cells.1, HR3.out.2.1, HR3.out.2.2.1, HR3.out.2.2.2.1⟩ (fun hHeld => ?_)
      clear hK K
      refine kC (a' := ?_) ?_ ?_
      rotate_left
      · show Act.put _ (some 30) _ = _
        simp only [Act.put, List.setIfInBounds_toArray, List.set_cons_zero, List.set_cons_succ, iJ, iK]
        rfl
      refine mQ (i := 12) (N := none) #[true, true, true, true, true, true, true, true, true, true, true, true, true] rfl rfl (jK HT_.out (by kernel_rfl)) (by decide) (fun K hK => ?_)
      refine mX (w1 := ?_) (by rfl) rfl ?_ ?_
      rotate_left
      · go_simp
        rfl
      refine hK.out _ _ ?_
      clear hK K
      refine kP (jM HT_.out (by kernel_rfl)) ?_
      have hlow := HB3.out.lower (B' := B) HXd.out.Ble
      have hadd := HX3.out.add HXd.out HB3.out.pB HB3.out.mB hlow HG4.out HO4.out HID.out ⟨by show (0 : Int) ≤ 2 ∧ (2 : Int) < 256; omega, HT.out, HL.out⟩
      have HF4 := iC.mk (HF3.out.trans (HX3.out.fr HG4.out))
      obtain ⟨_, _, r2, _⟩ := jX ((jL HG4.out HRB.out (fun e => lL HX3.out.own _ _ _ (e ▸ HRB.out))).trans HRB.out)
      obtain ⟨_, c1, _⟩ := hadd.cells
      obtain ⟨A5, k5, hblk, _⟩ := hadd.blk
      have f1 := iE hblk 1
      have hok := hadd.ok
      have hfin := hadd.head1 (s' := S') 1 (.int .u32 t) (by rw [HS.out]; rfl) (by rw [HS.out]; rfl) (by rw [HS.out]; exact ⟨hok.nd, hok.key, hok.bat, HT.out, hok.starts, hok.begun, hok.ep, hok.spl⟩) (fun V => by rw [HS.out]; rfl)
      have HFin := iC.mk hfin
      clear hadd hlow hblk hok hfin
      go_wp2
      go_ret
      exact ⟨rfl, ⟨_, _, _, _, HFin.out.1⟩, HF4.out.trans HFin.out.2⟩
end
end Go.Proofs.Ytjppookmjdaplaa.K
end

section
namespace Go.Proofs
open Go.Shelf
def Try.delA_ren : Go.Shelf.Ren := ⟨fun | 5 => 70 | n => n, fun | 23 => 74 | 26 => 28 | 24 => 79 | 27 => 121 | 0 => 0 | 4 => 4 | n => n, fun | n => n⟩
theorem Try.delA : Go.Proofs.SlLaysDf.n5 Try.prog Try.delA_ren := {
  mixed := by kernel_rfl
  f5 := ⟨Try.f70.name, by decide, Try.func70.trans (congrArg some (by kernel_rfl))⟩
  t0 := Try.underlying0
  a0 := Try.isAgg0
  z0 := Try.sizeOf0
  v0 := Try.zeroValue0
  t4 := Try.underlying4
  a4 := Try.isAgg4
  z4 := Try.sizeOf4
  v4 := Try.zeroValue4
  t23 := Try.underlying74
  a23 := Try.isAgg74
  z23 := Try.sizeOf74
  v23 := Try.zeroValue74
  a24 := Try.isAgg79
  z24 := Try.sizeOf79
  a26 := Try.isAgg28
  z26 := Try.sizeOf28
  t27 := Try.underlying121
  a27 := Try.isAgg121
  z27 := Try.sizeOf121
  v27 := Try.zeroValue121 }
end Go.Proofs
end

section
namespace Go.Proofs.Ytjppookmjdaplaa.K
open Go Go.RowKit Go.Maps Go.Proofs.YtjppookmjdaplaaW.PrintWords Go.Proofs.YtjppookmjdaplaaW.PrintLast Go.Proofs.YtjppookmjdaplaaW.PrintMore Go.Proofs.Ytjppookmjdaplaa.My
variable {Z : Nat}
open Go.WideElems (Fit rd rg rd_key rd_val rg_of)
theorem MJ {es : List (Lit × DataW Nat)} {k : Lit} {x : Lit} (h : ∀ z, (DataW.map es : DataW Nat).atKey k z = .lit x) : (k, DataW.lit x) ∈ es := by
  have h0 := h (.map [])
  unfold DataW.atKey at h0
  simp only at h0
  cases hf : es.find? (fun p => p.1.sameKey k) with
  | none => rw [hf] at h0; cases h0
  | some p =>
    rw [hf] at h0
    have h1 := List.find?_some hf
    have h2 := WideAt.sameKey_eq h1
    have h3 := List.mem_of_find?_eq_some hf
    obtain ⟨p1, p2⟩ := p
    simp only at h0 h2
    subst h0; subst h2
    exact h3
theorem zS {es : List (Lit × DataW Nat)} {k : Lit} (h : ∀ p ∈ es, p.1 ≠ k) (z : DataW Nat) : (DataW.map es : DataW Nat).atKey k z = z := by
  unfold DataW.atKey
  simp only
  cases hf : es.find? (fun p => p.1.sameKey k) with
  | none => rfl
  | some p => exact absurd (WideAt.sameKey_eq (a := p.1) (b := k) (by simpa using List.find?_some hf)) (h p (List.mem_of_find?_eq_some hf))
theorem NF {es : List (Lit × DataW Nat)} (hap : es.Pairwise (fun p q => p.1 ≠ q.1)) {k : Lit} (hk : WideAt.IsKeyLit k) (h : ∀ z, (DataW.map es : DataW Nat).atKey k z = z) : ∀ p ∈ es, p.1 ≠ k := fun p hp e => by
  obtain ⟨p1, p2⟩ := p
  simp only at e
  subst e
  have h1 := WideAt.atKey_mem (.map []) hk hap hp
  have h2 := WideAt.atKey_mem (.lit (.bool true)) hk hap hp
  rw [h] at h1 h2
  rw [← h1] at h2; cases h2
section
variable {w : World} {B c : Nat} {s : CS} {mb n : Nat} {D : DataW Nat} {ptr mp : Int → Nat}
open Classical in
/-- How the pointers read that are in the map. -/
noncomputable def RQ (s : CS) (ptr : Int → Nat) (v : Value) : Option (DataW Nat × List MemPlace) := if ∃ id b, getB s.L id = some b ∧ v = .pointer (some ⟨ptr id, 0, none⟩) then RP v else none
open Classical in
/-- What is open goes. -/
noncomputable def pdO (s : CS) (ptr : Int → Nat) (_ : Lit) (d : DataW Nat) : Bool := decide (∃ id b, getB s.L id = some b ∧ d = .lit (.int .i64 (ptr id : Int)) ∧ b.st = 1)
theorem CoX.ownQ (h : CoX Z w B c s mb n D ptr mp) : w.ownsMap Try.prog 28 (RQ s ptr) mb n D := by
  obtain ⟨es', hD', hap, hkeys⟩ := h.own.entries qL
  have hks := h.ks
  have hat := h.at_
  obtain ⟨es, clock, hb, F, hs, hD⟩ := h.own
  have hst : ∀ x ∈ es.toList, ∀ z, RP x.val = some z → RQ s ptr x.val = some z := by
    intro x hx z hz
    obtain ⟨y, hy⟩ := F.reads x hx
    obtain ⟨z', hz', hzd⟩ := rd_val hy
    have hrg := rg_of hy
    have hmem : y ∈ es' := by
      have : D = .map es' := hD'
      rw [hD] at this
      cases this
      refine (WideShapes.sorted_perm _).mem_iff.2 ?_
      exact List.mem_map.2 ⟨x, hx, hrg⟩
    obtain ⟨esk, hDk, _, hku⟩ := hks
    rw [hD'] at hDk
    cases hDk
    obtain ⟨i, hi⟩ := hku y hmem
    have ha := hat i (.map [])
    have ha2 := hat i (.lit (.bool true))
    rw [hD', WideAt.atKey_mem _ (keyU i) hap (show (Lit.int .u32 i, y.2) ∈ es' from by rw [← hi]; exact hmem)] at ha ha2
    cases hg : getB s.L i with
    | none => rw [hg] at ha ha2; simp only at ha ha2; rw [ha] at ha2; cases ha2
    | some b =>
      rw [hg] at ha
      simp only at ha
      have : RP x.val = some (.lit (.int .i64 (ptr i : Int)), z'.2) := by rw [hz', ← ha, hzd]
      have hv := zM this
      unfold RQ
      rw [if_pos ⟨i, b, hg, hv⟩]
      exact hz
  obtain ⟨F1, hmap, _⟩ := F.stay hst
  exact ⟨es, clock, hb, F1, hs, by rw [hmap]; exact hD⟩
theorem NM {w : World} {D : DataW Nat} (h : w.ownsMap Try.prog 28 (RQ s ptr) mb n D) : UM w mb n D := by
  obtain ⟨es, clock, hb, F, hs, hD⟩ := h
  obtain ⟨F1, hmap, _⟩ := F.stay (R' := RP) (fun x _ z hz => by unfold RQ at hz; split at hz; exact hz; cases hz)
  exact ⟨es, clock, hb, F1, hs, by rw [hmap]; exact hD⟩
theorem CoX.kuO (h : CoX Z w B c s mb n D ptr mp) : KU (Lib.deleteFuncD (pdO s ptr) D) := by
  obtain ⟨es, rfl, h1, h2⟩ := h.ks
  exact ⟨_, rfl, h1.filter _, fun p hp => h2 p (List.mem_filter.1 hp).1⟩
theorem CoX.pd_iff (h : CoX Z w B c s mb n D ptr mp) {id : Int} {b : CB} (hb : getB s.L id = some b) (k : Lit) : pdO s ptr k (.lit (.int .i64 (ptr id : Int))) = decide (b.st = 1) := by
  unfold pdO
  by_cases e : b.st = 1
  · rw [decide_eq_true e]; exact @decide_eq_true _ (Classical.propDecidable _) ⟨id, b, hb, rfl, e⟩
  · rw [decide_eq_false e]
    refine @decide_eq_false _ (Classical.propDecidable _) ?_
    rintro ⟨i, b', h1, h2, h3⟩
    by_cases e2 : i = id
    · subst e2; rw [hb] at h1; cases h1; exact e h3
    · have := (h.inj i id b' b h1 hb e2).1
      simp only [DataW.lit.injEq, Lit.int.injEq, true_and] at h2
      exact this (by omega)
theorem CoX.atO (h : CoX Z w B c s mb n D ptr mp) (id : Int) (z : DataW Nat) : (Lib.deleteFuncD (pdO s ptr) D).atKey (.int .u32 id) z = match getB (s.L.filter fun p => decide (p.2.st ≠ 1)) id with | some _ => .lit (.int .i64 (ptr id : Int)) | none => z := by
  have hpd := fun b hb => h.pd_iff (id := id) (b := b) hb (.int .u32 id)
  have hat := h.at_ id
  obtain ⟨es, rfl, h1, h2⟩ := h.ks
  rw [nD h.ok.nd (fun b => decide (b.st ≠ 1)) id]
  show (DataW.map (es.filter fun p => !pdO s ptr p.1 p.2)).atKey _ z = _
  cases hg : getB s.L id with
  | none =>
    rw [hg] at hat
    have := NF h1 (keyU id) hat
    exact zS (fun p hp => this p (List.mem_filter.1 hp).1) z
  | some b =>
    rw [hg] at hat
    have hm := MJ hat
    have hp := hpd b hg
    by_cases e : b.st = 1
    · rw [show Option.filter (fun b : CB => decide (b.st ≠ 1)) (some b) = none from by simp [Option.filter, e]]
      refine zS (fun p hpm he => ?_) z
      obtain ⟨hpe, hpf⟩ := List.mem_filter.1 hpm
      obtain ⟨p1, p2⟩ := p
      simp only at he
      subst he
      have e1 := WideAt.atKey_mem (.map []) (keyU id) h1 hpe
      rw [hat] at e1
      subst e1
      simp only at hpf
      rw [hp, decide_eq_true e] at hpf
      cases hpf
    · rw [show Option.filter (fun b : CB => decide (b.st ≠ 1)) (some b) = some b from by simp [Option.filter, e]]
      refine WideAt.atKey_mem z (keyU id) (h1.filter _) (List.mem_filter.2 ⟨hm, ?_⟩)
      simp only
      rw [hp, decide_eq_false e]; rfl
theorem oK {l : List (Int × CB)} (hn : (keysB l).Nodup) {id : Int} {b : CB} (h : getB (l.filter fun p => decide (p.2.st ≠ 1)) id = some b) : getB l id = some b := by
  rw [nD hn (fun b => decide (b.st ≠ 1)) id] at h
  cases hg : getB l id with
  | none => rw [hg] at h; cases h
  | some x =>
    rw [hg] at h
    by_cases e : x.st = 1
    · simp [Option.filter, e] at h
    · simp [Option.filter, e] at h; rw [h]
set_option maxRecDepth 20000 in
/-- What is asked of each entry. -/
theorem CoX.del1 (h : CoX Z w B c s mb n D ptr mp) (W : World) (key val : Value) (kl : Lit) (yd : DataW Nat) (yp : List MemPlace) (hg : w.grownBy W (some mb)) (hk : keyOf Try.prog 28 key = some kl) (hv : RQ s ptr val = some (yd, yp)) :
    Calls Try.prog 71 (#[key, val] ++ #[]) W fun e w' => e = .returned (.bool (pdO s ptr kl yd)) ∧ W.grownBy w' none := by
  obtain ⟨x, rfl, rfl, _⟩ := Maps.keyOf_int_inv Try.underlying28 hk
  unfold RQ at hv
  split at hv
  · rename_i he
    obtain ⟨id, b, hb, rfl⟩ := he
    simp only [RP, Option.some.injEq, Prod.mk.injEq] at hv
    obtain ⟨rfl, rfl⟩ := hv
    rw [h.pd_iff hb]
    obtain ⟨A, k, h1, _⟩ := (h.bat id b hb).blk
    have z0 := (iD ((jL hg h1 (h.p_ne_mb hb)).trans h1) 0).trans (show _ = some (Value.int .u8 b.st) from rfl)
    have hst := iC.mk (show decide (b.st = 1) = (b.st == 1) from by cases hd : decide (b.st = 1) <;> simp_all)
    rw [hst.out]
    show Calls _ _ #[.int .u32 x, .pointer (some ⟨ptr id, 0, none⟩)] W _
    clear h hb h1 hk hg
    by_cases e : b.st = 1
    · rw [e] at z0 ⊢
      go_enter Try.func71, Try.ntmps71
      go_wp2
      go_ret
      exact ⟨rfl, World.grownBy.refl _ _⟩
    · have e' : (b.st == 1) = false := by simpa using e
      rw [e']
      go_enter Try.func71, Try.ntmps71
      go_wp2
      go_ret
      exact ⟨rfl, World.grownBy.refl _ _⟩
  · cases hv
theorem CoX.delf (h : CoX Z w B c s mb n D ptr mp) : Calls Try.prog 70 #[.map (some mb), .func (.func 71) #[] #[]] w fun e w' => e = .returned (.tuple #[]) ∧ CoX Z w' B c (s.withL (s.L.filter fun p => decide (p.2.st ≠ 1))) mb n (Lib.deleteFuncD (pdO s ptr) D) ptr mp ∧ CoFr B w w' := by
  have hc := AnyDf.maps_DeleteFunc Try.delA qL (RQ s ptr) (pdO s ptr) 71 #[] mb n D w (enters_of Try.func71 (by kernel_rfl) rfl) h.ownQ h.del1
  refine Calls.mono hc ?_
  rintro e w' ⟨rfl, hO, hg⟩
  exact ⟨rfl, h.less hg (NM hO) h.kuO List.filter_sublist (fun i x hx => oK h.ok.nd hx) h.atO, h.fr hg⟩
set_option maxRecDepth 20000 in
set_option maxHeartbeats 4000000 in
theorem zV (h : Co Z w B c n s) {id : Int} {v0 v2 v3 v4 v5 v6 v7 v8 v9 : Value} (hid : 0 ≤ id ∧ id < 4294967296) :
    Calls Try.prog 48 #[.pointer (some ⟨c, 0, none⟩), .agg #[v0, .int .u32 id, v2, v3, v4, v5, v6, v7, v8, v9]] w fun e w' => e = .returned (.int .u16 (s.startE id)) ∧ Co Z w' B c n (s.start id) ∧ CoFr B w w' := by
  obtain ⟨mb, D, ptr, mp, h⟩ := h
  obtain ⟨W, hW⟩ : ∃ W, W = w.alloc (.cells #[v0, .int .u32 id, v2, v3, v4, v5, v6, v7, v8, v9] 48) := ⟨_, rfl⟩
  have hb : Below w.heap.size w W := by rw [hW]; exact iF (Below.refl _ _) _
  have hX : W.heap[w.heap.size]? = some (.cells #[v0, .int .u32 id, v2, v3, v4, v5, v6, v7, v8, v9] 48 (0, 0)) := by rw [hW]; exact jD rfl
  have h2 := h.below hb
  obtain ⟨_, r1, _⟩ := jX hX
  obtain ⟨_, _, c2, _⟩ := h2.cells
  obtain ⟨E, hE⟩ : ∃ E, E = s.startE id := ⟨_, rfl⟩
  obtain ⟨S', hS⟩ : ∃ S', S' = s.start id := ⟨_, rfl⟩
  rw [← hE, ← hS]
  unfold CS.startE at hE
  unfold CS.start at hS
  have HH := iC.mk h2
  have HF := iC.mk (CoFr.of_below hb h.Ble)
  have HX := iC.mk hX
  have HW := iC.mk hW
  have HID := iC.mk hid
  obtain ⟨st, hst⟩ : ∃ x, x = s.starts := ⟨_, rfl⟩
  rw [← hst] at c2 hE hS
  have HST := iC.mk hst
  have HE := iC.mk hE
  have HS := iC.mk hS
  clear h h2 hb hX hid hW hst hE hS
  by_cases h1 : id ≤ st
  · have hE := HE.out
    have hS := HS.out
    rw [if_pos (.inl h1)] at hE hS
    subst hE; subst hS
    clear HE HS
    go_enter Try.func48, Try.ntmps48
    go_upto_region 1 with fail
    rw [← HW.out]
    clear HW
    go_quiet (fail)
    go_wp2
    go_ret
    exact ⟨rfl, ⟨_, _, _, _, HH.out.below (iG (Below.refl _ _) nq)⟩, HF.out.trans (CoFr.of_below (iG (Below.refl _ _) nq) HH.out.Ble)⟩
  · by_cases h9 : 1000 < id
    · have hE := HE.out
      have hS := HS.out
      rw [if_pos (.inr h9)] at hE hS
      subst hE; subst hS
      clear HE HS
      go_enter Try.func48, Try.ntmps48
      go_upto_region 1 with fail
      rw [← HW.out]
      clear HW
      go_quiet (fail)
      go_wp2
      go_ret
      exact ⟨rfl, ⟨_, _, _, _, HH.out.below (iG (Below.refl _ _) nq)⟩, HF.out.trans (CoFr.of_below (iG (Below.refl _ _) nq) HH.out.Ble)⟩
    · have hE := HE.out
      have hS := HS.out
      rw [if_neg (by omega)] at hE hS
      have HS2 := iC.mk hS
      subst hE
      clear HE HS hS
      go_enter Try.func48, Try.ntmps48
      go_upto_region 1 with fail
      rw [← HW.out]
      clear HW
      go_quiet (fail)
      obtain ⟨W2, hW2⟩ : ∃ x, x = W.drewN nq := ⟨_, rfl⟩
      have hb2 : Below W.heap.size W W2 := by rw [hW2]; exact iG (Below.refl _ _) nq
      have hx2 := HH.out.below hb2
      have HF2 := iC.mk (HF.out.trans (CoFr.of_below hb2 HH.out.Ble))
      have hX2 := iV hb2 HX.out
      rw [← hW2]
      clear hW2 hb2 HH HF HX c2 r1
      have hok := hx2.ok
      obtain ⟨_, r1, _⟩ := jX hX2
      obtain ⟨_, _, c2, c3, _⟩ := hx2.cells
      obtain ⟨A5, k5, hblk, hsp⟩ := hx2.blk
      have f2 := iE hblk 2
      have f3 := iE hblk 3
      have h3 := hx2.head1 (s' := ⟨s.L, s.last, id, s.begun, s.ep, s.sp⟩) 2 (.int .u32 id) rfl rfl ⟨hok.nd, hok.key, hok.bat, hok.last, by show 0 ≤ id ∧ id ≤ 1000; have := HID.out; omega, hok.begun, hok.ep, hok.spl⟩ (fun _ => rfl)
      have h4 := h3.1.head1 (s' := ⟨s.L, s.last, id, 0, s.ep, s.sp⟩) 3 (.int .u32 0) rfl rfl ⟨hok.nd, hok.key, hok.bat, hok.last, by show 0 ≤ id ∧ id ≤ 1000; have := HID.out; omega, by show (0 : Int) ≤ 0 ∧ (0 : Int) ≤ 900; omega, hok.ep, hok.spl⟩ (fun _ => rfl)
      have H4 := iC.mk h4.1
      have HF4 := iC.mk ((HF2.out.trans h3.2).trans h4.2)
      clear h3 h4 hok hsp hx2 hblk hX2
      go_upto_region 4 with fail
      obtain ⟨W4, hW4⟩ : ∃ x, x = (W2.setCell ⟨c, 2, none⟩ (.int .u32 id)).setCell ⟨c, 3, none⟩ (.int .u32 0) := ⟨_, rfl⟩
      rw [← hW4] at H4 HF4 ⊢
      clear hW4 c2 c3 f2 f3 r1
      have c0 := H4.out.cells.1
      have hcall := H4.out.delf
      go_wp2_with (go_at_call 70; refine hcall.mono ?_; rintro e w5 ⟨rfl, h5, hf5⟩)
      go_ret
      exact ⟨rfl, ⟨_, _, _, _, by rw [HS2.out]; exact h5⟩, HF4.out.trans hf5⟩
end
end Go.Proofs.Ytjppookmjdaplaa.K
end

section
namespace Go.Proofs.Ytjppookmjdaplaa.K
open Go Go.RowKit Go.Maps Go.Proofs.YtjppookmjdaplaaW.PrintWords Go.Proofs.YtjppookmjdaplaaW.PrintLast Go.Proofs.YtjppookmjdaplaaW.PrintMore Go.Proofs.Ytjppookmjdaplaa.My
variable {Z : Nat}
def CS.applyE (s : CS) (k id t e : Int) : Int := if k = 2 then s.commitE id t else if k = 5 then s.startE id else if k = 4 then s.endE id else if k = 6 then s.mapE e else 1
def CS.apply (s : CS) (k id t : Int) (l : List Int) (e : Int) (sp : List TSp) : CS := if k = 2 then s.commit id t l else if k = 5 then s.start id else if k = 4 then s.end_ id else if k = 6 then s.map_ e sp else s
/-- A record that is handed over: what is looked at of it. -/
structure RecA (w : World) (B : Nat) (k id t : Int) (A : Option Addr) (q : Nat) (l : List Int) (e : Int) (A6 : Option Addr) (q6 : Nat) (sp : List TSp) : Prop where
  hr : ∀ W', CoFr B w W' → ki.C W' A l.length l
  hq : l.length ≤ q
  h6 : ∀ W', CoFr B w W' → kS.C W' A6 sp.length sp
  hq6 : sp.length ≤ q6
  rt : k = 2 → Rt l
  id : 0 ≤ id ∧ id < 4294967296
  t : 0 ≤ t ∧ t < 4294967296
  e : 0 ≤ e ∧ e < 4294967296
  spl : sp.length ≤ 1000
theorem RecA.fr {w w1 : World} {B : Nat} {k id t : Int} {A : Option Addr} {q : Nat} {l : List Int} {e : Int} {A6 : Option Addr} {q6 : Nat} {sp : List TSp} (h : RecA w B k id t A q l e A6 q6 sp) (hf : CoFr B w w1) : RecA w1 B k id t A q l e A6 q6 sp :=
  ⟨fun W' hw => h.hr W' (hf.trans hw), h.hq, fun W' hw => h.h6 W' (hf.trans hw), h.hq6, h.rt, h.id, h.t, h.e, h.spl⟩
section
variable {w : World} {B c : Nat} {s : CS} {n : Nat} {id t e : Int} {A A6 : Option Addr} {q q6 : Nat} {l : List Int} {sp : List TSp} {x4 x7 x8 x9 : Value}
set_option maxRecDepth 20000 in
set_option maxHeartbeats 4000000 in
theorem yQ (h : Co Z w B c n s) (hr : RecA w B 4 id t A q l e A6 q6 sp) :
    Calls Try.prog 18 #[.pointer (some ⟨c, 0, none⟩), .agg #[.int .u8 4, .int .u32 id, .int .u32 t, .slice A l.length q, x4, .int .u32 e, .slice A6 sp.length q6, x7, x8, x9]] w fun e_ w' => e_ = .returned (.int .u16 (s.endE id)) ∧ Co Z w' B c n (s.end_ id) ∧ CoFr B w w' := by
  obtain ⟨mb, D, ptr, mp, h⟩ := h
  obtain ⟨W, hW⟩ : ∃ W, W = w.alloc (.cells #[.int .u8 4, .int .u32 id, .int .u32 t, .slice A l.length q, x4, .int .u32 e, .slice A6 sp.length q6, x7, x8, x9] 48) := ⟨_, rfl⟩
  have hb : Below w.heap.size w W := by rw [hW]; exact iF (Below.refl _ _) _
  have hX : W.heap[w.heap.size]? = some (.cells #[.int .u8 4, .int .u32 id, .int .u32 t, .slice A l.length q, x4, .int .u32 e, .slice A6 sp.length q6, x7, x8, x9] 48 (0, 0)) := by rw [hW]; exact jD rfl
  have hf := CoFr.of_below (B := B) hb h.Ble
  have h2 := h.below hb
  have hin := uP h2 hr.id (st := 2)
  obtain ⟨r0, r1, _⟩ := jX hX
  have HH := iC.mk h2
  have HF := iC.mk hf
  have HW := iC.mk hW
  unfold CS.endE CS.end_
  unfold ptrI at hin
  clear h hr hb hX hf hW
  cases hI : s.inn id 2 with
  | none =>
    rw [hI] at hin
    rw [Option.isSome_none, if_neg (by simp)]
    simp only
    clear hI h2
    go_enter Try.func18, Try.ntmps18
    go_upto_region 1 with fail
    rw [← HW.out]
    clear HW
    go_wp2_with (go_at_call 41; refine hin.mono ?_; rintro e_ w1 ⟨rfl, rfl⟩)
    go_ret
    exact ⟨rfl, ⟨_, _, _, _, HH.out⟩, HF.out⟩
  | some b =>
    rw [hI] at hin
    rw [Option.isSome_some, if_pos rfl]
    simp only
    obtain ⟨hb, hst⟩ := CS.inn_get hI
    obtain ⟨A1, k1, hblk, hrow⟩ := (h2.bat id b hb).blk
    have z4 := (iD hblk 4).trans (show _ = some (Value.bool b.ended) from rfl)
    have f4 := iE hblk 4
    have hg := kM W (ptr id) 4 (.bool true)
    have hbb : CoB Z (W.setCell ⟨ptr id, 4, none⟩ (.bool true)) B (ptr id) (mp id) b.end_ := by
      obtain ⟨E, hE, hEk⟩ := (h2.bat id b hb).map
      exact ⟨(h2.bat id b hb).pB, (h2.bat id b hb).mB, ⟨A1, k1, iZ hblk 4 (.bool true) rfl, Kd.R_set hrow hblk (by decide) 4 (.bool true)⟩, ⟨E, lG hE (jS hg hE.lt (fun e => lL hE _ _ _ (show W.heap[mp id]? = _ from by rw [e]; exact hblk))), hEk⟩⟩
    have hfin := h2.pset hb hg hbb rfl rfl rfl
    have HFin := iC.mk (And.intro hfin (CoFr.of_grown (B := B) hg (h2.bat id b hb).pB h2.Ble (fun cs t fz e => by rw [hblk] at e; cases e; exact .inr rfl)))
    clear hI h2 hb hst hblk hrow hg hbb hfin
    go_enter Try.func18, Try.ntmps18
    go_upto_region 1 with fail
    rw [← HW.out]
    clear HW
    go_wp2_with (go_at_call 41; refine hin.mono ?_; rintro e_ w1 ⟨rfl, rfl⟩)
    go_ret
    exact ⟨rfl, ⟨_, _, _, _, HFin.out.1⟩, HF.out.trans HFin.out.2⟩
set_option maxRecDepth 20000 in
set_option maxHeartbeats 4000000 in
theorem IK (h : Co Z w B c n s) (hr : RecA w B 6 id t A q l e A6 q6 sp) :
    Calls Try.prog 18 #[.pointer (some ⟨c, 0, none⟩), .agg #[.int .u8 6, .int .u32 id, .int .u32 t, .slice A l.length q, x4, .int .u32 e, .slice A6 sp.length q6, x7, x8, x9]] w fun e_ w' => e_ = .returned (.int .u16 (s.mapE e)) ∧ Co Z w' B c n (s.map_ e sp) ∧ CoFr B w w' := by
  obtain ⟨mb, D, ptr, mp, h⟩ := h
  obtain ⟨W, hW⟩ : ∃ W, W = w.alloc (.cells #[.int .u8 6, .int .u32 id, .int .u32 t, .slice A l.length q, x4, .int .u32 e, .slice A6 sp.length q6, x7, x8, x9] 48) := ⟨_, rfl⟩
  have hb : Below w.heap.size w W := by rw [hW]; exact iF (Below.refl _ _) _
  have hX : W.heap[w.heap.size]? = some (.cells #[.int .u8 6, .int .u32 id, .int .u32 t, .slice A l.length q, x4, .int .u32 e, .slice A6 sp.length q6, x7, x8, x9] 48 (0, 0)) := by rw [hW]; exact jD rfl
  have hf := CoFr.of_below (B := B) hb h.Ble
  have h2 := h.below hb
  obtain ⟨r0, _, _, _, r5, r6⟩ := jX hX
  obtain ⟨_, _, _, _, c4⟩ := h2.cells
  have HH := iC.mk h2
  have HF := iC.mk hf
  have HW := iC.mk hW
  have HR := iC.mk (hr.fr hf)
  have HX := iC.mk hX
  obtain ⟨N, hN⟩ : ∃ N, sp.length = N := ⟨_, rfl⟩
  have HN := iC.mk hN
  obtain ⟨E, hE⟩ : ∃ E, E = s.mapE e := ⟨_, rfl⟩
  obtain ⟨S', hS⟩ : ∃ S', S' = s.map_ e sp := ⟨_, rfl⟩
  rw [← hE, ← hS]
  unfold CS.mapE at hE
  unfold CS.map_ at hS
  obtain ⟨e1, he1⟩ : ∃ x, x = (s.ep + 1) % 4294967296 := ⟨_, rfl⟩
  rw [← he1] at hE hS
  have HE1 := iC.mk he1
  rw [hN] at r6 HW HX ⊢
  clear h hr hb hX hf hW h2 hN he1
  by_cases he : e = e1
  · subst he
    rw [if_pos rfl] at hE hS
    have HS := iC.mk hS
    subst hE
    clear hS
    go_enter Try.func18, Try.ntmps18
    go_upto_region 1 with fail
    rw [← HW.out]
    clear HW
    go_upto_region 13 with fail
    go_quiet (fail)
    rw [← HE1.out]
    obtain ⟨W2, hW2⟩ : ∃ x, x = W.drewN nq := ⟨_, rfl⟩
    have hb2 : Below W.heap.size W W2 := by rw [hW2]; exact iG (Below.refl _ _) nq
    have HX2 := iC.mk (HH.out.below hb2)
    have HF2 := iC.mk (HF.out.trans (CoFr.of_below hb2 HH.out.Ble))
    have HR2 := iC.mk (iV hb2 HX.out)
    have HRA := iC.mk (HR.out.fr (CoFr.of_below hb2 HH.out.Ble))
    rw [← hW2]
    clear hW2 hb2 HH HF HX c4 r0 r5 r6 HR
    go_upto_region 15 with fail
    have hd : Below W2.heap.size W2 W2.drew := iP (Below.refl _ _)
    have hfd := CoFr.of_below (B := B) hd HX2.out.Ble
    have hcall := qG A6 q6 sp W2.drew (HRA.out.h6 _ hfd) HRA.out.hq6 (by have := HRA.out.spl; omega)
    rw [HN.out] at hcall
    obtain ⟨_, _, _, _, r5, r6⟩ := jX HR2.out
    have HXd := iC.mk (HX2.out.below hd)
    have HFd := iC.mk (HF2.out.trans hfd)
    clear hd hfd
    refine jQ (n := 12) (S := fun w' => w'.cell? ⟨w.heap.size, 5, none⟩ = some (.int .u32 e) ∧ w'.cell? ⟨w.heap.size, 6, none⟩ = some (.slice A6 N q6)) (ds := [11]) #[false, false, false, false, false, false, false, false, false, false, false, false] (by kernel_rfl) rfl rfl ⟨r5, r6⟩ (fun hHeld => ?_)
    refine jE (T := (true, [([], []), ([], []), ([1], [1]), ([2], [2]), ([], []), ([4], [4]), ([5], [5]), ([6], [6]), ([3, 7], [3, 7]), ([0, 0, 1, 2, 3, 4, 5, 6, 7, 8], [0]), ([9, 0, 1, 2, 3, 4, 5, 6, 7, 8], [9]), ([10, 8, 7, 0, 1, 2, 3, 4, 5, 6, 7, 8], [8, 10])])) (B := [0, 0, 2, 6, 0, 16, 48, 112, 254, 511, 1023, 2047]) (by kernel_rfl) (by kernel_rfl) (fun HT_ HW_ => ?_)
    refine iM (i := 0) (N := some 41) (v := ?_) (a' := ?_) #[true, false, false, false, false, false, false, false, false, false, false, false] rfl rfl (iI HT_.out (by kernel_rfl)) (fun _ _ _ h => h) (Or.inl ⟨by rfl, ?_⟩) ?_ ?_
    rotate_left
    · intro w'
      go_simp
      with_reducible rfl
    rotate_left
    · simp only [Act.put, List.setIfInBounds_toArray, List.set_cons_zero, List.set_cons_succ, iJ, iK]
      rfl
    refine iM (i := 1) (N := some 42) (v := ?_) (a' := ?_) #[true, true, false, false, false, false, false, false, false, false, false, false] rfl rfl (iI HT_.out (by kernel_rfl)) (fun _ _ _ h => h) (Or.inl ⟨by rfl, ?_⟩) ?_ ?_
    rotate_left
    · intro w'
      go_simp
      with_reducible rfl
    rotate_left
    · simp only [Act.put, List.setIfInBounds_toArray, List.set_cons_zero, List.set_cons_succ, iJ, iK]
      rfl
    refine iM (i := 2) (N := some 43) (v := ?_) (a' := ?_) #[true, true, true, false, false, false, false, false, false, false, false, false] rfl rfl (iI HT_.out (by kernel_rfl)) (fun _ _ _ h => h) (Or.inl ⟨by rfl, ?_⟩) ?_ ?_
    rotate_left
    · intro w'
      go_simp
      with_reducible rfl
    rotate_left
    · simp only [Act.put, List.setIfInBounds_toArray, List.set_cons_zero, List.set_cons_succ, iJ, iK]
      rfl
    refine iM (i := 4) (N := some 45) (v := ?_) (a' := ?_) #[true, true, true, false, true, false, false, false, false, false, false, false] rfl rfl (iI HT_.out (by kernel_rfl)) (fun _ _ _ h => h) (Or.inl ⟨by rfl, ?_⟩) ?_ ?_
    rotate_left
    · intro w'
      go_simp
      with_reducible rfl
    rotate_left
    · simp only [Act.put, List.setIfInBounds_toArray, List.set_cons_zero, List.set_cons_succ, iJ, iK]
      rfl
    refine iM (i := 5) (N := some 46) (v := ?_) (a' := ?_) #[true, true, true, false, true, true, false, false, false, false, false, false] rfl rfl (iI HT_.out (by kernel_rfl)) (fun _ _ _ h => h) (Or.inl ⟨by rfl, ?_⟩) ?_ ?_
    rotate_left
    · intro w'
      go_simp
      with_reducible rfl
    rotate_left
    · simp only [Act.put, List.setIfInBounds_toArray, List.set_cons_zero, List.set_cons_succ, iJ, iK]
      rfl
    refine jH (i := 3) (N := some 44) (v := ?_) (a' := ?_) #[true, true, true, true, true, true, false, false, false, false, false, false] rfl rfl (iT HT_.out HW_.out (by kernel_rfl)) (fun _ _ _ h => h) (Or.inl ⟨by rfl, ?_⟩) hHeld ?_ ?_
    rotate_left
    · rintro w' ⟨s0, s1⟩
      go_simp
      with_reducible rfl
    rotate_left
    · simp only [Act.put, List.setIfInBounds_toArray, List.set_cons_zero, List.set_cons_succ, iJ, iK]
      rfl
    refine jH (i := 6) (N := some 47) (v := ?_) (a' := ?_) #[true, true, true, true, true, true, true, false, false, false, false, false] rfl rfl (iT HT_.out HW_.out (by kernel_rfl)) (fun _ _ _ h => h) (Or.inl ⟨by rfl, ?_⟩) hHeld ?_ ?_
    rotate_left
    · rintro w' ⟨s0, s1⟩
      go_simp
      with_reducible rfl
    rotate_left
    · simp only [Act.put, List.setIfInBounds_toArray, List.set_cons_zero, List.set_cons_succ, iJ, iK]
      rfl
    refine one_ (i := 7) (N := some 48) #[true, true, true, true, true, true, true, true, false, false, false, false] rfl rfl (jK HT_.out (by kernel_rfl)) (by decide) (fun K hK => ?_)
    refine l7 Try.func49 (by kernel_rfl) rfl #[.slice A6 N q6] (by rfl) rfl rfl (by simp only [List.map_toArray, List.map_cons, List.map_nil]; rfl) ?_
    with_reducible refine (hcall).mono ?_
    rintro e_ w3 ⟨v, rfl, hR3, hb3⟩
    refine ⟨_, rfl, ?_⟩
    obtain ⟨A3, q3, rfl⟩ := Kd.R_slice hR3
    rw [HN.out] at hR3 ⊢
    have HX3 := iC.mk (HXd.out.below hb3)
    have HF3 := iC.mk (HFd.out.trans (CoFr.of_below hb3 HXd.out.Ble))
    have HRR := iC.mk (jX (iV hb3 HR2.out))
    have HV3 := iC.mk (Kd.R_lower hR3 HXd.out.Ble)
    obtain ⟨A5, k5, hblk, _⟩ := HX3.out.blk
    have y4 := (iD hblk 4).trans (show _ = some (Value.int .u32 s.ep) from rfl)
    have y5 := (iD hblk 5).trans (show _ = some (Value.slice A5 s.sp.length k5) from rfl)
    have f4 := iE hblk 4
    have f5 := iE hblk 5
    have HBK := iC.mk hblk
    clear hR3 hb3 hcall hblk
    refine hK.out _ _ ⟨HRR.out.2.2.2.2.1, HRR.out.2.2.2.2.2⟩ (fun hHeld => ?_)
    clear hK K
    refine kC (a' := ?_) ?_ ?_
    rotate_left
    · show Act.put _ (some 48) _ = _
      simp only [Act.put, List.setIfInBounds_toArray, List.set_cons_zero, List.set_cons_succ, iJ, iK]
      rfl
    refine iM (i := 8) (N := some 49) (v := ?_) (a' := ?_) #[true, true, true, true, true, true, true, true, true, false, false, false] rfl rfl (iI HT_.out (by kernel_rfl)) (fun _ _ _ h => h) (Or.inl ⟨by rfl, ?_⟩) ?_ ?_
    rotate_left
    · intro w'
      go_simp
      with_reducible rfl
    rotate_left
    · simp only [Act.put, List.setIfInBounds_toArray, List.set_cons_zero, List.set_cons_succ, iJ, iK]
      rfl
    refine iM (i := 9) (N := some 50) (v := ?_) (a' := ?_) #[true, true, true, true, true, true, true, true, true, true, false, false] rfl rfl (iI HT_.out (by kernel_rfl)) (fun _ _ _ h => h) (Or.inl ⟨by rfl, ?_⟩) ?_ ?_
    rotate_left
    · intro w'
      go_simp
      with_reducible rfl
    rotate_left
    · simp only [Act.put, List.setIfInBounds_toArray, List.set_cons_zero, List.set_cons_succ, iJ, iK]
      rfl
    refine iM (i := 10) (N := some 51) (v := ?_) (a' := ?_) #[true, true, true, true, true, true, true, true, true, true, true, false] rfl rfl (iI HT_.out (by kernel_rfl)) (fun _ _ _ h => h) (Or.inl ⟨by rfl, ?_⟩) ?_ ?_
    rotate_left
    · intro w'
      go_simp
      with_reducible rfl
    rotate_left
    · simp only [Act.put, List.setIfInBounds_toArray, List.set_cons_zero, List.set_cons_succ, iJ, iK]
      rfl
    refine mQ (i := 11) (N := none) #[true, true, true, true, true, true, true, true, true, true, true, true] rfl rfl (jK HT_.out (by kernel_rfl)) (by decide) (fun K hK => ?_)
    refine mX (w1 := ?_) (by rfl) rfl ?_ ?_
    rotate_left
    · go_simp
      rfl
    refine hK.out _ _ ?_
    clear hK K
    refine kP (jM HT_.out (by kernel_rfl)) ?_
    go_wp2
    go_ret
    have hok := HX3.out.ok
    have hp4 := iZ (cs := #[.map (some mb), .int .u32 s.last, .int .u32 s.starts, .int .u32 s.begun, .int .u32 s.ep, .slice A5 s.sp.length k5]) (cs' := #[.map (some mb), .int .u32 s.last, .int .u32 s.starts, .int .u32 s.begun, .int .u32 e, .slice A5 s.sp.length k5]) HBK.out 4 (.int .u32 e) rfl
    have hp5 := iZ (cs := #[.map (some mb), .int .u32 s.last, .int .u32 s.starts, .int .u32 s.begun, .int .u32 e, .slice A5 s.sp.length k5]) (cs' := #[.map (some mb), .int .u32 s.last, .int .u32 s.starts, .int .u32 s.begun, .int .u32 e, .slice A3 N q3]) hp4 5 (.slice A3 N q3) rfl
    have hg := (kM w3 c 4 (.int .u32 e)).andThen (kM _ c 5 (.slice A3 N q3)) (fun j hj => .inr hj)
    have hrow := Kd.R_set (Kd.R_set HV3.out HBK.out (by decide) 4 (.int .u32 e)) hp4 (by decide) 5 (.slice A3 N q3)
    have hfin := HX3.out.head (s' := ⟨s.L, s.last, s.starts, s.begun, e, sp⟩) rfl hg ⟨A3, q3, by rw [show (⟨s.L, s.last, s.starts, s.begun, e, sp⟩ : CS).sp.length = N from HN.out]; exact hp5, by rw [show (⟨s.L, s.last, s.starts, s.begun, e, sp⟩ : CS).sp.length = N from HN.out]; exact hrow⟩ ⟨hok.nd, hok.key, hok.bat, hok.last, hok.starts, hok.begun, HRA.out.e, HRA.out.spl⟩
    refine ⟨rfl, ⟨_, _, _, _, by rw [HS.out]; exact hfin⟩, HF3.out.trans (CoFr.of_grown hg HX3.out.cB HX3.out.Ble (fun cs t fz e => ?_))⟩
    rw [HBK.out] at e; cases e; exact .inl rfl
  · rw [if_neg he] at hE hS
    subst hE; subst hS
    go_enter Try.func18, Try.ntmps18
    go_upto_region 1 with fail
    rw [← HW.out]
    clear HW
    go_upto_region 13 with fail
    go_quiet (fail)
    rw [← HE1.out]
    go_wp2
    go_ret
    exact ⟨rfl, ⟨_, _, _, _, HH.out.below (iG (Below.refl _ _) nq)⟩, HF.out.trans (CoFr.of_below (iG (Below.refl _ _) nq) HH.out.Ble)⟩
attribute [-go_sem] Instr.loadAt
theorem JB {w : World} {a : Addr} {x : Int} (h : w.cell? a = some (.int .u8 x)) : (Instr.loadAt 5 (.pointer (some a))).run Try.prog w = .ok (.int .u8 x) w := by simp [go_sem, Instr.loadAt, h]
set_option maxRecDepth 20000 in
set_option maxHeartbeats 4000000 in
theorem oJ (h : Co Z w B c n s) (hr : RecA w B 2 id t A q l e A6 q6 sp) (hn : n < 1000000) :
    Calls Try.prog 18 #[.pointer (some ⟨c, 0, none⟩), .agg #[.int .u8 2, .int .u32 id, .int .u32 t, .slice A l.length q, x4, .int .u32 e, .slice A6 sp.length q6, x7, x8, x9]] w fun e_ w' => e_ = .returned (.int .u16 (s.commitE id t)) ∧ Co Z w' B c (n + 1) (s.commit id t l) ∧ CoFr B w w' := by
  obtain ⟨W, hW⟩ : ∃ W, W = w.alloc (.cells #[.int .u8 2, .int .u32 id, .int .u32 t, .slice A l.length q, x4, .int .u32 e, .slice A6 sp.length q6, x7, x8, x9] 48) := ⟨_, rfl⟩
  have hb : Below w.heap.size w W := by rw [hW]; exact iF (Below.refl _ _) _
  have hX : W.heap[w.heap.size]? = some (.cells #[.int .u8 2, .int .u32 id, .int .u32 t, .slice A l.length q, x4, .int .u32 e, .slice A6 sp.length q6, x7, x8, x9] 48 (0, 0)) := by rw [hW]; exact jD rfl
  have hB : B ≤ w.heap.size := Nat.le_trans h.ge (Nat.le_of_lt h.lt)
  have hf := CoFr.of_below (B := B) hb hB
  have hr2 := hr.fr hf
  have hcall := yE (v0 := .int .u8 2) (v4 := x4) (v5 := .int .u32 e) (v6 := .slice A6 sp.length q6) (v7 := x7) (v8 := x8) (v9 := x9) (h.below hb) hr2.hr hr2.hq (hr2.rt rfl) hr2.id hr2.t hn
  have l0 := fun (_ : True) => JB ((iD hX 0).trans (show _ = some (Value.int .u8 2) from rfl))
  have l1 := fun (_ : True) => rJ hX rfl
  have HF := iC.mk hf
  have HW := iC.mk hW
  clear h hr hb hX hB hf hr2 hW
  go_enter Try.func18, Try.ntmps18
  go_upto_region 1 with fail
  rw [← HW.out]
  clear HW
  go_wp2_with (go_at_call 47; refine hcall.mono ?_; rintro e_ w1 ⟨rfl, h1, hf1⟩)
  go_ret
  exact ⟨rfl, h1, HF.out.trans hf1⟩
set_option maxRecDepth 20000 in
set_option maxHeartbeats 4000000 in
theorem pR (h : Co Z w B c n s) (hr : RecA w B 5 id t A q l e A6 q6 sp) :
    Calls Try.prog 18 #[.pointer (some ⟨c, 0, none⟩), .agg #[.int .u8 5, .int .u32 id, .int .u32 t, .slice A l.length q, x4, .int .u32 e, .slice A6 sp.length q6, x7, x8, x9]] w fun e_ w' => e_ = .returned (.int .u16 (s.startE id)) ∧ Co Z w' B c n (s.start id) ∧ CoFr B w w' := by
  obtain ⟨W, hW⟩ : ∃ W, W = w.alloc (.cells #[.int .u8 5, .int .u32 id, .int .u32 t, .slice A l.length q, x4, .int .u32 e, .slice A6 sp.length q6, x7, x8, x9] 48) := ⟨_, rfl⟩
  have hb : Below w.heap.size w W := by rw [hW]; exact iF (Below.refl _ _) _
  have hX : W.heap[w.heap.size]? = some (.cells #[.int .u8 5, .int .u32 id, .int .u32 t, .slice A l.length q, x4, .int .u32 e, .slice A6 sp.length q6, x7, x8, x9] 48 (0, 0)) := by rw [hW]; exact jD rfl
  have hB : B ≤ w.heap.size := Nat.le_trans h.ge (Nat.le_of_lt h.lt)
  have hf := CoFr.of_below (B := B) hb hB
  have hr2 := hr.fr hf
  have hcall := zV (v0 := .int .u8 5) (v2 := .int .u32 t) (v3 := .slice A l.length q) (v4 := x4) (v5 := .int .u32 e) (v6 := .slice A6 sp.length q6) (v7 := x7) (v8 := x8) (v9 := x9) (h.below hb) hr2.id
  have l0 := fun (_ : True) => JB ((iD hX 0).trans (show _ = some (Value.int .u8 5) from rfl))
  have l1 := fun (_ : True) => rJ hX rfl
  have HF := iC.mk hf
  have HW := iC.mk hW
  clear h hr hb hX hB hf hr2 hW
  go_enter Try.func18, Try.ntmps18
  go_upto_region 1 with fail
  rw [← HW.out]
  clear HW
  go_wp2_with (go_at_call 48; refine hcall.mono ?_; rintro e_ w1 ⟨rfl, h1, hf1⟩)
  go_ret
  exact ⟨rfl, h1, HF.out.trans hf1⟩
end
end Go.Proofs.Ytjppookmjdaplaa.K
end

section
namespace Go.Proofs.Ytjppookmjdaplaa.J
open Go.RowKit Go.Proofs.YtjppookmjdaplaaW.PrintWords Go.Proofs.YtjppookmjdaplaaW.PrintLast Go.Proofs.YtjppookmjdaplaaW.PrintMore
attribute [local go_sem] jV kJ
def errW : Option Int → Value
  | none => .nilIface
  | some c => .iface 0 (.int .i64 c)
theorem jF : errW none = .nilIface := rfl
theorem jG (c : Int) : errW (some c) = .iface 0 (.int .i64 c) := rfl
structure S96 where
  f0 : Int
  f1 : Int
def k96 : Kd S96 := Kd.iso (Kd.pair (Kd.int .i64) (Kd.int .i64)) (fun x : S96 => (x.f0, x.f1))
structure S36 where
  f0 : Int
  f1 : Int
def z36 : S36 := ⟨(0 : Int), (0 : Int)⟩
def k36 : Kd S36 := Kd.iso (Kd.pair (Kd.int .u8) (Kd.int .u32)) (fun x : S36 => (x.f0, x.f1))
theorem I7 {w : World} {base : Nat} {ok : Nat → Prop} {x : S36} {cs : List Value} (h : k36.M w base ok x cs) : cs = [.int .u8 x.f0, .int .u32 x.f1] := by
  obtain ⟨_, _, rfl, rfl, rfl⟩ := h
  exact rfl
theorem LD (w : World) (base : Nat) (ok : Nat → Prop) (x : S36)  : k36.M w base ok x [.int .u8 x.f0, .int .u32 x.f1] := ⟨[.int .u8 x.f0], [.int .u32 x.f1], rfl, rfl, rfl⟩
structure S130 where
  f0 : Int
  f1 : S36
  f2 : (List Int)
  f3 : (List Int)
  f4 : Bool
def z130 : S130 := ⟨(0 : Int), z36, ([] : List Int), ([] : List Int), false⟩
def k130 : Kd S130 := Kd.iso (Kd.pair (Kd.int .u32) (Kd.pair k36 (Kd.pair (Kd.slice 3 (Kd.int .i64)) (Kd.pair (Kd.slice 3 (Kd.int .i64)) Kd.bool)))) (fun x : S130 => (x.f0, x.f1, x.f2, x.f3, x.f4))
theorem k130_openM {w : World} {base : Nat} {ok : Nat → Prop} {x : S130} {cs : List Value} (h : k130.M w base ok x cs) : ∃ v3 v4, cs = [.int .u32 x.f0, .int .u8 x.f1.f0, .int .u32 x.f1.f1, v3, v4, .bool x.f4] ∧ (Kd.int .i64).R 3 w base ok v3 x.f2 ∧ (Kd.int .i64).R 3 w base ok v4 x.f3 := by
  obtain ⟨_, _, rfl, rfl, ⟨_, _, rfl, s1, ⟨_, _, rfl, ⟨v3, rfl, g3⟩, ⟨_, _, rfl, ⟨v4, rfl, g4⟩, rfl⟩⟩⟩⟩ := h
  obtain rfl := I7 s1
  exact ⟨v3, v4, rfl, g3, g4⟩
theorem k130_mkM (w : World) (base : Nat) (ok : Nat → Prop) (x : S130) {v3 : Value} (g3 : (Kd.int .i64).R 3 w base ok v3 x.f2) {v4 : Value} (g4 : (Kd.int .i64).R 3 w base ok v4 x.f3) : k130.M w base ok x [.int .u32 x.f0, .int .u8 x.f1.f0, .int .u32 x.f1.f1, v3, v4, .bool x.f4] := ⟨[.int .u32 x.f0], [.int .u8 x.f1.f0, .int .u32 x.f1.f1, v3, v4, .bool x.f4], rfl, rfl, ⟨[.int .u8 x.f1.f0, .int .u32 x.f1.f1], [v3, v4, .bool x.f4], rfl, (LD w base ok x.f1 ), ⟨[v3], [v4, .bool x.f4], rfl, ⟨v3, rfl, g3⟩, ⟨[v4], [.bool x.f4], rfl, ⟨v4, rfl, g4⟩, rfl⟩⟩⟩⟩
structure S91 where
  f0 : Int
  f1 : Int
  f2 : Int
structure S69 where
  f0 : Int
  f1 : Int
  f2 : Int
  f3 : Int
  f4 : Int
  f5 : (List S91)
  f6 : (List Int)
def z69 : S69 := ⟨(0 : Int), (0 : Int), (0 : Int), (0 : Int), (0 : Int), ([] : List S91), ([] : List Int)⟩
def MM (xs : List S69) (i : Int) : S69 := xs.getD i.toNat z69
end Go.Proofs.Ytjppookmjdaplaa.J
end
