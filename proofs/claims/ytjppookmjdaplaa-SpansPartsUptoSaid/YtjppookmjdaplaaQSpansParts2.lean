/- Parts of the proof, one behind the other: Base, Row, K0, SpB, SpG, SpC, SpF, K8, K34, K35, K36. -/
import Derived.Test.YtjppookmjdaplaaQSpansParts1
import Derived.Test.YtjppookmjdaplaaProg
import Derived.WalkSpells
import Derived.WalkLawsBesides
import Derived.RegionTactic
import Derived.ChangeAlike
import Derived.Lib.Hide
import Derived.Lib.SlBytesConst
import Derived.ProofKit
import Derived.OpenShut
import Derived.ShutString
import Derived.ChangeOld
import Derived.SizedLaws
import Derived.ChangeSlices
import Derived.RangeFuncNested
import Derived.RangeFuncBound
import Derived.RangeFuncCalls
import Derived.RangeFuncLeaves
import Derived.RangeFuncBox
import Derived.Shelf.Abstract
import Derived.Shelf.RegionOpen
import Derived.OwnWalkIn
import Derived.TacticsInMore
import Derived.LoopNIn
import Derived.LoopIn
import Derived.Lib.SliceRun
set_option linter.unusedVariables false
set_option linter.unusedSimpArgs false
section
namespace Go.Proofs.Ytjppookmjdaplaa.My
open Go Go.RowKit Go.Proofs.YtjppookmjdaplaaW.PrintWords
/-- A byte in a cell. -/
def kb : Kd UInt8 := Kd.scalar (fun b => Value.int .u8 (b.toNat : Int)) (fun _ => rfl)
/-- The cells of a slice of slices of bytes. -/
def Cs (W : World) (cs : List Value) (ls : List (List UInt8)) : Prop :=
  cs.length = ls.length ∧ ∀ (i : Nat) (l : List UInt8), ls[i]? = some l → ∃ A c, cs[i]? = some (.slice A l.length c) ∧ l.length ≤ c ∧ kb.C W A l.length l
theorem Cs.cons {W : World} {cs : List Value} {ls : List (List UInt8)} {A : Option Addr} {c n : Nat} {l : List UInt8} (h : kb.C W A n l) (hc : n ≤ c) (hs : Cs W cs ls) : Cs W (.slice A n c :: cs) (l :: ls) := by
  have hn := h.1
  subst hn
  refine ⟨by simp [hs.1], fun i x hx => ?_⟩
  rcases i with _ | i
  · obtain rfl : l = x := by simpa using hx
    exact ⟨A, c, rfl, hc, h⟩
  · exact hs.2 i x (by simpa using hx)
theorem l9 {W : World} {o : Obj} {b : Nat} (hb : b = W.heap.size) : (W.alloc o).heap[b]? = some o := by
  subst hb
  show (W.heap.push o)[W.heap.size]? = _
  simp
theorem lY {W : World} {o o' : Obj} {b : Nat} (h : W.heap[b]? = some o') : (W.alloc o).heap[b]? = some o' := by
  rw [Below.heap_alloc _ _ _ (jE h)]
  exact h
theorem lC {W W' : World} {o : Obj} {b : Nat} (hb : Below W.heap.size W W') (h : W.heap[b]? = some o) : W'.heap[b]? = some o := (hb.block b (jE h)).trans h
/-- 'Below', and what it gives the walk: the cells that there were. -/
theorem qU {W w1 : World} (hb : Below W.heap.size W w1) {a : Addr} {v : Value} (h : W.cell? a = some v) : w1.cell? a = some v := lW hb h
end Go.Proofs.Ytjppookmjdaplaa.My
end
section
namespace Go.Proofs.YtjppookmjdaplaaW.PrintMore
open Go Go.RowKit Go.Proofs.YtjppookmjdaplaaW.PrintWords Go.Proofs.YtjppookmjdaplaaW.PrintLast Go.Proofs.YtjppookmjdaplaaW.PrintMore
theorem bel_ {p : Prop} (h : p := by (with_reducible (repeat (first | exact Below.refl _ _ | apply iG | apply jZ | apply iD | apply Go.Proofs.Ytjppookmjdaplaa.My.below_bytesWorld | (refine iE ?_ (by first | assumption | omega)) | refine iM ?_ (by assumption))))) : p := h
theorem hb_ {p : Prop} (h : p := by repeat (first | (with_reducible first | exact HB.out | apply iG | apply iD | apply iF) | exact HB.out)) : p := h
theorem asm_ {p : Prop} (h : p := by first | (with_reducible assumption) | assumption) : p := h
theorem bk_ {p q : Prop} (h : p) (f : p → q := by intro h; (with_reducible repeat (first | refine iL ?_ _ | refine iO ?_ | refine iK ?_ _)); exact h) : q := f h
end Go.Proofs.YtjppookmjdaplaaW.PrintMore
end

section
namespace Go.Proofs.Ytjppookmjdaplaa.My
open Go Go.RowKit Go.Proofs.YtjppookmjdaplaaW.PrintWords
theorem own : ownKnob Try.prog.godebug = none := by kernel_rfl
theorem laidOut : laidOutB Try.prog = true := by kernel_rfl
theorem wf_u8 {n : Int} (h : (Lit.int .u8 n).wf = true) : 0 ≤ n ∧ n < 256 := by
  have := bounds_u8 h
  omega
theorem wf_i64 {n : Int} (h : (Lit.int .i64 n).wf = true) : -9223372036854775808 ≤ n ∧ n ≤ 9223372036854775807 := by
  have := bounds_i64 h
  omega
theorem wf_u32 {n : Int} (h : (Lit.int .u32 n).wf = true) : 0 ≤ n ∧ n < 4294967296 := by
  have := bounds_u32 h
  omega
theorem wf_u16 {n : Int} (h : (Lit.int .u16 n).wf = true) : 0 ≤ n ∧ n < 65536 := by
  have := bounds_u16 h
  omega
end Go.Proofs.Ytjppookmjdaplaa.My
end

section
namespace Go.Proofs.Ytjppookmjdaplaa.K
open Go.RowKit Go.Proofs.YtjppookmjdaplaaW.PrintWords Go.Proofs.YtjppookmjdaplaaW.PrintLast Go.Proofs.YtjppookmjdaplaaW.PrintMore
attribute [local go_sem] jQ jP jX jW
def errW : Option Int → Value
  | none => .nilIface
  | some c => .iface 0 (.int .i64 c)
theorem iU : errW none = .nilIface := rfl
theorem iV (c : Int) : errW (some c) = .iface 0 (.int .i64 c) := rfl
theorem info3 : (Try.prog.info? 3).map (fun i => (i.zero, i.size, i.bytes)) = some (some (.int .i64 0), 1, 8) := by kernel_rfl
theorem info5 : (Try.prog.info? 5).map (fun i => (i.zero, i.size, i.bytes)) = some (some (.int .u8 0), 1, 1) := by kernel_rfl
theorem mY : (Try.prog.info? 96).map (fun i => (i.zero, i.size, i.bytes)) = some (some (.agg #[(.int .i64 0), (.int .i64 0)]), 2, 16) := by kernel_rfl
theorem qQ : (Try.prog.info? 103).map (fun i => (i.zero, i.size, i.bytes)) = some (some (.agg #[(.slice none 0 0), (.int .i64 0)]), 2, 32) := by kernel_rfl
structure S96 where
  f0 : Int
  f1 : Int
def z96 : S96 := ⟨(0 : Int), (0 : Int)⟩
def k96 : Kd S96 := Kd.iso (Kd.pair (Kd.int .i64) (Kd.int .i64)) (fun x : S96 => (x.f0, x.f1))
theorem yF {w : World} {x : S96} {cs : List Value} (h : k96.K w x cs) : cs = [.int .i64 x.f0, .int .i64 x.f1] := by
  obtain ⟨_, _, rfl, rfl, rfl⟩ := h
  exact rfl
theorem xI {w : World} {base : Nat} {ok : Nat → Prop} {x : S96} {cs : List Value} (h : k96.M w base ok x cs) : cs = [.int .i64 x.f0, .int .i64 x.f1] := by
  obtain ⟨_, _, rfl, rfl, rfl⟩ := h
  exact rfl
theorem kT (w : World) (base : Nat) (ok : Nat → Prop) (x : S96)  : k96.M w base ok x [.int .i64 x.f0, .int .i64 x.f1] := ⟨[.int .i64 x.f0], [.int .i64 x.f1], rfl, rfl, rfl⟩
def iY (xs : List S96) (i : Int) : S96 := xs.getD i.toNat z96
theorem jL {w : World} {A : Option Addr} {n : Nat} {xs : List S96} (h : Kd.C k96 w A n xs) (i : Int) (h0 : 0 ≤ i) (h1 : i < n) : ∃ ad , A = some ad ∧ w.cell? (ad.add (i.toNat * 2)) = some (.int .i64 (iY xs i).f0) ∧ w.cell? ⟨(ad.add (i.toNat * 2)).block, (ad.add (i.toNat * 2)).off + 1, none⟩ = some (.int .i64 (iY xs i).f1) := by
  obtain ⟨ad, c, e, _, hK, hc0⟩ := Kd.C_get h z96 i h0 h1
  have hc : ∀ j u, c[j]? = some u → w.cell? (ad.add (i.toNat * 2 + j)) = some u := hc0
  obtain rfl := yF hK
  exact ⟨ad, e, hc 0 _ rfl, by rw [← mG _ _ 1 (by omega)]; exact hc 1 _ rfl⟩
structure S91 where
  f0 : Int
  f1 : Int
  f2 : Int
def z91 : S91 := ⟨(0 : Int), (0 : Int), (0 : Int)⟩
def k91 : Kd S91 := Kd.iso (Kd.pair (Kd.int .u16) (Kd.pair (Kd.int .u16) (Kd.int .u8))) (fun x : S91 => (x.f0, x.f1, x.f2))
theorem yR {w : World} {x : S91} {cs : List Value} (h : k91.K w x cs) : cs = [.int .u16 x.f0, .int .u16 x.f1, .int .u8 x.f2] := by
  obtain ⟨_, _, rfl, rfl, ⟨_, _, rfl, rfl, rfl⟩⟩ := h
  exact rfl
def jG (xs : List S91) (i : Int) : S91 := xs.getD i.toNat z91
theorem o6 {w : World} {A : Option Addr} {n : Nat} {xs : List S91} (h : Kd.C k91 w A n xs) (i : Int) (h0 : 0 ≤ i) (h1 : i < n) : ∃ ad , A = some ad ∧ w.cell? (ad.add (i.toNat * 3)) = some (.int .u16 (jG xs i).f0) ∧ w.cell? ⟨(ad.add (i.toNat * 3)).block, (ad.add (i.toNat * 3)).off + 1, none⟩ = some (.int .u16 (jG xs i).f1) ∧ w.cell? ⟨(ad.add (i.toNat * 3)).block, (ad.add (i.toNat * 3)).off + 2, none⟩ = some (.int .u8 (jG xs i).f2) := by
  obtain ⟨ad, c, e, _, hK, hc0⟩ := Kd.C_get h z91 i h0 h1
  have hc : ∀ j u, c[j]? = some u → w.cell? (ad.add (i.toNat * 3 + j)) = some u := hc0
  obtain rfl := yR hK
  exact ⟨ad, e, hc 0 _ rfl, by rw [← mG _ _ 1 (by omega)]; exact hc 1 _ rfl, by rw [← mG _ _ 2 (by omega)]; exact hc 2 _ rfl⟩
structure S103 where
  f0 : (List Int)
  f1 : Int
def z103 : S103 := ⟨([] : List Int), (0 : Int)⟩
def k103 : Kd S103 := Kd.iso (Kd.pair (Kd.slice 3 (Kd.int .i64)) (Kd.int .i64)) (fun x : S103 => (x.f0, x.f1))
theorem lF : Kd.Heap k103 := Kd.heap_iso _ (Kd.heap_pair (Kd.heap_slice 3 (Kd.heap_int .i64)) (Kd.heap_int .i64))
theorem xO {w : World} {x : S103} {cs : List Value} (h : k103.K w x cs) : ∃ A0 c0, cs = [.slice A0 x.f0.length c0, .int .i64 x.f1] ∧ x.f0.length ≤ c0 ∧ (Kd.int .i64).C w A0 x.f0.length x.f0 := by
  obtain ⟨_, _, rfl, ⟨A0, c0, rfl, l0, g0⟩, rfl⟩ := h
  exact ⟨A0, c0, rfl, l0, g0⟩
theorem vC (w : World) (x : S103) {A0 : Option Addr} {c0 : Nat} (l0 : x.f0.length ≤ c0) (g0 : (Kd.int .i64).C w A0 x.f0.length x.f0) : k103.K w x [.slice A0 x.f0.length c0, .int .i64 x.f1] := ⟨[.slice A0 x.f0.length c0], [.int .i64 x.f1], rfl, ⟨A0, c0, rfl, l0, g0⟩, rfl⟩
theorem rQ (w : World) (base : Nat) (ok : Nat → Prop) (x : S103) {v0 : Value} (g0 : (Kd.int .i64).R 3 w base ok v0 x.f0) : k103.M w base ok x [v0, .int .i64 x.f1] := ⟨[v0], [.int .i64 x.f1], rfl, ⟨v0, rfl, g0⟩, rfl⟩
theorem yO (W : World) (ok : Nat → Prop) (x : S103) {A0 : Option Addr} {c0 : Nat} (l0 : x.f0.length ≤ c0) (g0 : Kd.F (Kd.int .i64) W ok A0 x.f0.length x.f0) : Kd.FK k103 W ok x [.slice A0 x.f0.length c0, .int .i64 x.f1] := fun W2 hW => vC W2 x l0 (g0 W2 hW)
def iW (xs : List S103) (i : Int) : S103 := xs.getD i.toNat z103
theorem kN {w : World} {A : Option Addr} {n : Nat} {xs : List S103} (h : Kd.C k103 w A n xs) (i : Int) (h0 : 0 ≤ i) (h1 : i < n) : ∃ ad A0 c0, A = some ad ∧ w.cell? (ad.add (i.toNat * 2)) = some (.slice A0 (iW xs i).f0.length c0) ∧ w.cell? ⟨(ad.add (i.toNat * 2)).block, (ad.add (i.toNat * 2)).off + 1, none⟩ = some (.int .i64 (iW xs i).f1) ∧ (iW xs i).f0.length ≤ c0 ∧ (Kd.int .i64).C w A0 (iW xs i).f0.length (iW xs i).f0 := by
  obtain ⟨ad, c, e, _, hK, hc0⟩ := Kd.C_get h z103 i h0 h1
  have hc : ∀ j u, c[j]? = some u → w.cell? (ad.add (i.toNat * 2 + j)) = some u := hc0
  obtain ⟨A0, c0, rfl, l0, g0⟩ := xO hK
  exact ⟨ad, A0, c0, e, hc 0 _ rfl, by rw [← mG _ _ 1 (by omega)]; exact hc 1 _ rfl, l0, g0⟩
end Go.Proofs.Ytjppookmjdaplaa.K
end

section
namespace Go.Proofs.Ytjppookmjdaplaa.K
open Go Go.RowKit Go.Proofs.YtjppookmjdaplaaW.PrintWords Go.Proofs.YtjppookmjdaplaaW.PrintLast Go.Proofs.YtjppookmjdaplaaW.PrintMore Go.Proofs.Ytjppookmjdaplaa.My
attribute [local go_sem] Oper.semAt_some
abbrev TSp := S96
abbrev rdSp (l : List TSp) (i : Int) : TSp := iY l i
/-- What has come behind k rounds: the last ones, the last one first. -/
def bkU (l : List TSp) (k : Nat) : List (Int × TSp) := (List.range k).map fun (j : Nat) => ((l.length : Int) - 1 - j, rdSp l ((l.length : Int) - 1 - j))
theorem rW (l : List TSp) (k : Nat) : bkU l (k + 1) = bkU l k ++ [((l.length : Int) - 1 - k, rdSp l ((l.length : Int) - 1 - k))] := by simp [bkU, List.range_succ]
theorem uN (l : List TSp) (k : Nat) : (bkU l k).length = k := by simp [bkU]
def zW (x : Int × TSp) : Array Value := #[.int .i64 x.1, .agg #[.int .i64 x.2.f0, .int .i64 x.2.f1]]
/-- What a round that goes on keeps: what lay below n0, and the iterator's own box. -/
def KpB (n0 B : Nat) (W W' : World) : Prop := Below n0 W W' ∧ W'.heap[B]? = W.heap[B]?
set_option maxRecDepth 100000 in
set_option maxHeartbeats 4000000 in
theorem uJ (n : Nat) (hn : 1 ≤ n) (B e : Nat) (fz : Nat × Nat) (A : Option Addr) (c : Nat) (l : List TSp) (wS w0 : World) (hr : Kd.C k96 wS A l.length l) (hs : (l.length : Int) ≤ 8796093022208) (hwS : Below wS.heap.size wS w0)
    (hB : w0.heap[B]? = some (.cells #[.slice A l.length c] e fz)) :
    SeqStopsK Fence.wide n Try.prog 95 #[.pointer (some ⟨B, 0, none⟩)] zW (KpB wS.heap.size B) (fun xs => xs = bkU l l.length) (fun pre => ∃ k, k ≤ l.length ∧ pre = bkU l k) l.length w0 := by
  intro lp J Jx W hW _ _ hY h0
  have HL := iC.mk hr
  clear hr
  have hBW := lC hW hB
  refine callsIn_of_wp Try.func95 rfl trivial ?_ rfl
  simp only [Try.ntmps95, List.size_toArray, List.length_cons, List.length_nil, Nat.reduceAdd, Nat.reduceSub, Array.replicate_succ, Array.replicate_zero, List.push_toArray, List.append_toArray, List.nil_append, List.cons_append]
  have hc0 : W.cell? ⟨B, 0, none⟩ = some (.slice A l.length c) := by simp [World.cell?, hBW]
  gi_wp2
  gi_loopw [3] (fun p wr => ∃ k : Nat, k ≤ l.length ∧ p = .int .i64 ((l.length : Int) - 1 - k) ∧ iC (J (bkU l k) wr) ∧ iC (Below wS.heap.size wS wr) ∧ wr.heap[B]? = some (.cells #[.slice A l.length c] e fz)) (fun p _ => (intOf p + 1).toNat)
  case atStart => exact ⟨0, Nat.zero_le _, by simp, ⟨h0⟩, ⟨hwS.trans (hW.mono hwS.size)⟩, hBW⟩
  case round =>
    obtain ⟨k, hk, rfl, HJ, HB, hBr⟩ := hrel
    have hcell : wr.cell? ⟨B, 0, none⟩ = some (.slice A l.length c) := by simp [World.cell?, hBr]
    by_cases hlt : k < l.length
    · obtain ⟨i, hi⟩ : ∃ i : Int, i = (l.length : Int) - 1 - k := ⟨_, rfl⟩
      have hi0 : 0 ≤ i := by omega
      have hi1 : i < (l.length : Int) := by omega
      obtain ⟨ad, rfl, h1, h2⟩ := jL (Kd.C_below HL.out HB.out) i hi0 (by omega)
      obtain ⟨x, hx⟩ : ∃ x, x = rdSp l i := ⟨_, rfl⟩
      have hx' : iY l i = x := hx.symm
      rw [hx'] at h1 h2
      have HX := iC.mk hx
      obtain ⟨fn, tmps, assign, body, hy, hR⟩ := hY _ (i, x) wr HJ.out (by rw [uN]; exact hlt)
      have HI := iC.mk hi
      rw [← hi]
      clear hx hx' hi
      dsimp only [zW] at hy
      gi_wp2
      refine hR.mono ?_
      rintro e W3 (⟨rfl, hJ3, hk3⟩ | ⟨rfl, hJx3⟩)
      · have HJ3 := iC.mk hJ3
        have HK3 := iC.mk hk3
        clear hJ3 hk3 hy hR h1 h2
        gi_wp2
        go_roundw
        case rel => exact ⟨k + 1, by omega, by have := HI.out; congr 1; omega, ⟨by rw [rW, ← HI.out, ← HX.out]; exact HJ3.out⟩, ⟨HB.out.trans HK3.out.1⟩, HK3.out.2.trans hBr⟩
        case measure => simp [intOf]; omega
      · have HJx := iC.mk hJx3
        clear hJx3 hy hR h1 h2
        gi_wp2
        refine bodyPost_ret (results_none rfl _ _ _) rfl ?_
        exact ⟨⟨_, rfl⟩, .inr ⟨_, ⟨k + 1, by omega, rfl⟩, by rw [rW, ← HI.out, ← HX.out]; exact HJx.out⟩⟩
    · obtain rfl : k = l.length := by omega
      gi_wp2
      go_end0
      exact ⟨⟨_, rfl⟩, .inl ⟨_, rfl, HJ.out⟩⟩
set_option maxHeartbeats 1000000 in
/-- slices.Backward: the slice is boxed, the function captures the box. -/
theorem yN (A : Option Addr) (len c : Nat) (w : World) :
    Calls Try.prog 74 #[.slice A len c] w fun e w' => e = .returned (.func (.func 95) #[] #[.pointer (some ⟨w.heap.size, 0, none⟩)]) ∧ w' = w.alloc (.cells #[.slice A len c] 40) := by
  go_enter Try.func74, Try.ntmps74
  go_wp2
  go_ret
  exact ⟨rfl, rfl⟩
end Go.Proofs.Ytjppookmjdaplaa.K
end

section
namespace Go.Proofs.Ytjppookmjdaplaa.K
open Go Go.RowKit Go.Proofs.YtjppookmjdaplaaW.PrintWords Go.Proofs.YtjppookmjdaplaaW.PrintLast Go.Proofs.YtjppookmjdaplaaW.PrintMore Go.Proofs.Ytjppookmjdaplaa.My
attribute [local go_sem] Oper.semAt_some
/-- A call of a function value that captures nothing, in a drawn region. -/
theorem yX {P : Program} {ops : Array Oper} {Q : Exit → Act → World → Prop} {oi : Oper} {N : Option Tmp} {a : Act} {w : World} {K : Act → World → Prop} {f : FuncId} {fn : Func} {o : Operand} {os : Array Operand} {ts : Array TypeId} (hf : P.funcs[f]? = some fn) (hname : (fn.name == "runtime.NumGoroutine") = false) (hb : fn.body.isSome = true) (args : Array Value)
    (hw : Region.wanted oi (yielded ops a.tmps) = true) (hN : oi.dst = N) (hop : oi.op = .call { callee := .value o, args := os, argTypes := ts }) (ho : a.eval o = .func (.func f) #[] #[]) (hargs : os.map a.eval = args)
    (h : Calls P f args w fun e w' => ∃ v, e = .returned v ∧ K (a.put N v) w') : if Region.wanted oi (yielded ops a.tmps) = true then Oper.wp P oi a w K Q else K (a.put N undef) w := by
  refine call_ f args hw hN ?_ h
  have he := qP hf hname hb args w
  unfold execOp
  simp [hop, resolve, Deferred.ofValue, invoke, ho, hargs, he]
/-- The first m of xs, those side by side of one node as one. -/
def glN (xs : List TSp) : Nat → List TSp
  | 0 => []
  | m + 1 => if 0 < m ∧ (rdSp xs m).f1 = (rdSp xs ((m : Int) - 1)).f1 then glN xs m else glN xs m ++ [rdSp xs m]
abbrev W86 (w : World) (a b : TSp) : World := (w.alloc (.cells #[.int .i64 a.f0, .int .i64 a.f1] 96)).alloc (.cells #[.int .i64 b.f0, .int .i64 b.f1] 96)
theorem rM (a b : TSp) (w : World) : Calls Try.prog 94 #[.agg #[.int .i64 a.f0, .int .i64 a.f1], .agg #[.int .i64 b.f0, .int .i64 b.f1]] w fun e w' => e = .returned (.bool (decide (a.f1 = b.f1))) ∧ w' = W86 w a b := by
  go_enter Try.func94, Try.ntmps94
  go_wp2
  go_ret
  exact ⟨by simp; by_cases h : a.f1 = b.f1 <;> simp [h], rfl⟩
theorem oN (xs : List TSp) (k m : Nat) (hm : k = m + 1) (x y : TSp) (hx : x = rdSp xs k) (hy : y = rdSp xs m) : glN xs (k + 1) = if x.f1 = y.f1 then glN xs k else glN xs k ++ [x] := by
  subst hm hx hy
  simp only [glN]
  have : ((m + 1 : Nat) : Int) - 1 = (m : Int) := by omega
  rw [this]
  simp
theorem nH (xs : List TSp) (k : Nat) : rdSp xs (k : Int) = xs.getD k ⟨0, 0⟩ := rfl
theorem take_snoc (xs : List TSp) (k : Nat) (hk : k < xs.length) : xs.take (k + 1) = xs.take k ++ [rdSp xs k] := by
  rw [nH, List.getD_eq_getElem?_getD, List.getElem?_eq_getElem hk, List.take_add_one]
  simp [hk]
theorem uH (xs : List TSp) (h : 1 ≤ xs.length) : glN xs 1 = xs.take 1 := by
  rw [take_snoc xs 0 (by omega)]; simp [glN]
theorem yA (ys : List TSp) (q : Nat) (hq : q < ys.length) (x : TSp) : (ys.set q x).take (q + 1) = ys.take q ++ [x] := by
  rw [take_snoc _ _ (by simpa using hq), List.take_set_of_le (Nat.le_refl _)]
  rw [nH, List.getD_eq_getElem?_getD, List.getElem?_set_self hq]; rfl
theorem IU (ys : List TSp) (q i : Nat) (hq : i ≠ q) (x : TSp) : rdSp (ys.set q x) i = rdSp ys i := by
  rw [nH, nH, List.getD_eq_getElem?_getD, List.getElem?_set_ne (Ne.symm hq), List.getD_eq_getElem?_getD]
abbrev RSp (w : World) (base : Nat) (ad : Addr) (n cap : Nat) (xs : List TSp) : Prop := Kd.R k96 96 w base (fun _ => True) (.slice (some ad) n cap) xs
theorem RSp.bel {w w' : World} {base n cap : Nat} {ad : Addr} {xs : List TSp} (h : RSp w base ad n cap xs) (hb : Below w.heap.size w w') : RSp w' base ad n cap xs := Kd.R_below h hb
theorem RSp.adr {w : World} {base n cap : Nat} {ad : Addr} {xs : List TSp} (h : RSp w base ad n cap xs) : ∃ g, ad = ⟨g, 0, none⟩ := Kd.R_head h
theorem oW {ad : Addr} {g : Nat} (h : ad = ⟨g, 0, none⟩) (k j : Nat) : (ad.add (k * 2)).add (j * 2) = ad.add ((k + j) * 2) := by
  have h2 : ∀ (g o i : Nat), (⟨g, o, none⟩ : Addr).add i = ⟨g, o + i, none⟩ := fun g o i => by unfold Addr.add; split <;> simp_all
  subst h; rw [h2, h2, h2]; congr 1; omega
theorem zB {ad : Addr} {g : Nat} (h : ad = ⟨g, 0, none⟩) (o : Nat) : ad.add o = ⟨g, o, none⟩ := by subst h; unfold Addr.add; split <;> simp_all
/-- The cells of a member. -/
theorem RSp.at {w : World} {base n cap : Nat} {ad : Addr} {xs : List TSp} (h : RSp w base ad n cap xs) (k : Nat) (hk : k < n) :
    w.cell? (ad.add (k * 2)) = some (.int .i64 (rdSp xs k).f0) ∧ w.cell? ⟨(ad.add (k * 2)).block, (ad.add (k * 2)).off + 1, none⟩ = some (.int .i64 (rdSp xs k).f1) := by
  have hn : n = xs.length := (Kd.R_reads' h).1
  obtain ⟨_, e1, h1, h2⟩ := jL (Kd.R_reads' h).2.2 (k : Int) (by omega) (by omega)
  cases e1
  exact ⟨h1, h2⟩
theorem RSp.len {w : World} {base n cap : Nat} {ad : Addr} {xs : List TSp} (h : RSp w base ad n cap xs) : n = xs.length := (Kd.R_reads' h).1
theorem RSp.cap {w : World} {base n cap : Nat} {ad : Addr} {xs : List TSp} (h : RSp w base ad n cap xs) : n ≤ cap := (Kd.R_reads' h).2.1
def zs (n : Nat) : List Value := (Builtin.zeroCells #[.int .i64 0, .int .i64 0] n).toList
theorem qM (n : Nat) : (zs n).length = n * 2 := by simp [zs, size_zeroCells]
theorem RSp.base {w : World} {base n cap g : Nat} {ad : Addr} {xs : List TSp} (h : RSp w base ad n cap xs) (ha : ad = ⟨g, 0, none⟩) : base ≤ g := by
  subst ha
  exact Kd.R_base h g rfl
theorem xH {w : World} {g o : Nat} {z : TSp} (h1 : w.cell? ⟨g, o, none⟩ = some (.int .i64 z.f0)) (h2 : w.cell? ⟨g, o + 1, none⟩ = some (.int .i64 z.f1)) : ∀ (j : Nat) (u : Value), ([.int .i64 z.f0, .int .i64 z.f1] : List Value)[j]? = some u → w.cell? ⟨g, o + j, none⟩ = some u
  | 0, _, h => by cases h; exact h1
  | 1, _, h => by cases h; exact h2
  | _ + 2, _, h => by cases h
/-- Every old block but g stays. -/
def Fr (g : Nat) (W W' : World) : Prop := W.heap.size ≤ W'.heap.size ∧ ∀ k, k < W.heap.size → k ≠ g → W'.heap[k]? = W.heap[k]?
theorem Fr.refl (g : Nat) (W : World) : Fr g W W := ⟨Nat.le_refl _, fun _ _ _ => rfl⟩
theorem Fr.trans {g : Nat} {A B C : World} (h : Fr g A B) (k : Fr g B C) : Fr g A C := ⟨Nat.le_trans h.1 k.1, fun j h1 h2 => (k.2 j (Nat.lt_of_lt_of_le h1 h.1) h2).trans (h.2 j h1 h2)⟩
theorem Fr.bel {g : Nat} {A B C : World} (h : Fr g A B) (hb : Below B.heap.size B C) : Fr g A C := h.trans ⟨hb.size, fun j h1 _ => hb.block j h1⟩
theorem Fr.grown {g : Nat} {A B C : World} (h : Fr g A B) (hg : B.grownBy C (some g)) : Fr g A C := h.trans ⟨hg.size, fun j h1 h2 => hg.block j h1 (fun e => h2 (by cases e; rfl))⟩
theorem Fr.cells {g : Nat} {A B : World} (h : Fr g A B) (o : Nat) (vs : List Value) : Fr g A (B.setCells g o vs) := h.trans ⟨Nat.le_of_eq (lH g vs o B).2.2.2.symm, fun j _ h2 => kV vs o j h2⟩
theorem rX {B g : Nat} (hg : B ≤ g) : ∀ (vs : List Value) (o : Nat) (w : World), Below B w (w.setCells g o vs)
  | [], _, w => Below.refl _ w
  | v :: r, o, w => ((Below.refl B w).setCell (p := ⟨g, o, none⟩) hg v).trans (rX hg r (o + 1) _)
/-- The row's block. -/
theorem RSp.row {w : World} {base n cap g : Nat} {xs : List TSp} (h : RSp w base ⟨g, 0, none⟩ n cap xs) : ∃ cur, w.heap[g]? = some (.cells cur 96 (0, 0)) ∧ cur.size = cap * 2 := by
  obtain ⟨_, inner, ⟨_, ho⟩, _⟩ := h
  rcases ho with ⟨he, _⟩ | ⟨g', cap', cur, he, _, hh, _, _, hs, _⟩
  · cases he
  · cases he
    exact ⟨cur, hh, hs⟩
/-- Behind a clearing of the end the front lies as it did. -/
theorem RSp.clear {w : World} {base n cap q g : Nat} {xs : List TSp} (h : RSp w base ⟨g, 0, none⟩ n cap xs) (hq : q ≤ n) (vs : List Value) (hv : q * 2 + vs.length = n * 2) : RSp (w.setCells g (q * 2) vs) base ⟨g, 0, none⟩ q cap (xs.take q) := by
  have hn := h.len
  have hc := h.cap
  obtain ⟨h0, inner, ⟨hi, ho⟩, hr⟩ := Kd.R_take h (m := q) (by omega)
  refine ⟨h0, inner, ⟨hi, ?_⟩, hr.imp_ (fun p c hp => by rw [xI hp]; exact kT _ _ _ p)⟩
  rcases ho with ⟨he, _⟩ | ⟨g', cap', cur, he, h1, hh, h2, h3, hs, ht⟩
  · cases he
  · simp only [Value.slice.injEq, Option.some.injEq, Addr.mk.injEq] at he
    obtain ⟨⟨rfl, _⟩, _, rfl⟩ := he
    have hs' : cur.size = cap * 2 := hs
    obtain ⟨cur', k1, k2, k3⟩ := lK vs (q * 2) w cur hh (by omega)
    refine .inr ⟨g, cap, cur', by rw [List.length_take, Nat.min_eq_left (by omega)], h1, k1, by rw [List.length_take, Nat.min_eq_left (by omega)]; omega, h3, by rw [k2]; exact hs, ?_⟩
    rw [← ht, k3, List.length_take, Nat.min_eq_left (by omega : q ≤ xs.length)]
    show (cur.toList.take (q * 2) ++ vs ++ _).take (q * 2) = cur.toList.take (q * 2)
    rw [List.append_assoc, List.take_append_of_le_length (by rw [List.length_take, Array.length_toList]; omega), List.take_take, Nat.min_self]
theorem qG {w : World} {base n cap q g : Nat} {xs : List TSp} (h : RSp w base ⟨g, 0, none⟩ n cap xs) (hq : q < n) (ty : TypeId) (c : Nat) :
    (Builtin.clear_ #[40] ty #[.slice (some ⟨g, q * 2, none⟩) (n - q) c]).run Try.prog w = .ok (.tuple #[]) (w.setCells g (q * 2) (zs (n - q))) := by
  have hc := h.cap
  obtain ⟨cur, hh, hs⟩ := h.row
  have h1 : ∀ v ∈ zs (n - q), v.oneCell' = true := by
    intro v hv
    simp only [zs, Builtin.zeroCells, Array.toList_map, Array.toList_range, List.mem_map, List.mem_range] at hv
    obtain ⟨i, _, rfl⟩ := hv
    rcases Nat.mod_two_eq_zero_or_one i with h2 | h2
    · show Value.oneCell' (#[Value.int .i64 0, .int .i64 0][i % 2]!) = true
      rw [h2]; rfl
    · show Value.oneCell' (#[Value.int .i64 0, .int .i64 0][i % 2]!) = true
      rw [h2]; rfl
  have hst := run_storeCells_cells (P := Try.prog) g (q * 2) (zs (n - q)) 0 w (fun j hj => by rw [qM] at hj; rw [cell_of_row w g _ cur _ (0, 0) hh]; rw [Array.getElem?_eq_getElem (by rw [hs]; omega)]; rfl) (fun j _ => iI hh _) h1
  simp only [Nat.add_zero] at hst
  have hz : ∀ w, (zeroValue 96).run Try.prog w = .ok (.agg #[.int .i64 0, .int .i64 0]) w := fun w => by
    obtain ⟨i, hi, he⟩ := Option.map_eq_some_iff.1 mY
    simp only [Prod.mk.injEq] at he
    simp [zeroValue, typeInfo, hi, he.1]
  obtain ⟨m, hm⟩ : ∃ m, n - q = m + 1 := ⟨n - q - 1, by omega⟩
  rw [hm] at hst ⊢
  have hzc : (Builtin.zeroCells (Value.cells (.agg #[.int .i64 0, .int .i64 0])) (m + 1)).toList = zs (m + 1) := by
    rw [show Value.cells (.agg #[.int .i64 0, .int .i64 0]) = #[.int .i64 0, .int .i64 0] from rfl]; rfl
  simp [Builtin.clear_, run_underlying Try.underlying40, hz, hzc, hst]
set_option maxRecDepth 100000 in
set_option maxHeartbeats 4000000 in
theorem rE (w0 : World) (ad : Addr) (cap n : Nat) (xs : List TSp) (w : World) (hR : RSp w w0.heap.size ad n cap xs) (hB : Below w0.heap.size w0 w) (hn0 : 0 < n) (hs : (n : Int) ≤ 8796093022208) :
    Calls Try.prog 93 #[.slice (some ad) n cap, .func (.func 94) #[] #[]] w fun e w' => ∃ q, e = .returned (.slice (some ad) q cap) ∧ RSp w' w0.heap.size ad q cap (glN xs n) ∧ Below w0.heap.size w0 w' ∧ Fr ad.block w w' := by
  have HR := iC.mk hR
  have HB := iC.mk hB
  have hcap := hR.cap
  have HN := iC.mk hR.len
  obtain ⟨g, hg⟩ := hR.adr
  have HAD := iC.mk hg
  clear hR hB hg
  go_enter Try.func93, Try.ntmps93
  go_wp2
  · rename_i hlt2
    go_ret
    obtain rfl : n = 1 := by omega
    exact ⟨1, rfl, by rw [uH xs (by have := HN.out; omega)]; have := HR.out; rwa [List.take_of_length_le (by have := HN.out; omega)], HB.out, Fr.refl _ _⟩
  · go_loopw [5] (fun p wr => ∃ k : Nat, 1 ≤ k ∧ k ≤ n ∧ p = .int .i64 k ∧ iC (RSp wr w0.heap.size ad n cap xs) ∧ iC (Below w0.heap.size w0 wr) ∧ iC (glN xs k = xs.take k) ∧ iC (Fr ad.block w wr)) (fun p _ => n - (intOf p).toNat)
    case atStart => exact ⟨1, Nat.le_refl _, by omega, rfl, HR, HB, ⟨uH xs (by have := HN.out; omega)⟩, ⟨Fr.refl _ _⟩⟩
    case round =>
      obtain ⟨k, hk1, hk, rfl, HR1, HB1, HG, HF1⟩ := hrel
      by_cases hlt : k < n
      · obtain ⟨x, hx⟩ : ∃ x, x = rdSp xs k := ⟨_, rfl⟩
        obtain ⟨m, hm⟩ : ∃ m : Nat, k = m + 1 := ⟨k - 1, by omega⟩
        have hw : wrap64 ((k : Int) - 1) = (m : Int) := by unfold wrap64; omega
        have hml : m < n := by omega
        obtain ⟨y, hy⟩ : ∃ y, y = rdSp xs m := ⟨_, rfl⟩
        have hxx := HR1.out.at k hlt
        have hyy := HR1.out.at m hml
        rw [← hx] at hxx
        rw [← hy] at hyy
        have HX := iC.mk hx
        have HY := iC.mk hy
        have HM := iC.mk hm
        clear hx hy hm
        go_wp2
        refine kP (n := 11) (S := fun w' => w'.cell? (ad.add (k * 2)) = some (.int .i64 x.f0) ∧ w'.cell? ⟨(ad.add (k * 2)).block, (ad.add (k * 2)).off + 1, none⟩ = some (.int .i64 x.f1) ∧ w'.cell? (ad.add (m * 2)) = some (.int .i64 y.f0) ∧ w'.cell? ⟨(ad.add (m * 2)).block, (ad.add (m * 2)).off + 1, none⟩ = some (.int .i64 y.f1)) (ds := [10]) #[false, false, false, false, false, false, false, false, false, false, false] (by kernel_rfl) rfl rfl ⟨hxx.1, hxx.2, hyy.1, hyy.2⟩ (fun hHeld => ?_)
        refine jV (T := (true, [([], []), ([], []), ([], []), ([1, 2], [1, 2]), ([3], [3]), ([], []), ([], []), ([6], [6]), ([5, 7], [5, 7]), ([8], [8]), ([0, 4, 9], [0, 4, 9])])) (B := [0, 0, 0, 6, 14, 0, 0, 64, 224, 480, 1023]) (by kernel_rfl) (by kernel_rfl) (fun HT_ HW_ => ?_)
        refine jA (i := 0) (N := some 18) (v := ?_) (a' := ?_) #[true, false, false, false, false, false, false, false, false, false, false] rfl rfl (iQ HT_.out (by kernel_rfl)) (fun _ _ _ h => h) (Or.inl ⟨by rfl, ?_⟩) ?_ ?_
        rotate_left
        · intro w'
          go_simp
          with_reducible rfl
        rotate_left
        · simp only [Act.put, List.setIfInBounds_toArray, List.set_cons_zero, List.set_cons_succ, iR, iT]
          rfl
        refine jA (i := 1) (N := some 19) (v := ?_) (a' := ?_) #[true, true, false, false, false, false, false, false, false, false, false] rfl rfl (iQ HT_.out (by kernel_rfl)) (fun _ _ _ h => h) (Or.inl ⟨by rfl, ?_⟩) ?_ ?_
        rotate_left
        · intro w'
          go_simp
          with_reducible rfl
        rotate_left
        · simp only [Act.put, List.setIfInBounds_toArray, List.set_cons_zero, List.set_cons_succ, iR, iT]
          rfl
        refine jA (i := 2) (N := some 20) (v := ?_) (a' := ?_) #[true, true, true, false, false, false, false, false, false, false, false] rfl rfl (iQ HT_.out (by kernel_rfl)) (fun _ _ _ h => h) (Or.inl ⟨by rfl, ?_⟩) ?_ ?_
        rotate_left
        · intro w'
          go_simp
          with_reducible rfl
        rotate_left
        · simp only [Act.put, List.setIfInBounds_toArray, List.set_cons_zero, List.set_cons_succ, iR, iT]
          rfl
        refine jA (i := 3) (N := some 21) (v := ?_) (a' := ?_) #[true, true, true, true, false, false, false, false, false, false, false] rfl rfl (iQ HT_.out (by kernel_rfl)) (fun _ _ _ h => h) (Or.inl ⟨by rfl, ?_⟩) ?_ ?_
        rotate_left
        · intro w'
          go_simp
          with_reducible rfl
        rotate_left
        · simp only [Act.put, List.setIfInBounds_toArray, List.set_cons_zero, List.set_cons_succ, iR, iT]
          rfl
        refine jA (i := 5) (N := some 23) (v := ?_) (a' := ?_) #[true, true, true, true, false, true, false, false, false, false, false] rfl rfl (iQ HT_.out (by kernel_rfl)) (fun _ _ _ h => h) (Or.inl ⟨by rfl, ?_⟩) ?_ ?_
        rotate_left
        · intro w'
          go_simp
          with_reducible rfl
        rotate_left
        · simp only [Act.put, List.setIfInBounds_toArray, List.set_cons_zero, List.set_cons_succ, iR, iT]
          rfl
        refine jA (i := 6) (N := some 24) (v := ?_) (a' := ?_) #[true, true, true, true, false, true, true, false, false, false, false] rfl rfl (iQ HT_.out (by kernel_rfl)) (fun _ _ _ h => h) (Or.inl ⟨by rfl, ?_⟩) ?_ ?_
        rotate_left
        · intro w'
          go_simp
          with_reducible rfl
        rotate_left
        · simp only [Act.put, List.setIfInBounds_toArray, List.set_cons_zero, List.set_cons_succ, iR, iT]
          rfl
        refine jA (i := 7) (N := some 25) (v := ?_) (a' := ?_) #[true, true, true, true, false, true, true, true, false, false, false] rfl rfl (iQ HT_.out (by kernel_rfl)) (fun _ _ _ h => h) (Or.inl ⟨by rfl, ?_⟩) ?_ ?_
        rotate_left
        · intro w'
          go_simp
          with_reducible rfl
        rotate_left
        · simp only [Act.put, List.setIfInBounds_toArray, List.set_cons_zero, List.set_cons_succ, iR, iT]
          rfl
        refine jA (i := 8) (N := some 26) (v := ?_) (a' := ?_) #[true, true, true, true, false, true, true, true, true, false, false] rfl rfl (iQ HT_.out (by kernel_rfl)) (fun _ _ _ h => h) (Or.inl ⟨by rfl, ?_⟩) ?_ ?_
        rotate_left
        · intro w'
          go_simp
          with_reducible rfl
        rotate_left
        · simp only [Act.put, List.setIfInBounds_toArray, List.set_cons_zero, List.set_cons_succ, iR, iT]
          rfl
        refine kF (i := 4) (N := some 22) (v := ?_) (a' := ?_) #[true, true, true, true, true, true, true, true, true, false, false] rfl rfl (jK HT_.out HW_.out (by kernel_rfl)) (fun _ _ _ h => h) (Or.inl ⟨by rfl, ?_⟩) hHeld ?_ ?_
        rotate_left
        · rintro w' ⟨s0, s1, s2, s3⟩
          go_simp
          with_reducible rfl
        rotate_left
        · simp only [Act.put, List.setIfInBounds_toArray, List.set_cons_zero, List.set_cons_succ, iR, iT]
          rfl
        refine kF (i := 9) (N := some 27) (v := ?_) (a' := ?_) #[true, true, true, true, true, true, true, true, true, true, false] rfl rfl (jK HT_.out HW_.out (by kernel_rfl)) (fun _ _ _ h => h) (Or.inl ⟨by rfl, ?_⟩) hHeld ?_ ?_
        rotate_left
        · rintro w' ⟨s0, s1, s2, s3⟩
          go_simp
          with_reducible rfl
        rotate_left
        · simp only [Act.put, List.setIfInBounds_toArray, List.set_cons_zero, List.set_cons_succ, iR, iT]
          rfl
        refine IL (i := 10) (N := some 28) #[true, true, true, true, true, true, true, true, true, true, true] rfl rfl (jS HT_.out (by kernel_rfl)) (by decide) (fun K hK => ?_)
        refine yX Try.func94 (by kernel_rfl) rfl #[.agg #[.int .i64 x.f0, .int .i64 x.f1], .agg #[.int .i64 y.f0, .int .i64 y.f1]] (by rfl) rfl rfl rfl (by simp only [List.map_toArray, List.map_cons, List.map_nil]; rfl) ?_
        with_reducible refine (rM x y _).mono ?_
        rintro e w2 ⟨rfl, rfl⟩
        refine ⟨_, rfl, ?_⟩
        refine hK.out _ _ ?_
        clear hK K
        refine jT (a' := ?_) ?_ ?_
        rotate_left
        · show Act.put _ (some 28) _ = _
          simp only [Act.put, List.setIfInBounds_toArray, List.set_cons_zero, List.set_cons_succ, iR, iT]
          rfl
        refine lT (kH HT_.out (by kernel_rfl)) ?_
        have hb2 : Below wr.heap.size wr (W86 wr.drew x y) := by (with_reducible (repeat (first | exact Below.refl _ _ | apply iG | apply jZ | apply iD | apply below_bytesWorld | (refine iE ?_ (by first | assumption | omega)) | refine iM ?_ (by assumption))))
        obtain ⟨w2, hw2⟩ : ∃ w2, w2 = W86 wr.drew x y := ⟨_, rfl⟩
        rw [← hw2] at hb2 ⊢
        have HR2 := iC.mk (HR1.out.bel hb2)
        have HB2 := iC.mk (HB1.out.trans (hb2.mono HB1.out.size))
        have HF2 := iC.mk (HF1.out.bel hb2)
        clear hHeld HT_ HW_ hw2 hb2 hxx hyy hw
        by_cases heq : x.f1 = y.f1
        · go_wp2
          obtain ⟨r, hr⟩ : ∃ r, r = n - k := ⟨_, rfl⟩
          rw [← hr]
          have hr1 : 1 ≤ r := by omega
          have hrs : (r : Int) ≤ 8796093022208 := by omega
          have HRR := iC.mk (show k + r = n by omega)
          clear hr
          go_loopw [5, 7] (fun p t wr => ∃ (q j : Nat) (ys : List TSp), 1 ≤ q ∧ 1 ≤ j ∧ j ≤ r ∧ p = .int .i64 q ∧ t = .int .i64 j ∧ q + 1 ≤ k + j ∧ iC (ys.take q = glN xs (k + j)) ∧ iC (∀ i : Nat, k + j ≤ i + 1 → rdSp ys i = rdSp xs i) ∧ iC (RSp wr w0.heap.size ad n cap ys) ∧ iC (Below w0.heap.size w0 wr) ∧ iC (Fr ad.block w wr)) (fun _ t _ => r - (intOf t).toNat)
          case atStart => exact ⟨k, 1, xs, hk1, Nat.le_refl _, hr1, rfl, rfl, Nat.le_refl _, ⟨by rw [oN xs k m HM.out x y HX.out HY.out, if_pos heq, HG.out]⟩, ⟨fun _ _ => rfl⟩, HR2, HB2, HF2⟩
          case round =>
            obtain ⟨q, j, ys, hq1, hj1, hjr, rfl, rfl, hqk, HT, HS, HR3, HB3, HF3⟩ := hrel
            have hqn : q < n := by have := HRR.out; omega
            by_cases hjl : j < r
            · obtain ⟨x3, hx⟩ : ∃ x, x = rdSp xs ((k + j : Nat) : Int) := ⟨_, rfl⟩
              obtain ⟨j0, hj0⟩ : ∃ m : Nat, j = m + 1 := ⟨j - 1, by omega⟩
              have hw : wrap64 ((j : Int) - 1) = (j0 : Int) := by unfold wrap64; omega
              have hjl0 : j0 < r := by omega
              obtain ⟨y3, hy⟩ : ∃ y, y = rdSp xs ((k + j0 : Nat) : Int) := ⟨_, rfl⟩
              have hxx := HR3.out.at (k + j) (by have := HRR.out; omega)
              have hyy := HR3.out.at (k + j0) (by have := HRR.out; omega)
              rw [HS.out _ (by omega), ← hx, ← oW HAD.out] at hxx
              rw [HS.out _ (by omega), ← hy, ← oW HAD.out] at hyy
              have HX3 := iC.mk hx
              have HY3 := iC.mk hy
              have HJ0 := iC.mk hj0
              clear hx hy hj0
              go_wp2
              refine kP (n := 12) (S := fun w' => w'.cell? ((ad.add (k * 2)).add (j * 2)) = some (.int .i64 x3.f0) ∧ w'.cell? ⟨((ad.add (k * 2)).add (j * 2)).block, ((ad.add (k * 2)).add (j * 2)).off + 1, none⟩ = some (.int .i64 x3.f1) ∧ w'.cell? ((ad.add (k * 2)).add (j0 * 2)) = some (.int .i64 y3.f0) ∧ w'.cell? ⟨((ad.add (k * 2)).add (j0 * 2)).block, ((ad.add (k * 2)).add (j0 * 2)).off + 1, none⟩ = some (.int .i64 y3.f1)) (ds := [10]) #[false, false, false, false, false, false, false, false, false, false, false, false] (by kernel_rfl) rfl rfl ⟨hxx.1, hxx.2, hyy.1, hyy.2⟩ (fun hHeld => ?_)
              refine jV (T := (true, [([], []), ([], []), ([], []), ([1, 2], [1, 2]), ([3], [3]), ([], []), ([], []), ([6], [6]), ([5, 7], [5, 7]), ([8], [8]), ([0, 4, 9], [0, 4, 9]), ([10], [10])])) (B := [0, 0, 0, 6, 14, 0, 0, 64, 224, 480, 1023, 2047]) (by kernel_rfl) (by kernel_rfl) (fun HT_ HW_ => ?_)
              refine jA (i := 0) (N := some 38) (v := ?_) (a' := ?_) #[true, false, false, false, false, false, false, false, false, false, false, false] rfl rfl (iQ HT_.out (by kernel_rfl)) (fun _ _ _ h => h) (Or.inl ⟨by rfl, ?_⟩) ?_ ?_
              rotate_left
              · intro w'
                go_simp
                with_reducible rfl
              rotate_left
              · simp only [Act.put, List.setIfInBounds_toArray, List.set_cons_zero, List.set_cons_succ, iR, iT]
                rfl
              refine jA (i := 1) (N := some 39) (v := ?_) (a' := ?_) #[true, true, false, false, false, false, false, false, false, false, false, false] rfl rfl (iQ HT_.out (by kernel_rfl)) (fun _ _ _ h => h) (Or.inl ⟨by rfl, ?_⟩) ?_ ?_
              rotate_left
              · intro w'
                go_simp
                with_reducible rfl
              rotate_left
              · simp only [Act.put, List.setIfInBounds_toArray, List.set_cons_zero, List.set_cons_succ, iR, iT]
                rfl
              refine jA (i := 2) (N := some 40) (v := ?_) (a' := ?_) #[true, true, true, false, false, false, false, false, false, false, false, false] rfl rfl (iQ HT_.out (by kernel_rfl)) (fun _ _ _ h => h) (Or.inl ⟨by rfl, ?_⟩) ?_ ?_
              rotate_left
              · intro w'
                go_simp
                with_reducible rfl
              rotate_left
              · simp only [Act.put, List.setIfInBounds_toArray, List.set_cons_zero, List.set_cons_succ, iR, iT]
                rfl
              refine jA (i := 3) (N := some 41) (v := ?_) (a' := ?_) #[true, true, true, true, false, false, false, false, false, false, false, false] rfl rfl (iQ HT_.out (by kernel_rfl)) (fun _ _ _ h => h) (Or.inl ⟨by rfl, ?_⟩) ?_ ?_
              rotate_left
              · intro w'
                go_simp
                with_reducible rfl
              rotate_left
              · simp only [Act.put, List.setIfInBounds_toArray, List.set_cons_zero, List.set_cons_succ, iR, iT]
                rfl
              refine jA (i := 5) (N := some 43) (v := ?_) (a' := ?_) #[true, true, true, true, false, true, false, false, false, false, false, false] rfl rfl (iQ HT_.out (by kernel_rfl)) (fun _ _ _ h => h) (Or.inl ⟨by rfl, ?_⟩) ?_ ?_
              rotate_left
              · intro w'
                go_simp
                with_reducible rfl
              rotate_left
              · simp only [Act.put, List.setIfInBounds_toArray, List.set_cons_zero, List.set_cons_succ, iR, iT]
                rfl
              refine jA (i := 6) (N := some 44) (v := ?_) (a' := ?_) #[true, true, true, true, false, true, true, false, false, false, false, false] rfl rfl (iQ HT_.out (by kernel_rfl)) (fun _ _ _ h => h) (Or.inl ⟨by rfl, ?_⟩) ?_ ?_
              rotate_left
              · intro w'
                go_simp
                with_reducible rfl
              rotate_left
              · simp only [Act.put, List.setIfInBounds_toArray, List.set_cons_zero, List.set_cons_succ, iR, iT]
                rfl
              refine jA (i := 7) (N := some 45) (v := ?_) (a' := ?_) #[true, true, true, true, false, true, true, true, false, false, false, false] rfl rfl (iQ HT_.out (by kernel_rfl)) (fun _ _ _ h => h) (Or.inl ⟨by rfl, ?_⟩) ?_ ?_
              rotate_left
              · intro w'
                go_simp
                with_reducible rfl
              rotate_left
              · simp only [Act.put, List.setIfInBounds_toArray, List.set_cons_zero, List.set_cons_succ, iR, iT]
                rfl
              refine jA (i := 8) (N := some 46) (v := ?_) (a' := ?_) #[true, true, true, true, false, true, true, true, true, false, false, false] rfl rfl (iQ HT_.out (by kernel_rfl)) (fun _ _ _ h => h) (Or.inl ⟨by rfl, ?_⟩) ?_ ?_
              rotate_left
              · intro w'
                go_simp
                with_reducible rfl
              rotate_left
              · simp only [Act.put, List.setIfInBounds_toArray, List.set_cons_zero, List.set_cons_succ, iR, iT]
                rfl
              refine kF (i := 4) (N := some 42) (v := ?_) (a' := ?_) #[true, true, true, true, true, true, true, true, true, false, false, false] rfl rfl (jK HT_.out HW_.out (by kernel_rfl)) (fun _ _ _ h => h) (Or.inl ⟨by rfl, ?_⟩) hHeld ?_ ?_
              rotate_left
              · rintro w' ⟨s0, s1, s2, s3⟩
                go_simp
                with_reducible rfl
              rotate_left
              · simp only [Act.put, List.setIfInBounds_toArray, List.set_cons_zero, List.set_cons_succ, iR, iT]
                rfl
              refine kF (i := 9) (N := some 47) (v := ?_) (a' := ?_) #[true, true, true, true, true, true, true, true, true, true, false, false] rfl rfl (jK HT_.out HW_.out (by kernel_rfl)) (fun _ _ _ h => h) (Or.inl ⟨by rfl, ?_⟩) hHeld ?_ ?_
              rotate_left
              · rintro w' ⟨s0, s1, s2, s3⟩
                go_simp
                with_reducible rfl
              rotate_left
              · simp only [Act.put, List.setIfInBounds_toArray, List.set_cons_zero, List.set_cons_succ, iR, iT]
                rfl
              refine IL (i := 10) (N := some 48) #[true, true, true, true, true, true, true, true, true, true, true, false] rfl rfl (jS HT_.out (by kernel_rfl)) (by decide) (fun K hK => ?_)
              refine yX Try.func94 (by kernel_rfl) rfl #[.agg #[.int .i64 x3.f0, .int .i64 x3.f1], .agg #[.int .i64 y3.f0, .int .i64 y3.f1]] (by rfl) rfl rfl rfl (by simp only [List.map_toArray, List.map_cons, List.map_nil]; rfl) ?_
              with_reducible refine (rM x3 y3 _).mono ?_
              rintro e w4 ⟨rfl, rfl⟩
              refine ⟨_, rfl, ?_⟩
              refine hK.out _ _ ?_
              clear hK K
              refine jT (a' := ?_) ?_ ?_
              rotate_left
              · show Act.put _ (some 48) _ = _
                simp only [Act.put, List.setIfInBounds_toArray, List.set_cons_zero, List.set_cons_succ, iR, iT]
                rfl
              refine jA (i := 11) (N := some 49) (v := ?_) (a' := ?_) #[true, true, true, true, true, true, true, true, true, true, true, true] rfl rfl (iQ HT_.out (by kernel_rfl)) (fun _ _ _ h => h) (Or.inl ⟨by rfl, ?_⟩) ?_ ?_
              rotate_left
              · intro w'
                go_simp
                with_reducible rfl
              rotate_left
              · simp only [Act.put, List.setIfInBounds_toArray, List.set_cons_zero, List.set_cons_succ, iR, iT]
                rfl
              refine lT (kH HT_.out (by kernel_rfl)) ?_
              have hb4 : Below wr.heap.size wr (W86 wr.drew x3 y3) := by (with_reducible (repeat (first | exact Below.refl _ _ | apply iG | apply jZ | apply iD | apply below_bytesWorld | (refine iE ?_ (by first | assumption | omega)) | refine iM ?_ (by assumption))))
              obtain ⟨w4, hw4⟩ : ∃ w4, w4 = W86 wr.drew x3 y3 := ⟨_, rfl⟩
              rw [← hw4] at hb4 ⊢
              have HR4 := iC.mk (HR3.out.bel hb4)
              have HB4 := iC.mk (HB3.out.trans (hb4.mono HB3.out.size))
              have HF4 := iC.mk (HF3.out.bel hb4)
              have hstep := oN xs (k + j) (k + j0) (by have := HJ0.out; omega) x3 y3 HX3.out HY3.out
              have hjj : k + (j + 1) = k + j + 1 := by omega
              clear hHeld HT_ HW_ hw4 hb4 hxx hyy hw
              by_cases heq3 : x3.f1 = y3.f1
              · rw [if_pos heq3] at hstep
                simp only [decide_eq_true heq3, Bool.not_true]
                have HST := iC.mk hstep
                have HJJ := iC.mk hjj
                clear hstep hjj
                go_wp2
                go_roundw
                case rel => exact ⟨q, j + 1, ys, hq1, by omega, by omega, rfl, by congr 1, by omega, ⟨by rw [HJJ.out, HST.out, HT.out]⟩, ⟨fun i hi => HS.out i (by omega)⟩, HR4, HB4, HF4⟩
                case measure => simp [intOf]; omega
              · rw [if_neg heq3] at hstep
                simp only [decide_eq_false heq3, Bool.not_false]
                have HST := iC.mk hstep
                have HJJ := iC.mk hjj
                clear hstep hjj
                have hxx := HR4.out.at (k + j) (by have := HRR.out; omega)
                rw [HS.out _ (by omega), ← HX3.out, ← oW HAD.out] at hxx
                obtain ⟨hx1, hx2⟩ := hxx
                obtain ⟨z, hz⟩ : ∃ z, z = rdSp ys q := ⟨_, rfl⟩
                have hzz := HR4.out.at q hqn
                rw [← hz, zB HAD.out] at hzz
                have HZ := iC.mk hzz
                clear hz hzz
                go_wp2_with (refine IV (.store 96 (.tmp 56) (.tmp 55)) rfl ?_; refine Kd.R_store k96 (w0 := w0) w0.heap.size rfl rfl 96 (.tmp 56) (.tmp 55) rfl 96 (g := g) (n := n) (cap := cap) (o' := q * 2) (q : Int) 0 ys x3 (.agg #[.int .i64 x3.f0, .int .i64 x3.f1]) [.int .i64 x3.f0, .int .i64 x3.f1] [.int .i64 z.f0, .int .i64 z.f1] (fun _ => True) (fun _ => False) (congrArg (fun a => Value.pointer (some a)) (zB HAD.out (q * 2))) (by simp; rfl) rfl rfl (by kernel_rfl) (by intro v hv; simp at hv; rcases hv with rfl | rfl <;> rfl) (by have := HR4.out; rw [HAD.out] at this; exact this) (by omega) (by omega) rfl ?hcc (by simp; decide) (kT _ _ _ x3) (fun _ h => h.elim) HB4.out ?_; (case hcc => exact xH HZ.out.1 HZ.out.2); intro w5 hR5 hB5 hg5; have HR5 := iC.mk hR5; have HB5 := iC.mk hB5; have HF5 := iC.mk (HF4.out.grown (by rw [HAD.out]; exact hg5)); clear hR5 hB5 hg5 hx1 hx2)
                go_roundw
                case rel => exact ⟨q + 1, j + 1, ys.set q x3, by omega, by omega, by omega, by congr 1, by congr 1, by omega, ⟨by rw [HJJ.out, HST.out, ← HT.out]; exact yA _ _ (by have := HR4.out.len; omega) _⟩, ⟨fun i hi => (IU _ _ _ (by omega) _).trans (HS.out i (by omega))⟩, ⟨by rw [HAD.out]; exact HR5.out⟩, HB5, HF5⟩
                case measure => simp [intOf]; omega
            · obtain rfl : j = r := by omega
              have hcl : ∀ ty, (Builtin.clear_ #[40] ty #[.slice (some (ad.add (q * 2))) (n - q) (cap - q)]).run Try.prog wr = .ok (.tuple #[]) (wr.setCells g (q * 2) (zs (n - q))) := fun ty => by
                rw [zB HAD.out]; exact qG (xs := ys) (cap := cap) (base := w0.heap.size) (by have := HR3.out; rw [HAD.out] at this; exact this) hqn ty _
              have hfin : RSp (wr.setCells g (q * 2) (zs (n - q))) w0.heap.size ad q cap (ys.take q) := by
                have := HR3.out; rw [HAD.out] at this ⊢; exact this.clear (by omega) _ (by rw [qM]; omega)
              have hbf : Below w0.heap.size w0 (wr.setCells g (q * 2) (zs (n - q))) := HB3.out.trans (rX (HR3.out.base HAD.out) _ _ _)
              rw [HT.out, HRR.out] at hfin
              have HF := iC.mk hfin
              have HBF := iC.mk hbf
              have HFF := iC.mk (show Fr ad.block w (wr.setCells g (q * 2) (zs (n - q))) by have := HF3.out; rw [HAD.out] at this ⊢; exact this.cells _ _)
              clear hfin hbf
              go_wp2
              go_ret
              exact ⟨q, rfl, HF.out, HBF.out, HFF.out⟩
        · go_wp2
          go_roundw
          case rel => exact ⟨k + 1, by omega, by omega, by congr 1, HR2, HB2, ⟨by rw [oN xs k m HM.out x y HX.out HY.out, if_neg heq, HG.out, take_snoc xs k (by have := HN.out; omega), HX.out]⟩, HF2⟩
          case measure => simp [intOf]; omega
      · obtain rfl : k = n := by omega
        go_wp2
        go_ret
        exact ⟨k, rfl, by rw [HG.out, List.take_of_length_le (by have := HN.out; omega)]; exact HR1.out, HB1.out, HF1.out⟩
end Go.Proofs.Ytjppookmjdaplaa.K
end

section
namespace Go.Proofs.Ytjppookmjdaplaa.K
open Go Go.RowKit Go.Proofs.YtjppookmjdaplaaW.PrintWords Go.Proofs.YtjppookmjdaplaaW.PrintLast Go.Proofs.YtjppookmjdaplaaW.PrintMore Go.Proofs.Ytjppookmjdaplaa.My
abbrev ki : Kd Int := Kd.int .i64
theorem zJ : (Try.prog.info? 3).map (fun i => (i.zero, i.size, i.bytes)) = some (some (.int .i64 0), ki.sz, 8) := by kernel_rfl
theorem OI.empty (w : World) : ki.R 3 (w.alloc (.cells #[] 3)) w.heap.size (fun _ => True) (.slice (some ⟨w.heap.size, 0, none⟩) 0 0) [] := by
  refine Kd.R_of_own ?_ (fun _ _ => trivial)
  have h := World.ownsRow_lit (base := w.heap.size) (e := 3) (size := 1) w #[] 0 (Nat.le_refl _) (by simp) (by simp)
  simpa [encs] using h
theorem zQ {w : World} {n : Nat} {l : List Int} (h : ki.C w none n l) : l = [] ∧ n = 0 := by
  have h1 := h.1
  rcases Nat.eq_zero_or_pos n with h0 | h0
  · subst h0; exact ⟨List.length_eq_zero_iff.1 h1, rfl⟩
  · obtain ⟨ad, e, _⟩ := h.2.2 h0; cases e
def slices_Clone_int_int.f (l : List Int) : Option (List Int) := if (l.length : Int) ≤ 17592186044416 then some l else none
set_option maxHeartbeats 1000000 in
theorem slices_Clone_int_int.calls (A : Option Addr) (c : Nat) (l r : List Int) (w : World) (hr : ki.C w A l.length l) (hc : l.length ≤ c) (h : slices_Clone_int_int.f l = some r) :
    Calls Try.prog 55 #[.slice A l.length c] w fun e w' => ∃ v0_, e = .returned v0_ ∧ (Kd.int .i64).R 3 w' w.heap.size (fun _ => True) v0_ r ∧ Below w.heap.size w w' := by
  have hs : (l.length : Int) ≤ 17592186044416 := by
    unfold slices_Clone_int_int.f at h; split at h
    · assumption
    · cases h
  have hlr : l = r := by
    unfold slices_Clone_int_int.f at h; rw [if_pos hs] at h; exact Option.some.inj h
  subst hlr
  clear h
  have hnil := fun (w : World) (a : Option Addr) (n c : Nat) => Lib.run_eql_slice_nil (P := Try.prog) w 25 3 a n c 0 0 Try.underlying25
  cases A with
  | none =>
    obtain ⟨rfl, _⟩ := zQ hr
    go_enter Try.func55, Try.ntmps55
    go_wp2
    go_ret
    exact ⟨_, rfl, Kd.R_nil _ _ _ _ _, Below.refl _ _⟩
  | some ad =>
    have HL := iC.mk hr
    clear hr
    go_enter Try.func55, Try.ntmps55
    go_wp2_with (at_builtin; refine Kd.R_append_rows ki (w0 := w) w.heap.size rfl (.tmp 5) (.tmp 6) 25 3 (.int .i64 0) 8 rfl Try.underlying25 zJ rfl (by decide) (by omega) (.slice (some ⟨w.heap.size, 0, none⟩) 0 0) [] l _ _ _ (fun _ => True) (fun _ => False) rfl rfl (OI.empty w) ?aR (fun _ _ h => h) (fun _ h => h.elim) (fun _ _ => trivial) ?aB ?aS ?aL ?_; (case aR => exact Kd.C_below HL.out (by (repeat (first | exact Below.refl _ _ | apply iG | apply jZ | apply iD | apply below_bytesWorld | (refine iE ?_ (by first | assumption | omega)) | refine iM ?_ (by assumption))))); (case aB => (repeat (first | exact Below.refl _ _ | apply iG | apply jZ | apply iD | apply below_bytesWorld | (refine iE ?_ (by first | assumption | omega)) | refine iM ?_ (by assumption)))); (case aS => exact iJ (by (repeat (first | exact Below.refl _ _ | apply iG | apply jZ | apply iD | apply below_bytesWorld | (refine iE ?_ (by first | assumption | omega)) | refine iM ?_ (by assumption))))); (case aL => simp; omega); intro v1 w2 HO HB hg hat)
    go_ret
    exact ⟨_, rfl, HO, HB⟩
def spans_glued.f (xs : List TSp) : Option (List TSp) := if (xs.length : Int) ≤ 8796093022208 then some (glN xs xs.length) else none
theorem uX {w : World} {base : Nat} {ok ok' : Nat → Prop} {v : Value} {xs : List TSp} (h : Kd.R k96 96 w base ok v xs) (hk : ∀ k, v.ownBlock = some k → ok' k) : Kd.R k96 96 w base ok' v xs := Kd.R_reok rfl h hk
theorem qL (w0 : World) (A : Option Addr) (cap : Nat) (xs r : List TSp) (w : World) {ok : Nat → Prop} (hR : Kd.R k96 96 w w0.heap.size ok (.slice A xs.length cap) xs) (hB : Below w0.heap.size w0 w) (h : spans_glued.f xs = some r) :
    Calls Try.prog 73 #[.slice A xs.length cap] w fun e w' => ∃ v, e = .returned v ∧ Kd.R k96 96 w' w0.heap.size (fun _ => True) v r ∧ Below w0.heap.size w0 w' ∧ ∀ k o, w.heap[k]? = some o → some k ≠ (Value.slice A xs.length cap).ownBlock → w'.heap[k]? = some o := by
  have hs : (xs.length : Int) ≤ 8796093022208 := by
    unfold spans_glued.f at h; split at h
    · assumption
    · cases h
  obtain rfl : glN xs xs.length = r := by
    unfold spans_glued.f at h; rw [if_pos hs] at h; exact Option.some.inj h
  clear h
  by_cases h0 : xs = []
  · subst h0
    have HR := iC.mk hR
    have HB := iC.mk hB
    clear hR hB
    have hcall : Calls Try.prog 93 #[.slice A 0 cap, .func (.func 94) #[] #[]] w fun e w' => e = .returned (.slice A 0 cap) ∧ w' = w := by
      go_enter Try.func93, Try.ntmps93
      go_wp2
      go_ret
      exact ⟨rfl, rfl⟩
    go_enter Try.func73, Try.ntmps73
    go_wp2_with (go_at_call 93; refine hcall.mono ?_; rintro e w' ⟨rfl, rfl⟩)
    go_ret
    exact ⟨_, rfl, uX HR.out (fun _ _ => trivial), HB.out, fun _ _ h _ => h⟩
  · have hn : 0 < xs.length := List.length_pos_iff.2 h0
    obtain ⟨ad, c', he⟩ : ∃ ad c', Value.slice A xs.length cap = .slice (some ad) xs.length c' := by
      obtain ⟨ad, c', he⟩ := Kd.R_slice1 hR hn
      exact ⟨ad, c', he⟩
    simp only [Value.slice.injEq] at he
    obtain ⟨rfl, _, rfl⟩ := he
    have hcall := rE w0 ad cap xs.length xs w (uX hR (fun _ _ => trivial)) hB hn hs
    clear hR hB
    go_enter Try.func73, Try.ntmps73
    go_wp2_with (go_at_call 93; refine hcall.mono ?_; rintro e w' ⟨q, rfl, h1, h2, h3⟩; have H1 := iC.mk h1; have H2 := iC.mk h2; have H3 := iC.mk h3; clear h1 h2 h3)
    go_ret
    refine ⟨_, rfl, H1.out, H2.out, fun k o hk hne => ?_⟩
    rw [H3.out.2 k (jE hk) (fun e => hne (by subst e; rfl))]
    exact hk
end Go.Proofs.Ytjppookmjdaplaa.K
end

section
namespace Go.Proofs.Ytjppookmjdaplaa.K
open Go Go.RowKit Go.Proofs.YtjppookmjdaplaaW.PrintWords Go.Proofs.YtjppookmjdaplaaW.PrintLast Go.Proofs.YtjppookmjdaplaaW.PrintMore Go.Proofs.Ytjppookmjdaplaa.My
attribute [local go_sem] Oper.semAt_some
/-- The node of m among members: -1 where none begins at or below m. -/
def jY (l : List TSp) (m : Int) : Int := ((l.reverse.find? (fun x => decide (x.f0 ≤ m))).map (fun x => x.f1)).getD (-1)
theorem vX (l : List TSp) : (bkU l l.length).map Prod.snd = l.reverse := by
  refine List.ext_getElem (by simp [bkU]) ?_
  intro i h1 h2
  simp only [bkU, List.length_map, List.length_range] at h1
  simp only [bkU, List.getElem_map, List.getElem_range, List.getElem_reverse]
  have : ((l.length : Int) - 1 - i).toNat = l.length - 1 - i := by omega
  simp only [rdSp, iY, this, List.getD_eq_getElem?_getD]
  rw [List.getElem?_eq_getElem (by omega)]; rfl
theorem uO (l : List TSp) (m : Int) (h : ∀ x ∈ bkU l l.length, m < x.2.f0) : jY l m = -1 := by
  have : l.reverse.find? (fun x => decide (x.f0 ≤ m)) = none := by
    rw [List.find?_eq_none]
    intro x hx
    rw [← vX, List.mem_map] at hx
    obtain ⟨y, hy, rfl⟩ := hx
    have := h y hy
    simp; omega
  simp [jY, this]
theorem yQ (l : List TSp) (k : Nat) (hk : k ≤ l.length) : bkU l k = (bkU l l.length).take k := by simp [bkU, ← List.map_take, List.take_range, Nat.min_eq_left hk]
theorem uK (l : List TSp) (m : Int) (pre : List (Int × TSp)) (x : Int × TSp) (k : Nat) (hk : k ≤ l.length) (hp : pre ++ [x] = bkU l k) (h : ∀ y ∈ pre, m < y.2.f0) (hx : x.2.f0 ≤ m) : jY l m = x.2.f1 := by
  have h1 : l.reverse = (pre.map Prod.snd ++ [x.2]) ++ l.reverse.drop k := by
    have : l.reverse.take k = pre.map Prod.snd ++ [x.2] := by
      rw [← vX, ← List.map_take, ← yQ l k hk, ← hp]; simp
    rw [← this, List.take_append_drop]
  have h2 : (pre.map Prod.snd).find? (fun x => decide (x.f0 ≤ m)) = none := by
    rw [List.find?_eq_none]
    intro y hy
    rw [List.mem_map] at hy
    obtain ⟨z, hz, rfl⟩ := hy
    have := h z hz
    simp; omega
  unfold jY
  rw [h1, List.append_assoc, List.find?_append, h2]
  simp [hx]
def spans_Find.f (a0 : Int) (l : List TSp) (m : Int) : Option Int := if (l.length : Int) ≤ 8796093022208 then some (jY l m) else none
/-- The round's member in its own box. -/
def Box2 (W : World) (B : Nat) (x : TSp) : Prop := W.heap[B]? = some (.cells #[.int .i64 x.f0, .int .i64 x.f1] 96 (0, 0))
theorem Box2.kept {X Y : World} {B : Nat} {x : TSp} {row : Option Nat} (h : Box2 X B x) (hg : X.grownBy Y row) (hr : ∀ r, row = some r → ∃ o : Obj, X.heap[r]? = some o ∧ o.isCells = false) : Box2 Y B x :=
  (hg.block B (jE h) (fun e => by
    obtain ⟨o, ho, hc⟩ := hr B e.symm
    rw [show X.heap[B]? = _ from h] at ho
    cases ho; cases hc)).trans h
/-- The last one is the first that begins at or below m. -/
def Hit (m : Int) (pre : List (Int × TSp)) : Prop := ∃ p0 x, pre = p0 ++ [x] ∧ (∀ y ∈ p0, m < y.2.f0) ∧ x.2.f0 ≤ m
def yB (pre : List (Int × TSp)) : Int := (pre.getLast?.map (fun x => x.2.f1)).getD 0
theorem oH (pre : List (Int × TSp)) (x : Int × TSp) : yB (pre ++ [x]) = x.2.f1 := by simp [yB]
set_option maxRecDepth 100000 in
set_option maxHeartbeats 4000000 in
theorem spans_Find.calls (a0 : Int) (A : Option Addr) (c : Nat) (l : List TSp) (m r : Int) (w : World) (hr : Kd.C k96 w A l.length l) (hc : l.length ≤ c) (h : spans_Find.f a0 l m = some r) :
    Calls Try.prog 51 #[.agg #[.int .u32 a0, .slice A l.length c], .int .i64 m] w fun e w' => e = .returned (.int .i64 r) ∧ Below w.heap.size w w' := by
  have hs : (l.length : Int) ≤ 8796093022208 := by
    unfold spans_Find.f at h; split at h
    · assumption
    · cases h
  have hr' : jY l m = r := by
    unfold spans_Find.f at h; rw [if_pos hs] at h; exact Option.some.inj h
  clear h
  have HL := iC.mk hr
  have HR := iC.mk hr'
  clear hr hr'
  refine (callsIn_wide (n := 6)).1 ?_
  refine callsIn_of_wp_marks Try.func51 rfl trivial ?_ rfl
  simp only [Try.ntmps51, List.size_toArray, List.length_cons, List.length_nil, Nat.reduceAdd, Nat.reduceSub, Array.replicate_succ, Array.replicate_zero, List.push_toArray, List.append_toArray, List.nil_append, List.cons_append]
  gi_wp2
  refine ⟨trivial, ?_⟩
  refine ((callsIn_wide (n := 5)).2 (yN _ _ _ _)).mono ?_
  rintro e w1 ⟨rfl, rfl⟩
  obtain ⟨W0, hW0⟩ : ∃ W0, W0 = (((w.alloc (.cells #[.int .u32 a0, .slice A l.length c] 42)).alloc (.cells #[.int .i64 m] 3)).alloc (.cells #[.int .i64 0] 3)).alloc (.cells #[.slice A l.length c] 40) := ⟨_, rfl⟩
  have hsz : W0.heap.size = w.heap.size + 4 := by rw [hW0]; simp
  have hB0 : Below w.heap.size w W0 := by rw [hW0]; (repeat (first | exact Below.refl _ _ | apply iG | apply jZ | apply iD | apply below_bytesWorld | (refine iE ?_ (by first | assumption | omega)) | refine iM ?_ (by assumption)))
  have hx1 : Boxed W0 (w.heap.size + 1) 3 (.int .i64 m) := by rw [hW0]; exact lY (lY (l9 (by simp)))
  have hx2 : Boxed W0 (w.heap.size + 1 + 1) 3 (.int .i64 0) := by rw [hW0]; exact lY (l9 (by simp))
  have hx3 : W0.heap[w.heap.size + 1 + 1 + 1]? = some (.cells #[.slice A l.length c] 40 (0, 0)) := by rw [hW0]; exact l9 (by simp)
  gi_wp2
  rw [← hW0]
  clear hW0
  refine wpIn_rangeFunc_ownH rfl (by decide) (gf := 95) (lb := #[.pointer (some ⟨w.heap.size + 1 + 1 + 1, 0, none⟩)]) rfl trivial (enters_of Try.func95 (by kernel_rfl) rfl)
    (uJ (6 - 1) (by decide) (w.heap.size + 1 + 1 + 1) 40 (0, 0) A c l w W0 HL.out hs hB0 hx3)
    (fun h k => ⟨h.1.trans k.1, k.2.trans h.2⟩)
    (fun W q o o' hle hl h1 h2 => ⟨belowK_b (w := w) (by omega) W q _ o' (by omega) hl h1 h2, World.putObj_heap_other (by omega)⟩)
    (Below.refl _ _) (fun _ => rfl)
    (fun pre W => ((((∀ x ∈ pre, m < x.2.f0) ∧ Boxed W (w.heap.size + 1 + 1) 3 (.int .i64 0)) ∧ Boxed W (w.heap.size + 1) 3 (.int .i64 m)) ∧ Boxed W (w.heap.size + 1 + 1 + 1) 40 (.slice A l.length c)) ∧ Below w.heap.size w W)
    (fun c pre W => ((c = .ret ∧ Hit m pre) ∧ Boxed W (w.heap.size + 1 + 1) 3 (.int .i64 (yB pre))) ∧ Below w.heap.size w W)
    (OwnFrom.and (OwnFrom.and (OwnFrom.and (OwnFrom.and (ownFrom_pure _ _) (Own.from (boxed_own _ _ _) _)) (Own.from (boxed_own _ _ _) _)) (Own.from (boxed_own _ _ _) _)) (ownFrom_below (Nat.le_refl _) (by omega)))
    (fun c => OwnFrom.and (OwnFrom.and (ownFrom_pure _ _) (Own.from (boxed_own _ _ (fun pre => .int .i64 (yB pre))) _)) (ownFrom_below (Nat.le_refl _) (by omega)))
    ⟨⟨⟨⟨by simp, hx2⟩, hx1⟩, hx3⟩, hB0⟩
    (fun x a' W => ∃ Bx, w.heap.size + 1 + 1 + 1 < Bx ∧ Box2 W Bx x.2 ∧ a' = { tmps := #[.agg #[.int .u32 a0, .slice A l.length c], .int .i64 m, .pointer (some ⟨w.heap.size, 0, none⟩), .pointer (some ⟨w.heap.size + 1, 0, none⟩), .pointer (some ⟨w.heap.size + 1 + 1, 0, none⟩), undef, .pointer (some ⟨Bx, 0, none⟩), .pointer (some ⟨w.heap.size, 1, none⟩), .slice A l.length c, .func (.func 95) #[] #[.pointer (some ⟨w.heap.size + 1 + 1 + 1, 0, none⟩)], .int .i64 x.1, .agg #[.int .i64 x.2.f0, .int .i64 x.2.f1], undef, undef, undef, undef, undef, undef], defers := [] })
    (fun x a' _ X Y row hs hg hr => by obtain ⟨Bx, e1, e2, e3⟩ := hs; exact ⟨Bx, e1, Box2.kept e2 hg (fun r e => (hr r e).2), e3⟩)
    ?assign ?body ?done ?stop
  case assign =>
    rintro lp pre x W K ⟨⟨⟨⟨hp, b2⟩, b1⟩, b3⟩, hB⟩ hK
    simp only [zW]
    gi_wp2
    exact hK _ _ ((KeepsOthers.alloc _ _).from _) ⟨(Below.refl _ W).alloc hB.size _, Below.heap_alloc _ _ _ b3.lt⟩ ⟨⟨⟨⟨hp, b2.alloc _⟩, b1.alloc _⟩, b3.alloc _⟩, hB.alloc hB.size _⟩ ⟨W.heap.size, b3.lt, l9 (by simp), rfl⟩
  case body =>
    rintro lp pre x a' W hl hr ⟨⟨⟨⟨hp, b2⟩, b1⟩, b3⟩, hB⟩ ⟨Bx, hBx, bX, rfl⟩ hlt
    have c1 := b1.cell
    have f2 := b2.frozen
    have c2 := b2.cell
    have cX0 : W.cell? ⟨Bx, 0, none⟩ = some (.int .i64 x.2.f0) := by simp [World.cell?, show W.heap[Bx]? = _ from bX]
    have cX1 : W.cell? ⟨Bx, 1, none⟩ = some (.int .i64 x.2.f1) := by simp [World.cell?, show W.heap[Bx]? = _ from bX]
    gi_wp2
    · rename_i hxy
      exact ⟨(KeepsOthers.setCell _ _ _).from _, ⟨⟨rfl, pre, x, rfl, hp, by simpa using hxy⟩, by rw [oH]; exact b2.set _⟩, hB.setCell (p := ⟨w.heap.size + 1 + 1, 0, none⟩) (by simp; omega) _⟩
    · rename_i hxy
      exact ⟨KeepsFrom.refl _ _, ⟨Below.refl _ _, rfl⟩, ⟨⟨⟨fun z hz => (List.mem_append.1 hz).elim (hp z) (fun e => by simp at e; subst e; simpa using hxy), b2⟩, b1⟩, b3⟩, hB⟩
  case done =>
    rintro D xs W hD hx ⟨⟨⟨⟨hp, b2⟩, b1⟩, b3⟩, hB⟩ hK
    have c2 := b2.cell
    have f2 := b2.frozen
    gi_wp2
    have hK' := (KeepsOthers.setCell W ⟨w.heap.size + 1 + 1, 0, none⟩ (.int .i64 (-1))).same D _ hK rfl
    refine ⟨by simp, .inl ⟨_, _, rfl, run_takeDeferred hK', ?_⟩⟩
    have hc5 := cell_kept (b2.set (.int .i64 (-1))).cell (grownBy_putObj' _ D (.deferred none)) (fun r e => by cases e; exact ⟨_, hK', rfl⟩)
    refine ⟨.int .i64 (-1), ?_, by rw [← HR.out, uO l m (by rw [← hx]; exact hp)], (hB.setCell (p := ⟨w.heap.size + 1 + 1, 0, none⟩) (by simp; omega) _).trans (belowK_b (w := w) (Nat.le_refl _) _ D _ _ (by omega) hK' rfl rfl)⟩
    simp [results, Try.f51, go_sem, hc5]
  case stop =>
    rintro D c' pre W hD ⟨k, hk, hpre⟩ ⟨⟨⟨rfl, hh⟩, b2⟩, hB⟩ hK
    obtain ⟨p0, x, rfl, h1, h2⟩ := hh
    rw [oH] at b2
    gi_wp2
    refine ⟨by simp, .inl ⟨_, _, rfl, run_takeDeferred hK, ?_⟩⟩
    have hc5 := cell_kept b2.cell (grownBy_putObj' _ D (.deferred none)) (fun r e => by cases e; exact ⟨_, hK, rfl⟩)
    refine ⟨.int .i64 x.2.f1, ?_, by rw [← HR.out, uK l m p0 x k hk hpre h1 h2], hB.trans (belowK_b (w := w) (Nat.le_refl _) W D _ _ (by omega) hK rfl rfl)⟩
    simp [results, Try.f51, go_sem, hc5]
end Go.Proofs.Ytjppookmjdaplaa.K
end

section
namespace Go.Proofs.Ytjppookmjdaplaa.K
open Go.RowKit Go.Proofs.YtjppookmjdaplaaW.PrintWords Go.Proofs.YtjppookmjdaplaaW.PrintLast Go.Proofs.YtjppookmjdaplaaW.PrintMore
attribute [local go_sem] jQ jP jX jW
def spans_Parts.l0 : Nat → Int → List (S103) → List (S103) → Int → Int → Int → List (S96) → Option ((List (S103)))
  | 0, _, _, _, _, _, _, _ => none
  | k + 1, x2, x7, x10, x11, x12, x147000, x147001 => if x12 < x11 then (if 0 ≤ x12 then (if x12 < (x10.length : Int) then (if (((iW x10 x12).f0).length : Int) > 0 then (if 0 < (((iW x10 x12).f0).length : Int) then ((spans_Find.f x147000 x147001 (rd ((iW x10 x12).f0) 0)).bind fun t150 => (if t150 = x2 then ((slices_Clone_int_int.f ((iW x10 x12).f0)).bind fun t151 => (if x7.length < 4398046511104 then (spans_Parts.l0 k x2 (x7 ++ [(⟨t151, (iW x10 x12).f1⟩ : S103)]) x10 x11 (wrap64 (x12 + 1)) x147000 x147001) else (none))) else (spans_Parts.l0 k x2 x7 x10 x11 (wrap64 (x12 + 1)) x147000 x147001))) else (none)) else (spans_Parts.l0 k x2 x7 x10 x11 (wrap64 (x12 + 1)) x147000 x147001)) else (none)) else (none)) else (some x7)
def spans_Parts.f (k : Nat) (a0_0 : Int) (l0_1 : List (S96)) (l1 : List (S103)) (a2 : Int) : Option ((List (S103))) := spans_Parts.l0 k a2 ([] : List (S103)) l1 (l1.length : Int) 0 a0_0 l0_1
theorem spans_Parts.mono_l : ∀ k, (∀ y0 y1 y2 y3 y4 y5 y6, LeO (spans_Parts.l0 k y0 y1 y2 y3 y4 y5 y6) (spans_Parts.l0 (k + 1) y0 y1 y2 y3 y4 y5 y6))
  | 0 => fun _ _ _ _ _ _ _ r h => by simp [spans_Parts.l0] at h
  | k + 1 => by
    have ih0 := spans_Parts.mono_l k
    · intro y0 y1 y2 y3 y4 y5 y6
      unfold spans_Parts.l0
      repeat' first
      | (with_reducible exact ih0 _ _ _ _ _ _ _)
      | (with_reducible exact LeO.refl _)
      | (with_reducible exact LeO.none _)
      | (with_reducible refine LeO.ite ?_ ?_)
      | (with_reducible refine LeO.bind ?_ (fun _ => ?_))
      | exact ih0 _ _ _ _ _ _ _
      | exact LeO.none _
      | refine LeO.ite ?_ ?_
      | refine LeO.bind ?_ (fun _ => ?_)
theorem spans_Parts.mono : ∀ a0 a1 a2 a3 k, LeO (spans_Parts.f k a0 a1 a2 a3) (spans_Parts.f (k + 1) a0 a1 a2 a3) := by
  intro a0 a1 a2 a3 k
  have ih0 := spans_Parts.mono_l k
  unfold spans_Parts.f
  repeat' first
      | (with_reducible exact ih0 _ _ _ _ _ _ _)
      | (with_reducible exact LeO.refl _)
      | (with_reducible exact LeO.none _)
      | (with_reducible refine LeO.ite ?_ ?_)
      | (with_reducible refine LeO.bind ?_ (fun _ => ?_))
      | exact ih0 _ _ _ _ _ _ _
      | exact LeO.none _
      | refine LeO.ite ?_ ?_
      | refine LeO.bind ?_ (fun _ => ?_)
def spans_Parts.T5 : Bool × List (List Nat × List Nat) := (true, [([], []), ([0], [0]), ([1], [1]), ([2], [2]), ([3], [3]), ([4], [4]), ([4], [4]), ([6, 4], [4, 6]), ([7, 4], [4, 7]), ([8, 4], [4, 8]), ([5, 9, 4, 4], [4, 5, 9]), ([4], [4]), ([10, 11, 4], [4, 10, 11]), ([4, 12], [4, 12])])
def spans_Parts.B5 : List Nat := [0, 1, 3, 7, 15, 31, 31, 95, 223, 479, 1023, 31, 4095, 8191]
theorem spans_Parts.tab5 : rtab .any (opsOf Try.f23 5) = spans_Parts.T5 := by kernel_rfl
theorem spans_Parts.bits5 : kX spans_Parts.T5.2 spans_Parts.B5 = true := by kernel_rfl
def spans_Parts.T6 : Bool × List (List Nat × List Nat) := (true, [([], []), ([], []), ([1], [1]), ([2], [2]), ([], []), ([4], [4]), ([3, 5], [3, 5]), ([6], [6]), ([0, 7, 3], [0, 7]), ([8, 8, 0, 1, 2, 3, 4, 5, 6, 7, 8], [0, 8])])
def spans_Parts.B6 : List Nat := [0, 0, 2, 6, 0, 16, 62, 126, 255, 511]
theorem spans_Parts.tab6 : rtab .any (opsOf Try.f23 6) = spans_Parts.T6 := by kernel_rfl
theorem spans_Parts.bits6 : kX spans_Parts.T6.2 spans_Parts.B6 = true := by kernel_rfl
set_option maxHeartbeats 8000000 in
set_option maxRecDepth 100000 in
theorem spans_Parts.calls (k : Nat) (a0_0 : Int) (A0_1 : Option Addr) (c0_1 : Nat) (l0_1 : List (S96)) (A1 : Option Addr) (c1 : Nat) (l1 : List (S103)) (a2 : Int) (r : List (S103)) (w : World) (hr0_1 : Kd.C k96 w A0_1 l0_1.length l0_1) (hc0_1 : l0_1.length ≤ c0_1) (hr1 : Kd.C k103 w A1 l1.length l1) (hc1 : l1.length ≤ c1) (h : spans_Parts.f k a0_0 l0_1 l1 a2 = some r) :
    Calls Try.prog 23 #[.agg #[.int .u32 a0_0, .slice A0_1 l0_1.length c0_1], .slice A1 l1.length c1, .int .i64 a2] w fun e w' => ∃ v0_ : Value, e = .returned (v0_) ∧ Kd.R k103 103 w' w.heap.size (fun _ => True) v0_ r ∧ Below w.heap.size w w' := by
  have hu42 := Try.underlying42
  have hu103 := Try.underlying103
  have HR0_1 := iC.mk hr0_1
  have HC0_1 := iC.mk hc0_1
  clear hr0_1 hc0_1
  have HR1 := iC.mk hr1
  have HC1 := iC.mk hc1
  clear hr1 hc1
  have HB := iC.mk (Below.refl w.heap.size w)
  have H : (spans_Parts.l0 k a2 ([] : List (S103)) l1 (l1.length : Int) 0 a0_0 l0_1) = some r := h
  clear h
  have H' := iC.mk H
  clear H
  go_enter Try.func23, Try.ntmps23
  go_wp2_with (first | ((with_reducible refine jF (N := 3) rfl ?_); refine jD ?hg (N := 3) ?hd (cs := #[.int .u32 a0_0, .slice A0_1 l0_1.length c0_1]) (t := 42) ?hr ?_; (case hd => rfl); (case hg => rfl); (case hr => first | (go_simp; done) | (go_simp; rfl)); intro gb146 hg w4 hbox hb; have n0_ := iC.mk (iM hb_ hb); have n1_ := iC.mk (hbox); have n2_ := iC.mk ((by rw [hg]; exact (iJ hb_) : w.heap.size ≤ gb146)); have n3_ := iC.mk ((by rw [hg]; exact (iJ hb_) : w.heap.size ≤ gb146)); clear HB; have HB := n0_; have BK146 := n1_; have GW146 := n2_; have GE146 := n3_; clear n0_ n1_ n2_ n3_; clear hb hbox hg))
  go_loopg [7, 12] k (fun kq v7 v12 w' => ∃ (x7_1 : List (S103)) (x12_1 : Int), v12 = .int .i64 x12_1 ∧ iC (spans_Parts.l0 kq a2 x7_1 l1 (l1.length : Int) x12_1 a0_0 l0_1 = some r) ∧ iC (kq ≤ k) ∧ iC (Kd.R k103 103 w' w.heap.size (fun _ => True) v7 x7_1) ∧ iC (w'.heap[gb146]? = some (.cells #[.int .u32 a0_0, (.slice A0_1 l0_1.length c0_1)] 42 (0, 0))) ∧ iC (Below w.heap.size w w'))
  case atStart => exact ⟨(([] : List (S103))), (0), (by first | rfl | (simp; done) | (simp [*]; done)), H', ⟨Nat.le_refl _⟩, ⟨by first | exact Kd.R_nil _ _ _ _ _ | exact Kd.N_nil _ _ _ _ _ | exact Kd.V_nil _ _ _ _ _ | exact Kd.Q_nil _ _ _ _ _ | exact Kd.S_nil _ _ _ _ _⟩, ⟨bk_ BK146.out⟩, ⟨by repeat (first | (with_reducible first | exact HB.out | apply iG | apply iD | apply iF | refine iE ?_ GE146.out) | exact HB.out)⟩⟩
  case round =>
    clear H'
    try clear c1
    try clear c2
    try clear p2
    obtain ⟨x7_1, x12_1, rfl, HA, HK1, HO_7, BK146, HB⟩ := hrel
    cases gk with
    | zero => exact absurd HA.out (by simp [spans_Parts.l0])
    | succ k1 =>
      have H := HA.out
      clear HA
      simp only [spans_Parts.l0] at H
      by_cases c5 : x12_1 < (l1.length : Int)
      · rw [if_pos c5] at H
        have c5b0 : decide (x12_1 < (l1.length : Int)) = true := decide_eq_true c5
        clear c5
        by_cases c6 : 0 ≤ x12_1
        · rw [if_pos c6] at H
          have c6b0 : decide (0 ≤ x12_1) = true := decide_eq_true c6
          clear c6
          by_cases c7 : x12_1 < (l1.length : Int)
          · rw [if_pos c7] at H
            have c7b0 : decide (x12_1 < (l1.length : Int)) = true := decide_eq_true c7
            clear c7
            by_cases c8 : (((iW l1 x12_1).f0).length : Int) > 0
            · rw [if_pos c8] at H
              have c8b0 : decide (0 < (((iW l1 x12_1).f0).length : Int)) = true := decide_eq_true c8
              have c8b1 : decide (0 < ((iW l1 x12_1).f0).length) = true := decide_eq_true (by omega)
              clear c8
              by_cases c9 : 0 < (((iW l1 x12_1).f0).length : Int)
              · rw [if_pos c9] at H
                have c9b0 : decide (0 < (((iW l1 x12_1).f0).length : Int)) = true := decide_eq_true c9
                have c9b1 : decide (0 < ((iW l1 x12_1).f0).length) = true := decide_eq_true (by omega)
                clear c9
                replace H := Option.bind_eq_some_iff.mp H
                obtain ⟨t150, A100, H⟩ := H
                replace H : (if t150 = a2 then ((slices_Clone_int_int.f ((iW l1 x12_1).f0)).bind fun t151 => (if x7_1.length < 4398046511104 then (spans_Parts.l0 k1 a2 (x7_1 ++ [(⟨t151, (iW l1 x12_1).f1⟩ : S103)]) l1 (l1.length : Int) (wrap64 (x12_1 + 1)) a0_0 l0_1) else (none))) else (spans_Parts.l0 k1 a2 x7_1 l1 (l1.length : Int) (wrap64 (x12_1 + 1)) a0_0 l0_1)) = some r := H
                have A10 := iC.mk A100
                clear A100
                by_cases c11 : t150 = a2
                · rw [if_pos c11] at H
                  have c11b0 : (t150 == a2) = true := beq_iff_eq.mpr c11
                  have c11b1 : (t150 != a2) = false := bne_eq_false_iff_eq.mpr c11
                  clear c11
                  replace H := Option.bind_eq_some_iff.mp H
                  obtain ⟨t151, A120, H⟩ := H
                  replace H : (if x7_1.length < 4398046511104 then (spans_Parts.l0 k1 a2 (x7_1 ++ [(⟨t151, (iW l1 x12_1).f1⟩ : S103)]) l1 (l1.length : Int) (wrap64 (x12_1 + 1)) a0_0 l0_1) else (none)) = some r := H
                  have A12 := iC.mk A120
                  clear A120
                  by_cases c13 : x7_1.length < 4398046511104
                  · rw [if_pos c13] at H
                    have LMc13 := iC.mk c13
                    clear c13
                    obtain ⟨y154, hy154⟩ : ∃ y_ : List (S103), y_ = (x7_1 ++ [(⟨t151, (iW l1 x12_1).f1⟩ : S103)]) := ⟨_, rfl⟩
                    replace H : (spans_Parts.l0 k1 a2 y154 l1 (l1.length : Int) (wrap64 (x12_1 + 1)) a0_0 l0_1) = some r := by first | (rw [hy154]; with_reducible exact H) | (have H2_ := (Option.bind_some _ _).symm.trans H; rw [hy154]; with_reducible exact H2_) | (have H2_ := (Option.bind_some _ _).symm.trans H; with_reducible exact H2_) | with_reducible exact H | (rw [hy154]; exact H) | exact H
                    have Ny154 := iC.mk hy154
                    clear hy154
                    have H' := iC.mk H
                    clear H
                    have p147 : 0 ≤ (x12_1 : Int) := of_decide_eq_true asm_
                    have q147 : x12_1 < (l1.length : Int) := of_decide_eq_true asm_
                    obtain ⟨ad147, A147_0, c147_0, e147, hx147_0, hx147_1, hl147_0, hi147_0⟩ := kN HR1.out x12_1 p147 q147
                    cases e147
                    replace hx147_0 := (HB.out.cell (World.block_lt_of_cell? w _ hx147_0)).trans hx147_0
                    replace hx147_1 := (HB.out.cell (World.block_lt_of_cell? w _ hx147_1)).trans hx147_1
                    have HR147_0 := iC.mk hi147_0
                    have HC147_0 := iC.mk hl147_0
                    clear hi147_0 hl147_0
                    replace p147 := eq_true p147
                    replace q147 := eq_true q147
                    try go_wp2_with (first | ((with_reducible refine jF (N := 9) rfl ?_); refine jD ?hg (N := 9) ?hd (cs := #[.slice none 0 0, .int .i64 0]) (t := 103) ?hr ?_; (case hd => rfl); (case hg => rfl); (case hr => first | (go_simp; done) | (go_simp; rfl)); intro gb148 hg w14 hbox hb; have n0_ := iC.mk (Kd.R_below (Kd.R_elderB (by (with_reducible repeat (first | apply Kd.R_alloc | apply Kd.R_drewN | apply Kd.R_drew)); exact HO_7.out) gb148 (Nat.le_of_eq hg.symm)) hb); have n1_ := iC.mk (iP (g := gb146) (o := .cells #[.int .u32 a0_0, .slice A0_1 l0_1.length c0_1] 42 (0, 0)) (bk_ BK146.out) hb); have n2_ := iC.mk (iM (by repeat (first | (with_reducible first | exact HB.out | apply iG | apply iD | apply iF | refine iE ?_ GE146.out) | exact HB.out)) hb); have n3_ := iC.mk (hbox); have n4_ := iC.mk ((by rw [hg]; exact (iJ (by repeat (first | (with_reducible first | exact HB.out | apply iG | apply iD | apply iF | refine iE ?_ GE146.out) | exact HB.out))) : w.heap.size ≤ gb148)); have n5_ := iC.mk ((by rw [hg]; exact (iJ (by repeat (first | (with_reducible first | exact HB.out | apply iG | apply iD | apply iF | refine iE ?_ GE146.out) | exact HB.out))) : w.heap.size ≤ gb148)); have n6_ := iC.mk ((by rw [hg]; exact Nat.ne_of_lt (jE (g := gb146) (o := .cells #[.int .u32 a0_0, .slice A0_1 l0_1.length c0_1] 42 (0, 0)) (bk_ BK146.out)) : gb146 ≠ gb148)); have n7_ := iC.mk ((by rw [hg]; exact Nat.ne_of_gt (jE (g := gb146) (o := .cells #[.int .u32 a0_0, .slice A0_1 l0_1.length c0_1] 42 (0, 0)) (bk_ BK146.out)) : gb148 ≠ gb146)); clear HO_7; clear BK146; clear HB; have HO_7 := n0_; have BK146 := n1_; have HB := n2_; have BK148 := n3_; have GW148 := n4_; have GE148 := n5_; have NB146_148 := n6_; have NB148_146 := n7_; clear n0_ n1_ n2_ n3_ n4_ n5_ n6_ n7_; clear hb hbox hg; have hnb15 := NB148_146.out; have hnc15 := NB146_148.out; have hcz16_0 : w14.cell? ⟨gb148, 0, none⟩ = some (.slice none 0 0) := (iH BK148.out 0).trans rfl; have hcz16_1 : w14.cell? ⟨gb148, 1, none⟩ = some (.int .i64 0) := (iH BK148.out 1).trans rfl; have hfz16_0 := iI BK148.out 0; have hfz16_1 := iI BK148.out 1))
                    have n0_ : iC (Kd.R k103 103 ((w14.setCell ⟨gb148, 0, none⟩ (.slice A147_0 ((iW l1 x12_1).f0).length c147_0)).setCell ⟨gb148, 1, none⟩ (.int .i64 ((iW l1 x12_1).f1))) w.heap.size (fun k_ => k_ ≠ gb148) u7 x7_1) := ⟨by (with_reducible repeat (first | apply Kd.R_alloc | apply Kd.R_drewN | apply Kd.R_drew)); exact Kd.R_mono (Kd.R_far (p := ⟨gb148, 1, none⟩) (Kd.R_far (p := ⟨gb148, 0, none⟩) (Kd.R_mono HO_7.out (fun k_ hk => (⟨hk, hk.2⟩ : _ ∧ k_ ≠ gb148))) (fun _ hk => hk.2) (.slice A147_0 ((iW l1 x12_1).f0).length c147_0)) (fun _ hk => hk.2) (.int .i64 ((iW l1 x12_1).f1))) (fun _ hk => hk.1.2)⟩
                    have n1_ : iC (((w14.setCell ⟨gb148, 0, none⟩ (.slice A147_0 ((iW l1 x12_1).f0).length c147_0)).setCell ⟨gb148, 1, none⟩ (.int .i64 ((iW l1 x12_1).f1))).heap[gb146]? = some (.cells #[.int .u32 a0_0, .slice A0_1 l0_1.length c0_1] 42 (0, 0))) := ⟨by (with_reducible repeat (first | refine iL ?_ _ | refine iO ?_ | refine iK ?_ _)); refine jI ?_ NB146_148.out _; (with_reducible repeat (first | refine iL ?_ _ | refine iO ?_ | refine iK ?_ _)); refine jI ?_ NB146_148.out _; (with_reducible repeat (first | refine iL ?_ _ | refine iO ?_ | refine iK ?_ _)); exact BK146.out⟩
                    have n2_ : iC (((w14.setCell ⟨gb148, 0, none⟩ (.slice A147_0 ((iW l1 x12_1).f0).length c147_0)).setCell ⟨gb148, 1, none⟩ (.int .i64 ((iW l1 x12_1).f1))).heap[gb148]? = some (.cells #[.slice A147_0 ((iW l1 x12_1).f0).length c147_0, .int .i64 ((iW l1 x12_1).f1)] 103 (0, 0))) := ⟨by (with_reducible repeat (first | refine iL ?_ _ | refine iO ?_ | refine iK ?_ _)); refine jC (cs := #[.slice A147_0 ((iW l1 x12_1).f0).length c147_0, .int .i64 0]) ?_ 1 _ rfl; (with_reducible repeat (first | refine iL ?_ _ | refine iO ?_ | refine iK ?_ _)); refine jC (cs := #[.slice none 0 0, .int .i64 0]) ?_ 0 _ rfl; (with_reducible repeat (first | refine iL ?_ _ | refine iO ?_ | refine iK ?_ _)); exact BK148.out⟩
                    have n3_ : iC (Below w.heap.size w ((w14.setCell ⟨gb148, 0, none⟩ (.slice A147_0 ((iW l1 x12_1).f0).length c147_0)).setCell ⟨gb148, 1, none⟩ (.int .i64 ((iW l1 x12_1).f1)))) := ⟨by repeat (first | (with_reducible first | exact HB.out | apply iG | apply iD | apply iF | refine iE ?_ GE146.out | refine iE ?_ GE148.out) | exact HB.out)⟩
                    (try clear HO_7)
                    (try clear BK146)
                    (try clear BK148)
                    (try clear HB)
                    generalize ((w14.setCell ⟨gb148, 0, none⟩ (.slice A147_0 ((iW l1 x12_1).f0).length c147_0)).setCell ⟨gb148, 1, none⟩ (.int .i64 ((iW l1 x12_1).f1))) = w17 at n0_ n1_ n2_ n3_ ⊢
                    have HO_7 := n0_
                    have BK146 := n1_
                    have BK148 := n2_
                    have HB := n3_
                    clear n0_ n1_ n2_ n3_
                    have n0_ := iC.mk (Kd.R_drew HO_7.out)
                    have n1_ := iC.mk (iO BK146.out)
                    have n2_ := iC.mk (iO BK148.out)
                    have n3_ := iC.mk (iF HB.out)
                    clear HO_7
                    clear BK146
                    clear BK148
                    clear HB
                    have HO_7 := n0_
                    have BK146 := n1_
                    have BK148 := n2_
                    have HB := n3_
                    clear n0_ n1_ n2_ n3_
                    have p149 : 0 ≤ (0 : Int) := (by omega)
                    have q149 : 0 < (((iW l1 x12_1).f0).length : Int) := of_decide_eq_true asm_
                    obtain ⟨ad149, e149, hx149_0⟩ := Kd.at_int HR147_0.out 0 p149 q149
                    have hw149_0 := hx149_0
                    (try rw [show ((0 : Int)).toNat = 0 from rfl] at hw149_0)
                    (try rw [show 0 * 1 = 0 from rfl] at hw149_0)
                    (try rw [Addr.add_zero'] at hw149_0)
                    cases e149
                    have qi149 : (0 < ((iW l1 x12_1).f0).length) = True := eq_true (by omega)
                    (try rw [show ((0 : Int)).toNat = 0 from rfl] at hx149_0)
                    (try rw [Addr.add_zero'] at hx149_0)
                    replace hx149_0 := (HB.out.cell (World.block_lt_of_cell? w _ hx149_0)).trans hx149_0
                    replace p149 := eq_true p149
                    replace q149 := eq_true q149
                    refine kP (n := 14) (S := fun w' => w'.cell? ⟨gb148, 0, none⟩ = some (.slice (some ad149) ((iW l1 x12_1).f0).length c147_0) ∧ w'.cell? ⟨gb148, 1, none⟩ = some (.int .i64 ((iW l1 x12_1).f1)) ∧ w'.cell? ⟨gb146, 0, none⟩ = some (.int .u32 a0_0) ∧ w'.cell? ⟨gb146, 1, none⟩ = some (.slice A0_1 l0_1.length c0_1) ∧ w'.cell? ad149 = some (.int .i64 (rd ((iW l1 x12_1).f0) 0))) (ds := []) #[false, false, false, false, false, false, false, false, false, false, false, false, false, false] (by kernel_rfl) rfl rfl ⟨(iH BK148.out 0).trans rfl, (iH BK148.out 1).trans rfl, (iH BK146.out 0).trans rfl, (iH BK146.out 1).trans rfl, ((HB.out.cell (World.block_lt_of_cell? w _ hw149_0)).trans hw149_0)⟩ (fun hHeld => ?_); refine jV spans_Parts.tab5 spans_Parts.bits5 (fun HT_ HW_ => ?_)
                    generalize w17.drew = w18 at HO_7 BK146 BK148 HB hx149_0 hHeld ⊢
                    refine jA (i := 0) (N := some 16) (v := ?_) (a' := ?_) #[true, false, false, false, false, false, false, false, false, false, false, false, false, false] rfl rfl (iQ HT_.out (by kernel_rfl)) (fun _ _ _ h => h) (Or.inl ⟨by rfl, ?_⟩) ?_ ?_
                    rotate_left
                    · intro w'
                      go_simp
                      with_reducible rfl
                    rotate_left
                    · simp only [Act.put, List.setIfInBounds_toArray, List.set_cons_zero, List.set_cons_succ, iR, iT]
                      rfl
                    refine kF (i := 1) (N := some 17) (v := ?_) (a' := ?_) #[true, true, false, false, false, false, false, false, false, false, false, false, false, false] rfl rfl (jK HT_.out HW_.out (by kernel_rfl)) (fun _ _ _ h => h) (Or.inl ⟨by rfl, ?_⟩) hHeld ?_ ?_
                    rotate_left
                    · rintro w' ⟨s0, s1, s2, s3, s4⟩
                      go_simp
                      with_reducible rfl
                    rotate_left
                    · simp only [Act.put, List.setIfInBounds_toArray, List.set_cons_zero, List.set_cons_succ, iR, iT]
                      rfl
                    refine jA (i := 2) (N := some 18) (v := ?_) (a' := ?_) #[true, true, true, false, false, false, false, false, false, false, false, false, false, false] rfl rfl (iQ HT_.out (by kernel_rfl)) (fun _ _ _ h => h) (Or.inl ⟨by rfl, ?_⟩) ?_ ?_
                    rotate_left
                    · intro w'
                      go_simp
                      with_reducible rfl
                    rotate_left
                    · simp only [Act.put, List.setIfInBounds_toArray, List.set_cons_zero, List.set_cons_succ, iR, iT]
                      rfl
                    refine jA (i := 3) (N := some 19) (v := ?_) (a' := ?_) #[true, true, true, true, false, false, false, false, false, false, false, false, false, false] rfl rfl (iQ HT_.out (by kernel_rfl)) (fun _ _ _ h => h) (Or.inl ⟨by rfl, ?_⟩) ?_ ?_
                    rotate_left
                    · intro w'
                      go_simp
                      with_reducible rfl
                    rotate_left
                    · simp only [Act.put, List.setIfInBounds_toArray, List.set_cons_zero, List.set_cons_succ, iR, iT]
                      rfl
                    refine jA (i := 4) (N := some 20) (v := ?_) (a' := ?_) #[true, true, true, true, true, false, false, false, false, false, false, false, false, false] rfl rfl (iQ HT_.out (by kernel_rfl)) (fun _ _ _ h => h) (Or.inl ⟨by rfl, ?_⟩) ?_ ?_
                    rotate_left
                    · intro w'
                      go_simp
                      with_reducible rfl
                    rotate_left
                    · simp only [Act.put, List.setIfInBounds_toArray, List.set_cons_zero, List.set_cons_succ, iR, iT]
                      rfl
                    refine jA (i := 6) (N := some 22) (v := ?_) (a' := ?_) #[true, true, true, true, true, false, true, false, false, false, false, false, false, false] rfl rfl (iQ HT_.out (by kernel_rfl)) (fun _ _ _ h => h) (Or.inl ⟨by rfl, ?_⟩) ?_ ?_
                    rotate_left
                    · intro w'
                      go_simp
                      with_reducible rfl
                    rotate_left
                    · simp only [Act.put, List.setIfInBounds_toArray, List.set_cons_zero, List.set_cons_succ, iR, iT]
                      rfl
                    refine jA (i := 11) (N := some 27) (v := ?_) (a' := ?_) #[true, true, true, true, true, false, true, false, false, false, false, true, false, false] rfl rfl (iQ HT_.out (by kernel_rfl)) (fun _ _ _ h => h) (Or.inl ⟨by rfl, ?_⟩) ?_ ?_
                    rotate_left
                    · intro w'
                      go_simp
                      with_reducible rfl
                    rotate_left
                    · simp only [Act.put, List.setIfInBounds_toArray, List.set_cons_zero, List.set_cons_succ, iR, iT]
                      rfl
                    refine kF (i := 5) (N := some 21) (v := ?_) (a' := ?_) #[true, true, true, true, true, true, true, false, false, false, false, true, false, false] rfl rfl (jK HT_.out HW_.out (by kernel_rfl)) (fun _ _ _ h => h) (Or.inl ⟨by rfl, ?_⟩) hHeld ?_ ?_
                    rotate_left
                    · rintro w' ⟨s0, s1, s2, s3, s4⟩
                      go_simp
                      with_reducible rfl
                    rotate_left
                    · simp only [Act.put, List.setIfInBounds_toArray, List.set_cons_zero, List.set_cons_succ, iR, iT]
                      rfl
                    refine kF (i := 7) (N := some 23) (v := ?_) (a' := ?_) #[true, true, true, true, true, true, true, true, false, false, false, true, false, false] rfl rfl (jK HT_.out HW_.out (by kernel_rfl)) (fun _ _ _ h => h) (Or.inl ⟨by rfl, ?_⟩) hHeld ?_ ?_
                    rotate_left
                    · rintro w' ⟨s0, s1, s2, s3, s4⟩
                      go_simp
                      with_reducible rfl
                    rotate_left
                    · simp only [Act.put, List.setIfInBounds_toArray, List.set_cons_zero, List.set_cons_succ, iR, iT]
                      rfl
                    refine jA (i := 8) (N := some 24) (v := ?_) (a' := ?_) #[true, true, true, true, true, true, true, true, true, false, false, true, false, false] rfl rfl (iQ HT_.out (by kernel_rfl)) (fun _ _ _ h => h) (Or.inl ⟨by rfl, ?_⟩) ?_ ?_
                    rotate_left
                    · intro w'
                      go_simp
                      with_reducible rfl
                    rotate_left
                    · simp only [Act.put, List.setIfInBounds_toArray, List.set_cons_zero, List.set_cons_succ, iR, iT]
                      rfl
                    refine kF (i := 9) (N := some 25) (v := ?_) (a' := ?_) #[true, true, true, true, true, true, true, true, true, true, false, true, false, false] rfl rfl (jK HT_.out HW_.out (by kernel_rfl)) (fun _ _ _ h => h) (Or.inl ⟨by rfl, ?_⟩) hHeld ?_ ?_
                    rotate_left
                    · rintro w' ⟨s0, s1, s2, s3, s4⟩
                      go_simp
                      with_reducible rfl
                    rotate_left
                    · simp only [Act.put, List.setIfInBounds_toArray, List.set_cons_zero, List.set_cons_succ, iR, iT]
                      rfl
                    refine one_ (i := 10) (N := some 26) #[true, true, true, true, true, true, true, true, true, true, true, true, false, false] rfl rfl (jS HT_.out (by kernel_rfl)) (by decide) (fun K hK => ?_)
                    refine kK Try.func51 (by kernel_rfl) rfl #[.agg #[.int .u32 a0_0, .slice A0_1 l0_1.length c0_1], .int .i64 (rd ((iW l1 x12_1).f0) 0)] (by rfl) rfl rfl (by (try simp only [List.map_toArray, List.map_cons, List.map_nil]); first | done | rfl | (simp only [List.length_drop, List.length_take]; rfl)) ?_
                    with_reducible refine (spans_Find.calls a0_0 _ _ l0_1 (rd ((iW l1 x12_1).f0) 0) t150 _ ?side1 ?side2 A10.out).mono ?_
                    (case side1 => repeat (first | exact (Kd.C_below HR0_1.out HB.out) | (with_reducible refine Kd.C_alloc ?_ _) | (with_reducible refine Kd.C_drewN ?_ _) | (with_reducible refine Kd.C_drew ?_)))
                    (case side2 => exact HC0_1.out)
                    rintro e w19 ⟨rfl, hb⟩
                    refine ⟨_, rfl, ?_⟩
                    have n0_ := iC.mk (Kd.R_below (by (with_reducible repeat (first | apply Kd.R_alloc | apply Kd.R_drewN | apply Kd.R_drew)); exact HO_7.out) hb)
                    have n1_ := iC.mk (iP (g := gb146) (o := .cells #[.int .u32 a0_0, .slice A0_1 l0_1.length c0_1] 42 (0, 0)) (bk_ BK146.out) hb)
                    have n2_ := iC.mk (iP (g := gb148) (o := .cells #[.slice (some ad149) ((iW l1 x12_1).f0).length c147_0, .int .i64 ((iW l1 x12_1).f1)] 103 (0, 0)) (bk_ BK148.out) hb)
                    have n3_ := iC.mk (iM (by repeat (first | (with_reducible first | exact HB.out | apply iG | apply iD | apply iF | refine iE ?_ GE146.out | refine iE ?_ GE148.out) | exact HB.out)) hb)
                    clear HO_7
                    clear BK146
                    clear BK148
                    clear HB
                    have HO_7 := n0_
                    have BK146 := n1_
                    have BK148 := n2_
                    have HB := n3_
                    clear n0_ n1_ n2_ n3_
                    (try clear hb)
                    (try clear hb2)
                    (try clear hk)
                    (try clear hi)
                    refine hK.out _ _ ⟨(iH BK148.out 0).trans rfl, (iH BK148.out 1).trans rfl, (iH BK146.out 0).trans rfl, (iH BK146.out 1).trans rfl, ((HB.out.cell (World.block_lt_of_cell? w _ hw149_0)).trans hw149_0)⟩ (fun hHeld => ?_)
                    clear hK K
                    refine jT (a' := ?_) ?_ ?_
                    rotate_left
                    · show Act.put _ (some 26) _ = _
                      simp only [Act.put, List.setIfInBounds_toArray, List.set_cons_zero, List.set_cons_succ, iR, iT]
                      rfl
                    refine jA (i := 12) (N := some 28) (v := ?_) (a' := ?_) #[true, true, true, true, true, true, true, true, true, true, true, true, true, false] rfl rfl (iQ HT_.out (by kernel_rfl)) (fun _ _ _ h => h) (Or.inl ⟨by rfl, ?_⟩) ?_ ?_
                    rotate_left
                    · intro w'
                      go_simp
                      with_reducible rfl
                    rotate_left
                    · simp only [Act.put, List.setIfInBounds_toArray, List.set_cons_zero, List.set_cons_succ, iR, iT]
                      rfl
                    refine jA (i := 13) (N := some 29) (v := ?_) (a' := ?_) #[true, true, true, true, true, true, true, true, true, true, true, true, true, true] rfl rfl (iQ HT_.out (by kernel_rfl)) (fun _ _ _ h => h) (Or.inl ⟨by rfl, ?_⟩) ?_ ?_
                    rotate_left
                    · intro w'
                      go_simp
                      with_reducible rfl
                    rotate_left
                    · simp only [Act.put, List.setIfInBounds_toArray, List.set_cons_zero, List.set_cons_succ, iR, iT]
                      rfl
                    refine lT (kH HT_.out (by kernel_rfl)) ?_
                    try go_wp2
                    have n0_ := iC.mk (Kd.R_drew HO_7.out)
                    have n1_ := iC.mk (iO BK146.out)
                    have n2_ := iC.mk (iO BK148.out)
                    have n3_ := iC.mk (iF HB.out)
                    clear HO_7
                    clear BK146
                    clear BK148
                    clear HB
                    have HO_7 := n0_
                    have BK146 := n1_
                    have BK148 := n2_
                    have HB := n3_
                    clear n0_ n1_ n2_ n3_
                    refine kP (n := 10) (S := fun w' => w'.cell? ⟨gb148, 0, none⟩ = some (.slice (some ad149) ((iW l1 x12_1).f0).length c147_0) ∧ w'.cell? ⟨gb148, 1, none⟩ = some (.int .i64 ((iW l1 x12_1).f1))) (ds := []) #[false, false, false, false, false, false, false, false, false, false] (by kernel_rfl) rfl rfl ⟨(iH BK148.out 0).trans rfl, (iH BK148.out 1).trans rfl⟩ (fun hHeld => ?_); refine jV spans_Parts.tab6 spans_Parts.bits6 (fun HT_ HW_ => ?_)
                    generalize w19.drew = w20 at HO_7 BK146 BK148 HB hHeld ⊢
                    refine jA (i := 0) (N := some 30) (v := ?_) (a' := ?_) #[true, false, false, false, false, false, false, false, false, false] rfl rfl (iQ HT_.out (by kernel_rfl)) (fun _ _ _ h => h) (Or.inl ⟨by rfl, ?_⟩) ?_ ?_
                    rotate_left
                    · intro w'
                      go_simp
                      with_reducible rfl
                    rotate_left
                    · simp only [Act.put, List.setIfInBounds_toArray, List.set_cons_zero, List.set_cons_succ, iR, iT]
                      rfl
                    refine jA (i := 1) (N := some 31) (v := ?_) (a' := ?_) #[true, true, false, false, false, false, false, false, false, false] rfl rfl (iQ HT_.out (by kernel_rfl)) (fun _ _ _ h => h) (Or.inl ⟨by rfl, ?_⟩) ?_ ?_
                    rotate_left
                    · intro w'
                      go_simp
                      with_reducible rfl
                    rotate_left
                    · simp only [Act.put, List.setIfInBounds_toArray, List.set_cons_zero, List.set_cons_succ, iR, iT]
                      rfl
                    refine jA (i := 4) (N := some 34) (v := ?_) (a' := ?_) #[true, true, false, false, true, false, false, false, false, false] rfl rfl (iQ HT_.out (by kernel_rfl)) (fun _ _ _ h => h) (Or.inl ⟨by rfl, ?_⟩) ?_ ?_
                    rotate_left
                    · intro w'
                      go_simp
                      with_reducible rfl
                    rotate_left
                    · simp only [Act.put, List.setIfInBounds_toArray, List.set_cons_zero, List.set_cons_succ, iR, iT]
                      rfl
                    refine kF (i := 2) (N := some 32) (v := ?_) (a' := ?_) #[true, true, true, false, true, false, false, false, false, false] rfl rfl (jK HT_.out HW_.out (by kernel_rfl)) (fun _ _ _ h => h) (Or.inl ⟨by rfl, ?_⟩) hHeld ?_ ?_
                    rotate_left
                    · rintro w' ⟨s0, s1⟩
                      go_simp
                      with_reducible rfl
                    rotate_left
                    · simp only [Act.put, List.setIfInBounds_toArray, List.set_cons_zero, List.set_cons_succ, iR, iT]
                      rfl
                    refine kF (i := 5) (N := some 35) (v := ?_) (a' := ?_) #[true, true, true, false, true, true, false, false, false, false] rfl rfl (jK HT_.out HW_.out (by kernel_rfl)) (fun _ _ _ h => h) (Or.inl ⟨by rfl, ?_⟩) hHeld ?_ ?_
                    rotate_left
                    · rintro w' ⟨s0, s1⟩
                      go_simp
                      with_reducible rfl
                    rotate_left
                    · simp only [Act.put, List.setIfInBounds_toArray, List.set_cons_zero, List.set_cons_succ, iR, iT]
                      rfl
                    refine one_ (i := 3) (N := some 33) #[true, true, true, true, true, true, false, false, false, false] rfl rfl (jS HT_.out (by kernel_rfl)) (by decide) (fun K hK => ?_)
                    refine kK Try.func55 (by kernel_rfl) rfl #[.slice (some ad149) ((iW l1 x12_1).f0).length c147_0] (by rfl) rfl rfl (by (try simp only [List.map_toArray, List.map_cons, List.map_nil]); first | done | rfl | (simp only [List.length_drop, List.length_take]; rfl)) ?_
                    with_reducible refine (slices_Clone_int_int.calls _ _ ((iW l1 x12_1).f0) t151 _ ?side1 ?side2 A12.out).mono ?_
                    (case side1 => repeat (first | exact (Kd.C_below HR147_0.out HB.out) | (with_reducible refine Kd.C_alloc ?_ _) | (with_reducible refine Kd.C_drewN ?_ _) | (with_reducible refine Kd.C_drew ?_)))
                    (case side2 => exact HC147_0.out)
                    rintro e w21 ⟨v152, rfl, ho0, hb⟩
                    refine ⟨_, rfl, ?_⟩
                    have n0_ := iC.mk (Kd.R_elder' (by (with_reducible repeat (first | apply Kd.R_alloc | apply Kd.R_drewN | apply Kd.R_drew)); exact HO_7.out) (Kd.R_base ho0) hb)
                    have n1_ := iC.mk (Kd.R_lower ho0 (iJ (by repeat (first | (with_reducible first | exact HB.out | apply iG | apply iD | apply iF | refine iE ?_ GE146.out | refine iE ?_ GE148.out) | exact HB.out))))
                    have n2_ := iC.mk (iP (g := gb146) (o := .cells #[.int .u32 a0_0, .slice A0_1 l0_1.length c0_1] 42 (0, 0)) (bk_ BK146.out) hb)
                    have n3_ := iC.mk (iP (g := gb148) (o := .cells #[.slice (some ad149) ((iW l1 x12_1).f0).length c147_0, .int .i64 ((iW l1 x12_1).f1)] 103 (0, 0)) (bk_ BK148.out) hb)
                    have n4_ := iC.mk (iM (by repeat (first | (with_reducible first | exact HB.out | apply iG | apply iD | apply iF | refine iE ?_ GE146.out | refine iE ?_ GE148.out) | exact HB.out)) hb)
                    clear HO_7
                    clear BK146
                    clear BK148
                    clear HB
                    have HO_7 := n0_
                    have HO153 := n1_
                    have BK146 := n2_
                    have BK148 := n3_
                    have HB := n4_
                    clear n0_ n1_ n2_ n3_ n4_
                    (try clear hb)
                    (try clear hb2)
                    (try clear hk)
                    (try clear hi)
                    (try clear ho0)
                    obtain ⟨Ao22, co22, eo22⟩ := Kd.R_slice HO153.out
                    (first | subst eo22 | (injection eo22 with f1_ f2_ f3_; have f4_ := f1_.symm; have f5_ := f3_.symm; clear f1_ f2_ f3_; subst f4_; subst f5_))
                    refine hK.out _ _ ⟨(iH BK148.out 0).trans rfl, (iH BK148.out 1).trans rfl⟩ (fun hHeld => ?_)
                    clear hK K
                    refine jT (a' := ?_) ?_ ?_
                    rotate_left
                    · show Act.put _ (some 33) _ = _
                      simp only [Act.put, List.setIfInBounds_toArray, List.set_cons_zero, List.set_cons_succ, iR, iT]
                      rfl
                    refine jA (i := 6) (N := some 36) (v := ?_) (a' := ?_) #[true, true, true, true, true, true, true, false, false, false] rfl rfl (iQ HT_.out (by kernel_rfl)) (fun _ _ _ h => h) (Or.inl ⟨by rfl, ?_⟩) ?_ ?_
                    rotate_left
                    · intro w'
                      go_simp
                      with_reducible rfl
                    rotate_left
                    · simp only [Act.put, List.setIfInBounds_toArray, List.set_cons_zero, List.set_cons_succ, iR, iT]
                      rfl
                    refine one_ (i := 7) (N := some 37) #[true, true, true, true, true, true, true, true, false, false] rfl rfl (jS HT_.out (by kernel_rfl)) (by decide) (fun K hK => ?_)
                    refine nS (w1 := ?_) (v := ?_) (by rfl) rfl ?_ ?_
                    rotate_left 2
                    · go_simp
                      constructor
                      · rfl
                      · rfl
                    refine hK.out _ _ ⟨(iH (iK BK148.out _) 0).trans rfl, (iH (iK BK148.out _) 1).trans rfl⟩ (fun hHeld => ?_)
                    clear hK K
                    refine jT (a' := ?_) ?_ ?_
                    rotate_left
                    · show Act.put _ (some 37) _ = _
                      simp only [Act.put, List.setIfInBounds_toArray, List.set_cons_zero, List.set_cons_succ, iR, iT]
                      rfl
                    refine one_ (i := 8) (N := some 38) #[true, true, true, true, true, true, true, true, true, false] rfl rfl (jS HT_.out (by kernel_rfl)) (by decide) (fun K hK => ?_)
                    refine Kd.R_append_step k103 (w0 := w) w.heap.size (by rfl) (.tmp 30) (.tmp 37) 45 103 (.agg #[(.slice none 0 0), (.int .i64 0)]) 32 rfl Try.underlying45 qQ rfl (by decide) (by omega) u7 x7_1 (⟨t151, (iW l1 x12_1).f1⟩ : S103) [.slice Ao22 t151.length co22, .int .i64 ((iW l1 x12_1).f1)] (fun k_ => k_ ≠ gb148) (fun k_ => ((fun k_ => k_ ≠ gb148)) k_ ∧ some k_ ≠ (u7 : Value).ownBlock) rfl rfl ?aP (fun _ hk => hk) ?aF ?aO ?aB ?aS ?aL ?_
                    (case aP => exact rQ _ _ _ (⟨t151, (iW l1 x12_1).f1⟩ : S103) (Kd.R_mono (Kd.R_types (Kd.R_apart' (HO153.out) (Kd.R_typed HO_7.out) (by decide)) BK148.out (by decide)) (fun k_ hk => ⟨hk.2, hk.1.2⟩)))
                    (case aB => exact (by repeat (first | (with_reducible first | exact HB.out | apply iG | apply iD | apply iF | refine iE ?_ GE146.out | refine iE ?_ GE148.out) | exact HB.out)))
                    (case aF => exact (fun k_ hk => Kd.freshB (g := gb148) (o := .cells #[.slice (some ad149) ((iW l1 x12_1).f0).length c147_0, .int .i64 ((iW l1 x12_1).f1)] 103 (0, 0)) (bk_ BK148.out) k_ hk))
                    (case aO => exact (by (with_reducible repeat (first | apply Kd.R_alloc | apply Kd.R_drewN | apply Kd.R_drew)); exact Kd.R_mono HO_7.out (fun _ hk => hk.1)))
                    (case aS => exact (iJ (by repeat (first | (with_reducible first | exact HB.out | apply iG | apply iD | apply iF | refine iE ?_ GE146.out | refine iE ?_ GE148.out) | exact HB.out))))
                    (case aL => have := LMc13.out; omega)
                    intro v155 w23 ho hb hg hat
                    rw [← Ny154.out] at ho
                    have n0_ := iC.mk (jM (g := gb146) (o := .cells #[.int .u32 a0_0, .slice A0_1 l0_1.length c0_1] 42 (0, 0)) (bk_ BK146.out) hg (Kd.R_ne HO_7.out BK146.out (by decide)))
                    have n1_ := iC.mk (jM (g := gb148) (o := .cells #[.slice (some ad149) ((iW l1 x12_1).f0).length c147_0, .int .i64 ((iW l1 x12_1).f1)] 103 (0, 0)) (bk_ BK148.out) hg (Kd.R_away HO_7.out (fun _ hk => hk.1)))
                    have n2_ := iC.mk (hb)
                    have n3_ := iC.mk (ho)
                    clear BK146
                    clear BK148
                    clear HB
                    clear HO_7
                    clear HO153
                    have BK146 := n0_
                    have BK148 := n1_
                    have HB := n2_
                    have HO156 := n3_
                    clear n0_ n1_ n2_ n3_
                    clear ho hb hg hat
                    refine hK.out _ _ ⟨(iH BK148.out 0).trans rfl, (iH BK148.out 1).trans rfl⟩ (fun hHeld => ?_)
                    clear hK K
                    refine jT (a' := ?_) ?_ ?_
                    rotate_left
                    · show Act.put _ (some 38) _ = _
                      simp only [Act.put, List.setIfInBounds_toArray, List.set_cons_zero, List.set_cons_succ, iR, iT]
                      rfl
                    refine jA (i := 9) (N := some 7) (v := ?_) (a' := ?_) #[true, true, true, true, true, true, true, true, true, true] rfl rfl (iQ HT_.out (by kernel_rfl)) (fun _ _ _ h => h) (Or.inl ⟨by rfl, ?_⟩) ?_ ?_
                    rotate_left
                    · intro w'
                      go_simp
                      with_reducible rfl
                    rotate_left
                    · simp only [Act.put, List.setIfInBounds_toArray, List.set_cons_zero, List.set_cons_succ, iR, iT]
                      rfl
                    refine lT (kH HT_.out (by kernel_rfl)) ?_
                    try go_wp2
                    go_roundg k1
                    case measure => have := HK1.out; omega
                    case rel => exact ⟨(y154), (wrap64 (x12_1 + 1)), (by first | rfl | (simp; done) | (simp [*]; done)), H', ⟨by have := HK1.out; omega⟩, ⟨by (with_reducible repeat (first | apply Kd.R_alloc | apply Kd.R_drewN | apply Kd.R_drew)); exact Kd.R_mono HO156.out (fun _ hk => trivial)⟩, ⟨bk_ BK146.out⟩, ⟨by repeat (first | (with_reducible first | exact HB.out | apply iG | apply iD | apply iF | refine iE ?_ GE146.out | refine iE ?_ GE148.out) | exact HB.out)⟩⟩
                  · rw [if_neg c13] at H
                    exact absurd H (by simp)
                · rw [if_neg c11] at H
                  have c11b0 : (t150 == a2) = false := beq_eq_false_iff_ne.mpr c11
                  have c11b1 : (t150 != a2) = true := bne_iff_ne.mpr c11
                  have H' := iC.mk H
                  clear H
                  have p147 : 0 ≤ (x12_1 : Int) := of_decide_eq_true asm_
                  have q147 : x12_1 < (l1.length : Int) := of_decide_eq_true asm_
                  obtain ⟨ad147, A147_0, c147_0, e147, hx147_0, hx147_1, hl147_0, hi147_0⟩ := kN HR1.out x12_1 p147 q147
                  cases e147
                  replace hx147_0 := (HB.out.cell (World.block_lt_of_cell? w _ hx147_0)).trans hx147_0
                  replace hx147_1 := (HB.out.cell (World.block_lt_of_cell? w _ hx147_1)).trans hx147_1
                  have HR147_0 := iC.mk hi147_0
                  have HC147_0 := iC.mk hl147_0
                  clear hi147_0 hl147_0
                  replace p147 := eq_true p147
                  replace q147 := eq_true q147
                  try go_wp2_with (first | ((with_reducible refine jF (N := 9) rfl ?_); refine jD ?hg (N := 9) ?hd (cs := #[.slice none 0 0, .int .i64 0]) (t := 103) ?hr ?_; (case hd => rfl); (case hg => rfl); (case hr => first | (go_simp; done) | (go_simp; rfl)); intro gb148 hg w24 hbox hb; have n0_ := iC.mk (Kd.R_below (Kd.R_elderB (by (with_reducible repeat (first | apply Kd.R_alloc | apply Kd.R_drewN | apply Kd.R_drew)); exact HO_7.out) gb148 (Nat.le_of_eq hg.symm)) hb); have n1_ := iC.mk (iP (g := gb146) (o := .cells #[.int .u32 a0_0, .slice A0_1 l0_1.length c0_1] 42 (0, 0)) (bk_ BK146.out) hb); have n2_ := iC.mk (iM (by repeat (first | (with_reducible first | exact HB.out | apply iG | apply iD | apply iF | refine iE ?_ GE146.out) | exact HB.out)) hb); have n3_ := iC.mk (hbox); have n4_ := iC.mk ((by rw [hg]; exact (iJ (by repeat (first | (with_reducible first | exact HB.out | apply iG | apply iD | apply iF | refine iE ?_ GE146.out) | exact HB.out))) : w.heap.size ≤ gb148)); have n5_ := iC.mk ((by rw [hg]; exact (iJ (by repeat (first | (with_reducible first | exact HB.out | apply iG | apply iD | apply iF | refine iE ?_ GE146.out) | exact HB.out))) : w.heap.size ≤ gb148)); have n6_ := iC.mk ((by rw [hg]; exact Nat.ne_of_lt (jE (g := gb146) (o := .cells #[.int .u32 a0_0, .slice A0_1 l0_1.length c0_1] 42 (0, 0)) (bk_ BK146.out)) : gb146 ≠ gb148)); have n7_ := iC.mk ((by rw [hg]; exact Nat.ne_of_gt (jE (g := gb146) (o := .cells #[.int .u32 a0_0, .slice A0_1 l0_1.length c0_1] 42 (0, 0)) (bk_ BK146.out)) : gb148 ≠ gb146)); clear HO_7; clear BK146; clear HB; have HO_7 := n0_; have BK146 := n1_; have HB := n2_; have BK148 := n3_; have GW148 := n4_; have GE148 := n5_; have NB146_148 := n6_; have NB148_146 := n7_; clear n0_ n1_ n2_ n3_ n4_ n5_ n6_ n7_; clear hb hbox hg; have hnb25 := NB148_146.out; have hnc25 := NB146_148.out; have hcz26_0 : w24.cell? ⟨gb148, 0, none⟩ = some (.slice none 0 0) := (iH BK148.out 0).trans rfl; have hcz26_1 : w24.cell? ⟨gb148, 1, none⟩ = some (.int .i64 0) := (iH BK148.out 1).trans rfl; have hfz26_0 := iI BK148.out 0; have hfz26_1 := iI BK148.out 1))
                  have n0_ : iC (Kd.R k103 103 ((w24.setCell ⟨gb148, 0, none⟩ (.slice A147_0 ((iW l1 x12_1).f0).length c147_0)).setCell ⟨gb148, 1, none⟩ (.int .i64 ((iW l1 x12_1).f1))) w.heap.size (fun k_ => k_ ≠ gb148) u7 x7_1) := ⟨by (with_reducible repeat (first | apply Kd.R_alloc | apply Kd.R_drewN | apply Kd.R_drew)); exact Kd.R_mono (Kd.R_far (p := ⟨gb148, 1, none⟩) (Kd.R_far (p := ⟨gb148, 0, none⟩) (Kd.R_mono HO_7.out (fun k_ hk => (⟨hk, hk.2⟩ : _ ∧ k_ ≠ gb148))) (fun _ hk => hk.2) (.slice A147_0 ((iW l1 x12_1).f0).length c147_0)) (fun _ hk => hk.2) (.int .i64 ((iW l1 x12_1).f1))) (fun _ hk => hk.1.2)⟩
                  have n1_ : iC (((w24.setCell ⟨gb148, 0, none⟩ (.slice A147_0 ((iW l1 x12_1).f0).length c147_0)).setCell ⟨gb148, 1, none⟩ (.int .i64 ((iW l1 x12_1).f1))).heap[gb146]? = some (.cells #[.int .u32 a0_0, .slice A0_1 l0_1.length c0_1] 42 (0, 0))) := ⟨by (with_reducible repeat (first | refine iL ?_ _ | refine iO ?_ | refine iK ?_ _)); refine jI ?_ NB146_148.out _; (with_reducible repeat (first | refine iL ?_ _ | refine iO ?_ | refine iK ?_ _)); refine jI ?_ NB146_148.out _; (with_reducible repeat (first | refine iL ?_ _ | refine iO ?_ | refine iK ?_ _)); exact BK146.out⟩
                  have n2_ : iC (((w24.setCell ⟨gb148, 0, none⟩ (.slice A147_0 ((iW l1 x12_1).f0).length c147_0)).setCell ⟨gb148, 1, none⟩ (.int .i64 ((iW l1 x12_1).f1))).heap[gb148]? = some (.cells #[.slice A147_0 ((iW l1 x12_1).f0).length c147_0, .int .i64 ((iW l1 x12_1).f1)] 103 (0, 0))) := ⟨by (with_reducible repeat (first | refine iL ?_ _ | refine iO ?_ | refine iK ?_ _)); refine jC (cs := #[.slice A147_0 ((iW l1 x12_1).f0).length c147_0, .int .i64 0]) ?_ 1 _ rfl; (with_reducible repeat (first | refine iL ?_ _ | refine iO ?_ | refine iK ?_ _)); refine jC (cs := #[.slice none 0 0, .int .i64 0]) ?_ 0 _ rfl; (with_reducible repeat (first | refine iL ?_ _ | refine iO ?_ | refine iK ?_ _)); exact BK148.out⟩
                  have n3_ : iC (Below w.heap.size w ((w24.setCell ⟨gb148, 0, none⟩ (.slice A147_0 ((iW l1 x12_1).f0).length c147_0)).setCell ⟨gb148, 1, none⟩ (.int .i64 ((iW l1 x12_1).f1)))) := ⟨by repeat (first | (with_reducible first | exact HB.out | apply iG | apply iD | apply iF | refine iE ?_ GE146.out | refine iE ?_ GE148.out) | exact HB.out)⟩
                  (try clear HO_7)
                  (try clear BK146)
                  (try clear BK148)
                  (try clear HB)
                  generalize ((w24.setCell ⟨gb148, 0, none⟩ (.slice A147_0 ((iW l1 x12_1).f0).length c147_0)).setCell ⟨gb148, 1, none⟩ (.int .i64 ((iW l1 x12_1).f1))) = w27 at n0_ n1_ n2_ n3_ ⊢
                  have HO_7 := n0_
                  have BK146 := n1_
                  have BK148 := n2_
                  have HB := n3_
                  clear n0_ n1_ n2_ n3_
                  have n0_ := iC.mk (Kd.R_drew HO_7.out)
                  have n1_ := iC.mk (iO BK146.out)
                  have n2_ := iC.mk (iO BK148.out)
                  have n3_ := iC.mk (iF HB.out)
                  clear HO_7
                  clear BK146
                  clear BK148
                  clear HB
                  have HO_7 := n0_
                  have BK146 := n1_
                  have BK148 := n2_
                  have HB := n3_
                  clear n0_ n1_ n2_ n3_
                  have p149 : 0 ≤ (0 : Int) := (by omega)
                  have q149 : 0 < (((iW l1 x12_1).f0).length : Int) := of_decide_eq_true asm_
                  obtain ⟨ad149, e149, hx149_0⟩ := Kd.at_int HR147_0.out 0 p149 q149
                  have hw149_0 := hx149_0
                  (try rw [show ((0 : Int)).toNat = 0 from rfl] at hw149_0)
                  (try rw [show 0 * 1 = 0 from rfl] at hw149_0)
                  (try rw [Addr.add_zero'] at hw149_0)
                  cases e149
                  have qi149 : (0 < ((iW l1 x12_1).f0).length) = True := eq_true (by omega)
                  (try rw [show ((0 : Int)).toNat = 0 from rfl] at hx149_0)
                  (try rw [Addr.add_zero'] at hx149_0)
                  replace hx149_0 := (HB.out.cell (World.block_lt_of_cell? w _ hx149_0)).trans hx149_0
                  replace p149 := eq_true p149
                  replace q149 := eq_true q149
                  refine kP (n := 14) (S := fun w' => w'.cell? ⟨gb148, 0, none⟩ = some (.slice (some ad149) ((iW l1 x12_1).f0).length c147_0) ∧ w'.cell? ⟨gb148, 1, none⟩ = some (.int .i64 ((iW l1 x12_1).f1)) ∧ w'.cell? ⟨gb146, 0, none⟩ = some (.int .u32 a0_0) ∧ w'.cell? ⟨gb146, 1, none⟩ = some (.slice A0_1 l0_1.length c0_1) ∧ w'.cell? ad149 = some (.int .i64 (rd ((iW l1 x12_1).f0) 0))) (ds := []) #[false, false, false, false, false, false, false, false, false, false, false, false, false, false] (by kernel_rfl) rfl rfl ⟨(iH BK148.out 0).trans rfl, (iH BK148.out 1).trans rfl, (iH BK146.out 0).trans rfl, (iH BK146.out 1).trans rfl, ((HB.out.cell (World.block_lt_of_cell? w _ hw149_0)).trans hw149_0)⟩ (fun hHeld => ?_); refine jV spans_Parts.tab5 spans_Parts.bits5 (fun HT_ HW_ => ?_)
                  generalize w27.drew = w28 at HO_7 BK146 BK148 HB hx149_0 hHeld ⊢
                  refine jA (i := 0) (N := some 16) (v := ?_) (a' := ?_) #[true, false, false, false, false, false, false, false, false, false, false, false, false, false] rfl rfl (iQ HT_.out (by kernel_rfl)) (fun _ _ _ h => h) (Or.inl ⟨by rfl, ?_⟩) ?_ ?_
                  rotate_left
                  · intro w'
                    go_simp
                    with_reducible rfl
                  rotate_left
                  · simp only [Act.put, List.setIfInBounds_toArray, List.set_cons_zero, List.set_cons_succ, iR, iT]
                    rfl
                  refine kF (i := 1) (N := some 17) (v := ?_) (a' := ?_) #[true, true, false, false, false, false, false, false, false, false, false, false, false, false] rfl rfl (jK HT_.out HW_.out (by kernel_rfl)) (fun _ _ _ h => h) (Or.inl ⟨by rfl, ?_⟩) hHeld ?_ ?_
                  rotate_left
                  · rintro w' ⟨s0, s1, s2, s3, s4⟩
                    go_simp
                    with_reducible rfl
                  rotate_left
                  · simp only [Act.put, List.setIfInBounds_toArray, List.set_cons_zero, List.set_cons_succ, iR, iT]
                    rfl
                  refine jA (i := 2) (N := some 18) (v := ?_) (a' := ?_) #[true, true, true, false, false, false, false, false, false, false, false, false, false, false] rfl rfl (iQ HT_.out (by kernel_rfl)) (fun _ _ _ h => h) (Or.inl ⟨by rfl, ?_⟩) ?_ ?_
                  rotate_left
                  · intro w'
                    go_simp
                    with_reducible rfl
                  rotate_left
                  · simp only [Act.put, List.setIfInBounds_toArray, List.set_cons_zero, List.set_cons_succ, iR, iT]
                    rfl
                  refine jA (i := 3) (N := some 19) (v := ?_) (a' := ?_) #[true, true, true, true, false, false, false, false, false, false, false, false, false, false] rfl rfl (iQ HT_.out (by kernel_rfl)) (fun _ _ _ h => h) (Or.inl ⟨by rfl, ?_⟩) ?_ ?_
                  rotate_left
                  · intro w'
                    go_simp
                    with_reducible rfl
                  rotate_left
                  · simp only [Act.put, List.setIfInBounds_toArray, List.set_cons_zero, List.set_cons_succ, iR, iT]
                    rfl
                  refine jA (i := 4) (N := some 20) (v := ?_) (a' := ?_) #[true, true, true, true, true, false, false, false, false, false, false, false, false, false] rfl rfl (iQ HT_.out (by kernel_rfl)) (fun _ _ _ h => h) (Or.inl ⟨by rfl, ?_⟩) ?_ ?_
                  rotate_left
                  · intro w'
                    go_simp
                    with_reducible rfl
                  rotate_left
                  · simp only [Act.put, List.setIfInBounds_toArray, List.set_cons_zero, List.set_cons_succ, iR, iT]
                    rfl
                  refine jA (i := 6) (N := some 22) (v := ?_) (a' := ?_) #[true, true, true, true, true, false, true, false, false, false, false, false, false, false] rfl rfl (iQ HT_.out (by kernel_rfl)) (fun _ _ _ h => h) (Or.inl ⟨by rfl, ?_⟩) ?_ ?_
                  rotate_left
                  · intro w'
                    go_simp
                    with_reducible rfl
                  rotate_left
                  · simp only [Act.put, List.setIfInBounds_toArray, List.set_cons_zero, List.set_cons_succ, iR, iT]
                    rfl
                  refine jA (i := 11) (N := some 27) (v := ?_) (a' := ?_) #[true, true, true, true, true, false, true, false, false, false, false, true, false, false] rfl rfl (iQ HT_.out (by kernel_rfl)) (fun _ _ _ h => h) (Or.inl ⟨by rfl, ?_⟩) ?_ ?_
                  rotate_left
                  · intro w'
                    go_simp
                    with_reducible rfl
                  rotate_left
                  · simp only [Act.put, List.setIfInBounds_toArray, List.set_cons_zero, List.set_cons_succ, iR, iT]
                    rfl
                  refine kF (i := 5) (N := some 21) (v := ?_) (a' := ?_) #[true, true, true, true, true, true, true, false, false, false, false, true, false, false] rfl rfl (jK HT_.out HW_.out (by kernel_rfl)) (fun _ _ _ h => h) (Or.inl ⟨by rfl, ?_⟩) hHeld ?_ ?_
                  rotate_left
                  · rintro w' ⟨s0, s1, s2, s3, s4⟩
                    go_simp
                    with_reducible rfl
                  rotate_left
                  · simp only [Act.put, List.setIfInBounds_toArray, List.set_cons_zero, List.set_cons_succ, iR, iT]
                    rfl
                  refine kF (i := 7) (N := some 23) (v := ?_) (a' := ?_) #[true, true, true, true, true, true, true, true, false, false, false, true, false, false] rfl rfl (jK HT_.out HW_.out (by kernel_rfl)) (fun _ _ _ h => h) (Or.inl ⟨by rfl, ?_⟩) hHeld ?_ ?_
                  rotate_left
                  · rintro w' ⟨s0, s1, s2, s3, s4⟩
                    go_simp
                    with_reducible rfl
                  rotate_left
                  · simp only [Act.put, List.setIfInBounds_toArray, List.set_cons_zero, List.set_cons_succ, iR, iT]
                    rfl
                  refine jA (i := 8) (N := some 24) (v := ?_) (a' := ?_) #[true, true, true, true, true, true, true, true, true, false, false, true, false, false] rfl rfl (iQ HT_.out (by kernel_rfl)) (fun _ _ _ h => h) (Or.inl ⟨by rfl, ?_⟩) ?_ ?_
                  rotate_left
                  · intro w'
                    go_simp
                    with_reducible rfl
                  rotate_left
                  · simp only [Act.put, List.setIfInBounds_toArray, List.set_cons_zero, List.set_cons_succ, iR, iT]
                    rfl
                  refine kF (i := 9) (N := some 25) (v := ?_) (a' := ?_) #[true, true, true, true, true, true, true, true, true, true, false, true, false, false] rfl rfl (jK HT_.out HW_.out (by kernel_rfl)) (fun _ _ _ h => h) (Or.inl ⟨by rfl, ?_⟩) hHeld ?_ ?_
                  rotate_left
                  · rintro w' ⟨s0, s1, s2, s3, s4⟩
                    go_simp
                    with_reducible rfl
                  rotate_left
                  · simp only [Act.put, List.setIfInBounds_toArray, List.set_cons_zero, List.set_cons_succ, iR, iT]
                    rfl
                  refine one_ (i := 10) (N := some 26) #[true, true, true, true, true, true, true, true, true, true, true, true, false, false] rfl rfl (jS HT_.out (by kernel_rfl)) (by decide) (fun K hK => ?_)
                  refine kK Try.func51 (by kernel_rfl) rfl #[.agg #[.int .u32 a0_0, .slice A0_1 l0_1.length c0_1], .int .i64 (rd ((iW l1 x12_1).f0) 0)] (by rfl) rfl rfl (by (try simp only [List.map_toArray, List.map_cons, List.map_nil]); first | done | rfl | (simp only [List.length_drop, List.length_take]; rfl)) ?_
                  with_reducible refine (spans_Find.calls a0_0 _ _ l0_1 (rd ((iW l1 x12_1).f0) 0) t150 _ ?side1 ?side2 A10.out).mono ?_
                  (case side1 => repeat (first | exact (Kd.C_below HR0_1.out HB.out) | (with_reducible refine Kd.C_alloc ?_ _) | (with_reducible refine Kd.C_drewN ?_ _) | (with_reducible refine Kd.C_drew ?_)))
                  (case side2 => exact HC0_1.out)
                  rintro e w29 ⟨rfl, hb⟩
                  refine ⟨_, rfl, ?_⟩
                  have n0_ := iC.mk (Kd.R_below (by (with_reducible repeat (first | apply Kd.R_alloc | apply Kd.R_drewN | apply Kd.R_drew)); exact HO_7.out) hb)
                  have n1_ := iC.mk (iP (g := gb146) (o := .cells #[.int .u32 a0_0, .slice A0_1 l0_1.length c0_1] 42 (0, 0)) (bk_ BK146.out) hb)
                  have n2_ := iC.mk (iP (g := gb148) (o := .cells #[.slice (some ad149) ((iW l1 x12_1).f0).length c147_0, .int .i64 ((iW l1 x12_1).f1)] 103 (0, 0)) (bk_ BK148.out) hb)
                  have n3_ := iC.mk (iM (by repeat (first | (with_reducible first | exact HB.out | apply iG | apply iD | apply iF | refine iE ?_ GE146.out | refine iE ?_ GE148.out) | exact HB.out)) hb)
                  clear HO_7
                  clear BK146
                  clear BK148
                  clear HB
                  have HO_7 := n0_
                  have BK146 := n1_
                  have BK148 := n2_
                  have HB := n3_
                  clear n0_ n1_ n2_ n3_
                  (try clear hb)
                  (try clear hb2)
                  (try clear hk)
                  (try clear hi)
                  refine hK.out _ _ ⟨(iH BK148.out 0).trans rfl, (iH BK148.out 1).trans rfl, (iH BK146.out 0).trans rfl, (iH BK146.out 1).trans rfl, ((HB.out.cell (World.block_lt_of_cell? w _ hw149_0)).trans hw149_0)⟩ (fun hHeld => ?_)
                  clear hK K
                  refine jT (a' := ?_) ?_ ?_
                  rotate_left
                  · show Act.put _ (some 26) _ = _
                    simp only [Act.put, List.setIfInBounds_toArray, List.set_cons_zero, List.set_cons_succ, iR, iT]
                    rfl
                  refine jA (i := 12) (N := some 28) (v := ?_) (a' := ?_) #[true, true, true, true, true, true, true, true, true, true, true, true, true, false] rfl rfl (iQ HT_.out (by kernel_rfl)) (fun _ _ _ h => h) (Or.inl ⟨by rfl, ?_⟩) ?_ ?_
                  rotate_left
                  · intro w'
                    go_simp
                    with_reducible rfl
                  rotate_left
                  · simp only [Act.put, List.setIfInBounds_toArray, List.set_cons_zero, List.set_cons_succ, iR, iT]
                    rfl
                  refine jA (i := 13) (N := some 29) (v := ?_) (a' := ?_) #[true, true, true, true, true, true, true, true, true, true, true, true, true, true] rfl rfl (iQ HT_.out (by kernel_rfl)) (fun _ _ _ h => h) (Or.inl ⟨by rfl, ?_⟩) ?_ ?_
                  rotate_left
                  · intro w'
                    go_simp
                    with_reducible rfl
                  rotate_left
                  · simp only [Act.put, List.setIfInBounds_toArray, List.set_cons_zero, List.set_cons_succ, iR, iT]
                    rfl
                  refine lT (kH HT_.out (by kernel_rfl)) ?_
                  try go_wp2
                  go_roundg k1
                  case measure => have := HK1.out; omega
                  case rel => exact ⟨(x7_1), (wrap64 (x12_1 + 1)), (by first | rfl | (simp; done) | (simp [*]; done)), H', ⟨by have := HK1.out; omega⟩, ⟨by (with_reducible repeat (first | apply Kd.R_alloc | apply Kd.R_drewN | apply Kd.R_drew)); exact Kd.R_mono HO_7.out (fun _ hk => trivial)⟩, ⟨bk_ BK146.out⟩, ⟨by repeat (first | (with_reducible first | exact HB.out | apply iG | apply iD | apply iF | refine iE ?_ GE146.out | refine iE ?_ GE148.out) | exact HB.out)⟩⟩
              · rw [if_neg c9] at H
                exact absurd H (by simp)
            · rw [if_neg c8] at H
              have c8b0 : decide (0 < (((iW l1 x12_1).f0).length : Int)) = false := decide_eq_false c8
              have c8b1 : decide (0 < ((iW l1 x12_1).f0).length) = false := decide_eq_false (by omega)
              clear c8
              have H' := iC.mk H
              clear H
              have p147 : 0 ≤ (x12_1 : Int) := of_decide_eq_true asm_
              have q147 : x12_1 < (l1.length : Int) := of_decide_eq_true asm_
              obtain ⟨ad147, A147_0, c147_0, e147, hx147_0, hx147_1, hl147_0, hi147_0⟩ := kN HR1.out x12_1 p147 q147
              cases e147
              replace hx147_0 := (HB.out.cell (World.block_lt_of_cell? w _ hx147_0)).trans hx147_0
              replace hx147_1 := (HB.out.cell (World.block_lt_of_cell? w _ hx147_1)).trans hx147_1
              have HR147_0 := iC.mk hi147_0
              have HC147_0 := iC.mk hl147_0
              clear hi147_0 hl147_0
              replace p147 := eq_true p147
              replace q147 := eq_true q147
              try go_wp2_with (first | ((with_reducible refine jF (N := 9) rfl ?_); refine jD ?hg (N := 9) ?hd (cs := #[.slice none 0 0, .int .i64 0]) (t := 103) ?hr ?_; (case hd => rfl); (case hg => rfl); (case hr => first | (go_simp; done) | (go_simp; rfl)); intro gb148 hg w30 hbox hb; have n0_ := iC.mk (Kd.R_below (Kd.R_elderB (by (with_reducible repeat (first | apply Kd.R_alloc | apply Kd.R_drewN | apply Kd.R_drew)); exact HO_7.out) gb148 (Nat.le_of_eq hg.symm)) hb); have n1_ := iC.mk (iP (g := gb146) (o := .cells #[.int .u32 a0_0, .slice A0_1 l0_1.length c0_1] 42 (0, 0)) (bk_ BK146.out) hb); have n2_ := iC.mk (iM (by repeat (first | (with_reducible first | exact HB.out | apply iG | apply iD | apply iF | refine iE ?_ GE146.out) | exact HB.out)) hb); have n3_ := iC.mk (hbox); have n4_ := iC.mk ((by rw [hg]; exact (iJ (by repeat (first | (with_reducible first | exact HB.out | apply iG | apply iD | apply iF | refine iE ?_ GE146.out) | exact HB.out))) : w.heap.size ≤ gb148)); have n5_ := iC.mk ((by rw [hg]; exact (iJ (by repeat (first | (with_reducible first | exact HB.out | apply iG | apply iD | apply iF | refine iE ?_ GE146.out) | exact HB.out))) : w.heap.size ≤ gb148)); have n6_ := iC.mk ((by rw [hg]; exact Nat.ne_of_lt (jE (g := gb146) (o := .cells #[.int .u32 a0_0, .slice A0_1 l0_1.length c0_1] 42 (0, 0)) (bk_ BK146.out)) : gb146 ≠ gb148)); have n7_ := iC.mk ((by rw [hg]; exact Nat.ne_of_gt (jE (g := gb146) (o := .cells #[.int .u32 a0_0, .slice A0_1 l0_1.length c0_1] 42 (0, 0)) (bk_ BK146.out)) : gb148 ≠ gb146)); clear HO_7; clear BK146; clear HB; have HO_7 := n0_; have BK146 := n1_; have HB := n2_; have BK148 := n3_; have GW148 := n4_; have GE148 := n5_; have NB146_148 := n6_; have NB148_146 := n7_; clear n0_ n1_ n2_ n3_ n4_ n5_ n6_ n7_; clear hb hbox hg; have hnb31 := NB148_146.out; have hnc31 := NB146_148.out; have hcz32_0 : w30.cell? ⟨gb148, 0, none⟩ = some (.slice none 0 0) := (iH BK148.out 0).trans rfl; have hcz32_1 : w30.cell? ⟨gb148, 1, none⟩ = some (.int .i64 0) := (iH BK148.out 1).trans rfl; have hfz32_0 := iI BK148.out 0; have hfz32_1 := iI BK148.out 1))
              have n0_ : iC (Kd.R k103 103 ((w30.setCell ⟨gb148, 0, none⟩ (.slice A147_0 ((iW l1 x12_1).f0).length c147_0)).setCell ⟨gb148, 1, none⟩ (.int .i64 ((iW l1 x12_1).f1))) w.heap.size (fun k_ => k_ ≠ gb148) u7 x7_1) := ⟨by (with_reducible repeat (first | apply Kd.R_alloc | apply Kd.R_drewN | apply Kd.R_drew)); exact Kd.R_mono (Kd.R_far (p := ⟨gb148, 1, none⟩) (Kd.R_far (p := ⟨gb148, 0, none⟩) (Kd.R_mono HO_7.out (fun k_ hk => (⟨hk, hk.2⟩ : _ ∧ k_ ≠ gb148))) (fun _ hk => hk.2) (.slice A147_0 ((iW l1 x12_1).f0).length c147_0)) (fun _ hk => hk.2) (.int .i64 ((iW l1 x12_1).f1))) (fun _ hk => hk.1.2)⟩
              have n1_ : iC (((w30.setCell ⟨gb148, 0, none⟩ (.slice A147_0 ((iW l1 x12_1).f0).length c147_0)).setCell ⟨gb148, 1, none⟩ (.int .i64 ((iW l1 x12_1).f1))).heap[gb146]? = some (.cells #[.int .u32 a0_0, .slice A0_1 l0_1.length c0_1] 42 (0, 0))) := ⟨by (with_reducible repeat (first | refine iL ?_ _ | refine iO ?_ | refine iK ?_ _)); refine jI ?_ NB146_148.out _; (with_reducible repeat (first | refine iL ?_ _ | refine iO ?_ | refine iK ?_ _)); refine jI ?_ NB146_148.out _; (with_reducible repeat (first | refine iL ?_ _ | refine iO ?_ | refine iK ?_ _)); exact BK146.out⟩
              have n2_ : iC (((w30.setCell ⟨gb148, 0, none⟩ (.slice A147_0 ((iW l1 x12_1).f0).length c147_0)).setCell ⟨gb148, 1, none⟩ (.int .i64 ((iW l1 x12_1).f1))).heap[gb148]? = some (.cells #[.slice A147_0 ((iW l1 x12_1).f0).length c147_0, .int .i64 ((iW l1 x12_1).f1)] 103 (0, 0))) := ⟨by (with_reducible repeat (first | refine iL ?_ _ | refine iO ?_ | refine iK ?_ _)); refine jC (cs := #[.slice A147_0 ((iW l1 x12_1).f0).length c147_0, .int .i64 0]) ?_ 1 _ rfl; (with_reducible repeat (first | refine iL ?_ _ | refine iO ?_ | refine iK ?_ _)); refine jC (cs := #[.slice none 0 0, .int .i64 0]) ?_ 0 _ rfl; (with_reducible repeat (first | refine iL ?_ _ | refine iO ?_ | refine iK ?_ _)); exact BK148.out⟩
              have n3_ : iC (Below w.heap.size w ((w30.setCell ⟨gb148, 0, none⟩ (.slice A147_0 ((iW l1 x12_1).f0).length c147_0)).setCell ⟨gb148, 1, none⟩ (.int .i64 ((iW l1 x12_1).f1)))) := ⟨by repeat (first | (with_reducible first | exact HB.out | apply iG | apply iD | apply iF | refine iE ?_ GE146.out | refine iE ?_ GE148.out) | exact HB.out)⟩
              (try clear HO_7)
              (try clear BK146)
              (try clear BK148)
              (try clear HB)
              generalize ((w30.setCell ⟨gb148, 0, none⟩ (.slice A147_0 ((iW l1 x12_1).f0).length c147_0)).setCell ⟨gb148, 1, none⟩ (.int .i64 ((iW l1 x12_1).f1))) = w33 at n0_ n1_ n2_ n3_ ⊢
              have HO_7 := n0_
              have BK146 := n1_
              have BK148 := n2_
              have HB := n3_
              clear n0_ n1_ n2_ n3_
              have n0_ := iC.mk (Kd.R_drew HO_7.out)
              have n1_ := iC.mk (iO BK146.out)
              have n2_ := iC.mk (iO BK148.out)
              have n3_ := iC.mk (iF HB.out)
              clear HO_7
              clear BK146
              clear BK148
              clear HB
              have HO_7 := n0_
              have BK146 := n1_
              have BK148 := n2_
              have HB := n3_
              clear n0_ n1_ n2_ n3_
              refine kP (n := 14) (S := fun w' => w'.cell? ⟨gb148, 0, none⟩ = some (.slice A147_0 ((iW l1 x12_1).f0).length c147_0) ∧ w'.cell? ⟨gb148, 1, none⟩ = some (.int .i64 ((iW l1 x12_1).f1))) (ds := []) #[false, false, false, false, false, false, false, false, false, false, false, false, false, false] (by kernel_rfl) rfl rfl ⟨(iH BK148.out 0).trans rfl, (iH BK148.out 1).trans rfl⟩ (fun hHeld => ?_); refine jV spans_Parts.tab5 spans_Parts.bits5 (fun HT_ HW_ => ?_)
              generalize w33.drew = w34 at HO_7 BK146 BK148 HB hHeld ⊢
              refine jA (i := 0) (N := some 16) (v := ?_) (a' := ?_) #[true, false, false, false, false, false, false, false, false, false, false, false, false, false] rfl rfl (iQ HT_.out (by kernel_rfl)) (fun _ _ _ h => h) (Or.inl ⟨by rfl, ?_⟩) ?_ ?_
              rotate_left
              · intro w'
                go_simp
                with_reducible rfl
              rotate_left
              · simp only [Act.put, List.setIfInBounds_toArray, List.set_cons_zero, List.set_cons_succ, iR, iT]
                rfl
              refine kF (i := 1) (N := some 17) (v := ?_) (a' := ?_) #[true, true, false, false, false, false, false, false, false, false, false, false, false, false] rfl rfl (jK HT_.out HW_.out (by kernel_rfl)) (fun _ _ _ h => h) (Or.inl ⟨by rfl, ?_⟩) hHeld ?_ ?_
              rotate_left
              · rintro w' ⟨s0, s1⟩
                go_simp
                with_reducible rfl
              rotate_left
              · simp only [Act.put, List.setIfInBounds_toArray, List.set_cons_zero, List.set_cons_succ, iR, iT]
                rfl
              refine jA (i := 2) (N := some 18) (v := ?_) (a' := ?_) #[true, true, true, false, false, false, false, false, false, false, false, false, false, false] rfl rfl (iQ HT_.out (by kernel_rfl)) (fun _ _ _ h => h) (Or.inl ⟨by rfl, ?_⟩) ?_ ?_
              rotate_left
              · intro w'
                go_simp
                with_reducible rfl
              rotate_left
              · simp only [Act.put, List.setIfInBounds_toArray, List.set_cons_zero, List.set_cons_succ, iR, iT]
                rfl
              refine jA (i := 3) (N := some 19) (v := ?_) (a' := ?_) #[true, true, true, true, false, false, false, false, false, false, false, false, false, false] rfl rfl (iQ HT_.out (by kernel_rfl)) (fun _ _ _ h => h) (Or.inl ⟨by rfl, ?_⟩) ?_ ?_
              rotate_left
              · intro w'
                go_simp
                with_reducible rfl
              rotate_left
              · simp only [Act.put, List.setIfInBounds_toArray, List.set_cons_zero, List.set_cons_succ, iR, iT]
                rfl
              refine jA (i := 4) (N := some 20) (v := ?_) (a' := ?_) #[true, true, true, true, true, false, false, false, false, false, false, false, false, false] rfl rfl (iQ HT_.out (by kernel_rfl)) (fun _ _ _ h => h) (Or.inl ⟨by rfl, ?_⟩) ?_ ?_
              rotate_left
              · intro w'
                go_simp
                with_reducible rfl
              rotate_left
              · simp only [Act.put, List.setIfInBounds_toArray, List.set_cons_zero, List.set_cons_succ, iR, iT]
                rfl
              refine jA (i := 5) (N := some 21) (v := undef) (a' := ?_) #[true, true, true, true, true, true, false, false, false, false, false, false, false, false] rfl rfl (iQ HT_.out (by kernel_rfl)) (fun _ _ _ h => h) (Or.inr ⟨by rfl, rfl⟩) ?_ ?_
              rotate_left
              · simp only [Act.put, List.setIfInBounds_toArray, List.set_cons_zero, List.set_cons_succ, iR, iT]
                rfl
              refine jA (i := 6) (N := some 22) (v := undef) (a' := ?_) #[true, true, true, true, true, true, true, false, false, false, false, false, false, false] rfl rfl (iQ HT_.out (by kernel_rfl)) (fun _ _ _ h => h) (Or.inr ⟨by rfl, rfl⟩) ?_ ?_
              rotate_left
              · simp only [Act.put, List.setIfInBounds_toArray, List.set_cons_zero, List.set_cons_succ, iR, iT]
                rfl
              refine jA (i := 7) (N := some 23) (v := undef) (a' := ?_) #[true, true, true, true, true, true, true, true, false, false, false, false, false, false] rfl rfl (iQ HT_.out (by kernel_rfl)) (fun _ _ _ h => h) (Or.inr ⟨by rfl, rfl⟩) ?_ ?_
              rotate_left
              · simp only [Act.put, List.setIfInBounds_toArray, List.set_cons_zero, List.set_cons_succ, iR, iT]
                rfl
              refine jA (i := 8) (N := some 24) (v := undef) (a' := ?_) #[true, true, true, true, true, true, true, true, true, false, false, false, false, false] rfl rfl (iQ HT_.out (by kernel_rfl)) (fun _ _ _ h => h) (Or.inr ⟨by rfl, rfl⟩) ?_ ?_
              rotate_left
              · simp only [Act.put, List.setIfInBounds_toArray, List.set_cons_zero, List.set_cons_succ, iR, iT]
                rfl
              refine jA (i := 9) (N := some 25) (v := undef) (a' := ?_) #[true, true, true, true, true, true, true, true, true, true, false, false, false, false] rfl rfl (iQ HT_.out (by kernel_rfl)) (fun _ _ _ h => h) (Or.inr ⟨by rfl, rfl⟩) ?_ ?_
              rotate_left
              · simp only [Act.put, List.setIfInBounds_toArray, List.set_cons_zero, List.set_cons_succ, iR, iT]
                rfl
              refine jA (i := 10) (N := some 26) (v := undef) (a' := ?_) #[true, true, true, true, true, true, true, true, true, true, true, false, false, false] rfl rfl (iQ HT_.out (by kernel_rfl)) (fun _ _ _ h => h) (Or.inr ⟨by rfl, rfl⟩) ?_ ?_
              rotate_left
              · simp only [Act.put, List.setIfInBounds_toArray, List.set_cons_zero, List.set_cons_succ, iR, iT]
                rfl
              refine jA (i := 11) (N := some 27) (v := undef) (a' := ?_) #[true, true, true, true, true, true, true, true, true, true, true, true, false, false] rfl rfl (iQ HT_.out (by kernel_rfl)) (fun _ _ _ h => h) (Or.inr ⟨by rfl, rfl⟩) ?_ ?_
              rotate_left
              · simp only [Act.put, List.setIfInBounds_toArray, List.set_cons_zero, List.set_cons_succ, iR, iT]
                rfl
              refine jA (i := 12) (N := some 28) (v := undef) (a' := ?_) #[true, true, true, true, true, true, true, true, true, true, true, true, true, false] rfl rfl (iQ HT_.out (by kernel_rfl)) (fun _ _ _ h => h) (Or.inr ⟨by rfl, rfl⟩) ?_ ?_
              rotate_left
              · simp only [Act.put, List.setIfInBounds_toArray, List.set_cons_zero, List.set_cons_succ, iR, iT]
                rfl
              refine jA (i := 13) (N := some 29) (v := ?_) (a' := ?_) #[true, true, true, true, true, true, true, true, true, true, true, true, true, true] rfl rfl (iQ HT_.out (by kernel_rfl)) (fun _ _ _ h => h) (Or.inl ⟨by rfl, ?_⟩) ?_ ?_
              rotate_left
              · intro w'
                go_simp
                with_reducible rfl
              rotate_left
              · simp only [Act.put, List.setIfInBounds_toArray, List.set_cons_zero, List.set_cons_succ, iR, iT]
                rfl
              refine lT (kH HT_.out (by kernel_rfl)) ?_
              try go_wp2
              go_roundg k1
              case measure => have := HK1.out; omega
              case rel => exact ⟨(x7_1), (wrap64 (x12_1 + 1)), (by first | rfl | (simp; done) | (simp [*]; done)), H', ⟨by have := HK1.out; omega⟩, ⟨by (with_reducible repeat (first | apply Kd.R_alloc | apply Kd.R_drewN | apply Kd.R_drew)); exact Kd.R_mono HO_7.out (fun _ hk => trivial)⟩, ⟨bk_ BK146.out⟩, ⟨by repeat (first | (with_reducible first | exact HB.out | apply iG | apply iD | apply iF | refine iE ?_ GE146.out | refine iE ?_ GE148.out) | exact HB.out)⟩⟩
          · rw [if_neg c7] at H
            exact absurd H (by simp)
        · rw [if_neg c6] at H
          exact absurd H (by simp)
      · rw [if_neg c5] at H
        have c5b0 : decide (x12_1 < (l1.length : Int)) = false := decide_eq_false c5
        clear c5
        obtain rfl := Option.some.inj H
        go_wp2
        go_ret
        exact ⟨_, by first | rfl | (simp [iU, iV] <;> rfl) | (simp [*, iU, iV] <;> rfl), by (with_reducible repeat (first | apply Kd.R_alloc | apply Kd.R_drewN | apply Kd.R_drew)); exact HO_7.out, by repeat (first | (with_reducible first | exact HB.out | apply iG | apply iD | apply iF | refine iE ?_ GE146.out) | exact HB.out)⟩
end Go.Proofs.Ytjppookmjdaplaa.K
end

section
namespace Go.Proofs.Ytjppookmjdaplaa.K
open Go.RowKit Go.Proofs.YtjppookmjdaplaaW.PrintWords Go.Proofs.YtjppookmjdaplaaW.PrintLast Go.Proofs.YtjppookmjdaplaaW.PrintMore
attribute [local go_sem] jQ jP jX jW
def spans_New.f  : Option (Int × (List (S96))) := some (1, (([(⟨0, 0⟩ : S96)] : List (S96))))
set_option maxHeartbeats 8000000 in
set_option maxRecDepth 100000 in
theorem spans_New.calls  (r1 : Int) (r2 : List (S96)) (w : World) (h : spans_New.f  = some (r1, r2)) :
    Calls Try.prog 37 #[] w fun e w' => ∃ v1_ : Value, e = .returned (.agg #[.int .u32 r1, v1_]) ∧ Kd.R k96 96 w' w.heap.size (fun _ => True) v1_ r2 ∧ Below w.heap.size w w' := by
  have hu42 := Try.underlying42
  have hu96 := Try.underlying96
  have HB := iC.mk (Below.refl w.heap.size w)
  have H : (some (1, (([(⟨0, 0⟩ : S96)] : List (S96))))) = some (r1, r2) := h
  clear h
  obtain ⟨y278, hy278⟩ : ∃ y_ : List (S96), y_ = (([(⟨0, 0⟩ : S96)] : List (S96))) := ⟨_, rfl⟩
  replace H : (some (1, y278)) = some (r1, r2) := by first | (rw [hy278]; with_reducible exact H) | (have H2_ := (Option.bind_some _ _).symm.trans H; rw [hy278]; with_reducible exact H2_) | (have H2_ := (Option.bind_some _ _).symm.trans H; with_reducible exact H2_) | with_reducible exact H | (rw [hy278]; exact H) | exact H
  have Ny278 := iC.mk hy278
  clear hy278
  simp only [Option.some.injEq, Prod.mk.injEq] at H
  obtain ⟨rfl, rfl⟩ := H
  go_enter Try.func37, Try.ntmps37
  go_wp2_with (first | ((with_reducible refine jF (N := 0) rfl ?_); refine jD ?hg (N := 0) ?hd (cs := #[.int .u32 0, .slice none 0 0]) (t := 42) ?hr ?_; (case hd => rfl); (case hg => rfl); (case hr => first | (go_simp; done) | (go_simp; rfl)); intro gb277 hg w1 hbox hb; have n0_ := iC.mk (iM hb_ hb); have n1_ := iC.mk (hbox); have n2_ := iC.mk ((by rw [hg]; exact (iJ hb_) : w.heap.size ≤ gb277)); have n3_ := iC.mk ((by rw [hg]; exact (iJ hb_) : w.heap.size ≤ gb277)); clear HB; have HB := n0_; have BK277 := n1_; have GW277 := n2_; have GE277 := n3_; clear n0_ n1_ n2_ n3_; clear hb hbox hg) | ((with_reducible refine jF (N := 2) rfl ?_); refine Kd.R_lit k96 _ 96 ?hg (N := 2) ?hd (xs := ([(⟨0, 0⟩ : S96)] : List (S96))) (inner := [.int .i64 0, .int .i64 0]) (ok := fun _ => True) (okp := fun _ => True) ?hr ?hp (fun _ hk => hk) trivial (Below.refl _ _) (Nat.le_refl _) (by simp) ?_; (case hd => rfl); (case hg => rfl); (case hr => first | (go_simp; done) | (go_simp; rfl)); (case hp => exact (Reps.c2 (show Kd.M k96 _ _ _ (⟨0, 0⟩ : S96) [.int .i64 0, .int .i64 0] from (kT _ _ _ (⟨0, 0⟩ : S96) )) (Reps.none _ _))); intro v279 w2 ho3 hb hg_ hnew_; clear hg_ hnew_; (first | rw [← Ny278.out] at ho3 | (simp only [Int.reduceToNat] at ho3; rw [← Ny278.out] at ho3)); have n0_ := iC.mk (Kd.R_lower ho3 (iJ (by repeat (first | (with_reducible first | exact HB.out | apply iG | apply iD | apply iF | refine iE ?_ GE277.out) | exact HB.out)))); have n1_ := iC.mk (iP (g := gb277) (o := .cells #[.int .u32 0, .slice none 0 0] 42 (0, 0)) (bk_ BK277.out) hb); have n2_ := iC.mk (iM (by repeat (first | (with_reducible first | exact HB.out | apply iG | apply iD | apply iF | refine iE ?_ GE277.out) | exact HB.out)) hb); clear BK277; clear HB; have HO280 := n0_; have BK277 := n1_; have HB := n2_; clear n0_ n1_ n2_; clear hb ho3; obtain ⟨Ao4, co4, eo4⟩ := Kd.R_slice HO280.out; subst eo4; have hcz5_0 : w2.cell? ⟨gb277, 0, none⟩ = some (.int .u32 0) := (iH BK277.out 0).trans rfl; have hcz5_1 : w2.cell? ⟨gb277, 1, none⟩ = some (.slice none 0 0) := (iH BK277.out 1).trans rfl; have hfz5_0 := iI BK277.out 0; have hfz5_1 := iI BK277.out 1))
  refine bodyPost_ret (results_cell_row rfl _ _ gb277 42 #[.int .u32 1, .slice Ao4 y278.length co4] (0, 0) _ rfl (by (with_reducible repeat (first | refine iL ?_ _ | refine iO ?_ | refine iK ?_ _)); refine jC (cs := #[.int .u32 1, .slice none 0 0]) ?_ 1 _ rfl; (with_reducible repeat (first | refine iL ?_ _ | refine iO ?_ | refine iK ?_ _)); refine jC (cs := #[.int .u32 0, .slice none 0 0]) ?_ 0 _ rfl; (with_reducible repeat (first | refine iL ?_ _ | refine iO ?_ | refine iK ?_ _)); exact BK277.out) Try.underlying42 rfl (by kernel_rfl)) rfl ?_
  exact ⟨_, by first | rfl | (simp [iU, iV] <;> rfl) | (simp [*, iU, iV] <;> rfl), by (with_reducible repeat (first | apply Kd.R_alloc | apply Kd.R_drewN | apply Kd.R_drew)); exact Kd.R_mono (Kd.R_far (p := ⟨gb277, 1, none⟩) (Kd.R_far (p := ⟨gb277, 0, none⟩) (Kd.R_types HO280.out BK277.out (by decide)) (fun _ hk => hk.2) (.int .u32 1)) (fun _ hk => hk.2) (.slice Ao4 y278.length co4)) (fun _ hk => trivial), by repeat (first | (with_reducible first | exact HB.out | apply iG | apply iD | apply iF | refine iE ?_ GE277.out) | exact HB.out)⟩
end Go.Proofs.Ytjppookmjdaplaa.K
end

section
namespace Go.Proofs.Ytjppookmjdaplaa.K
open Go.RowKit Go.Proofs.YtjppookmjdaplaaW.PrintWords Go.Proofs.YtjppookmjdaplaaW.PrintLast Go.Proofs.YtjppookmjdaplaaW.PrintMore
attribute [local go_sem] jQ jP jX jW
mutual
def spans_Sound.j0 : Nat → Int → Int → Bool → Int → List (S96) → Option (Bool)
  | 0, _, _, _, _, _ => none
  | k + 1, x1, x2, x27, x282000, x282001 => if x27 = true then (some false) else (spans_Sound.l0 k x1 x2 x282001 (x282001.length : Int) 0 (-1) (-1))
def spans_Sound.l0 : Nat → Int → Int → List (S96) → Int → Int → Int → Int → Option (Bool)
  | 0, _, _, _, _, _, _, _ => none
  | k + 1, x1, x2, x30, x31, x32, x284000, x284001 => if x32 < x31 then (if 0 ≤ x32 then (if x32 < (x30.length : Int) then (if ((iY x30 x32).f0) ≤ x284000 then (some false) else (if ((iY x30 x32).f0) ≥ x1 then (some false) else (if ((iY x30 x32).f1) = x284001 then (some false) else (if ((iY x30 x32).f1) < 0 then (some false) else (if ((iY x30 x32).f1) ≥ (mn x2 6) then (some false) else (spans_Sound.l0 k x1 x2 x30 x31 (wrap64 (x32 + 1)) ((iY x30 x32).f0) ((iY x30 x32).f1))))))) else (none)) else (none)) else (some true)
end
def spans_Sound.f (k : Nat) (a0_0 : Int) (l0_1 : List (S96)) (a1 : Int) (a2 : Int) : Option (Bool) := if (l0_1.length : Int) = 0 then (spans_Sound.j0 k a1 a2 true a0_0 l0_1) else (if (l0_1.length : Int) > 40 then (spans_Sound.j0 k a1 a2 true a0_0 l0_1) else (if 0 < (l0_1.length : Int) then (spans_Sound.j0 k a1 a2 (((iY l0_1 0).f0) != 0) a0_0 l0_1) else (none)))
theorem spans_Sound.mono_l : ∀ k, (∀ y0 y1 y2 y3 y4, LeO (spans_Sound.j0 k y0 y1 y2 y3 y4) (spans_Sound.j0 (k + 1) y0 y1 y2 y3 y4)) ∧ (∀ y0 y1 y2 y3 y4 y5 y6, LeO (spans_Sound.l0 k y0 y1 y2 y3 y4 y5 y6) (spans_Sound.l0 (k + 1) y0 y1 y2 y3 y4 y5 y6))
  | 0 => ⟨fun _ _ _ _ _ r h => by simp [spans_Sound.j0] at h, fun _ _ _ _ _ _ _ r h => by simp [spans_Sound.l0] at h⟩
  | k + 1 => by
    obtain ⟨ih0, ih1⟩ := spans_Sound.mono_l k
    refine ⟨?_, ?_⟩
    · intro y0 y1 y2 y3 y4
      unfold spans_Sound.j0
      repeat' first
      | (with_reducible exact ih0 _ _ _ _ _)
      | (with_reducible exact ih1 _ _ _ _ _ _ _)
      | (with_reducible exact LeO.refl _)
      | (with_reducible exact LeO.none _)
      | (with_reducible refine LeO.ite ?_ ?_)
      | (with_reducible refine LeO.bind ?_ (fun _ => ?_))
      | exact ih0 _ _ _ _ _
      | exact ih1 _ _ _ _ _ _ _
      | exact LeO.none _
      | refine LeO.ite ?_ ?_
      | refine LeO.bind ?_ (fun _ => ?_)
    · intro y0 y1 y2 y3 y4 y5 y6
      unfold spans_Sound.l0
      repeat' first
      | (with_reducible exact ih0 _ _ _ _ _)
      | (with_reducible exact ih1 _ _ _ _ _ _ _)
      | (with_reducible exact LeO.refl _)
      | (with_reducible exact LeO.none _)
      | (with_reducible refine LeO.ite ?_ ?_)
      | (with_reducible refine LeO.bind ?_ (fun _ => ?_))
      | exact ih0 _ _ _ _ _
      | exact ih1 _ _ _ _ _ _ _
      | exact LeO.none _
      | refine LeO.ite ?_ ?_
      | refine LeO.bind ?_ (fun _ => ?_)
theorem spans_Sound.mono : ∀ a0 a1 a2 a3 k, LeO (spans_Sound.f k a0 a1 a2 a3) (spans_Sound.f (k + 1) a0 a1 a2 a3) := by
  intro a0 a1 a2 a3 k
  obtain ⟨ih0, ih1⟩ := spans_Sound.mono_l k
  unfold spans_Sound.f
  repeat' first
      | (with_reducible exact ih0 _ _ _ _ _)
      | (with_reducible exact ih1 _ _ _ _ _ _ _)
      | (with_reducible exact LeO.refl _)
      | (with_reducible exact LeO.none _)
      | (with_reducible refine LeO.ite ?_ ?_)
      | (with_reducible refine LeO.bind ?_ (fun _ => ?_))
      | exact ih0 _ _ _ _ _
      | exact ih1 _ _ _ _ _ _ _
      | exact LeO.none _
      | refine LeO.ite ?_ ?_
      | refine LeO.bind ?_ (fun _ => ?_)
set_option maxHeartbeats 8000000 in
set_option maxRecDepth 100000 in
theorem spans_Sound.calls (k : Nat) (a0_0 : Int) (A0_1 : Option Addr) (c0_1 : Nat) (l0_1 : List (S96)) (a1 : Int) (a2 : Int) (r : Bool) (w : World) (hr0_1 : Kd.C k96 w A0_1 l0_1.length l0_1) (hc0_1 : l0_1.length ≤ c0_1) (h : spans_Sound.f k a0_0 l0_1 a1 a2 = some r) :
    Calls Try.prog 52 #[.agg #[.int .u32 a0_0, .slice A0_1 l0_1.length c0_1], .int .i64 a1, .int .i64 a2] w fun e w' => e = .returned (.bool r) ∧ Below w.heap.size w w' := by
  have hu42 := Try.underlying42
  have hu96 := Try.underlying96
  have HR0_1 := iC.mk hr0_1
  have HC0_1 := iC.mk hc0_1
  clear hr0_1 hc0_1
  have HB := iC.mk (Below.refl w.heap.size w)
  have H : (if (l0_1.length : Int) = 0 then (spans_Sound.j0 k a1 a2 true a0_0 l0_1) else (if (l0_1.length : Int) > 40 then (spans_Sound.j0 k a1 a2 true a0_0 l0_1) else (if 0 < (l0_1.length : Int) then (spans_Sound.j0 k a1 a2 (((iY l0_1 0).f0) != 0) a0_0 l0_1) else (none)))) = some r := h
  clear h
  have HC4 := iC.mk H
  clear H
  go_enter Try.func52, Try.ntmps52
  go_upto_region 1 with (first | ((with_reducible refine jF (N := 3) rfl ?_); (try (refine jB (by rfl) ?_; dsimp only)); refine jD ?hg (N := 3) ?hd (cs := #[.int .u32 a0_0, .slice A0_1 l0_1.length c0_1]) (t := 42) ?hr ?_; (case hd => rfl); (case hg => rfl); (case hr => first | (go_simp; done) | (go_simp; rfl)); intro gb281 hg w5 hbox hb; have n0_ := iC.mk (iM hb_ hb); have n1_ := iC.mk (hbox); have n2_ := iC.mk ((by rw [hg]; exact (iJ hb_) : w.heap.size ≤ gb281)); have n3_ := iC.mk ((by rw [hg]; exact (iJ hb_) : w.heap.size ≤ gb281)); clear HB; have HB := n0_; have BK281 := n1_; have GW281 := n2_; have GE281 := n3_; clear n0_ n1_ n2_ n3_; clear hb hbox hg))
  (try simp only [Act.put, List.setIfInBounds_toArray, List.set_cons_zero, List.set_cons_succ])
  go_cut [27] (fun v27 wc => ∃ (kq : Nat) (x27_3 : Bool), v27 = .bool x27_3 ∧ iC (spans_Sound.j0 kq a1 a2 x27_3 a0_0 l0_1 = some r) ∧ iC (kq ≤ k) ∧ iC (wc.heap[gb281]? = some (.cells #[.int .u32 a0_0, (.slice A0_1 l0_1.length c0_1)] 42 (0, 0))) ∧ iC (Below w.heap.size w wc))
  case first =>
    have H := HC4.out
    clear HC4
    by_cases c6 : (l0_1.length : Int) = 0
    · rw [if_pos c6] at H
      have c6b0 : ((l0_1.length : Int) == 0) = true := beq_iff_eq.mpr c6
      have c6b1 : ((l0_1.length : Int) != 0) = false := bne_eq_false_iff_eq.mpr c6
      clear c6
      (first | rw [c6b0] | (simp only [iR, iT]; rw [c6b0]) | skip)
      have H' := iC.mk H
      clear H
      have hcz7_0 : w5.cell? ⟨gb281, 0, none⟩ = some (.int .u32 a0_0) := (iH BK281.out 0).trans rfl
      have hcz7_1 : w5.cell? ⟨gb281, 1, none⟩ = some (.slice A0_1 l0_1.length c0_1) := (iH BK281.out 1).trans rfl
      have hfz7_0 := iI BK281.out 0
      have hfz7_1 := iI BK281.out 1
      go_wp2
      go_meet
      case rel => exact ⟨_, (true), (by first | rfl | (simp; done) | (simp [*]; done)), H', ⟨by first | omega | exact Nat.le_refl _⟩, ⟨bk_ BK281.out⟩, ⟨by repeat (first | (with_reducible first | exact HB.out | apply iG | apply iD | apply iF | refine iE ?_ GE281.out) | exact HB.out)⟩⟩
    · rw [if_neg c6] at H
      have c6b0 : ((l0_1.length : Int) == 0) = false := beq_eq_false_iff_ne.mpr c6
      have c6b1 : ((l0_1.length : Int) != 0) = true := bne_iff_ne.mpr c6
      have c6b2 : ¬ (l0_1 = []) := fun h_ => c6 (by rw [h_]; rfl)
      (first | rw [c6b0] | (simp only [iR, iT]; rw [c6b0]) | skip)
      by_cases c8 : (l0_1.length : Int) > 40
      · rw [if_pos c8] at H
        have c8b0 : decide (40 < (l0_1.length : Int)) = true := decide_eq_true c8
        have c8b1 : decide (40 < l0_1.length) = true := decide_eq_true (by omega)
        clear c8
        have H' := iC.mk H
        clear H
        have hcz9_0 : w5.cell? ⟨gb281, 0, none⟩ = some (.int .u32 a0_0) := (iH BK281.out 0).trans rfl
        have hcz9_1 : w5.cell? ⟨gb281, 1, none⟩ = some (.slice A0_1 l0_1.length c0_1) := (iH BK281.out 1).trans rfl
        have hfz9_0 := iI BK281.out 0
        have hfz9_1 := iI BK281.out 1
        go_wp2
        go_meet
        case rel => exact ⟨_, (true), (by first | rfl | (simp; done) | (simp [*]; done)), H', ⟨by first | omega | exact Nat.le_refl _⟩, ⟨bk_ BK281.out⟩, ⟨by repeat (first | (with_reducible first | exact HB.out | apply iG | apply iD | apply iF | refine iE ?_ GE281.out) | exact HB.out)⟩⟩
      · rw [if_neg c8] at H
        have c8b0 : decide (40 < (l0_1.length : Int)) = false := decide_eq_false c8
        have c8b1 : decide (40 < l0_1.length) = false := decide_eq_false (by omega)
        clear c8
        by_cases c10 : 0 < (l0_1.length : Int)
        · rw [if_pos c10] at H
          have c10b0 : decide (0 < (l0_1.length : Int)) = true := decide_eq_true c10
          have c10b1 : decide (0 < l0_1.length) = true := decide_eq_true (by omega)
          clear c10
          have H' := iC.mk H
          clear H
          have hcz11_0 : w5.cell? ⟨gb281, 0, none⟩ = some (.int .u32 a0_0) := (iH BK281.out 0).trans rfl
          have hcz11_1 : w5.cell? ⟨gb281, 1, none⟩ = some (.slice A0_1 l0_1.length c0_1) := (iH BK281.out 1).trans rfl
          have hfz11_0 := iI BK281.out 0
          have hfz11_1 := iI BK281.out 1
          have p282 : 0 ≤ (0 : Int) := (by omega)
          have q282 : 0 < (l0_1.length : Int) := of_decide_eq_true asm_
          obtain ⟨ad282, e282, hx282_0, hx282_1⟩ := jL HR0_1.out 0 p282 q282
          cases e282
          have qi282 : (0 < l0_1.length) = True := eq_true (by omega)
          (try rw [show ((0 : Int)).toNat = 0 from rfl] at hx282_0)
          (try rw [show 0 * 2 = 0 from rfl] at hx282_0)
          (try rw [Addr.add_zero'] at hx282_0)
          (try rw [show ((0 : Int)).toNat = 0 from rfl] at hx282_1)
          (try rw [show 0 * 2 = 0 from rfl] at hx282_1)
          (try rw [Addr.add_zero'] at hx282_1)
          replace hx282_0 := (HB.out.cell (World.block_lt_of_cell? w _ hx282_0)).trans hx282_0
          replace hx282_1 := (HB.out.cell (World.block_lt_of_cell? w _ hx282_1)).trans hx282_1
          replace p282 := eq_true p282
          replace q282 := eq_true q282
          go_wp2
          go_meet
          case rel => exact ⟨_, ((((iY l0_1 0).f0) != 0)), (by first | rfl | (simp; done) | (simp [*]; done)), H', ⟨by first | omega | exact Nat.le_refl _⟩, ⟨bk_ BK281.out⟩, ⟨by repeat (first | (with_reducible first | exact HB.out | apply iG | apply iD | apply iF | refine iE ?_ GE281.out) | exact HB.out)⟩⟩
        · rw [if_neg c10] at H
          exact absurd H (by simp)
  case rest =>
    clear HC4
    try clear c1
    try clear p2
    try clear q2
    try clear hx2
    try clear qi2
    try clear c5
    try clear c6
    try clear c6b0
    try clear c6b1
    try clear c6b2
    try clear c8
    try clear c8b0
    try clear c8b1
    try clear c10
    try clear c10b0
    try clear c10b1
    try clear hcz11_0
    try clear hcz11_1
    try clear hcz7_0
    try clear hcz7_1
    try clear hcz9_0
    try clear hcz9_1
    try clear hfz11_0
    try clear hfz11_1
    try clear hfz7_0
    try clear hfz7_1
    try clear hfz9_0
    try clear hfz9_1
    try clear hx282_0
    try clear hx282_1
    try clear p282
    try clear q282
    obtain ⟨kq, x27_3, rfl, HA, HJ3, BK281, HB⟩ := hcut
    cases kq with
    | zero => exact absurd HA.out (by simp [spans_Sound.j0])
    | succ kj3 =>
      have H := HA.out
      clear HA
      simp only [spans_Sound.j0] at H
      by_cases c12 : x27_3 = true
      · subst c12
        have H1 : (some false) = some r := by rw [if_pos rfl] at H; exact H
        clear H
        have H := H1
        clear H1
        obtain rfl := Option.some.inj H
        go_wp2
        go_ret
        exact ⟨by first | rfl | (simp [iU, iV] <;> rfl) | (simp [*, iU, iV] <;> rfl), by repeat (first | (with_reducible first | exact HB.out | apply iG | apply iD | apply iF | refine iE ?_ GE281.out) | exact HB.out)⟩
      · replace c12 := Bool.eq_false_iff.mpr c12
        subst c12
        have H1 : (spans_Sound.l0 kj3 a1 a2 l0_1 (l0_1.length : Int) 0 (-1) (-1)) = some r := by rw [if_neg (show ¬ (false = true) by decide)] at H; exact H
        clear H
        have H := H1
        clear H1
        have H' := iC.mk H
        clear H
        go_wp2_with (first | ((with_reducible refine jF (N := 7) rfl ?_); (try (refine jB (by rfl) ?_; dsimp only)); refine jD ?hg (N := 7) ?hd (cs := #[.int .i64 0, .int .i64 0]) (t := 96) ?hr ?_; (case hd => rfl); (case hg => rfl); (case hr => first | (go_simp; done) | (go_simp; rfl)); intro gb283 hg w13 hbox hb; have n0_ := iC.mk (iP (g := gb281) (o := .cells #[.int .u32 a0_0, .slice A0_1 l0_1.length c0_1] 42 (0, 0)) (bk_ BK281.out) hb); have n1_ := iC.mk (iM (by repeat (first | (with_reducible first | exact HB.out | apply iG | apply iD | apply iF | refine iE ?_ GE281.out) | exact HB.out)) hb); have n2_ := iC.mk (hbox); have n3_ := iC.mk ((by rw [hg]; exact (iJ (by repeat (first | (with_reducible first | exact HB.out | apply iG | apply iD | apply iF | refine iE ?_ GE281.out) | exact HB.out))) : w.heap.size ≤ gb283)); have n4_ := iC.mk ((by rw [hg]; exact (iJ (by repeat (first | (with_reducible first | exact HB.out | apply iG | apply iD | apply iF | refine iE ?_ GE281.out) | exact HB.out))) : w.heap.size ≤ gb283)); have n5_ := iC.mk ((by rw [hg]; exact Nat.ne_of_lt (jE (g := gb281) (o := .cells #[.int .u32 a0_0, .slice A0_1 l0_1.length c0_1] 42 (0, 0)) (bk_ BK281.out)) : gb281 ≠ gb283)); have n6_ := iC.mk ((by rw [hg]; exact Nat.ne_of_gt (jE (g := gb281) (o := .cells #[.int .u32 a0_0, .slice A0_1 l0_1.length c0_1] 42 (0, 0)) (bk_ BK281.out)) : gb283 ≠ gb281)); clear BK281; clear HB; have BK281 := n0_; have HB := n1_; have BK283 := n2_; have GW283 := n3_; have GE283 := n4_; have NB281_283 := n5_; have NB283_281 := n6_; clear n0_ n1_ n2_ n3_ n4_ n5_ n6_; clear hb hbox hg; have hnb14 := NB283_281.out; have hnc14 := NB281_283.out; have hcz15_0 : w13.cell? ⟨gb283, 0, none⟩ = some (.int .i64 0) := (iH BK283.out 0).trans rfl; have hcz15_1 : w13.cell? ⟨gb283, 1, none⟩ = some (.int .i64 0) := (iH BK283.out 1).trans rfl; have hfz15_0 := iI BK283.out 0; have hfz15_1 := iI BK283.out 1; have hcz16_0 : w13.cell? ⟨gb281, 0, none⟩ = some (.int .u32 a0_0) := (iH BK281.out 0).trans rfl; have hcz16_1 : w13.cell? ⟨gb281, 1, none⟩ = some (.slice A0_1 l0_1.length c0_1) := (iH BK281.out 1).trans rfl; have hfz16_0 := iI BK281.out 0; have hfz16_1 := iI BK281.out 1))
        go_loopg [32] kj3 (fun kq v32 w' => ∃ (x32_2 : Int) (x284000_2 : Int) (x284001_2 : Int), v32 = .int .i64 x32_2 ∧ iC (spans_Sound.l0 kq a1 a2 l0_1 (l0_1.length : Int) x32_2 x284000_2 x284001_2 = some r) ∧ iC (kq ≤ kj3) ∧ iC (w'.heap[gb281]? = some (.cells #[.int .u32 a0_0, (.slice A0_1 l0_1.length c0_1)] 42 (0, 0))) ∧ iC (w'.heap[gb283]? = some (.cells #[.int .i64 x284000_2, .int .i64 x284001_2] 96 (0, 0))) ∧ iC (Below w.heap.size w w'))
        case atStart => exact ⟨(0), ((-1)), ((-1)), (by first | rfl | (simp; done) | (simp [*]; done)), H', ⟨Nat.le_refl _⟩, ⟨by (with_reducible repeat (first | refine iL ?_ _ | refine iO ?_ | refine iK ?_ _)); refine jI ?_ NB281_283.out _; (with_reducible repeat (first | refine iL ?_ _ | refine iO ?_ | refine iK ?_ _)); refine jI ?_ NB281_283.out _; (with_reducible repeat (first | refine iL ?_ _ | refine iO ?_ | refine iK ?_ _)); exact BK281.out⟩, ⟨by (with_reducible repeat (first | refine iL ?_ _ | refine iO ?_ | refine iK ?_ _)); refine jC (cs := #[.int .i64 (-1), .int .i64 0]) ?_ 1 _ rfl; (with_reducible repeat (first | refine iL ?_ _ | refine iO ?_ | refine iK ?_ _)); refine jC (cs := #[.int .i64 0, .int .i64 0]) ?_ 0 _ rfl; (with_reducible repeat (first | refine iL ?_ _ | refine iO ?_ | refine iK ?_ _)); exact BK283.out⟩, ⟨by repeat (first | (with_reducible first | exact HB.out | apply iG | apply iD | apply iF | refine iE ?_ GE281.out | refine iE ?_ GE283.out) | exact HB.out)⟩⟩
        case round =>
          clear H'
          try clear c1
          try clear p2
          try clear q2
          try clear hx2
          try clear qi2
          try clear c5
          try clear c6
          try clear c6b0
          try clear c6b1
          try clear c6b2
          try clear c8
          try clear c8b0
          try clear c8b1
          try clear c10
          try clear c10b0
          try clear c10b1
          try clear c12
          try clear c14
          try clear hcz11_0
          try clear hcz11_1
          try clear hcz15_0
          try clear hcz15_1
          try clear hcz16_0
          try clear hcz16_1
          try clear hcz7_0
          try clear hcz7_1
          try clear hcz9_0
          try clear hcz9_1
          try clear hfz11_0
          try clear hfz11_1
          try clear hfz15_0
          try clear hfz15_1
          try clear hfz16_0
          try clear hfz16_1
          try clear hfz7_0
          try clear hfz7_1
          try clear hfz9_0
          try clear hfz9_1
          try clear hx282_0
          try clear hx282_1
          try clear p2
          try clear p282
          try clear q2
          try clear q282
          obtain ⟨x32_2, x284000_2, x284001_2, rfl, HA, HK2, BK281, BK283, HB⟩ := hrel
          cases gk with
          | zero => exact absurd HA.out (by simp [spans_Sound.l0])
          | succ k2 =>
            have H := HA.out
            clear HA
            simp only [spans_Sound.l0] at H
            by_cases c17 : x32_2 < (l0_1.length : Int)
            · rw [if_pos c17] at H
              have c17b0 : decide (x32_2 < (l0_1.length : Int)) = true := decide_eq_true c17
              clear c17
              by_cases c18 : 0 ≤ x32_2
              · rw [if_pos c18] at H
                have c18b0 : decide (0 ≤ x32_2) = true := decide_eq_true c18
                clear c18
                by_cases c19 : x32_2 < (l0_1.length : Int)
                · rw [if_pos c19] at H
                  have c19b0 : decide (x32_2 < (l0_1.length : Int)) = true := decide_eq_true c19
                  clear c19
                  by_cases c20 : ((iY l0_1 x32_2).f0) ≤ x284000_2
                  · rw [if_pos c20] at H
                    have c20b0 : decide (((iY l0_1 x32_2).f0) ≤ x284000_2) = true := decide_eq_true c20
                    clear c20
                    obtain rfl := Option.some.inj H
                    have p284 : 0 ≤ (x32_2 : Int) := of_decide_eq_true asm_
                    have q284 : x32_2 < (l0_1.length : Int) := of_decide_eq_true asm_
                    obtain ⟨ad284, e284, hx284_0, hx284_1⟩ := jL HR0_1.out x32_2 p284 q284
                    cases e284
                    replace hx284_0 := (HB.out.cell (World.block_lt_of_cell? w _ hx284_0)).trans hx284_0
                    replace hx284_1 := (HB.out.cell (World.block_lt_of_cell? w _ hx284_1)).trans hx284_1
                    replace p284 := eq_true p284
                    replace q284 := eq_true q284
                    go_wp2_with (first | ((with_reducible refine jF (N := 9) rfl ?_); (try (refine jB (by rfl) ?_; dsimp only)); refine jD ?hg (N := 9) ?hd (cs := #[.int .i64 0, .int .i64 0]) (t := 96) ?hr ?_; (case hd => rfl); (case hg => rfl); (case hr => first | (go_simp; done) | (go_simp; rfl)); intro gb285 hg w21 hbox hb; have n0_ := iC.mk (iP (g := gb281) (o := .cells #[.int .u32 a0_0, .slice (some ad284) l0_1.length c0_1] 42 (0, 0)) (bk_ BK281.out) hb); have n1_ := iC.mk (iP (g := gb283) (o := .cells #[.int .i64 x284000_2, .int .i64 x284001_2] 96 (0, 0)) (bk_ BK283.out) hb); have n2_ := iC.mk (iM (by repeat (first | (with_reducible first | exact HB.out | apply iG | apply iD | apply iF | refine iE ?_ GE281.out | refine iE ?_ GE283.out) | exact HB.out)) hb); have n3_ := iC.mk (hbox); have n4_ := iC.mk ((by rw [hg]; exact (iJ (by repeat (first | (with_reducible first | exact HB.out | apply iG | apply iD | apply iF | refine iE ?_ GE281.out | refine iE ?_ GE283.out) | exact HB.out))) : w.heap.size ≤ gb285)); have n5_ := iC.mk ((by rw [hg]; exact (iJ (by repeat (first | (with_reducible first | exact HB.out | apply iG | apply iD | apply iF | refine iE ?_ GE281.out | refine iE ?_ GE283.out) | exact HB.out))) : w.heap.size ≤ gb285)); have n6_ := iC.mk ((by rw [hg]; exact Nat.ne_of_lt (jE (g := gb281) (o := .cells #[.int .u32 a0_0, .slice (some ad284) l0_1.length c0_1] 42 (0, 0)) (bk_ BK281.out)) : gb281 ≠ gb285)); have n7_ := iC.mk ((by rw [hg]; exact Nat.ne_of_gt (jE (g := gb281) (o := .cells #[.int .u32 a0_0, .slice (some ad284) l0_1.length c0_1] 42 (0, 0)) (bk_ BK281.out)) : gb285 ≠ gb281)); have n8_ := iC.mk ((by rw [hg]; exact Nat.ne_of_lt (jE (g := gb283) (o := .cells #[.int .i64 x284000_2, .int .i64 x284001_2] 96 (0, 0)) (bk_ BK283.out)) : gb283 ≠ gb285)); have n9_ := iC.mk ((by rw [hg]; exact Nat.ne_of_gt (jE (g := gb283) (o := .cells #[.int .i64 x284000_2, .int .i64 x284001_2] 96 (0, 0)) (bk_ BK283.out)) : gb285 ≠ gb283)); clear BK281; clear BK283; clear HB; have BK281 := n0_; have BK283 := n1_; have HB := n2_; have BK285 := n3_; have GW285 := n4_; have GE285 := n5_; have NB281_285 := n6_; have NB285_281 := n7_; have NB283_285 := n8_; have NB285_283 := n9_; clear n0_ n1_ n2_ n3_ n4_ n5_ n6_ n7_ n8_ n9_; clear hb hbox hg; have hnb22 := NB285_281.out; have hnc22 := NB281_285.out; have hnb23 := NB285_283.out; have hnc23 := NB283_285.out; have hcz24_0 : w21.cell? ⟨gb285, 0, none⟩ = some (.int .i64 0) := (iH BK285.out 0).trans rfl; have hcz24_1 : w21.cell? ⟨gb285, 1, none⟩ = some (.int .i64 0) := (iH BK285.out 1).trans rfl; have hfz24_0 := iI BK285.out 0; have hfz24_1 := iI BK285.out 1; have hnb25 := NB283_281.out; have hnc25 := NB281_283.out; have hcz26_0 : w21.cell? ⟨gb283, 0, none⟩ = some (.int .i64 x284000_2) := (iH BK283.out 0).trans rfl; have hcz26_1 : w21.cell? ⟨gb283, 1, none⟩ = some (.int .i64 x284001_2) := (iH BK283.out 1).trans rfl; have hfz26_0 := iI BK283.out 0; have hfz26_1 := iI BK283.out 1))
                    go_ret
                    exact ⟨by first | rfl | (simp [iU, iV] <;> rfl) | (simp [*, iU, iV] <;> rfl), by repeat (first | (with_reducible first | exact HB.out | apply iG | apply iD | apply iF | refine iE ?_ GE281.out | refine iE ?_ GE283.out | refine iE ?_ GE285.out) | exact HB.out)⟩
                  · rw [if_neg c20] at H
                    have c20b0 : decide (((iY l0_1 x32_2).f0) ≤ x284000_2) = false := decide_eq_false c20
                    clear c20
                    by_cases c27 : ((iY l0_1 x32_2).f0) ≥ a1
                    · rw [if_pos c27] at H
                      have c27b0 : decide (a1 ≤ ((iY l0_1 x32_2).f0)) = true := decide_eq_true c27
                      clear c27
                      obtain rfl := Option.some.inj H
                      have p284 : 0 ≤ (x32_2 : Int) := of_decide_eq_true asm_
                      have q284 : x32_2 < (l0_1.length : Int) := of_decide_eq_true asm_
                      obtain ⟨ad284, e284, hx284_0, hx284_1⟩ := jL HR0_1.out x32_2 p284 q284
                      cases e284
                      replace hx284_0 := (HB.out.cell (World.block_lt_of_cell? w _ hx284_0)).trans hx284_0
                      replace hx284_1 := (HB.out.cell (World.block_lt_of_cell? w _ hx284_1)).trans hx284_1
                      replace p284 := eq_true p284
                      replace q284 := eq_true q284
                      go_wp2_with (first | ((with_reducible refine jF (N := 9) rfl ?_); (try (refine jB (by rfl) ?_; dsimp only)); refine jD ?hg (N := 9) ?hd (cs := #[.int .i64 0, .int .i64 0]) (t := 96) ?hr ?_; (case hd => rfl); (case hg => rfl); (case hr => first | (go_simp; done) | (go_simp; rfl)); intro gb285 hg w28 hbox hb; have n0_ := iC.mk (iP (g := gb281) (o := .cells #[.int .u32 a0_0, .slice (some ad284) l0_1.length c0_1] 42 (0, 0)) (bk_ BK281.out) hb); have n1_ := iC.mk (iP (g := gb283) (o := .cells #[.int .i64 x284000_2, .int .i64 x284001_2] 96 (0, 0)) (bk_ BK283.out) hb); have n2_ := iC.mk (iM (by repeat (first | (with_reducible first | exact HB.out | apply iG | apply iD | apply iF | refine iE ?_ GE281.out | refine iE ?_ GE283.out) | exact HB.out)) hb); have n3_ := iC.mk (hbox); have n4_ := iC.mk ((by rw [hg]; exact (iJ (by repeat (first | (with_reducible first | exact HB.out | apply iG | apply iD | apply iF | refine iE ?_ GE281.out | refine iE ?_ GE283.out) | exact HB.out))) : w.heap.size ≤ gb285)); have n5_ := iC.mk ((by rw [hg]; exact (iJ (by repeat (first | (with_reducible first | exact HB.out | apply iG | apply iD | apply iF | refine iE ?_ GE281.out | refine iE ?_ GE283.out) | exact HB.out))) : w.heap.size ≤ gb285)); have n6_ := iC.mk ((by rw [hg]; exact Nat.ne_of_lt (jE (g := gb281) (o := .cells #[.int .u32 a0_0, .slice (some ad284) l0_1.length c0_1] 42 (0, 0)) (bk_ BK281.out)) : gb281 ≠ gb285)); have n7_ := iC.mk ((by rw [hg]; exact Nat.ne_of_gt (jE (g := gb281) (o := .cells #[.int .u32 a0_0, .slice (some ad284) l0_1.length c0_1] 42 (0, 0)) (bk_ BK281.out)) : gb285 ≠ gb281)); have n8_ := iC.mk ((by rw [hg]; exact Nat.ne_of_lt (jE (g := gb283) (o := .cells #[.int .i64 x284000_2, .int .i64 x284001_2] 96 (0, 0)) (bk_ BK283.out)) : gb283 ≠ gb285)); have n9_ := iC.mk ((by rw [hg]; exact Nat.ne_of_gt (jE (g := gb283) (o := .cells #[.int .i64 x284000_2, .int .i64 x284001_2] 96 (0, 0)) (bk_ BK283.out)) : gb285 ≠ gb283)); clear BK281; clear BK283; clear HB; have BK281 := n0_; have BK283 := n1_; have HB := n2_; have BK285 := n3_; have GW285 := n4_; have GE285 := n5_; have NB281_285 := n6_; have NB285_281 := n7_; have NB283_285 := n8_; have NB285_283 := n9_; clear n0_ n1_ n2_ n3_ n4_ n5_ n6_ n7_ n8_ n9_; clear hb hbox hg; have hnb29 := NB285_281.out; have hnc29 := NB281_285.out; have hnb30 := NB285_283.out; have hnc30 := NB283_285.out; have hcz31_0 : w28.cell? ⟨gb285, 0, none⟩ = some (.int .i64 0) := (iH BK285.out 0).trans rfl; have hcz31_1 : w28.cell? ⟨gb285, 1, none⟩ = some (.int .i64 0) := (iH BK285.out 1).trans rfl; have hfz31_0 := iI BK285.out 0; have hfz31_1 := iI BK285.out 1; have hnb32 := NB283_281.out; have hnc32 := NB281_283.out; have hcz33_0 : w28.cell? ⟨gb283, 0, none⟩ = some (.int .i64 x284000_2) := (iH BK283.out 0).trans rfl; have hcz33_1 : w28.cell? ⟨gb283, 1, none⟩ = some (.int .i64 x284001_2) := (iH BK283.out 1).trans rfl; have hfz33_0 := iI BK283.out 0; have hfz33_1 := iI BK283.out 1))
                      go_ret
                      exact ⟨by first | rfl | (simp [iU, iV] <;> rfl) | (simp [*, iU, iV] <;> rfl), by repeat (first | (with_reducible first | exact HB.out | apply iG | apply iD | apply iF | refine iE ?_ GE281.out | refine iE ?_ GE283.out | refine iE ?_ GE285.out) | exact HB.out)⟩
                    · rw [if_neg c27] at H
                      have c27b0 : decide (a1 ≤ ((iY l0_1 x32_2).f0)) = false := decide_eq_false c27
                      clear c27
                      by_cases c34 : ((iY l0_1 x32_2).f1) = x284001_2
                      · rw [if_pos c34] at H
                        have c34b0 : (((iY l0_1 x32_2).f1) == x284001_2) = true := beq_iff_eq.mpr c34
                        have c34b1 : (((iY l0_1 x32_2).f1) != x284001_2) = false := bne_eq_false_iff_eq.mpr c34
                        clear c34
                        obtain rfl := Option.some.inj H
                        have p284 : 0 ≤ (x32_2 : Int) := of_decide_eq_true asm_
                        have q284 : x32_2 < (l0_1.length : Int) := of_decide_eq_true asm_
                        obtain ⟨ad284, e284, hx284_0, hx284_1⟩ := jL HR0_1.out x32_2 p284 q284
                        cases e284
                        replace hx284_0 := (HB.out.cell (World.block_lt_of_cell? w _ hx284_0)).trans hx284_0
                        replace hx284_1 := (HB.out.cell (World.block_lt_of_cell? w _ hx284_1)).trans hx284_1
                        replace p284 := eq_true p284
                        replace q284 := eq_true q284
                        go_wp2_with (first | ((with_reducible refine jF (N := 9) rfl ?_); (try (refine jB (by rfl) ?_; dsimp only)); refine jD ?hg (N := 9) ?hd (cs := #[.int .i64 0, .int .i64 0]) (t := 96) ?hr ?_; (case hd => rfl); (case hg => rfl); (case hr => first | (go_simp; done) | (go_simp; rfl)); intro gb285 hg w35 hbox hb; have n0_ := iC.mk (iP (g := gb281) (o := .cells #[.int .u32 a0_0, .slice (some ad284) l0_1.length c0_1] 42 (0, 0)) (bk_ BK281.out) hb); have n1_ := iC.mk (iP (g := gb283) (o := .cells #[.int .i64 x284000_2, .int .i64 x284001_2] 96 (0, 0)) (bk_ BK283.out) hb); have n2_ := iC.mk (iM (by repeat (first | (with_reducible first | exact HB.out | apply iG | apply iD | apply iF | refine iE ?_ GE281.out | refine iE ?_ GE283.out) | exact HB.out)) hb); have n3_ := iC.mk (hbox); have n4_ := iC.mk ((by rw [hg]; exact (iJ (by repeat (first | (with_reducible first | exact HB.out | apply iG | apply iD | apply iF | refine iE ?_ GE281.out | refine iE ?_ GE283.out) | exact HB.out))) : w.heap.size ≤ gb285)); have n5_ := iC.mk ((by rw [hg]; exact (iJ (by repeat (first | (with_reducible first | exact HB.out | apply iG | apply iD | apply iF | refine iE ?_ GE281.out | refine iE ?_ GE283.out) | exact HB.out))) : w.heap.size ≤ gb285)); have n6_ := iC.mk ((by rw [hg]; exact Nat.ne_of_lt (jE (g := gb281) (o := .cells #[.int .u32 a0_0, .slice (some ad284) l0_1.length c0_1] 42 (0, 0)) (bk_ BK281.out)) : gb281 ≠ gb285)); have n7_ := iC.mk ((by rw [hg]; exact Nat.ne_of_gt (jE (g := gb281) (o := .cells #[.int .u32 a0_0, .slice (some ad284) l0_1.length c0_1] 42 (0, 0)) (bk_ BK281.out)) : gb285 ≠ gb281)); have n8_ := iC.mk ((by rw [hg]; exact Nat.ne_of_lt (jE (g := gb283) (o := .cells #[.int .i64 x284000_2, .int .i64 x284001_2] 96 (0, 0)) (bk_ BK283.out)) : gb283 ≠ gb285)); have n9_ := iC.mk ((by rw [hg]; exact Nat.ne_of_gt (jE (g := gb283) (o := .cells #[.int .i64 x284000_2, .int .i64 x284001_2] 96 (0, 0)) (bk_ BK283.out)) : gb285 ≠ gb283)); clear BK281; clear BK283; clear HB; have BK281 := n0_; have BK283 := n1_; have HB := n2_; have BK285 := n3_; have GW285 := n4_; have GE285 := n5_; have NB281_285 := n6_; have NB285_281 := n7_; have NB283_285 := n8_; have NB285_283 := n9_; clear n0_ n1_ n2_ n3_ n4_ n5_ n6_ n7_ n8_ n9_; clear hb hbox hg; have hnb36 := NB285_281.out; have hnc36 := NB281_285.out; have hnb37 := NB285_283.out; have hnc37 := NB283_285.out; have hcz38_0 : w35.cell? ⟨gb285, 0, none⟩ = some (.int .i64 0) := (iH BK285.out 0).trans rfl; have hcz38_1 : w35.cell? ⟨gb285, 1, none⟩ = some (.int .i64 0) := (iH BK285.out 1).trans rfl; have hfz38_0 := iI BK285.out 0; have hfz38_1 := iI BK285.out 1; have hnb39 := NB283_281.out; have hnc39 := NB281_283.out; have hcz40_0 : w35.cell? ⟨gb283, 0, none⟩ = some (.int .i64 x284000_2) := (iH BK283.out 0).trans rfl; have hcz40_1 : w35.cell? ⟨gb283, 1, none⟩ = some (.int .i64 x284001_2) := (iH BK283.out 1).trans rfl; have hfz40_0 := iI BK283.out 0; have hfz40_1 := iI BK283.out 1))
                        go_ret
                        exact ⟨by first | rfl | (simp [iU, iV] <;> rfl) | (simp [*, iU, iV] <;> rfl), by repeat (first | (with_reducible first | exact HB.out | apply iG | apply iD | apply iF | refine iE ?_ GE281.out | refine iE ?_ GE283.out | refine iE ?_ GE285.out) | exact HB.out)⟩
                      · rw [if_neg c34] at H
                        have c34b0 : (((iY l0_1 x32_2).f1) == x284001_2) = false := beq_eq_false_iff_ne.mpr c34
                        have c34b1 : (((iY l0_1 x32_2).f1) != x284001_2) = true := bne_iff_ne.mpr c34
                        by_cases c41 : ((iY l0_1 x32_2).f1) < 0
                        · rw [if_pos c41] at H
                          have c41b0 : decide (((iY l0_1 x32_2).f1) < 0) = true := decide_eq_true c41
                          clear c41
                          obtain rfl := Option.some.inj H
                          have p284 : 0 ≤ (x32_2 : Int) := of_decide_eq_true asm_
                          have q284 : x32_2 < (l0_1.length : Int) := of_decide_eq_true asm_
                          obtain ⟨ad284, e284, hx284_0, hx284_1⟩ := jL HR0_1.out x32_2 p284 q284
                          cases e284
                          replace hx284_0 := (HB.out.cell (World.block_lt_of_cell? w _ hx284_0)).trans hx284_0
                          replace hx284_1 := (HB.out.cell (World.block_lt_of_cell? w _ hx284_1)).trans hx284_1
                          replace p284 := eq_true p284
                          replace q284 := eq_true q284
                          go_wp2_with (first | ((with_reducible refine jF (N := 9) rfl ?_); (try (refine jB (by rfl) ?_; dsimp only)); refine jD ?hg (N := 9) ?hd (cs := #[.int .i64 0, .int .i64 0]) (t := 96) ?hr ?_; (case hd => rfl); (case hg => rfl); (case hr => first | (go_simp; done) | (go_simp; rfl)); intro gb285 hg w42 hbox hb; have n0_ := iC.mk (iP (g := gb281) (o := .cells #[.int .u32 a0_0, .slice (some ad284) l0_1.length c0_1] 42 (0, 0)) (bk_ BK281.out) hb); have n1_ := iC.mk (iP (g := gb283) (o := .cells #[.int .i64 x284000_2, .int .i64 x284001_2] 96 (0, 0)) (bk_ BK283.out) hb); have n2_ := iC.mk (iM (by repeat (first | (with_reducible first | exact HB.out | apply iG | apply iD | apply iF | refine iE ?_ GE281.out | refine iE ?_ GE283.out) | exact HB.out)) hb); have n3_ := iC.mk (hbox); have n4_ := iC.mk ((by rw [hg]; exact (iJ (by repeat (first | (with_reducible first | exact HB.out | apply iG | apply iD | apply iF | refine iE ?_ GE281.out | refine iE ?_ GE283.out) | exact HB.out))) : w.heap.size ≤ gb285)); have n5_ := iC.mk ((by rw [hg]; exact (iJ (by repeat (first | (with_reducible first | exact HB.out | apply iG | apply iD | apply iF | refine iE ?_ GE281.out | refine iE ?_ GE283.out) | exact HB.out))) : w.heap.size ≤ gb285)); have n6_ := iC.mk ((by rw [hg]; exact Nat.ne_of_lt (jE (g := gb281) (o := .cells #[.int .u32 a0_0, .slice (some ad284) l0_1.length c0_1] 42 (0, 0)) (bk_ BK281.out)) : gb281 ≠ gb285)); have n7_ := iC.mk ((by rw [hg]; exact Nat.ne_of_gt (jE (g := gb281) (o := .cells #[.int .u32 a0_0, .slice (some ad284) l0_1.length c0_1] 42 (0, 0)) (bk_ BK281.out)) : gb285 ≠ gb281)); have n8_ := iC.mk ((by rw [hg]; exact Nat.ne_of_lt (jE (g := gb283) (o := .cells #[.int .i64 x284000_2, .int .i64 x284001_2] 96 (0, 0)) (bk_ BK283.out)) : gb283 ≠ gb285)); have n9_ := iC.mk ((by rw [hg]; exact Nat.ne_of_gt (jE (g := gb283) (o := .cells #[.int .i64 x284000_2, .int .i64 x284001_2] 96 (0, 0)) (bk_ BK283.out)) : gb285 ≠ gb283)); clear BK281; clear BK283; clear HB; have BK281 := n0_; have BK283 := n1_; have HB := n2_; have BK285 := n3_; have GW285 := n4_; have GE285 := n5_; have NB281_285 := n6_; have NB285_281 := n7_; have NB283_285 := n8_; have NB285_283 := n9_; clear n0_ n1_ n2_ n3_ n4_ n5_ n6_ n7_ n8_ n9_; clear hb hbox hg; have hnb43 := NB285_281.out; have hnc43 := NB281_285.out; have hnb44 := NB285_283.out; have hnc44 := NB283_285.out; have hcz45_0 : w42.cell? ⟨gb285, 0, none⟩ = some (.int .i64 0) := (iH BK285.out 0).trans rfl; have hcz45_1 : w42.cell? ⟨gb285, 1, none⟩ = some (.int .i64 0) := (iH BK285.out 1).trans rfl; have hfz45_0 := iI BK285.out 0; have hfz45_1 := iI BK285.out 1; have hnb46 := NB283_281.out; have hnc46 := NB281_283.out; have hcz47_0 : w42.cell? ⟨gb283, 0, none⟩ = some (.int .i64 x284000_2) := (iH BK283.out 0).trans rfl; have hcz47_1 : w42.cell? ⟨gb283, 1, none⟩ = some (.int .i64 x284001_2) := (iH BK283.out 1).trans rfl; have hfz47_0 := iI BK283.out 0; have hfz47_1 := iI BK283.out 1))
                          go_ret
                          exact ⟨by first | rfl | (simp [iU, iV] <;> rfl) | (simp [*, iU, iV] <;> rfl), by repeat (first | (with_reducible first | exact HB.out | apply iG | apply iD | apply iF | refine iE ?_ GE281.out | refine iE ?_ GE283.out | refine iE ?_ GE285.out) | exact HB.out)⟩
                        · rw [if_neg c41] at H
                          have c41b0 : decide (((iY l0_1 x32_2).f1) < 0) = false := decide_eq_false c41
                          clear c41
                          obtain ⟨ji48, hji48⟩ : ∃ j_ : Int, (mn a2 6) = j_ := ⟨_, rfl⟩
                          replace H : (if ((iY l0_1 x32_2).f1) ≥ (ji48) then (some false) else (spans_Sound.l0 k2 a1 a2 l0_1 (l0_1.length : Int) (wrap64 (x32_2 + 1)) ((iY l0_1 x32_2).f0) ((iY l0_1 x32_2).f1))) = some r := by first | (rw [hji48] at H; exact H) | (simp only [hji48] at H ⊢; exact H)
                          (try (have hji48h : ji48 ≤ 6 := by (rw [← hji48]; unfold mn; (repeat' split) <;> omega)))
                          (try (have hji48g : ji48 ≤ 64 := by omega))
                          have hji48_ : (if 6 < a2 then 6 else a2) = ji48 := hji48
                          by_cases c49 : ((iY l0_1 x32_2).f1) ≥ (ji48)
                          · rw [if_pos c49] at H
                            have c49b0 : decide ((ji48) ≤ ((iY l0_1 x32_2).f1)) = true := decide_eq_true c49
                            clear c49
                            obtain rfl := Option.some.inj H
                            have p284 : 0 ≤ (x32_2 : Int) := of_decide_eq_true asm_
                            have q284 : x32_2 < (l0_1.length : Int) := of_decide_eq_true asm_
                            obtain ⟨ad284, e284, hx284_0, hx284_1⟩ := jL HR0_1.out x32_2 p284 q284
                            cases e284
                            replace hx284_0 := (HB.out.cell (World.block_lt_of_cell? w _ hx284_0)).trans hx284_0
                            replace hx284_1 := (HB.out.cell (World.block_lt_of_cell? w _ hx284_1)).trans hx284_1
                            replace p284 := eq_true p284
                            replace q284 := eq_true q284
                            go_wp2_with (first | ((with_reducible refine jF (N := 9) rfl ?_); (try (refine jB (by rfl) ?_; dsimp only)); refine jD ?hg (N := 9) ?hd (cs := #[.int .i64 0, .int .i64 0]) (t := 96) ?hr ?_; (case hd => rfl); (case hg => rfl); (case hr => first | (go_simp; done) | (go_simp; rfl)); intro gb285 hg w50 hbox hb; have n0_ := iC.mk (iP (g := gb281) (o := .cells #[.int .u32 a0_0, .slice (some ad284) l0_1.length c0_1] 42 (0, 0)) (bk_ BK281.out) hb); have n1_ := iC.mk (iP (g := gb283) (o := .cells #[.int .i64 x284000_2, .int .i64 x284001_2] 96 (0, 0)) (bk_ BK283.out) hb); have n2_ := iC.mk (iM (by repeat (first | (with_reducible first | exact HB.out | apply iG | apply iD | apply iF | refine iE ?_ GE281.out | refine iE ?_ GE283.out) | exact HB.out)) hb); have n3_ := iC.mk (hbox); have n4_ := iC.mk ((by rw [hg]; exact (iJ (by repeat (first | (with_reducible first | exact HB.out | apply iG | apply iD | apply iF | refine iE ?_ GE281.out | refine iE ?_ GE283.out) | exact HB.out))) : w.heap.size ≤ gb285)); have n5_ := iC.mk ((by rw [hg]; exact (iJ (by repeat (first | (with_reducible first | exact HB.out | apply iG | apply iD | apply iF | refine iE ?_ GE281.out | refine iE ?_ GE283.out) | exact HB.out))) : w.heap.size ≤ gb285)); have n6_ := iC.mk ((by rw [hg]; exact Nat.ne_of_lt (jE (g := gb281) (o := .cells #[.int .u32 a0_0, .slice (some ad284) l0_1.length c0_1] 42 (0, 0)) (bk_ BK281.out)) : gb281 ≠ gb285)); have n7_ := iC.mk ((by rw [hg]; exact Nat.ne_of_gt (jE (g := gb281) (o := .cells #[.int .u32 a0_0, .slice (some ad284) l0_1.length c0_1] 42 (0, 0)) (bk_ BK281.out)) : gb285 ≠ gb281)); have n8_ := iC.mk ((by rw [hg]; exact Nat.ne_of_lt (jE (g := gb283) (o := .cells #[.int .i64 x284000_2, .int .i64 x284001_2] 96 (0, 0)) (bk_ BK283.out)) : gb283 ≠ gb285)); have n9_ := iC.mk ((by rw [hg]; exact Nat.ne_of_gt (jE (g := gb283) (o := .cells #[.int .i64 x284000_2, .int .i64 x284001_2] 96 (0, 0)) (bk_ BK283.out)) : gb285 ≠ gb283)); clear BK281; clear BK283; clear HB; have BK281 := n0_; have BK283 := n1_; have HB := n2_; have BK285 := n3_; have GW285 := n4_; have GE285 := n5_; have NB281_285 := n6_; have NB285_281 := n7_; have NB283_285 := n8_; have NB285_283 := n9_; clear n0_ n1_ n2_ n3_ n4_ n5_ n6_ n7_ n8_ n9_; clear hb hbox hg; have hnb51 := NB285_281.out; have hnc51 := NB281_285.out; have hnb52 := NB285_283.out; have hnc52 := NB283_285.out; have hcz53_0 : w50.cell? ⟨gb285, 0, none⟩ = some (.int .i64 0) := (iH BK285.out 0).trans rfl; have hcz53_1 : w50.cell? ⟨gb285, 1, none⟩ = some (.int .i64 0) := (iH BK285.out 1).trans rfl; have hfz53_0 := iI BK285.out 0; have hfz53_1 := iI BK285.out 1; have hnb54 := NB283_281.out; have hnc54 := NB281_283.out; have hcz55_0 : w50.cell? ⟨gb283, 0, none⟩ = some (.int .i64 x284000_2) := (iH BK283.out 0).trans rfl; have hcz55_1 : w50.cell? ⟨gb283, 1, none⟩ = some (.int .i64 x284001_2) := (iH BK283.out 1).trans rfl; have hfz55_0 := iI BK283.out 0; have hfz55_1 := iI BK283.out 1))
                            go_ret
                            exact ⟨by first | rfl | (simp [iU, iV] <;> rfl) | (simp only [← hji48]; first | rfl | (simp [iU, iV] <;> rfl)) | (simp [*, iU, iV] <;> rfl), by repeat (first | (with_reducible first | exact HB.out | apply iG | apply iD | apply iF | refine iE ?_ GE281.out | refine iE ?_ GE283.out | refine iE ?_ GE285.out) | exact HB.out)⟩
                          · rw [if_neg c49] at H
                            have c49b0 : decide ((ji48) ≤ ((iY l0_1 x32_2).f1)) = false := decide_eq_false c49
                            clear c49
                            have H' := iC.mk H
                            clear H
                            have p284 : 0 ≤ (x32_2 : Int) := of_decide_eq_true asm_
                            have q284 : x32_2 < (l0_1.length : Int) := of_decide_eq_true asm_
                            obtain ⟨ad284, e284, hx284_0, hx284_1⟩ := jL HR0_1.out x32_2 p284 q284
                            cases e284
                            replace hx284_0 := (HB.out.cell (World.block_lt_of_cell? w _ hx284_0)).trans hx284_0
                            replace hx284_1 := (HB.out.cell (World.block_lt_of_cell? w _ hx284_1)).trans hx284_1
                            replace p284 := eq_true p284
                            replace q284 := eq_true q284
                            go_wp2_with (first | ((with_reducible refine jF (N := 9) rfl ?_); (try (refine jB (by rfl) ?_; dsimp only)); refine jD ?hg (N := 9) ?hd (cs := #[.int .i64 0, .int .i64 0]) (t := 96) ?hr ?_; (case hd => rfl); (case hg => rfl); (case hr => first | (go_simp; done) | (go_simp; rfl)); intro gb285 hg w56 hbox hb; have n0_ := iC.mk (iP (g := gb281) (o := .cells #[.int .u32 a0_0, .slice (some ad284) l0_1.length c0_1] 42 (0, 0)) (bk_ BK281.out) hb); have n1_ := iC.mk (iP (g := gb283) (o := .cells #[.int .i64 x284000_2, .int .i64 x284001_2] 96 (0, 0)) (bk_ BK283.out) hb); have n2_ := iC.mk (iM (by repeat (first | (with_reducible first | exact HB.out | apply iG | apply iD | apply iF | refine iE ?_ GE281.out | refine iE ?_ GE283.out) | exact HB.out)) hb); have n3_ := iC.mk (hbox); have n4_ := iC.mk ((by rw [hg]; exact (iJ (by repeat (first | (with_reducible first | exact HB.out | apply iG | apply iD | apply iF | refine iE ?_ GE281.out | refine iE ?_ GE283.out) | exact HB.out))) : w.heap.size ≤ gb285)); have n5_ := iC.mk ((by rw [hg]; exact (iJ (by repeat (first | (with_reducible first | exact HB.out | apply iG | apply iD | apply iF | refine iE ?_ GE281.out | refine iE ?_ GE283.out) | exact HB.out))) : w.heap.size ≤ gb285)); have n6_ := iC.mk ((by rw [hg]; exact Nat.ne_of_lt (jE (g := gb281) (o := .cells #[.int .u32 a0_0, .slice (some ad284) l0_1.length c0_1] 42 (0, 0)) (bk_ BK281.out)) : gb281 ≠ gb285)); have n7_ := iC.mk ((by rw [hg]; exact Nat.ne_of_gt (jE (g := gb281) (o := .cells #[.int .u32 a0_0, .slice (some ad284) l0_1.length c0_1] 42 (0, 0)) (bk_ BK281.out)) : gb285 ≠ gb281)); have n8_ := iC.mk ((by rw [hg]; exact Nat.ne_of_lt (jE (g := gb283) (o := .cells #[.int .i64 x284000_2, .int .i64 x284001_2] 96 (0, 0)) (bk_ BK283.out)) : gb283 ≠ gb285)); have n9_ := iC.mk ((by rw [hg]; exact Nat.ne_of_gt (jE (g := gb283) (o := .cells #[.int .i64 x284000_2, .int .i64 x284001_2] 96 (0, 0)) (bk_ BK283.out)) : gb285 ≠ gb283)); clear BK281; clear BK283; clear HB; have BK281 := n0_; have BK283 := n1_; have HB := n2_; have BK285 := n3_; have GW285 := n4_; have GE285 := n5_; have NB281_285 := n6_; have NB285_281 := n7_; have NB283_285 := n8_; have NB285_283 := n9_; clear n0_ n1_ n2_ n3_ n4_ n5_ n6_ n7_ n8_ n9_; clear hb hbox hg; have hnb57 := NB285_281.out; have hnc57 := NB281_285.out; have hnb58 := NB285_283.out; have hnc58 := NB283_285.out; have hcz59_0 : w56.cell? ⟨gb285, 0, none⟩ = some (.int .i64 0) := (iH BK285.out 0).trans rfl; have hcz59_1 : w56.cell? ⟨gb285, 1, none⟩ = some (.int .i64 0) := (iH BK285.out 1).trans rfl; have hfz59_0 := iI BK285.out 0; have hfz59_1 := iI BK285.out 1; have hnb60 := NB283_281.out; have hnc60 := NB281_283.out; have hcz61_0 : w56.cell? ⟨gb283, 0, none⟩ = some (.int .i64 x284000_2) := (iH BK283.out 0).trans rfl; have hcz61_1 : w56.cell? ⟨gb283, 1, none⟩ = some (.int .i64 x284001_2) := (iH BK283.out 1).trans rfl; have hfz61_0 := iI BK283.out 0; have hfz61_1 := iI BK283.out 1))
                            go_roundg k2
                            case measure => have := HJ3.out; have := HK2.out; omega
                            case rel => exact ⟨(wrap64 (x32_2 + 1)), ((iY l0_1 x32_2).f0), ((iY l0_1 x32_2).f1), (by first | rfl | (simp; done) | (simp [*]; done)), H', ⟨by have := HJ3.out; have := HK2.out; omega⟩, ⟨by (with_reducible repeat (first | refine iL ?_ _ | refine iO ?_ | refine iK ?_ _)); refine jI ?_ NB281_283.out _; (with_reducible repeat (first | refine iL ?_ _ | refine iO ?_ | refine iK ?_ _)); refine jI ?_ NB281_283.out _; (with_reducible repeat (first | refine iL ?_ _ | refine iO ?_ | refine iK ?_ _)); refine jI ?_ NB281_285.out _; (with_reducible repeat (first | refine iL ?_ _ | refine iO ?_ | refine iK ?_ _)); refine jI ?_ NB281_285.out _; (with_reducible repeat (first | refine iL ?_ _ | refine iO ?_ | refine iK ?_ _)); exact BK281.out⟩, ⟨by (with_reducible repeat (first | refine iL ?_ _ | refine iO ?_ | refine iK ?_ _)); refine jC (cs := #[.int .i64 ((iY l0_1 x32_2).f0), .int .i64 x284001_2]) ?_ 1 _ rfl; (with_reducible repeat (first | refine iL ?_ _ | refine iO ?_ | refine iK ?_ _)); refine jC (cs := #[.int .i64 x284000_2, .int .i64 x284001_2]) ?_ 0 _ rfl; (with_reducible repeat (first | refine iL ?_ _ | refine iO ?_ | refine iK ?_ _)); refine jI ?_ NB283_285.out _; (with_reducible repeat (first | refine iL ?_ _ | refine iO ?_ | refine iK ?_ _)); refine jI ?_ NB283_285.out _; (with_reducible repeat (first | refine iL ?_ _ | refine iO ?_ | refine iK ?_ _)); exact BK283.out⟩, ⟨by repeat (first | (with_reducible first | exact HB.out | apply iG | apply iD | apply iF | refine iE ?_ GE281.out | refine iE ?_ GE283.out | refine iE ?_ GE285.out) | exact HB.out)⟩⟩
                · rw [if_neg c19] at H
                  exact absurd H (by simp)
              · rw [if_neg c18] at H
                exact absurd H (by simp)
            · rw [if_neg c17] at H
              have c17b0 : decide (x32_2 < (l0_1.length : Int)) = false := decide_eq_false c17
              clear c17
              obtain rfl := Option.some.inj H
              go_wp2
              go_ret
              exact ⟨by first | rfl | (simp [iU, iV] <;> rfl) | (simp [*, iU, iV] <;> rfl), by repeat (first | (with_reducible first | exact HB.out | apply iG | apply iD | apply iF | refine iE ?_ GE281.out | refine iE ?_ GE283.out) | exact HB.out)⟩
end Go.Proofs.Ytjppookmjdaplaa.K
end

section
namespace Go.Proofs.Ytjppookmjdaplaa.K
open Go.RowKit Go.Proofs.YtjppookmjdaplaaW.PrintWords Go.Proofs.YtjppookmjdaplaaW.PrintLast Go.Proofs.YtjppookmjdaplaaW.PrintMore
attribute [local go_sem] jQ jP jX jW
def slices_Equal_int_int.l0 : Nat → List Int → List Int → Int → Int → Option (Bool)
  | 0, _, _, _, _ => none
  | k + 1, x0, x1, x12, x13 => if x13 < x12 then (if 0 ≤ x13 then (if x13 < (x0.length : Int) then (if x13 < (x1.length : Int) then (if (rd x0 x13) = (rd x1 x13) then (slices_Equal_int_int.l0 k x0 x1 x12 (wrap64 (x13 + 1))) else (some false)) else (none)) else (none)) else (none)) else (some true)
def slices_Equal_int_int.f (k : Nat) (l0 : List Int) (l1 : List Int) : Option (Bool) := if (l0.length : Int) = (l1.length : Int) then (slices_Equal_int_int.l0 k l0 l1 (l0.length : Int) 0) else (some false)
theorem slices_Equal_int_int.mono_l : ∀ k, (∀ y0 y1 y2 y3, LeO (slices_Equal_int_int.l0 k y0 y1 y2 y3) (slices_Equal_int_int.l0 (k + 1) y0 y1 y2 y3))
  | 0 => fun _ _ _ _ r h => by simp [slices_Equal_int_int.l0] at h
  | k + 1 => by
    have ih0 := slices_Equal_int_int.mono_l k
    · intro y0 y1 y2 y3
      unfold slices_Equal_int_int.l0
      repeat' first
      | (with_reducible exact ih0 _ _ _ _)
      | (with_reducible exact LeO.refl _)
      | (with_reducible exact LeO.none _)
      | (with_reducible refine LeO.ite ?_ ?_)
      | (with_reducible refine LeO.bind ?_ (fun _ => ?_))
      | exact ih0 _ _ _ _
      | exact LeO.none _
      | refine LeO.ite ?_ ?_
      | refine LeO.bind ?_ (fun _ => ?_)
theorem slices_Equal_int_int.mono : ∀ a0 a1 k, LeO (slices_Equal_int_int.f k a0 a1) (slices_Equal_int_int.f (k + 1) a0 a1) := by
  intro a0 a1 k
  have ih0 := slices_Equal_int_int.mono_l k
  unfold slices_Equal_int_int.f
  repeat' first
      | (with_reducible exact ih0 _ _ _ _)
      | (with_reducible exact LeO.refl _)
      | (with_reducible exact LeO.none _)
      | (with_reducible refine LeO.ite ?_ ?_)
      | (with_reducible refine LeO.bind ?_ (fun _ => ?_))
      | exact ih0 _ _ _ _
      | exact LeO.none _
      | refine LeO.ite ?_ ?_
      | refine LeO.bind ?_ (fun _ => ?_)
set_option maxHeartbeats 8000000 in
set_option maxRecDepth 100000 in
theorem slices_Equal_int_int.calls (k : Nat) (A0 : Option Addr) (c0 : Nat) (l0 : List Int) (A1 : Option Addr) (c1 : Nat) (l1 : List Int) (r : Bool) (w : World) (hr0 : Kd.C (Kd.int .i64) w A0 l0.length l0) (hc0 : l0.length ≤ c0) (hr1 : Kd.C (Kd.int .i64) w A1 l1.length l1) (hc1 : l1.length ≤ c1) (h : slices_Equal_int_int.f k l0 l1 = some r) :
    Calls Try.prog 72 #[.slice A0 l0.length c0, .slice A1 l1.length c1] w fun e w' => e = .returned (.bool r) ∧ jO w w' := by
  have HR0 := iC.mk hr0
  have HC0 := iC.mk hc0
  clear hr0 hc0
  have HR1 := iC.mk hr1
  have HC1 := iC.mk hc1
  clear hr1 hc1
  have H : (if (l0.length : Int) = (l1.length : Int) then (slices_Equal_int_int.l0 k l0 l1 (l0.length : Int) 0) else (some false)) = some r := h
  clear h
  by_cases c3 : (l0.length : Int) = (l1.length : Int)
  · rw [if_pos c3] at H
    have c3b0 : ((l0.length : Int) == (l1.length : Int)) = true := beq_iff_eq.mpr c3
    have c3b1 : ((l0.length : Int) != (l1.length : Int)) = false := bne_eq_false_iff_eq.mpr c3
    have c3b2 : (l0.length == l1.length) = true := by first | simpa using c3 | (simp at c3 ⊢; omega)
    clear c3
    have H' := iC.mk H
    clear H
    go_enter Try.func72, Try.ntmps72
    go_wp2
    repeat (go_quiet (fail); try go_wp2)
    go_loopg [13] k (fun kq v13 w' => ∃ (x13_1 : Int), v13 = .int .i64 x13_1 ∧ iC (slices_Equal_int_int.l0 kq l0 l1 (l0.length : Int) x13_1 = some r) ∧ iC (kq ≤ k) ∧ jO w w')
    case atStart => exact ⟨(0), (by first | rfl | (simp; done) | (simp [*]; done)), H', ⟨Nat.le_refl _⟩, by repeat (first | exact jO.refl _ | apply jO.step)⟩
    case round =>
      clear H'
      try clear c1
      try clear p2
      try clear c3
      try clear c3b0
      try clear c3b1
      try clear c3b2
      obtain ⟨x13_1, rfl, HA, HK1, ⟨m1, rfl⟩⟩ := hrel
      cases gk with
      | zero => exact absurd HA.out (by simp [slices_Equal_int_int.l0])
      | succ k1 =>
        have H := HA.out
        clear HA
        simp only [slices_Equal_int_int.l0] at H
        by_cases c4 : x13_1 < (l0.length : Int)
        · rw [if_pos c4] at H
          have c4b0 : decide (x13_1 < (l0.length : Int)) = true := decide_eq_true c4
          clear c4
          by_cases c5 : 0 ≤ x13_1
          · rw [if_pos c5] at H
            have c5b0 : decide (0 ≤ x13_1) = true := decide_eq_true c5
            clear c5
            by_cases c6 : x13_1 < (l0.length : Int)
            · rw [if_pos c6] at H
              have c6b0 : decide (x13_1 < (l0.length : Int)) = true := decide_eq_true c6
              clear c6
              by_cases c7 : x13_1 < (l1.length : Int)
              · rw [if_pos c7] at H
                have c7b0 : decide (x13_1 < (l1.length : Int)) = true := decide_eq_true c7
                clear c7
                by_cases c8 : (rd l0 x13_1) = (rd l1 x13_1)
                · rw [if_pos c8] at H
                  have c8b0 : ((rd l0 x13_1) == (rd l1 x13_1)) = true := beq_iff_eq.mpr c8
                  have c8b1 : ((rd l0 x13_1) != (rd l1 x13_1)) = false := bne_eq_false_iff_eq.mpr c8
                  clear c8
                  have H' := iC.mk H
                  clear H
                  have p286 : 0 ≤ (x13_1 : Int) := of_decide_eq_true asm_
                  have q286 : x13_1 < (l0.length : Int) := of_decide_eq_true asm_
                  obtain ⟨ad286, e286, hx286_0⟩ := Kd.at_int HR0.out x13_1 p286 q286
                  cases e286
                  replace p286 := eq_true p286
                  replace q286 := eq_true q286
                  have p287 : 0 ≤ (x13_1 : Int) := of_decide_eq_true asm_
                  have q287 : x13_1 < (l1.length : Int) := of_decide_eq_true asm_
                  obtain ⟨ad287, e287, hx287_0⟩ := Kd.at_int HR1.out x13_1 p287 q287
                  cases e287
                  replace p287 := eq_true p287
                  replace q287 := eq_true q287
                  go_wp2
                  repeat (go_quiet (fail); try go_wp2)
                  go_roundg k1
                  case measure => have := HK1.out; omega
                  case rel => exact ⟨(wrap64 (x13_1 + 1)), (by first | rfl | (simp; done) | (simp [*]; done)), H', ⟨by have := HK1.out; omega⟩, by repeat (first | exact jO.refl _ | apply jO.step)⟩
                · rw [if_neg c8] at H
                  have c8b0 : ((rd l0 x13_1) == (rd l1 x13_1)) = false := beq_eq_false_iff_ne.mpr c8
                  have c8b1 : ((rd l0 x13_1) != (rd l1 x13_1)) = true := bne_iff_ne.mpr c8
                  obtain rfl := Option.some.inj H
                  have p286 : 0 ≤ (x13_1 : Int) := of_decide_eq_true asm_
                  have q286 : x13_1 < (l0.length : Int) := of_decide_eq_true asm_
                  obtain ⟨ad286, e286, hx286_0⟩ := Kd.at_int HR0.out x13_1 p286 q286
                  cases e286
                  replace p286 := eq_true p286
                  replace q286 := eq_true q286
                  have p287 : 0 ≤ (x13_1 : Int) := of_decide_eq_true asm_
                  have q287 : x13_1 < (l1.length : Int) := of_decide_eq_true asm_
                  obtain ⟨ad287, e287, hx287_0⟩ := Kd.at_int HR1.out x13_1 p287 q287
                  cases e287
                  replace p287 := eq_true p287
                  replace q287 := eq_true q287
                  go_wp2
                  repeat (go_quiet (fail); try go_wp2)
                  go_ret
                  exact ⟨by first | rfl | (simp; done) | (simp [*]; done), by repeat (first | exact jO.refl _ | apply jO.step)⟩
              · rw [if_neg c7] at H
                exact absurd H (by simp)
            · rw [if_neg c6] at H
              exact absurd H (by simp)
          · rw [if_neg c5] at H
            exact absurd H (by simp)
        · rw [if_neg c4] at H
          have c4b0 : decide (x13_1 < (l0.length : Int)) = false := decide_eq_false c4
          clear c4
          obtain rfl := Option.some.inj H
          go_wp2
          repeat (go_quiet (fail); try go_wp2)
          go_ret
          exact ⟨by first | rfl | (simp; done) | (simp [*]; done), by repeat (first | exact jO.refl _ | apply jO.step)⟩
  · rw [if_neg c3] at H
    have c3b0 : ((l0.length : Int) == (l1.length : Int)) = false := beq_eq_false_iff_ne.mpr c3
    have c3b1 : ((l0.length : Int) != (l1.length : Int)) = true := bne_iff_ne.mpr c3
    have c3b2 : (l0.length == l1.length) = false := by first | simpa using c3 | (simp at c3 ⊢; omega)
    obtain rfl := Option.some.inj H
    go_enter Try.func72, Try.ntmps72
    go_wp2
    repeat (go_quiet (fail); try go_wp2)
    go_ret
    exact ⟨by first | rfl | (simp; done) | (simp [*]; done), by repeat (first | exact jO.refl _ | apply jO.step)⟩
end Go.Proofs.Ytjppookmjdaplaa.K
end
