/- Parts of the proof, one behind the other: CodeT, Buf, CodeL, CodeF, CodeE, K33, CodeD, CodeN, MsgP, K34, K35, K36. -/
import Derived.Test.YtgfkgppomaapiaaDoorQMsgEncodes3
import Derived.Recover
import Derived.Defers
import Derived.Shelf.LaysM
import Derived.Shelf.Bytes.Len
import Derived.Shelf.Bytes.TryGrow
import Derived.Shelf.Bytes.GrowSliceCatch
import Derived.Shelf.Bytes.GrowSlice
import Derived.Shelf.Bytes.Bytes
import Derived.Shelf.Bytes.GrowRow0Kept
import Derived.Shelf.Bytes.GrowRowKept
import Derived.Shelf.Bytes.GrowNilKept
import Derived.Shelf.Bytes.GrowKept
import Derived.Shelf.Bytes.WriteByteKept
import Derived.Ground.SlgfProg
import Derived.Shelf.SlicesE.IndexFunc
import Derived.Lib.OthersKept
import Derived.Lib.BufferKept
import Derived.Lib.BufferWrite
import Derived.Laws.ResultCell
set_option linter.unusedVariables false
set_option linter.unusedSimpArgs false
section
namespace Go.Proofs.YtgfkgppomaapiaaDoor.K
open RowKit YtgfkgppomaapiaaDoorW.PrintWords YtgfkgppomaapiaaDoorW.PrintLast YtgfkgppomaapiaaDoorW.PrintMore My
theorem NE : (Tryd.prog).built 30 (#[] : Array (Nat × Value)).toList = some #[.int .u8 0, .int .u32 0, .int .u32 0, .slice none 0 0, .slice none 0 0, .int .u32 0, .slice none 0 0, .int .i64 0, .int .i64 0, .slice none 0 0] := by kernel_rfl
theorem QU (w : World) : (Instr.build 30 #[]).run Tryd.prog w = .ok (.agg #[.int .u8 0, .int .u32 0, .int .u32 0, .slice none 0 0, .slice none 0 0, .int .u32 0, .slice none 0 0, .int .i64 0, .int .i64 0, .slice none 0 0]) w := run_build w _ _ _ NE
theorem RV {w : World} {b : Nat} {c0 : Value} (x : Bool) (h : w.heap[b]? = some (.cells #[c0] 4 (0, 0))) : (Instr.storeAt 4 (.pointer (some ⟨b, 0, none⟩)) (.bool x)).run Tryd.prog w = .ok () (w.setCell ⟨b, 0, none⟩ (.bool x)) := by
  have z : w.cell? ⟨b, 0, none⟩ = some c0 := (iE h 0).trans rfl
  have y : w.frozen? ⟨b, 0, none⟩ = false := iD h 0
  simp [go_sem, z, y]
theorem TP (w : World) : (Instr.storeAt 148 (.pointer (some ⟨w.heap.size, 0, none⟩)) (.agg #[])).run Tryd.prog (w.alloc (.cells #[] 148)) = .ok () (w.alloc (.cells #[] 148)) :=
  run_storeAt_new (P := Tryd.prog) w _ #[] #[] (by kernel_rfl) rfl (by simp)
theorem VH {w : World} {b : Nat} {x : Bool} (h : w.heap[b]? = some (.cells #[.bool x] 4 (0, 0))) : (Instr.loadAt 4 (.pointer (some ⟨b, 0, none⟩))).run Tryd.prog w = .ok (.bool x) w := by
  have z : w.cell? ⟨b, 0, none⟩ = some (.bool x) := (iE h 0).trans rfl
  simp [go_sem, z]
theorem TE (w : World) (A : Option Addr) (n c : Nat) : (Instr.build 151 #[(0, .slice A n c)]).run Tryd.prog w = .ok (.agg #[.slice A n c]) w := run_build w _ _ _ (by kernel_rfl)
theorem TU (w : World) : (Instr.typeAssert (.iface 148 (.agg #[])) 20 148 true).run Tryd.prog w = .ok (.tuple #[.agg #[], .bool true]) w := by
  have hu : (Tryd.prog).underlying 148 = some (.struct #[]) := by kernel_rfl
  simp [Instr.typeAssert, run_underlying hu]
attribute [-go_sem] Instr.build Instr.storeAt
attribute [local go_sem] QU TE TP TU
set_option maxRecDepth 20000 in
theorem LH (bx bi : Nat) (w : World) (hx : w.heap[bx]? = some (.cells #[.int .u8 0, .int .u32 0, .int .u32 0, .slice none 0 0, .slice none 0 0, .int .u32 0, .slice none 0 0, .int .i64 0, .int .i64 0, .slice none 0 0] 30 (0, 0))) (hi : w.heap[bi]? = some (.cells #[.bool false] 4 (0, 0))) (hne : bx ≠ bi) :
    CallsD Tryd.prog 96 #[.pointer (some ⟨bx, 0, none⟩), .pointer (some ⟨bi, 0, none⟩)] (.panicking yT) w fun e u' w' =>
      e = .returned (.tuple #[]) ∧ u' = .panicking [{ v := .iface 148 (.agg #[]), recovered := true }] ∧ w' = ((w.alloc (.cells #[] 148)).setRow bx #[.int .u8 0, .int .u32 0, .int .u32 0, .slice none 0 0, .slice none 0 0, .int .u32 0, .slice none 0 0, .int .i64 0, .int .i64 0, .slice none 0 0]).setCell ⟨bi, 0, none⟩ (.bool false) := by
  have hx1 : (w.alloc (.cells #[] 148)).heap[bx]? = some (.cells #[.int .u8 0, .int .u32 0, .int .u32 0, .slice none 0 0, .slice none 0 0, .int .u32 0, .slice none 0 0, .int .i64 0, .int .i64 0, .slice none 0 0] 30 (0, 0)) := jI hx
  have hi1 : ((w.alloc (.cells #[] 148)).setRow bx #[.int .u8 0, .int .u32 0, .int .u32 0, .slice none 0 0, .slice none 0 0, .int .u32 0, .slice none 0 0, .int .i64 0, .int .i64 0, .slice none 0 0]).heap[bi]? = some (.cells #[.bool false] 4 (0, 0)) := by rw [setRow_other _ _ _ _ (fun e => hne e.symm)]; exact jI hi
  have hs1 := fun (_ : True) => nO (a := 0) (k := 0) (i := 0) (x3 := .slice none 0 0) (x4 := .slice none 0 0) (j := 0) (x6 := .slice none 0 0) (p := 0) (q := 0) (x9 := .slice none 0 0) hx1 rfl rfl rfl rfl
  have hs2 := fun (_ : True) => RV false hi1
  clear hx1 hi1 hx hi
  refine callsD_of_wpS Tryd.func96 rfl fun c₀ cs hu => ?_
  simp only [Tryd.ntmps96, List.size_toArray, List.length_cons, List.length_nil, Nat.reduceAdd, Nat.reduceSub, Array.replicate_succ,
     Array.replicate_zero, List.push_toArray, List.append_toArray, List.nil_append, List.cons_append]
  apply wpS_seq
  apply wpS_region
  simp [wpOpsS, go_sem, recoverD, hu, Exit.thenS, yT]
  refine wpS_of_wp ?_
  go_wp2
  cases c₀
  simp_all [bodyPostS, results, Tryd.results96]
theorem O9 (bx bi : Nat) (w : World) :
    CallsD Tryd.prog 96 #[.pointer (some ⟨bx, 0, none⟩), .pointer (some ⟨bi, 0, none⟩)] .returning w fun e u' w' =>
      e = .returned (.tuple #[]) ∧ u' = .returning ∧ w' = w := by
  refine callsD_of_wpS Tryd.func96 rfl fun c₀ cs hu => ?_
  simp only [Tryd.ntmps96, List.size_toArray, List.length_cons, List.length_nil, Nat.reduceAdd, Nat.reduceSub, Array.replicate_succ,
     Array.replicate_zero, List.push_toArray, List.append_toArray, List.nil_append, List.cons_append]
  apply wpS_seq
  apply wpS_region
  simp [wpOpsS, go_sem, recoverD, hu, Exit.thenS]
  refine wpS_of_wp ?_
  go_wp2
  cases c₀
  simp_all [bodyPostS, results, Tryd.results96]
theorem JH {tmps : Array Value} {W : World} {bx bi : Nat} {cs : Array Value} {x : Bool} {R : Ending → World → Prop} (hp : tmps.getD 2 undef = .pointer (some ⟨bx, 0, none⟩)) (hq : tmps.getD 3 undef = .pointer (some ⟨bi, 0, none⟩))
    (hx : W.heap[bx]? = some (.cells cs 30 (0, 0))) (hs : cs.size = 10) (hi : W.heap[bi]? = some (.cells #[.bool x] 4 (0, 0))) (hR : R (.returned (.tuple #[.agg cs, .bool x])) W) : Leaves Tryd.prog Tryd.f74 tmps R [] .returning W := by
  refine ⟨_, ?_, hR⟩
  have h : Tryd.f74.results = #[.cell 2 30, .cell 3 4] := rfl
  have hp' : tmps[2]?.getD undef = .pointer (some ⟨bx, 0, none⟩) := by simpa using hp
  have hq' : tmps[3]?.getD undef = .pointer (some ⟨bi, 0, none⟩) := by simpa using hq
  have h1 := run_loadVar_row (P := Tryd.prog) W bx 30 30 cs (0, 0) _ hx Tryd.underlying30 rfl (by rw [hs]; kernel_rfl)
  have h2 := VH hi
  simp only [Instr.loadAt, Instr.sureAddr, Sem.run_bind, Sem.run_pure, Result.andThen] at h2
  simp [results, h, hp', hq', asAddr, h1, h2]
theorem kQ {base : Nat} {x : SRec} {v : Value} {w w' : World} {g : Nat} (h : RecV base x v w) (hg : w.grownBy w' (some g)) (hlt : g < base) : RecV base x v w' := by
  obtain ⟨v3, v4, v6, v9, rfl, h3, h4, h6, h9⟩ := h
  exact ⟨v3, v4, v6, v9, rfl, kU h3 hg hlt, kU h4 hg hlt, kU h6 hg hlt, kU h9 hg hlt⟩
theorem zB {base base' : Nat} {x : SRec} {v : Value} {w : World} (h : RecV base x v w) (hle : base' ≤ base) : RecV base' x v w := by
  obtain ⟨v3, v4, v6, v9, rfl, h3, h4, h6, h9⟩ := h
  exact ⟨v3, v4, v6, v9, rfl, Kd.R_lower h3 hle, Kd.R_lower h4 hle, Kd.R_lower h6 hle, Kd.R_lower h9 hle⟩
theorem JG {w : World} {b : Nat} {c0 : Value} {t : Nat} (v : Value) (h : w.heap[b]? = some (.cells #[c0] t (0, 0))) : (w.setCell ⟨b, 0, none⟩ v).heap[b]? = some (.cells #[v] t (0, 0)) := by
  rw [setCell_eq_setRow w b 0 #[c0] t (0, 0) v h]
  exact setRow_heap w b _ _ _ _ h
theorem zL {w : World} {b i k : Nat} (v : Value) (hne : k ≠ b) : (w.setCell ⟨b, i, none⟩ v).heap[k]? = w.heap[k]? := Below.heap_setCell _ _ _ _ hne
set_option maxRecDepth 20000 in
theorem TD (A : Option Addr) (c : Nat) (l : List UInt8) (w : World) (hC : kb.C w A l.length l) (hc : l.length ≤ c) (hm : (l.length : Int) ≤ 100000) :
    Calls Tryd.prog 74 #[.slice A l.length c] w fun e w' => Below w.heap.size w w' ∧
      ((∃ x r v, recP l = some (x, r) ∧ e = .returned (.tuple #[v, .bool true]) ∧ RecV w.heap.size x v w') ∨ (recP l = none ∧ e = .returned (.tuple #[.agg #[.int .u8 0, .int .u32 0, .int .u32 0, .slice none 0 0, .slice none 0 0, .int .u32 0, .slice none 0 0, .int .i64 0, .int .i64 0, .slice none 0 0], .bool false]))) := by
  have hmf : ∀ (fn : Fn) (first cap : Array Value) (w : World), (Instr.makeFunc fn first cap).run Tryd.prog w = .ok (.func fn first cap) w := fun _ _ _ _ => rfl
  have HC := iC.mk hC
  obtain ⟨WR, hWR⟩ : ∃ WR, WR = ((w.alloc (.cells #[.int .u8 0, .int .u32 0, .int .u32 0, .slice none 0 0, .slice none 0 0, .int .u32 0, .slice none 0 0, .int .i64 0, .int .i64 0, .slice none 0 0] 30)).alloc (.cells #[.bool false] 4)).alloc (.cells #[.slice A l.length c] 151) := ⟨_, rfl⟩
  have HW := iC.mk hWR
  have hB : Below w.heap.size w WR := by rw [hWR]; exact iF (iF (iF (Below.refl _ _) _) _) _
  have HR := iC.mk (show Rd w WR (w.heap.size + 2) l from ⟨A, c, by rw [hWR]; exact iV (by simp), hc, hC⟩)
  have HX := iC.mk (show WR.heap[w.heap.size]? = some (.cells #[.int .u8 0, .int .u32 0, .int .u32 0, .slice none 0 0, .slice none 0 0, .int .u32 0, .slice none 0 0, .int .i64 0, .int .i64 0, .slice none 0 0] 30 (0, 0)) from by rw [hWR]; exact jI (jI (iV rfl)))
  have HI := iC.mk (show WR.heap[w.heap.size + 1]? = some (.cells #[.bool false] 4 (0, 0)) from by rw [hWR]; exact jI (iV (by simp)))
  have HB := iC.mk hB
  have hsz : WR.heap.size = w.heap.size + 3 := by rw [hWR]; simp
  clear hC hWR hB
  go_enter_defers Tryd.func74, Tryd.ntmps74
  go_wp2_with fail
  rw [← HW.out]
  refine (TS (w.heap.size + 2) l w WR HR.out HB.out (by omega) hm).mono ?_
  intro e w1 hpp
  cases hp : recP l with
  | none =>
    obtain ⟨rfl, hG⟩ := hpp.short hp
    clear hpp
    have hx1 := (hG.block _ (jR HX.out) (fun e => by injection e with e; omega)).trans HX.out
    have hi1 := (hG.block _ (jR HI.out) (fun e => by injection e with e; omega)).trans HI.out
    have HX1 := iC.mk hx1
    have HI1 := iC.mk hi1
    clear hx1 hi1
    go_wp2
    refine leaves_cons (f := 96) (args := #[.pointer (some ⟨w.heap.size, 0, none⟩), .pointer (some ⟨w.heap.size + 1, 0, none⟩)]) (by simp) (by simp [go_sem]) ?_
    refine (LH w.heap.size (w.heap.size + 1) w1 HX1.out HI1.out (by omega)).mono ?_
    rintro e u' w2 ⟨rfl, rfl, rfl⟩
    have hB2 := below_grown HB.out hG (by omega) (Nat.le_refl _)
    have hx2 := (zL (i := 0) (.bool false) (show w.heap.size ≠ w.heap.size + 1 by omega)).trans (setRow_heap (w1.alloc (.cells #[] 148)) w.heap.size _ #[.int .u8 0, .int .u32 0, .int .u32 0, .slice none 0 0, .slice none 0 0, .int .u32 0, .slice none 0 0, .int .i64 0, .int .i64 0, .slice none 0 0] _ _ (jI HX1.out))
    have hi2 := JG (.bool false) ((setRow_other (w1.alloc (.cells #[] 148)) w.heap.size (w.heap.size + 1) #[.int .u8 0, .int .u32 0, .int .u32 0, .slice none 0 0, .slice none 0 0, .int .u32 0, .slice none 0 0, .int .i64 0, .int .i64 0, .slice none 0 0] (by omega)).trans (jI HI1.out))
    refine JH rfl rfl hx2 rfl hi2 ⟨?_, .inr ⟨hp, rfl⟩⟩
    exact iM (below_grown (iF hB2 _) (jC _ w.heap.size _) (Nat.le_refl _) (Nat.le_refl _)) (by show _ ≤ _; simp)
  | some y =>
    obtain ⟨x, r⟩ := y
    obtain ⟨v, rfl, hv, hR, hG⟩ := hpp.ok hp
    obtain ⟨v3, v4, v6, v9, rfl, h3, h4, h6, h9⟩ := hv
    obtain ⟨A3, d3, rfl⟩ := Kd.R_slice h3
    obtain ⟨A4, d4, rfl⟩ := Kd.R_slice h4
    obtain ⟨A6, d6, rfl⟩ := Kd.R_slice h6
    obtain ⟨A9, d9, rfl⟩ := Kd.R_slice h9
    have hx1 := (hG.block _ (jR HX.out) (fun e => by injection e with e; omega)).trans HX.out
    have hi1 := (hG.block _ (jR HI.out) (fun e => by injection e with e; omega)).trans HI.out
    have hs1 := fun (_ : True) => nO (a := x.f0) (k := x.f1) (i := x.f2) (x3 := .slice A3 x.f3.length d3) (x4 := .slice A4 x.f4.length d4) (j := x.f5.f0) (x6 := .slice A6 x.f5.f1.length d6) (p := x.f6) (q := x.f7) (x9 := .slice A9 x.f8.length d9) hx1 rfl rfl rfl rfl
    have hi2 := (setRow_other w1 w.heap.size (w.heap.size + 1) #[.int .u8 x.f0, .int .u32 x.f1, .int .u32 x.f2, .slice A3 x.f3.length d3, .slice A4 x.f4.length d4, .int .u32 x.f5.f0, .slice A6 x.f5.f1.length d6, .int .i64 x.f6, .int .i64 x.f7, .slice A9 x.f8.length d9] (by omega)).trans hi1
    have hs2 := fun (_ : True) => RV true hi2
    have HX1 := iC.mk hx1
    have HI2 := iC.mk hi2
    clear hpp hx1 hi1 hi2
    go_wp2
    refine leaves_cons (f := 96) (args := #[.pointer (some ⟨w.heap.size, 0, none⟩), .pointer (some ⟨w.heap.size + 1, 0, none⟩)]) (by simp) (by simp [go_sem]) ?_
    refine (O9 w.heap.size (w.heap.size + 1) _).mono ?_
    rintro e u' w2 ⟨rfl, rfl, rfl⟩
    have hB2 := below_grown HB.out hG (by omega) (Nat.le_refl _)
    have hx2 := (zL (i := 0) (.bool true) (show w.heap.size ≠ w.heap.size + 1 by omega)).trans (setRow_heap w1 w.heap.size _ #[.int .u8 x.f0, .int .u32 x.f1, .int .u32 x.f2, .slice A3 x.f3.length d3, .slice A4 x.f4.length d4, .int .u32 x.f5.f0, .slice A6 x.f5.f1.length d6, .int .i64 x.f6, .int .i64 x.f7, .slice A9 x.f8.length d9] _ _ HX1.out)
    have hi2 := JG (.bool true) HI2.out
    refine JH rfl rfl hx2 rfl hi2 ⟨?_, .inl ⟨x, r, _, hp, rfl, ?_⟩⟩
    · exact iM (below_grown hB2 (jC _ w.heap.size _) (Nat.le_refl _) (Nat.le_refl _)) (by show _ ≤ _; simp)
    · exact zB (kQ (kQ ⟨_, _, _, _, rfl, h3, h4, h6, h9⟩ (jC w1 w.heap.size _) (by omega)) (JF _ (w.heap.size + 1) 0 _) (by omega)) (by omega)
end Go.Proofs.YtgfkgppomaapiaaDoor.K
end

section
namespace Go.Proofs
open Go.Shelf
def Tryd.laysM181_ren : Go.Shelf.Ren := ⟨fun | 181 => 55 | n => n, fun | 130 => 87 | 3 => 3 | 0 => 0 | 93 => 91 | 37 => 33 | 91 => 89 | 5 => 5 | n => n, fun | n => n⟩
theorem Tryd.laysM181 : Go.Proofs.LaysM.n181 Tryd.prog Tryd.laysM181_ren := {
  mixed := by kernel_rfl
  f181 := Tryd.func55.trans (congrArg some (by kernel_rfl))
  t0 := Tryd.underlying0
  a0 := Tryd.isAgg0
  z0 := Tryd.sizeOf0
  v0 := Tryd.zeroValue0
  t3 := Tryd.underlying3
  a3 := Tryd.isAgg3
  z3 := Tryd.sizeOf3
  v3 := Tryd.zeroValue3
  t37 := Tryd.underlying33
  a37 := Tryd.isAgg33
  z37 := Tryd.sizeOf33
  v37 := Tryd.zeroValue33
  t93 := Tryd.underlying91
  a93 := Tryd.isAgg91
  z93 := Tryd.sizeOf91
  v93 := Tryd.zeroValue91
  t130 := Tryd.underlying87
  a130 := Tryd.isAgg87
  z130 := Tryd.sizeOf87
  v130 := Tryd.zeroValue87
  t5 := Tryd.underlying5
  a5 := Tryd.isAgg5
  z5 := Tryd.sizeOf5
  v5 := Tryd.zeroValue5
  t91 := Tryd.underlying89
  a91 := Tryd.isAgg89
  z91 := Tryd.sizeOf89
  v91 := Tryd.zeroValue89
  i0 := by kernel_rfl
  i3 := by kernel_rfl
  i5 := by kernel_rfl
  i37 := by kernel_rfl
  i91 := by kernel_rfl
  i93 := by kernel_rfl
  i130 := by kernel_rfl }
open Go.RowKit in
theorem Tryd.Buffer_Len (B b : Nat) (bs : List Value) (w : World) (h : Lib.IsBuffer 91 5 B b bs w) :
    Calls Tryd.prog 55 #[.pointer (some ⟨b, 0, none⟩)] w fun e w' => e = .returned (.int .i64 bs.length) ∧ ∃ n, w' = w.drewN n := Any.Buffer_Len Tryd.laysM181 B b bs w h
def Tryd.laysM183_ren : Go.Shelf.Ren := ⟨fun | 183 => 56 | n => n, fun | 130 => 87 | 37 => 33 | 0 => 0 | 93 => 91 | 3 => 3 | 5 => 5 | 91 => 89 | n => n, fun | n => n⟩
theorem Tryd.laysM183 : Go.Proofs.LaysM.n183 Tryd.prog Tryd.laysM183_ren := {
  mixed := by kernel_rfl
  f183 := Tryd.func56.trans (congrArg some (by kernel_rfl))
  t0 := Tryd.underlying0
  a0 := Tryd.isAgg0
  z0 := Tryd.sizeOf0
  v0 := Tryd.zeroValue0
  t3 := Tryd.underlying3
  a3 := Tryd.isAgg3
  z3 := Tryd.sizeOf3
  v3 := Tryd.zeroValue3
  t37 := Tryd.underlying33
  a37 := Tryd.isAgg33
  z37 := Tryd.sizeOf33
  v37 := Tryd.zeroValue33
  t93 := Tryd.underlying91
  a93 := Tryd.isAgg91
  z93 := Tryd.sizeOf91
  v93 := Tryd.zeroValue91
  t130 := Tryd.underlying87
  a130 := Tryd.isAgg87
  z130 := Tryd.sizeOf87
  v130 := Tryd.zeroValue87
  t5 := Tryd.underlying5
  a5 := Tryd.isAgg5
  z5 := Tryd.sizeOf5
  v5 := Tryd.zeroValue5
  t91 := Tryd.underlying89
  a91 := Tryd.isAgg89
  z91 := Tryd.sizeOf89
  v91 := Tryd.zeroValue89
  i0 := by kernel_rfl
  i3 := by kernel_rfl
  i5 := by kernel_rfl
  i37 := by kernel_rfl
  i91 := by kernel_rfl
  i93 := by kernel_rfl
  i130 := by kernel_rfl }
open Go.RowKit in
theorem Tryd.Buffer_Bytes (B b : Nat) (bs : List Value) (w : World) (h : Lib.IsBuffer 91 5 B b bs w) :
    Calls Tryd.prog 56 #[.pointer (some ⟨b, 0, none⟩)] w fun e w' => ∃ v, e = .returned v ∧ w'.ownsRow B 5 1 v bs.length bs ∧ ∃ n, w' = w.drewN n := Any.Buffer_Bytes Tryd.laysM183 B b bs w h
def Tryd.laysM179_ren : Go.Shelf.Ren := ⟨fun | 179 => 90 | 251 => 114 | 252 => 115 | 181 => 55 | 184 => 125 | 290 => 128 | 324 => 132 | n => n, fun | 130 => 87 | 5 => 5 | 75 => 141 | 0 => 0 | 93 => 91 | 91 => 89 | 3 => 3 | 131 => 167 | 4 => 4 | 37 => 33 | 20 => 20 | 80 => 185 | 9 => 9 | n => n, fun | 14 => 0 | n => n⟩
theorem Tryd.laysM179 : Go.Proofs.LaysM.n179 Tryd.prog Tryd.laysM179_ren := {
  mixed := by kernel_rfl
  f179 := Tryd.func90.trans (congrArg some (by kernel_rfl))
  f181 := Tryd.func55.trans (congrArg some (by kernel_rfl))
  f184 := Tryd.func125.trans (congrArg some (by kernel_rfl))
  f251 := Tryd.func114.trans (congrArg some (by kernel_rfl))
  f252 := Tryd.func115.trans (congrArg some (by kernel_rfl))
  f290 := Tryd.func128.trans (congrArg some (by kernel_rfl))
  f324 := Tryd.func132.trans (congrArg some (by kernel_rfl))
  t0 := Tryd.underlying0
  a0 := Tryd.isAgg0
  z0 := Tryd.sizeOf0
  v0 := Tryd.zeroValue0
  t3 := Tryd.underlying3
  a3 := Tryd.isAgg3
  z3 := Tryd.sizeOf3
  v3 := Tryd.zeroValue3
  t4 := Tryd.underlying4
  a4 := Tryd.isAgg4
  z4 := Tryd.sizeOf4
  v4 := Tryd.zeroValue4
  t5 := Tryd.underlying5
  a5 := Tryd.isAgg5
  z5 := Tryd.sizeOf5
  v5 := Tryd.zeroValue5
  t20 := Tryd.underlying20
  a20 := Tryd.isAgg20
  z20 := Tryd.sizeOf20
  v20 := Tryd.zeroValue20
  t37 := Tryd.underlying33
  a37 := Tryd.isAgg33
  z37 := Tryd.sizeOf33
  v37 := Tryd.zeroValue33
  t75 := Tryd.underlying141
  a75 := Tryd.isAgg141
  z75 := Tryd.sizeOf141
  v75 := Tryd.zeroValue141
  t91 := Tryd.underlying89
  a91 := Tryd.isAgg89
  z91 := Tryd.sizeOf89
  v91 := Tryd.zeroValue89
  t93 := Tryd.underlying91
  a93 := Tryd.isAgg91
  z93 := Tryd.sizeOf91
  v93 := Tryd.zeroValue91
  t130 := Tryd.underlying87
  a130 := Tryd.isAgg87
  z130 := Tryd.sizeOf87
  v130 := Tryd.zeroValue87
  t131 := Tryd.underlying167
  a131 := Tryd.isAgg167
  z131 := Tryd.sizeOf167
  v131 := Tryd.zeroValue167
  g14 := by kernel_rfl
  t9 := Tryd.underlying9
  a9 := Tryd.isAgg9
  z9 := Tryd.sizeOf9
  v9 := Tryd.zeroValue9
  t80 := Tryd.underlying185
  a80 := Tryd.isAgg185
  z80 := Tryd.sizeOf185
  v80 := Tryd.zeroValue185
  i0 := by kernel_rfl
  i3 := by kernel_rfl
  i4 := by kernel_rfl
  i5 := by kernel_rfl
  i9 := by kernel_rfl
  i20 := by kernel_rfl
  i37 := by kernel_rfl
  i75 := by kernel_rfl
  i80 := by kernel_rfl
  i91 := by kernel_rfl
  i93 := by kernel_rfl
  i130 := by kernel_rfl
  i131 := by kernel_rfl
  m14 := by kernel_rfl }
open Go.RowKit in
theorem Tryd.Buffer_WriteByte_kept (B b : Nat) (bs : List Value) (c : Int) (w : World) (h : Lib.IsBuffer 91 5 B b bs w) (hBw : B ≤ w.heap.size) (h1 : ∀ v ∈ bs, v.oneCell' = true) (hlim : bs.length + 1 ≤ 140737488355328) :
    Calls Tryd.prog 90 #[.pointer (some ⟨b, 0, none⟩), .int .u8 c] w fun e w' => e = .returned .nilIface ∧ Lib.IsBuffer 91 5 B b (bs ++ [.int .u8 c]) w' ∧ Below B w w' ∧ Lib.OthersKept 5 (some b) w w' := Any.Buffer_WriteByte_kept Tryd.laysM179 B b bs c w h hBw h1 hlim
end Go.Proofs
end

section
namespace Go.Proofs.YtgfkgppomaapiaaDoor.K
open RowKit YtgfkgppomaapiaaDoorW.PrintWords YtgfkgppomaapiaaDoorW.PrintLast YtgfkgppomaapiaaDoorW.PrintMore My
def Bf (B b : Nat) (l : List UInt8) (w : World) : Prop := Lib.IsBuffer 91 5 B b (Lib.byteCells l) w
def Kp (B b : Nat) (w w' : World) : Prop := Below B w w' ∧ Lib.OthersKept 5 (some b) w w'
theorem Kp.refl (B b : Nat) (w : World) : Kp B b w w := ⟨Below.refl _ _, Lib.OthersKept.refl _ _ _⟩
theorem Kp.trans {B b : Nat} {w w1 w2 : World} (h : Kp B b w w1) (k : Kp B b w1 w2) : Kp B b w w2 := ⟨h.1.trans k.1, h.2.trans k.2⟩
theorem Kp.alloc {B b : Nat} {w w1 : World} (h : Kp B b w w1) (hB : B ≤ w1.heap.size) (o : Obj) : Kp B b w (w1.alloc o) := ⟨h.1.alloc hB o, h.2.alloc o⟩
theorem Kp.size {B b : Nat} {w w1 : World} (h : Kp B b w w1) : w.heap.size ≤ w1.heap.size := h.1.size
theorem Kp.block {B b : Nat} {w w1 : World} (h : Kp B b w w1) {k : Nat} {cs : Array Value} {t : TypeId} {fz : Nat × Nat} (hk : w.heap[k]? = some (.cells cs t fz)) (hne : k ≠ b) (ht : t ≠ 5) : w1.heap[k]? = some (.cells cs t fz) :=
  h.2 k _ hk (fun e => hne (by injection e)) (fun c f e => ht (by injection e))
theorem Bf.lt {B b : Nat} {l : List UInt8} {w : World} (h : Bf B b l w) : b < w.heap.size := Lib.IsBuffer.lt h
theorem Bf.alloc {B b : Nat} {l : List UInt8} {w : World} (h : Bf B b l w) (o : Obj) : Bf B b l (w.alloc o) := Lib.IsBuffer.alloc h o
theorem Bf.fresh (w : World) : Bf w.heap.size w.heap.size [] (w.alloc (.cells #[.slice none 0 0, .int .i64 0, .int .i8 0] 91)) := Lib.fresh_isBuffer _ _ _
theorem OW (l : List UInt8) (c : UInt8) : Lib.byteCells (l ++ [c]) = Lib.byteCells l ++ [.int .u8 (c.toNat : Int)] := by simp [Lib.byteCells]
theorem U4 (x : Int) (s k : Nat) (hk : k < s) : (layB x s).take (k + 1) = (layB x s).take k ++ [UInt8.ofNat ((x / 256 ^ (s - 1 - k)) % 256).toNat] := by
  induction s generalizing k with
  | zero => omega
  | succ s ih =>
    cases k with
    | zero => simp [layB]
    | succ k =>
      have := ih k (by omega)
      simp only [layB, List.take_succ_cons, List.cons_append]
      rw [this, show s + 1 - 1 - (k + 1) = s - 1 - k by omega]
theorem byte_of (v : Int) : ((UInt8.ofNat (v % 256).toNat).toNat : Int) = v % 256 := by
  rw [UInt8.toNat_ofNat']
  omega
theorem Bf.step {B b : Nat} {l : List UInt8} {x V : Int} {s k : Nat} {w : World} (h : Lib.IsBuffer 91 5 B b (Lib.byteCells (l ++ (layB x s).take k) ++ [.int .u8 V]) w) (hk : k < s) (hV : V = x / 256 ^ (s - 1 - k) % 256) : Bf B b (l ++ (layB x s).take (k + 1)) w := by
  unfold Bf
  rw [U4 x s k hk, ← List.append_assoc, OW, byte_of, ← hV]
  exact h
theorem cells_one (l : List UInt8) : ∀ v ∈ Lib.byteCells l, v.oneCell' = true := Lib.byteCells_one l
theorem kJ (l : List UInt8) (x : Int) (s k : Nat) (h : l.length + s ≤ 140737488355328) (hk : k < s) : (Lib.byteCells (l ++ (layB x s).take k)).length + 1 ≤ 140737488355328 := by
  rw [Lib.byteCells_length, List.length_append, List.length_take, iP]
  omega
set_option maxHeartbeats 4000000 in
theorem oC (B b : Nat) (l : List UInt8) (x : Int) (w : World) (h : Bf B b l w) (hB : B ≤ w.heap.size) (hl : l.length + 1 ≤ 140737488355328) :
    Calls Tryd.prog 49 #[.pointer (some ⟨b, 0, none⟩), .int .u8 x, .int .i64 1] w fun e w' => e = .returned (.tuple #[]) ∧ Bf B b (l ++ layB x 1) w' ∧ Kp B b w w' := by
  have H0 := iC.mk h
  clear h
  go_enter Tryd.func49, Tryd.ntmps49
  go_wp2
  go_loopw [8] (fun i wr => ∃ k : Nat, k ≤ 1 ∧ i = .int .i64 k ∧ iC (Bf B b (l ++ (layB x 1).take k) wr) ∧ iC (Kp B b w wr)) (fun i _ => 1 - (intOf i).toNat)
  case atStart => exact ⟨0, Nat.zero_le _, rfl, ⟨by rw [List.take_zero, List.append_nil]; exact H0.out⟩, ⟨Kp.refl _ _ _⟩⟩
  case round =>
    obtain ⟨k, hk, rfl, HI, HK⟩ := hrel
    have h' : k = 0 ∨ k = 1 := by omega
    rcases h' with rfl | rfl
    · have hI := HI.out
      have hK := HK.out
      clear HI HK
      go_wp2_with (go_at_call 90; refine (Tryd.Buffer_WriteByte_kept B b _ _ wr hI (Nat.le_trans hB hK.size) (cells_one _) (kJ l x 1 0 hl (by omega))).mono ?_; rintro e w1 ⟨rfl, hI1, hb1, hk1⟩; have HI1 := iC.mk hI1; have HK1 := iC.mk (hK.trans ⟨hb1, hk1⟩); clear hI1 hb1 hk1 hI hK)
      go_roundw
      case rel => exact ⟨1, by omega, by go_num, ⟨Bf.step (k := 0) HI1.out (by omega) (by first | rfl | (show _ = x / 1 % 256; rw [IntKind.wrap_u64]; omega) | (show _ = x / 1 % 256; omega))⟩, HK1⟩
      case measure => simp [intOf]
    · go_wp2
      go_end0
      refine ⟨rfl, ?_, HK.out⟩
      have := HI.out
      rwa [List.take_of_length_le (by rw [iP]; exact Nat.le_refl _)] at this
set_option maxHeartbeats 4000000 in
theorem lD (B b : Nat) (l : List UInt8) (x : Int) (w : World) (h : Bf B b l w) (hB : B ≤ w.heap.size) (hl : l.length + 4 ≤ 140737488355328) :
    Calls Tryd.prog 50 #[.pointer (some ⟨b, 0, none⟩), .int .u32 x, .int .i64 4] w fun e w' => e = .returned (.tuple #[]) ∧ Bf B b (l ++ layB x 4) w' ∧ Kp B b w w' := by
  have H0 := iC.mk h
  clear h
  go_enter Tryd.func50, Tryd.ntmps50
  go_wp2
  go_loopw [8] (fun i wr => ∃ k : Nat, k ≤ 4 ∧ i = .int .i64 k ∧ iC (Bf B b (l ++ (layB x 4).take k) wr) ∧ iC (Kp B b w wr)) (fun i _ => 4 - (intOf i).toNat)
  case atStart => exact ⟨0, Nat.zero_le _, rfl, ⟨by rw [List.take_zero, List.append_nil]; exact H0.out⟩, ⟨Kp.refl _ _ _⟩⟩
  case round =>
    obtain ⟨k, hk, rfl, HI, HK⟩ := hrel
    have h' : k = 0 ∨ k = 1 ∨ k = 2 ∨ k = 3 ∨ k = 4 := by omega
    rcases h' with rfl | rfl | rfl | rfl | rfl
    · have hI := HI.out
      have hK := HK.out
      clear HI HK
      go_wp2_with (go_at_call 90; refine (Tryd.Buffer_WriteByte_kept B b _ _ wr hI (Nat.le_trans hB hK.size) (cells_one _) (kJ l x 4 0 hl (by omega))).mono ?_; rintro e w1 ⟨rfl, hI1, hb1, hk1⟩; have HI1 := iC.mk hI1; have HK1 := iC.mk (hK.trans ⟨hb1, hk1⟩); clear hI1 hb1 hk1 hI hK)
      go_roundw
      case rel => exact ⟨1, by omega, by go_num, ⟨Bf.step (k := 0) HI1.out (by omega) (by first | rfl | (show _ = x / 16777216 % 256; rw [IntKind.wrap_u64]; omega) | (show _ = x / 16777216 % 256; omega))⟩, HK1⟩
      case measure => simp [intOf]
    · have hI := HI.out
      have hK := HK.out
      clear HI HK
      go_wp2_with (go_at_call 90; refine (Tryd.Buffer_WriteByte_kept B b _ _ wr hI (Nat.le_trans hB hK.size) (cells_one _) (kJ l x 4 1 hl (by omega))).mono ?_; rintro e w1 ⟨rfl, hI1, hb1, hk1⟩; have HI1 := iC.mk hI1; have HK1 := iC.mk (hK.trans ⟨hb1, hk1⟩); clear hI1 hb1 hk1 hI hK)
      go_roundw
      case rel => exact ⟨2, by omega, by go_num, ⟨Bf.step (k := 1) HI1.out (by omega) (by first | rfl | (show _ = x / 65536 % 256; rw [IntKind.wrap_u64]; omega) | (show _ = x / 65536 % 256; omega))⟩, HK1⟩
      case measure => simp [intOf]
    · have hI := HI.out
      have hK := HK.out
      clear HI HK
      go_wp2_with (go_at_call 90; refine (Tryd.Buffer_WriteByte_kept B b _ _ wr hI (Nat.le_trans hB hK.size) (cells_one _) (kJ l x 4 2 hl (by omega))).mono ?_; rintro e w1 ⟨rfl, hI1, hb1, hk1⟩; have HI1 := iC.mk hI1; have HK1 := iC.mk (hK.trans ⟨hb1, hk1⟩); clear hI1 hb1 hk1 hI hK)
      go_roundw
      case rel => exact ⟨3, by omega, by go_num, ⟨Bf.step (k := 2) HI1.out (by omega) (by first | rfl | (show _ = x / 256 % 256; rw [IntKind.wrap_u64]; omega) | (show _ = x / 256 % 256; omega))⟩, HK1⟩
      case measure => simp [intOf]
    · have hI := HI.out
      have hK := HK.out
      clear HI HK
      go_wp2_with (go_at_call 90; refine (Tryd.Buffer_WriteByte_kept B b _ _ wr hI (Nat.le_trans hB hK.size) (cells_one _) (kJ l x 4 3 hl (by omega))).mono ?_; rintro e w1 ⟨rfl, hI1, hb1, hk1⟩; have HI1 := iC.mk hI1; have HK1 := iC.mk (hK.trans ⟨hb1, hk1⟩); clear hI1 hb1 hk1 hI hK)
      go_roundw
      case rel => exact ⟨4, by omega, by go_num, ⟨Bf.step (k := 3) HI1.out (by omega) (by first | rfl | (show _ = x / 1 % 256; rw [IntKind.wrap_u64]; omega) | (show _ = x / 1 % 256; omega))⟩, HK1⟩
      case measure => simp [intOf]
    · go_wp2
      go_end0
      refine ⟨rfl, ?_, HK.out⟩
      have := HI.out
      rwa [List.take_of_length_le (by rw [iP]; exact Nat.le_refl _)] at this
set_option maxHeartbeats 4000000 in
theorem pV (B b : Nat) (l : List UInt8) (x : Int) (w : World) (h : Bf B b l w) (hB : B ≤ w.heap.size) (hl : l.length + 1 ≤ 140737488355328) :
    Calls Tryd.prog 53 #[.pointer (some ⟨b, 0, none⟩), .int .i64 x, .int .i64 1] w fun e w' => e = .returned (.tuple #[]) ∧ Bf B b (l ++ layB x 1) w' ∧ Kp B b w w' := by
  have H0 := iC.mk h
  clear h
  go_enter Tryd.func53, Tryd.ntmps53
  go_wp2
  go_loopw [8] (fun i wr => ∃ k : Nat, k ≤ 1 ∧ i = .int .i64 k ∧ iC (Bf B b (l ++ (layB x 1).take k) wr) ∧ iC (Kp B b w wr)) (fun i _ => 1 - (intOf i).toNat)
  case atStart => exact ⟨0, Nat.zero_le _, rfl, ⟨by rw [List.take_zero, List.append_nil]; exact H0.out⟩, ⟨Kp.refl _ _ _⟩⟩
  case round =>
    obtain ⟨k, hk, rfl, HI, HK⟩ := hrel
    have h' : k = 0 ∨ k = 1 := by omega
    rcases h' with rfl | rfl
    · have hI := HI.out
      have hK := HK.out
      clear HI HK
      go_wp2_with (go_at_call 90; refine (Tryd.Buffer_WriteByte_kept B b _ _ wr hI (Nat.le_trans hB hK.size) (cells_one _) (kJ l x 1 0 hl (by omega))).mono ?_; rintro e w1 ⟨rfl, hI1, hb1, hk1⟩; have HI1 := iC.mk hI1; have HK1 := iC.mk (hK.trans ⟨hb1, hk1⟩); clear hI1 hb1 hk1 hI hK)
      go_roundw
      case rel => exact ⟨1, by omega, by go_num, ⟨Bf.step (k := 0) HI1.out (by omega) (by first | rfl | (show _ = x / 1 % 256; rw [IntKind.wrap_u64]; omega) | (show _ = x / 1 % 256; omega))⟩, HK1⟩
      case measure => simp [intOf]
    · go_wp2
      go_end0
      refine ⟨rfl, ?_, HK.out⟩
      have := HI.out
      rwa [List.take_of_length_le (by rw [iP]; exact Nat.le_refl _)] at this
set_option maxHeartbeats 4000000 in
theorem nP (B b : Nat) (l : List UInt8) (x : Int) (w : World) (h : Bf B b l w) (hB : B ≤ w.heap.size) (hl : l.length + 4 ≤ 140737488355328) :
    Calls Tryd.prog 53 #[.pointer (some ⟨b, 0, none⟩), .int .i64 x, .int .i64 4] w fun e w' => e = .returned (.tuple #[]) ∧ Bf B b (l ++ layB x 4) w' ∧ Kp B b w w' := by
  have H0 := iC.mk h
  clear h
  go_enter Tryd.func53, Tryd.ntmps53
  go_wp2
  go_loopw [8] (fun i wr => ∃ k : Nat, k ≤ 4 ∧ i = .int .i64 k ∧ iC (Bf B b (l ++ (layB x 4).take k) wr) ∧ iC (Kp B b w wr)) (fun i _ => 4 - (intOf i).toNat)
  case atStart => exact ⟨0, Nat.zero_le _, rfl, ⟨by rw [List.take_zero, List.append_nil]; exact H0.out⟩, ⟨Kp.refl _ _ _⟩⟩
  case round =>
    obtain ⟨k, hk, rfl, HI, HK⟩ := hrel
    have h' : k = 0 ∨ k = 1 ∨ k = 2 ∨ k = 3 ∨ k = 4 := by omega
    rcases h' with rfl | rfl | rfl | rfl | rfl
    · have hI := HI.out
      have hK := HK.out
      clear HI HK
      go_wp2_with (go_at_call 90; refine (Tryd.Buffer_WriteByte_kept B b _ _ wr hI (Nat.le_trans hB hK.size) (cells_one _) (kJ l x 4 0 hl (by omega))).mono ?_; rintro e w1 ⟨rfl, hI1, hb1, hk1⟩; have HI1 := iC.mk hI1; have HK1 := iC.mk (hK.trans ⟨hb1, hk1⟩); clear hI1 hb1 hk1 hI hK)
      go_roundw
      case rel => exact ⟨1, by omega, by go_num, ⟨Bf.step (k := 0) HI1.out (by omega) (by first | rfl | (show _ = x / 16777216 % 256; rw [IntKind.wrap_u64]; omega) | (show _ = x / 16777216 % 256; omega))⟩, HK1⟩
      case measure => simp [intOf]
    · have hI := HI.out
      have hK := HK.out
      clear HI HK
      go_wp2_with (go_at_call 90; refine (Tryd.Buffer_WriteByte_kept B b _ _ wr hI (Nat.le_trans hB hK.size) (cells_one _) (kJ l x 4 1 hl (by omega))).mono ?_; rintro e w1 ⟨rfl, hI1, hb1, hk1⟩; have HI1 := iC.mk hI1; have HK1 := iC.mk (hK.trans ⟨hb1, hk1⟩); clear hI1 hb1 hk1 hI hK)
      go_roundw
      case rel => exact ⟨2, by omega, by go_num, ⟨Bf.step (k := 1) HI1.out (by omega) (by first | rfl | (show _ = x / 65536 % 256; rw [IntKind.wrap_u64]; omega) | (show _ = x / 65536 % 256; omega))⟩, HK1⟩
      case measure => simp [intOf]
    · have hI := HI.out
      have hK := HK.out
      clear HI HK
      go_wp2_with (go_at_call 90; refine (Tryd.Buffer_WriteByte_kept B b _ _ wr hI (Nat.le_trans hB hK.size) (cells_one _) (kJ l x 4 2 hl (by omega))).mono ?_; rintro e w1 ⟨rfl, hI1, hb1, hk1⟩; have HI1 := iC.mk hI1; have HK1 := iC.mk (hK.trans ⟨hb1, hk1⟩); clear hI1 hb1 hk1 hI hK)
      go_roundw
      case rel => exact ⟨3, by omega, by go_num, ⟨Bf.step (k := 2) HI1.out (by omega) (by first | rfl | (show _ = x / 256 % 256; rw [IntKind.wrap_u64]; omega) | (show _ = x / 256 % 256; omega))⟩, HK1⟩
      case measure => simp [intOf]
    · have hI := HI.out
      have hK := HK.out
      clear HI HK
      go_wp2_with (go_at_call 90; refine (Tryd.Buffer_WriteByte_kept B b _ _ wr hI (Nat.le_trans hB hK.size) (cells_one _) (kJ l x 4 3 hl (by omega))).mono ?_; rintro e w1 ⟨rfl, hI1, hb1, hk1⟩; have HI1 := iC.mk hI1; have HK1 := iC.mk (hK.trans ⟨hb1, hk1⟩); clear hI1 hb1 hk1 hI hK)
      go_roundw
      case rel => exact ⟨4, by omega, by go_num, ⟨Bf.step (k := 3) HI1.out (by omega) (by first | rfl | (show _ = x / 1 % 256; rw [IntKind.wrap_u64]; omega) | (show _ = x / 1 % 256; omega))⟩, HK1⟩
      case measure => simp [intOf]
    · go_wp2
      go_end0
      refine ⟨rfl, ?_, HK.out⟩
      have := HI.out
      rwa [List.take_of_length_le (by rw [iP]; exact Nat.le_refl _)] at this
set_option maxHeartbeats 4000000 in
theorem WC (B b : Nat) (l : List UInt8) (x : Int) (w : World) (h : Bf B b l w) (hB : B ≤ w.heap.size) (hl : l.length + 8 ≤ 140737488355328) :
    Calls Tryd.prog 91 #[.pointer (some ⟨b, 0, none⟩), .int .i64 x, .int .i64 8] w fun e w' => e = .returned (.tuple #[]) ∧ Bf B b (l ++ layB x 8) w' ∧ Kp B b w w' := by
  have H0 := iC.mk h
  clear h
  go_enter Tryd.func91, Tryd.ntmps91
  go_wp2
  go_loopw [8] (fun i wr => ∃ k : Nat, k ≤ 8 ∧ i = .int .i64 k ∧ iC (Bf B b (l ++ (layB x 8).take k) wr) ∧ iC (Kp B b w wr)) (fun i _ => 8 - (intOf i).toNat)
  case atStart => exact ⟨0, Nat.zero_le _, rfl, ⟨by rw [List.take_zero, List.append_nil]; exact H0.out⟩, ⟨Kp.refl _ _ _⟩⟩
  case round =>
    obtain ⟨k, hk, rfl, HI, HK⟩ := hrel
    have h' : k = 0 ∨ k = 1 ∨ k = 2 ∨ k = 3 ∨ k = 4 ∨ k = 5 ∨ k = 6 ∨ k = 7 ∨ k = 8 := by omega
    rcases h' with rfl | rfl | rfl | rfl | rfl | rfl | rfl | rfl | rfl
    · have hI := HI.out
      have hK := HK.out
      clear HI HK
      go_wp2_with (go_at_call 90; refine (Tryd.Buffer_WriteByte_kept B b _ _ wr hI (Nat.le_trans hB hK.size) (cells_one _) (kJ l x 8 0 hl (by omega))).mono ?_; rintro e w1 ⟨rfl, hI1, hb1, hk1⟩; have HI1 := iC.mk hI1; have HK1 := iC.mk (hK.trans ⟨hb1, hk1⟩); clear hI1 hb1 hk1 hI hK)
      go_roundw
      case rel => exact ⟨1, by omega, by go_num, ⟨Bf.step (k := 0) HI1.out (by omega) (by first | rfl | (show _ = x / 72057594037927936 % 256; rw [IntKind.wrap_u64]; omega) | (show _ = x / 72057594037927936 % 256; omega))⟩, HK1⟩
      case measure => simp [intOf]
    · have hI := HI.out
      have hK := HK.out
      clear HI HK
      go_wp2_with (go_at_call 90; refine (Tryd.Buffer_WriteByte_kept B b _ _ wr hI (Nat.le_trans hB hK.size) (cells_one _) (kJ l x 8 1 hl (by omega))).mono ?_; rintro e w1 ⟨rfl, hI1, hb1, hk1⟩; have HI1 := iC.mk hI1; have HK1 := iC.mk (hK.trans ⟨hb1, hk1⟩); clear hI1 hb1 hk1 hI hK)
      go_roundw
      case rel => exact ⟨2, by omega, by go_num, ⟨Bf.step (k := 1) HI1.out (by omega) (by first | rfl | (show _ = x / 281474976710656 % 256; rw [IntKind.wrap_u64]; omega) | (show _ = x / 281474976710656 % 256; omega))⟩, HK1⟩
      case measure => simp [intOf]
    · have hI := HI.out
      have hK := HK.out
      clear HI HK
      go_wp2_with (go_at_call 90; refine (Tryd.Buffer_WriteByte_kept B b _ _ wr hI (Nat.le_trans hB hK.size) (cells_one _) (kJ l x 8 2 hl (by omega))).mono ?_; rintro e w1 ⟨rfl, hI1, hb1, hk1⟩; have HI1 := iC.mk hI1; have HK1 := iC.mk (hK.trans ⟨hb1, hk1⟩); clear hI1 hb1 hk1 hI hK)
      go_roundw
      case rel => exact ⟨3, by omega, by go_num, ⟨Bf.step (k := 2) HI1.out (by omega) (by first | rfl | (show _ = x / 1099511627776 % 256; rw [IntKind.wrap_u64]; omega) | (show _ = x / 1099511627776 % 256; omega))⟩, HK1⟩
      case measure => simp [intOf]
    · have hI := HI.out
      have hK := HK.out
      clear HI HK
      go_wp2_with (go_at_call 90; refine (Tryd.Buffer_WriteByte_kept B b _ _ wr hI (Nat.le_trans hB hK.size) (cells_one _) (kJ l x 8 3 hl (by omega))).mono ?_; rintro e w1 ⟨rfl, hI1, hb1, hk1⟩; have HI1 := iC.mk hI1; have HK1 := iC.mk (hK.trans ⟨hb1, hk1⟩); clear hI1 hb1 hk1 hI hK)
      go_roundw
      case rel => exact ⟨4, by omega, by go_num, ⟨Bf.step (k := 3) HI1.out (by omega) (by first | rfl | (show _ = x / 4294967296 % 256; rw [IntKind.wrap_u64]; omega) | (show _ = x / 4294967296 % 256; omega))⟩, HK1⟩
      case measure => simp [intOf]
    · have hI := HI.out
      have hK := HK.out
      clear HI HK
      go_wp2_with (go_at_call 90; refine (Tryd.Buffer_WriteByte_kept B b _ _ wr hI (Nat.le_trans hB hK.size) (cells_one _) (kJ l x 8 4 hl (by omega))).mono ?_; rintro e w1 ⟨rfl, hI1, hb1, hk1⟩; have HI1 := iC.mk hI1; have HK1 := iC.mk (hK.trans ⟨hb1, hk1⟩); clear hI1 hb1 hk1 hI hK)
      go_roundw
      case rel => exact ⟨5, by omega, by go_num, ⟨Bf.step (k := 4) HI1.out (by omega) (by first | rfl | (show _ = x / 16777216 % 256; rw [IntKind.wrap_u64]; omega) | (show _ = x / 16777216 % 256; omega))⟩, HK1⟩
      case measure => simp [intOf]
    · have hI := HI.out
      have hK := HK.out
      clear HI HK
      go_wp2_with (go_at_call 90; refine (Tryd.Buffer_WriteByte_kept B b _ _ wr hI (Nat.le_trans hB hK.size) (cells_one _) (kJ l x 8 5 hl (by omega))).mono ?_; rintro e w1 ⟨rfl, hI1, hb1, hk1⟩; have HI1 := iC.mk hI1; have HK1 := iC.mk (hK.trans ⟨hb1, hk1⟩); clear hI1 hb1 hk1 hI hK)
      go_roundw
      case rel => exact ⟨6, by omega, by go_num, ⟨Bf.step (k := 5) HI1.out (by omega) (by first | rfl | (show _ = x / 65536 % 256; rw [IntKind.wrap_u64]; omega) | (show _ = x / 65536 % 256; omega))⟩, HK1⟩
      case measure => simp [intOf]
    · have hI := HI.out
      have hK := HK.out
      clear HI HK
      go_wp2_with (go_at_call 90; refine (Tryd.Buffer_WriteByte_kept B b _ _ wr hI (Nat.le_trans hB hK.size) (cells_one _) (kJ l x 8 6 hl (by omega))).mono ?_; rintro e w1 ⟨rfl, hI1, hb1, hk1⟩; have HI1 := iC.mk hI1; have HK1 := iC.mk (hK.trans ⟨hb1, hk1⟩); clear hI1 hb1 hk1 hI hK)
      go_roundw
      case rel => exact ⟨7, by omega, by go_num, ⟨Bf.step (k := 6) HI1.out (by omega) (by first | rfl | (show _ = x / 256 % 256; rw [IntKind.wrap_u64]; omega) | (show _ = x / 256 % 256; omega))⟩, HK1⟩
      case measure => simp [intOf]
    · have hI := HI.out
      have hK := HK.out
      clear HI HK
      go_wp2_with (go_at_call 90; refine (Tryd.Buffer_WriteByte_kept B b _ _ wr hI (Nat.le_trans hB hK.size) (cells_one _) (kJ l x 8 7 hl (by omega))).mono ?_; rintro e w1 ⟨rfl, hI1, hb1, hk1⟩; have HI1 := iC.mk hI1; have HK1 := iC.mk (hK.trans ⟨hb1, hk1⟩); clear hI1 hb1 hk1 hI hK)
      go_roundw
      case rel => exact ⟨8, by omega, by go_num, ⟨Bf.step (k := 7) HI1.out (by omega) (by first | rfl | (show _ = x / 1 % 256; rw [IntKind.wrap_u64]; omega) | (show _ = x / 1 % 256; omega))⟩, HK1⟩
      case measure => simp [intOf]
    · go_wp2
      go_end0
      refine ⟨rfl, ?_, HK.out⟩
      have := HI.out
      rwa [List.take_of_length_le (by rw [iP]; exact Nat.le_refl _)] at this
end Go.Proofs.YtgfkgppomaapiaaDoor.K
end

section
namespace Go.Proofs.YtgfkgppomaapiaaDoor.K
open RowKit YtgfkgppomaapiaaDoorW.PrintWords YtgfkgppomaapiaaDoorW.PrintLast YtgfkgppomaapiaaDoorW.PrintMore My
theorem kL {α : Type} (e : α → List UInt8) (z : α) (l : List α) (k : Nat) (h : k < l.length) : (l.take (k + 1)).flatMap e = (l.take k).flatMap e ++ e (l.getD k z) := by
  rw [lW z l k h, List.flatMap_append]
  simp
theorem nZ {α : Type} (e : α → List UInt8) (l : List α) (k : Nat) : ((l.take k).flatMap e).length ≤ (l.flatMap e).length := by
  conv => rhs; rw [← List.take_append_drop k l, List.flatMap_append, List.length_append]
  omega
theorem II (n : Nat) (l : List Int) : (l.flatMap (layB · n)).length = n * l.length := by
  induction l with
  | nil => rfl
  | cons x l ih => rw [List.flatMap_cons, List.length_append, ih, iP, List.length_cons, Nat.mul_add]; omega
theorem V5 (l : List Int) (k : Nat) : rd l (k : Int) = l.getD k 0 := by unfold rd; rw [Int.toNat_natCast]
set_option maxHeartbeats 2000000 in
theorem uF (b : Nat) (l : List UInt8) (A : Option Addr) (c : Nat) (ns : List Int) (w0 w : World) (h : Bf w0.heap.size b l w) (hb : Below w0.heap.size w0 w) (hr : Kd.C (Kd.int .i64) w0 A ns.length ns) (hl : l.length + 1 + ns.length ≤ 140737488355328) :
    Calls Tryd.prog 51 #[.pointer (some ⟨b, 0, none⟩), .slice A ns.length c] w fun e w' => e = .returned (.tuple #[]) ∧ Bf w0.heap.size b (l ++ lY ns) w' ∧ Kp w0.heap.size b w w' := by
  have HR := iC.mk hr
  have H0 := iC.mk h
  have HB0 := iC.mk hb
  have hm := lC hr
  clear hr h hb
  go_enter Tryd.func51, Tryd.ntmps51
  go_wp2_with (go_at_call 53; refine (pV _ _ l _ _ H0.out HB0.out.size (by omega)).mono ?_; rintro e w1 ⟨rfl, hI, hK⟩; have HI1 := iC.mk hI; have HK1 := iC.mk hK; clear hI hK)
  go_loopw [12] (fun i wr => ∃ k : Nat, k ≤ ns.length ∧ i = .int .i64 k ∧ iC (Bf w0.heap.size b (l ++ layB ns.length 1 ++ (ns.take k).flatMap (layB · 1)) wr) ∧ iC (Kp w0.heap.size b w wr)) (fun i _ => ns.length - (intOf i).toNat)
  case atStart => exact ⟨0, Nat.zero_le _, rfl, ⟨by rw [List.take_zero, List.flatMap_nil, List.append_nil]; exact HI1.out⟩, HK1⟩
  case round =>
    obtain ⟨k, hk, rfl, HI, HK⟩ := hrel
    clear HI1 HK1
    by_cases hlt : k < ns.length
    · obtain ⟨ad, rfl, hx⟩ := Kd.at_int (Kd.C_below HR.out (HB0.out.trans HK.out.1)) (k : Int) (by omega) (by omega)
      rw [V5, Int.toNat_natCast] at hx
      have hts := iC.mk (kL (layB · 1) 0 ns k hlt)
      have hlen : (l ++ layB ns.length 1 ++ (ns.take k).flatMap (layB · 1)).length + 1 ≤ 140737488355328 := by
        rw [List.length_append, List.length_append, iP, II, List.length_take]
        omega
      have HL := iC.mk hlen
      clear hlen
      generalize ns.getD k 0 = v at hx hts
      go_wp2_with (go_at_call 53; refine (pV _ _ _ _ _ HI.out (HB0.out.trans HK.out.1).size HL.out).mono ?_; rintro e w1 ⟨rfl, hI, hK⟩; have HI1 := iC.mk hI; have HK1 := iC.mk (HK.out.trans hK); clear hI hK)
      go_roundw
      case rel => exact ⟨k + 1, by omega, by go_num, ⟨by rw [hts.out, ← List.append_assoc]; exact HI1.out⟩, HK1⟩
      case measure => simp [intOf]; omega
    · obtain rfl : k = ns.length := by omega
      go_wp2
      go_end0
      refine ⟨rfl, ?_, HK.out⟩
      have := HI.out
      rw [List.take_length] at this
      rw [lY, ← List.append_assoc]
      exact this
def zH : jO := z139
theorem QM (l : List jO) (k : Nat) : iQ l (k : Int) = l.getD k zH := by unfold iQ zH; rw [Int.toNat_natCast]
theorem QQ (f : jO) : (nN f).length = 9 + 4 * f.f0.length := xA f
set_option maxHeartbeats 4000000 in
theorem yF (b : Nat) (l : List UInt8) (A : Option Addr) (c : Nat) (fs : List jO) (w0 w : World) (h : Bf w0.heap.size b l w) (hb : Below w0.heap.size w0 w) (hr : Kd.C k139 w0 A fs.length fs) (hl : l.length + (kZ fs).length ≤ 140737488355328) :
    Calls Tryd.prog 52 #[.pointer (some ⟨b, 0, none⟩), .slice A fs.length c] w fun e w' => e = .returned (.tuple #[]) ∧ Bf w0.heap.size b (l ++ kZ fs) w' ∧ Kp w0.heap.size b w w' := by
  have HR := iC.mk hr
  have H0 := iC.mk h
  have HB0 := iC.mk hb
  have hm := lC hr
  have hl' : l.length + 4 + (fs.flatMap nN).length ≤ 140737488355328 := by
    unfold kZ at hl
    rw [List.length_append, iP] at hl
    omega
  clear hr h hb hl
  go_enter Tryd.func52, Tryd.ntmps52
  go_wp2_with (go_at_call 53; refine (nP _ _ l _ _ H0.out HB0.out.size (by omega)).mono ?_; rintro e w1 ⟨rfl, hI, hK⟩; have HI1 := iC.mk hI; have HK1 := iC.mk hK; clear hI hK)
  go_loopw [14] (fun i wr => ∃ k : Nat, k ≤ fs.length ∧ i = .int .i64 k ∧ iC (Bf w0.heap.size b (l ++ layB fs.length 4 ++ (fs.take k).flatMap nN) wr) ∧ iC (Kp w0.heap.size b w wr)) (fun i _ => fs.length - (intOf i).toNat)
  case atStart => exact ⟨0, Nat.zero_le _, rfl, ⟨by rw [List.take_zero, List.flatMap_nil, List.append_nil]; exact HI1.out⟩, HK1⟩
  case round =>
    obtain ⟨k, hk, rfl, HI, HK⟩ := hrel
    clear HI1 HK1
    by_cases hlt : k < fs.length
    · obtain ⟨ad, A1, c1, rfl, hx0, hx1, hl1, hC1⟩ := kK (Kd.C_below HR.out (HB0.out.trans HK.out.1)) (k : Int) (by omega) (by omega)
      have hC0 : Kd.C (Kd.int .i64) w0 A1 (fs.getD k zH).f0.length (fs.getD k zH).f0 := by
        obtain ⟨ad2, A2, c2, e2, hy0, hy1, hl2, hC2⟩ := kK HR.out (k : Int) (by omega) (by omega)
        have hz := kC (HB0.out.trans HK.out.1) hy0
        injection e2 with e2
        subst e2
        rw [hx0] at hz
        injection hz with hz
        injection hz with hz1 hz2 hz3
        subst hz1
        rw [QM] at hC2
        exact hC2
      rw [QM] at hx0 hx1 hl1
      rw [Int.toNat_natCast] at hx0 hx1
      clear hC1
      have hts := iC.mk (kL nN zH fs k hlt)
      have hle := nZ nN fs (k + 1)
      rw [hts.out, List.length_append, QQ] at hle
      obtain ⟨f, hf⟩ : ∃ f, f = fs.getD k zH := ⟨_, rfl⟩
      rw [← hf] at hx0 hx1 hl1 hC0 hts hle
      clear hf
      have HC0 := iC.mk hC0
      have hkm := lC hC0
      obtain ⟨pre, hpre⟩ : ∃ p, p = l ++ layB fs.length 4 ++ (fs.take k).flatMap nN := ⟨_, rfl⟩
      have hpl : pre.length + 9 + 4 * f.f0.length ≤ 140737488355328 := by
        rw [hpre, List.length_append, List.length_append, iP]
        omega
      have hrest : l ++ layB fs.length 4 ++ (fs.take (k + 1)).flatMap nN = pre ++ nN f := by
        rw [hts.out, ← List.append_assoc, hpre]
      rw [← hpre] at HI
      have HREST := iC.mk hrest
      clear hts hpre hrest hle hC0 hl'
      obtain ⟨wo, rfl⟩ : ∃ wo : World, wo = wr := ⟨_, rfl⟩
      have HBX := iC.mk (Bf.alloc HI.out (.cells #[.slice A1 f.f0.length c1, .int .i64 f.f1] 139))
      have HKX := iC.mk (HK.out.alloc (HB0.out.trans HK.out.1).size (.cells #[.slice A1 f.f0.length c1, .int .i64 f.f1] 139))
      have hbne : w.heap.size ≤ w.heap.size := Nat.le_refl _
      have HNE := iC.mk (show wo.heap.size ≠ b from by have := HI.out.lt; omega)
      clear hbne
      go_wp2_with (go_at_call 53; refine (pV _ _ pre _ _ HBX.out (HB0.out.trans HKX.out.1).size (by omega)).mono ?_; rintro e w1 ⟨rfl, hI, hK⟩; have HI1 := iC.mk hI; have HK1 := iC.mk (HKX.out.trans hK); have hblk := hK.block (iV rfl) HNE.out (by decide); have HBL := iC.mk hblk; clear hI hK; have hz0 := (iE hblk 0); have hz1 := (iE hblk 1); have hz0 : w1.cell? ⟨wo.heap.size, 0, none⟩ = some (.slice A1 f.f0.length c1) := hz0.trans rfl; have hz1 : w1.cell? ⟨wo.heap.size, 1, none⟩ = some (.int .i64 f.f1) := hz1.trans rfl; clear hblk)
      clear hz0 hz1
      go_loopw [26] (fun i wi => ∃ m : Nat, m ≤ f.f0.length ∧ i = .int .i64 m ∧ iC (Bf w0.heap.size b (pre ++ layB f.f0.length 1 ++ (f.f0.take m).flatMap (layB · 4)) wi) ∧ iC (Kp w0.heap.size b w wi) ∧ iC (wi.heap[wo.heap.size]? = some (.cells #[.slice A1 f.f0.length c1, .int .i64 f.f1] 139 (0, 0)))) (fun i _ => f.f0.length - (intOf i).toNat)
      case atStart => exact ⟨0, Nat.zero_le _, rfl, ⟨by rw [List.take_zero, List.flatMap_nil, List.append_nil]; exact HI1.out⟩, HK1, HBL⟩
      case round =>
        obtain ⟨m, hmx, rfl, HIm, HKm, HBm⟩ := hrel
        clear HI1 HK1 HBL
        have hcap : (pre ++ layB f.f0.length 1 ++ (f.f0.take m).flatMap (layB · 4)).length + 8 ≤ 140737488355328 := by
          rw [List.length_append, List.length_append, iP, II, List.length_take]
          omega
        by_cases hml : m < f.f0.length
        · have HL := iC.mk (show (pre ++ layB f.f0.length 1 ++ (f.f0.take m).flatMap (layB · 4)).length + 4 ≤ 140737488355328 from by omega)
          obtain ⟨ad2, rfl, hx⟩ := Kd.at_int (Kd.C_below HC0.out (HB0.out.trans HKm.out.1)) (m : Int) (by omega) (by omega)
          rw [V5, Int.toNat_natCast] at hx
          have hts := iC.mk (kL (layB · 4) 0 f.f0 m hml)
          generalize f.f0.getD m 0 = v at hx hts
          clear hcap
          go_wp2_with (go_at_call 53; refine (nP _ _ _ _ _ HIm.out (HB0.out.trans HKm.out.1).size HL.out).mono ?_; rintro e w1 ⟨rfl, hI, hK⟩; have HI1 := iC.mk hI; have HK1 := iC.mk (HKm.out.trans hK); have HB1 := iC.mk (hK.block HBm.out HNE.out (by decide)); clear hI hK)
          go_roundw
          case rel => exact ⟨m + 1, by omega, by go_num, ⟨by rw [hts.out, ← List.append_assoc]; exact HI1.out⟩, HK1, HB1⟩
          case measure => simp [intOf]; omega
        · obtain rfl : m = f.f0.length := by omega
          have hI' := HIm.out
          rw [List.take_length] at hI' hcap
          have HI' := iC.mk hI'
          have HCAP := iC.mk hcap
          clear hI' hcap HIm
          have hz1 : wr.cell? ⟨wo.heap.size, 1, none⟩ = some (.int .i64 f.f1) := (iE HBm.out 1).trans rfl
          go_wp2_with (go_at_call 91; refine (WC _ _ _ _ _ HI'.out (HB0.out.trans HKm.out.1).size HCAP.out).mono ?_; rintro e w1 ⟨rfl, hI, hK⟩; have HI1 := iC.mk hI; have HK1 := iC.mk (HKm.out.trans hK); clear hI hK)
          go_roundw
          case rel => exact ⟨k + 1, by omega, by go_num, ⟨by rw [HREST.out, nN, ← List.append_assoc, ← List.append_assoc]; exact HI1.out⟩, HK1⟩
          case measure => simp [intOf]; omega
    · obtain rfl : k = fs.length := by omega
      go_wp2
      go_end0
      refine ⟨rfl, ?_, HK.out⟩
      have := HI.out
      rw [List.take_length] at this
      rw [kZ, ← List.append_assoc]
      exact this
def vH : jJ := z86
theorem PN (l : List jJ) (k : Nat) : iR l (k : Int) = l.getD k vH := by unfold iR vH; rw [Int.toNat_natCast]
set_option maxHeartbeats 4000000 in
theorem yK (b : Nat) (l : List UInt8) (A : Option Addr) (c : Nat) (es : List jJ) (w0 w : World) (h : Bf w0.heap.size b l w) (hb : Below w0.heap.size w0 w) (hr : Kd.C k86 w0 A es.length es) (hl : l.length + (kN es).length ≤ 140737488355328) :
    Calls Tryd.prog 54 #[.pointer (some ⟨b, 0, none⟩), .slice A es.length c] w fun e w' => e = .returned (.tuple #[]) ∧ Bf w0.heap.size b (l ++ kN es) w' ∧ Kp w0.heap.size b w w' := by
  have HR := iC.mk hr
  have H0 := iC.mk h
  have HB0 := iC.mk hb
  have hm := lC hr
  have hl' : l.length + 4 + (es.flatMap lM).length ≤ 140737488355328 := by
    unfold kN at hl
    rw [List.length_append, iP] at hl
    omega
  clear hr h hb hl
  go_enter Tryd.func54, Tryd.ntmps54
  go_wp2_with (go_at_call 53; refine (nP _ _ l _ _ H0.out HB0.out.size (by omega)).mono ?_; rintro e w1 ⟨rfl, hI, hK⟩; have HI1 := iC.mk hI; have HK1 := iC.mk hK; clear hI hK)
  go_loopw [12] (fun i wr => ∃ k : Nat, k ≤ es.length ∧ i = .int .i64 k ∧ iC (Bf w0.heap.size b (l ++ layB es.length 4 ++ (es.take k).flatMap lM) wr) ∧ iC (Kp w0.heap.size b w wr)) (fun i _ => es.length - (intOf i).toNat)
  case atStart => exact ⟨0, Nat.zero_le _, rfl, ⟨by rw [List.take_zero, List.flatMap_nil, List.append_nil]; exact HI1.out⟩, HK1⟩
  case round =>
    obtain ⟨k, hk, rfl, HI, HK⟩ := hrel
    clear HI1 HK1
    by_cases hlt : k < es.length
    · obtain ⟨ad, A1, c1, rfl, hx0, hx1, hl1, hC1⟩ := kT (Kd.C_below HR.out (HB0.out.trans HK.out.1)) (k : Int) (by omega) (by omega)
      have hC0 : Kd.C k139 w0 A1 (es.getD k vH).f1.length (es.getD k vH).f1 := by
        obtain ⟨ad2, A2, c2, e2, hy0, hy1, hl2, hC2⟩ := kT HR.out (k : Int) (by omega) (by omega)
        have hz := kC (HB0.out.trans HK.out.1) hy1
        injection e2 with e2
        subst e2
        rw [hx1] at hz
        injection hz with hz
        injection hz with hz1 hz2 hz3
        subst hz1
        rw [PN] at hC2
        exact hC2
      rw [PN] at hx0 hx1 hl1
      rw [Int.toNat_natCast] at hx0 hx1
      clear hC1
      have hts := iC.mk (kL lM vH es k hlt)
      have hle := nZ lM es (k + 1)
      rw [hts.out, List.length_append] at hle
      obtain ⟨f, hf⟩ : ∃ f, f = es.getD k vH := ⟨_, rfl⟩
      rw [← hf] at hx0 hx1 hl1 hC0 hts hle
      clear hf
      have HC0 := iC.mk hC0
      have hkm := lC hC0
      obtain ⟨pre, hpre⟩ : ∃ p, p = l ++ layB es.length 4 ++ (es.take k).flatMap lM := ⟨_, rfl⟩
      have hpl : pre.length + 4 + (kZ f.f1).length ≤ 140737488355328 := by
        rw [lM, List.length_append, iP] at hle
        rw [hpre, List.length_append, List.length_append, iP]
        omega
      have HPL := iC.mk (show (pre ++ layB f.f0 4).length + (kZ f.f1).length ≤ 140737488355328 from by rw [List.length_append, iP]; exact hpl)
      have hpl4 : pre.length + 4 ≤ 140737488355328 := by omega
      have HPL4 := iC.mk hpl4
      have hrest : l ++ layB es.length 4 ++ (es.take (k + 1)).flatMap lM = pre ++ lM f := by
        rw [hts.out, ← List.append_assoc, hpre]
      rw [← hpre] at HI
      have HREST := iC.mk hrest
      clear hts hpre hrest hle hC0 hl' hpl hpl4
      obtain ⟨wo, rfl⟩ : ∃ wo : World, wo = wr := ⟨_, rfl⟩
      have HBX := iC.mk (Bf.alloc HI.out (.cells #[.int .u32 f.f0, .slice A1 f.f1.length c1] 86))
      have HKX := iC.mk (HK.out.alloc (HB0.out.trans HK.out.1).size (.cells #[.int .u32 f.f0, .slice A1 f.f1.length c1] 86))
      have HNE := iC.mk (show wo.heap.size ≠ b from by have := HI.out.lt; omega)
      go_wp2_with (first | (go_at_call 50; refine (lD _ _ pre _ _ HBX.out (HB0.out.trans HKX.out.1).size HPL4.out).mono ?_; rintro e w1 ⟨rfl, hI, hK⟩; have HI1 := iC.mk hI; have HK1 := iC.mk (HKX.out.trans hK); have hblk := hK.block (iV rfl) HNE.out (by decide); clear hI hK; have hz1 := (iE hblk 1); have hz1 : w1.cell? ⟨wo.heap.size, 1, none⟩ = some (.slice A1 f.f1.length c1) := hz1.trans rfl; clear hblk) | (go_at_call 52; refine (yF _ _ _ _ f.f1 w0 _ HI1.out (HB0.out.trans HK1.out.1) HC0.out HPL.out).mono ?_; rintro e w2 ⟨rfl, hI, hK⟩; have HI2 := iC.mk hI; have HK2 := iC.mk (HK1.out.trans hK); clear hI hK))
      go_roundw
      case rel => exact ⟨k + 1, by omega, by go_num, ⟨by rw [HREST.out, lM, ← List.append_assoc]; exact HI2.out⟩, HK2⟩
      case measure => simp [intOf]; omega
    · obtain rfl : k = es.length := by omega
      go_wp2
      go_end0
      refine ⟨rfl, ?_, HK.out⟩
      have := HI.out
      rw [List.take_length] at this
      rw [kN, ← List.append_assoc]
      exact this
theorem yL (l : List jO) (h : lX l = true) : (kZ l).length ≤ 5004 := by
  unfold lX at h
  simp only [Bool.and_eq_true, decide_eq_true_eq, List.all_eq_true] at h
  obtain ⟨h1, h2⟩ := h
  have : ∀ l : List jO, (∀ f ∈ l, nV f = true) → (l.flatMap nN).length ≤ 25 * l.length := by
    intro l
    induction l with
    | nil => intro _; simp
    | cons f l ih =>
      intro hf
      have h3 := hf f List.mem_cons_self
      unfold nV at h3
      simp only [Bool.and_eq_true, decide_eq_true_eq] at h3
      have := ih (fun g hg => hf g (List.mem_cons_of_mem _ hg))
      rw [List.flatMap_cons, List.length_append, xA, List.length_cons]
      omega
  have := this l h2
  unfold kZ
  rw [List.length_append, iP]
  omega
theorem xW (l : List jJ) (h : mD l = true) (h5 : l.length ≤ 5000) : (kN l).length ≤ 25040004 := by
  have : ∀ l : List jJ, (∀ e ∈ l, lX e.f1 = true) → (l.flatMap lM).length ≤ 5008 * l.length := by
    intro l
    induction l with
    | nil => intro _; simp
    | cons e l ih =>
      intro hf
      have h3 := yL _ (hf e List.mem_cons_self)
      have := ih (fun g hg => hf g (List.mem_cons_of_mem _ hg))
      rw [List.flatMap_cons, List.length_append, List.length_cons, lM, List.length_append, iP]
      omega
  have := this l (LU l h)
  unfold kN
  rw [List.length_append, iP]
  omega
theorem uK (l : List Int) (h : kY (-1) l = true) : l.length ≤ 6 := by
  have := (yH l (-1) h (by omega)).2
  omega
end Go.Proofs.YtgfkgppomaapiaaDoor.K
end

section
namespace Go.Proofs.YtgfkgppomaapiaaDoor.K
open RowKit YtgfkgppomaapiaaDoorW.PrintWords YtgfkgppomaapiaaDoorW.PrintLast YtgfkgppomaapiaaDoorW.PrintMore My
def nums (l : List UInt8) : List Int := l.map fun c => (c.toNat : Int)
theorem jH (l : List UInt8) : (nums l).length = l.length := List.length_map ..
def encR (r : SRec) : List Int × Int := if jM r = true then (if 60000 < (recE r).length then ([], 3) else (nums (recE r), 0)) else ([], 1)
def code_Encode.f (a0_0 : Int) (a0_1 : Int) (a0_2 : Int) (l0_3 : List Int) (l0_4 : List jO) (a0_5 : Int) (l0_6 : List kD) (a0_7 : Int) (a0_8 : Int) (l0_9 : List jJ) : Option (List Int × Int) :=
  some (encR ⟨a0_0, a0_1, a0_2, l0_3, l0_4, ⟨a0_5, l0_6⟩, a0_7, a0_8, l0_9⟩)
theorem pJ {w : World} {B base : Nat} {v : Value} {l : List UInt8} (h : w.ownsRow B 5 1 v (Lib.byteCells l).length (Lib.byteCells l)) (hb : base ≤ B) : Kd.R (Kd.int .u8) 5 w base (fun _ => True) v (nums l) := by
  refine Kd.R_lower (Kd.R_of_own ?_ (fun _ _ => trivial)) hb
  have e : Lib.byteCells l = encs (Value.int .u8) (nums l) := by simp [Lib.byteCells, encs, nums]
  have e2 : (nums l).length = (Lib.byteCells l).length := by rw [jH, Lib.byteCells_length]
  rw [e2, ← e]
  exact h
theorem jA (l : List Int) : (lY l).length = 1 + l.length := by unfold lY; rw [List.length_append, iP, II]; omega
def pR (w : World) (r : List Int × Int) (e : Ending) (w' : World) : Prop := ∃ v0_ : Value, e = .returned (.tuple #[v0_, .int .u16 r.2]) ∧ Kd.R (Kd.int .u8) 5 w' w.heap.size (fun _ => True) v0_ r.1 ∧ Below w.heap.size w w'
theorem VR (a1 a2 : Int) (l3 : List Int) (l4 : List jO) (a5 : Int) (l6 : List kD) (a7 a8 : Int) (l9 : List jJ) : recE ⟨1, a1, a2, l3, l4, ⟨a5, l6⟩, a7, a8, l9⟩ = [] ++ layB 1 1 ++ layB a1 4 ++ lY l3 ++ kZ l4 := by
  simp [recE, J5]
theorem WO (a1 a2 : Int) (l3 : List Int) (l4 : List jO) (a5 : Int) (l6 : List kD) (a7 a8 : Int) (l9 : List jJ) : recE ⟨2, a1, a2, l3, l4, ⟨a5, l6⟩, a7, a8, l9⟩ = [] ++ layB 2 1 ++ layB a1 4 ++ layB a2 4 ++ lY l3 := by
  simp [recE, J5]
theorem VF (a1 a2 : Int) (l3 : List Int) (l4 : List jO) (a5 : Int) (l6 : List kD) (a7 a8 : Int) (l9 : List jJ) : recE ⟨3, a1, a2, l3, l4, ⟨a5, l6⟩, a7, a8, l9⟩ = [] ++ layB 3 1 ++ layB a1 4 := by
  simp [recE, J5]
theorem VK (a1 a2 : Int) (l3 : List Int) (l4 : List jO) (a5 : Int) (l6 : List kD) (a7 a8 : Int) (l9 : List jJ) : recE ⟨4, a1, a2, l3, l4, ⟨a5, l6⟩, a7, a8, l9⟩ = [] ++ layB 4 1 ++ layB a1 4 := by
  simp [recE, J5]
theorem WG (a1 a2 : Int) (l3 : List Int) (l4 : List jO) (a5 : Int) (l6 : List kD) (a7 a8 : Int) (l9 : List jJ) : recE ⟨5, a1, a2, l3, l4, ⟨a5, l6⟩, a7, a8, l9⟩ = [] ++ layB 5 1 ++ layB a1 4 := by
  simp [recE, J5]
theorem WP (a1 a2 : Int) (l3 : List Int) (l4 : List jO) (a5 : Int) (l6 : List kD) (a7 a8 : Int) (l9 : List jJ) : recE ⟨7, a1, a2, l3, l4, ⟨a5, l6⟩, a7, a8, l9⟩ = [] ++ layB 7 1 ++ layB a1 4 ++ layB a7 4 ++ layB a8 4 ++ kN l9 := by
  simp [recE, J5]
theorem WI (a1 a2 : Int) (l3 : List Int) (l4 : List jO) (a5 : Int) (l6 : List kD) (a7 a8 : Int) (l9 : List jJ) : recE ⟨6, a1, a2, l3, l4, ⟨a5, l6⟩, a7, a8, l9⟩ = [] ++ layB 6 1 ++ layB a1 4 ++ layB a5 4 ++ layB l6.length 1 ++ l6.flatMap nK := by
  simp [recE, J5, V3]
theorem vK (l : List kD) : (l.flatMap nK).length = 5 * l.length := by
  induction l with
  | nil => rfl
  | cons x l ih => rw [List.flatMap_cons, List.length_append, ih, nK, List.length_append, iP, iP, List.length_cons]; omega
theorem PX (l : List kD) (k : Nat) : kG l (k : Int) = l.getD k yJ := by unfold kG yJ; rw [Int.toNat_natCast]
section
variable (a0 a1 a2 : Int) (A3 : Option Addr) (c3 : Nat) (l3 : List Int) (A4 : Option Addr) (c4 : Nat) (l4 : List jO) (a5 : Int) (A6 : Option Addr) (c6 : Nat) (l6 : List kD) (a7 a8 : Int) (A9 : Option Addr) (c9 : Nat) (l9 : List jJ) (w : World)
  (h3 : Kd.C (Kd.int .i64) w A3 l3.length l3) (d3 : l3.length ≤ c3) (h4 : Kd.C k139 w A4 l4.length l4) (d4 : l4.length ≤ c4) (h6 : Kd.C k98 w A6 l6.length l6) (d6 : l6.length ≤ c6) (h9 : Kd.C k86 w A9 l9.length l9) (d9 : l9.length ≤ c9)
include h3 d3 h4 d4 h6 d6 h9 d9
set_option maxHeartbeats 8000000 in
set_option maxRecDepth 20000 in
theorem UW (hs : jM ⟨1, a1, a2, l3, l4, ⟨a5, l6⟩, a7, a8, l9⟩ = true) : Calls Tryd.prog 17 #[.agg #[.int .u8 1, .int .u32 a1, .int .u32 a2, .slice A3 l3.length c3, .slice A4 l4.length c4, .int .u32 a5, .slice A6 l6.length c6, .int .i64 a7, .int .i64 a8, .slice A9 l9.length c9]] w (pR w (encR ⟨1, a1, a2, l3, l4, ⟨a5, l6⟩, a7, a8, l9⟩)) := by
  have H3 := iC.mk h3; have H4 := iC.mk h4; have H6 := iC.mk h6; have H9 := iC.mk h9
  clear h3 h4 h6 h9
  have HS := iC.mk hs
  have hl3 : l3.length ≤ 6 ∧ (kZ l4).length ≤ 5004 := by
    have h := HS.out
    rw [PR, Bool.and_eq_true, Bool.and_eq_true] at h
    exact ⟨uK _ h.1.1, yL _ h.1.2⟩
  obtain ⟨q3, q4⟩ := hl3
  unfold encR
  rw [if_pos HS.out]
  have hm3 := lC H3.out
  have hm6 := lC H6.out
  obtain ⟨X, hX⟩ : ∃ X : List UInt8, X = recE ⟨1, a1, a2, l3, l4, ⟨a5, l6⟩, a7, a8, l9⟩ := ⟨_, rfl⟩
  rw [← hX]
  have HX := iC.mk hX
  have HLEN := iC.mk (show X.length = _ from congrArg List.length (hX.trans (VR _ _ _ _ _ _ _ _ _)))
  clear hs hX
  by_cases hbig : 60000 < X.length
  · rw [if_pos hbig]
    have hbigI : (60000 : Int) < (X.length : Int) := by omega
    clear hbig
    go_enter Tryd.func17, Tryd.ntmps17
    go_wp2_with (first | (go_at_call 19; refine (code_Sound.calls 1 a1 a2 A3 c3 l3 A4 c4 l4 a5 A6 c6 l6 a7 a8 A9 c9 l9 _ _ (Kd.C_below H3.out bel_) d3 (Kd.C_below H4.out bel_) d4 (Kd.C_below H6.out bel_) d6 (Kd.C_below H9.out bel_) d9 rfl).mono ?_; rintro e w1 ⟨rfl, hb1⟩; rw [HS.out]; have HBW := iC.mk (show Below w.heap.size w w1 from iI (iF (Below.refl _ _) _) hb1); have HBK := iC.mk (iL hb1 (iV rfl)); clear hb1; have HI0 := iC.mk (Bf.fresh w1); have HK0 := iC.mk ((Kp.refl w1.heap.size w1.heap.size w1).alloc (Nat.le_refl _) (.cells #[.slice none 0 0, .int .i64 0, .int .i8 0] 91)); obtain ⟨z0, z1, z2, z3, z4, z5, z6, z7, z8, z9, y0, y1, y2, y3, y4, y5, y6, y7, y8, y9⟩ := ten (jI (o := (.cells #[.slice none 0 0, .int .i64 0, .int .i8 0] 91)) HBK.out); clear y0 y1 y2 y3 y4 y5 y6 y7 y8 y9) | (go_at_call 49; refine (oC w1.heap.size w1.heap.size _ _ _ HI0.out HK0.out.1.size (by first | omega | (simp only [List.length_append, iP, List.length_nil, jA]; omega))).mono ?_; rintro e w2 ⟨rfl, hI, hK⟩; have HI1 := iC.mk hI; have HK1 := iC.mk (HK0.out.trans hK); clear hI hK z0 z1 z2 z3 z4 z5 z6 z7 z8 z9; obtain ⟨z0, z1, z2, z3, z4, z5, z6, z7, z8, z9, y0, y1, y2, y3, y4, y5, y6, y7, y8, y9⟩ := ten (iL HK1.out.1 HBK.out); clear y0 y1 y2 y3 y4 y5 y6 y7 y8 y9) | (go_at_call 50; refine (lD w1.heap.size w1.heap.size _ _ _ HI1.out HK1.out.1.size (by first | omega | (simp only [List.length_append, iP, List.length_nil, jA]; omega))).mono ?_; rintro e w3 ⟨rfl, hI, hK⟩; have HI2 := iC.mk hI; have HK2 := iC.mk (HK1.out.trans hK); clear hI hK z0 z1 z2 z3 z4 z5 z6 z7 z8 z9; obtain ⟨z0, z1, z2, z3, z4, z5, z6, z7, z8, z9, y0, y1, y2, y3, y4, y5, y6, y7, y8, y9⟩ := ten (iL HK2.out.1 HBK.out); clear y0 y1 y2 y3 y4 y5 y6 y7 y8 y9) | (go_at_call 51; refine (uF w1.heap.size _ _ _ l3 w1 _ HI2.out HK2.out.1 (Kd.C_below H3.out HBW.out) (by first | omega | (simp only [List.length_append, iP, List.length_nil, jA]; omega))).mono ?_; rintro e w4 ⟨rfl, hI, hK⟩; have HI3 := iC.mk hI; have HK3 := iC.mk (HK2.out.trans hK); clear hI hK z0 z1 z2 z3 z4 z5 z6 z7 z8 z9; obtain ⟨z0, z1, z2, z3, z4, z5, z6, z7, z8, z9, y0, y1, y2, y3, y4, y5, y6, y7, y8, y9⟩ := ten (iL HK3.out.1 HBK.out); clear y0 y1 y2 y3 y4 y5 y6 y7 y8 y9) | (go_at_call 52; refine (yF w1.heap.size _ _ _ l4 w1 _ HI3.out HK3.out.1 (Kd.C_below H4.out HBW.out) (by first | omega | (simp only [List.length_append, iP, List.length_nil, jA]; omega))).mono ?_; rintro e w5 ⟨rfl, hI, hK⟩; have HI4 := iC.mk hI; have HK4 := iC.mk (HK3.out.trans hK); clear hI hK z0 z1 z2 z3 z4 z5 z6 z7 z8 z9; obtain ⟨z0, z1, z2, z3, z4, z5, z6, z7, z8, z9, y0, y1, y2, y3, y4, y5, y6, y7, y8, y9⟩ := ten (iL HK4.out.1 HBK.out); clear y0 y1 y2 y3 y4 y5 y6 y7 y8 y9) | (go_at_call 55; refine (Tryd.Buffer_Len w1.heap.size w1.heap.size _ _ (HI4.out)).mono ?_; rintro e wl ⟨rfl, nl, rfl⟩; rw [Lib.byteCells_length, ← HLEN.out]))
    go_ret2
    exact ⟨_, rfl, Kd.R_nil _ _ _ _ _, by have hz := HBW.out; have hy := HK4.out.1; exact iG (iI hz hy) _⟩
  · rw [if_neg hbig]
    have hbigI : ¬ (60000 : Int) < (X.length : Int) := by omega
    clear hbig
    go_enter Tryd.func17, Tryd.ntmps17
    go_wp2_with (first | (go_at_call 19; refine (code_Sound.calls 1 a1 a2 A3 c3 l3 A4 c4 l4 a5 A6 c6 l6 a7 a8 A9 c9 l9 _ _ (Kd.C_below H3.out bel_) d3 (Kd.C_below H4.out bel_) d4 (Kd.C_below H6.out bel_) d6 (Kd.C_below H9.out bel_) d9 rfl).mono ?_; rintro e w1 ⟨rfl, hb1⟩; rw [HS.out]; have HBW := iC.mk (show Below w.heap.size w w1 from iI (iF (Below.refl _ _) _) hb1); have HBK := iC.mk (iL hb1 (iV rfl)); clear hb1; have HI0 := iC.mk (Bf.fresh w1); have HK0 := iC.mk ((Kp.refl w1.heap.size w1.heap.size w1).alloc (Nat.le_refl _) (.cells #[.slice none 0 0, .int .i64 0, .int .i8 0] 91)); obtain ⟨z0, z1, z2, z3, z4, z5, z6, z7, z8, z9, y0, y1, y2, y3, y4, y5, y6, y7, y8, y9⟩ := ten (jI (o := (.cells #[.slice none 0 0, .int .i64 0, .int .i8 0] 91)) HBK.out); clear y0 y1 y2 y3 y4 y5 y6 y7 y8 y9) | (go_at_call 49; refine (oC w1.heap.size w1.heap.size _ _ _ HI0.out HK0.out.1.size (by first | omega | (simp only [List.length_append, iP, List.length_nil, jA]; omega))).mono ?_; rintro e w2 ⟨rfl, hI, hK⟩; have HI1 := iC.mk hI; have HK1 := iC.mk (HK0.out.trans hK); clear hI hK z0 z1 z2 z3 z4 z5 z6 z7 z8 z9; obtain ⟨z0, z1, z2, z3, z4, z5, z6, z7, z8, z9, y0, y1, y2, y3, y4, y5, y6, y7, y8, y9⟩ := ten (iL HK1.out.1 HBK.out); clear y0 y1 y2 y3 y4 y5 y6 y7 y8 y9) | (go_at_call 50; refine (lD w1.heap.size w1.heap.size _ _ _ HI1.out HK1.out.1.size (by first | omega | (simp only [List.length_append, iP, List.length_nil, jA]; omega))).mono ?_; rintro e w3 ⟨rfl, hI, hK⟩; have HI2 := iC.mk hI; have HK2 := iC.mk (HK1.out.trans hK); clear hI hK z0 z1 z2 z3 z4 z5 z6 z7 z8 z9; obtain ⟨z0, z1, z2, z3, z4, z5, z6, z7, z8, z9, y0, y1, y2, y3, y4, y5, y6, y7, y8, y9⟩ := ten (iL HK2.out.1 HBK.out); clear y0 y1 y2 y3 y4 y5 y6 y7 y8 y9) | (go_at_call 51; refine (uF w1.heap.size _ _ _ l3 w1 _ HI2.out HK2.out.1 (Kd.C_below H3.out HBW.out) (by first | omega | (simp only [List.length_append, iP, List.length_nil, jA]; omega))).mono ?_; rintro e w4 ⟨rfl, hI, hK⟩; have HI3 := iC.mk hI; have HK3 := iC.mk (HK2.out.trans hK); clear hI hK z0 z1 z2 z3 z4 z5 z6 z7 z8 z9; obtain ⟨z0, z1, z2, z3, z4, z5, z6, z7, z8, z9, y0, y1, y2, y3, y4, y5, y6, y7, y8, y9⟩ := ten (iL HK3.out.1 HBK.out); clear y0 y1 y2 y3 y4 y5 y6 y7 y8 y9) | (go_at_call 52; refine (yF w1.heap.size _ _ _ l4 w1 _ HI3.out HK3.out.1 (Kd.C_below H4.out HBW.out) (by first | omega | (simp only [List.length_append, iP, List.length_nil, jA]; omega))).mono ?_; rintro e w5 ⟨rfl, hI, hK⟩; have HI4 := iC.mk hI; have HK4 := iC.mk (HK3.out.trans hK); clear hI hK z0 z1 z2 z3 z4 z5 z6 z7 z8 z9; obtain ⟨z0, z1, z2, z3, z4, z5, z6, z7, z8, z9, y0, y1, y2, y3, y4, y5, y6, y7, y8, y9⟩ := ten (iL HK4.out.1 HBK.out); clear y0 y1 y2 y3 y4 y5 y6 y7 y8 y9) | (go_at_call 55; refine (Tryd.Buffer_Len w1.heap.size w1.heap.size _ _ (HI4.out)).mono ?_; rintro e wl ⟨rfl, nl, rfl⟩; rw [Lib.byteCells_length, ← HLEN.out]) | (go_at_call 56; refine (Tryd.Buffer_Bytes w1.heap.size w1.heap.size _ _ (HI4.out.drewN _)).mono ?_; rintro e wb ⟨v, rfl, hv, nb, rfl⟩; have HV := iC.mk hv; clear hv))
    go_ret2
    exact ⟨_, rfl, by rw [HX.out, VR]; exact pJ HV.out HBW.out.size, by have hz := HBW.out; have hy := HK4.out.1; exact iG (iI hz hy) _⟩
set_option maxHeartbeats 8000000 in
set_option maxRecDepth 20000 in
theorem TW (hs : jM ⟨2, a1, a2, l3, l4, ⟨a5, l6⟩, a7, a8, l9⟩ = true) : Calls Tryd.prog 17 #[.agg #[.int .u8 2, .int .u32 a1, .int .u32 a2, .slice A3 l3.length c3, .slice A4 l4.length c4, .int .u32 a5, .slice A6 l6.length c6, .int .i64 a7, .int .i64 a8, .slice A9 l9.length c9]] w (pR w (encR ⟨2, a1, a2, l3, l4, ⟨a5, l6⟩, a7, a8, l9⟩)) := by
  have H3 := iC.mk h3; have H4 := iC.mk h4; have H6 := iC.mk h6; have H9 := iC.mk h9
  clear h3 h4 h6 h9
  have HS := iC.mk hs
  have q3 : l3.length ≤ 6 := by
    have h := HS.out
    rw [RS, Bool.and_eq_true] at h
    exact uK _ h.1
  unfold encR
  rw [if_pos HS.out]
  have hm3 := lC H3.out
  have hm6 := lC H6.out
  obtain ⟨X, hX⟩ : ∃ X : List UInt8, X = recE ⟨2, a1, a2, l3, l4, ⟨a5, l6⟩, a7, a8, l9⟩ := ⟨_, rfl⟩
  rw [← hX]
  have HX := iC.mk hX
  have HLEN := iC.mk (show X.length = _ from congrArg List.length (hX.trans (WO _ _ _ _ _ _ _ _ _)))
  clear hs hX
  by_cases hbig : 60000 < X.length
  · rw [if_pos hbig]
    have hbigI : (60000 : Int) < (X.length : Int) := by omega
    clear hbig
    go_enter Tryd.func17, Tryd.ntmps17
    go_wp2_with (first | (go_at_call 19; refine (code_Sound.calls 2 a1 a2 A3 c3 l3 A4 c4 l4 a5 A6 c6 l6 a7 a8 A9 c9 l9 _ _ (Kd.C_below H3.out bel_) d3 (Kd.C_below H4.out bel_) d4 (Kd.C_below H6.out bel_) d6 (Kd.C_below H9.out bel_) d9 rfl).mono ?_; rintro e w1 ⟨rfl, hb1⟩; rw [HS.out]; have HBW := iC.mk (show Below w.heap.size w w1 from iI (iF (Below.refl _ _) _) hb1); have HBK := iC.mk (iL hb1 (iV rfl)); clear hb1; have HI0 := iC.mk (Bf.fresh w1); have HK0 := iC.mk ((Kp.refl w1.heap.size w1.heap.size w1).alloc (Nat.le_refl _) (.cells #[.slice none 0 0, .int .i64 0, .int .i8 0] 91)); obtain ⟨z0, z1, z2, z3, z4, z5, z6, z7, z8, z9, y0, y1, y2, y3, y4, y5, y6, y7, y8, y9⟩ := ten (jI (o := (.cells #[.slice none 0 0, .int .i64 0, .int .i8 0] 91)) HBK.out); clear y0 y1 y2 y3 y4 y5 y6 y7 y8 y9) | (go_at_call 49; refine (oC w1.heap.size w1.heap.size _ _ _ HI0.out HK0.out.1.size (by first | omega | (simp only [List.length_append, iP, List.length_nil, jA]; omega))).mono ?_; rintro e w2 ⟨rfl, hI, hK⟩; have HI1 := iC.mk hI; have HK1 := iC.mk (HK0.out.trans hK); clear hI hK z0 z1 z2 z3 z4 z5 z6 z7 z8 z9; obtain ⟨z0, z1, z2, z3, z4, z5, z6, z7, z8, z9, y0, y1, y2, y3, y4, y5, y6, y7, y8, y9⟩ := ten (iL HK1.out.1 HBK.out); clear y0 y1 y2 y3 y4 y5 y6 y7 y8 y9) | (go_at_call 50; refine (lD w1.heap.size w1.heap.size _ _ _ HI1.out HK1.out.1.size (by first | omega | (simp only [List.length_append, iP, List.length_nil, jA]; omega))).mono ?_; rintro e w3 ⟨rfl, hI, hK⟩; have HI2 := iC.mk hI; have HK2 := iC.mk (HK1.out.trans hK); clear hI hK z0 z1 z2 z3 z4 z5 z6 z7 z8 z9; obtain ⟨z0, z1, z2, z3, z4, z5, z6, z7, z8, z9, y0, y1, y2, y3, y4, y5, y6, y7, y8, y9⟩ := ten (iL HK2.out.1 HBK.out); clear y0 y1 y2 y3 y4 y5 y6 y7 y8 y9) | (go_at_call 50; refine (lD w1.heap.size w1.heap.size _ _ _ HI2.out HK2.out.1.size (by first | omega | (simp only [List.length_append, iP, List.length_nil, jA]; omega))).mono ?_; rintro e w4 ⟨rfl, hI, hK⟩; have HI3 := iC.mk hI; have HK3 := iC.mk (HK2.out.trans hK); clear hI hK z0 z1 z2 z3 z4 z5 z6 z7 z8 z9; obtain ⟨z0, z1, z2, z3, z4, z5, z6, z7, z8, z9, y0, y1, y2, y3, y4, y5, y6, y7, y8, y9⟩ := ten (iL HK3.out.1 HBK.out); clear y0 y1 y2 y3 y4 y5 y6 y7 y8 y9) | (go_at_call 51; refine (uF w1.heap.size _ _ _ l3 w1 _ HI3.out HK3.out.1 (Kd.C_below H3.out HBW.out) (by first | omega | (simp only [List.length_append, iP, List.length_nil, jA]; omega))).mono ?_; rintro e w5 ⟨rfl, hI, hK⟩; have HI4 := iC.mk hI; have HK4 := iC.mk (HK3.out.trans hK); clear hI hK z0 z1 z2 z3 z4 z5 z6 z7 z8 z9; obtain ⟨z0, z1, z2, z3, z4, z5, z6, z7, z8, z9, y0, y1, y2, y3, y4, y5, y6, y7, y8, y9⟩ := ten (iL HK4.out.1 HBK.out); clear y0 y1 y2 y3 y4 y5 y6 y7 y8 y9) | (go_at_call 55; refine (Tryd.Buffer_Len w1.heap.size w1.heap.size _ _ (HI4.out)).mono ?_; rintro e wl ⟨rfl, nl, rfl⟩; rw [Lib.byteCells_length, ← HLEN.out]))
    go_ret2
    exact ⟨_, rfl, Kd.R_nil _ _ _ _ _, by have hz := HBW.out; have hy := HK4.out.1; exact iG (iI hz hy) _⟩
  · rw [if_neg hbig]
    have hbigI : ¬ (60000 : Int) < (X.length : Int) := by omega
    clear hbig
    go_enter Tryd.func17, Tryd.ntmps17
    go_wp2_with (first | (go_at_call 19; refine (code_Sound.calls 2 a1 a2 A3 c3 l3 A4 c4 l4 a5 A6 c6 l6 a7 a8 A9 c9 l9 _ _ (Kd.C_below H3.out bel_) d3 (Kd.C_below H4.out bel_) d4 (Kd.C_below H6.out bel_) d6 (Kd.C_below H9.out bel_) d9 rfl).mono ?_; rintro e w1 ⟨rfl, hb1⟩; rw [HS.out]; have HBW := iC.mk (show Below w.heap.size w w1 from iI (iF (Below.refl _ _) _) hb1); have HBK := iC.mk (iL hb1 (iV rfl)); clear hb1; have HI0 := iC.mk (Bf.fresh w1); have HK0 := iC.mk ((Kp.refl w1.heap.size w1.heap.size w1).alloc (Nat.le_refl _) (.cells #[.slice none 0 0, .int .i64 0, .int .i8 0] 91)); obtain ⟨z0, z1, z2, z3, z4, z5, z6, z7, z8, z9, y0, y1, y2, y3, y4, y5, y6, y7, y8, y9⟩ := ten (jI (o := (.cells #[.slice none 0 0, .int .i64 0, .int .i8 0] 91)) HBK.out); clear y0 y1 y2 y3 y4 y5 y6 y7 y8 y9) | (go_at_call 49; refine (oC w1.heap.size w1.heap.size _ _ _ HI0.out HK0.out.1.size (by first | omega | (simp only [List.length_append, iP, List.length_nil, jA]; omega))).mono ?_; rintro e w2 ⟨rfl, hI, hK⟩; have HI1 := iC.mk hI; have HK1 := iC.mk (HK0.out.trans hK); clear hI hK z0 z1 z2 z3 z4 z5 z6 z7 z8 z9; obtain ⟨z0, z1, z2, z3, z4, z5, z6, z7, z8, z9, y0, y1, y2, y3, y4, y5, y6, y7, y8, y9⟩ := ten (iL HK1.out.1 HBK.out); clear y0 y1 y2 y3 y4 y5 y6 y7 y8 y9) | (go_at_call 50; refine (lD w1.heap.size w1.heap.size _ _ _ HI1.out HK1.out.1.size (by first | omega | (simp only [List.length_append, iP, List.length_nil, jA]; omega))).mono ?_; rintro e w3 ⟨rfl, hI, hK⟩; have HI2 := iC.mk hI; have HK2 := iC.mk (HK1.out.trans hK); clear hI hK z0 z1 z2 z3 z4 z5 z6 z7 z8 z9; obtain ⟨z0, z1, z2, z3, z4, z5, z6, z7, z8, z9, y0, y1, y2, y3, y4, y5, y6, y7, y8, y9⟩ := ten (iL HK2.out.1 HBK.out); clear y0 y1 y2 y3 y4 y5 y6 y7 y8 y9) | (go_at_call 50; refine (lD w1.heap.size w1.heap.size _ _ _ HI2.out HK2.out.1.size (by first | omega | (simp only [List.length_append, iP, List.length_nil, jA]; omega))).mono ?_; rintro e w4 ⟨rfl, hI, hK⟩; have HI3 := iC.mk hI; have HK3 := iC.mk (HK2.out.trans hK); clear hI hK z0 z1 z2 z3 z4 z5 z6 z7 z8 z9; obtain ⟨z0, z1, z2, z3, z4, z5, z6, z7, z8, z9, y0, y1, y2, y3, y4, y5, y6, y7, y8, y9⟩ := ten (iL HK3.out.1 HBK.out); clear y0 y1 y2 y3 y4 y5 y6 y7 y8 y9) | (go_at_call 51; refine (uF w1.heap.size _ _ _ l3 w1 _ HI3.out HK3.out.1 (Kd.C_below H3.out HBW.out) (by first | omega | (simp only [List.length_append, iP, List.length_nil, jA]; omega))).mono ?_; rintro e w5 ⟨rfl, hI, hK⟩; have HI4 := iC.mk hI; have HK4 := iC.mk (HK3.out.trans hK); clear hI hK z0 z1 z2 z3 z4 z5 z6 z7 z8 z9; obtain ⟨z0, z1, z2, z3, z4, z5, z6, z7, z8, z9, y0, y1, y2, y3, y4, y5, y6, y7, y8, y9⟩ := ten (iL HK4.out.1 HBK.out); clear y0 y1 y2 y3 y4 y5 y6 y7 y8 y9) | (go_at_call 55; refine (Tryd.Buffer_Len w1.heap.size w1.heap.size _ _ (HI4.out)).mono ?_; rintro e wl ⟨rfl, nl, rfl⟩; rw [Lib.byteCells_length, ← HLEN.out]) | (go_at_call 56; refine (Tryd.Buffer_Bytes w1.heap.size w1.heap.size _ _ (HI4.out.drewN _)).mono ?_; rintro e wb ⟨v, rfl, hv, nb, rfl⟩; have HV := iC.mk hv; clear hv))
    go_ret2
    exact ⟨_, rfl, by rw [HX.out, WO]; exact pJ HV.out HBW.out.size, by have hz := HBW.out; have hy := HK4.out.1; exact iG (iI hz hy) _⟩
set_option maxHeartbeats 8000000 in
set_option maxRecDepth 20000 in
theorem UE (hs : jM ⟨3, a1, a2, l3, l4, ⟨a5, l6⟩, a7, a8, l9⟩ = true) : Calls Tryd.prog 17 #[.agg #[.int .u8 3, .int .u32 a1, .int .u32 a2, .slice A3 l3.length c3, .slice A4 l4.length c4, .int .u32 a5, .slice A6 l6.length c6, .int .i64 a7, .int .i64 a8, .slice A9 l9.length c9]] w (pR w (encR ⟨3, a1, a2, l3, l4, ⟨a5, l6⟩, a7, a8, l9⟩)) := by
  have H3 := iC.mk h3; have H4 := iC.mk h4; have H6 := iC.mk h6; have H9 := iC.mk h9
  clear h3 h4 h6 h9
  have HS := iC.mk hs
  unfold encR
  rw [if_pos HS.out]
  have hm3 := lC H3.out
  have hm6 := lC H6.out
  obtain ⟨X, hX⟩ : ∃ X : List UInt8, X = recE ⟨3, a1, a2, l3, l4, ⟨a5, l6⟩, a7, a8, l9⟩ := ⟨_, rfl⟩
  rw [← hX]
  have HX := iC.mk hX
  have HLEN := iC.mk (show X.length = _ from congrArg List.length (hX.trans (VF _ _ _ _ _ _ _ _ _)))
  clear hs hX
  by_cases hbig : 60000 < X.length
  · rw [if_pos hbig]
    have hbigI : (60000 : Int) < (X.length : Int) := by omega
    clear hbig
    go_enter Tryd.func17, Tryd.ntmps17
    go_wp2_with (first | (go_at_call 19; refine (code_Sound.calls 3 a1 a2 A3 c3 l3 A4 c4 l4 a5 A6 c6 l6 a7 a8 A9 c9 l9 _ _ (Kd.C_below H3.out bel_) d3 (Kd.C_below H4.out bel_) d4 (Kd.C_below H6.out bel_) d6 (Kd.C_below H9.out bel_) d9 rfl).mono ?_; rintro e w1 ⟨rfl, hb1⟩; rw [HS.out]; have HBW := iC.mk (show Below w.heap.size w w1 from iI (iF (Below.refl _ _) _) hb1); have HBK := iC.mk (iL hb1 (iV rfl)); clear hb1; have HI0 := iC.mk (Bf.fresh w1); have HK0 := iC.mk ((Kp.refl w1.heap.size w1.heap.size w1).alloc (Nat.le_refl _) (.cells #[.slice none 0 0, .int .i64 0, .int .i8 0] 91)); obtain ⟨z0, z1, z2, z3, z4, z5, z6, z7, z8, z9, y0, y1, y2, y3, y4, y5, y6, y7, y8, y9⟩ := ten (jI (o := (.cells #[.slice none 0 0, .int .i64 0, .int .i8 0] 91)) HBK.out); clear y0 y1 y2 y3 y4 y5 y6 y7 y8 y9) | (go_at_call 49; refine (oC w1.heap.size w1.heap.size _ _ _ HI0.out HK0.out.1.size (by first | omega | (simp only [List.length_append, iP, List.length_nil, jA]; omega))).mono ?_; rintro e w2 ⟨rfl, hI, hK⟩; have HI1 := iC.mk hI; have HK1 := iC.mk (HK0.out.trans hK); clear hI hK z0 z1 z2 z3 z4 z5 z6 z7 z8 z9; obtain ⟨z0, z1, z2, z3, z4, z5, z6, z7, z8, z9, y0, y1, y2, y3, y4, y5, y6, y7, y8, y9⟩ := ten (iL HK1.out.1 HBK.out); clear y0 y1 y2 y3 y4 y5 y6 y7 y8 y9) | (go_at_call 50; refine (lD w1.heap.size w1.heap.size _ _ _ HI1.out HK1.out.1.size (by first | omega | (simp only [List.length_append, iP, List.length_nil, jA]; omega))).mono ?_; rintro e w3 ⟨rfl, hI, hK⟩; have HI2 := iC.mk hI; have HK2 := iC.mk (HK1.out.trans hK); clear hI hK z0 z1 z2 z3 z4 z5 z6 z7 z8 z9; obtain ⟨z0, z1, z2, z3, z4, z5, z6, z7, z8, z9, y0, y1, y2, y3, y4, y5, y6, y7, y8, y9⟩ := ten (iL HK2.out.1 HBK.out); clear y0 y1 y2 y3 y4 y5 y6 y7 y8 y9) | (go_at_call 55; refine (Tryd.Buffer_Len w1.heap.size w1.heap.size _ _ (HI2.out)).mono ?_; rintro e wl ⟨rfl, nl, rfl⟩; rw [Lib.byteCells_length, ← HLEN.out]))
    go_ret2
    exact ⟨_, rfl, Kd.R_nil _ _ _ _ _, by have hz := HBW.out; have hy := HK2.out.1; exact iG (iI hz hy) _⟩
  · rw [if_neg hbig]
    have hbigI : ¬ (60000 : Int) < (X.length : Int) := by omega
    clear hbig
    go_enter Tryd.func17, Tryd.ntmps17
    go_wp2_with (first | (go_at_call 19; refine (code_Sound.calls 3 a1 a2 A3 c3 l3 A4 c4 l4 a5 A6 c6 l6 a7 a8 A9 c9 l9 _ _ (Kd.C_below H3.out bel_) d3 (Kd.C_below H4.out bel_) d4 (Kd.C_below H6.out bel_) d6 (Kd.C_below H9.out bel_) d9 rfl).mono ?_; rintro e w1 ⟨rfl, hb1⟩; rw [HS.out]; have HBW := iC.mk (show Below w.heap.size w w1 from iI (iF (Below.refl _ _) _) hb1); have HBK := iC.mk (iL hb1 (iV rfl)); clear hb1; have HI0 := iC.mk (Bf.fresh w1); have HK0 := iC.mk ((Kp.refl w1.heap.size w1.heap.size w1).alloc (Nat.le_refl _) (.cells #[.slice none 0 0, .int .i64 0, .int .i8 0] 91)); obtain ⟨z0, z1, z2, z3, z4, z5, z6, z7, z8, z9, y0, y1, y2, y3, y4, y5, y6, y7, y8, y9⟩ := ten (jI (o := (.cells #[.slice none 0 0, .int .i64 0, .int .i8 0] 91)) HBK.out); clear y0 y1 y2 y3 y4 y5 y6 y7 y8 y9) | (go_at_call 49; refine (oC w1.heap.size w1.heap.size _ _ _ HI0.out HK0.out.1.size (by first | omega | (simp only [List.length_append, iP, List.length_nil, jA]; omega))).mono ?_; rintro e w2 ⟨rfl, hI, hK⟩; have HI1 := iC.mk hI; have HK1 := iC.mk (HK0.out.trans hK); clear hI hK z0 z1 z2 z3 z4 z5 z6 z7 z8 z9; obtain ⟨z0, z1, z2, z3, z4, z5, z6, z7, z8, z9, y0, y1, y2, y3, y4, y5, y6, y7, y8, y9⟩ := ten (iL HK1.out.1 HBK.out); clear y0 y1 y2 y3 y4 y5 y6 y7 y8 y9) | (go_at_call 50; refine (lD w1.heap.size w1.heap.size _ _ _ HI1.out HK1.out.1.size (by first | omega | (simp only [List.length_append, iP, List.length_nil, jA]; omega))).mono ?_; rintro e w3 ⟨rfl, hI, hK⟩; have HI2 := iC.mk hI; have HK2 := iC.mk (HK1.out.trans hK); clear hI hK z0 z1 z2 z3 z4 z5 z6 z7 z8 z9; obtain ⟨z0, z1, z2, z3, z4, z5, z6, z7, z8, z9, y0, y1, y2, y3, y4, y5, y6, y7, y8, y9⟩ := ten (iL HK2.out.1 HBK.out); clear y0 y1 y2 y3 y4 y5 y6 y7 y8 y9) | (go_at_call 55; refine (Tryd.Buffer_Len w1.heap.size w1.heap.size _ _ (HI2.out)).mono ?_; rintro e wl ⟨rfl, nl, rfl⟩; rw [Lib.byteCells_length, ← HLEN.out]) | (go_at_call 56; refine (Tryd.Buffer_Bytes w1.heap.size w1.heap.size _ _ (HI2.out.drewN _)).mono ?_; rintro e wb ⟨v, rfl, hv, nb, rfl⟩; have HV := iC.mk hv; clear hv))
    go_ret2
    exact ⟨_, rfl, by rw [HX.out, VF]; exact pJ HV.out HBW.out.size, by have hz := HBW.out; have hy := HK2.out.1; exact iG (iI hz hy) _⟩
set_option maxHeartbeats 8000000 in
set_option maxRecDepth 20000 in
theorem TR (hs : jM ⟨4, a1, a2, l3, l4, ⟨a5, l6⟩, a7, a8, l9⟩ = true) : Calls Tryd.prog 17 #[.agg #[.int .u8 4, .int .u32 a1, .int .u32 a2, .slice A3 l3.length c3, .slice A4 l4.length c4, .int .u32 a5, .slice A6 l6.length c6, .int .i64 a7, .int .i64 a8, .slice A9 l9.length c9]] w (pR w (encR ⟨4, a1, a2, l3, l4, ⟨a5, l6⟩, a7, a8, l9⟩)) := by
  have H3 := iC.mk h3; have H4 := iC.mk h4; have H6 := iC.mk h6; have H9 := iC.mk h9
  clear h3 h4 h6 h9
  have HS := iC.mk hs
  unfold encR
  rw [if_pos HS.out]
  have hm3 := lC H3.out
  have hm6 := lC H6.out
  obtain ⟨X, hX⟩ : ∃ X : List UInt8, X = recE ⟨4, a1, a2, l3, l4, ⟨a5, l6⟩, a7, a8, l9⟩ := ⟨_, rfl⟩
  rw [← hX]
  have HX := iC.mk hX
  have HLEN := iC.mk (show X.length = _ from congrArg List.length (hX.trans (VK _ _ _ _ _ _ _ _ _)))
  clear hs hX
  by_cases hbig : 60000 < X.length
  · rw [if_pos hbig]
    have hbigI : (60000 : Int) < (X.length : Int) := by omega
    clear hbig
    go_enter Tryd.func17, Tryd.ntmps17
    go_wp2_with (first | (go_at_call 19; refine (code_Sound.calls 4 a1 a2 A3 c3 l3 A4 c4 l4 a5 A6 c6 l6 a7 a8 A9 c9 l9 _ _ (Kd.C_below H3.out bel_) d3 (Kd.C_below H4.out bel_) d4 (Kd.C_below H6.out bel_) d6 (Kd.C_below H9.out bel_) d9 rfl).mono ?_; rintro e w1 ⟨rfl, hb1⟩; rw [HS.out]; have HBW := iC.mk (show Below w.heap.size w w1 from iI (iF (Below.refl _ _) _) hb1); have HBK := iC.mk (iL hb1 (iV rfl)); clear hb1; have HI0 := iC.mk (Bf.fresh w1); have HK0 := iC.mk ((Kp.refl w1.heap.size w1.heap.size w1).alloc (Nat.le_refl _) (.cells #[.slice none 0 0, .int .i64 0, .int .i8 0] 91)); obtain ⟨z0, z1, z2, z3, z4, z5, z6, z7, z8, z9, y0, y1, y2, y3, y4, y5, y6, y7, y8, y9⟩ := ten (jI (o := (.cells #[.slice none 0 0, .int .i64 0, .int .i8 0] 91)) HBK.out); clear y0 y1 y2 y3 y4 y5 y6 y7 y8 y9) | (go_at_call 49; refine (oC w1.heap.size w1.heap.size _ _ _ HI0.out HK0.out.1.size (by first | omega | (simp only [List.length_append, iP, List.length_nil, jA]; omega))).mono ?_; rintro e w2 ⟨rfl, hI, hK⟩; have HI1 := iC.mk hI; have HK1 := iC.mk (HK0.out.trans hK); clear hI hK z0 z1 z2 z3 z4 z5 z6 z7 z8 z9; obtain ⟨z0, z1, z2, z3, z4, z5, z6, z7, z8, z9, y0, y1, y2, y3, y4, y5, y6, y7, y8, y9⟩ := ten (iL HK1.out.1 HBK.out); clear y0 y1 y2 y3 y4 y5 y6 y7 y8 y9) | (go_at_call 50; refine (lD w1.heap.size w1.heap.size _ _ _ HI1.out HK1.out.1.size (by first | omega | (simp only [List.length_append, iP, List.length_nil, jA]; omega))).mono ?_; rintro e w3 ⟨rfl, hI, hK⟩; have HI2 := iC.mk hI; have HK2 := iC.mk (HK1.out.trans hK); clear hI hK z0 z1 z2 z3 z4 z5 z6 z7 z8 z9; obtain ⟨z0, z1, z2, z3, z4, z5, z6, z7, z8, z9, y0, y1, y2, y3, y4, y5, y6, y7, y8, y9⟩ := ten (iL HK2.out.1 HBK.out); clear y0 y1 y2 y3 y4 y5 y6 y7 y8 y9) | (go_at_call 55; refine (Tryd.Buffer_Len w1.heap.size w1.heap.size _ _ (HI2.out)).mono ?_; rintro e wl ⟨rfl, nl, rfl⟩; rw [Lib.byteCells_length, ← HLEN.out]))
    go_ret2
    exact ⟨_, rfl, Kd.R_nil _ _ _ _ _, by have hz := HBW.out; have hy := HK2.out.1; exact iG (iI hz hy) _⟩
  · rw [if_neg hbig]
    have hbigI : ¬ (60000 : Int) < (X.length : Int) := by omega
    clear hbig
    go_enter Tryd.func17, Tryd.ntmps17
    go_wp2_with (first | (go_at_call 19; refine (code_Sound.calls 4 a1 a2 A3 c3 l3 A4 c4 l4 a5 A6 c6 l6 a7 a8 A9 c9 l9 _ _ (Kd.C_below H3.out bel_) d3 (Kd.C_below H4.out bel_) d4 (Kd.C_below H6.out bel_) d6 (Kd.C_below H9.out bel_) d9 rfl).mono ?_; rintro e w1 ⟨rfl, hb1⟩; rw [HS.out]; have HBW := iC.mk (show Below w.heap.size w w1 from iI (iF (Below.refl _ _) _) hb1); have HBK := iC.mk (iL hb1 (iV rfl)); clear hb1; have HI0 := iC.mk (Bf.fresh w1); have HK0 := iC.mk ((Kp.refl w1.heap.size w1.heap.size w1).alloc (Nat.le_refl _) (.cells #[.slice none 0 0, .int .i64 0, .int .i8 0] 91)); obtain ⟨z0, z1, z2, z3, z4, z5, z6, z7, z8, z9, y0, y1, y2, y3, y4, y5, y6, y7, y8, y9⟩ := ten (jI (o := (.cells #[.slice none 0 0, .int .i64 0, .int .i8 0] 91)) HBK.out); clear y0 y1 y2 y3 y4 y5 y6 y7 y8 y9) | (go_at_call 49; refine (oC w1.heap.size w1.heap.size _ _ _ HI0.out HK0.out.1.size (by first | omega | (simp only [List.length_append, iP, List.length_nil, jA]; omega))).mono ?_; rintro e w2 ⟨rfl, hI, hK⟩; have HI1 := iC.mk hI; have HK1 := iC.mk (HK0.out.trans hK); clear hI hK z0 z1 z2 z3 z4 z5 z6 z7 z8 z9; obtain ⟨z0, z1, z2, z3, z4, z5, z6, z7, z8, z9, y0, y1, y2, y3, y4, y5, y6, y7, y8, y9⟩ := ten (iL HK1.out.1 HBK.out); clear y0 y1 y2 y3 y4 y5 y6 y7 y8 y9) | (go_at_call 50; refine (lD w1.heap.size w1.heap.size _ _ _ HI1.out HK1.out.1.size (by first | omega | (simp only [List.length_append, iP, List.length_nil, jA]; omega))).mono ?_; rintro e w3 ⟨rfl, hI, hK⟩; have HI2 := iC.mk hI; have HK2 := iC.mk (HK1.out.trans hK); clear hI hK z0 z1 z2 z3 z4 z5 z6 z7 z8 z9; obtain ⟨z0, z1, z2, z3, z4, z5, z6, z7, z8, z9, y0, y1, y2, y3, y4, y5, y6, y7, y8, y9⟩ := ten (iL HK2.out.1 HBK.out); clear y0 y1 y2 y3 y4 y5 y6 y7 y8 y9) | (go_at_call 55; refine (Tryd.Buffer_Len w1.heap.size w1.heap.size _ _ (HI2.out)).mono ?_; rintro e wl ⟨rfl, nl, rfl⟩; rw [Lib.byteCells_length, ← HLEN.out]) | (go_at_call 56; refine (Tryd.Buffer_Bytes w1.heap.size w1.heap.size _ _ (HI2.out.drewN _)).mono ?_; rintro e wb ⟨v, rfl, hv, nb, rfl⟩; have HV := iC.mk hv; clear hv))
    go_ret2
    exact ⟨_, rfl, by rw [HX.out, VK]; exact pJ HV.out HBW.out.size, by have hz := HBW.out; have hy := HK2.out.1; exact iG (iI hz hy) _⟩
set_option maxHeartbeats 8000000 in
set_option maxRecDepth 20000 in
theorem UJ (hs : jM ⟨5, a1, a2, l3, l4, ⟨a5, l6⟩, a7, a8, l9⟩ = true) : Calls Tryd.prog 17 #[.agg #[.int .u8 5, .int .u32 a1, .int .u32 a2, .slice A3 l3.length c3, .slice A4 l4.length c4, .int .u32 a5, .slice A6 l6.length c6, .int .i64 a7, .int .i64 a8, .slice A9 l9.length c9]] w (pR w (encR ⟨5, a1, a2, l3, l4, ⟨a5, l6⟩, a7, a8, l9⟩)) := by
  have H3 := iC.mk h3; have H4 := iC.mk h4; have H6 := iC.mk h6; have H9 := iC.mk h9
  clear h3 h4 h6 h9
  have HS := iC.mk hs
  unfold encR
  rw [if_pos HS.out]
  have hm3 := lC H3.out
  have hm6 := lC H6.out
  obtain ⟨X, hX⟩ : ∃ X : List UInt8, X = recE ⟨5, a1, a2, l3, l4, ⟨a5, l6⟩, a7, a8, l9⟩ := ⟨_, rfl⟩
  rw [← hX]
  have HX := iC.mk hX
  have HLEN := iC.mk (show X.length = _ from congrArg List.length (hX.trans (WG _ _ _ _ _ _ _ _ _)))
  clear hs hX
  by_cases hbig : 60000 < X.length
  · rw [if_pos hbig]
    have hbigI : (60000 : Int) < (X.length : Int) := by omega
    clear hbig
    go_enter Tryd.func17, Tryd.ntmps17
    go_wp2_with (first | (go_at_call 19; refine (code_Sound.calls 5 a1 a2 A3 c3 l3 A4 c4 l4 a5 A6 c6 l6 a7 a8 A9 c9 l9 _ _ (Kd.C_below H3.out bel_) d3 (Kd.C_below H4.out bel_) d4 (Kd.C_below H6.out bel_) d6 (Kd.C_below H9.out bel_) d9 rfl).mono ?_; rintro e w1 ⟨rfl, hb1⟩; rw [HS.out]; have HBW := iC.mk (show Below w.heap.size w w1 from iI (iF (Below.refl _ _) _) hb1); have HBK := iC.mk (iL hb1 (iV rfl)); clear hb1; have HI0 := iC.mk (Bf.fresh w1); have HK0 := iC.mk ((Kp.refl w1.heap.size w1.heap.size w1).alloc (Nat.le_refl _) (.cells #[.slice none 0 0, .int .i64 0, .int .i8 0] 91)); obtain ⟨z0, z1, z2, z3, z4, z5, z6, z7, z8, z9, y0, y1, y2, y3, y4, y5, y6, y7, y8, y9⟩ := ten (jI (o := (.cells #[.slice none 0 0, .int .i64 0, .int .i8 0] 91)) HBK.out); clear y0 y1 y2 y3 y4 y5 y6 y7 y8 y9) | (go_at_call 49; refine (oC w1.heap.size w1.heap.size _ _ _ HI0.out HK0.out.1.size (by first | omega | (simp only [List.length_append, iP, List.length_nil, jA]; omega))).mono ?_; rintro e w2 ⟨rfl, hI, hK⟩; have HI1 := iC.mk hI; have HK1 := iC.mk (HK0.out.trans hK); clear hI hK z0 z1 z2 z3 z4 z5 z6 z7 z8 z9; obtain ⟨z0, z1, z2, z3, z4, z5, z6, z7, z8, z9, y0, y1, y2, y3, y4, y5, y6, y7, y8, y9⟩ := ten (iL HK1.out.1 HBK.out); clear y0 y1 y2 y3 y4 y5 y6 y7 y8 y9) | (go_at_call 50; refine (lD w1.heap.size w1.heap.size _ _ _ HI1.out HK1.out.1.size (by first | omega | (simp only [List.length_append, iP, List.length_nil, jA]; omega))).mono ?_; rintro e w3 ⟨rfl, hI, hK⟩; have HI2 := iC.mk hI; have HK2 := iC.mk (HK1.out.trans hK); clear hI hK z0 z1 z2 z3 z4 z5 z6 z7 z8 z9; obtain ⟨z0, z1, z2, z3, z4, z5, z6, z7, z8, z9, y0, y1, y2, y3, y4, y5, y6, y7, y8, y9⟩ := ten (iL HK2.out.1 HBK.out); clear y0 y1 y2 y3 y4 y5 y6 y7 y8 y9) | (go_at_call 55; refine (Tryd.Buffer_Len w1.heap.size w1.heap.size _ _ (HI2.out)).mono ?_; rintro e wl ⟨rfl, nl, rfl⟩; rw [Lib.byteCells_length, ← HLEN.out]))
    go_ret2
    exact ⟨_, rfl, Kd.R_nil _ _ _ _ _, by have hz := HBW.out; have hy := HK2.out.1; exact iG (iI hz hy) _⟩
  · rw [if_neg hbig]
    have hbigI : ¬ (60000 : Int) < (X.length : Int) := by omega
    clear hbig
    go_enter Tryd.func17, Tryd.ntmps17
    go_wp2_with (first | (go_at_call 19; refine (code_Sound.calls 5 a1 a2 A3 c3 l3 A4 c4 l4 a5 A6 c6 l6 a7 a8 A9 c9 l9 _ _ (Kd.C_below H3.out bel_) d3 (Kd.C_below H4.out bel_) d4 (Kd.C_below H6.out bel_) d6 (Kd.C_below H9.out bel_) d9 rfl).mono ?_; rintro e w1 ⟨rfl, hb1⟩; rw [HS.out]; have HBW := iC.mk (show Below w.heap.size w w1 from iI (iF (Below.refl _ _) _) hb1); have HBK := iC.mk (iL hb1 (iV rfl)); clear hb1; have HI0 := iC.mk (Bf.fresh w1); have HK0 := iC.mk ((Kp.refl w1.heap.size w1.heap.size w1).alloc (Nat.le_refl _) (.cells #[.slice none 0 0, .int .i64 0, .int .i8 0] 91)); obtain ⟨z0, z1, z2, z3, z4, z5, z6, z7, z8, z9, y0, y1, y2, y3, y4, y5, y6, y7, y8, y9⟩ := ten (jI (o := (.cells #[.slice none 0 0, .int .i64 0, .int .i8 0] 91)) HBK.out); clear y0 y1 y2 y3 y4 y5 y6 y7 y8 y9) | (go_at_call 49; refine (oC w1.heap.size w1.heap.size _ _ _ HI0.out HK0.out.1.size (by first | omega | (simp only [List.length_append, iP, List.length_nil, jA]; omega))).mono ?_; rintro e w2 ⟨rfl, hI, hK⟩; have HI1 := iC.mk hI; have HK1 := iC.mk (HK0.out.trans hK); clear hI hK z0 z1 z2 z3 z4 z5 z6 z7 z8 z9; obtain ⟨z0, z1, z2, z3, z4, z5, z6, z7, z8, z9, y0, y1, y2, y3, y4, y5, y6, y7, y8, y9⟩ := ten (iL HK1.out.1 HBK.out); clear y0 y1 y2 y3 y4 y5 y6 y7 y8 y9) | (go_at_call 50; refine (lD w1.heap.size w1.heap.size _ _ _ HI1.out HK1.out.1.size (by first | omega | (simp only [List.length_append, iP, List.length_nil, jA]; omega))).mono ?_; rintro e w3 ⟨rfl, hI, hK⟩; have HI2 := iC.mk hI; have HK2 := iC.mk (HK1.out.trans hK); clear hI hK z0 z1 z2 z3 z4 z5 z6 z7 z8 z9; obtain ⟨z0, z1, z2, z3, z4, z5, z6, z7, z8, z9, y0, y1, y2, y3, y4, y5, y6, y7, y8, y9⟩ := ten (iL HK2.out.1 HBK.out); clear y0 y1 y2 y3 y4 y5 y6 y7 y8 y9) | (go_at_call 55; refine (Tryd.Buffer_Len w1.heap.size w1.heap.size _ _ (HI2.out)).mono ?_; rintro e wl ⟨rfl, nl, rfl⟩; rw [Lib.byteCells_length, ← HLEN.out]) | (go_at_call 56; refine (Tryd.Buffer_Bytes w1.heap.size w1.heap.size _ _ (HI2.out.drewN _)).mono ?_; rintro e wb ⟨v, rfl, hv, nb, rfl⟩; have HV := iC.mk hv; clear hv))
    go_ret2
    exact ⟨_, rfl, by rw [HX.out, WG]; exact pJ HV.out HBW.out.size, by have hz := HBW.out; have hy := HK2.out.1; exact iG (iI hz hy) _⟩
set_option maxHeartbeats 8000000 in
set_option maxRecDepth 20000 in
theorem TZ (hs : jM ⟨7, a1, a2, l3, l4, ⟨a5, l6⟩, a7, a8, l9⟩ = true) : Calls Tryd.prog 17 #[.agg #[.int .u8 7, .int .u32 a1, .int .u32 a2, .slice A3 l3.length c3, .slice A4 l4.length c4, .int .u32 a5, .slice A6 l6.length c6, .int .i64 a7, .int .i64 a8, .slice A9 l9.length c9]] w (pR w (encR ⟨7, a1, a2, l3, l4, ⟨a5, l6⟩, a7, a8, l9⟩)) := by
  have H3 := iC.mk h3; have H4 := iC.mk h4; have H6 := iC.mk h6; have H9 := iC.mk h9
  clear h3 h4 h6 h9
  have HS := iC.mk hs
  have q9 : (kN l9).length ≤ 25040004 := by
    have h := HS.out
    rw [MM, Bool.and_eq_true, Bool.and_eq_true, Bool.and_eq_true, Bool.and_eq_true, Bool.and_eq_true, Bool.and_eq_true] at h
    exact xW _ h.1.1.1.1.1.1 (by have := of_decide_eq_true h.1.1.1.1.1.2; omega)
  unfold encR
  rw [if_pos HS.out]
  have hm3 := lC H3.out
  have hm6 := lC H6.out
  obtain ⟨X, hX⟩ : ∃ X : List UInt8, X = recE ⟨7, a1, a2, l3, l4, ⟨a5, l6⟩, a7, a8, l9⟩ := ⟨_, rfl⟩
  rw [← hX]
  have HX := iC.mk hX
  have HLEN := iC.mk (show X.length = _ from congrArg List.length (hX.trans (WP _ _ _ _ _ _ _ _ _)))
  clear hs hX
  by_cases hbig : 60000 < X.length
  · rw [if_pos hbig]
    have hbigI : (60000 : Int) < (X.length : Int) := by omega
    clear hbig
    go_enter Tryd.func17, Tryd.ntmps17
    go_wp2_with (first | (go_at_call 19; refine (code_Sound.calls 7 a1 a2 A3 c3 l3 A4 c4 l4 a5 A6 c6 l6 a7 a8 A9 c9 l9 _ _ (Kd.C_below H3.out bel_) d3 (Kd.C_below H4.out bel_) d4 (Kd.C_below H6.out bel_) d6 (Kd.C_below H9.out bel_) d9 rfl).mono ?_; rintro e w1 ⟨rfl, hb1⟩; rw [HS.out]; have HBW := iC.mk (show Below w.heap.size w w1 from iI (iF (Below.refl _ _) _) hb1); have HBK := iC.mk (iL hb1 (iV rfl)); clear hb1; have HI0 := iC.mk (Bf.fresh w1); have HK0 := iC.mk ((Kp.refl w1.heap.size w1.heap.size w1).alloc (Nat.le_refl _) (.cells #[.slice none 0 0, .int .i64 0, .int .i8 0] 91)); obtain ⟨z0, z1, z2, z3, z4, z5, z6, z7, z8, z9, y0, y1, y2, y3, y4, y5, y6, y7, y8, y9⟩ := ten (jI (o := (.cells #[.slice none 0 0, .int .i64 0, .int .i8 0] 91)) HBK.out); clear y0 y1 y2 y3 y4 y5 y6 y7 y8 y9) | (go_at_call 49; refine (oC w1.heap.size w1.heap.size _ _ _ HI0.out HK0.out.1.size (by first | omega | (simp only [List.length_append, iP, List.length_nil, jA]; omega))).mono ?_; rintro e w2 ⟨rfl, hI, hK⟩; have HI1 := iC.mk hI; have HK1 := iC.mk (HK0.out.trans hK); clear hI hK z0 z1 z2 z3 z4 z5 z6 z7 z8 z9; obtain ⟨z0, z1, z2, z3, z4, z5, z6, z7, z8, z9, y0, y1, y2, y3, y4, y5, y6, y7, y8, y9⟩ := ten (iL HK1.out.1 HBK.out); clear y0 y1 y2 y3 y4 y5 y6 y7 y8 y9) | (go_at_call 50; refine (lD w1.heap.size w1.heap.size _ _ _ HI1.out HK1.out.1.size (by first | omega | (simp only [List.length_append, iP, List.length_nil, jA]; omega))).mono ?_; rintro e w3 ⟨rfl, hI, hK⟩; have HI2 := iC.mk hI; have HK2 := iC.mk (HK1.out.trans hK); clear hI hK z0 z1 z2 z3 z4 z5 z6 z7 z8 z9; obtain ⟨z0, z1, z2, z3, z4, z5, z6, z7, z8, z9, y0, y1, y2, y3, y4, y5, y6, y7, y8, y9⟩ := ten (iL HK2.out.1 HBK.out); clear y0 y1 y2 y3 y4 y5 y6 y7 y8 y9) | (go_at_call 53; refine (nP w1.heap.size w1.heap.size _ _ _ HI2.out HK2.out.1.size (by first | omega | (simp only [List.length_append, iP, List.length_nil, jA]; omega))).mono ?_; rintro e w4 ⟨rfl, hI, hK⟩; have HI3 := iC.mk hI; have HK3 := iC.mk (HK2.out.trans hK); clear hI hK z0 z1 z2 z3 z4 z5 z6 z7 z8 z9; obtain ⟨z0, z1, z2, z3, z4, z5, z6, z7, z8, z9, y0, y1, y2, y3, y4, y5, y6, y7, y8, y9⟩ := ten (iL HK3.out.1 HBK.out); clear y0 y1 y2 y3 y4 y5 y6 y7 y8 y9) | (go_at_call 53; refine (nP w1.heap.size w1.heap.size _ _ _ HI3.out HK3.out.1.size (by first | omega | (simp only [List.length_append, iP, List.length_nil, jA]; omega))).mono ?_; rintro e w5 ⟨rfl, hI, hK⟩; have HI4 := iC.mk hI; have HK4 := iC.mk (HK3.out.trans hK); clear hI hK z0 z1 z2 z3 z4 z5 z6 z7 z8 z9; obtain ⟨z0, z1, z2, z3, z4, z5, z6, z7, z8, z9, y0, y1, y2, y3, y4, y5, y6, y7, y8, y9⟩ := ten (iL HK4.out.1 HBK.out); clear y0 y1 y2 y3 y4 y5 y6 y7 y8 y9) | (go_at_call 54; refine (yK w1.heap.size _ _ _ l9 w1 _ HI4.out HK4.out.1 (Kd.C_below H9.out HBW.out) (by first | omega | (simp only [List.length_append, iP, List.length_nil, jA]; omega))).mono ?_; rintro e w6 ⟨rfl, hI, hK⟩; have HI5 := iC.mk hI; have HK5 := iC.mk (HK4.out.trans hK); clear hI hK z0 z1 z2 z3 z4 z5 z6 z7 z8 z9; obtain ⟨z0, z1, z2, z3, z4, z5, z6, z7, z8, z9, y0, y1, y2, y3, y4, y5, y6, y7, y8, y9⟩ := ten (iL HK5.out.1 HBK.out); clear y0 y1 y2 y3 y4 y5 y6 y7 y8 y9) | (go_at_call 55; refine (Tryd.Buffer_Len w1.heap.size w1.heap.size _ _ (HI5.out)).mono ?_; rintro e wl ⟨rfl, nl, rfl⟩; rw [Lib.byteCells_length, ← HLEN.out]))
    go_ret2
    exact ⟨_, rfl, Kd.R_nil _ _ _ _ _, by have hz := HBW.out; have hy := HK5.out.1; exact iG (iI hz hy) _⟩
  · rw [if_neg hbig]
    have hbigI : ¬ (60000 : Int) < (X.length : Int) := by omega
    clear hbig
    go_enter Tryd.func17, Tryd.ntmps17
    go_wp2_with (first | (go_at_call 19; refine (code_Sound.calls 7 a1 a2 A3 c3 l3 A4 c4 l4 a5 A6 c6 l6 a7 a8 A9 c9 l9 _ _ (Kd.C_below H3.out bel_) d3 (Kd.C_below H4.out bel_) d4 (Kd.C_below H6.out bel_) d6 (Kd.C_below H9.out bel_) d9 rfl).mono ?_; rintro e w1 ⟨rfl, hb1⟩; rw [HS.out]; have HBW := iC.mk (show Below w.heap.size w w1 from iI (iF (Below.refl _ _) _) hb1); have HBK := iC.mk (iL hb1 (iV rfl)); clear hb1; have HI0 := iC.mk (Bf.fresh w1); have HK0 := iC.mk ((Kp.refl w1.heap.size w1.heap.size w1).alloc (Nat.le_refl _) (.cells #[.slice none 0 0, .int .i64 0, .int .i8 0] 91)); obtain ⟨z0, z1, z2, z3, z4, z5, z6, z7, z8, z9, y0, y1, y2, y3, y4, y5, y6, y7, y8, y9⟩ := ten (jI (o := (.cells #[.slice none 0 0, .int .i64 0, .int .i8 0] 91)) HBK.out); clear y0 y1 y2 y3 y4 y5 y6 y7 y8 y9) | (go_at_call 49; refine (oC w1.heap.size w1.heap.size _ _ _ HI0.out HK0.out.1.size (by first | omega | (simp only [List.length_append, iP, List.length_nil, jA]; omega))).mono ?_; rintro e w2 ⟨rfl, hI, hK⟩; have HI1 := iC.mk hI; have HK1 := iC.mk (HK0.out.trans hK); clear hI hK z0 z1 z2 z3 z4 z5 z6 z7 z8 z9; obtain ⟨z0, z1, z2, z3, z4, z5, z6, z7, z8, z9, y0, y1, y2, y3, y4, y5, y6, y7, y8, y9⟩ := ten (iL HK1.out.1 HBK.out); clear y0 y1 y2 y3 y4 y5 y6 y7 y8 y9) | (go_at_call 50; refine (lD w1.heap.size w1.heap.size _ _ _ HI1.out HK1.out.1.size (by first | omega | (simp only [List.length_append, iP, List.length_nil, jA]; omega))).mono ?_; rintro e w3 ⟨rfl, hI, hK⟩; have HI2 := iC.mk hI; have HK2 := iC.mk (HK1.out.trans hK); clear hI hK z0 z1 z2 z3 z4 z5 z6 z7 z8 z9; obtain ⟨z0, z1, z2, z3, z4, z5, z6, z7, z8, z9, y0, y1, y2, y3, y4, y5, y6, y7, y8, y9⟩ := ten (iL HK2.out.1 HBK.out); clear y0 y1 y2 y3 y4 y5 y6 y7 y8 y9) | (go_at_call 53; refine (nP w1.heap.size w1.heap.size _ _ _ HI2.out HK2.out.1.size (by first | omega | (simp only [List.length_append, iP, List.length_nil, jA]; omega))).mono ?_; rintro e w4 ⟨rfl, hI, hK⟩; have HI3 := iC.mk hI; have HK3 := iC.mk (HK2.out.trans hK); clear hI hK z0 z1 z2 z3 z4 z5 z6 z7 z8 z9; obtain ⟨z0, z1, z2, z3, z4, z5, z6, z7, z8, z9, y0, y1, y2, y3, y4, y5, y6, y7, y8, y9⟩ := ten (iL HK3.out.1 HBK.out); clear y0 y1 y2 y3 y4 y5 y6 y7 y8 y9) | (go_at_call 53; refine (nP w1.heap.size w1.heap.size _ _ _ HI3.out HK3.out.1.size (by first | omega | (simp only [List.length_append, iP, List.length_nil, jA]; omega))).mono ?_; rintro e w5 ⟨rfl, hI, hK⟩; have HI4 := iC.mk hI; have HK4 := iC.mk (HK3.out.trans hK); clear hI hK z0 z1 z2 z3 z4 z5 z6 z7 z8 z9; obtain ⟨z0, z1, z2, z3, z4, z5, z6, z7, z8, z9, y0, y1, y2, y3, y4, y5, y6, y7, y8, y9⟩ := ten (iL HK4.out.1 HBK.out); clear y0 y1 y2 y3 y4 y5 y6 y7 y8 y9) | (go_at_call 54; refine (yK w1.heap.size _ _ _ l9 w1 _ HI4.out HK4.out.1 (Kd.C_below H9.out HBW.out) (by first | omega | (simp only [List.length_append, iP, List.length_nil, jA]; omega))).mono ?_; rintro e w6 ⟨rfl, hI, hK⟩; have HI5 := iC.mk hI; have HK5 := iC.mk (HK4.out.trans hK); clear hI hK z0 z1 z2 z3 z4 z5 z6 z7 z8 z9; obtain ⟨z0, z1, z2, z3, z4, z5, z6, z7, z8, z9, y0, y1, y2, y3, y4, y5, y6, y7, y8, y9⟩ := ten (iL HK5.out.1 HBK.out); clear y0 y1 y2 y3 y4 y5 y6 y7 y8 y9) | (go_at_call 55; refine (Tryd.Buffer_Len w1.heap.size w1.heap.size _ _ (HI5.out)).mono ?_; rintro e wl ⟨rfl, nl, rfl⟩; rw [Lib.byteCells_length, ← HLEN.out]) | (go_at_call 56; refine (Tryd.Buffer_Bytes w1.heap.size w1.heap.size _ _ (HI5.out.drewN _)).mono ?_; rintro e wb ⟨v, rfl, hv, nb, rfl⟩; have HV := iC.mk hv; clear hv))
    go_ret2
    exact ⟨_, rfl, by rw [HX.out, WP]; exact pJ HV.out HBW.out.size, by have hz := HBW.out; have hy := HK5.out.1; exact iG (iI hz hy) _⟩
set_option maxHeartbeats 8000000 in
set_option maxRecDepth 20000 in
theorem UN (hs : jM ⟨6, a1, a2, l3, l4, ⟨a5, l6⟩, a7, a8, l9⟩ = true) : Calls Tryd.prog 17 #[.agg #[.int .u8 6, .int .u32 a1, .int .u32 a2, .slice A3 l3.length c3, .slice A4 l4.length c4, .int .u32 a5, .slice A6 l6.length c6, .int .i64 a7, .int .i64 a8, .slice A9 l9.length c9]] w (pR w (encR ⟨6, a1, a2, l3, l4, ⟨a5, l6⟩, a7, a8, l9⟩)) := by
  have H3 := iC.mk h3; have H4 := iC.mk h4; have H6 := iC.mk h6; have H9 := iC.mk h9
  clear h3 h4 h6 h9
  have HS := iC.mk hs
  have q6 : l6.length ≤ 40 := by
    have h := HS.out
    rw [QL, Bool.and_eq_true, Bool.and_eq_true, Bool.and_eq_true] at h
    have := of_decide_eq_true h.1.1.2
    omega
  unfold encR
  rw [if_pos HS.out]
  have hm3 := lC H3.out
  have hm6 := lC H6.out
  obtain ⟨X, hX⟩ : ∃ X : List UInt8, X = recE ⟨6, a1, a2, l3, l4, ⟨a5, l6⟩, a7, a8, l9⟩ := ⟨_, rfl⟩
  rw [← hX]
  have HX := iC.mk hX
  have HLEN := iC.mk (show X.length = _ from congrArg List.length (hX.trans (WI _ _ _ _ _ _ _ _ _)))
  clear hs hX
  by_cases hbig : 60000 < X.length
  · rw [if_pos hbig]
    have hbigI : (60000 : Int) < (X.length : Int) := by omega
    clear hbig
    go_enter Tryd.func17, Tryd.ntmps17
    go_wp2_with (first | (go_at_call 19; refine (code_Sound.calls 6 a1 a2 A3 c3 l3 A4 c4 l4 a5 A6 c6 l6 a7 a8 A9 c9 l9 _ _ (Kd.C_below H3.out bel_) d3 (Kd.C_below H4.out bel_) d4 (Kd.C_below H6.out bel_) d6 (Kd.C_below H9.out bel_) d9 rfl).mono ?_; rintro e w1 ⟨rfl, hb1⟩; rw [HS.out]; have HBW := iC.mk (show Below w.heap.size w w1 from iI (iF (Below.refl _ _) _) hb1); have HBK := iC.mk (iL hb1 (iV rfl)); clear hb1; have HI0 := iC.mk (Bf.fresh w1); have HK0 := iC.mk ((Kp.refl w1.heap.size w1.heap.size w1).alloc (Nat.le_refl _) (.cells #[.slice none 0 0, .int .i64 0, .int .i8 0] 91)); obtain ⟨z0, z1, z2, z3, z4, z5, z6, z7, z8, z9, y0, y1, y2, y3, y4, y5, y6, y7, y8, y9⟩ := ten (jI (o := (.cells #[.slice none 0 0, .int .i64 0, .int .i8 0] 91)) HBK.out); clear y0 y1 y2 y3 y4 y5 y6 y7 y8 y9) | (go_at_call 49; refine (oC w1.heap.size w1.heap.size _ _ _ HI0.out HK0.out.1.size (by first | omega | (simp only [List.length_append, iP, List.length_nil, jA]; omega))).mono ?_; rintro e w2 ⟨rfl, hI, hK⟩; have HI1 := iC.mk hI; have HK1 := iC.mk (HK0.out.trans hK); clear hI hK z0 z1 z2 z3 z4 z5 z6 z7 z8 z9; obtain ⟨z0, z1, z2, z3, z4, z5, z6, z7, z8, z9, y0, y1, y2, y3, y4, y5, y6, y7, y8, y9⟩ := ten (iL HK1.out.1 HBK.out); clear y0 y1 y2 y3 y4 y5 y6 y7 y8 y9) | (go_at_call 50; refine (lD w1.heap.size w1.heap.size _ _ _ HI1.out HK1.out.1.size (by first | omega | (simp only [List.length_append, iP, List.length_nil, jA]; omega))).mono ?_; rintro e w3 ⟨rfl, hI, hK⟩; have HI2 := iC.mk hI; have HK2 := iC.mk (HK1.out.trans hK); clear hI hK z0 z1 z2 z3 z4 z5 z6 z7 z8 z9; obtain ⟨z0, z1, z2, z3, z4, z5, z6, z7, z8, z9, y0, y1, y2, y3, y4, y5, y6, y7, y8, y9⟩ := ten (iL HK2.out.1 HBK.out); clear y0 y1 y2 y3 y4 y5 y6 y7 y8 y9) | (go_at_call 50; refine (lD w1.heap.size w1.heap.size _ _ _ HI2.out HK2.out.1.size (by first | omega | (simp only [List.length_append, iP, List.length_nil, jA]; omega))).mono ?_; rintro e w4 ⟨rfl, hI, hK⟩; have HI3 := iC.mk hI; have HK3 := iC.mk (HK2.out.trans hK); clear hI hK z0 z1 z2 z3 z4 z5 z6 z7 z8 z9; obtain ⟨z0, z1, z2, z3, z4, z5, z6, z7, z8, z9, y0, y1, y2, y3, y4, y5, y6, y7, y8, y9⟩ := ten (iL HK3.out.1 HBK.out); clear y0 y1 y2 y3 y4 y5 y6 y7 y8 y9) | (go_at_call 53; refine (pV w1.heap.size w1.heap.size _ _ _ HI3.out HK3.out.1.size (by first | omega | (simp only [List.length_append, iP, List.length_nil, jA]; omega))).mono ?_; rintro e w5 ⟨rfl, hI, hK⟩; have HI4 := iC.mk hI; have HK4 := iC.mk (HK3.out.trans hK); clear hI hK z0 z1 z2 z3 z4 z5 z6 z7 z8 z9; obtain ⟨z0, z1, z2, z3, z4, z5, z6, z7, z8, z9, y0, y1, y2, y3, y4, y5, y6, y7, y8, y9⟩ := ten (iL HK4.out.1 HBK.out); clear y0 y1 y2 y3 y4 y5 y6 y7 y8 y9))
    clear z0 z1 z2 z3 z4 z5 z6 z7 z8 z9
    go_loopw [59] (fun i wr => ∃ k : Nat, k ≤ l6.length ∧ i = .int .i64 k ∧ iC (Bf w1.heap.size w1.heap.size ([] ++ layB 6 1 ++ layB a1 4 ++ layB a5 4 ++ layB l6.length 1 ++ (l6.take k).flatMap nK) wr) ∧ iC (Kp w1.heap.size w1.heap.size w1 wr)) (fun i _ => l6.length - (intOf i).toNat)
    case atStart => exact ⟨0, Nat.zero_le _, rfl, ⟨by rw [List.take_zero, List.flatMap_nil, List.append_nil]; exact HI4.out⟩, HK4⟩
    case round =>
      obtain ⟨k, hk, rfl, HI, HK⟩ := hrel
      clear HI4 HK4 HI3 HK3 HI2 HK2 HI1 HK1 HI0 HK0
      by_cases hlt : k < l6.length
      · obtain ⟨ad, rfl, hx0, hx1⟩ := mW (Kd.C_below H6.out (iI HBW.out HK.out.1)) (k : Int) (by omega) (by omega)
        rw [PX] at hx0 hx1
        rw [Int.toNat_natCast] at hx0 hx1
        have hts := iC.mk (kL nK yJ l6 k hlt)
        have hpl : ([] ++ layB 6 1 ++ layB a1 4 ++ layB a5 4 ++ layB l6.length 1 ++ (l6.take k).flatMap nK).length + 10 ≤ 140737488355328 := by
          simp only [List.length_append, iP, List.length_nil, vK, List.length_take]
          omega
        obtain ⟨s, hs⟩ : ∃ s, s = l6.getD k yJ := ⟨_, rfl⟩
        rw [← hs] at hx0 hx1 hts
        clear hs
        obtain ⟨pre, hpre⟩ : ∃ p, p = [] ++ layB 6 1 ++ layB a1 4 ++ layB a5 4 ++ layB l6.length 1 ++ (l6.take k).flatMap nK := ⟨_, rfl⟩
        have hrest : [] ++ layB 6 1 ++ layB a1 4 ++ layB a5 4 ++ layB l6.length 1 ++ (l6.take (k + 1)).flatMap nK = pre ++ nK s := by rw [hts.out, ← List.append_assoc, hpre]
        have HREST := iC.mk hrest
        rw [← hpre] at HI hpl
        have HPL := iC.mk (show (pre ++ layB s.f0 4).length + 1 ≤ 140737488355328 from by rw [List.length_append, iP]; omega)
        have HPL4 := iC.mk (show pre.length + 4 ≤ 140737488355328 from by omega)
        clear hpre hrest hts hpl
        obtain ⟨wo, rfl⟩ : ∃ wo : World, wo = wr := ⟨_, rfl⟩
        have HBX := iC.mk (Bf.alloc HI.out (.cells #[.int .i64 s.f0, .int .i64 s.f1] 98))
        have HKX := iC.mk (HK.out.alloc HK.out.1.size (.cells #[.int .i64 s.f0, .int .i64 s.f1] 98))
        have HNE := iC.mk (show wo.heap.size ≠ w1.heap.size from by have := HI.out.lt; omega)
        go_wp2_with fail
        refine (nP _ _ pre _ _ HBX.out HKX.out.1.size HPL4.out).mono ?_
        rintro e w2 ⟨rfl, hI, hK⟩
        have HI1 := iC.mk hI
        have HK1 := iC.mk (HKX.out.trans hK)
        have hblk := hK.block (iV rfl) HNE.out (by decide)
        clear hI hK
        have hz1 : w2.cell? ⟨wo.heap.size, 1, none⟩ = some (.int .i64 s.f1) := (iE hblk 1).trans rfl
        clear hblk
        go_wp2_with fail
        refine (pV _ _ _ _ _ HI1.out HK1.out.1.size HPL.out).mono ?_
        rintro e w3 ⟨rfl, hI, hK⟩
        have HI2 := iC.mk hI
        have HK2 := iC.mk (HK1.out.trans hK)
        clear hI hK
        go_wp2
        go_roundw
        case rel => exact ⟨k + 1, by omega, by go_num, ⟨by rw [HREST.out, nK, ← List.append_assoc]; exact HI2.out⟩, HK2⟩
        case measure => simp [intOf]; omega
      · skip
        obtain rfl : k = l6.length := by omega
        have hI' := HI.out
        rw [List.take_length] at hI'
        have HI' := iC.mk hI'
        clear hI'
        go_wp2_with (first | (go_at_call 55; refine (Tryd.Buffer_Len w1.heap.size w1.heap.size _ _ (HI'.out)).mono ?_; rintro e wl ⟨rfl, nl, rfl⟩; rw [Lib.byteCells_length, ← HLEN.out]))
        go_ret2
        exact ⟨_, rfl, Kd.R_nil _ _ _ _ _, by have hz := HBW.out; have hy := HK.out.1; exact iG (iI hz hy) _⟩
  · rw [if_neg hbig]
    have hbigI : ¬ (60000 : Int) < (X.length : Int) := by omega
    clear hbig
    go_enter Tryd.func17, Tryd.ntmps17
    go_wp2_with (first | (go_at_call 19; refine (code_Sound.calls 6 a1 a2 A3 c3 l3 A4 c4 l4 a5 A6 c6 l6 a7 a8 A9 c9 l9 _ _ (Kd.C_below H3.out bel_) d3 (Kd.C_below H4.out bel_) d4 (Kd.C_below H6.out bel_) d6 (Kd.C_below H9.out bel_) d9 rfl).mono ?_; rintro e w1 ⟨rfl, hb1⟩; rw [HS.out]; have HBW := iC.mk (show Below w.heap.size w w1 from iI (iF (Below.refl _ _) _) hb1); have HBK := iC.mk (iL hb1 (iV rfl)); clear hb1; have HI0 := iC.mk (Bf.fresh w1); have HK0 := iC.mk ((Kp.refl w1.heap.size w1.heap.size w1).alloc (Nat.le_refl _) (.cells #[.slice none 0 0, .int .i64 0, .int .i8 0] 91)); obtain ⟨z0, z1, z2, z3, z4, z5, z6, z7, z8, z9, y0, y1, y2, y3, y4, y5, y6, y7, y8, y9⟩ := ten (jI (o := (.cells #[.slice none 0 0, .int .i64 0, .int .i8 0] 91)) HBK.out); clear y0 y1 y2 y3 y4 y5 y6 y7 y8 y9) | (go_at_call 49; refine (oC w1.heap.size w1.heap.size _ _ _ HI0.out HK0.out.1.size (by first | omega | (simp only [List.length_append, iP, List.length_nil, jA]; omega))).mono ?_; rintro e w2 ⟨rfl, hI, hK⟩; have HI1 := iC.mk hI; have HK1 := iC.mk (HK0.out.trans hK); clear hI hK z0 z1 z2 z3 z4 z5 z6 z7 z8 z9; obtain ⟨z0, z1, z2, z3, z4, z5, z6, z7, z8, z9, y0, y1, y2, y3, y4, y5, y6, y7, y8, y9⟩ := ten (iL HK1.out.1 HBK.out); clear y0 y1 y2 y3 y4 y5 y6 y7 y8 y9) | (go_at_call 50; refine (lD w1.heap.size w1.heap.size _ _ _ HI1.out HK1.out.1.size (by first | omega | (simp only [List.length_append, iP, List.length_nil, jA]; omega))).mono ?_; rintro e w3 ⟨rfl, hI, hK⟩; have HI2 := iC.mk hI; have HK2 := iC.mk (HK1.out.trans hK); clear hI hK z0 z1 z2 z3 z4 z5 z6 z7 z8 z9; obtain ⟨z0, z1, z2, z3, z4, z5, z6, z7, z8, z9, y0, y1, y2, y3, y4, y5, y6, y7, y8, y9⟩ := ten (iL HK2.out.1 HBK.out); clear y0 y1 y2 y3 y4 y5 y6 y7 y8 y9) | (go_at_call 50; refine (lD w1.heap.size w1.heap.size _ _ _ HI2.out HK2.out.1.size (by first | omega | (simp only [List.length_append, iP, List.length_nil, jA]; omega))).mono ?_; rintro e w4 ⟨rfl, hI, hK⟩; have HI3 := iC.mk hI; have HK3 := iC.mk (HK2.out.trans hK); clear hI hK z0 z1 z2 z3 z4 z5 z6 z7 z8 z9; obtain ⟨z0, z1, z2, z3, z4, z5, z6, z7, z8, z9, y0, y1, y2, y3, y4, y5, y6, y7, y8, y9⟩ := ten (iL HK3.out.1 HBK.out); clear y0 y1 y2 y3 y4 y5 y6 y7 y8 y9) | (go_at_call 53; refine (pV w1.heap.size w1.heap.size _ _ _ HI3.out HK3.out.1.size (by first | omega | (simp only [List.length_append, iP, List.length_nil, jA]; omega))).mono ?_; rintro e w5 ⟨rfl, hI, hK⟩; have HI4 := iC.mk hI; have HK4 := iC.mk (HK3.out.trans hK); clear hI hK z0 z1 z2 z3 z4 z5 z6 z7 z8 z9; obtain ⟨z0, z1, z2, z3, z4, z5, z6, z7, z8, z9, y0, y1, y2, y3, y4, y5, y6, y7, y8, y9⟩ := ten (iL HK4.out.1 HBK.out); clear y0 y1 y2 y3 y4 y5 y6 y7 y8 y9))
    clear z0 z1 z2 z3 z4 z5 z6 z7 z8 z9
    go_loopw [59] (fun i wr => ∃ k : Nat, k ≤ l6.length ∧ i = .int .i64 k ∧ iC (Bf w1.heap.size w1.heap.size ([] ++ layB 6 1 ++ layB a1 4 ++ layB a5 4 ++ layB l6.length 1 ++ (l6.take k).flatMap nK) wr) ∧ iC (Kp w1.heap.size w1.heap.size w1 wr)) (fun i _ => l6.length - (intOf i).toNat)
    case atStart => exact ⟨0, Nat.zero_le _, rfl, ⟨by rw [List.take_zero, List.flatMap_nil, List.append_nil]; exact HI4.out⟩, HK4⟩
    case round =>
      obtain ⟨k, hk, rfl, HI, HK⟩ := hrel
      clear HI4 HK4 HI3 HK3 HI2 HK2 HI1 HK1 HI0 HK0
      by_cases hlt : k < l6.length
      · obtain ⟨ad, rfl, hx0, hx1⟩ := mW (Kd.C_below H6.out (iI HBW.out HK.out.1)) (k : Int) (by omega) (by omega)
        rw [PX] at hx0 hx1
        rw [Int.toNat_natCast] at hx0 hx1
        have hts := iC.mk (kL nK yJ l6 k hlt)
        have hpl : ([] ++ layB 6 1 ++ layB a1 4 ++ layB a5 4 ++ layB l6.length 1 ++ (l6.take k).flatMap nK).length + 10 ≤ 140737488355328 := by
          simp only [List.length_append, iP, List.length_nil, vK, List.length_take]
          omega
        obtain ⟨s, hs⟩ : ∃ s, s = l6.getD k yJ := ⟨_, rfl⟩
        rw [← hs] at hx0 hx1 hts
        clear hs
        obtain ⟨pre, hpre⟩ : ∃ p, p = [] ++ layB 6 1 ++ layB a1 4 ++ layB a5 4 ++ layB l6.length 1 ++ (l6.take k).flatMap nK := ⟨_, rfl⟩
        have hrest : [] ++ layB 6 1 ++ layB a1 4 ++ layB a5 4 ++ layB l6.length 1 ++ (l6.take (k + 1)).flatMap nK = pre ++ nK s := by rw [hts.out, ← List.append_assoc, hpre]
        have HREST := iC.mk hrest
        rw [← hpre] at HI hpl
        have HPL := iC.mk (show (pre ++ layB s.f0 4).length + 1 ≤ 140737488355328 from by rw [List.length_append, iP]; omega)
        have HPL4 := iC.mk (show pre.length + 4 ≤ 140737488355328 from by omega)
        clear hpre hrest hts hpl
        obtain ⟨wo, rfl⟩ : ∃ wo : World, wo = wr := ⟨_, rfl⟩
        have HBX := iC.mk (Bf.alloc HI.out (.cells #[.int .i64 s.f0, .int .i64 s.f1] 98))
        have HKX := iC.mk (HK.out.alloc HK.out.1.size (.cells #[.int .i64 s.f0, .int .i64 s.f1] 98))
        have HNE := iC.mk (show wo.heap.size ≠ w1.heap.size from by have := HI.out.lt; omega)
        go_wp2_with fail
        refine (nP _ _ pre _ _ HBX.out HKX.out.1.size HPL4.out).mono ?_
        rintro e w2 ⟨rfl, hI, hK⟩
        have HI1 := iC.mk hI
        have HK1 := iC.mk (HKX.out.trans hK)
        have hblk := hK.block (iV rfl) HNE.out (by decide)
        clear hI hK
        have hz1 : w2.cell? ⟨wo.heap.size, 1, none⟩ = some (.int .i64 s.f1) := (iE hblk 1).trans rfl
        clear hblk
        go_wp2_with fail
        refine (pV _ _ _ _ _ HI1.out HK1.out.1.size HPL.out).mono ?_
        rintro e w3 ⟨rfl, hI, hK⟩
        have HI2 := iC.mk hI
        have HK2 := iC.mk (HK1.out.trans hK)
        clear hI hK
        go_wp2
        go_roundw
        case rel => exact ⟨k + 1, by omega, by go_num, ⟨by rw [HREST.out, nK, ← List.append_assoc]; exact HI2.out⟩, HK2⟩
        case measure => simp [intOf]; omega
      · skip
        obtain rfl : k = l6.length := by omega
        have hI' := HI.out
        rw [List.take_length] at hI'
        have HI' := iC.mk hI'
        clear hI'
        go_wp2_with (first | (go_at_call 55; refine (Tryd.Buffer_Len w1.heap.size w1.heap.size _ _ (HI'.out)).mono ?_; rintro e wl ⟨rfl, nl, rfl⟩; rw [Lib.byteCells_length, ← HLEN.out]) | (go_at_call 56; refine (Tryd.Buffer_Bytes w1.heap.size w1.heap.size _ _ (HI'.out.drewN _)).mono ?_; rintro e wb ⟨v, rfl, hv, nb, rfl⟩; have HV := iC.mk hv; clear hv))
        go_ret2
        exact ⟨_, rfl, by rw [HX.out, WI]; exact pJ HV.out HBW.out.size, by have hz := HBW.out; have hy := HK.out.1; exact iG (iI hz hy) _⟩
set_option maxHeartbeats 2000000 in
theorem UY (hs : jM ⟨a0, a1, a2, l3, l4, ⟨a5, l6⟩, a7, a8, l9⟩ = false) : Calls Tryd.prog 17 #[.agg #[.int .u8 a0, .int .u32 a1, .int .u32 a2, .slice A3 l3.length c3, .slice A4 l4.length c4, .int .u32 a5, .slice A6 l6.length c6, .int .i64 a7, .int .i64 a8, .slice A9 l9.length c9]] w (pR w (encR ⟨a0, a1, a2, l3, l4, ⟨a5, l6⟩, a7, a8, l9⟩)) := by
  have H3 := iC.mk h3; have H4 := iC.mk h4; have H6 := iC.mk h6; have H9 := iC.mk h9
  clear h3 h4 h6 h9
  unfold encR
  rw [if_neg (by rw [hs]; exact Bool.false_ne_true)]
  have HS := iC.mk hs
  clear hs
  go_enter Tryd.func17, Tryd.ntmps17
  go_wp2_with (first | (go_at_call 19; refine (code_Sound.calls a0 a1 a2 A3 c3 l3 A4 c4 l4 a5 A6 c6 l6 a7 a8 A9 c9 l9 _ _ (Kd.C_below H3.out bel_) d3 (Kd.C_below H4.out bel_) d4 (Kd.C_below H6.out bel_) d6 (Kd.C_below H9.out bel_) d9 rfl).mono ?_; rintro e w1 ⟨rfl, hb1⟩; rw [HS.out]))
  go_ret2
  exact ⟨_, rfl, Kd.R_nil _ _ _ _ _, iI (iF (Below.refl _ _) _) hb1⟩
end
theorem code_Encode.calls (a0_0 : Int) (a0_1 : Int) (a0_2 : Int) (A0_3 : Option Addr) (c0_3 : Nat) (l0_3 : List Int) (A0_4 : Option Addr) (c0_4 : Nat) (l0_4 : List jO) (a0_5 : Int) (A0_6 : Option Addr) (c0_6 : Nat) (l0_6 : List kD) (a0_7 : Int) (a0_8 : Int) (A0_9 : Option Addr) (c0_9 : Nat) (l0_9 : List jJ) (r1 : List Int) (r2 : Int) (w : World) (hr0_3 : Kd.C (Kd.int .i64) w A0_3 l0_3.length l0_3) (hc0_3 : l0_3.length ≤ c0_3) (hr0_4 : Kd.C k139 w A0_4 l0_4.length l0_4) (hc0_4 : l0_4.length ≤ c0_4) (hr0_6 : Kd.C k98 w A0_6 l0_6.length l0_6) (hc0_6 : l0_6.length ≤ c0_6) (hr0_9 : Kd.C k86 w A0_9 l0_9.length l0_9) (hc0_9 : l0_9.length ≤ c0_9) (h : code_Encode.f a0_0 a0_1 a0_2 l0_3 l0_4 a0_5 l0_6 a0_7 a0_8 l0_9 = some (r1, r2)) :
    Calls Tryd.prog 17 #[.agg #[.int .u8 a0_0, .int .u32 a0_1, .int .u32 a0_2, .slice A0_3 l0_3.length c0_3, .slice A0_4 l0_4.length c0_4, .int .u32 a0_5, .slice A0_6 l0_6.length c0_6, .int .i64 a0_7, .int .i64 a0_8, .slice A0_9 l0_9.length c0_9]] w fun e w' => ∃ v0_ : Value, e = .returned (.tuple #[v0_, .int .u16 r2]) ∧ Kd.R (Kd.int .u8) 5 w' w.heap.size (fun _ => True) v0_ r1 ∧ Below w.heap.size w w' := by
  have e := Option.some.inj h
  clear h
  have main : Calls Tryd.prog 17 #[.agg #[.int .u8 a0_0, .int .u32 a0_1, .int .u32 a0_2, .slice A0_3 l0_3.length c0_3, .slice A0_4 l0_4.length c0_4, .int .u32 a0_5, .slice A0_6 l0_6.length c0_6, .int .i64 a0_7, .int .i64 a0_8, .slice A0_9 l0_9.length c0_9]] w (pR w (encR ⟨a0_0, a0_1, a0_2, l0_3, l0_4, ⟨a0_5, l0_6⟩, a0_7, a0_8, l0_9⟩)) := by
    clear e
    cases hs : jM ⟨a0_0, a0_1, a0_2, l0_3, l0_4, ⟨a0_5, l0_6⟩, a0_7, a0_8, l0_9⟩ with
    | false => exact UY a0_0 a0_1 a0_2 A0_3 c0_3 l0_3 A0_4 c0_4 l0_4 a0_5 A0_6 c0_6 l0_6 a0_7 a0_8 A0_9 c0_9 l0_9 w hr0_3 hc0_3 hr0_4 hc0_4 hr0_6 hc0_6 hr0_9 hc0_9 hs
    | true =>
      by_cases h0 : a0_0 < 1 ∨ 7 < a0_0
      · rw [P6 _ _ _ _ _ _ _ _ _ _ h0] at hs
        cases hs
      have h7 : a0_0 = 1 ∨ a0_0 = 2 ∨ a0_0 = 3 ∨ a0_0 = 4 ∨ a0_0 = 5 ∨ a0_0 = 6 ∨ a0_0 = 7 := by omega
      rcases h7 with rfl | rfl | rfl | rfl | rfl | rfl | rfl
      · exact UW a0_1 a0_2 A0_3 c0_3 l0_3 A0_4 c0_4 l0_4 a0_5 A0_6 c0_6 l0_6 a0_7 a0_8 A0_9 c0_9 l0_9 w hr0_3 hc0_3 hr0_4 hc0_4 hr0_6 hc0_6 hr0_9 hc0_9 hs
      · exact TW a0_1 a0_2 A0_3 c0_3 l0_3 A0_4 c0_4 l0_4 a0_5 A0_6 c0_6 l0_6 a0_7 a0_8 A0_9 c0_9 l0_9 w hr0_3 hc0_3 hr0_4 hc0_4 hr0_6 hc0_6 hr0_9 hc0_9 hs
      · exact UE a0_1 a0_2 A0_3 c0_3 l0_3 A0_4 c0_4 l0_4 a0_5 A0_6 c0_6 l0_6 a0_7 a0_8 A0_9 c0_9 l0_9 w hr0_3 hc0_3 hr0_4 hc0_4 hr0_6 hc0_6 hr0_9 hc0_9 hs
      · exact TR a0_1 a0_2 A0_3 c0_3 l0_3 A0_4 c0_4 l0_4 a0_5 A0_6 c0_6 l0_6 a0_7 a0_8 A0_9 c0_9 l0_9 w hr0_3 hc0_3 hr0_4 hc0_4 hr0_6 hc0_6 hr0_9 hc0_9 hs
      · exact UJ a0_1 a0_2 A0_3 c0_3 l0_3 A0_4 c0_4 l0_4 a0_5 A0_6 c0_6 l0_6 a0_7 a0_8 A0_9 c0_9 l0_9 w hr0_3 hc0_3 hr0_4 hc0_4 hr0_6 hc0_6 hr0_9 hc0_9 hs
      · exact UN a0_1 a0_2 A0_3 c0_3 l0_3 A0_4 c0_4 l0_4 a0_5 A0_6 c0_6 l0_6 a0_7 a0_8 A0_9 c0_9 l0_9 w hr0_3 hc0_3 hr0_4 hc0_4 hr0_6 hc0_6 hr0_9 hc0_9 hs
      · exact TZ a0_1 a0_2 A0_3 c0_3 l0_3 A0_4 c0_4 l0_4 a0_5 A0_6 c0_6 l0_6 a0_7 a0_8 A0_9 c0_9 l0_9 w hr0_3 hc0_3 hr0_4 hc0_4 hr0_6 hc0_6 hr0_9 hc0_9 hs
  rw [e] at main
  exact main
end Go.Proofs.YtgfkgppomaapiaaDoor.K
end

section
namespace Go.Proofs.YtgfkgppomaapiaaDoor.K
open Go.RowKit Go.Proofs.YtgfkgppomaapiaaDoorW.PrintWords Go.Proofs.YtgfkgppomaapiaaDoorW.PrintLast Go.Proofs.YtgfkgppomaapiaaDoorW.PrintMore
attribute [local go_sem] kH kS
def bytes_Equal.f (l0 : List Int) (l1 : List Int) : Option (Bool) := some ((strOfNums l0).toList == (strOfNums l1).toList)
set_option maxHeartbeats 8000000 in
set_option maxRecDepth 100000 in
theorem bytes_Equal.calls (A0 : Option Addr) (c0 : Nat) (l0 : List Int) (A1 : Option Addr) (c1 : Nat) (l1 : List Int) (r : Bool) (w : World) (hr0 : Kd.C (Kd.int .u8) w A0 l0.length l0) (hc0 : l0.length ≤ c0) (hr1 : Kd.C (Kd.int .u8) w A1 l1.length l1) (hc1 : l1.length ≤ c1) (h : bytes_Equal.f l0 l1 = some r) :
    Calls Tryd.prog 75 #[.slice A0 l0.length c0, .slice A1 l1.length c1] w fun e w' => e = .returned (.bool r) ∧ jG w w' := by
  have HR0 := iC.mk hr0
  have HC0 := iC.mk hc0
  clear hr0 hc0
  have HR1 := iC.mk hr1
  have HC1 := iC.mk hc1
  clear hr1 hc1
  have H : (some ((strOfNums l0).toList == (strOfNums l1).toList)) = some r := h
  clear h
  obtain rfl := Option.some.inj H
  have hcv3 := Kd.C_string (P := Tryd.prog) (A := A0) (c := c0) Tryd.underlying33 Tryd.underlying5 Tryd.underlying9 HR0.out
  have hcv4 := Kd.C_string (P := Tryd.prog) (A := A1) (c := c1) Tryd.underlying33 Tryd.underlying5 Tryd.underlying9 HR1.out
  go_enter Tryd.func75, Tryd.ntmps75
  go_wp2
  go_ret
  exact ⟨by first | rfl | (simp; done) | (simp [*]; done), by repeat (first | exact jG.refl _ | apply jG.step)⟩
end Go.Proofs.YtgfkgppomaapiaaDoor.K
end

section
namespace Go.Proofs.YtgfkgppomaapiaaDoor.K
open RowKit YtgfkgppomaapiaaDoorW.PrintWords YtgfkgppomaapiaaDoorW.PrintLast YtgfkgppomaapiaaDoorW.PrintMore My
def rQ : SRec := ⟨0, 0, 0, [], [], ⟨0, []⟩, 0, 0, []⟩
def bytesOf (l0 : List Int) : List UInt8 := l0.map fun x => UInt8.ofNat x.toNat
def decR (l : List UInt8) : SRec × Int := if 60000 < l.length then (rQ, 3) else match recP l with | none => (rQ, 70) | some (x, _) => if encR x = (nums l, 0) then (x, 0) else (rQ, 70)
def XT (r : SRec × Int) : Int × Int × Int × List Int × List jO × Int × List kD × Int × Int × List jJ × Int := (r.1.f0, r.1.f1, r.1.f2, r.1.f3, r.1.f4, r.1.f5.f0, r.1.f5.f1, r.1.f6, r.1.f7, r.1.f8, r.2)
theorem vP (l : List UInt8) : bytesOf (nums l) = l := by
  unfold bytesOf nums
  rw [List.map_map]
  conv => rhs; rw [← List.map_id l]
  apply List.map_congr_left
  intro b _
  simp
theorem MW {l m : List UInt8} (h : nums l = nums m) : l = m := by rw [← vP l, h, vP]
theorem rG {w : World} {A : Option Addr} {n : Nat} {l : List UInt8} (h : (Kd.int .u8).C w A n (nums l)) : kb.C w A n l := by
  refine ⟨by rw [← jH]; exact h.1, h.2.1, fun hn => ?_⟩
  obtain ⟨ad, e, hc⟩ := h.2.2 hn
  refine ⟨ad, e, fun j p hj => ?_⟩
  obtain ⟨c, h1, h2, h3⟩ := hc j (p.toNat : Int) (by unfold nums; rw [List.getElem?_map, hj]; rfl)
  exact ⟨c, h1, h2, h3⟩
theorem zD (l m : List UInt8) : ((strOfNums (nums l)).toList == (strOfNums (nums m)).toList) = decide (l = m) := by
  unfold nums
  rw [rY, rY, jL, jL]
  by_cases h : l = m
  · subst h; simp
  · simp [h]
theorem rD (x : SRec) : encR x = ([], 1) ∨ encR x = ([], 3) ∨ encR x = (nums (recE x), 0) := by
  unfold encR
  split
  · split
    · exact .inr (.inl rfl)
    · exact .inr (.inr rfl)
  · exact .inl rfl
def I5 (w : World) (r : SRec × Int) (e : Ending) (w' : World) : Prop := ∃ v, e = .returned (.tuple #[v, .int .u16 r.2]) ∧ RecV w.heap.size r.1 v w' ∧ Below w.heap.size w w'
theorem WQ (w w' : World) (c : Int) (h : Below w.heap.size w w') : I5 w (rQ, c) (.returned (.tuple #[.agg #[.int .u8 0, .int .u32 0, .int .u32 0, .slice none 0 0, .slice none 0 0, .int .u32 0, .slice none 0 0, .int .i64 0, .int .i64 0, .slice none 0 0], .int .u16 c])) w' :=
  ⟨_, rfl, ⟨_, _, _, _, rfl, Kd.R_nil _ _ _ _ _, Kd.R_nil _ _ _ _ _, Kd.R_nil _ _ _ _ _, Kd.R_nil _ _ _ _ _⟩, h⟩
theorem lH {base : Nat} {x : SRec} {v : Value} {w w' : World} (h : RecV base x v w) (hb : Below w.heap.size w w') : RecV base x v w' := by
  obtain ⟨v3, v4, v6, v9, rfl, h3, h4, h6, h9⟩ := h
  exact ⟨v3, v4, v6, v9, rfl, Kd.R_below h3 hb, Kd.R_below h4 hb, Kd.R_below h6 hb, Kd.R_below h9 hb⟩
theorem vG {tmps : Array Value} {W : World} {p u : Tmp} {b : Nat} {cs : Array Value} {x : Value} (h : Tryd.f22.results = #[.cell p 30, .tmp u]) (hp : tmps.getD p undef = .pointer (some ⟨b, 0, none⟩)) (hu : tmps.getD u undef = x) (hx : W.heap[b]? = some (.cells cs 30 (0, 0))) (hs : cs.size = 10) :
    (results Tryd.f22 tmps).run Tryd.prog W = .ok (.tuple #[.agg cs, x]) W := by
  have h1 := run_loadVar_row (P := Tryd.prog) W b 30 30 cs (0, 0) _ hx Tryd.underlying30 rfl (by rw [hs]; kernel_rfl)
  rw [results_cell_tmp h, hp, hu]
  simp [asAddr, h1, Result.andThen]
theorem xC {w : World} {b : Nat} (h : w.heap[b]? = some (.cells #[.int .u8 0, .int .u32 0, .int .u32 0, .slice none 0 0, .slice none 0 0, .int .u32 0, .slice none 0 0, .int .i64 0, .int .i64 0, .slice none 0 0] 30 (0, 0))) : (Instr.storeAt 30 (.pointer (some ⟨b, 0, none⟩)) (.agg #[.int .u8 0, .int .u32 0, .int .u32 0, .slice none 0 0, .slice none 0 0, .int .u32 0, .slice none 0 0, .int .i64 0, .int .i64 0, .slice none 0 0])).run Tryd.prog w = .ok () (w.setRow b #[.int .u8 0, .int .u32 0, .int .u32 0, .slice none 0 0, .slice none 0 0, .int .u32 0, .slice none 0 0, .int .i64 0, .int .i64 0, .slice none 0 0]) := nO (a := 0) (k := 0) (i := 0) (x3 := .slice none 0 0) (x4 := .slice none 0 0) (j := 0) (x6 := .slice none 0 0) (p := 0) (q := 0) (x9 := .slice none 0 0) h rfl rfl rfl rfl
theorem yC (w W : World) (h : Below w.heap.size w W) (c : Int) : I5 w (rQ, c) (.returned (.tuple #[.agg #[.int .u8 0, .int .u32 0, .int .u32 0, .slice none 0 0, .slice none 0 0, .int .u32 0, .slice none 0 0, .int .i64 0, .int .i64 0, .slice none 0 0], .int .u16 c])) (W.setRow w.heap.size #[.int .u8 0, .int .u32 0, .int .u32 0, .slice none 0 0, .slice none 0 0, .int .u32 0, .slice none 0 0, .int .i64 0, .int .i64 0, .slice none 0 0]) :=
  WQ w _ c (below_grown h (jC W w.heap.size _) (Nat.le_refl _) (Nat.le_refl _))
attribute [-go_sem] Instr.build Instr.storeAt Instr.loadAt
attribute [local go_sem] QU
set_option maxRecDepth 20000 in
set_option maxHeartbeats 8000000 in
theorem decode_any (A : Option Addr) (c : Nat) (l : List UInt8) (w : World) (hCi : (Kd.int .u8).C w A l.length (nums l)) (hc : l.length ≤ c) :
    Calls Tryd.prog 22 #[.slice A l.length c] w (I5 w (decR l)) := by
  obtain ⟨Wa, hWa⟩ : ∃ Wa, Wa = w.alloc (.cells #[.int .u8 0, .int .u32 0, .int .u32 0, .slice none 0 0, .slice none 0 0, .int .u32 0, .slice none 0 0, .int .i64 0, .int .i64 0, .slice none 0 0] 30) := ⟨_, rfl⟩
  have HWA := iC.mk hWa
  have hBa : Below w.heap.size w Wa := by rw [hWa]; exact iF (Below.refl _ _) _
  have HXA := iC.mk (show Wa.heap[w.heap.size]? = some (.cells #[.int .u8 0, .int .u32 0, .int .u32 0, .slice none 0 0, .slice none 0 0, .int .u32 0, .slice none 0 0, .int .i64 0, .int .i64 0, .slice none 0 0] 30 (0, 0)) from by rw [hWa]; exact iV rfl)
  have HBA := iC.mk hBa
  have HLT := iC.mk (jR HXA.out)
  have HCI := iC.mk (Kd.C_below hCi hBa)
  have HC := iC.mk (rG HCI.out)
  clear hCi hWa hBa
  unfold decR
  by_cases hl : 60000 < l.length
  · rw [if_pos hl]
    have hst := fun (_ : True) => xC (show (w.alloc (.cells #[.int .u8 0, .int .u32 0, .int .u32 0, .slice none 0 0, .slice none 0 0, .int .u32 0, .slice none 0 0, .int .i64 0, .int .i64 0, .slice none 0 0] 30)).heap[w.heap.size]? = _ from iV rfl)
    go_enter Tryd.func22, Tryd.ntmps22
    go_wp2
    ((try simp only [Exit.inBlock, Exit.then]); exact bodyPost_ret (vG rfl rfl rfl (setRow_heap _ _ _ _ _ _ (iV rfl)) rfl) rfl (yC w _ (iF (Below.refl _ _) _) 3))
  · rw [if_neg hl]
    have hcall := TD A c l Wa HC.out hc (by omega)
    cases hp : recP l with
    | none =>
      go_enter Tryd.func22, Tryd.ntmps22
      go_wp2_with fail
      rw [← HWA.out]
      refine hcall.mono ?_
      rintro e w1 ⟨hB, hor⟩
      rcases hor.symm with ⟨_, rfl⟩ | ⟨x, r, v, h, _⟩
      case inr => rw [hp] at h; cases h
      have HX := iC.mk ((hB.block _ HLT.out).trans HXA.out)
      have HB := iC.mk (HBA.out.trans (hB.mono HBA.out.size))
      have hst := fun (_ : True) => xC (show (w1.alloc (.cells #[.int .u8 0, .int .u32 0, .int .u32 0, .slice none 0 0, .slice none 0 0, .int .u32 0, .slice none 0 0, .int .i64 0, .int .i64 0, .slice none 0 0] 30)).heap[w.heap.size]? = _ from jI HX.out)
      have hsx := fun (_ : True) => run_storeAt_new (P := Tryd.prog) w1 30 #[.int .u8 0, .int .u32 0, .int .u32 0, .slice none 0 0, .slice none 0 0, .int .u32 0, .slice none 0 0, .int .i64 0, .int .i64 0, .slice none 0 0] #[.int .u8 0, .int .u32 0, .int .u32 0, .slice none 0 0, .slice none 0 0, .int .u32 0, .slice none 0 0, .int .i64 0, .int .i64 0, .slice none 0 0] (by kernel_rfl) rfl (by simp [Value.oneCell'])
      clear hp hcall hB hor
      go_wp2
      ((try simp only [Exit.inBlock, Exit.then]); exact bodyPost_ret (vG rfl rfl rfl (setRow_heap _ _ _ _ _ _ (jI HX.out)) rfl) rfl (yC w _ (iF HB.out _) 70))
    | some y =>
      obtain ⟨x, r⟩ := y
      obtain ⟨D, hD⟩ : ∃ D : SRec × Int, D = (if encR x = (nums l, 0) then (x, 0) else (rQ, 70)) := ⟨_, rfl⟩
      show Calls _ _ _ _ (I5 w (if encR x = (nums l, 0) then (x, 0) else (rQ, 70)))
      rw [← hD]
      have HDD := iC.mk hD
      clear hD
      go_enter Tryd.func22, Tryd.ntmps22
      go_wp2_with fail
      rw [← HWA.out]
      refine hcall.mono ?_
      rintro e w1 ⟨hB, hor⟩
      rcases hor.symm with ⟨h, _⟩ | ⟨x', r', v, h, rfl, hv⟩
      case inl => rw [hp] at h; cases h
      rw [hp] at h
      injection h with h
      injection h with e1 e2
      subst e1
      subst e2
      clear hp hcall hor
      have HX := iC.mk ((hB.block _ HLT.out).trans HXA.out)
      have HB := iC.mk (HBA.out.trans (hB.mono HBA.out.size))
      have HCB0 := iC.mk (Kd.C_below HCI.out hB)
      obtain ⟨v3, v4, v6, v9, rfl, h3, h4, h6, h9⟩ := hv
      obtain ⟨A3, d3, rfl⟩ := Kd.R_slice h3
      obtain ⟨A4, d4, rfl⟩ := Kd.R_slice h4
      obtain ⟨A6, d6, rfl⟩ := Kd.R_slice h6
      obtain ⟨A9, d9, rfl⟩ := Kd.R_slice h9
      have hbw : Below w1.heap.size w1 (w1.alloc (.cells #[.int .u8 x.f0, .int .u32 x.f1, .int .u32 x.f2, .slice A3 x.f3.length d3, .slice A4 x.f4.length d4, .int .u32 x.f5.f0, .slice A6 x.f5.f1.length d6, .int .i64 x.f6, .int .i64 x.f7, .slice A9 x.f8.length d9] 30)) := iF (Below.refl _ _) _
      have HV := iC.mk (lH (show RecV Wa.heap.size x _ w1 from ⟨_, _, _, _, rfl, h3, h4, h6, h9⟩) hbw)
      have HX0 := HX
      have HX := iC.mk (show (w1.alloc (.cells #[.int .u8 x.f0, .int .u32 x.f1, .int .u32 x.f2, .slice A3 x.f3.length d3, .slice A4 x.f4.length d4, .int .u32 x.f5.f0, .slice A6 x.f5.f1.length d6, .int .i64 x.f6, .int .i64 x.f7, .slice A9 x.f8.length d9] 30)).heap[w.heap.size]? = _ from jI HX0.out)
      have HB := iC.mk (show Below w.heap.size w (w1.alloc (.cells #[.int .u8 x.f0, .int .u32 x.f1, .int .u32 x.f2, .slice A3 x.f3.length d3, .slice A4 x.f4.length d4, .int .u32 x.f5.f0, .slice A6 x.f5.f1.length d6, .int .i64 x.f6, .int .i64 x.f7, .slice A9 x.f8.length d9] 30)) from iF HB.out _)
      have HCB := iC.mk (Kd.C_below HCB0.out hbw)
      have HXX := iC.mk (show (w1.alloc (.cells #[.int .u8 x.f0, .int .u32 x.f1, .int .u32 x.f2, .slice A3 x.f3.length d3, .slice A4 x.f4.length d4, .int .u32 x.f5.f0, .slice A6 x.f5.f1.length d6, .int .i64 x.f6, .int .i64 x.f7, .slice A9 x.f8.length d9] 30)).heap[w1.heap.size]? = some (.cells #[.int .u8 x.f0, .int .u32 x.f1, .int .u32 x.f2, .slice A3 x.f3.length d3, .slice A4 x.f4.length d4, .int .u32 x.f5.f0, .slice A6 x.f5.f1.length d6, .int .i64 x.f6, .int .i64 x.f7, .slice A9 x.f8.length d9] 30 (0, 0)) from iV rfl)
      have h3 := Kd.R_below h3 hbw
      have h4 := Kd.R_below h4 hbw
      have h6 := Kd.R_below h6 hbw
      have h9 := Kd.R_below h9 hbw
      have hsx := fun (_ : True) => run_storeAt_new (P := Tryd.prog) w1 30 #[.int .u8 0, .int .u32 0, .int .u32 0, .slice none 0 0, .slice none 0 0, .int .u32 0, .slice none 0 0, .int .i64 0, .int .i64 0, .slice none 0 0] #[.int .u8 x.f0, .int .u32 x.f1, .int .u32 x.f2, .slice A3 x.f3.length d3, .slice A4 x.f4.length d4, .int .u32 x.f5.f0, .slice A6 x.f5.f1.length d6, .int .i64 x.f6, .int .i64 x.f7, .slice A9 x.f8.length d9] (by kernel_rfl) rfl (by simp [Value.oneCell'])
      have hlx := fun (_ : True) => mV HXX.out rfl
      obtain ⟨_, q3, C3⟩ := Kd.R_reads' h3
      obtain ⟨_, q4, C4⟩ := Kd.R_reads' h4
      obtain ⟨_, q6, C6⟩ := Kd.R_reads' h6
      obtain ⟨_, q9, C9⟩ := Kd.R_reads' h9
      have hcall := fun r1 r2 (h : encR x = (r1, r2)) => code_Encode.calls x.f0 x.f1 x.f2 A3 d3 x.f3 A4 d4 x.f4 x.f5.f0 A6 d6 x.f5.f1 x.f6 x.f7 A9 d9 x.f8 r1 r2 (w1.alloc (.cells #[.int .u8 x.f0, .int .u32 x.f1, .int .u32 x.f2, .slice A3 x.f3.length d3, .slice A4 x.f4.length d4, .int .u32 x.f5.f0, .slice A6 x.f5.f1.length d6, .int .i64 x.f6, .int .i64 x.f7, .slice A9 x.f8.length d9] 30)) C3 q3 C4 q4 C6 q6 C9 q9 (congrArg some h)
      clear h3 h4 h6 h9 C3 C4 C6 C9 q3 q4 q6 q9 hB hbw HX0 HCB0
      rcases rD x with he | he | he
      · have hcall := hcall _ _ he
        have HNE := iC.mk (show ¬ encR x = (nums l, 0) from by rw [he]; intro h; injection h with h1 h2; cases h2)
        clear he
        go_wp2_with fail
        refine hcall.mono ?_
        rintro e w2 ⟨v0, rfl, h0, hB2⟩
        have HX2 := iC.mk ((hB2.block _ (jR HX.out)).trans HX.out)
        have HB3 := iC.mk (HB.out.trans (hB2.mono HB.out.size))
        have hst := fun (_ : True) => xC HX2.out
        clear hB2 hcall h0
        go_wp2
        ((try simp only [Exit.inBlock, Exit.then]); exact bodyPost_ret (vG rfl rfl rfl (setRow_heap _ _ _ _ _ _ HX2.out) rfl) rfl (by rw [HDD.out, if_neg HNE.out]; exact yC w _ HB3.out 70))
      · have hcall := hcall _ _ he
        have HNE := iC.mk (show ¬ encR x = (nums l, 0) from by rw [he]; intro h; injection h with h1 h2; cases h2)
        clear he
        go_wp2_with fail
        refine hcall.mono ?_
        rintro e w2 ⟨v0, rfl, h0, hB2⟩
        have HX2 := iC.mk ((hB2.block _ (jR HX.out)).trans HX.out)
        have HB3 := iC.mk (HB.out.trans (hB2.mono HB.out.size))
        have hst := fun (_ : True) => xC HX2.out
        clear hB2 hcall h0
        go_wp2
        ((try simp only [Exit.inBlock, Exit.then]); exact bodyPost_ret (vG rfl rfl rfl (setRow_heap _ _ _ _ _ _ HX2.out) rfl) rfl (by rw [HDD.out, if_neg HNE.out]; exact yC w _ HB3.out 70))
      · have hcall := hcall _ _ he
        have HE := iC.mk he
        clear he
        go_wp2_with fail
        refine hcall.mono ?_
        rintro e w2 ⟨v0, rfl, h0, hB2⟩
        clear hcall
        obtain ⟨A0, d0, rfl⟩ := Kd.R_slice h0
        obtain ⟨_, q0, C0⟩ := Kd.R_reads' h0
        have HX2 := iC.mk ((hB2.block _ (jR HX.out)).trans HX.out)
        have HB3 := iC.mk (HB.out.trans (hB2.mono HB.out.size))
        have HV2 := iC.mk (lH HV.out hB2)
        have HXX2 := iC.mk ((hB2.block _ (jR HXX.out)).trans HXX.out)
        have hcall := bytes_Equal.calls A0 d0 (nums (recE x)) A c (nums l) _ w2 C0 q0 (by rw [jH]; exact Kd.C_below HCB.out hB2) (by rw [jH]; exact hc) rfl
        rw [zD, jH l] at hcall
        clear C0 h0 hB2 q0
        by_cases hq : recE x = l
        · rw [decide_eq_true hq] at hcall
          have HEQ := iC.mk (show encR x = (nums l, 0) from by rw [HE.out, hq])
          clear hq
          go_wp2_with fail
          refine hcall.mono ?_
          rintro e w3 ⟨rfl, hD⟩
          have HX3 := iC.mk ((hD.below.block _ (jR HX2.out)).trans HX2.out)
          have HB4 := iC.mk (HB3.out.trans (hD.below.mono HB3.out.size))
          have HV3 := iC.mk (lH HV2.out hD.below)
          have hl3 := fun (_ : True) => mV ((hD.below.block _ (jR HXX2.out)).trans HXX2.out) rfl
          have hst := fun (_ : True) => nO (a := x.f0) (k := x.f1) (i := x.f2) (x3 := .slice A3 x.f3.length d3) (x4 := .slice A4 x.f4.length d4) (j := x.f5.f0) (x6 := .slice A6 x.f5.f1.length d6) (p := x.f6) (q := x.f7) (x9 := .slice A9 x.f8.length d9) HX3.out rfl rfl rfl rfl
          clear hcall hD
          go_wp2
          (try simp only [Exit.inBlock, Exit.then])
          refine bodyPost_ret (vG rfl rfl rfl (setRow_heap _ _ _ _ _ _ HX3.out) rfl) rfl ?_
          rw [HDD.out, if_pos HEQ.out]
          exact ⟨_, rfl, zB (kQ HV3.out (jC _ w.heap.size _) HLT.out) HBA.out.size, below_grown HB4.out (jC _ w.heap.size _) (Nat.le_refl _) (Nat.le_refl _)⟩
        · rw [decide_eq_false hq] at hcall
          have HNE := iC.mk (show ¬ encR x = (nums l, 0) from by rw [HE.out]; intro h; injection h with h1 h2; exact hq (MW h1))
          clear hq
          go_wp2_with fail
          refine hcall.mono ?_
          rintro e w3 ⟨rfl, hD⟩
          have HX3 := iC.mk ((hD.below.block _ (jR HX2.out)).trans HX2.out)
          have HB4 := iC.mk (HB3.out.trans (hD.below.mono HB3.out.size))
          have hst := fun (_ : True) => xC HX3.out
          clear hcall hD
          go_wp2
          ((try simp only [Exit.inBlock, Exit.then]); exact bodyPost_ret (vG rfl rfl rfl (setRow_heap _ _ _ _ _ _ HX3.out) rfl) rfl (by rw [HDD.out, if_neg HNE.out]; exact yC w _ HB4.out 70))
def code_Decode.f (l0 : List Int) : Option (Int × Int × Int × List Int × List jO × Int × List kD × Int × Int × List jJ × Int) := if nums (bytesOf l0) = l0 then some (XT (decR (bytesOf l0))) else none
end Go.Proofs.YtgfkgppomaapiaaDoor.K
end

section
namespace Go.Proofs.YtgfkgppomaapiaaDoor.K
open RowKit YtgfkgppomaapiaaDoorW.PrintWords YtgfkgppomaapiaaDoorW.PrintLast YtgfkgppomaapiaaDoorW.PrintMore My
def stratumlaw07_known.f : Option Bool := some true
attribute [-go_sem] Instr.build Instr.storeAt Instr.loadAt
end Go.Proofs.YtgfkgppomaapiaaDoor.K
end

section
namespace Go.Proofs.YtgfkgppomaapiaaDoor.K
open Go.RowKit Go.Proofs.YtgfkgppomaapiaaDoorW.PrintWords Go.Proofs.YtgfkgppomaapiaaDoor.My
structure SMsg where
  f0 : Int
  f1 : Int
  f2 : Int
  f3 : List Int
  f4 : List jO
  f5 : Int
  f6 : Int
  f7 : List jJ
def nJ (k : Int) : Int :=
  if k = 1 then 1 else if k = 4 then 2 else if k = 8 then 7 else if k = 9 then 7 else if k = 10 then 7
  else if k = 2 then 4 else if k = 3 then 4 else if k = 5 then 4 else if k = 6 then 4 else if k = 7 then 4 else if k = 11 then 4 else 0
def recM (m : SMsg) : SRec := ⟨nJ m.f0, m.f1, m.f2, m.f3, m.f4, ⟨0, []⟩, m.f5, m.f6, m.f7⟩
def msgR (k : Int) (r : SRec) : SMsg := ⟨k, r.f1, r.f2, r.f3, r.f4, r.f6, r.f7, r.f8⟩
def preM (m : SMsg) : Bool := !(decide (m.f0 = 4) && decide (0 < m.f3.length)) && !(decide (m.f0 = 8) && decide (0 < m.f7.length)) && !(decide (m.f0 = 9) && (!decide (m.f5 = 0) || !decide (m.f6 = 0)))
def lT (m : SMsg) : Bool := preM m && jM (recM m)
def encM (m : SMsg) : List Int × Int := if lT m = true then (if (encR (recM m)).2 = 0 then (m.f0 :: (encR (recM m)).1, 0) else ([], (encR (recM m)).2)) else ([], 1)
def mP : SMsg := ⟨0, 0, 0, [], [], 0, 0, []⟩
def decM (l : List UInt8) : SMsg × Int := match l with
  | [] => (mP, 160)
  | k :: t => if (decR t).2 = 0 then (if encM (msgR k.toNat (decR t).1) = (nums (k :: t), 0) then (msgR k.toNat (decR t).1, 0) else (mP, 160)) else (mP, 160)
theorem yX (m : SMsg) : encM m = ([], 1) ∨ encM m = ([], 3) ∨ (lT m = true ∧ encM m = (m.f0 :: nums (recE (recM m)), 0)) := by
  unfold encM
  by_cases hs : lT m = true
  · rw [if_pos hs]
    rcases rD (recM m) with h | h | h <;> rw [h]
    · exact .inl (if_neg (by decide))
    · exact .inr (.inl (if_neg (by decide)))
    · exact .inr (.inr ⟨hs, if_pos rfl⟩)
  · rw [if_neg hs]; exact .inl rfl
def qA : SMsg := ⟨2, 5, 0, [], [], 0, 0, []⟩
theorem NM : encM qA = (nums [2, 4, 0, 0, 0, 5], 0) := by decide
theorem P5 : decM [2, 4, 0, 0, 0, 5] = (qA, 0) := by rfl
theorem OD : decM [99] = (mP, 160) := by rfl
theorem IV : lT qA = true := by rfl
theorem IX (k : Int) : nJ k = 0 ∨ (nJ k = 1 ∧ k = 1) ∨ (nJ k = 2 ∧ k = 4) ∨ (nJ k = 7 ∧ 8 ≤ k ∧ k ≤ 10) ∨ (nJ k = 4 ∧ 2 ≤ k ∧ k ≤ 11 ∧ k ≠ 4 ∧ ¬ (8 ≤ k ∧ k ≤ 10)) := by
  unfold nJ; repeat' split
  all_goals omega
theorem OI (k : Int) (h : nJ k = 0) : k < 1 ∨ 11 < k := by
  unfold nJ at h
  repeat' split at h
  all_goals omega
end Go.Proofs.YtgfkgppomaapiaaDoor.K
end

section
namespace Go.Proofs.YtgfkgppomaapiaaDoor.K
open Go.RowKit Go.Proofs.YtgfkgppomaapiaaDoorW.PrintWords Go.Proofs.YtgfkgppomaapiaaDoorW.PrintLast Go.Proofs.YtgfkgppomaapiaaDoorW.PrintMore
attribute [local go_sem] kH kS
def stratumref07_SoundNodes.l0 : Nat → List Int → Int → Option (Bool)
  | 0, _, _ => none
  | k + 1, x0, x3 => if x3 < (x0.length : Int) then (if 0 ≤ x3 then (if (rd x0 x3) < 0 then (some false) else (if (rd x0 x3) > 5 then (some false) else (if x3 > 0 then (if 0 ≤ (wrap64 (x3 - 1)) then (if (wrap64 (x3 - 1)) < (x0.length : Int) then (if (rd x0 x3) ≤ (rd x0 (wrap64 (x3 - 1))) then (some false) else (stratumref07_SoundNodes.l0 k x0 (wrap64 (x3 + 1)))) else (none)) else (none)) else (stratumref07_SoundNodes.l0 k x0 (wrap64 (x3 + 1)))))) else (none)) else (some true)
def stratumref07_SoundNodes.f (k : Nat) (l0 : List Int) : Option (Bool) := stratumref07_SoundNodes.l0 k l0 0
set_option maxHeartbeats 8000000 in
set_option maxRecDepth 100000 in
theorem stratumref07_SoundNodes.calls (k : Nat) (A0 : Option Addr) (c0 : Nat) (l0 : List Int) (r : Bool) (w : World) (hr0 : Kd.C (Kd.int .i64) w A0 l0.length l0) (hc0 : l0.length ≤ c0) (h : stratumref07_SoundNodes.f k l0 = some r) :
    Calls Tryd.prog 69 #[.slice A0 l0.length c0] w fun e w' => e = .returned (.bool r) ∧ jG w w' := by
  have HR0 := iC.mk hr0
  have HC0 := iC.mk hc0
  clear hr0 hc0
  have H : (stratumref07_SoundNodes.l0 k l0 0) = some r := h
  clear h
  have H' := iC.mk H
  clear H
  go_enter Tryd.func69, Tryd.ntmps69
  go_wp2
  repeat (go_quiet (fail); try go_wp2)
  go_loopg [3] k (fun kq v3 w' => ∃ (x3_1 : Int), v3 = .int .i64 x3_1 ∧ iC (stratumref07_SoundNodes.l0 kq l0 x3_1 = some r) ∧ iC (kq ≤ k) ∧ jG w w')
  case atStart => exact ⟨(0), (by first | rfl | (simp; done) | (simp [*]; done)), H', ⟨Nat.le_refl _⟩, by repeat (first | exact jG.refl _ | apply jG.step)⟩
  case round =>
    clear H'
    obtain ⟨x3_1, rfl, HA, HK1, ⟨m1, rfl⟩⟩ := hrel
    cases gk with
    | zero => exact absurd HA.out (by simp [stratumref07_SoundNodes.l0])
    | succ k1 =>
      have H := HA.out
      clear HA
      simp only [stratumref07_SoundNodes.l0] at H
      by_cases c2 : x3_1 < (l0.length : Int)
      · rw [if_pos c2] at H
        have c2b0 : decide (x3_1 < (l0.length : Int)) = true := decide_eq_true c2
        clear c2
        by_cases c3 : 0 ≤ x3_1
        · rw [if_pos c3] at H
          have c3b0 : decide (0 ≤ x3_1) = true := decide_eq_true c3
          clear c3
          by_cases c4 : (rd l0 x3_1) < 0
          · rw [if_pos c4] at H
            have c4b0 : decide ((rd l0 x3_1) < 0) = true := decide_eq_true c4
            clear c4
            obtain rfl := Option.some.inj H
            have p117 : 0 ≤ (x3_1 : Int) := of_decide_eq_true asm_
            have q117 : x3_1 < (l0.length : Int) := of_decide_eq_true asm_
            obtain ⟨ad117, e117, hx117_0⟩ := Kd.at_int HR0.out x3_1 p117 q117
            cases e117
            replace p117 := eq_true p117
            replace q117 := eq_true q117
            go_wp2
            repeat (go_quiet (fail); try go_wp2)
            go_ret
            exact ⟨by first | rfl | (simp; done) | (simp [*]; done), by repeat (first | exact jG.refl _ | apply jG.step)⟩
          · rw [if_neg c4] at H
            have c4b0 : decide ((rd l0 x3_1) < 0) = false := decide_eq_false c4
            clear c4
            by_cases c5 : (rd l0 x3_1) > 5
            · rw [if_pos c5] at H
              have c5b0 : decide (5 < (rd l0 x3_1)) = true := decide_eq_true c5
              clear c5
              obtain rfl := Option.some.inj H
              have p117 : 0 ≤ (x3_1 : Int) := of_decide_eq_true asm_
              have q117 : x3_1 < (l0.length : Int) := of_decide_eq_true asm_
              obtain ⟨ad117, e117, hx117_0⟩ := Kd.at_int HR0.out x3_1 p117 q117
              cases e117
              replace p117 := eq_true p117
              replace q117 := eq_true q117
              have p118 : 0 ≤ (x3_1 : Int) := of_decide_eq_true asm_
              have q118 : x3_1 < (l0.length : Int) := of_decide_eq_true asm_
              obtain ⟨ad118, e118, hx118_0⟩ := Kd.at_int HR0.out x3_1 p118 q118
              obtain rfl : ad117 = ad118 := (by injection e118)
              replace p118 := eq_true p118
              replace q118 := eq_true q118
              go_wp2
              repeat (go_quiet (fail); try go_wp2)
              go_ret
              exact ⟨by first | rfl | (simp; done) | (simp [*]; done), by repeat (first | exact jG.refl _ | apply jG.step)⟩
            · rw [if_neg c5] at H
              have c5b0 : decide (5 < (rd l0 x3_1)) = false := decide_eq_false c5
              clear c5
              by_cases c6 : x3_1 > 0
              · rw [if_pos c6] at H
                have c6b0 : decide (0 < x3_1) = true := decide_eq_true c6
                clear c6
                obtain ⟨ji7, hji7⟩ : ∃ j_ : Int, (wrap64 (x3_1 - 1)) = j_ := ⟨_, rfl⟩
                replace H : (if 0 ≤ (ji7) then (if (ji7) < (l0.length : Int) then (if (rd l0 x3_1) ≤ (rd l0 (ji7)) then (some false) else (stratumref07_SoundNodes.l0 k1 l0 (wrap64 (x3_1 + 1)))) else (none)) else (none)) = some r := by first | (rw [hji7] at H; exact H) | (simp only [hji7] at H ⊢; exact H)
                have hji7w : (IntKind.i64.wrap (x3_1 - 1)) = ji7 := (iY _).trans hji7
                by_cases c8 : 0 ≤ (ji7)
                · rw [if_pos c8] at H
                  have c8b0 : decide (0 ≤ (ji7)) = true := decide_eq_true c8
                  clear c8
                  by_cases c9 : (ji7) < (l0.length : Int)
                  · rw [if_pos c9] at H
                    have c9b0 : decide ((ji7) < (l0.length : Int)) = true := decide_eq_true c9
                    clear c9
                    by_cases c10 : (rd l0 x3_1) ≤ (rd l0 (ji7))
                    · rw [if_pos c10] at H
                      have c10b0 : decide ((rd l0 x3_1) ≤ (rd l0 (ji7))) = true := decide_eq_true c10
                      clear c10
                      obtain rfl := Option.some.inj H
                      have p117 : 0 ≤ (x3_1 : Int) := of_decide_eq_true asm_
                      have q117 : x3_1 < (l0.length : Int) := of_decide_eq_true asm_
                      obtain ⟨ad117, e117, hx117_0⟩ := Kd.at_int HR0.out x3_1 p117 q117
                      cases e117
                      replace p117 := eq_true p117
                      replace q117 := eq_true q117
                      have p118 : 0 ≤ (x3_1 : Int) := of_decide_eq_true asm_
                      have q118 : x3_1 < (l0.length : Int) := of_decide_eq_true asm_
                      obtain ⟨ad118, e118, hx118_0⟩ := Kd.at_int HR0.out x3_1 p118 q118
                      obtain rfl : ad117 = ad118 := (by injection e118)
                      replace p118 := eq_true p118
                      replace q118 := eq_true q118
                      have p119 : 0 ≤ (x3_1 : Int) := of_decide_eq_true asm_
                      have q119 : x3_1 < (l0.length : Int) := of_decide_eq_true asm_
                      obtain ⟨ad119, e119, hx119_0⟩ := Kd.at_int HR0.out x3_1 p119 q119
                      obtain rfl : ad117 = ad119 := (by injection e119)
                      replace p119 := eq_true p119
                      replace q119 := eq_true q119
                      have p120 : 0 ≤ ((ji7) : Int) := of_decide_eq_true asm_
                      have q120 : (ji7) < (l0.length : Int) := of_decide_eq_true asm_
                      obtain ⟨ad120, e120, hx120_0⟩ := Kd.at_int HR0.out (ji7) p120 q120
                      obtain rfl : ad117 = ad120 := (by injection e120)
                      replace p120 := eq_true p120
                      replace q120 := eq_true q120
                      go_wp2
                      repeat (go_quiet (fail); try go_wp2)
                      go_ret
                      exact ⟨by first | rfl | (simp; done) | (simp only [← hji7] <;> (first | rfl | simp)) | (simp [*]; done), by repeat (first | exact jG.refl _ | apply jG.step)⟩
                    · rw [if_neg c10] at H
                      have c10b0 : decide ((rd l0 x3_1) ≤ (rd l0 (ji7))) = false := decide_eq_false c10
                      clear c10
                      have H' := iC.mk H
                      clear H
                      have p117 : 0 ≤ (x3_1 : Int) := of_decide_eq_true asm_
                      have q117 : x3_1 < (l0.length : Int) := of_decide_eq_true asm_
                      obtain ⟨ad117, e117, hx117_0⟩ := Kd.at_int HR0.out x3_1 p117 q117
                      cases e117
                      replace p117 := eq_true p117
                      replace q117 := eq_true q117
                      have p118 : 0 ≤ (x3_1 : Int) := of_decide_eq_true asm_
                      have q118 : x3_1 < (l0.length : Int) := of_decide_eq_true asm_
                      obtain ⟨ad118, e118, hx118_0⟩ := Kd.at_int HR0.out x3_1 p118 q118
                      obtain rfl : ad117 = ad118 := (by injection e118)
                      replace p118 := eq_true p118
                      replace q118 := eq_true q118
                      have p119 : 0 ≤ (x3_1 : Int) := of_decide_eq_true asm_
                      have q119 : x3_1 < (l0.length : Int) := of_decide_eq_true asm_
                      obtain ⟨ad119, e119, hx119_0⟩ := Kd.at_int HR0.out x3_1 p119 q119
                      obtain rfl : ad117 = ad119 := (by injection e119)
                      replace p119 := eq_true p119
                      replace q119 := eq_true q119
                      have p120 : 0 ≤ ((ji7) : Int) := of_decide_eq_true asm_
                      have q120 : (ji7) < (l0.length : Int) := of_decide_eq_true asm_
                      obtain ⟨ad120, e120, hx120_0⟩ := Kd.at_int HR0.out (ji7) p120 q120
                      obtain rfl : ad117 = ad120 := (by injection e120)
                      replace p120 := eq_true p120
                      replace q120 := eq_true q120
                      go_wp2
                      repeat (go_quiet (fail); try go_wp2)
                      go_roundg k1
                      case measure => have := HK1.out; omega
                      case rel => exact ⟨(wrap64 (x3_1 + 1)), (by first | rfl | (simp; done) | (simp [*]; done)), H', ⟨by have := HK1.out; omega⟩, by repeat (first | exact jG.refl _ | apply jG.step)⟩
                  · rw [if_neg c9] at H
                    exact absurd H (by simp)
                · rw [if_neg c8] at H
                  exact absurd H (by simp)
              · rw [if_neg c6] at H
                have c6b0 : decide (0 < x3_1) = false := decide_eq_false c6
                clear c6
                have H' := iC.mk H
                clear H
                have p117 : 0 ≤ (x3_1 : Int) := of_decide_eq_true asm_
                have q117 : x3_1 < (l0.length : Int) := of_decide_eq_true asm_
                obtain ⟨ad117, e117, hx117_0⟩ := Kd.at_int HR0.out x3_1 p117 q117
                cases e117
                replace p117 := eq_true p117
                replace q117 := eq_true q117
                have p118 : 0 ≤ (x3_1 : Int) := of_decide_eq_true asm_
                have q118 : x3_1 < (l0.length : Int) := of_decide_eq_true asm_
                obtain ⟨ad118, e118, hx118_0⟩ := Kd.at_int HR0.out x3_1 p118 q118
                obtain rfl : ad117 = ad118 := (by injection e118)
                replace p118 := eq_true p118
                replace q118 := eq_true q118
                go_wp2
                repeat (go_quiet (fail); try go_wp2)
                go_roundg k1
                case measure => have := HK1.out; omega
                case rel => exact ⟨(wrap64 (x3_1 + 1)), (by first | rfl | (simp; done) | (simp [*]; done)), H', ⟨by have := HK1.out; omega⟩, by repeat (first | exact jG.refl _ | apply jG.step)⟩
        · rw [if_neg c3] at H
          exact absurd H (by simp)
      · rw [if_neg c2] at H
        have c2b0 : decide (x3_1 < (l0.length : Int)) = false := decide_eq_false c2
        clear c2
        obtain rfl := Option.some.inj H
        go_wp2
        repeat (go_quiet (fail); try go_wp2)
        go_ret
        exact ⟨by first | rfl | (simp; done) | (simp [*]; done), by repeat (first | exact jG.refl _ | apply jG.step)⟩
end Go.Proofs.YtgfkgppomaapiaaDoor.K
end

section
namespace Go.Proofs.YtgfkgppomaapiaaDoor.K
open Go.RowKit Go.Proofs.YtgfkgppomaapiaaDoorW.PrintWords Go.Proofs.YtgfkgppomaapiaaDoorW.PrintLast Go.Proofs.YtgfkgppomaapiaaDoorW.PrintMore
attribute [local go_sem] kH kS
mutual
def stratumref07_SoundFacts.l0 : Nat → List (S139) → Int → Option (Bool)
  | 0, _, _ => none
  | k + 1, x0, x3 => if x3 < (x0.length : Int) then (stratumref07_SoundFacts.l1 k x0 x3 0) else (some (decide ((x0.length : Int) ≤ 200)))
def stratumref07_SoundFacts.l1 : Nat → List (S139) → Int → Int → Option (Bool)
  | 0, _, _, _ => none
  | k + 1, x0, x3, x4 => if 0 ≤ x3 then (if x3 < (x0.length : Int) then (if x4 < (((iQ x0 x3).f0).length : Int) then (if 0 ≤ x4 then (if (rd ((iQ x0 x3).f0) x4) < 0 then (some false) else (if (rd ((iQ x0 x3).f0) x4) > 9999 then (some false) else (stratumref07_SoundFacts.l1 k x0 x3 (wrap64 (x4 + 1))))) else (none)) else (if (((iQ x0 x3).f0).length : Int) > 4 then (some false) else (stratumref07_SoundFacts.l0 k x0 (wrap64 (x3 + 1))))) else (none)) else (none)
end
def stratumref07_SoundFacts.f (k : Nat) (l0 : List (S139)) : Option (Bool) := stratumref07_SoundFacts.l0 k l0 0
set_option maxHeartbeats 8000000 in
set_option maxRecDepth 100000 in
theorem stratumref07_SoundFacts.calls (k : Nat) (A0 : Option Addr) (c0 : Nat) (l0 : List (S139)) (r : Bool) (w : World) (hr0 : Kd.C k139 w A0 l0.length l0) (hc0 : l0.length ≤ c0) (h : stratumref07_SoundFacts.f k l0 = some r) :
    Calls Tryd.prog 70 #[.slice A0 l0.length c0] w fun e w' => e = .returned (.bool r) ∧ jG w w' := by
  have HR0 := iC.mk hr0
  have HC0 := iC.mk hc0
  clear hr0 hc0
  have H : (stratumref07_SoundFacts.l0 k l0 0) = some r := h
  clear h
  have H' := iC.mk H
  clear H
  go_enter Tryd.func70, Tryd.ntmps70
  go_wp2
  go_loopg [3] k (fun kq v3 w' => ∃ (x3_1 : Int), v3 = .int .i64 x3_1 ∧ iC (stratumref07_SoundFacts.l0 kq l0 x3_1 = some r) ∧ iC (kq ≤ k) ∧ jG w w')
  case atStart => exact ⟨(0), (by first | rfl | (simp; done) | (simp [*]; done)), H', ⟨Nat.le_refl _⟩, by repeat (first | exact jG.refl _ | apply jG.step)⟩
  case round =>
    clear H'
    obtain ⟨x3_1, rfl, HA, HK1, ⟨m1, rfl⟩⟩ := hrel
    cases gk with
    | zero => exact absurd HA.out (by simp [stratumref07_SoundFacts.l0])
    | succ k1 =>
      have H := HA.out
      clear HA
      simp only [stratumref07_SoundFacts.l0] at H
      by_cases c2 : x3_1 < (l0.length : Int)
      · rw [if_pos c2] at H
        have c2b0 : decide (x3_1 < (l0.length : Int)) = true := decide_eq_true c2
        clear c2
        have H' := iC.mk H
        clear H
        go_wp2
        go_loopg [4] k1 (fun kq v4 w' => ∃ (x4_2 : Int), v4 = .int .i64 x4_2 ∧ iC (stratumref07_SoundFacts.l1 kq l0 x3_1 x4_2 = some r) ∧ iC (kq ≤ k1) ∧ jG w w')
        case atStart => exact ⟨(0), (by first | rfl | (simp; done) | (simp [*]; done)), H', ⟨Nat.le_refl _⟩, by repeat (first | exact jG.refl _ | apply jG.step)⟩
        case round =>
          clear H'
          try clear c2
          try clear c2b0
          try clear p2
          obtain ⟨x4_2, rfl, HA, HK2, ⟨m2, rfl⟩⟩ := hrel
          cases gk with
          | zero => exact absurd HA.out (by simp [stratumref07_SoundFacts.l1])
          | succ k2 =>
            have H := HA.out
            clear HA
            simp only [stratumref07_SoundFacts.l1] at H
            by_cases c3 : 0 ≤ x3_1
            · rw [if_pos c3] at H
              have c3b0 : decide (0 ≤ x3_1) = true := decide_eq_true c3
              clear c3
              by_cases c4 : x3_1 < (l0.length : Int)
              · rw [if_pos c4] at H
                have c4b0 : decide (x3_1 < (l0.length : Int)) = true := decide_eq_true c4
                clear c4
                by_cases c5 : x4_2 < (((iQ l0 x3_1).f0).length : Int)
                · rw [if_pos c5] at H
                  have c5b0 : decide (x4_2 < (((iQ l0 x3_1).f0).length : Int)) = true := decide_eq_true c5
                  clear c5
                  by_cases c6 : 0 ≤ x4_2
                  · rw [if_pos c6] at H
                    have c6b0 : decide (0 ≤ x4_2) = true := decide_eq_true c6
                    clear c6
                    by_cases c7 : (rd ((iQ l0 x3_1).f0) x4_2) < 0
                    · rw [if_pos c7] at H
                      have c7b0 : decide ((rd ((iQ l0 x3_1).f0) x4_2) < 0) = true := decide_eq_true c7
                      clear c7
                      obtain rfl := Option.some.inj H
                      have p121 : 0 ≤ (x3_1 : Int) := of_decide_eq_true asm_
                      have q121 : x3_1 < (l0.length : Int) := of_decide_eq_true asm_
                      obtain ⟨ad121, A121_0, c121_0, e121, hx121_0, hx121_1, hl121_0, hi121_0⟩ := kK HR0.out x3_1 p121 q121
                      cases e121
                      have HR121_0 := iC.mk hi121_0
                      have HC121_0 := iC.mk hl121_0
                      clear hi121_0 hl121_0
                      replace p121 := eq_true p121
                      replace q121 := eq_true q121
                      have p122 : 0 ≤ (x3_1 : Int) := of_decide_eq_true asm_
                      have q122 : x3_1 < (l0.length : Int) := of_decide_eq_true asm_
                      obtain ⟨ad122, A122_0, c122_0, e122, hx122_0, hx122_1, hl122_0, hi122_0⟩ := kK HR0.out x3_1 p122 q122
                      obtain rfl : ad121 = ad122 := (by injection e122)
                      have HR122_0 := iC.mk hi122_0
                      have HC122_0 := iC.mk hl122_0
                      clear hi122_0 hl122_0
                      replace p122 := eq_true p122
                      replace q122 := eq_true q122
                      have ea_ := Option.some.inj (hx121_0.symm.trans hx122_0)
                      injection ea_ with ea_ en_ ec_
                      subst ea_
                      subst ec_
                      clear en_
                      have p123 : 0 ≤ (x4_2 : Int) := of_decide_eq_true asm_
                      have q123 : x4_2 < (((iQ l0 x3_1).f0).length : Int) := of_decide_eq_true asm_
                      obtain ⟨ad123, e123, hx123_0⟩ := Kd.at_int HR122_0.out x4_2 p123 q123
                      cases e123
                      replace p123 := eq_true p123
                      replace q123 := eq_true q123
                      go_wp2
                      go_ret
                      exact ⟨by first | rfl | (simp; done) | (simp [*]; done), by repeat (first | exact jG.refl _ | apply jG.step)⟩
                    · rw [if_neg c7] at H
                      have c7b0 : decide ((rd ((iQ l0 x3_1).f0) x4_2) < 0) = false := decide_eq_false c7
                      clear c7
                      by_cases c8 : (rd ((iQ l0 x3_1).f0) x4_2) > 9999
                      · rw [if_pos c8] at H
                        have c8b0 : decide (9999 < (rd ((iQ l0 x3_1).f0) x4_2)) = true := decide_eq_true c8
                        clear c8
                        obtain rfl := Option.some.inj H
                        have p121 : 0 ≤ (x3_1 : Int) := of_decide_eq_true asm_
                        have q121 : x3_1 < (l0.length : Int) := of_decide_eq_true asm_
                        obtain ⟨ad121, A121_0, c121_0, e121, hx121_0, hx121_1, hl121_0, hi121_0⟩ := kK HR0.out x3_1 p121 q121
                        cases e121
                        have HR121_0 := iC.mk hi121_0
                        have HC121_0 := iC.mk hl121_0
                        clear hi121_0 hl121_0
                        replace p121 := eq_true p121
                        replace q121 := eq_true q121
                        have p122 : 0 ≤ (x3_1 : Int) := of_decide_eq_true asm_
                        have q122 : x3_1 < (l0.length : Int) := of_decide_eq_true asm_
                        obtain ⟨ad122, A122_0, c122_0, e122, hx122_0, hx122_1, hl122_0, hi122_0⟩ := kK HR0.out x3_1 p122 q122
                        obtain rfl : ad121 = ad122 := (by injection e122)
                        have HR122_0 := iC.mk hi122_0
                        have HC122_0 := iC.mk hl122_0
                        clear hi122_0 hl122_0
                        replace p122 := eq_true p122
                        replace q122 := eq_true q122
                        have ea_ := Option.some.inj (hx121_0.symm.trans hx122_0)
                        injection ea_ with ea_ en_ ec_
                        subst ea_
                        subst ec_
                        clear en_
                        have p123 : 0 ≤ (x4_2 : Int) := of_decide_eq_true asm_
                        have q123 : x4_2 < (((iQ l0 x3_1).f0).length : Int) := of_decide_eq_true asm_
                        obtain ⟨ad123, e123, hx123_0⟩ := Kd.at_int HR122_0.out x4_2 p123 q123
                        cases e123
                        replace p123 := eq_true p123
                        replace q123 := eq_true q123
                        have p124 : 0 ≤ (x3_1 : Int) := of_decide_eq_true asm_
                        have q124 : x3_1 < (l0.length : Int) := of_decide_eq_true asm_
                        obtain ⟨ad124, A124_0, c124_0, e124, hx124_0, hx124_1, hl124_0, hi124_0⟩ := kK HR0.out x3_1 p124 q124
                        obtain rfl : ad121 = ad124 := (by injection e124)
                        have HR124_0 := iC.mk hi124_0
                        have HC124_0 := iC.mk hl124_0
                        clear hi124_0 hl124_0
                        replace p124 := eq_true p124
                        replace q124 := eq_true q124
                        have ea_ := Option.some.inj (hx121_0.symm.trans hx124_0)
                        injection ea_ with ea_ en_ ec_
                        subst ea_
                        subst ec_
                        clear en_
                        have p125 : 0 ≤ (x4_2 : Int) := of_decide_eq_true asm_
                        have q125 : x4_2 < (((iQ l0 x3_1).f0).length : Int) := of_decide_eq_true asm_
                        obtain ⟨ad125, e125, hx125_0⟩ := Kd.at_int HR124_0.out x4_2 p125 q125
                        cases e125
                        replace p125 := eq_true p125
                        replace q125 := eq_true q125
                        go_wp2
                        go_ret
                        exact ⟨by first | rfl | (simp; done) | (simp [*]; done), by repeat (first | exact jG.refl _ | apply jG.step)⟩
                      · rw [if_neg c8] at H
                        have c8b0 : decide (9999 < (rd ((iQ l0 x3_1).f0) x4_2)) = false := decide_eq_false c8
                        clear c8
                        have H' := iC.mk H
                        clear H
                        have p121 : 0 ≤ (x3_1 : Int) := of_decide_eq_true asm_
                        have q121 : x3_1 < (l0.length : Int) := of_decide_eq_true asm_
                        obtain ⟨ad121, A121_0, c121_0, e121, hx121_0, hx121_1, hl121_0, hi121_0⟩ := kK HR0.out x3_1 p121 q121
                        cases e121
                        have HR121_0 := iC.mk hi121_0
                        have HC121_0 := iC.mk hl121_0
                        clear hi121_0 hl121_0
                        replace p121 := eq_true p121
                        replace q121 := eq_true q121
                        have p122 : 0 ≤ (x3_1 : Int) := of_decide_eq_true asm_
                        have q122 : x3_1 < (l0.length : Int) := of_decide_eq_true asm_
                        obtain ⟨ad122, A122_0, c122_0, e122, hx122_0, hx122_1, hl122_0, hi122_0⟩ := kK HR0.out x3_1 p122 q122
                        obtain rfl : ad121 = ad122 := (by injection e122)
                        have HR122_0 := iC.mk hi122_0
                        have HC122_0 := iC.mk hl122_0
                        clear hi122_0 hl122_0
                        replace p122 := eq_true p122
                        replace q122 := eq_true q122
                        have ea_ := Option.some.inj (hx121_0.symm.trans hx122_0)
                        injection ea_ with ea_ en_ ec_
                        subst ea_
                        subst ec_
                        clear en_
                        have p123 : 0 ≤ (x4_2 : Int) := of_decide_eq_true asm_
                        have q123 : x4_2 < (((iQ l0 x3_1).f0).length : Int) := of_decide_eq_true asm_
                        obtain ⟨ad123, e123, hx123_0⟩ := Kd.at_int HR122_0.out x4_2 p123 q123
                        cases e123
                        replace p123 := eq_true p123
                        replace q123 := eq_true q123
                        have p124 : 0 ≤ (x3_1 : Int) := of_decide_eq_true asm_
                        have q124 : x3_1 < (l0.length : Int) := of_decide_eq_true asm_
                        obtain ⟨ad124, A124_0, c124_0, e124, hx124_0, hx124_1, hl124_0, hi124_0⟩ := kK HR0.out x3_1 p124 q124
                        obtain rfl : ad121 = ad124 := (by injection e124)
                        have HR124_0 := iC.mk hi124_0
                        have HC124_0 := iC.mk hl124_0
                        clear hi124_0 hl124_0
                        replace p124 := eq_true p124
                        replace q124 := eq_true q124
                        have ea_ := Option.some.inj (hx121_0.symm.trans hx124_0)
                        injection ea_ with ea_ en_ ec_
                        subst ea_
                        subst ec_
                        clear en_
                        have p125 : 0 ≤ (x4_2 : Int) := of_decide_eq_true asm_
                        have q125 : x4_2 < (((iQ l0 x3_1).f0).length : Int) := of_decide_eq_true asm_
                        obtain ⟨ad125, e125, hx125_0⟩ := Kd.at_int HR124_0.out x4_2 p125 q125
                        cases e125
                        replace p125 := eq_true p125
                        replace q125 := eq_true q125
                        go_wp2
                        go_roundg k2
                        case measure => have := HK1.out; have := HK2.out; omega
                        case rel => exact ⟨(wrap64 (x4_2 + 1)), (by first | rfl | (simp; done) | (simp [*]; done)), H', ⟨by have := HK1.out; have := HK2.out; omega⟩, by repeat (first | exact jG.refl _ | apply jG.step)⟩
                  · rw [if_neg c6] at H
                    exact absurd H (by simp)
                · rw [if_neg c5] at H
                  have c5b0 : decide (x4_2 < (((iQ l0 x3_1).f0).length : Int)) = false := decide_eq_false c5
                  clear c5
                  by_cases c9 : (((iQ l0 x3_1).f0).length : Int) > 4
                  · rw [if_pos c9] at H
                    have c9b0 : decide (4 < (((iQ l0 x3_1).f0).length : Int)) = true := decide_eq_true c9
                    have c9b1 : decide (4 < ((iQ l0 x3_1).f0).length) = true := decide_eq_true (by omega)
                    clear c9
                    obtain rfl := Option.some.inj H
                    have p121 : 0 ≤ (x3_1 : Int) := of_decide_eq_true asm_
                    have q121 : x3_1 < (l0.length : Int) := of_decide_eq_true asm_
                    obtain ⟨ad121, A121_0, c121_0, e121, hx121_0, hx121_1, hl121_0, hi121_0⟩ := kK HR0.out x3_1 p121 q121
                    cases e121
                    have HR121_0 := iC.mk hi121_0
                    have HC121_0 := iC.mk hl121_0
                    clear hi121_0 hl121_0
                    replace p121 := eq_true p121
                    replace q121 := eq_true q121
                    have p126 : 0 ≤ (x3_1 : Int) := of_decide_eq_true asm_
                    have q126 : x3_1 < (l0.length : Int) := of_decide_eq_true asm_
                    obtain ⟨ad126, A126_0, c126_0, e126, hx126_0, hx126_1, hl126_0, hi126_0⟩ := kK HR0.out x3_1 p126 q126
                    obtain rfl : ad121 = ad126 := (by injection e126)
                    have HR126_0 := iC.mk hi126_0
                    have HC126_0 := iC.mk hl126_0
                    clear hi126_0 hl126_0
                    replace p126 := eq_true p126
                    replace q126 := eq_true q126
                    have ea_ := Option.some.inj (hx121_0.symm.trans hx126_0)
                    injection ea_ with ea_ en_ ec_
                    subst ea_
                    subst ec_
                    clear en_
                    go_wp2
                    go_ret
                    exact ⟨by first | rfl | (simp; done) | (simp [*]; done), by repeat (first | exact jG.refl _ | apply jG.step)⟩
                  · rw [if_neg c9] at H
                    have c9b0 : decide (4 < (((iQ l0 x3_1).f0).length : Int)) = false := decide_eq_false c9
                    have c9b1 : decide (4 < ((iQ l0 x3_1).f0).length) = false := decide_eq_false (by omega)
                    clear c9
                    have H' := iC.mk H
                    clear H
                    have p121 : 0 ≤ (x3_1 : Int) := of_decide_eq_true asm_
                    have q121 : x3_1 < (l0.length : Int) := of_decide_eq_true asm_
                    obtain ⟨ad121, A121_0, c121_0, e121, hx121_0, hx121_1, hl121_0, hi121_0⟩ := kK HR0.out x3_1 p121 q121
                    cases e121
                    have HR121_0 := iC.mk hi121_0
                    have HC121_0 := iC.mk hl121_0
                    clear hi121_0 hl121_0
                    replace p121 := eq_true p121
                    replace q121 := eq_true q121
                    have p126 : 0 ≤ (x3_1 : Int) := of_decide_eq_true asm_
                    have q126 : x3_1 < (l0.length : Int) := of_decide_eq_true asm_
                    obtain ⟨ad126, A126_0, c126_0, e126, hx126_0, hx126_1, hl126_0, hi126_0⟩ := kK HR0.out x3_1 p126 q126
                    obtain rfl : ad121 = ad126 := (by injection e126)
                    have HR126_0 := iC.mk hi126_0
                    have HC126_0 := iC.mk hl126_0
                    clear hi126_0 hl126_0
                    replace p126 := eq_true p126
                    replace q126 := eq_true q126
                    have ea_ := Option.some.inj (hx121_0.symm.trans hx126_0)
                    injection ea_ with ea_ en_ ec_
                    subst ea_
                    subst ec_
                    clear en_
                    go_wp2
                    go_roundg k2
                    case measure => have := HK1.out; have := HK2.out; omega
                    case rel => exact ⟨(wrap64 (x3_1 + 1)), (by first | rfl | (simp; done) | (simp [*]; done)), H', ⟨by have := HK1.out; have := HK2.out; omega⟩, by repeat (first | exact jG.refl _ | apply jG.step)⟩
              · rw [if_neg c4] at H
                exact absurd H (by simp)
            · rw [if_neg c3] at H
              exact absurd H (by simp)
      · rw [if_neg c2] at H
        have c2b0 : decide (x3_1 < (l0.length : Int)) = false := decide_eq_false c2
        clear c2
        obtain rfl := Option.some.inj H
        go_wp2
        go_ret
        exact ⟨by first | rfl | (simp; done) | (simp [*]; done), by repeat (first | exact jG.refl _ | apply jG.step)⟩
end Go.Proofs.YtgfkgppomaapiaaDoor.K
end

section
namespace Go.Proofs.YtgfkgppomaapiaaDoor.K
open Go.RowKit Go.Proofs.YtgfkgppomaapiaaDoorW.PrintWords Go.Proofs.YtgfkgppomaapiaaDoorW.PrintLast Go.Proofs.YtgfkgppomaapiaaDoorW.PrintMore
attribute [local go_sem] kH kS
def stratumref07_spans.l0 : Nat → List (S98) → Int → Option (Bool)
  | 0, _, _ => none
  | k + 1, x0, x3 => if x3 < (x0.length : Int) then (if 0 ≤ x3 then (if ((kG x0 x3).f0) < 0 then (some false) else (if ((kG x0 x3).f0) > 9999 then (some false) else (if ((kG x0 x3).f1) < 0 then (some false) else (if ((kG x0 x3).f1) > 5 then (some false) else (stratumref07_spans.l0 k x0 (wrap64 (x3 + 1))))))) else (none)) else (some (decide ((x0.length : Int) ≤ 40)))
def stratumref07_spans.f (k : Nat) (l0 : List (S98)) : Option (Bool) := stratumref07_spans.l0 k l0 0
set_option maxHeartbeats 8000000 in
set_option maxRecDepth 100000 in
theorem stratumref07_spans.calls (k : Nat) (A0 : Option Addr) (c0 : Nat) (l0 : List (S98)) (r : Bool) (w : World) (hr0 : Kd.C k98 w A0 l0.length l0) (hc0 : l0.length ≤ c0) (h : stratumref07_spans.f k l0 = some r) :
    Calls Tryd.prog 71 #[.slice A0 l0.length c0] w fun e w' => e = .returned (.bool r) ∧ jG w w' := by
  have HR0 := iC.mk hr0
  have HC0 := iC.mk hc0
  clear hr0 hc0
  have H : (stratumref07_spans.l0 k l0 0) = some r := h
  clear h
  have H' := iC.mk H
  clear H
  go_enter Tryd.func71, Tryd.ntmps71
  go_wp2
  go_loopg [3] k (fun kq v3 w' => ∃ (x3_1 : Int), v3 = .int .i64 x3_1 ∧ iC (stratumref07_spans.l0 kq l0 x3_1 = some r) ∧ iC (kq ≤ k) ∧ jG w w')
  case atStart => exact ⟨(0), (by first | rfl | (simp; done) | (simp [*]; done)), H', ⟨Nat.le_refl _⟩, by repeat (first | exact jG.refl _ | apply jG.step)⟩
  case round =>
    clear H'
    obtain ⟨x3_1, rfl, HA, HK1, ⟨m1, rfl⟩⟩ := hrel
    cases gk with
    | zero => exact absurd HA.out (by simp [stratumref07_spans.l0])
    | succ k1 =>
      have H := HA.out
      clear HA
      simp only [stratumref07_spans.l0] at H
      by_cases c2 : x3_1 < (l0.length : Int)
      · rw [if_pos c2] at H
        have c2b0 : decide (x3_1 < (l0.length : Int)) = true := decide_eq_true c2
        clear c2
        by_cases c3 : 0 ≤ x3_1
        · rw [if_pos c3] at H
          have c3b0 : decide (0 ≤ x3_1) = true := decide_eq_true c3
          clear c3
          by_cases c4 : ((kG l0 x3_1).f0) < 0
          · rw [if_pos c4] at H
            have c4b0 : decide (((kG l0 x3_1).f0) < 0) = true := decide_eq_true c4
            clear c4
            obtain rfl := Option.some.inj H
            have p127 : 0 ≤ (x3_1 : Int) := of_decide_eq_true asm_
            have q127 : x3_1 < (l0.length : Int) := of_decide_eq_true asm_
            obtain ⟨ad127, e127, hx127_0, hx127_1⟩ := mW HR0.out x3_1 p127 q127
            cases e127
            replace p127 := eq_true p127
            replace q127 := eq_true q127
            go_wp2
            go_ret
            exact ⟨by first | rfl | (simp; done) | (simp [*]; done), by repeat (first | exact jG.refl _ | apply jG.step)⟩
          · rw [if_neg c4] at H
            have c4b0 : decide (((kG l0 x3_1).f0) < 0) = false := decide_eq_false c4
            clear c4
            by_cases c5 : ((kG l0 x3_1).f0) > 9999
            · rw [if_pos c5] at H
              have c5b0 : decide (9999 < ((kG l0 x3_1).f0)) = true := decide_eq_true c5
              clear c5
              obtain rfl := Option.some.inj H
              have p127 : 0 ≤ (x3_1 : Int) := of_decide_eq_true asm_
              have q127 : x3_1 < (l0.length : Int) := of_decide_eq_true asm_
              obtain ⟨ad127, e127, hx127_0, hx127_1⟩ := mW HR0.out x3_1 p127 q127
              cases e127
              replace p127 := eq_true p127
              replace q127 := eq_true q127
              have p128 : 0 ≤ (x3_1 : Int) := of_decide_eq_true asm_
              have q128 : x3_1 < (l0.length : Int) := of_decide_eq_true asm_
              obtain ⟨ad128, e128, hx128_0, hx128_1⟩ := mW HR0.out x3_1 p128 q128
              obtain rfl : ad127 = ad128 := (by injection e128)
              replace p128 := eq_true p128
              replace q128 := eq_true q128
              go_wp2
              go_ret
              exact ⟨by first | rfl | (simp; done) | (simp [*]; done), by repeat (first | exact jG.refl _ | apply jG.step)⟩
            · rw [if_neg c5] at H
              have c5b0 : decide (9999 < ((kG l0 x3_1).f0)) = false := decide_eq_false c5
              clear c5
              by_cases c6 : ((kG l0 x3_1).f1) < 0
              · rw [if_pos c6] at H
                have c6b0 : decide (((kG l0 x3_1).f1) < 0) = true := decide_eq_true c6
                clear c6
                obtain rfl := Option.some.inj H
                have p127 : 0 ≤ (x3_1 : Int) := of_decide_eq_true asm_
                have q127 : x3_1 < (l0.length : Int) := of_decide_eq_true asm_
                obtain ⟨ad127, e127, hx127_0, hx127_1⟩ := mW HR0.out x3_1 p127 q127
                cases e127
                replace p127 := eq_true p127
                replace q127 := eq_true q127
                have p128 : 0 ≤ (x3_1 : Int) := of_decide_eq_true asm_
                have q128 : x3_1 < (l0.length : Int) := of_decide_eq_true asm_
                obtain ⟨ad128, e128, hx128_0, hx128_1⟩ := mW HR0.out x3_1 p128 q128
                obtain rfl : ad127 = ad128 := (by injection e128)
                replace p128 := eq_true p128
                replace q128 := eq_true q128
                have p129 : 0 ≤ (x3_1 : Int) := of_decide_eq_true asm_
                have q129 : x3_1 < (l0.length : Int) := of_decide_eq_true asm_
                obtain ⟨ad129, e129, hx129_0, hx129_1⟩ := mW HR0.out x3_1 p129 q129
                obtain rfl : ad127 = ad129 := (by injection e129)
                replace p129 := eq_true p129
                replace q129 := eq_true q129
                go_wp2
                go_ret
                exact ⟨by first | rfl | (simp; done) | (simp [*]; done), by repeat (first | exact jG.refl _ | apply jG.step)⟩
              · rw [if_neg c6] at H
                have c6b0 : decide (((kG l0 x3_1).f1) < 0) = false := decide_eq_false c6
                clear c6
                by_cases c7 : ((kG l0 x3_1).f1) > 5
                · rw [if_pos c7] at H
                  have c7b0 : decide (5 < ((kG l0 x3_1).f1)) = true := decide_eq_true c7
                  clear c7
                  obtain rfl := Option.some.inj H
                  have p127 : 0 ≤ (x3_1 : Int) := of_decide_eq_true asm_
                  have q127 : x3_1 < (l0.length : Int) := of_decide_eq_true asm_
                  obtain ⟨ad127, e127, hx127_0, hx127_1⟩ := mW HR0.out x3_1 p127 q127
                  cases e127
                  replace p127 := eq_true p127
                  replace q127 := eq_true q127
                  have p128 : 0 ≤ (x3_1 : Int) := of_decide_eq_true asm_
                  have q128 : x3_1 < (l0.length : Int) := of_decide_eq_true asm_
                  obtain ⟨ad128, e128, hx128_0, hx128_1⟩ := mW HR0.out x3_1 p128 q128
                  obtain rfl : ad127 = ad128 := (by injection e128)
                  replace p128 := eq_true p128
                  replace q128 := eq_true q128
                  have p129 : 0 ≤ (x3_1 : Int) := of_decide_eq_true asm_
                  have q129 : x3_1 < (l0.length : Int) := of_decide_eq_true asm_
                  obtain ⟨ad129, e129, hx129_0, hx129_1⟩ := mW HR0.out x3_1 p129 q129
                  obtain rfl : ad127 = ad129 := (by injection e129)
                  replace p129 := eq_true p129
                  replace q129 := eq_true q129
                  have p130 : 0 ≤ (x3_1 : Int) := of_decide_eq_true asm_
                  have q130 : x3_1 < (l0.length : Int) := of_decide_eq_true asm_
                  obtain ⟨ad130, e130, hx130_0, hx130_1⟩ := mW HR0.out x3_1 p130 q130
                  obtain rfl : ad127 = ad130 := (by injection e130)
                  replace p130 := eq_true p130
                  replace q130 := eq_true q130
                  go_wp2
                  go_ret
                  exact ⟨by first | rfl | (simp; done) | (simp [*]; done), by repeat (first | exact jG.refl _ | apply jG.step)⟩
                · rw [if_neg c7] at H
                  have c7b0 : decide (5 < ((kG l0 x3_1).f1)) = false := decide_eq_false c7
                  clear c7
                  have H' := iC.mk H
                  clear H
                  have p127 : 0 ≤ (x3_1 : Int) := of_decide_eq_true asm_
                  have q127 : x3_1 < (l0.length : Int) := of_decide_eq_true asm_
                  obtain ⟨ad127, e127, hx127_0, hx127_1⟩ := mW HR0.out x3_1 p127 q127
                  cases e127
                  replace p127 := eq_true p127
                  replace q127 := eq_true q127
                  have p128 : 0 ≤ (x3_1 : Int) := of_decide_eq_true asm_
                  have q128 : x3_1 < (l0.length : Int) := of_decide_eq_true asm_
                  obtain ⟨ad128, e128, hx128_0, hx128_1⟩ := mW HR0.out x3_1 p128 q128
                  obtain rfl : ad127 = ad128 := (by injection e128)
                  replace p128 := eq_true p128
                  replace q128 := eq_true q128
                  have p129 : 0 ≤ (x3_1 : Int) := of_decide_eq_true asm_
                  have q129 : x3_1 < (l0.length : Int) := of_decide_eq_true asm_
                  obtain ⟨ad129, e129, hx129_0, hx129_1⟩ := mW HR0.out x3_1 p129 q129
                  obtain rfl : ad127 = ad129 := (by injection e129)
                  replace p129 := eq_true p129
                  replace q129 := eq_true q129
                  have p130 : 0 ≤ (x3_1 : Int) := of_decide_eq_true asm_
                  have q130 : x3_1 < (l0.length : Int) := of_decide_eq_true asm_
                  obtain ⟨ad130, e130, hx130_0, hx130_1⟩ := mW HR0.out x3_1 p130 q130
                  obtain rfl : ad127 = ad130 := (by injection e130)
                  replace p130 := eq_true p130
                  replace q130 := eq_true q130
                  go_wp2
                  go_roundg k1
                  case measure => have := HK1.out; omega
                  case rel => exact ⟨(wrap64 (x3_1 + 1)), (by first | rfl | (simp; done) | (simp [*]; done)), H', ⟨by have := HK1.out; omega⟩, by repeat (first | exact jG.refl _ | apply jG.step)⟩
        · rw [if_neg c3] at H
          exact absurd H (by simp)
      · rw [if_neg c2] at H
        have c2b0 : decide (x3_1 < (l0.length : Int)) = false := decide_eq_false c2
        clear c2
        obtain rfl := Option.some.inj H
        go_wp2
        go_ret
        exact ⟨by first | rfl | (simp; done) | (simp [*]; done), by repeat (first | exact jG.refl _ | apply jG.step)⟩
end Go.Proofs.YtgfkgppomaapiaaDoor.K
end
