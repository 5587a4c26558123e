/- Parts of the proof, one behind the other: CodeT, Buf, CodeL, CodeF, CodeE, K33, CodeD, CodeN, MsgP, K34, K35, K36, K37, RefB, K38, RefS, K39, K40, K41, RefP, RefN, RefE. -/
import Derived.Test.YtgfkgppomaapiaaDoorQMsgApart3
import Derived.Recover
import Derived.Defers
import Derived.Shelf.LaysM
import Derived.Shelf.Bytes.Len
import Derived.Shelf.Bytes.TryGrow
import Derived.Shelf.Bytes.GrowSliceCatch
import Derived.Shelf.Bytes.GrowSlice
import Derived.Shelf.Bytes.Bytes
import Derived.Shelf.Bytes.GrowRow0Kept
import Derived.Shelf.Bytes.GrowRowKept
import Derived.Shelf.Bytes.GrowNilKept
import Derived.Shelf.Bytes.GrowKept
import Derived.Shelf.Bytes.WriteByteKept
import Derived.Ground.SlgfProg
import Derived.Shelf.SlicesE.IndexFunc
import Derived.Lib.OthersKept
import Derived.Lib.BufferKept
import Derived.Lib.BufferWrite
import Derived.Laws.ResultCell
set_option linter.unusedVariables false
set_option linter.unusedSimpArgs false
section
namespace Go.Proofs.YtgfkgppomaapiaaDoor.K
open Go Go.RowKit Go.Proofs.YtgfkgppomaapiaaDoorW.PrintWords Go.Proofs.YtgfkgppomaapiaaDoorW.PrintLast Go.Proofs.YtgfkgppomaapiaaDoorW.PrintMore Go.Proofs.YtgfkgppomaapiaaDoor.My
theorem NP : (Tryd.prog).built 30 (#[] : Array (Nat × Value)).toList = some #[.int .u8 0, .int .u32 0, .int .u32 0, .slice none 0 0, .slice none 0 0, .int .u32 0, .slice none 0 0, .int .i64 0, .int .i64 0, .slice none 0 0] := by kernel_rfl
theorem RZ (w : World) : (Instr.build 30 #[]).run Tryd.prog w = .ok (.agg #[.int .u8 0, .int .u32 0, .int .u32 0, .slice none 0 0, .slice none 0 0, .int .u32 0, .slice none 0 0, .int .i64 0, .int .i64 0, .slice none 0 0]) w := run_build w _ _ _ NP
theorem Q4 {w : World} {b : Nat} {c0 : Value} (x : Bool) (h : w.heap[b]? = some (.cells #[c0] 4 (0, 0))) : (Instr.storeAt 4 (.pointer (some ⟨b, 0, none⟩)) (.bool x)).run Tryd.prog w = .ok () (w.setCell ⟨b, 0, none⟩ (.bool x)) := by
  have z : w.cell? ⟨b, 0, none⟩ = some c0 := (iE h 0).trans rfl
  have y : w.frozen? ⟨b, 0, none⟩ = false := iC h 0
  simp [go_sem, z, y]
theorem U7 (w : World) : (Instr.storeAt 148 (.pointer (some ⟨w.heap.size, 0, none⟩)) (.agg #[])).run Tryd.prog (w.alloc (.cells #[] 148)) = .ok () (w.alloc (.cells #[] 148)) :=
  run_storeAt_new (P := Tryd.prog) w _ #[] #[] (by kernel_rfl) rfl (by simp)
theorem VW {w : World} {b : Nat} {x : Bool} (h : w.heap[b]? = some (.cells #[.bool x] 4 (0, 0))) : (Instr.loadAt 4 (.pointer (some ⟨b, 0, none⟩))).run Tryd.prog w = .ok (.bool x) w := by
  have z : w.cell? ⟨b, 0, none⟩ = some (.bool x) := (iE h 0).trans rfl
  simp [go_sem, z]
theorem QD (w : World) (A : Option Addr) (n c : Nat) : (Instr.build 151 #[(0, .slice A n c)]).run Tryd.prog w = .ok (.agg #[.slice A n c]) w := run_build w _ _ _ (by kernel_rfl)
theorem U3 (w : World) : (Instr.typeAssert (.iface 148 (.agg #[])) 20 148 true).run Tryd.prog w = .ok (.tuple #[.agg #[], .bool true]) w := by
  have hu : (Tryd.prog).underlying 148 = some (.struct #[]) := by kernel_rfl
  simp [Instr.typeAssert, run_underlying hu]
attribute [-go_sem] Instr.build Instr.storeAt
attribute [local go_sem] RZ QD U7 U3
set_option maxRecDepth 20000 in
theorem LV (bx bi : Nat) (w : World) (hx : w.heap[bx]? = some (.cells #[.int .u8 0, .int .u32 0, .int .u32 0, .slice none 0 0, .slice none 0 0, .int .u32 0, .slice none 0 0, .int .i64 0, .int .i64 0, .slice none 0 0] 30 (0, 0))) (hi : w.heap[bi]? = some (.cells #[.bool false] 4 (0, 0))) (hne : bx ≠ bi) :
    CallsD Tryd.prog 96 #[.pointer (some ⟨bx, 0, none⟩), .pointer (some ⟨bi, 0, none⟩)] (.panicking yZ) w fun e u' w' =>
      e = .returned (.tuple #[]) ∧ u' = .panicking [{ v := .iface 148 (.agg #[]), recovered := true }] ∧ w' = ((w.alloc (.cells #[] 148)).setRow bx #[.int .u8 0, .int .u32 0, .int .u32 0, .slice none 0 0, .slice none 0 0, .int .u32 0, .slice none 0 0, .int .i64 0, .int .i64 0, .slice none 0 0]).setCell ⟨bi, 0, none⟩ (.bool false) := by
  have hx1 : (w.alloc (.cells #[] 148)).heap[bx]? = some (.cells #[.int .u8 0, .int .u32 0, .int .u32 0, .slice none 0 0, .slice none 0 0, .int .u32 0, .slice none 0 0, .int .i64 0, .int .i64 0, .slice none 0 0] 30 (0, 0)) := jH hx
  have hi1 : ((w.alloc (.cells #[] 148)).setRow bx #[.int .u8 0, .int .u32 0, .int .u32 0, .slice none 0 0, .slice none 0 0, .int .u32 0, .slice none 0 0, .int .i64 0, .int .i64 0, .slice none 0 0]).heap[bi]? = some (.cells #[.bool false] 4 (0, 0)) := by rw [setRow_other _ _ _ _ (fun e => hne e.symm)]; exact jH hi
  have hs1 := fun (_ : True) => nD (a := 0) (k := 0) (i := 0) (x3 := .slice none 0 0) (x4 := .slice none 0 0) (j := 0) (x6 := .slice none 0 0) (p := 0) (q := 0) (x9 := .slice none 0 0) hx1 rfl rfl rfl rfl
  have hs2 := fun (_ : True) => Q4 false hi1
  clear hx1 hi1 hx hi
  refine callsD_of_wpS Tryd.func96 rfl fun c₀ cs hu => ?_
  simp only [Tryd.ntmps96, List.size_toArray, List.length_cons, List.length_nil, Nat.reduceAdd, Nat.reduceSub, Array.replicate_succ,
     Array.replicate_zero, List.push_toArray, List.append_toArray, List.nil_append, List.cons_append]
  apply wpS_seq
  apply wpS_region
  simp [wpOpsS, go_sem, recoverD, hu, Exit.thenS, yZ]
  refine wpS_of_wp ?_
  go_wp2
  cases c₀
  simp_all [bodyPostS, results, Tryd.results96]
theorem NM (bx bi : Nat) (w : World) :
    CallsD Tryd.prog 96 #[.pointer (some ⟨bx, 0, none⟩), .pointer (some ⟨bi, 0, none⟩)] .returning w fun e u' w' =>
      e = .returned (.tuple #[]) ∧ u' = .returning ∧ w' = w := by
  refine callsD_of_wpS Tryd.func96 rfl fun c₀ cs hu => ?_
  simp only [Tryd.ntmps96, List.size_toArray, List.length_cons, List.length_nil, Nat.reduceAdd, Nat.reduceSub, Array.replicate_succ,
     Array.replicate_zero, List.push_toArray, List.append_toArray, List.nil_append, List.cons_append]
  apply wpS_seq
  apply wpS_region
  simp [wpOpsS, go_sem, recoverD, hu, Exit.thenS]
  refine wpS_of_wp ?_
  go_wp2
  cases c₀
  simp_all [bodyPostS, results, Tryd.results96]
theorem IM {tmps : Array Value} {W : World} {bx bi : Nat} {cs : Array Value} {x : Bool} {R : Ending → World → Prop} (hp : tmps.getD 2 undef = .pointer (some ⟨bx, 0, none⟩)) (hq : tmps.getD 3 undef = .pointer (some ⟨bi, 0, none⟩))
    (hx : W.heap[bx]? = some (.cells cs 30 (0, 0))) (hs : cs.size = 10) (hi : W.heap[bi]? = some (.cells #[.bool x] 4 (0, 0))) (hR : R (.returned (.tuple #[.agg cs, .bool x])) W) : Leaves Tryd.prog Tryd.f74 tmps R [] .returning W := by
  refine ⟨_, ?_, hR⟩
  have h : Tryd.f74.results = #[.cell 2 30, .cell 3 4] := rfl
  have hp' : tmps[2]?.getD undef = .pointer (some ⟨bx, 0, none⟩) := by simpa using hp
  have hq' : tmps[3]?.getD undef = .pointer (some ⟨bi, 0, none⟩) := by simpa using hq
  have h1 := run_loadVar_row (P := Tryd.prog) W bx 30 30 cs (0, 0) _ hx Tryd.underlying30 rfl (by rw [hs]; kernel_rfl)
  have h2 := VW hi
  simp only [Instr.loadAt, Instr.sureAddr, Sem.run_bind, Sem.run_pure, Result.andThen] at h2
  simp [results, h, hp', hq', asAddr, h1, h2]
theorem kN {base : Nat} {x : SRec} {v : Value} {w w' : World} {g : Nat} (h : RecV base x v w) (hg : w.grownBy w' (some g)) (hlt : g < base) : RecV base x v w' := by
  obtain ⟨v3, v4, v6, v9, rfl, h3, h4, h6, h9⟩ := h
  exact ⟨v3, v4, v6, v9, rfl, kV h3 hg hlt, kV h4 hg hlt, kV h6 hg hlt, kV h9 hg hlt⟩
theorem yY {base base' : Nat} {x : SRec} {v : Value} {w : World} (h : RecV base x v w) (hle : base' ≤ base) : RecV base' x v w := by
  obtain ⟨v3, v4, v6, v9, rfl, h3, h4, h6, h9⟩ := h
  exact ⟨v3, v4, v6, v9, rfl, Kd.R_lower h3 hle, Kd.R_lower h4 hle, Kd.R_lower h6 hle, Kd.R_lower h9 hle⟩
theorem IY {w : World} {b : Nat} {c0 : Value} {t : Nat} (v : Value) (h : w.heap[b]? = some (.cells #[c0] t (0, 0))) : (w.setCell ⟨b, 0, none⟩ v).heap[b]? = some (.cells #[v] t (0, 0)) := by
  rw [setCell_eq_setRow w b 0 #[c0] t (0, 0) v h]
  exact setRow_heap w b _ _ _ _ h
theorem yR {w : World} {b i k : Nat} (v : Value) (hne : k ≠ b) : (w.setCell ⟨b, i, none⟩ v).heap[k]? = w.heap[k]? := Below.heap_setCell _ _ _ _ hne
set_option maxRecDepth 20000 in
theorem QI (A : Option Addr) (c : Nat) (l : List UInt8) (w : World) (hC : kb.C w A l.length l) (hc : l.length ≤ c) (hm : (l.length : Int) ≤ 100000) :
    Calls Tryd.prog 74 #[.slice A l.length c] w fun e w' => Below w.heap.size w w' ∧
      ((∃ x r v, recP l = some (x, r) ∧ e = .returned (.tuple #[v, .bool true]) ∧ RecV w.heap.size x v w') ∨ (recP l = none ∧ e = .returned (.tuple #[.agg #[.int .u8 0, .int .u32 0, .int .u32 0, .slice none 0 0, .slice none 0 0, .int .u32 0, .slice none 0 0, .int .i64 0, .int .i64 0, .slice none 0 0], .bool false]))) := by
  have hmf : ∀ (fn : Fn) (first cap : Array Value) (w : World), (Instr.makeFunc fn first cap).run Tryd.prog w = .ok (.func fn first cap) w := fun _ _ _ _ => rfl
  have HC := iD.mk hC
  obtain ⟨WR, hWR⟩ : ∃ WR, WR = ((w.alloc (.cells #[.int .u8 0, .int .u32 0, .int .u32 0, .slice none 0 0, .slice none 0 0, .int .u32 0, .slice none 0 0, .int .i64 0, .int .i64 0, .slice none 0 0] 30)).alloc (.cells #[.bool false] 4)).alloc (.cells #[.slice A l.length c] 151) := ⟨_, rfl⟩
  have HW := iD.mk hWR
  have hB : Below w.heap.size w WR := by rw [hWR]; exact iF (iF (iF (Below.refl _ _) _) _) _
  have HR := iD.mk (show Rd w WR (w.heap.size + 2) l from ⟨A, c, by rw [hWR]; exact iT (by simp), hc, hC⟩)
  have HX := iD.mk (show WR.heap[w.heap.size]? = some (.cells #[.int .u8 0, .int .u32 0, .int .u32 0, .slice none 0 0, .slice none 0 0, .int .u32 0, .slice none 0 0, .int .i64 0, .int .i64 0, .slice none 0 0] 30 (0, 0)) from by rw [hWR]; exact jH (jH (iT rfl)))
  have HI := iD.mk (show WR.heap[w.heap.size + 1]? = some (.cells #[.bool false] 4 (0, 0)) from by rw [hWR]; exact jH (iT (by simp)))
  have HB := iD.mk hB
  have hsz : WR.heap.size = w.heap.size + 3 := by rw [hWR]; simp
  clear hC hWR hB
  go_enter_defers Tryd.func74, Tryd.ntmps74
  go_wp2_with fail
  rw [← HW.out]
  refine (UI (w.heap.size + 2) l w WR HR.out HB.out (by omega) hm).mono ?_
  intro e w1 hpp
  cases hp : recP l with
  | none =>
    obtain ⟨rfl, hG⟩ := hpp.short hp
    clear hpp
    have hx1 := (hG.block _ (kD HX.out) (fun e => by injection e with e; omega)).trans HX.out
    have hi1 := (hG.block _ (kD HI.out) (fun e => by injection e with e; omega)).trans HI.out
    have HX1 := iD.mk hx1
    have HI1 := iD.mk hi1
    clear hx1 hi1
    go_wp2
    refine leaves_cons (f := 96) (args := #[.pointer (some ⟨w.heap.size, 0, none⟩), .pointer (some ⟨w.heap.size + 1, 0, none⟩)]) (by simp) (by simp [go_sem]) ?_
    refine (LV w.heap.size (w.heap.size + 1) w1 HX1.out HI1.out (by omega)).mono ?_
    rintro e u' w2 ⟨rfl, rfl, rfl⟩
    have hB2 := below_grown HB.out hG (by omega) (Nat.le_refl _)
    have hx2 := (yR (i := 0) (.bool false) (show w.heap.size ≠ w.heap.size + 1 by omega)).trans (setRow_heap (w1.alloc (.cells #[] 148)) w.heap.size _ #[.int .u8 0, .int .u32 0, .int .u32 0, .slice none 0 0, .slice none 0 0, .int .u32 0, .slice none 0 0, .int .i64 0, .int .i64 0, .slice none 0 0] _ _ (jH HX1.out))
    have hi2 := IY (.bool false) ((setRow_other (w1.alloc (.cells #[] 148)) w.heap.size (w.heap.size + 1) #[.int .u8 0, .int .u32 0, .int .u32 0, .slice none 0 0, .slice none 0 0, .int .u32 0, .slice none 0 0, .int .i64 0, .int .i64 0, .slice none 0 0] (by omega)).trans (jH HI1.out))
    refine IM rfl rfl hx2 rfl hi2 ⟨?_, .inr ⟨hp, rfl⟩⟩
    exact iH (below_grown (iF hB2 _) (jC _ w.heap.size _) (Nat.le_refl _) (Nat.le_refl _)) (by show _ ≤ _; simp)
  | some y =>
    obtain ⟨x, r⟩ := y
    obtain ⟨v, rfl, hv, hR, hG⟩ := hpp.ok hp
    obtain ⟨v3, v4, v6, v9, rfl, h3, h4, h6, h9⟩ := hv
    obtain ⟨A3, d3, rfl⟩ := Kd.R_slice h3
    obtain ⟨A4, d4, rfl⟩ := Kd.R_slice h4
    obtain ⟨A6, d6, rfl⟩ := Kd.R_slice h6
    obtain ⟨A9, d9, rfl⟩ := Kd.R_slice h9
    have hx1 := (hG.block _ (kD HX.out) (fun e => by injection e with e; omega)).trans HX.out
    have hi1 := (hG.block _ (kD HI.out) (fun e => by injection e with e; omega)).trans HI.out
    have hs1 := fun (_ : True) => nD (a := x.f0) (k := x.f1) (i := x.f2) (x3 := .slice A3 x.f3.length d3) (x4 := .slice A4 x.f4.length d4) (j := x.f5.f0) (x6 := .slice A6 x.f5.f1.length d6) (p := x.f6) (q := x.f7) (x9 := .slice A9 x.f8.length d9) hx1 rfl rfl rfl rfl
    have hi2 := (setRow_other w1 w.heap.size (w.heap.size + 1) #[.int .u8 x.f0, .int .u32 x.f1, .int .u32 x.f2, .slice A3 x.f3.length d3, .slice A4 x.f4.length d4, .int .u32 x.f5.f0, .slice A6 x.f5.f1.length d6, .int .i64 x.f6, .int .i64 x.f7, .slice A9 x.f8.length d9] (by omega)).trans hi1
    have hs2 := fun (_ : True) => Q4 true hi2
    have HX1 := iD.mk hx1
    have HI2 := iD.mk hi2
    clear hpp hx1 hi1 hi2
    go_wp2
    refine leaves_cons (f := 96) (args := #[.pointer (some ⟨w.heap.size, 0, none⟩), .pointer (some ⟨w.heap.size + 1, 0, none⟩)]) (by simp) (by simp [go_sem]) ?_
    refine (NM w.heap.size (w.heap.size + 1) _).mono ?_
    rintro e u' w2 ⟨rfl, rfl, rfl⟩
    have hB2 := below_grown HB.out hG (by omega) (Nat.le_refl _)
    have hx2 := (yR (i := 0) (.bool true) (show w.heap.size ≠ w.heap.size + 1 by omega)).trans (setRow_heap w1 w.heap.size _ #[.int .u8 x.f0, .int .u32 x.f1, .int .u32 x.f2, .slice A3 x.f3.length d3, .slice A4 x.f4.length d4, .int .u32 x.f5.f0, .slice A6 x.f5.f1.length d6, .int .i64 x.f6, .int .i64 x.f7, .slice A9 x.f8.length d9] _ _ HX1.out)
    have hi2 := IY (.bool true) HI2.out
    refine IM rfl rfl hx2 rfl hi2 ⟨?_, .inl ⟨x, r, _, hp, rfl, ?_⟩⟩
    · exact iH (below_grown hB2 (jC _ w.heap.size _) (Nat.le_refl _) (Nat.le_refl _)) (by show _ ≤ _; simp)
    · exact yY (kN (kN ⟨_, _, _, _, rfl, h3, h4, h6, h9⟩ (jC w1 w.heap.size _) (by omega)) (IP _ (w.heap.size + 1) 0 _) (by omega)) (by omega)
end Go.Proofs.YtgfkgppomaapiaaDoor.K
end

section
namespace Go.Proofs
open Go.Shelf
def Tryd.laysM181_ren : Go.Shelf.Ren := ⟨fun | 181 => 55 | n => n, fun | 130 => 87 | 3 => 3 | 0 => 0 | 93 => 91 | 37 => 33 | 91 => 89 | 5 => 5 | n => n, fun | n => n⟩
theorem Tryd.laysM181 : Go.Proofs.LaysM.n181 Tryd.prog Tryd.laysM181_ren := {
  mixed := by kernel_rfl
  f181 := Tryd.func55.trans (congrArg some (by kernel_rfl))
  t0 := Tryd.underlying0
  a0 := Tryd.isAgg0
  z0 := Tryd.sizeOf0
  v0 := Tryd.zeroValue0
  t3 := Tryd.underlying3
  a3 := Tryd.isAgg3
  z3 := Tryd.sizeOf3
  v3 := Tryd.zeroValue3
  t37 := Tryd.underlying33
  a37 := Tryd.isAgg33
  z37 := Tryd.sizeOf33
  v37 := Tryd.zeroValue33
  t93 := Tryd.underlying91
  a93 := Tryd.isAgg91
  z93 := Tryd.sizeOf91
  v93 := Tryd.zeroValue91
  t130 := Tryd.underlying87
  a130 := Tryd.isAgg87
  z130 := Tryd.sizeOf87
  v130 := Tryd.zeroValue87
  t5 := Tryd.underlying5
  a5 := Tryd.isAgg5
  z5 := Tryd.sizeOf5
  v5 := Tryd.zeroValue5
  t91 := Tryd.underlying89
  a91 := Tryd.isAgg89
  z91 := Tryd.sizeOf89
  v91 := Tryd.zeroValue89
  i0 := by kernel_rfl
  i3 := by kernel_rfl
  i5 := by kernel_rfl
  i37 := by kernel_rfl
  i91 := by kernel_rfl
  i93 := by kernel_rfl
  i130 := by kernel_rfl }
open Go.RowKit in
/-- (*bytes.Buffer).Len: "Len returns the number of bytes of the unread portion of the buffer; b.Len() == len(b.Bytes()).": the world is as it was but for the count of draws (the statement has two reads: its order is drawn). (LAID: no walk: one application.) -/
theorem Tryd.Buffer_Len (B b : Nat) (bs : List Value) (w : World) (h : Lib.IsBuffer 91 5 B b bs w) :
    Calls Tryd.prog 55 #[.pointer (some ⟨b, 0, none⟩)] w fun e w' => e = .returned (.int .i64 bs.length) ∧ ∃ n, w' = w.drewN n := Any.Buffer_Len Tryd.laysM181 B b bs w h
def Tryd.laysM183_ren : Go.Shelf.Ren := ⟨fun | 183 => 56 | n => n, fun | 130 => 87 | 37 => 33 | 0 => 0 | 93 => 91 | 3 => 3 | 5 => 5 | 91 => 89 | n => n, fun | n => n⟩
theorem Tryd.laysM183 : Go.Proofs.LaysM.n183 Tryd.prog Tryd.laysM183_ren := {
  mixed := by kernel_rfl
  f183 := Tryd.func56.trans (congrArg some (by kernel_rfl))
  t0 := Tryd.underlying0
  a0 := Tryd.isAgg0
  z0 := Tryd.sizeOf0
  v0 := Tryd.zeroValue0
  t3 := Tryd.underlying3
  a3 := Tryd.isAgg3
  z3 := Tryd.sizeOf3
  v3 := Tryd.zeroValue3
  t37 := Tryd.underlying33
  a37 := Tryd.isAgg33
  z37 := Tryd.sizeOf33
  v37 := Tryd.zeroValue33
  t93 := Tryd.underlying91
  a93 := Tryd.isAgg91
  z93 := Tryd.sizeOf91
  v93 := Tryd.zeroValue91
  t130 := Tryd.underlying87
  a130 := Tryd.isAgg87
  z130 := Tryd.sizeOf87
  v130 := Tryd.zeroValue87
  t5 := Tryd.underlying5
  a5 := Tryd.isAgg5
  z5 := Tryd.sizeOf5
  v5 := Tryd.zeroValue5
  t91 := Tryd.underlying89
  a91 := Tryd.isAgg89
  z91 := Tryd.sizeOf89
  v91 := Tryd.zeroValue89
  i0 := by kernel_rfl
  i3 := by kernel_rfl
  i5 := by kernel_rfl
  i37 := by kernel_rfl
  i91 := by kernel_rfl
  i93 := by kernel_rfl
  i130 := by kernel_rfl }
open Go.RowKit in
/-- (*bytes.Buffer).Bytes: "Bytes returns a slice of length b.Len() holding the unread portion of the buffer. .. The slice aliases the buffer content at least until the next buffer modification": A SLICE THAT OWNS THE CELLS bs ('World.ownsRow': nil where nothing was ever written). The world is as it was but for the count of draws. (LAID: no walk: one application.) -/
theorem Tryd.Buffer_Bytes (B b : Nat) (bs : List Value) (w : World) (h : Lib.IsBuffer 91 5 B b bs w) :
    Calls Tryd.prog 56 #[.pointer (some ⟨b, 0, none⟩)] w fun e w' => ∃ v, e = .returned v ∧ w'.ownsRow B 5 1 v bs.length bs ∧ ∃ n, w' = w.drewN n := Any.Buffer_Bytes Tryd.laysM183 B b bs w h
def Tryd.laysM179_ren : Go.Shelf.Ren := ⟨fun | 179 => 90 | 251 => 114 | 252 => 115 | 181 => 55 | 184 => 125 | 290 => 128 | 324 => 132 | n => n, fun | 130 => 87 | 5 => 5 | 75 => 141 | 0 => 0 | 93 => 91 | 91 => 89 | 3 => 3 | 131 => 167 | 4 => 4 | 37 => 33 | 20 => 20 | 80 => 185 | 9 => 9 | n => n, fun | 14 => 0 | n => n⟩
theorem Tryd.laysM179 : Go.Proofs.LaysM.n179 Tryd.prog Tryd.laysM179_ren := {
  mixed := by kernel_rfl
  f179 := Tryd.func90.trans (congrArg some (by kernel_rfl))
  f181 := Tryd.func55.trans (congrArg some (by kernel_rfl))
  f184 := Tryd.func125.trans (congrArg some (by kernel_rfl))
  f251 := Tryd.func114.trans (congrArg some (by kernel_rfl))
  f252 := Tryd.func115.trans (congrArg some (by kernel_rfl))
  f290 := Tryd.func128.trans (congrArg some (by kernel_rfl))
  f324 := Tryd.func132.trans (congrArg some (by kernel_rfl))
  t0 := Tryd.underlying0
  a0 := Tryd.isAgg0
  z0 := Tryd.sizeOf0
  v0 := Tryd.zeroValue0
  t3 := Tryd.underlying3
  a3 := Tryd.isAgg3
  z3 := Tryd.sizeOf3
  v3 := Tryd.zeroValue3
  t4 := Tryd.underlying4
  a4 := Tryd.isAgg4
  z4 := Tryd.sizeOf4
  v4 := Tryd.zeroValue4
  t5 := Tryd.underlying5
  a5 := Tryd.isAgg5
  z5 := Tryd.sizeOf5
  v5 := Tryd.zeroValue5
  t20 := Tryd.underlying20
  a20 := Tryd.isAgg20
  z20 := Tryd.sizeOf20
  v20 := Tryd.zeroValue20
  t37 := Tryd.underlying33
  a37 := Tryd.isAgg33
  z37 := Tryd.sizeOf33
  v37 := Tryd.zeroValue33
  t75 := Tryd.underlying141
  a75 := Tryd.isAgg141
  z75 := Tryd.sizeOf141
  v75 := Tryd.zeroValue141
  t91 := Tryd.underlying89
  a91 := Tryd.isAgg89
  z91 := Tryd.sizeOf89
  v91 := Tryd.zeroValue89
  t93 := Tryd.underlying91
  a93 := Tryd.isAgg91
  z93 := Tryd.sizeOf91
  v93 := Tryd.zeroValue91
  t130 := Tryd.underlying87
  a130 := Tryd.isAgg87
  z130 := Tryd.sizeOf87
  v130 := Tryd.zeroValue87
  t131 := Tryd.underlying167
  a131 := Tryd.isAgg167
  z131 := Tryd.sizeOf167
  v131 := Tryd.zeroValue167
  g14 := by kernel_rfl
  t9 := Tryd.underlying9
  a9 := Tryd.isAgg9
  z9 := Tryd.sizeOf9
  v9 := Tryd.zeroValue9
  t80 := Tryd.underlying185
  a80 := Tryd.isAgg185
  z80 := Tryd.sizeOf185
  v80 := Tryd.zeroValue185
  i0 := by kernel_rfl
  i3 := by kernel_rfl
  i4 := by kernel_rfl
  i5 := by kernel_rfl
  i9 := by kernel_rfl
  i20 := by kernel_rfl
  i37 := by kernel_rfl
  i75 := by kernel_rfl
  i80 := by kernel_rfl
  i91 := by kernel_rfl
  i93 := by kernel_rfl
  i130 := by kernel_rfl
  i131 := by kernel_rfl
  m14 := by kernel_rfl }
open Go.RowKit in
/-- (*bytes.Buffer).WriteByte: "WriteByte appends the byte c to the buffer, growing the buffer as needed. The returned error is always nil". (LAID: no walk: one application.) -/
theorem Tryd.Buffer_WriteByte_kept (B b : Nat) (bs : List Value) (c : Int) (w : World) (h : Lib.IsBuffer 91 5 B b bs w) (hBw : B ≤ w.heap.size) (h1 : ∀ v ∈ bs, v.oneCell' = true) (hlim : bs.length + 1 ≤ 140737488355328) :
    Calls Tryd.prog 90 #[.pointer (some ⟨b, 0, none⟩), .int .u8 c] w fun e w' => e = .returned .nilIface ∧ Lib.IsBuffer 91 5 B b (bs ++ [.int .u8 c]) w' ∧ Below B w w' ∧ Lib.OthersKept 5 (some b) w w' := Any.Buffer_WriteByte_kept Tryd.laysM179 B b bs c w h hBw h1 hlim
end Go.Proofs
end

section
namespace Go.Proofs.YtgfkgppomaapiaaDoor.K
open Go Go.RowKit Go.Proofs.YtgfkgppomaapiaaDoorW.PrintWords Go.Proofs.YtgfkgppomaapiaaDoorW.PrintLast Go.Proofs.YtgfkgppomaapiaaDoorW.PrintMore Go.Proofs.YtgfkgppomaapiaaDoor.My
/-- A buffer of the call's own, that has only been written. -/
def Bf (B b : Nat) (l : List UInt8) (w : World) : Prop := Lib.IsBuffer 91 5 B b (Lib.byteCells l) w
/-- What a write leaves: all below B; all blocks but the buffer's that are no rows of bytes. -/
def Kp (B b : Nat) (w w' : World) : Prop := Below B w w' ∧ Lib.OthersKept 5 (some b) w w'
theorem Kp.refl (B b : Nat) (w : World) : Kp B b w w := ⟨Below.refl _ _, Lib.OthersKept.refl _ _ _⟩
theorem Kp.trans {B b : Nat} {w w1 w2 : World} (h : Kp B b w w1) (k : Kp B b w1 w2) : Kp B b w w2 := ⟨h.1.trans k.1, h.2.trans k.2⟩
theorem Kp.alloc {B b : Nat} {w w1 : World} (h : Kp B b w w1) (hB : B ≤ w1.heap.size) (o : Obj) : Kp B b w (w1.alloc o) := ⟨h.1.alloc hB o, h.2.alloc o⟩
theorem Kp.size {B b : Nat} {w w1 : World} (h : Kp B b w w1) : w.heap.size ≤ w1.heap.size := h.1.size
theorem Kp.block {B b : Nat} {w w1 : World} (h : Kp B b w w1) {k : Nat} {cs : Array Value} {t : TypeId} {fz : Nat × Nat} (hk : w.heap[k]? = some (.cells cs t fz)) (hne : k ≠ b) (ht : t ≠ 5) : w1.heap[k]? = some (.cells cs t fz) :=
  h.2 k _ hk (fun e => hne (by injection e)) (fun c f e => ht (by injection e))
theorem Bf.lt {B b : Nat} {l : List UInt8} {w : World} (h : Bf B b l w) : b < w.heap.size := Lib.IsBuffer.lt h
theorem Bf.alloc {B b : Nat} {l : List UInt8} {w : World} (h : Bf B b l w) (o : Obj) : Bf B b l (w.alloc o) := Lib.IsBuffer.alloc h o
theorem Bf.fresh (w : World) : Bf w.heap.size w.heap.size [] (w.alloc (.cells #[.slice none 0 0, .int .i64 0, .int .i8 0] 91)) := Lib.fresh_isBuffer _ _ _
theorem OV (l : List UInt8) (c : UInt8) : Lib.byteCells (l ++ [c]) = Lib.byteCells l ++ [.int .u8 (c.toNat : Int)] := by simp [Lib.byteCells]
theorem UJ (x : Int) (s k : Nat) (hk : k < s) : (layB x s).take (k + 1) = (layB x s).take k ++ [UInt8.ofNat ((x / 256 ^ (s - 1 - k)) % 256).toNat] := by
  induction s generalizing k with
  | zero => omega
  | succ s ih =>
    cases k with
    | zero => simp [layB]
    | succ k =>
      have := ih k (by omega)
      simp only [layB, List.take_succ_cons, List.cons_append]
      rw [this, show s + 1 - 1 - (k + 1) = s - 1 - k by omega]
theorem byte_of (v : Int) : ((UInt8.ofNat (v % 256).toNat).toNat : Int) = v % 256 := by
  rw [UInt8.toNat_ofNat']
  omega
theorem Bf.step {B b : Nat} {l : List UInt8} {x V : Int} {s k : Nat} {w : World} (h : Lib.IsBuffer 91 5 B b (Lib.byteCells (l ++ (layB x s).take k) ++ [.int .u8 V]) w) (hk : k < s) (hV : V = x / 256 ^ (s - 1 - k) % 256) : Bf B b (l ++ (layB x s).take (k + 1)) w := by
  unfold Bf
  rw [UJ x s k hk, ← List.append_assoc, OV, byte_of, ← hV]
  exact h
theorem cells_one (l : List UInt8) : ∀ v ∈ Lib.byteCells l, v.oneCell' = true := Lib.byteCells_one l
theorem kG (l : List UInt8) (x : Int) (s k : Nat) (h : l.length + s ≤ 140737488355328) (hk : k < s) : (Lib.byteCells (l ++ (layB x s).take k)).length + 1 ≤ 140737488355328 := by
  rw [Lib.byteCells_length, List.length_append, List.length_take, iR]
  omega
set_option maxHeartbeats 4000000 in
theorem nV (B b : Nat) (l : List UInt8) (x : Int) (w : World) (h : Bf B b l w) (hB : B ≤ w.heap.size) (hl : l.length + 1 ≤ 140737488355328) :
    Calls Tryd.prog 49 #[.pointer (some ⟨b, 0, none⟩), .int .u8 x, .int .i64 1] w fun e w' => e = .returned (.tuple #[]) ∧ Bf B b (l ++ layB x 1) w' ∧ Kp B b w w' := by
  have H0 := iD.mk h
  clear h
  go_enter Tryd.func49, Tryd.ntmps49
  go_wp2
  go_loopw [8] (fun i wr => ∃ k : Nat, k ≤ 1 ∧ i = .int .i64 k ∧ iD (Bf B b (l ++ (layB x 1).take k) wr) ∧ iD (Kp B b w wr)) (fun i _ => 1 - (intOf i).toNat)
  case atStart => exact ⟨0, Nat.zero_le _, rfl, ⟨by rw [List.take_zero, List.append_nil]; exact H0.out⟩, ⟨Kp.refl _ _ _⟩⟩
  case round =>
    obtain ⟨k, hk, rfl, HI, HK⟩ := hrel
    have h' : k = 0 ∨ k = 1 := by omega
    rcases h' with rfl | rfl
    · have hI := HI.out
      have hK := HK.out
      clear HI HK
      go_wp2_with (go_at_call 90; refine (Tryd.Buffer_WriteByte_kept B b _ _ wr hI (Nat.le_trans hB hK.size) (cells_one _) (kG l x 1 0 hl (by omega))).mono ?_; rintro e w1 ⟨rfl, hI1, hb1, hk1⟩; have HI1 := iD.mk hI1; have HK1 := iD.mk (hK.trans ⟨hb1, hk1⟩); clear hI1 hb1 hk1 hI hK)
      go_roundw
      case rel => exact ⟨1, by omega, by go_num, ⟨Bf.step (k := 0) HI1.out (by omega) (by first | rfl | (show _ = x / 1 % 256; rw [IntKind.wrap_u64]; omega) | (show _ = x / 1 % 256; omega))⟩, HK1⟩
      case measure => simp [intOf]
    · go_wp2
      go_end0
      refine ⟨rfl, ?_, HK.out⟩
      have := HI.out
      rwa [List.take_of_length_le (by rw [iR]; exact Nat.le_refl _)] at this
set_option maxHeartbeats 4000000 in
theorem kZ (B b : Nat) (l : List UInt8) (x : Int) (w : World) (h : Bf B b l w) (hB : B ≤ w.heap.size) (hl : l.length + 4 ≤ 140737488355328) :
    Calls Tryd.prog 50 #[.pointer (some ⟨b, 0, none⟩), .int .u32 x, .int .i64 4] w fun e w' => e = .returned (.tuple #[]) ∧ Bf B b (l ++ layB x 4) w' ∧ Kp B b w w' := by
  have H0 := iD.mk h
  clear h
  go_enter Tryd.func50, Tryd.ntmps50
  go_wp2
  go_loopw [8] (fun i wr => ∃ k : Nat, k ≤ 4 ∧ i = .int .i64 k ∧ iD (Bf B b (l ++ (layB x 4).take k) wr) ∧ iD (Kp B b w wr)) (fun i _ => 4 - (intOf i).toNat)
  case atStart => exact ⟨0, Nat.zero_le _, rfl, ⟨by rw [List.take_zero, List.append_nil]; exact H0.out⟩, ⟨Kp.refl _ _ _⟩⟩
  case round =>
    obtain ⟨k, hk, rfl, HI, HK⟩ := hrel
    have h' : k = 0 ∨ k = 1 ∨ k = 2 ∨ k = 3 ∨ k = 4 := by omega
    rcases h' with rfl | rfl | rfl | rfl | rfl
    · have hI := HI.out
      have hK := HK.out
      clear HI HK
      go_wp2_with (go_at_call 90; refine (Tryd.Buffer_WriteByte_kept B b _ _ wr hI (Nat.le_trans hB hK.size) (cells_one _) (kG l x 4 0 hl (by omega))).mono ?_; rintro e w1 ⟨rfl, hI1, hb1, hk1⟩; have HI1 := iD.mk hI1; have HK1 := iD.mk (hK.trans ⟨hb1, hk1⟩); clear hI1 hb1 hk1 hI hK)
      go_roundw
      case rel => exact ⟨1, by omega, by go_num, ⟨Bf.step (k := 0) HI1.out (by omega) (by first | rfl | (show _ = x / 16777216 % 256; rw [IntKind.wrap_u64]; omega) | (show _ = x / 16777216 % 256; omega))⟩, HK1⟩
      case measure => simp [intOf]
    · have hI := HI.out
      have hK := HK.out
      clear HI HK
      go_wp2_with (go_at_call 90; refine (Tryd.Buffer_WriteByte_kept B b _ _ wr hI (Nat.le_trans hB hK.size) (cells_one _) (kG l x 4 1 hl (by omega))).mono ?_; rintro e w1 ⟨rfl, hI1, hb1, hk1⟩; have HI1 := iD.mk hI1; have HK1 := iD.mk (hK.trans ⟨hb1, hk1⟩); clear hI1 hb1 hk1 hI hK)
      go_roundw
      case rel => exact ⟨2, by omega, by go_num, ⟨Bf.step (k := 1) HI1.out (by omega) (by first | rfl | (show _ = x / 65536 % 256; rw [IntKind.wrap_u64]; omega) | (show _ = x / 65536 % 256; omega))⟩, HK1⟩
      case measure => simp [intOf]
    · have hI := HI.out
      have hK := HK.out
      clear HI HK
      go_wp2_with (go_at_call 90; refine (Tryd.Buffer_WriteByte_kept B b _ _ wr hI (Nat.le_trans hB hK.size) (cells_one _) (kG l x 4 2 hl (by omega))).mono ?_; rintro e w1 ⟨rfl, hI1, hb1, hk1⟩; have HI1 := iD.mk hI1; have HK1 := iD.mk (hK.trans ⟨hb1, hk1⟩); clear hI1 hb1 hk1 hI hK)
      go_roundw
      case rel => exact ⟨3, by omega, by go_num, ⟨Bf.step (k := 2) HI1.out (by omega) (by first | rfl | (show _ = x / 256 % 256; rw [IntKind.wrap_u64]; omega) | (show _ = x / 256 % 256; omega))⟩, HK1⟩
      case measure => simp [intOf]
    · have hI := HI.out
      have hK := HK.out
      clear HI HK
      go_wp2_with (go_at_call 90; refine (Tryd.Buffer_WriteByte_kept B b _ _ wr hI (Nat.le_trans hB hK.size) (cells_one _) (kG l x 4 3 hl (by omega))).mono ?_; rintro e w1 ⟨rfl, hI1, hb1, hk1⟩; have HI1 := iD.mk hI1; have HK1 := iD.mk (hK.trans ⟨hb1, hk1⟩); clear hI1 hb1 hk1 hI hK)
      go_roundw
      case rel => exact ⟨4, by omega, by go_num, ⟨Bf.step (k := 3) HI1.out (by omega) (by first | rfl | (show _ = x / 1 % 256; rw [IntKind.wrap_u64]; omega) | (show _ = x / 1 % 256; omega))⟩, HK1⟩
      case measure => simp [intOf]
    · go_wp2
      go_end0
      refine ⟨rfl, ?_, HK.out⟩
      have := HI.out
      rwa [List.take_of_length_le (by rw [iR]; exact Nat.le_refl _)] at this
set_option maxHeartbeats 4000000 in
theorem pR (B b : Nat) (l : List UInt8) (x : Int) (w : World) (h : Bf B b l w) (hB : B ≤ w.heap.size) (hl : l.length + 1 ≤ 140737488355328) :
    Calls Tryd.prog 53 #[.pointer (some ⟨b, 0, none⟩), .int .i64 x, .int .i64 1] w fun e w' => e = .returned (.tuple #[]) ∧ Bf B b (l ++ layB x 1) w' ∧ Kp B b w w' := by
  have H0 := iD.mk h
  clear h
  go_enter Tryd.func53, Tryd.ntmps53
  go_wp2
  go_loopw [8] (fun i wr => ∃ k : Nat, k ≤ 1 ∧ i = .int .i64 k ∧ iD (Bf B b (l ++ (layB x 1).take k) wr) ∧ iD (Kp B b w wr)) (fun i _ => 1 - (intOf i).toNat)
  case atStart => exact ⟨0, Nat.zero_le _, rfl, ⟨by rw [List.take_zero, List.append_nil]; exact H0.out⟩, ⟨Kp.refl _ _ _⟩⟩
  case round =>
    obtain ⟨k, hk, rfl, HI, HK⟩ := hrel
    have h' : k = 0 ∨ k = 1 := by omega
    rcases h' with rfl | rfl
    · have hI := HI.out
      have hK := HK.out
      clear HI HK
      go_wp2_with (go_at_call 90; refine (Tryd.Buffer_WriteByte_kept B b _ _ wr hI (Nat.le_trans hB hK.size) (cells_one _) (kG l x 1 0 hl (by omega))).mono ?_; rintro e w1 ⟨rfl, hI1, hb1, hk1⟩; have HI1 := iD.mk hI1; have HK1 := iD.mk (hK.trans ⟨hb1, hk1⟩); clear hI1 hb1 hk1 hI hK)
      go_roundw
      case rel => exact ⟨1, by omega, by go_num, ⟨Bf.step (k := 0) HI1.out (by omega) (by first | rfl | (show _ = x / 1 % 256; rw [IntKind.wrap_u64]; omega) | (show _ = x / 1 % 256; omega))⟩, HK1⟩
      case measure => simp [intOf]
    · go_wp2
      go_end0
      refine ⟨rfl, ?_, HK.out⟩
      have := HI.out
      rwa [List.take_of_length_le (by rw [iR]; exact Nat.le_refl _)] at this
set_option maxHeartbeats 4000000 in
theorem nH (B b : Nat) (l : List UInt8) (x : Int) (w : World) (h : Bf B b l w) (hB : B ≤ w.heap.size) (hl : l.length + 4 ≤ 140737488355328) :
    Calls Tryd.prog 53 #[.pointer (some ⟨b, 0, none⟩), .int .i64 x, .int .i64 4] w fun e w' => e = .returned (.tuple #[]) ∧ Bf B b (l ++ layB x 4) w' ∧ Kp B b w w' := by
  have H0 := iD.mk h
  clear h
  go_enter Tryd.func53, Tryd.ntmps53
  go_wp2
  go_loopw [8] (fun i wr => ∃ k : Nat, k ≤ 4 ∧ i = .int .i64 k ∧ iD (Bf B b (l ++ (layB x 4).take k) wr) ∧ iD (Kp B b w wr)) (fun i _ => 4 - (intOf i).toNat)
  case atStart => exact ⟨0, Nat.zero_le _, rfl, ⟨by rw [List.take_zero, List.append_nil]; exact H0.out⟩, ⟨Kp.refl _ _ _⟩⟩
  case round =>
    obtain ⟨k, hk, rfl, HI, HK⟩ := hrel
    have h' : k = 0 ∨ k = 1 ∨ k = 2 ∨ k = 3 ∨ k = 4 := by omega
    rcases h' with rfl | rfl | rfl | rfl | rfl
    · have hI := HI.out
      have hK := HK.out
      clear HI HK
      go_wp2_with (go_at_call 90; refine (Tryd.Buffer_WriteByte_kept B b _ _ wr hI (Nat.le_trans hB hK.size) (cells_one _) (kG l x 4 0 hl (by omega))).mono ?_; rintro e w1 ⟨rfl, hI1, hb1, hk1⟩; have HI1 := iD.mk hI1; have HK1 := iD.mk (hK.trans ⟨hb1, hk1⟩); clear hI1 hb1 hk1 hI hK)
      go_roundw
      case rel => exact ⟨1, by omega, by go_num, ⟨Bf.step (k := 0) HI1.out (by omega) (by first | rfl | (show _ = x / 16777216 % 256; rw [IntKind.wrap_u64]; omega) | (show _ = x / 16777216 % 256; omega))⟩, HK1⟩
      case measure => simp [intOf]
    · have hI := HI.out
      have hK := HK.out
      clear HI HK
      go_wp2_with (go_at_call 90; refine (Tryd.Buffer_WriteByte_kept B b _ _ wr hI (Nat.le_trans hB hK.size) (cells_one _) (kG l x 4 1 hl (by omega))).mono ?_; rintro e w1 ⟨rfl, hI1, hb1, hk1⟩; have HI1 := iD.mk hI1; have HK1 := iD.mk (hK.trans ⟨hb1, hk1⟩); clear hI1 hb1 hk1 hI hK)
      go_roundw
      case rel => exact ⟨2, by omega, by go_num, ⟨Bf.step (k := 1) HI1.out (by omega) (by first | rfl | (show _ = x / 65536 % 256; rw [IntKind.wrap_u64]; omega) | (show _ = x / 65536 % 256; omega))⟩, HK1⟩
      case measure => simp [intOf]
    · have hI := HI.out
      have hK := HK.out
      clear HI HK
      go_wp2_with (go_at_call 90; refine (Tryd.Buffer_WriteByte_kept B b _ _ wr hI (Nat.le_trans hB hK.size) (cells_one _) (kG l x 4 2 hl (by omega))).mono ?_; rintro e w1 ⟨rfl, hI1, hb1, hk1⟩; have HI1 := iD.mk hI1; have HK1 := iD.mk (hK.trans ⟨hb1, hk1⟩); clear hI1 hb1 hk1 hI hK)
      go_roundw
      case rel => exact ⟨3, by omega, by go_num, ⟨Bf.step (k := 2) HI1.out (by omega) (by first | rfl | (show _ = x / 256 % 256; rw [IntKind.wrap_u64]; omega) | (show _ = x / 256 % 256; omega))⟩, HK1⟩
      case measure => simp [intOf]
    · have hI := HI.out
      have hK := HK.out
      clear HI HK
      go_wp2_with (go_at_call 90; refine (Tryd.Buffer_WriteByte_kept B b _ _ wr hI (Nat.le_trans hB hK.size) (cells_one _) (kG l x 4 3 hl (by omega))).mono ?_; rintro e w1 ⟨rfl, hI1, hb1, hk1⟩; have HI1 := iD.mk hI1; have HK1 := iD.mk (hK.trans ⟨hb1, hk1⟩); clear hI1 hb1 hk1 hI hK)
      go_roundw
      case rel => exact ⟨4, by omega, by go_num, ⟨Bf.step (k := 3) HI1.out (by omega) (by first | rfl | (show _ = x / 1 % 256; rw [IntKind.wrap_u64]; omega) | (show _ = x / 1 % 256; omega))⟩, HK1⟩
      case measure => simp [intOf]
    · go_wp2
      go_end0
      refine ⟨rfl, ?_, HK.out⟩
      have := HI.out
      rwa [List.take_of_length_le (by rw [iR]; exact Nat.le_refl _)] at this
set_option maxHeartbeats 4000000 in
theorem WG (B b : Nat) (l : List UInt8) (x : Int) (w : World) (h : Bf B b l w) (hB : B ≤ w.heap.size) (hl : l.length + 8 ≤ 140737488355328) :
    Calls Tryd.prog 91 #[.pointer (some ⟨b, 0, none⟩), .int .i64 x, .int .i64 8] w fun e w' => e = .returned (.tuple #[]) ∧ Bf B b (l ++ layB x 8) w' ∧ Kp B b w w' := by
  have H0 := iD.mk h
  clear h
  go_enter Tryd.func91, Tryd.ntmps91
  go_wp2
  go_loopw [8] (fun i wr => ∃ k : Nat, k ≤ 8 ∧ i = .int .i64 k ∧ iD (Bf B b (l ++ (layB x 8).take k) wr) ∧ iD (Kp B b w wr)) (fun i _ => 8 - (intOf i).toNat)
  case atStart => exact ⟨0, Nat.zero_le _, rfl, ⟨by rw [List.take_zero, List.append_nil]; exact H0.out⟩, ⟨Kp.refl _ _ _⟩⟩
  case round =>
    obtain ⟨k, hk, rfl, HI, HK⟩ := hrel
    have h' : k = 0 ∨ k = 1 ∨ k = 2 ∨ k = 3 ∨ k = 4 ∨ k = 5 ∨ k = 6 ∨ k = 7 ∨ k = 8 := by omega
    rcases h' with rfl | rfl | rfl | rfl | rfl | rfl | rfl | rfl | rfl
    · have hI := HI.out
      have hK := HK.out
      clear HI HK
      go_wp2_with (go_at_call 90; refine (Tryd.Buffer_WriteByte_kept B b _ _ wr hI (Nat.le_trans hB hK.size) (cells_one _) (kG l x 8 0 hl (by omega))).mono ?_; rintro e w1 ⟨rfl, hI1, hb1, hk1⟩; have HI1 := iD.mk hI1; have HK1 := iD.mk (hK.trans ⟨hb1, hk1⟩); clear hI1 hb1 hk1 hI hK)
      go_roundw
      case rel => exact ⟨1, by omega, by go_num, ⟨Bf.step (k := 0) HI1.out (by omega) (by first | rfl | (show _ = x / 72057594037927936 % 256; rw [IntKind.wrap_u64]; omega) | (show _ = x / 72057594037927936 % 256; omega))⟩, HK1⟩
      case measure => simp [intOf]
    · have hI := HI.out
      have hK := HK.out
      clear HI HK
      go_wp2_with (go_at_call 90; refine (Tryd.Buffer_WriteByte_kept B b _ _ wr hI (Nat.le_trans hB hK.size) (cells_one _) (kG l x 8 1 hl (by omega))).mono ?_; rintro e w1 ⟨rfl, hI1, hb1, hk1⟩; have HI1 := iD.mk hI1; have HK1 := iD.mk (hK.trans ⟨hb1, hk1⟩); clear hI1 hb1 hk1 hI hK)
      go_roundw
      case rel => exact ⟨2, by omega, by go_num, ⟨Bf.step (k := 1) HI1.out (by omega) (by first | rfl | (show _ = x / 281474976710656 % 256; rw [IntKind.wrap_u64]; omega) | (show _ = x / 281474976710656 % 256; omega))⟩, HK1⟩
      case measure => simp [intOf]
    · have hI := HI.out
      have hK := HK.out
      clear HI HK
      go_wp2_with (go_at_call 90; refine (Tryd.Buffer_WriteByte_kept B b _ _ wr hI (Nat.le_trans hB hK.size) (cells_one _) (kG l x 8 2 hl (by omega))).mono ?_; rintro e w1 ⟨rfl, hI1, hb1, hk1⟩; have HI1 := iD.mk hI1; have HK1 := iD.mk (hK.trans ⟨hb1, hk1⟩); clear hI1 hb1 hk1 hI hK)
      go_roundw
      case rel => exact ⟨3, by omega, by go_num, ⟨Bf.step (k := 2) HI1.out (by omega) (by first | rfl | (show _ = x / 1099511627776 % 256; rw [IntKind.wrap_u64]; omega) | (show _ = x / 1099511627776 % 256; omega))⟩, HK1⟩
      case measure => simp [intOf]
    · have hI := HI.out
      have hK := HK.out
      clear HI HK
      go_wp2_with (go_at_call 90; refine (Tryd.Buffer_WriteByte_kept B b _ _ wr hI (Nat.le_trans hB hK.size) (cells_one _) (kG l x 8 3 hl (by omega))).mono ?_; rintro e w1 ⟨rfl, hI1, hb1, hk1⟩; have HI1 := iD.mk hI1; have HK1 := iD.mk (hK.trans ⟨hb1, hk1⟩); clear hI1 hb1 hk1 hI hK)
      go_roundw
      case rel => exact ⟨4, by omega, by go_num, ⟨Bf.step (k := 3) HI1.out (by omega) (by first | rfl | (show _ = x / 4294967296 % 256; rw [IntKind.wrap_u64]; omega) | (show _ = x / 4294967296 % 256; omega))⟩, HK1⟩
      case measure => simp [intOf]
    · have hI := HI.out
      have hK := HK.out
      clear HI HK
      go_wp2_with (go_at_call 90; refine (Tryd.Buffer_WriteByte_kept B b _ _ wr hI (Nat.le_trans hB hK.size) (cells_one _) (kG l x 8 4 hl (by omega))).mono ?_; rintro e w1 ⟨rfl, hI1, hb1, hk1⟩; have HI1 := iD.mk hI1; have HK1 := iD.mk (hK.trans ⟨hb1, hk1⟩); clear hI1 hb1 hk1 hI hK)
      go_roundw
      case rel => exact ⟨5, by omega, by go_num, ⟨Bf.step (k := 4) HI1.out (by omega) (by first | rfl | (show _ = x / 16777216 % 256; rw [IntKind.wrap_u64]; omega) | (show _ = x / 16777216 % 256; omega))⟩, HK1⟩
      case measure => simp [intOf]
    · have hI := HI.out
      have hK := HK.out
      clear HI HK
      go_wp2_with (go_at_call 90; refine (Tryd.Buffer_WriteByte_kept B b _ _ wr hI (Nat.le_trans hB hK.size) (cells_one _) (kG l x 8 5 hl (by omega))).mono ?_; rintro e w1 ⟨rfl, hI1, hb1, hk1⟩; have HI1 := iD.mk hI1; have HK1 := iD.mk (hK.trans ⟨hb1, hk1⟩); clear hI1 hb1 hk1 hI hK)
      go_roundw
      case rel => exact ⟨6, by omega, by go_num, ⟨Bf.step (k := 5) HI1.out (by omega) (by first | rfl | (show _ = x / 65536 % 256; rw [IntKind.wrap_u64]; omega) | (show _ = x / 65536 % 256; omega))⟩, HK1⟩
      case measure => simp [intOf]
    · have hI := HI.out
      have hK := HK.out
      clear HI HK
      go_wp2_with (go_at_call 90; refine (Tryd.Buffer_WriteByte_kept B b _ _ wr hI (Nat.le_trans hB hK.size) (cells_one _) (kG l x 8 6 hl (by omega))).mono ?_; rintro e w1 ⟨rfl, hI1, hb1, hk1⟩; have HI1 := iD.mk hI1; have HK1 := iD.mk (hK.trans ⟨hb1, hk1⟩); clear hI1 hb1 hk1 hI hK)
      go_roundw
      case rel => exact ⟨7, by omega, by go_num, ⟨Bf.step (k := 6) HI1.out (by omega) (by first | rfl | (show _ = x / 256 % 256; rw [IntKind.wrap_u64]; omega) | (show _ = x / 256 % 256; omega))⟩, HK1⟩
      case measure => simp [intOf]
    · have hI := HI.out
      have hK := HK.out
      clear HI HK
      go_wp2_with (go_at_call 90; refine (Tryd.Buffer_WriteByte_kept B b _ _ wr hI (Nat.le_trans hB hK.size) (cells_one _) (kG l x 8 7 hl (by omega))).mono ?_; rintro e w1 ⟨rfl, hI1, hb1, hk1⟩; have HI1 := iD.mk hI1; have HK1 := iD.mk (hK.trans ⟨hb1, hk1⟩); clear hI1 hb1 hk1 hI hK)
      go_roundw
      case rel => exact ⟨8, by omega, by go_num, ⟨Bf.step (k := 7) HI1.out (by omega) (by first | rfl | (show _ = x / 1 % 256; rw [IntKind.wrap_u64]; omega) | (show _ = x / 1 % 256; omega))⟩, HK1⟩
      case measure => simp [intOf]
    · go_wp2
      go_end0
      refine ⟨rfl, ?_, HK.out⟩
      have := HI.out
      rwa [List.take_of_length_le (by rw [iR]; exact Nat.le_refl _)] at this
end Go.Proofs.YtgfkgppomaapiaaDoor.K
end

section
namespace Go.Proofs.YtgfkgppomaapiaaDoor.K
open Go Go.RowKit Go.Proofs.YtgfkgppomaapiaaDoorW.PrintWords Go.Proofs.YtgfkgppomaapiaaDoorW.PrintLast Go.Proofs.YtgfkgppomaapiaaDoorW.PrintMore Go.Proofs.YtgfkgppomaapiaaDoor.My
theorem kP {α : Type} (e : α → List UInt8) (z : α) (l : List α) (k : Nat) (h : k < l.length) : (l.take (k + 1)).flatMap e = (l.take k).flatMap e ++ e (l.getD k z) := by
  rw [lT z l k h, List.flatMap_append]
  simp
theorem qN {α : Type} (e : α → List UInt8) (l : List α) (k : Nat) : ((l.take k).flatMap e).length ≤ (l.flatMap e).length := by
  conv => rhs; rw [← List.take_append_drop k l, List.flatMap_append, List.length_append]
  omega
theorem zW (n : Nat) (l : List Int) : (l.flatMap (layB · n)).length = n * l.length := by
  induction l with
  | nil => rfl
  | cons x l ih => rw [List.flatMap_cons, List.length_append, ih, iR, List.length_cons, Nat.mul_add]; omega
theorem V4 (l : List Int) (k : Nat) : rd l (k : Int) = l.getD k 0 := by unfold rd; rw [Int.toNat_natCast]
set_option maxHeartbeats 2000000 in
theorem uD (b : Nat) (l : List UInt8) (A : Option Addr) (c : Nat) (ns : List Int) (w0 w : World) (h : Bf w0.heap.size b l w) (hb : Below w0.heap.size w0 w) (hr : Kd.C (Kd.int .i64) w0 A ns.length ns) (hl : l.length + 1 + ns.length ≤ 140737488355328) :
    Calls Tryd.prog 51 #[.pointer (some ⟨b, 0, none⟩), .slice A ns.length c] w fun e w' => e = .returned (.tuple #[]) ∧ Bf w0.heap.size b (l ++ rD ns) w' ∧ Kp w0.heap.size b w w' := by
  have HR := iD.mk hr
  have H0 := iD.mk h
  have HB0 := iD.mk hb
  have hm := lC hr
  clear hr h hb
  go_enter Tryd.func51, Tryd.ntmps51
  go_wp2_with (go_at_call 53; refine (pR _ _ l _ _ H0.out HB0.out.size (by omega)).mono ?_; rintro e w1 ⟨rfl, hI, hK⟩; have HI1 := iD.mk hI; have HK1 := iD.mk hK; clear hI hK)
  go_loopw [12] (fun i wr => ∃ k : Nat, k ≤ ns.length ∧ i = .int .i64 k ∧ iD (Bf w0.heap.size b (l ++ layB ns.length 1 ++ (ns.take k).flatMap (layB · 1)) wr) ∧ iD (Kp w0.heap.size b w wr)) (fun i _ => ns.length - (intOf i).toNat)
  case atStart => exact ⟨0, Nat.zero_le _, rfl, ⟨by rw [List.take_zero, List.flatMap_nil, List.append_nil]; exact HI1.out⟩, HK1⟩
  case round =>
    obtain ⟨k, hk, rfl, HI, HK⟩ := hrel
    clear HI1 HK1
    by_cases hlt : k < ns.length
    · obtain ⟨ad, rfl, hx⟩ := Kd.at_int (Kd.C_below HR.out (HB0.out.trans HK.out.1)) (k : Int) (by omega) (by omega)
      rw [V4, Int.toNat_natCast] at hx
      have hts := iD.mk (kP (layB · 1) 0 ns k hlt)
      have hlen : (l ++ layB ns.length 1 ++ (ns.take k).flatMap (layB · 1)).length + 1 ≤ 140737488355328 := by
        rw [List.length_append, List.length_append, iR, zW, List.length_take]
        omega
      have HL := iD.mk hlen
      clear hlen
      generalize ns.getD k 0 = v at hx hts
      go_wp2_with (go_at_call 53; refine (pR _ _ _ _ _ HI.out (HB0.out.trans HK.out.1).size HL.out).mono ?_; rintro e w1 ⟨rfl, hI, hK⟩; have HI1 := iD.mk hI; have HK1 := iD.mk (HK.out.trans hK); clear hI hK)
      go_roundw
      case rel => exact ⟨k + 1, by omega, by go_num, ⟨by rw [hts.out, ← List.append_assoc]; exact HI1.out⟩, HK1⟩
      case measure => simp [intOf]; omega
    · obtain rfl : k = ns.length := by omega
      go_wp2
      go_end0
      refine ⟨rfl, ?_, HK.out⟩
      have := HI.out
      rw [List.take_length] at this
      rw [rD, ← List.append_assoc]
      exact this
def zG : jK := z139
theorem QR (l : List jK) (k : Nat) : jA l (k : Int) = l.getD k zG := by unfold jA zG; rw [Int.toNat_natCast]
theorem QA (f : jK) : (mJ f).length = 9 + 4 * f.f0.length := uI f
set_option maxHeartbeats 4000000 in
theorem xJ (b : Nat) (l : List UInt8) (A : Option Addr) (c : Nat) (fs : List jK) (w0 w : World) (h : Bf w0.heap.size b l w) (hb : Below w0.heap.size w0 w) (hr : Kd.C k139 w0 A fs.length fs) (hl : l.length + (kC fs).length ≤ 140737488355328) :
    Calls Tryd.prog 52 #[.pointer (some ⟨b, 0, none⟩), .slice A fs.length c] w fun e w' => e = .returned (.tuple #[]) ∧ Bf w0.heap.size b (l ++ kC fs) w' ∧ Kp w0.heap.size b w w' := by
  have HR := iD.mk hr
  have H0 := iD.mk h
  have HB0 := iD.mk hb
  have hm := lC hr
  have hl' : l.length + 4 + (fs.flatMap mJ).length ≤ 140737488355328 := by
    unfold kC at hl
    rw [List.length_append, iR] at hl
    omega
  clear hr h hb hl
  go_enter Tryd.func52, Tryd.ntmps52
  go_wp2_with (go_at_call 53; refine (nH _ _ l _ _ H0.out HB0.out.size (by omega)).mono ?_; rintro e w1 ⟨rfl, hI, hK⟩; have HI1 := iD.mk hI; have HK1 := iD.mk hK; clear hI hK)
  go_loopw [14] (fun i wr => ∃ k : Nat, k ≤ fs.length ∧ i = .int .i64 k ∧ iD (Bf w0.heap.size b (l ++ layB fs.length 4 ++ (fs.take k).flatMap mJ) wr) ∧ iD (Kp w0.heap.size b w wr)) (fun i _ => fs.length - (intOf i).toNat)
  case atStart => exact ⟨0, Nat.zero_le _, rfl, ⟨by rw [List.take_zero, List.flatMap_nil, List.append_nil]; exact HI1.out⟩, HK1⟩
  case round =>
    obtain ⟨k, hk, rfl, HI, HK⟩ := hrel
    clear HI1 HK1
    by_cases hlt : k < fs.length
    · obtain ⟨ad, A1, c1, rfl, hx0, hx1, hl1, hC1⟩ := lW (Kd.C_below HR.out (HB0.out.trans HK.out.1)) (k : Int) (by omega) (by omega)
      have hC0 : Kd.C (Kd.int .i64) w0 A1 (fs.getD k zG).f0.length (fs.getD k zG).f0 := by
        obtain ⟨ad2, A2, c2, e2, hy0, hy1, hl2, hC2⟩ := lW HR.out (k : Int) (by omega) (by omega)
        have hz := kT (HB0.out.trans HK.out.1) hy0
        injection e2 with e2
        subst e2
        rw [hx0] at hz
        injection hz with hz
        injection hz with hz1 hz2 hz3
        subst hz1
        rw [QR] at hC2
        exact hC2
      rw [QR] at hx0 hx1 hl1
      rw [Int.toNat_natCast] at hx0 hx1
      clear hC1
      have hts := iD.mk (kP mJ zG fs k hlt)
      have hle := qN mJ fs (k + 1)
      rw [hts.out, List.length_append, QA] at hle
      obtain ⟨f, hf⟩ : ∃ f, f = fs.getD k zG := ⟨_, rfl⟩
      rw [← hf] at hx0 hx1 hl1 hC0 hts hle
      clear hf
      have HC0 := iD.mk hC0
      have hkm := lC hC0
      obtain ⟨pre, hpre⟩ : ∃ p, p = l ++ layB fs.length 4 ++ (fs.take k).flatMap mJ := ⟨_, rfl⟩
      have hpl : pre.length + 9 + 4 * f.f0.length ≤ 140737488355328 := by
        rw [hpre, List.length_append, List.length_append, iR]
        omega
      have hrest : l ++ layB fs.length 4 ++ (fs.take (k + 1)).flatMap mJ = pre ++ mJ f := by
        rw [hts.out, ← List.append_assoc, hpre]
      rw [← hpre] at HI
      have HREST := iD.mk hrest
      clear hts hpre hrest hle hC0 hl'
      obtain ⟨wo, rfl⟩ : ∃ wo : World, wo = wr := ⟨_, rfl⟩
      have HBX := iD.mk (Bf.alloc HI.out (.cells #[.slice A1 f.f0.length c1, .int .i64 f.f1] 139))
      have HKX := iD.mk (HK.out.alloc (HB0.out.trans HK.out.1).size (.cells #[.slice A1 f.f0.length c1, .int .i64 f.f1] 139))
      have hbne : w.heap.size ≤ w.heap.size := Nat.le_refl _
      have HNE := iD.mk (show wo.heap.size ≠ b from by have := HI.out.lt; omega)
      clear hbne
      go_wp2_with (go_at_call 53; refine (pR _ _ pre _ _ HBX.out (HB0.out.trans HKX.out.1).size (by omega)).mono ?_; rintro e w1 ⟨rfl, hI, hK⟩; have HI1 := iD.mk hI; have HK1 := iD.mk (HKX.out.trans hK); have hblk := hK.block (iT rfl) HNE.out (by decide); have HBL := iD.mk hblk; clear hI hK; have hz0 := (iE hblk 0); have hz1 := (iE hblk 1); have hz0 : w1.cell? ⟨wo.heap.size, 0, none⟩ = some (.slice A1 f.f0.length c1) := hz0.trans rfl; have hz1 : w1.cell? ⟨wo.heap.size, 1, none⟩ = some (.int .i64 f.f1) := hz1.trans rfl; clear hblk)
      clear hz0 hz1
      go_loopw [26] (fun i wi => ∃ m : Nat, m ≤ f.f0.length ∧ i = .int .i64 m ∧ iD (Bf w0.heap.size b (pre ++ layB f.f0.length 1 ++ (f.f0.take m).flatMap (layB · 4)) wi) ∧ iD (Kp w0.heap.size b w wi) ∧ iD (wi.heap[wo.heap.size]? = some (.cells #[.slice A1 f.f0.length c1, .int .i64 f.f1] 139 (0, 0)))) (fun i _ => f.f0.length - (intOf i).toNat)
      case atStart => exact ⟨0, Nat.zero_le _, rfl, ⟨by rw [List.take_zero, List.flatMap_nil, List.append_nil]; exact HI1.out⟩, HK1, HBL⟩
      case round =>
        obtain ⟨m, hmx, rfl, HIm, HKm, HBm⟩ := hrel
        clear HI1 HK1 HBL
        have hcap : (pre ++ layB f.f0.length 1 ++ (f.f0.take m).flatMap (layB · 4)).length + 8 ≤ 140737488355328 := by
          rw [List.length_append, List.length_append, iR, zW, List.length_take]
          omega
        by_cases hml : m < f.f0.length
        · have HL := iD.mk (show (pre ++ layB f.f0.length 1 ++ (f.f0.take m).flatMap (layB · 4)).length + 4 ≤ 140737488355328 from by omega)
          obtain ⟨ad2, rfl, hx⟩ := Kd.at_int (Kd.C_below HC0.out (HB0.out.trans HKm.out.1)) (m : Int) (by omega) (by omega)
          rw [V4, Int.toNat_natCast] at hx
          have hts := iD.mk (kP (layB · 4) 0 f.f0 m hml)
          generalize f.f0.getD m 0 = v at hx hts
          clear hcap
          go_wp2_with (go_at_call 53; refine (nH _ _ _ _ _ HIm.out (HB0.out.trans HKm.out.1).size HL.out).mono ?_; rintro e w1 ⟨rfl, hI, hK⟩; have HI1 := iD.mk hI; have HK1 := iD.mk (HKm.out.trans hK); have HB1 := iD.mk (hK.block HBm.out HNE.out (by decide)); clear hI hK)
          go_roundw
          case rel => exact ⟨m + 1, by omega, by go_num, ⟨by rw [hts.out, ← List.append_assoc]; exact HI1.out⟩, HK1, HB1⟩
          case measure => simp [intOf]; omega
        · obtain rfl : m = f.f0.length := by omega
          have hI' := HIm.out
          rw [List.take_length] at hI' hcap
          have HI' := iD.mk hI'
          have HCAP := iD.mk hcap
          clear hI' hcap HIm
          have hz1 : wr.cell? ⟨wo.heap.size, 1, none⟩ = some (.int .i64 f.f1) := (iE HBm.out 1).trans rfl
          go_wp2_with (go_at_call 91; refine (WG _ _ _ _ _ HI'.out (HB0.out.trans HKm.out.1).size HCAP.out).mono ?_; rintro e w1 ⟨rfl, hI, hK⟩; have HI1 := iD.mk hI; have HK1 := iD.mk (HKm.out.trans hK); clear hI hK)
          go_roundw
          case rel => exact ⟨k + 1, by omega, by go_num, ⟨by rw [HREST.out, mJ, ← List.append_assoc, ← List.append_assoc]; exact HI1.out⟩, HK1⟩
          case measure => simp [intOf]; omega
    · obtain rfl : k = fs.length := by omega
      go_wp2
      go_end0
      refine ⟨rfl, ?_, HK.out⟩
      have := HI.out
      rw [List.take_length] at this
      rw [kC, ← List.append_assoc]
      exact this
def vI : jG := z86
theorem PX (l : List jG) (k : Nat) : iU l (k : Int) = l.getD k vI := by unfold iU vI; rw [Int.toNat_natCast]
set_option maxHeartbeats 4000000 in
theorem xH (b : Nat) (l : List UInt8) (A : Option Addr) (c : Nat) (es : List jG) (w0 w : World) (h : Bf w0.heap.size b l w) (hb : Below w0.heap.size w0 w) (hr : Kd.C k86 w0 A es.length es) (hl : l.length + (jT es).length ≤ 140737488355328) :
    Calls Tryd.prog 54 #[.pointer (some ⟨b, 0, none⟩), .slice A es.length c] w fun e w' => e = .returned (.tuple #[]) ∧ Bf w0.heap.size b (l ++ jT es) w' ∧ Kp w0.heap.size b w w' := by
  have HR := iD.mk hr
  have H0 := iD.mk h
  have HB0 := iD.mk hb
  have hm := lC hr
  have hl' : l.length + 4 + (es.flatMap kW).length ≤ 140737488355328 := by
    unfold jT at hl
    rw [List.length_append, iR] at hl
    omega
  clear hr h hb hl
  go_enter Tryd.func54, Tryd.ntmps54
  go_wp2_with (go_at_call 53; refine (nH _ _ l _ _ H0.out HB0.out.size (by omega)).mono ?_; rintro e w1 ⟨rfl, hI, hK⟩; have HI1 := iD.mk hI; have HK1 := iD.mk hK; clear hI hK)
  go_loopw [12] (fun i wr => ∃ k : Nat, k ≤ es.length ∧ i = .int .i64 k ∧ iD (Bf w0.heap.size b (l ++ layB es.length 4 ++ (es.take k).flatMap kW) wr) ∧ iD (Kp w0.heap.size b w wr)) (fun i _ => es.length - (intOf i).toNat)
  case atStart => exact ⟨0, Nat.zero_le _, rfl, ⟨by rw [List.take_zero, List.flatMap_nil, List.append_nil]; exact HI1.out⟩, HK1⟩
  case round =>
    obtain ⟨k, hk, rfl, HI, HK⟩ := hrel
    clear HI1 HK1
    by_cases hlt : k < es.length
    · obtain ⟨ad, A1, c1, rfl, hx0, hx1, hl1, hC1⟩ := oQ (Kd.C_below HR.out (HB0.out.trans HK.out.1)) (k : Int) (by omega) (by omega)
      have hC0 : Kd.C k139 w0 A1 (es.getD k vI).f1.length (es.getD k vI).f1 := by
        obtain ⟨ad2, A2, c2, e2, hy0, hy1, hl2, hC2⟩ := oQ HR.out (k : Int) (by omega) (by omega)
        have hz := kT (HB0.out.trans HK.out.1) hy1
        injection e2 with e2
        subst e2
        rw [hx1] at hz
        injection hz with hz
        injection hz with hz1 hz2 hz3
        subst hz1
        rw [PX] at hC2
        exact hC2
      rw [PX] at hx0 hx1 hl1
      rw [Int.toNat_natCast] at hx0 hx1
      clear hC1
      have hts := iD.mk (kP kW vI es k hlt)
      have hle := qN kW es (k + 1)
      rw [hts.out, List.length_append] at hle
      obtain ⟨f, hf⟩ : ∃ f, f = es.getD k vI := ⟨_, rfl⟩
      rw [← hf] at hx0 hx1 hl1 hC0 hts hle
      clear hf
      have HC0 := iD.mk hC0
      have hkm := lC hC0
      obtain ⟨pre, hpre⟩ : ∃ p, p = l ++ layB es.length 4 ++ (es.take k).flatMap kW := ⟨_, rfl⟩
      have hpl : pre.length + 4 + (kC f.f1).length ≤ 140737488355328 := by
        rw [kW, List.length_append, iR] at hle
        rw [hpre, List.length_append, List.length_append, iR]
        omega
      have HPL := iD.mk (show (pre ++ layB f.f0 4).length + (kC f.f1).length ≤ 140737488355328 from by rw [List.length_append, iR]; exact hpl)
      have hpl4 : pre.length + 4 ≤ 140737488355328 := by omega
      have HPL4 := iD.mk hpl4
      have hrest : l ++ layB es.length 4 ++ (es.take (k + 1)).flatMap kW = pre ++ kW f := by
        rw [hts.out, ← List.append_assoc, hpre]
      rw [← hpre] at HI
      have HREST := iD.mk hrest
      clear hts hpre hrest hle hC0 hl' hpl hpl4
      obtain ⟨wo, rfl⟩ : ∃ wo : World, wo = wr := ⟨_, rfl⟩
      have HBX := iD.mk (Bf.alloc HI.out (.cells #[.int .u32 f.f0, .slice A1 f.f1.length c1] 86))
      have HKX := iD.mk (HK.out.alloc (HB0.out.trans HK.out.1).size (.cells #[.int .u32 f.f0, .slice A1 f.f1.length c1] 86))
      have HNE := iD.mk (show wo.heap.size ≠ b from by have := HI.out.lt; omega)
      go_wp2_with (first | (go_at_call 50; refine (kZ _ _ pre _ _ HBX.out (HB0.out.trans HKX.out.1).size HPL4.out).mono ?_; rintro e w1 ⟨rfl, hI, hK⟩; have HI1 := iD.mk hI; have HK1 := iD.mk (HKX.out.trans hK); have hblk := hK.block (iT rfl) HNE.out (by decide); clear hI hK; have hz1 := (iE hblk 1); have hz1 : w1.cell? ⟨wo.heap.size, 1, none⟩ = some (.slice A1 f.f1.length c1) := hz1.trans rfl; clear hblk) | (go_at_call 52; refine (xJ _ _ _ _ f.f1 w0 _ HI1.out (HB0.out.trans HK1.out.1) HC0.out HPL.out).mono ?_; rintro e w2 ⟨rfl, hI, hK⟩; have HI2 := iD.mk hI; have HK2 := iD.mk (HK1.out.trans hK); clear hI hK))
      go_roundw
      case rel => exact ⟨k + 1, by omega, by go_num, ⟨by rw [HREST.out, kW, ← List.append_assoc]; exact HI2.out⟩, HK2⟩
      case measure => simp [intOf]; omega
    · obtain rfl : k = es.length := by omega
      go_wp2
      go_end0
      refine ⟨rfl, ?_, HK.out⟩
      have := HI.out
      rw [List.take_length] at this
      rw [jT, ← List.append_assoc]
      exact this
theorem yF (l : List jK) (h : lX l = true) : (kC l).length ≤ 5004 := by
  unfold lX at h
  simp only [Bool.and_eq_true, decide_eq_true_eq, List.all_eq_true] at h
  obtain ⟨h1, h2⟩ := h
  have : ∀ l : List jK, (∀ f ∈ l, oH f = true) → (l.flatMap mJ).length ≤ 25 * l.length := by
    intro l
    induction l with
    | nil => intro _; simp
    | cons f l ih =>
      intro hf
      have h3 := hf f List.mem_cons_self
      unfold oH at h3
      simp only [Bool.and_eq_true, decide_eq_true_eq] at h3
      have := ih (fun g hg => hf g (List.mem_cons_of_mem _ hg))
      rw [List.flatMap_cons, List.length_append, uI, List.length_cons]
      omega
  have := this l h2
  unfold kC
  rw [List.length_append, iR]
  omega
theorem xW (l : List jG) (h : lV l = true) (h5 : l.length ≤ 5000) : (jT l).length ≤ 25040004 := by
  have : ∀ l : List jG, (∀ e ∈ l, lX e.f1 = true) → (l.flatMap kW).length ≤ 5008 * l.length := by
    intro l
    induction l with
    | nil => intro _; simp
    | cons e l ih =>
      intro hf
      have h3 := yF _ (hf e List.mem_cons_self)
      have := ih (fun g hg => hf g (List.mem_cons_of_mem _ hg))
      rw [List.flatMap_cons, List.length_append, List.length_cons, kW, List.length_append, iR]
      omega
  have := this l (xB l h)
  unfold jT
  rw [List.length_append, iR]
  omega
theorem uQ (l : List Int) (h : lH (-1) l = true) : l.length ≤ 6 := by
  have := (rE l (-1) h (by omega)).2
  omega
end Go.Proofs.YtgfkgppomaapiaaDoor.K
end

section
namespace Go.Proofs.YtgfkgppomaapiaaDoor.K
open Go Go.RowKit Go.Proofs.YtgfkgppomaapiaaDoorW.PrintWords Go.Proofs.YtgfkgppomaapiaaDoorW.PrintLast Go.Proofs.YtgfkgppomaapiaaDoorW.PrintMore Go.Proofs.YtgfkgppomaapiaaDoor.My
def nums (l : List UInt8) : List Int := l.map fun c => (c.toNat : Int)
theorem kH (l : List UInt8) : (nums l).length = l.length := List.length_map ..
/-- What code.Encode answers. -/
def encR (r : SRec) : List Int × Int := if jP r = true then (if 60000 < (recE r).length then ([], 3) else (nums (recE r), 0)) else ([], 1)
def code_Encode.f (a0_0 : Int) (a0_1 : Int) (a0_2 : Int) (l0_3 : List Int) (l0_4 : List jK) (a0_5 : Int) (l0_6 : List jX) (a0_7 : Int) (a0_8 : Int) (l0_9 : List jG) : Option (List Int × Int) :=
  some (encR ⟨a0_0, a0_1, a0_2, l0_3, l0_4, ⟨a0_5, l0_6⟩, a0_7, a0_8, l0_9⟩)
theorem pF {w : World} {B base : Nat} {v : Value} {l : List UInt8} (h : w.ownsRow B 5 1 v (Lib.byteCells l).length (Lib.byteCells l)) (hb : base ≤ B) : Kd.R (Kd.int .u8) 5 w base (fun _ => True) v (nums l) := by
  refine Kd.R_lower (Kd.R_of_own ?_ (fun _ _ => trivial)) hb
  have e : Lib.byteCells l = encs (Value.int .u8) (nums l) := by simp [Lib.byteCells, encs, nums]
  have e2 : (nums l).length = (Lib.byteCells l).length := by rw [kH, Lib.byteCells_length]
  rw [e2, ← e]
  exact h
theorem jD (l : List Int) : (rD l).length = 1 + l.length := by unfold rD; rw [List.length_append, iR, zW]; omega
def oW (w : World) (r : List Int × Int) (e : Ending) (w' : World) : Prop := ∃ v0_ : Value, e = .returned (.tuple #[v0_, .int .u16 r.2]) ∧ Kd.R (Kd.int .u8) 5 w' w.heap.size (fun _ => True) v0_ r.1 ∧ Below w.heap.size w w'
theorem XL (a1 a2 : Int) (l3 : List Int) (l4 : List jK) (a5 : Int) (l6 : List jX) (a7 a8 : Int) (l9 : List jG) : recE ⟨1, a1, a2, l3, l4, ⟨a5, l6⟩, a7, a8, l9⟩ = [] ++ layB 1 1 ++ layB a1 4 ++ rD l3 ++ kC l4 := by
  simp [recE, yJ]
theorem XI (a1 a2 : Int) (l3 : List Int) (l4 : List jK) (a5 : Int) (l6 : List jX) (a7 a8 : Int) (l9 : List jG) : recE ⟨2, a1, a2, l3, l4, ⟨a5, l6⟩, a7, a8, l9⟩ = [] ++ layB 2 1 ++ layB a1 4 ++ layB a2 4 ++ rD l3 := by
  simp [recE, yJ]
theorem X7 (a1 a2 : Int) (l3 : List Int) (l4 : List jK) (a5 : Int) (l6 : List jX) (a7 a8 : Int) (l9 : List jG) : recE ⟨3, a1, a2, l3, l4, ⟨a5, l6⟩, a7, a8, l9⟩ = [] ++ layB 3 1 ++ layB a1 4 := by
  simp [recE, yJ]
theorem XG (a1 a2 : Int) (l3 : List Int) (l4 : List jK) (a5 : Int) (l6 : List jX) (a7 a8 : Int) (l9 : List jG) : recE ⟨4, a1, a2, l3, l4, ⟨a5, l6⟩, a7, a8, l9⟩ = [] ++ layB 4 1 ++ layB a1 4 := by
  simp [recE, yJ]
theorem WI (a1 a2 : Int) (l3 : List Int) (l4 : List jK) (a5 : Int) (l6 : List jX) (a7 a8 : Int) (l9 : List jG) : recE ⟨5, a1, a2, l3, l4, ⟨a5, l6⟩, a7, a8, l9⟩ = [] ++ layB 5 1 ++ layB a1 4 := by
  simp [recE, yJ]
theorem XH (a1 a2 : Int) (l3 : List Int) (l4 : List jK) (a5 : Int) (l6 : List jX) (a7 a8 : Int) (l9 : List jG) : recE ⟨7, a1, a2, l3, l4, ⟨a5, l6⟩, a7, a8, l9⟩ = [] ++ layB 7 1 ++ layB a1 4 ++ layB a7 4 ++ layB a8 4 ++ jT l9 := by
  simp [recE, yJ]
theorem XE (a1 a2 : Int) (l3 : List Int) (l4 : List jK) (a5 : Int) (l6 : List jX) (a7 a8 : Int) (l9 : List jG) : recE ⟨6, a1, a2, l3, l4, ⟨a5, l6⟩, a7, a8, l9⟩ = [] ++ layB 6 1 ++ layB a1 4 ++ layB a5 4 ++ layB l6.length 1 ++ l6.flatMap nU := by
  simp [recE, yJ, NC]
theorem zK (l : List jX) : (l.flatMap nU).length = 5 * l.length := by
  induction l with
  | nil => rfl
  | cons x l ih => rw [List.flatMap_cons, List.length_append, ih, nU, List.length_append, iR, iR, List.length_cons]; omega
theorem QG (l : List jX) (k : Nat) : kS l (k : Int) = l.getD k xY := by unfold kS xY; rw [Int.toNat_natCast]
section
variable (a0 a1 a2 : Int) (A3 : Option Addr) (c3 : Nat) (l3 : List Int) (A4 : Option Addr) (c4 : Nat) (l4 : List jK) (a5 : Int) (A6 : Option Addr) (c6 : Nat) (l6 : List jX) (a7 a8 : Int) (A9 : Option Addr) (c9 : Nat) (l9 : List jG) (w : World)
  (h3 : Kd.C (Kd.int .i64) w A3 l3.length l3) (d3 : l3.length ≤ c3) (h4 : Kd.C k139 w A4 l4.length l4) (d4 : l4.length ≤ c4) (h6 : Kd.C k98 w A6 l6.length l6) (d6 : l6.length ≤ c6) (h9 : Kd.C k86 w A9 l9.length l9) (d9 : l9.length ≤ c9)
include h3 d3 h4 d4 h6 d6 h9 d9
set_option maxHeartbeats 8000000 in
set_option maxRecDepth 20000 in
theorem UE (hs : jP ⟨1, a1, a2, l3, l4, ⟨a5, l6⟩, a7, a8, l9⟩ = true) : Calls Tryd.prog 17 #[.agg #[.int .u8 1, .int .u32 a1, .int .u32 a2, .slice A3 l3.length c3, .slice A4 l4.length c4, .int .u32 a5, .slice A6 l6.length c6, .int .i64 a7, .int .i64 a8, .slice A9 l9.length c9]] w (oW w (encR ⟨1, a1, a2, l3, l4, ⟨a5, l6⟩, a7, a8, l9⟩)) := by
  have H3 := iD.mk h3; have H4 := iD.mk h4; have H6 := iD.mk h6; have H9 := iD.mk h9
  clear h3 h4 h6 h9
  have HS := iD.mk hs
  have hl3 : l3.length ≤ 6 ∧ (kC l4).length ≤ 5004 := by
    have h := HS.out
    rw [UW, Bool.and_eq_true, Bool.and_eq_true] at h
    exact ⟨uQ _ h.1.1, yF _ h.1.2⟩
  obtain ⟨q3, q4⟩ := hl3
  unfold encR
  rw [if_pos HS.out]
  have hm3 := lC H3.out
  have hm6 := lC H6.out
  obtain ⟨X, hX⟩ : ∃ X : List UInt8, X = recE ⟨1, a1, a2, l3, l4, ⟨a5, l6⟩, a7, a8, l9⟩ := ⟨_, rfl⟩
  rw [← hX]
  have HX := iD.mk hX
  have HLEN := iD.mk (show X.length = _ from congrArg List.length (hX.trans (XL _ _ _ _ _ _ _ _ _)))
  clear hs hX
  by_cases hbig : 60000 < X.length
  · rw [if_pos hbig]
    have hbigI : (60000 : Int) < (X.length : Int) := by omega
    clear hbig
    go_enter Tryd.func17, Tryd.ntmps17
    go_wp2_with (first | (go_at_call 19; refine (code_Sound.calls 1 a1 a2 A3 c3 l3 A4 c4 l4 a5 A6 c6 l6 a7 a8 A9 c9 l9 _ _ (Kd.C_below H3.out bel_) d3 (Kd.C_below H4.out bel_) d4 (Kd.C_below H6.out bel_) d6 (Kd.C_below H9.out bel_) d9 rfl).mono ?_; rintro e w1 ⟨rfl, hb1⟩; rw [HS.out]; have HBW := iD.mk (show Below w.heap.size w w1 from iL (iF (Below.refl _ _) _) hb1); have HBK := iD.mk (iM hb1 (iT rfl)); clear hb1; have HI0 := iD.mk (Bf.fresh w1); have HK0 := iD.mk ((Kp.refl w1.heap.size w1.heap.size w1).alloc (Nat.le_refl _) (.cells #[.slice none 0 0, .int .i64 0, .int .i8 0] 91)); obtain ⟨z0, z1, z2, z3, z4, z5, z6, z7, z8, z9, y0, y1, y2, y3, y4, y5, y6, y7, y8, y9⟩ := ten (jH (o := (.cells #[.slice none 0 0, .int .i64 0, .int .i8 0] 91)) HBK.out); clear y0 y1 y2 y3 y4 y5 y6 y7 y8 y9) | (go_at_call 49; refine (nV w1.heap.size w1.heap.size _ _ _ HI0.out HK0.out.1.size (by first | omega | (simp only [List.length_append, iR, List.length_nil, jD]; omega))).mono ?_; rintro e w2 ⟨rfl, hI, hK⟩; have HI1 := iD.mk hI; have HK1 := iD.mk (HK0.out.trans hK); clear hI hK z0 z1 z2 z3 z4 z5 z6 z7 z8 z9; obtain ⟨z0, z1, z2, z3, z4, z5, z6, z7, z8, z9, y0, y1, y2, y3, y4, y5, y6, y7, y8, y9⟩ := ten (iM HK1.out.1 HBK.out); clear y0 y1 y2 y3 y4 y5 y6 y7 y8 y9) | (go_at_call 50; refine (kZ w1.heap.size w1.heap.size _ _ _ HI1.out HK1.out.1.size (by first | omega | (simp only [List.length_append, iR, List.length_nil, jD]; omega))).mono ?_; rintro e w3 ⟨rfl, hI, hK⟩; have HI2 := iD.mk hI; have HK2 := iD.mk (HK1.out.trans hK); clear hI hK z0 z1 z2 z3 z4 z5 z6 z7 z8 z9; obtain ⟨z0, z1, z2, z3, z4, z5, z6, z7, z8, z9, y0, y1, y2, y3, y4, y5, y6, y7, y8, y9⟩ := ten (iM HK2.out.1 HBK.out); clear y0 y1 y2 y3 y4 y5 y6 y7 y8 y9) | (go_at_call 51; refine (uD w1.heap.size _ _ _ l3 w1 _ HI2.out HK2.out.1 (Kd.C_below H3.out HBW.out) (by first | omega | (simp only [List.length_append, iR, List.length_nil, jD]; omega))).mono ?_; rintro e w4 ⟨rfl, hI, hK⟩; have HI3 := iD.mk hI; have HK3 := iD.mk (HK2.out.trans hK); clear hI hK z0 z1 z2 z3 z4 z5 z6 z7 z8 z9; obtain ⟨z0, z1, z2, z3, z4, z5, z6, z7, z8, z9, y0, y1, y2, y3, y4, y5, y6, y7, y8, y9⟩ := ten (iM HK3.out.1 HBK.out); clear y0 y1 y2 y3 y4 y5 y6 y7 y8 y9) | (go_at_call 52; refine (xJ w1.heap.size _ _ _ l4 w1 _ HI3.out HK3.out.1 (Kd.C_below H4.out HBW.out) (by first | omega | (simp only [List.length_append, iR, List.length_nil, jD]; omega))).mono ?_; rintro e w5 ⟨rfl, hI, hK⟩; have HI4 := iD.mk hI; have HK4 := iD.mk (HK3.out.trans hK); clear hI hK z0 z1 z2 z3 z4 z5 z6 z7 z8 z9; obtain ⟨z0, z1, z2, z3, z4, z5, z6, z7, z8, z9, y0, y1, y2, y3, y4, y5, y6, y7, y8, y9⟩ := ten (iM HK4.out.1 HBK.out); clear y0 y1 y2 y3 y4 y5 y6 y7 y8 y9) | (go_at_call 55; refine (Tryd.Buffer_Len w1.heap.size w1.heap.size _ _ (HI4.out)).mono ?_; rintro e wl ⟨rfl, nl, rfl⟩; rw [Lib.byteCells_length, ← HLEN.out]))
    go_ret2
    exact ⟨_, rfl, Kd.R_nil _ _ _ _ _, by have hz := HBW.out; have hy := HK4.out.1; exact iG (iL hz hy) _⟩
  · rw [if_neg hbig]
    have hbigI : ¬ (60000 : Int) < (X.length : Int) := by omega
    clear hbig
    go_enter Tryd.func17, Tryd.ntmps17
    go_wp2_with (first | (go_at_call 19; refine (code_Sound.calls 1 a1 a2 A3 c3 l3 A4 c4 l4 a5 A6 c6 l6 a7 a8 A9 c9 l9 _ _ (Kd.C_below H3.out bel_) d3 (Kd.C_below H4.out bel_) d4 (Kd.C_below H6.out bel_) d6 (Kd.C_below H9.out bel_) d9 rfl).mono ?_; rintro e w1 ⟨rfl, hb1⟩; rw [HS.out]; have HBW := iD.mk (show Below w.heap.size w w1 from iL (iF (Below.refl _ _) _) hb1); have HBK := iD.mk (iM hb1 (iT rfl)); clear hb1; have HI0 := iD.mk (Bf.fresh w1); have HK0 := iD.mk ((Kp.refl w1.heap.size w1.heap.size w1).alloc (Nat.le_refl _) (.cells #[.slice none 0 0, .int .i64 0, .int .i8 0] 91)); obtain ⟨z0, z1, z2, z3, z4, z5, z6, z7, z8, z9, y0, y1, y2, y3, y4, y5, y6, y7, y8, y9⟩ := ten (jH (o := (.cells #[.slice none 0 0, .int .i64 0, .int .i8 0] 91)) HBK.out); clear y0 y1 y2 y3 y4 y5 y6 y7 y8 y9) | (go_at_call 49; refine (nV w1.heap.size w1.heap.size _ _ _ HI0.out HK0.out.1.size (by first | omega | (simp only [List.length_append, iR, List.length_nil, jD]; omega))).mono ?_; rintro e w2 ⟨rfl, hI, hK⟩; have HI1 := iD.mk hI; have HK1 := iD.mk (HK0.out.trans hK); clear hI hK z0 z1 z2 z3 z4 z5 z6 z7 z8 z9; obtain ⟨z0, z1, z2, z3, z4, z5, z6, z7, z8, z9, y0, y1, y2, y3, y4, y5, y6, y7, y8, y9⟩ := ten (iM HK1.out.1 HBK.out); clear y0 y1 y2 y3 y4 y5 y6 y7 y8 y9) | (go_at_call 50; refine (kZ w1.heap.size w1.heap.size _ _ _ HI1.out HK1.out.1.size (by first | omega | (simp only [List.length_append, iR, List.length_nil, jD]; omega))).mono ?_; rintro e w3 ⟨rfl, hI, hK⟩; have HI2 := iD.mk hI; have HK2 := iD.mk (HK1.out.trans hK); clear hI hK z0 z1 z2 z3 z4 z5 z6 z7 z8 z9; obtain ⟨z0, z1, z2, z3, z4, z5, z6, z7, z8, z9, y0, y1, y2, y3, y4, y5, y6, y7, y8, y9⟩ := ten (iM HK2.out.1 HBK.out); clear y0 y1 y2 y3 y4 y5 y6 y7 y8 y9) | (go_at_call 51; refine (uD w1.heap.size _ _ _ l3 w1 _ HI2.out HK2.out.1 (Kd.C_below H3.out HBW.out) (by first | omega | (simp only [List.length_append, iR, List.length_nil, jD]; omega))).mono ?_; rintro e w4 ⟨rfl, hI, hK⟩; have HI3 := iD.mk hI; have HK3 := iD.mk (HK2.out.trans hK); clear hI hK z0 z1 z2 z3 z4 z5 z6 z7 z8 z9; obtain ⟨z0, z1, z2, z3, z4, z5, z6, z7, z8, z9, y0, y1, y2, y3, y4, y5, y6, y7, y8, y9⟩ := ten (iM HK3.out.1 HBK.out); clear y0 y1 y2 y3 y4 y5 y6 y7 y8 y9) | (go_at_call 52; refine (xJ w1.heap.size _ _ _ l4 w1 _ HI3.out HK3.out.1 (Kd.C_below H4.out HBW.out) (by first | omega | (simp only [List.length_append, iR, List.length_nil, jD]; omega))).mono ?_; rintro e w5 ⟨rfl, hI, hK⟩; have HI4 := iD.mk hI; have HK4 := iD.mk (HK3.out.trans hK); clear hI hK z0 z1 z2 z3 z4 z5 z6 z7 z8 z9; obtain ⟨z0, z1, z2, z3, z4, z5, z6, z7, z8, z9, y0, y1, y2, y3, y4, y5, y6, y7, y8, y9⟩ := ten (iM HK4.out.1 HBK.out); clear y0 y1 y2 y3 y4 y5 y6 y7 y8 y9) | (go_at_call 55; refine (Tryd.Buffer_Len w1.heap.size w1.heap.size _ _ (HI4.out)).mono ?_; rintro e wl ⟨rfl, nl, rfl⟩; rw [Lib.byteCells_length, ← HLEN.out]) | (go_at_call 56; refine (Tryd.Buffer_Bytes w1.heap.size w1.heap.size _ _ (HI4.out.drewN _)).mono ?_; rintro e wb ⟨v, rfl, hv, nb, rfl⟩; have HV := iD.mk hv; clear hv))
    go_ret2
    exact ⟨_, rfl, by rw [HX.out, XL]; exact pF HV.out HBW.out.size, by have hz := HBW.out; have hy := HK4.out.1; exact iG (iL hz hy) _⟩
set_option maxHeartbeats 8000000 in
set_option maxRecDepth 20000 in
theorem TM (hs : jP ⟨2, a1, a2, l3, l4, ⟨a5, l6⟩, a7, a8, l9⟩ = true) : Calls Tryd.prog 17 #[.agg #[.int .u8 2, .int .u32 a1, .int .u32 a2, .slice A3 l3.length c3, .slice A4 l4.length c4, .int .u32 a5, .slice A6 l6.length c6, .int .i64 a7, .int .i64 a8, .slice A9 l9.length c9]] w (oW w (encR ⟨2, a1, a2, l3, l4, ⟨a5, l6⟩, a7, a8, l9⟩)) := by
  have H3 := iD.mk h3; have H4 := iD.mk h4; have H6 := iD.mk h6; have H9 := iD.mk h9
  clear h3 h4 h6 h9
  have HS := iD.mk hs
  have q3 : l3.length ≤ 6 := by
    have h := HS.out
    rw [V5, Bool.and_eq_true] at h
    exact uQ _ h.1
  unfold encR
  rw [if_pos HS.out]
  have hm3 := lC H3.out
  have hm6 := lC H6.out
  obtain ⟨X, hX⟩ : ∃ X : List UInt8, X = recE ⟨2, a1, a2, l3, l4, ⟨a5, l6⟩, a7, a8, l9⟩ := ⟨_, rfl⟩
  rw [← hX]
  have HX := iD.mk hX
  have HLEN := iD.mk (show X.length = _ from congrArg List.length (hX.trans (XI _ _ _ _ _ _ _ _ _)))
  clear hs hX
  by_cases hbig : 60000 < X.length
  · rw [if_pos hbig]
    have hbigI : (60000 : Int) < (X.length : Int) := by omega
    clear hbig
    go_enter Tryd.func17, Tryd.ntmps17
    go_wp2_with (first | (go_at_call 19; refine (code_Sound.calls 2 a1 a2 A3 c3 l3 A4 c4 l4 a5 A6 c6 l6 a7 a8 A9 c9 l9 _ _ (Kd.C_below H3.out bel_) d3 (Kd.C_below H4.out bel_) d4 (Kd.C_below H6.out bel_) d6 (Kd.C_below H9.out bel_) d9 rfl).mono ?_; rintro e w1 ⟨rfl, hb1⟩; rw [HS.out]; have HBW := iD.mk (show Below w.heap.size w w1 from iL (iF (Below.refl _ _) _) hb1); have HBK := iD.mk (iM hb1 (iT rfl)); clear hb1; have HI0 := iD.mk (Bf.fresh w1); have HK0 := iD.mk ((Kp.refl w1.heap.size w1.heap.size w1).alloc (Nat.le_refl _) (.cells #[.slice none 0 0, .int .i64 0, .int .i8 0] 91)); obtain ⟨z0, z1, z2, z3, z4, z5, z6, z7, z8, z9, y0, y1, y2, y3, y4, y5, y6, y7, y8, y9⟩ := ten (jH (o := (.cells #[.slice none 0 0, .int .i64 0, .int .i8 0] 91)) HBK.out); clear y0 y1 y2 y3 y4 y5 y6 y7 y8 y9) | (go_at_call 49; refine (nV w1.heap.size w1.heap.size _ _ _ HI0.out HK0.out.1.size (by first | omega | (simp only [List.length_append, iR, List.length_nil, jD]; omega))).mono ?_; rintro e w2 ⟨rfl, hI, hK⟩; have HI1 := iD.mk hI; have HK1 := iD.mk (HK0.out.trans hK); clear hI hK z0 z1 z2 z3 z4 z5 z6 z7 z8 z9; obtain ⟨z0, z1, z2, z3, z4, z5, z6, z7, z8, z9, y0, y1, y2, y3, y4, y5, y6, y7, y8, y9⟩ := ten (iM HK1.out.1 HBK.out); clear y0 y1 y2 y3 y4 y5 y6 y7 y8 y9) | (go_at_call 50; refine (kZ w1.heap.size w1.heap.size _ _ _ HI1.out HK1.out.1.size (by first | omega | (simp only [List.length_append, iR, List.length_nil, jD]; omega))).mono ?_; rintro e w3 ⟨rfl, hI, hK⟩; have HI2 := iD.mk hI; have HK2 := iD.mk (HK1.out.trans hK); clear hI hK z0 z1 z2 z3 z4 z5 z6 z7 z8 z9; obtain ⟨z0, z1, z2, z3, z4, z5, z6, z7, z8, z9, y0, y1, y2, y3, y4, y5, y6, y7, y8, y9⟩ := ten (iM HK2.out.1 HBK.out); clear y0 y1 y2 y3 y4 y5 y6 y7 y8 y9) | (go_at_call 50; refine (kZ w1.heap.size w1.heap.size _ _ _ HI2.out HK2.out.1.size (by first | omega | (simp only [List.length_append, iR, List.length_nil, jD]; omega))).mono ?_; rintro e w4 ⟨rfl, hI, hK⟩; have HI3 := iD.mk hI; have HK3 := iD.mk (HK2.out.trans hK); clear hI hK z0 z1 z2 z3 z4 z5 z6 z7 z8 z9; obtain ⟨z0, z1, z2, z3, z4, z5, z6, z7, z8, z9, y0, y1, y2, y3, y4, y5, y6, y7, y8, y9⟩ := ten (iM HK3.out.1 HBK.out); clear y0 y1 y2 y3 y4 y5 y6 y7 y8 y9) | (go_at_call 51; refine (uD w1.heap.size _ _ _ l3 w1 _ HI3.out HK3.out.1 (Kd.C_below H3.out HBW.out) (by first | omega | (simp only [List.length_append, iR, List.length_nil, jD]; omega))).mono ?_; rintro e w5 ⟨rfl, hI, hK⟩; have HI4 := iD.mk hI; have HK4 := iD.mk (HK3.out.trans hK); clear hI hK z0 z1 z2 z3 z4 z5 z6 z7 z8 z9; obtain ⟨z0, z1, z2, z3, z4, z5, z6, z7, z8, z9, y0, y1, y2, y3, y4, y5, y6, y7, y8, y9⟩ := ten (iM HK4.out.1 HBK.out); clear y0 y1 y2 y3 y4 y5 y6 y7 y8 y9) | (go_at_call 55; refine (Tryd.Buffer_Len w1.heap.size w1.heap.size _ _ (HI4.out)).mono ?_; rintro e wl ⟨rfl, nl, rfl⟩; rw [Lib.byteCells_length, ← HLEN.out]))
    go_ret2
    exact ⟨_, rfl, Kd.R_nil _ _ _ _ _, by have hz := HBW.out; have hy := HK4.out.1; exact iG (iL hz hy) _⟩
  · rw [if_neg hbig]
    have hbigI : ¬ (60000 : Int) < (X.length : Int) := by omega
    clear hbig
    go_enter Tryd.func17, Tryd.ntmps17
    go_wp2_with (first | (go_at_call 19; refine (code_Sound.calls 2 a1 a2 A3 c3 l3 A4 c4 l4 a5 A6 c6 l6 a7 a8 A9 c9 l9 _ _ (Kd.C_below H3.out bel_) d3 (Kd.C_below H4.out bel_) d4 (Kd.C_below H6.out bel_) d6 (Kd.C_below H9.out bel_) d9 rfl).mono ?_; rintro e w1 ⟨rfl, hb1⟩; rw [HS.out]; have HBW := iD.mk (show Below w.heap.size w w1 from iL (iF (Below.refl _ _) _) hb1); have HBK := iD.mk (iM hb1 (iT rfl)); clear hb1; have HI0 := iD.mk (Bf.fresh w1); have HK0 := iD.mk ((Kp.refl w1.heap.size w1.heap.size w1).alloc (Nat.le_refl _) (.cells #[.slice none 0 0, .int .i64 0, .int .i8 0] 91)); obtain ⟨z0, z1, z2, z3, z4, z5, z6, z7, z8, z9, y0, y1, y2, y3, y4, y5, y6, y7, y8, y9⟩ := ten (jH (o := (.cells #[.slice none 0 0, .int .i64 0, .int .i8 0] 91)) HBK.out); clear y0 y1 y2 y3 y4 y5 y6 y7 y8 y9) | (go_at_call 49; refine (nV w1.heap.size w1.heap.size _ _ _ HI0.out HK0.out.1.size (by first | omega | (simp only [List.length_append, iR, List.length_nil, jD]; omega))).mono ?_; rintro e w2 ⟨rfl, hI, hK⟩; have HI1 := iD.mk hI; have HK1 := iD.mk (HK0.out.trans hK); clear hI hK z0 z1 z2 z3 z4 z5 z6 z7 z8 z9; obtain ⟨z0, z1, z2, z3, z4, z5, z6, z7, z8, z9, y0, y1, y2, y3, y4, y5, y6, y7, y8, y9⟩ := ten (iM HK1.out.1 HBK.out); clear y0 y1 y2 y3 y4 y5 y6 y7 y8 y9) | (go_at_call 50; refine (kZ w1.heap.size w1.heap.size _ _ _ HI1.out HK1.out.1.size (by first | omega | (simp only [List.length_append, iR, List.length_nil, jD]; omega))).mono ?_; rintro e w3 ⟨rfl, hI, hK⟩; have HI2 := iD.mk hI; have HK2 := iD.mk (HK1.out.trans hK); clear hI hK z0 z1 z2 z3 z4 z5 z6 z7 z8 z9; obtain ⟨z0, z1, z2, z3, z4, z5, z6, z7, z8, z9, y0, y1, y2, y3, y4, y5, y6, y7, y8, y9⟩ := ten (iM HK2.out.1 HBK.out); clear y0 y1 y2 y3 y4 y5 y6 y7 y8 y9) | (go_at_call 50; refine (kZ w1.heap.size w1.heap.size _ _ _ HI2.out HK2.out.1.size (by first | omega | (simp only [List.length_append, iR, List.length_nil, jD]; omega))).mono ?_; rintro e w4 ⟨rfl, hI, hK⟩; have HI3 := iD.mk hI; have HK3 := iD.mk (HK2.out.trans hK); clear hI hK z0 z1 z2 z3 z4 z5 z6 z7 z8 z9; obtain ⟨z0, z1, z2, z3, z4, z5, z6, z7, z8, z9, y0, y1, y2, y3, y4, y5, y6, y7, y8, y9⟩ := ten (iM HK3.out.1 HBK.out); clear y0 y1 y2 y3 y4 y5 y6 y7 y8 y9) | (go_at_call 51; refine (uD w1.heap.size _ _ _ l3 w1 _ HI3.out HK3.out.1 (Kd.C_below H3.out HBW.out) (by first | omega | (simp only [List.length_append, iR, List.length_nil, jD]; omega))).mono ?_; rintro e w5 ⟨rfl, hI, hK⟩; have HI4 := iD.mk hI; have HK4 := iD.mk (HK3.out.trans hK); clear hI hK z0 z1 z2 z3 z4 z5 z6 z7 z8 z9; obtain ⟨z0, z1, z2, z3, z4, z5, z6, z7, z8, z9, y0, y1, y2, y3, y4, y5, y6, y7, y8, y9⟩ := ten (iM HK4.out.1 HBK.out); clear y0 y1 y2 y3 y4 y5 y6 y7 y8 y9) | (go_at_call 55; refine (Tryd.Buffer_Len w1.heap.size w1.heap.size _ _ (HI4.out)).mono ?_; rintro e wl ⟨rfl, nl, rfl⟩; rw [Lib.byteCells_length, ← HLEN.out]) | (go_at_call 56; refine (Tryd.Buffer_Bytes w1.heap.size w1.heap.size _ _ (HI4.out.drewN _)).mono ?_; rintro e wb ⟨v, rfl, hv, nb, rfl⟩; have HV := iD.mk hv; clear hv))
    go_ret2
    exact ⟨_, rfl, by rw [HX.out, XI]; exact pF HV.out HBW.out.size, by have hz := HBW.out; have hy := HK4.out.1; exact iG (iL hz hy) _⟩
set_option maxHeartbeats 8000000 in
set_option maxRecDepth 20000 in
theorem UF (hs : jP ⟨3, a1, a2, l3, l4, ⟨a5, l6⟩, a7, a8, l9⟩ = true) : Calls Tryd.prog 17 #[.agg #[.int .u8 3, .int .u32 a1, .int .u32 a2, .slice A3 l3.length c3, .slice A4 l4.length c4, .int .u32 a5, .slice A6 l6.length c6, .int .i64 a7, .int .i64 a8, .slice A9 l9.length c9]] w (oW w (encR ⟨3, a1, a2, l3, l4, ⟨a5, l6⟩, a7, a8, l9⟩)) := by
  have H3 := iD.mk h3; have H4 := iD.mk h4; have H6 := iD.mk h6; have H9 := iD.mk h9
  clear h3 h4 h6 h9
  have HS := iD.mk hs
  unfold encR
  rw [if_pos HS.out]
  have hm3 := lC H3.out
  have hm6 := lC H6.out
  obtain ⟨X, hX⟩ : ∃ X : List UInt8, X = recE ⟨3, a1, a2, l3, l4, ⟨a5, l6⟩, a7, a8, l9⟩ := ⟨_, rfl⟩
  rw [← hX]
  have HX := iD.mk hX
  have HLEN := iD.mk (show X.length = _ from congrArg List.length (hX.trans (X7 _ _ _ _ _ _ _ _ _)))
  clear hs hX
  by_cases hbig : 60000 < X.length
  · rw [if_pos hbig]
    have hbigI : (60000 : Int) < (X.length : Int) := by omega
    clear hbig
    go_enter Tryd.func17, Tryd.ntmps17
    go_wp2_with (first | (go_at_call 19; refine (code_Sound.calls 3 a1 a2 A3 c3 l3 A4 c4 l4 a5 A6 c6 l6 a7 a8 A9 c9 l9 _ _ (Kd.C_below H3.out bel_) d3 (Kd.C_below H4.out bel_) d4 (Kd.C_below H6.out bel_) d6 (Kd.C_below H9.out bel_) d9 rfl).mono ?_; rintro e w1 ⟨rfl, hb1⟩; rw [HS.out]; have HBW := iD.mk (show Below w.heap.size w w1 from iL (iF (Below.refl _ _) _) hb1); have HBK := iD.mk (iM hb1 (iT rfl)); clear hb1; have HI0 := iD.mk (Bf.fresh w1); have HK0 := iD.mk ((Kp.refl w1.heap.size w1.heap.size w1).alloc (Nat.le_refl _) (.cells #[.slice none 0 0, .int .i64 0, .int .i8 0] 91)); obtain ⟨z0, z1, z2, z3, z4, z5, z6, z7, z8, z9, y0, y1, y2, y3, y4, y5, y6, y7, y8, y9⟩ := ten (jH (o := (.cells #[.slice none 0 0, .int .i64 0, .int .i8 0] 91)) HBK.out); clear y0 y1 y2 y3 y4 y5 y6 y7 y8 y9) | (go_at_call 49; refine (nV w1.heap.size w1.heap.size _ _ _ HI0.out HK0.out.1.size (by first | omega | (simp only [List.length_append, iR, List.length_nil, jD]; omega))).mono ?_; rintro e w2 ⟨rfl, hI, hK⟩; have HI1 := iD.mk hI; have HK1 := iD.mk (HK0.out.trans hK); clear hI hK z0 z1 z2 z3 z4 z5 z6 z7 z8 z9; obtain ⟨z0, z1, z2, z3, z4, z5, z6, z7, z8, z9, y0, y1, y2, y3, y4, y5, y6, y7, y8, y9⟩ := ten (iM HK1.out.1 HBK.out); clear y0 y1 y2 y3 y4 y5 y6 y7 y8 y9) | (go_at_call 50; refine (kZ w1.heap.size w1.heap.size _ _ _ HI1.out HK1.out.1.size (by first | omega | (simp only [List.length_append, iR, List.length_nil, jD]; omega))).mono ?_; rintro e w3 ⟨rfl, hI, hK⟩; have HI2 := iD.mk hI; have HK2 := iD.mk (HK1.out.trans hK); clear hI hK z0 z1 z2 z3 z4 z5 z6 z7 z8 z9; obtain ⟨z0, z1, z2, z3, z4, z5, z6, z7, z8, z9, y0, y1, y2, y3, y4, y5, y6, y7, y8, y9⟩ := ten (iM HK2.out.1 HBK.out); clear y0 y1 y2 y3 y4 y5 y6 y7 y8 y9) | (go_at_call 55; refine (Tryd.Buffer_Len w1.heap.size w1.heap.size _ _ (HI2.out)).mono ?_; rintro e wl ⟨rfl, nl, rfl⟩; rw [Lib.byteCells_length, ← HLEN.out]))
    go_ret2
    exact ⟨_, rfl, Kd.R_nil _ _ _ _ _, by have hz := HBW.out; have hy := HK2.out.1; exact iG (iL hz hy) _⟩
  · rw [if_neg hbig]
    have hbigI : ¬ (60000 : Int) < (X.length : Int) := by omega
    clear hbig
    go_enter Tryd.func17, Tryd.ntmps17
    go_wp2_with (first | (go_at_call 19; refine (code_Sound.calls 3 a1 a2 A3 c3 l3 A4 c4 l4 a5 A6 c6 l6 a7 a8 A9 c9 l9 _ _ (Kd.C_below H3.out bel_) d3 (Kd.C_below H4.out bel_) d4 (Kd.C_below H6.out bel_) d6 (Kd.C_below H9.out bel_) d9 rfl).mono ?_; rintro e w1 ⟨rfl, hb1⟩; rw [HS.out]; have HBW := iD.mk (show Below w.heap.size w w1 from iL (iF (Below.refl _ _) _) hb1); have HBK := iD.mk (iM hb1 (iT rfl)); clear hb1; have HI0 := iD.mk (Bf.fresh w1); have HK0 := iD.mk ((Kp.refl w1.heap.size w1.heap.size w1).alloc (Nat.le_refl _) (.cells #[.slice none 0 0, .int .i64 0, .int .i8 0] 91)); obtain ⟨z0, z1, z2, z3, z4, z5, z6, z7, z8, z9, y0, y1, y2, y3, y4, y5, y6, y7, y8, y9⟩ := ten (jH (o := (.cells #[.slice none 0 0, .int .i64 0, .int .i8 0] 91)) HBK.out); clear y0 y1 y2 y3 y4 y5 y6 y7 y8 y9) | (go_at_call 49; refine (nV w1.heap.size w1.heap.size _ _ _ HI0.out HK0.out.1.size (by first | omega | (simp only [List.length_append, iR, List.length_nil, jD]; omega))).mono ?_; rintro e w2 ⟨rfl, hI, hK⟩; have HI1 := iD.mk hI; have HK1 := iD.mk (HK0.out.trans hK); clear hI hK z0 z1 z2 z3 z4 z5 z6 z7 z8 z9; obtain ⟨z0, z1, z2, z3, z4, z5, z6, z7, z8, z9, y0, y1, y2, y3, y4, y5, y6, y7, y8, y9⟩ := ten (iM HK1.out.1 HBK.out); clear y0 y1 y2 y3 y4 y5 y6 y7 y8 y9) | (go_at_call 50; refine (kZ w1.heap.size w1.heap.size _ _ _ HI1.out HK1.out.1.size (by first | omega | (simp only [List.length_append, iR, List.length_nil, jD]; omega))).mono ?_; rintro e w3 ⟨rfl, hI, hK⟩; have HI2 := iD.mk hI; have HK2 := iD.mk (HK1.out.trans hK); clear hI hK z0 z1 z2 z3 z4 z5 z6 z7 z8 z9; obtain ⟨z0, z1, z2, z3, z4, z5, z6, z7, z8, z9, y0, y1, y2, y3, y4, y5, y6, y7, y8, y9⟩ := ten (iM HK2.out.1 HBK.out); clear y0 y1 y2 y3 y4 y5 y6 y7 y8 y9) | (go_at_call 55; refine (Tryd.Buffer_Len w1.heap.size w1.heap.size _ _ (HI2.out)).mono ?_; rintro e wl ⟨rfl, nl, rfl⟩; rw [Lib.byteCells_length, ← HLEN.out]) | (go_at_call 56; refine (Tryd.Buffer_Bytes w1.heap.size w1.heap.size _ _ (HI2.out.drewN _)).mono ?_; rintro e wb ⟨v, rfl, hv, nb, rfl⟩; have HV := iD.mk hv; clear hv))
    go_ret2
    exact ⟨_, rfl, by rw [HX.out, X7]; exact pF HV.out HBW.out.size, by have hz := HBW.out; have hy := HK2.out.1; exact iG (iL hz hy) _⟩
set_option maxHeartbeats 8000000 in
set_option maxRecDepth 20000 in
theorem UT (hs : jP ⟨4, a1, a2, l3, l4, ⟨a5, l6⟩, a7, a8, l9⟩ = true) : Calls Tryd.prog 17 #[.agg #[.int .u8 4, .int .u32 a1, .int .u32 a2, .slice A3 l3.length c3, .slice A4 l4.length c4, .int .u32 a5, .slice A6 l6.length c6, .int .i64 a7, .int .i64 a8, .slice A9 l9.length c9]] w (oW w (encR ⟨4, a1, a2, l3, l4, ⟨a5, l6⟩, a7, a8, l9⟩)) := by
  have H3 := iD.mk h3; have H4 := iD.mk h4; have H6 := iD.mk h6; have H9 := iD.mk h9
  clear h3 h4 h6 h9
  have HS := iD.mk hs
  unfold encR
  rw [if_pos HS.out]
  have hm3 := lC H3.out
  have hm6 := lC H6.out
  obtain ⟨X, hX⟩ : ∃ X : List UInt8, X = recE ⟨4, a1, a2, l3, l4, ⟨a5, l6⟩, a7, a8, l9⟩ := ⟨_, rfl⟩
  rw [← hX]
  have HX := iD.mk hX
  have HLEN := iD.mk (show X.length = _ from congrArg List.length (hX.trans (XG _ _ _ _ _ _ _ _ _)))
  clear hs hX
  by_cases hbig : 60000 < X.length
  · rw [if_pos hbig]
    have hbigI : (60000 : Int) < (X.length : Int) := by omega
    clear hbig
    go_enter Tryd.func17, Tryd.ntmps17
    go_wp2_with (first | (go_at_call 19; refine (code_Sound.calls 4 a1 a2 A3 c3 l3 A4 c4 l4 a5 A6 c6 l6 a7 a8 A9 c9 l9 _ _ (Kd.C_below H3.out bel_) d3 (Kd.C_below H4.out bel_) d4 (Kd.C_below H6.out bel_) d6 (Kd.C_below H9.out bel_) d9 rfl).mono ?_; rintro e w1 ⟨rfl, hb1⟩; rw [HS.out]; have HBW := iD.mk (show Below w.heap.size w w1 from iL (iF (Below.refl _ _) _) hb1); have HBK := iD.mk (iM hb1 (iT rfl)); clear hb1; have HI0 := iD.mk (Bf.fresh w1); have HK0 := iD.mk ((Kp.refl w1.heap.size w1.heap.size w1).alloc (Nat.le_refl _) (.cells #[.slice none 0 0, .int .i64 0, .int .i8 0] 91)); obtain ⟨z0, z1, z2, z3, z4, z5, z6, z7, z8, z9, y0, y1, y2, y3, y4, y5, y6, y7, y8, y9⟩ := ten (jH (o := (.cells #[.slice none 0 0, .int .i64 0, .int .i8 0] 91)) HBK.out); clear y0 y1 y2 y3 y4 y5 y6 y7 y8 y9) | (go_at_call 49; refine (nV w1.heap.size w1.heap.size _ _ _ HI0.out HK0.out.1.size (by first | omega | (simp only [List.length_append, iR, List.length_nil, jD]; omega))).mono ?_; rintro e w2 ⟨rfl, hI, hK⟩; have HI1 := iD.mk hI; have HK1 := iD.mk (HK0.out.trans hK); clear hI hK z0 z1 z2 z3 z4 z5 z6 z7 z8 z9; obtain ⟨z0, z1, z2, z3, z4, z5, z6, z7, z8, z9, y0, y1, y2, y3, y4, y5, y6, y7, y8, y9⟩ := ten (iM HK1.out.1 HBK.out); clear y0 y1 y2 y3 y4 y5 y6 y7 y8 y9) | (go_at_call 50; refine (kZ w1.heap.size w1.heap.size _ _ _ HI1.out HK1.out.1.size (by first | omega | (simp only [List.length_append, iR, List.length_nil, jD]; omega))).mono ?_; rintro e w3 ⟨rfl, hI, hK⟩; have HI2 := iD.mk hI; have HK2 := iD.mk (HK1.out.trans hK); clear hI hK z0 z1 z2 z3 z4 z5 z6 z7 z8 z9; obtain ⟨z0, z1, z2, z3, z4, z5, z6, z7, z8, z9, y0, y1, y2, y3, y4, y5, y6, y7, y8, y9⟩ := ten (iM HK2.out.1 HBK.out); clear y0 y1 y2 y3 y4 y5 y6 y7 y8 y9) | (go_at_call 55; refine (Tryd.Buffer_Len w1.heap.size w1.heap.size _ _ (HI2.out)).mono ?_; rintro e wl ⟨rfl, nl, rfl⟩; rw [Lib.byteCells_length, ← HLEN.out]))
    go_ret2
    exact ⟨_, rfl, Kd.R_nil _ _ _ _ _, by have hz := HBW.out; have hy := HK2.out.1; exact iG (iL hz hy) _⟩
  · rw [if_neg hbig]
    have hbigI : ¬ (60000 : Int) < (X.length : Int) := by omega
    clear hbig
    go_enter Tryd.func17, Tryd.ntmps17
    go_wp2_with (first | (go_at_call 19; refine (code_Sound.calls 4 a1 a2 A3 c3 l3 A4 c4 l4 a5 A6 c6 l6 a7 a8 A9 c9 l9 _ _ (Kd.C_below H3.out bel_) d3 (Kd.C_below H4.out bel_) d4 (Kd.C_below H6.out bel_) d6 (Kd.C_below H9.out bel_) d9 rfl).mono ?_; rintro e w1 ⟨rfl, hb1⟩; rw [HS.out]; have HBW := iD.mk (show Below w.heap.size w w1 from iL (iF (Below.refl _ _) _) hb1); have HBK := iD.mk (iM hb1 (iT rfl)); clear hb1; have HI0 := iD.mk (Bf.fresh w1); have HK0 := iD.mk ((Kp.refl w1.heap.size w1.heap.size w1).alloc (Nat.le_refl _) (.cells #[.slice none 0 0, .int .i64 0, .int .i8 0] 91)); obtain ⟨z0, z1, z2, z3, z4, z5, z6, z7, z8, z9, y0, y1, y2, y3, y4, y5, y6, y7, y8, y9⟩ := ten (jH (o := (.cells #[.slice none 0 0, .int .i64 0, .int .i8 0] 91)) HBK.out); clear y0 y1 y2 y3 y4 y5 y6 y7 y8 y9) | (go_at_call 49; refine (nV w1.heap.size w1.heap.size _ _ _ HI0.out HK0.out.1.size (by first | omega | (simp only [List.length_append, iR, List.length_nil, jD]; omega))).mono ?_; rintro e w2 ⟨rfl, hI, hK⟩; have HI1 := iD.mk hI; have HK1 := iD.mk (HK0.out.trans hK); clear hI hK z0 z1 z2 z3 z4 z5 z6 z7 z8 z9; obtain ⟨z0, z1, z2, z3, z4, z5, z6, z7, z8, z9, y0, y1, y2, y3, y4, y5, y6, y7, y8, y9⟩ := ten (iM HK1.out.1 HBK.out); clear y0 y1 y2 y3 y4 y5 y6 y7 y8 y9) | (go_at_call 50; refine (kZ w1.heap.size w1.heap.size _ _ _ HI1.out HK1.out.1.size (by first | omega | (simp only [List.length_append, iR, List.length_nil, jD]; omega))).mono ?_; rintro e w3 ⟨rfl, hI, hK⟩; have HI2 := iD.mk hI; have HK2 := iD.mk (HK1.out.trans hK); clear hI hK z0 z1 z2 z3 z4 z5 z6 z7 z8 z9; obtain ⟨z0, z1, z2, z3, z4, z5, z6, z7, z8, z9, y0, y1, y2, y3, y4, y5, y6, y7, y8, y9⟩ := ten (iM HK2.out.1 HBK.out); clear y0 y1 y2 y3 y4 y5 y6 y7 y8 y9) | (go_at_call 55; refine (Tryd.Buffer_Len w1.heap.size w1.heap.size _ _ (HI2.out)).mono ?_; rintro e wl ⟨rfl, nl, rfl⟩; rw [Lib.byteCells_length, ← HLEN.out]) | (go_at_call 56; refine (Tryd.Buffer_Bytes w1.heap.size w1.heap.size _ _ (HI2.out.drewN _)).mono ?_; rintro e wb ⟨v, rfl, hv, nb, rfl⟩; have HV := iD.mk hv; clear hv))
    go_ret2
    exact ⟨_, rfl, by rw [HX.out, XG]; exact pF HV.out HBW.out.size, by have hz := HBW.out; have hy := HK2.out.1; exact iG (iL hz hy) _⟩
set_option maxHeartbeats 8000000 in
set_option maxRecDepth 20000 in
theorem UH (hs : jP ⟨5, a1, a2, l3, l4, ⟨a5, l6⟩, a7, a8, l9⟩ = true) : Calls Tryd.prog 17 #[.agg #[.int .u8 5, .int .u32 a1, .int .u32 a2, .slice A3 l3.length c3, .slice A4 l4.length c4, .int .u32 a5, .slice A6 l6.length c6, .int .i64 a7, .int .i64 a8, .slice A9 l9.length c9]] w (oW w (encR ⟨5, a1, a2, l3, l4, ⟨a5, l6⟩, a7, a8, l9⟩)) := by
  have H3 := iD.mk h3; have H4 := iD.mk h4; have H6 := iD.mk h6; have H9 := iD.mk h9
  clear h3 h4 h6 h9
  have HS := iD.mk hs
  unfold encR
  rw [if_pos HS.out]
  have hm3 := lC H3.out
  have hm6 := lC H6.out
  obtain ⟨X, hX⟩ : ∃ X : List UInt8, X = recE ⟨5, a1, a2, l3, l4, ⟨a5, l6⟩, a7, a8, l9⟩ := ⟨_, rfl⟩
  rw [← hX]
  have HX := iD.mk hX
  have HLEN := iD.mk (show X.length = _ from congrArg List.length (hX.trans (WI _ _ _ _ _ _ _ _ _)))
  clear hs hX
  by_cases hbig : 60000 < X.length
  · rw [if_pos hbig]
    have hbigI : (60000 : Int) < (X.length : Int) := by omega
    clear hbig
    go_enter Tryd.func17, Tryd.ntmps17
    go_wp2_with (first | (go_at_call 19; refine (code_Sound.calls 5 a1 a2 A3 c3 l3 A4 c4 l4 a5 A6 c6 l6 a7 a8 A9 c9 l9 _ _ (Kd.C_below H3.out bel_) d3 (Kd.C_below H4.out bel_) d4 (Kd.C_below H6.out bel_) d6 (Kd.C_below H9.out bel_) d9 rfl).mono ?_; rintro e w1 ⟨rfl, hb1⟩; rw [HS.out]; have HBW := iD.mk (show Below w.heap.size w w1 from iL (iF (Below.refl _ _) _) hb1); have HBK := iD.mk (iM hb1 (iT rfl)); clear hb1; have HI0 := iD.mk (Bf.fresh w1); have HK0 := iD.mk ((Kp.refl w1.heap.size w1.heap.size w1).alloc (Nat.le_refl _) (.cells #[.slice none 0 0, .int .i64 0, .int .i8 0] 91)); obtain ⟨z0, z1, z2, z3, z4, z5, z6, z7, z8, z9, y0, y1, y2, y3, y4, y5, y6, y7, y8, y9⟩ := ten (jH (o := (.cells #[.slice none 0 0, .int .i64 0, .int .i8 0] 91)) HBK.out); clear y0 y1 y2 y3 y4 y5 y6 y7 y8 y9) | (go_at_call 49; refine (nV w1.heap.size w1.heap.size _ _ _ HI0.out HK0.out.1.size (by first | omega | (simp only [List.length_append, iR, List.length_nil, jD]; omega))).mono ?_; rintro e w2 ⟨rfl, hI, hK⟩; have HI1 := iD.mk hI; have HK1 := iD.mk (HK0.out.trans hK); clear hI hK z0 z1 z2 z3 z4 z5 z6 z7 z8 z9; obtain ⟨z0, z1, z2, z3, z4, z5, z6, z7, z8, z9, y0, y1, y2, y3, y4, y5, y6, y7, y8, y9⟩ := ten (iM HK1.out.1 HBK.out); clear y0 y1 y2 y3 y4 y5 y6 y7 y8 y9) | (go_at_call 50; refine (kZ w1.heap.size w1.heap.size _ _ _ HI1.out HK1.out.1.size (by first | omega | (simp only [List.length_append, iR, List.length_nil, jD]; omega))).mono ?_; rintro e w3 ⟨rfl, hI, hK⟩; have HI2 := iD.mk hI; have HK2 := iD.mk (HK1.out.trans hK); clear hI hK z0 z1 z2 z3 z4 z5 z6 z7 z8 z9; obtain ⟨z0, z1, z2, z3, z4, z5, z6, z7, z8, z9, y0, y1, y2, y3, y4, y5, y6, y7, y8, y9⟩ := ten (iM HK2.out.1 HBK.out); clear y0 y1 y2 y3 y4 y5 y6 y7 y8 y9) | (go_at_call 55; refine (Tryd.Buffer_Len w1.heap.size w1.heap.size _ _ (HI2.out)).mono ?_; rintro e wl ⟨rfl, nl, rfl⟩; rw [Lib.byteCells_length, ← HLEN.out]))
    go_ret2
    exact ⟨_, rfl, Kd.R_nil _ _ _ _ _, by have hz := HBW.out; have hy := HK2.out.1; exact iG (iL hz hy) _⟩
  · rw [if_neg hbig]
    have hbigI : ¬ (60000 : Int) < (X.length : Int) := by omega
    clear hbig
    go_enter Tryd.func17, Tryd.ntmps17
    go_wp2_with (first | (go_at_call 19; refine (code_Sound.calls 5 a1 a2 A3 c3 l3 A4 c4 l4 a5 A6 c6 l6 a7 a8 A9 c9 l9 _ _ (Kd.C_below H3.out bel_) d3 (Kd.C_below H4.out bel_) d4 (Kd.C_below H6.out bel_) d6 (Kd.C_below H9.out bel_) d9 rfl).mono ?_; rintro e w1 ⟨rfl, hb1⟩; rw [HS.out]; have HBW := iD.mk (show Below w.heap.size w w1 from iL (iF (Below.refl _ _) _) hb1); have HBK := iD.mk (iM hb1 (iT rfl)); clear hb1; have HI0 := iD.mk (Bf.fresh w1); have HK0 := iD.mk ((Kp.refl w1.heap.size w1.heap.size w1).alloc (Nat.le_refl _) (.cells #[.slice none 0 0, .int .i64 0, .int .i8 0] 91)); obtain ⟨z0, z1, z2, z3, z4, z5, z6, z7, z8, z9, y0, y1, y2, y3, y4, y5, y6, y7, y8, y9⟩ := ten (jH (o := (.cells #[.slice none 0 0, .int .i64 0, .int .i8 0] 91)) HBK.out); clear y0 y1 y2 y3 y4 y5 y6 y7 y8 y9) | (go_at_call 49; refine (nV w1.heap.size w1.heap.size _ _ _ HI0.out HK0.out.1.size (by first | omega | (simp only [List.length_append, iR, List.length_nil, jD]; omega))).mono ?_; rintro e w2 ⟨rfl, hI, hK⟩; have HI1 := iD.mk hI; have HK1 := iD.mk (HK0.out.trans hK); clear hI hK z0 z1 z2 z3 z4 z5 z6 z7 z8 z9; obtain ⟨z0, z1, z2, z3, z4, z5, z6, z7, z8, z9, y0, y1, y2, y3, y4, y5, y6, y7, y8, y9⟩ := ten (iM HK1.out.1 HBK.out); clear y0 y1 y2 y3 y4 y5 y6 y7 y8 y9) | (go_at_call 50; refine (kZ w1.heap.size w1.heap.size _ _ _ HI1.out HK1.out.1.size (by first | omega | (simp only [List.length_append, iR, List.length_nil, jD]; omega))).mono ?_; rintro e w3 ⟨rfl, hI, hK⟩; have HI2 := iD.mk hI; have HK2 := iD.mk (HK1.out.trans hK); clear hI hK z0 z1 z2 z3 z4 z5 z6 z7 z8 z9; obtain ⟨z0, z1, z2, z3, z4, z5, z6, z7, z8, z9, y0, y1, y2, y3, y4, y5, y6, y7, y8, y9⟩ := ten (iM HK2.out.1 HBK.out); clear y0 y1 y2 y3 y4 y5 y6 y7 y8 y9) | (go_at_call 55; refine (Tryd.Buffer_Len w1.heap.size w1.heap.size _ _ (HI2.out)).mono ?_; rintro e wl ⟨rfl, nl, rfl⟩; rw [Lib.byteCells_length, ← HLEN.out]) | (go_at_call 56; refine (Tryd.Buffer_Bytes w1.heap.size w1.heap.size _ _ (HI2.out.drewN _)).mono ?_; rintro e wb ⟨v, rfl, hv, nb, rfl⟩; have HV := iD.mk hv; clear hv))
    go_ret2
    exact ⟨_, rfl, by rw [HX.out, WI]; exact pF HV.out HBW.out.size, by have hz := HBW.out; have hy := HK2.out.1; exact iG (iL hz hy) _⟩
set_option maxHeartbeats 8000000 in
set_option maxRecDepth 20000 in
theorem UC (hs : jP ⟨7, a1, a2, l3, l4, ⟨a5, l6⟩, a7, a8, l9⟩ = true) : Calls Tryd.prog 17 #[.agg #[.int .u8 7, .int .u32 a1, .int .u32 a2, .slice A3 l3.length c3, .slice A4 l4.length c4, .int .u32 a5, .slice A6 l6.length c6, .int .i64 a7, .int .i64 a8, .slice A9 l9.length c9]] w (oW w (encR ⟨7, a1, a2, l3, l4, ⟨a5, l6⟩, a7, a8, l9⟩)) := by
  have H3 := iD.mk h3; have H4 := iD.mk h4; have H6 := iD.mk h6; have H9 := iD.mk h9
  clear h3 h4 h6 h9
  have HS := iD.mk hs
  have q9 : (jT l9).length ≤ 25040004 := by
    have h := HS.out
    rw [RJ, Bool.and_eq_true, Bool.and_eq_true, Bool.and_eq_true, Bool.and_eq_true, Bool.and_eq_true, Bool.and_eq_true] at h
    exact xW _ h.1.1.1.1.1.1 (by have := of_decide_eq_true h.1.1.1.1.1.2; omega)
  unfold encR
  rw [if_pos HS.out]
  have hm3 := lC H3.out
  have hm6 := lC H6.out
  obtain ⟨X, hX⟩ : ∃ X : List UInt8, X = recE ⟨7, a1, a2, l3, l4, ⟨a5, l6⟩, a7, a8, l9⟩ := ⟨_, rfl⟩
  rw [← hX]
  have HX := iD.mk hX
  have HLEN := iD.mk (show X.length = _ from congrArg List.length (hX.trans (XH _ _ _ _ _ _ _ _ _)))
  clear hs hX
  by_cases hbig : 60000 < X.length
  · rw [if_pos hbig]
    have hbigI : (60000 : Int) < (X.length : Int) := by omega
    clear hbig
    go_enter Tryd.func17, Tryd.ntmps17
    go_wp2_with (first | (go_at_call 19; refine (code_Sound.calls 7 a1 a2 A3 c3 l3 A4 c4 l4 a5 A6 c6 l6 a7 a8 A9 c9 l9 _ _ (Kd.C_below H3.out bel_) d3 (Kd.C_below H4.out bel_) d4 (Kd.C_below H6.out bel_) d6 (Kd.C_below H9.out bel_) d9 rfl).mono ?_; rintro e w1 ⟨rfl, hb1⟩; rw [HS.out]; have HBW := iD.mk (show Below w.heap.size w w1 from iL (iF (Below.refl _ _) _) hb1); have HBK := iD.mk (iM hb1 (iT rfl)); clear hb1; have HI0 := iD.mk (Bf.fresh w1); have HK0 := iD.mk ((Kp.refl w1.heap.size w1.heap.size w1).alloc (Nat.le_refl _) (.cells #[.slice none 0 0, .int .i64 0, .int .i8 0] 91)); obtain ⟨z0, z1, z2, z3, z4, z5, z6, z7, z8, z9, y0, y1, y2, y3, y4, y5, y6, y7, y8, y9⟩ := ten (jH (o := (.cells #[.slice none 0 0, .int .i64 0, .int .i8 0] 91)) HBK.out); clear y0 y1 y2 y3 y4 y5 y6 y7 y8 y9) | (go_at_call 49; refine (nV w1.heap.size w1.heap.size _ _ _ HI0.out HK0.out.1.size (by first | omega | (simp only [List.length_append, iR, List.length_nil, jD]; omega))).mono ?_; rintro e w2 ⟨rfl, hI, hK⟩; have HI1 := iD.mk hI; have HK1 := iD.mk (HK0.out.trans hK); clear hI hK z0 z1 z2 z3 z4 z5 z6 z7 z8 z9; obtain ⟨z0, z1, z2, z3, z4, z5, z6, z7, z8, z9, y0, y1, y2, y3, y4, y5, y6, y7, y8, y9⟩ := ten (iM HK1.out.1 HBK.out); clear y0 y1 y2 y3 y4 y5 y6 y7 y8 y9) | (go_at_call 50; refine (kZ w1.heap.size w1.heap.size _ _ _ HI1.out HK1.out.1.size (by first | omega | (simp only [List.length_append, iR, List.length_nil, jD]; omega))).mono ?_; rintro e w3 ⟨rfl, hI, hK⟩; have HI2 := iD.mk hI; have HK2 := iD.mk (HK1.out.trans hK); clear hI hK z0 z1 z2 z3 z4 z5 z6 z7 z8 z9; obtain ⟨z0, z1, z2, z3, z4, z5, z6, z7, z8, z9, y0, y1, y2, y3, y4, y5, y6, y7, y8, y9⟩ := ten (iM HK2.out.1 HBK.out); clear y0 y1 y2 y3 y4 y5 y6 y7 y8 y9) | (go_at_call 53; refine (nH w1.heap.size w1.heap.size _ _ _ HI2.out HK2.out.1.size (by first | omega | (simp only [List.length_append, iR, List.length_nil, jD]; omega))).mono ?_; rintro e w4 ⟨rfl, hI, hK⟩; have HI3 := iD.mk hI; have HK3 := iD.mk (HK2.out.trans hK); clear hI hK z0 z1 z2 z3 z4 z5 z6 z7 z8 z9; obtain ⟨z0, z1, z2, z3, z4, z5, z6, z7, z8, z9, y0, y1, y2, y3, y4, y5, y6, y7, y8, y9⟩ := ten (iM HK3.out.1 HBK.out); clear y0 y1 y2 y3 y4 y5 y6 y7 y8 y9) | (go_at_call 53; refine (nH w1.heap.size w1.heap.size _ _ _ HI3.out HK3.out.1.size (by first | omega | (simp only [List.length_append, iR, List.length_nil, jD]; omega))).mono ?_; rintro e w5 ⟨rfl, hI, hK⟩; have HI4 := iD.mk hI; have HK4 := iD.mk (HK3.out.trans hK); clear hI hK z0 z1 z2 z3 z4 z5 z6 z7 z8 z9; obtain ⟨z0, z1, z2, z3, z4, z5, z6, z7, z8, z9, y0, y1, y2, y3, y4, y5, y6, y7, y8, y9⟩ := ten (iM HK4.out.1 HBK.out); clear y0 y1 y2 y3 y4 y5 y6 y7 y8 y9) | (go_at_call 54; refine (xH w1.heap.size _ _ _ l9 w1 _ HI4.out HK4.out.1 (Kd.C_below H9.out HBW.out) (by first | omega | (simp only [List.length_append, iR, List.length_nil, jD]; omega))).mono ?_; rintro e w6 ⟨rfl, hI, hK⟩; have HI5 := iD.mk hI; have HK5 := iD.mk (HK4.out.trans hK); clear hI hK z0 z1 z2 z3 z4 z5 z6 z7 z8 z9; obtain ⟨z0, z1, z2, z3, z4, z5, z6, z7, z8, z9, y0, y1, y2, y3, y4, y5, y6, y7, y8, y9⟩ := ten (iM HK5.out.1 HBK.out); clear y0 y1 y2 y3 y4 y5 y6 y7 y8 y9) | (go_at_call 55; refine (Tryd.Buffer_Len w1.heap.size w1.heap.size _ _ (HI5.out)).mono ?_; rintro e wl ⟨rfl, nl, rfl⟩; rw [Lib.byteCells_length, ← HLEN.out]))
    go_ret2
    exact ⟨_, rfl, Kd.R_nil _ _ _ _ _, by have hz := HBW.out; have hy := HK5.out.1; exact iG (iL hz hy) _⟩
  · rw [if_neg hbig]
    have hbigI : ¬ (60000 : Int) < (X.length : Int) := by omega
    clear hbig
    go_enter Tryd.func17, Tryd.ntmps17
    go_wp2_with (first | (go_at_call 19; refine (code_Sound.calls 7 a1 a2 A3 c3 l3 A4 c4 l4 a5 A6 c6 l6 a7 a8 A9 c9 l9 _ _ (Kd.C_below H3.out bel_) d3 (Kd.C_below H4.out bel_) d4 (Kd.C_below H6.out bel_) d6 (Kd.C_below H9.out bel_) d9 rfl).mono ?_; rintro e w1 ⟨rfl, hb1⟩; rw [HS.out]; have HBW := iD.mk (show Below w.heap.size w w1 from iL (iF (Below.refl _ _) _) hb1); have HBK := iD.mk (iM hb1 (iT rfl)); clear hb1; have HI0 := iD.mk (Bf.fresh w1); have HK0 := iD.mk ((Kp.refl w1.heap.size w1.heap.size w1).alloc (Nat.le_refl _) (.cells #[.slice none 0 0, .int .i64 0, .int .i8 0] 91)); obtain ⟨z0, z1, z2, z3, z4, z5, z6, z7, z8, z9, y0, y1, y2, y3, y4, y5, y6, y7, y8, y9⟩ := ten (jH (o := (.cells #[.slice none 0 0, .int .i64 0, .int .i8 0] 91)) HBK.out); clear y0 y1 y2 y3 y4 y5 y6 y7 y8 y9) | (go_at_call 49; refine (nV w1.heap.size w1.heap.size _ _ _ HI0.out HK0.out.1.size (by first | omega | (simp only [List.length_append, iR, List.length_nil, jD]; omega))).mono ?_; rintro e w2 ⟨rfl, hI, hK⟩; have HI1 := iD.mk hI; have HK1 := iD.mk (HK0.out.trans hK); clear hI hK z0 z1 z2 z3 z4 z5 z6 z7 z8 z9; obtain ⟨z0, z1, z2, z3, z4, z5, z6, z7, z8, z9, y0, y1, y2, y3, y4, y5, y6, y7, y8, y9⟩ := ten (iM HK1.out.1 HBK.out); clear y0 y1 y2 y3 y4 y5 y6 y7 y8 y9) | (go_at_call 50; refine (kZ w1.heap.size w1.heap.size _ _ _ HI1.out HK1.out.1.size (by first | omega | (simp only [List.length_append, iR, List.length_nil, jD]; omega))).mono ?_; rintro e w3 ⟨rfl, hI, hK⟩; have HI2 := iD.mk hI; have HK2 := iD.mk (HK1.out.trans hK); clear hI hK z0 z1 z2 z3 z4 z5 z6 z7 z8 z9; obtain ⟨z0, z1, z2, z3, z4, z5, z6, z7, z8, z9, y0, y1, y2, y3, y4, y5, y6, y7, y8, y9⟩ := ten (iM HK2.out.1 HBK.out); clear y0 y1 y2 y3 y4 y5 y6 y7 y8 y9) | (go_at_call 53; refine (nH w1.heap.size w1.heap.size _ _ _ HI2.out HK2.out.1.size (by first | omega | (simp only [List.length_append, iR, List.length_nil, jD]; omega))).mono ?_; rintro e w4 ⟨rfl, hI, hK⟩; have HI3 := iD.mk hI; have HK3 := iD.mk (HK2.out.trans hK); clear hI hK z0 z1 z2 z3 z4 z5 z6 z7 z8 z9; obtain ⟨z0, z1, z2, z3, z4, z5, z6, z7, z8, z9, y0, y1, y2, y3, y4, y5, y6, y7, y8, y9⟩ := ten (iM HK3.out.1 HBK.out); clear y0 y1 y2 y3 y4 y5 y6 y7 y8 y9) | (go_at_call 53; refine (nH w1.heap.size w1.heap.size _ _ _ HI3.out HK3.out.1.size (by first | omega | (simp only [List.length_append, iR, List.length_nil, jD]; omega))).mono ?_; rintro e w5 ⟨rfl, hI, hK⟩; have HI4 := iD.mk hI; have HK4 := iD.mk (HK3.out.trans hK); clear hI hK z0 z1 z2 z3 z4 z5 z6 z7 z8 z9; obtain ⟨z0, z1, z2, z3, z4, z5, z6, z7, z8, z9, y0, y1, y2, y3, y4, y5, y6, y7, y8, y9⟩ := ten (iM HK4.out.1 HBK.out); clear y0 y1 y2 y3 y4 y5 y6 y7 y8 y9) | (go_at_call 54; refine (xH w1.heap.size _ _ _ l9 w1 _ HI4.out HK4.out.1 (Kd.C_below H9.out HBW.out) (by first | omega | (simp only [List.length_append, iR, List.length_nil, jD]; omega))).mono ?_; rintro e w6 ⟨rfl, hI, hK⟩; have HI5 := iD.mk hI; have HK5 := iD.mk (HK4.out.trans hK); clear hI hK z0 z1 z2 z3 z4 z5 z6 z7 z8 z9; obtain ⟨z0, z1, z2, z3, z4, z5, z6, z7, z8, z9, y0, y1, y2, y3, y4, y5, y6, y7, y8, y9⟩ := ten (iM HK5.out.1 HBK.out); clear y0 y1 y2 y3 y4 y5 y6 y7 y8 y9) | (go_at_call 55; refine (Tryd.Buffer_Len w1.heap.size w1.heap.size _ _ (HI5.out)).mono ?_; rintro e wl ⟨rfl, nl, rfl⟩; rw [Lib.byteCells_length, ← HLEN.out]) | (go_at_call 56; refine (Tryd.Buffer_Bytes w1.heap.size w1.heap.size _ _ (HI5.out.drewN _)).mono ?_; rintro e wb ⟨v, rfl, hv, nb, rfl⟩; have HV := iD.mk hv; clear hv))
    go_ret2
    exact ⟨_, rfl, by rw [HX.out, XH]; exact pF HV.out HBW.out.size, by have hz := HBW.out; have hy := HK5.out.1; exact iG (iL hz hy) _⟩
set_option maxHeartbeats 8000000 in
set_option maxRecDepth 20000 in
theorem UK (hs : jP ⟨6, a1, a2, l3, l4, ⟨a5, l6⟩, a7, a8, l9⟩ = true) : Calls Tryd.prog 17 #[.agg #[.int .u8 6, .int .u32 a1, .int .u32 a2, .slice A3 l3.length c3, .slice A4 l4.length c4, .int .u32 a5, .slice A6 l6.length c6, .int .i64 a7, .int .i64 a8, .slice A9 l9.length c9]] w (oW w (encR ⟨6, a1, a2, l3, l4, ⟨a5, l6⟩, a7, a8, l9⟩)) := by
  have H3 := iD.mk h3; have H4 := iD.mk h4; have H6 := iD.mk h6; have H9 := iD.mk h9
  clear h3 h4 h6 h9
  have HS := iD.mk hs
  have q6 : l6.length ≤ 40 := by
    have h := HS.out
    rw [VB, Bool.and_eq_true, Bool.and_eq_true, Bool.and_eq_true] at h
    have := of_decide_eq_true h.1.1.2
    omega
  unfold encR
  rw [if_pos HS.out]
  have hm3 := lC H3.out
  have hm6 := lC H6.out
  obtain ⟨X, hX⟩ : ∃ X : List UInt8, X = recE ⟨6, a1, a2, l3, l4, ⟨a5, l6⟩, a7, a8, l9⟩ := ⟨_, rfl⟩
  rw [← hX]
  have HX := iD.mk hX
  have HLEN := iD.mk (show X.length = _ from congrArg List.length (hX.trans (XE _ _ _ _ _ _ _ _ _)))
  clear hs hX
  by_cases hbig : 60000 < X.length
  · rw [if_pos hbig]
    have hbigI : (60000 : Int) < (X.length : Int) := by omega
    clear hbig
    go_enter Tryd.func17, Tryd.ntmps17
    go_wp2_with (first | (go_at_call 19; refine (code_Sound.calls 6 a1 a2 A3 c3 l3 A4 c4 l4 a5 A6 c6 l6 a7 a8 A9 c9 l9 _ _ (Kd.C_below H3.out bel_) d3 (Kd.C_below H4.out bel_) d4 (Kd.C_below H6.out bel_) d6 (Kd.C_below H9.out bel_) d9 rfl).mono ?_; rintro e w1 ⟨rfl, hb1⟩; rw [HS.out]; have HBW := iD.mk (show Below w.heap.size w w1 from iL (iF (Below.refl _ _) _) hb1); have HBK := iD.mk (iM hb1 (iT rfl)); clear hb1; have HI0 := iD.mk (Bf.fresh w1); have HK0 := iD.mk ((Kp.refl w1.heap.size w1.heap.size w1).alloc (Nat.le_refl _) (.cells #[.slice none 0 0, .int .i64 0, .int .i8 0] 91)); obtain ⟨z0, z1, z2, z3, z4, z5, z6, z7, z8, z9, y0, y1, y2, y3, y4, y5, y6, y7, y8, y9⟩ := ten (jH (o := (.cells #[.slice none 0 0, .int .i64 0, .int .i8 0] 91)) HBK.out); clear y0 y1 y2 y3 y4 y5 y6 y7 y8 y9) | (go_at_call 49; refine (nV w1.heap.size w1.heap.size _ _ _ HI0.out HK0.out.1.size (by first | omega | (simp only [List.length_append, iR, List.length_nil, jD]; omega))).mono ?_; rintro e w2 ⟨rfl, hI, hK⟩; have HI1 := iD.mk hI; have HK1 := iD.mk (HK0.out.trans hK); clear hI hK z0 z1 z2 z3 z4 z5 z6 z7 z8 z9; obtain ⟨z0, z1, z2, z3, z4, z5, z6, z7, z8, z9, y0, y1, y2, y3, y4, y5, y6, y7, y8, y9⟩ := ten (iM HK1.out.1 HBK.out); clear y0 y1 y2 y3 y4 y5 y6 y7 y8 y9) | (go_at_call 50; refine (kZ w1.heap.size w1.heap.size _ _ _ HI1.out HK1.out.1.size (by first | omega | (simp only [List.length_append, iR, List.length_nil, jD]; omega))).mono ?_; rintro e w3 ⟨rfl, hI, hK⟩; have HI2 := iD.mk hI; have HK2 := iD.mk (HK1.out.trans hK); clear hI hK z0 z1 z2 z3 z4 z5 z6 z7 z8 z9; obtain ⟨z0, z1, z2, z3, z4, z5, z6, z7, z8, z9, y0, y1, y2, y3, y4, y5, y6, y7, y8, y9⟩ := ten (iM HK2.out.1 HBK.out); clear y0 y1 y2 y3 y4 y5 y6 y7 y8 y9) | (go_at_call 50; refine (kZ w1.heap.size w1.heap.size _ _ _ HI2.out HK2.out.1.size (by first | omega | (simp only [List.length_append, iR, List.length_nil, jD]; omega))).mono ?_; rintro e w4 ⟨rfl, hI, hK⟩; have HI3 := iD.mk hI; have HK3 := iD.mk (HK2.out.trans hK); clear hI hK z0 z1 z2 z3 z4 z5 z6 z7 z8 z9; obtain ⟨z0, z1, z2, z3, z4, z5, z6, z7, z8, z9, y0, y1, y2, y3, y4, y5, y6, y7, y8, y9⟩ := ten (iM HK3.out.1 HBK.out); clear y0 y1 y2 y3 y4 y5 y6 y7 y8 y9) | (go_at_call 53; refine (pR w1.heap.size w1.heap.size _ _ _ HI3.out HK3.out.1.size (by first | omega | (simp only [List.length_append, iR, List.length_nil, jD]; omega))).mono ?_; rintro e w5 ⟨rfl, hI, hK⟩; have HI4 := iD.mk hI; have HK4 := iD.mk (HK3.out.trans hK); clear hI hK z0 z1 z2 z3 z4 z5 z6 z7 z8 z9; obtain ⟨z0, z1, z2, z3, z4, z5, z6, z7, z8, z9, y0, y1, y2, y3, y4, y5, y6, y7, y8, y9⟩ := ten (iM HK4.out.1 HBK.out); clear y0 y1 y2 y3 y4 y5 y6 y7 y8 y9))
    clear z0 z1 z2 z3 z4 z5 z6 z7 z8 z9
    go_loopw [59] (fun i wr => ∃ k : Nat, k ≤ l6.length ∧ i = .int .i64 k ∧ iD (Bf w1.heap.size w1.heap.size ([] ++ layB 6 1 ++ layB a1 4 ++ layB a5 4 ++ layB l6.length 1 ++ (l6.take k).flatMap nU) wr) ∧ iD (Kp w1.heap.size w1.heap.size w1 wr)) (fun i _ => l6.length - (intOf i).toNat)
    case atStart => exact ⟨0, Nat.zero_le _, rfl, ⟨by rw [List.take_zero, List.flatMap_nil, List.append_nil]; exact HI4.out⟩, HK4⟩
    case round =>
      obtain ⟨k, hk, rfl, HI, HK⟩ := hrel
      clear HI4 HK4 HI3 HK3 HI2 HK2 HI1 HK1 HI0 HK0
      by_cases hlt : k < l6.length
      · obtain ⟨ad, rfl, hx0, hx1⟩ := xE (Kd.C_below H6.out (iL HBW.out HK.out.1)) (k : Int) (by omega) (by omega)
        rw [QG] at hx0 hx1
        rw [Int.toNat_natCast] at hx0 hx1
        have hts := iD.mk (kP nU xY l6 k hlt)
        have hpl : ([] ++ layB 6 1 ++ layB a1 4 ++ layB a5 4 ++ layB l6.length 1 ++ (l6.take k).flatMap nU).length + 10 ≤ 140737488355328 := by
          simp only [List.length_append, iR, List.length_nil, zK, List.length_take]
          omega
        obtain ⟨s, hs⟩ : ∃ s, s = l6.getD k xY := ⟨_, rfl⟩
        rw [← hs] at hx0 hx1 hts
        clear hs
        obtain ⟨pre, hpre⟩ : ∃ p, p = [] ++ layB 6 1 ++ layB a1 4 ++ layB a5 4 ++ layB l6.length 1 ++ (l6.take k).flatMap nU := ⟨_, rfl⟩
        have hrest : [] ++ layB 6 1 ++ layB a1 4 ++ layB a5 4 ++ layB l6.length 1 ++ (l6.take (k + 1)).flatMap nU = pre ++ nU s := by rw [hts.out, ← List.append_assoc, hpre]
        have HREST := iD.mk hrest
        rw [← hpre] at HI hpl
        have HPL := iD.mk (show (pre ++ layB s.f0 4).length + 1 ≤ 140737488355328 from by rw [List.length_append, iR]; omega)
        have HPL4 := iD.mk (show pre.length + 4 ≤ 140737488355328 from by omega)
        clear hpre hrest hts hpl
        obtain ⟨wo, rfl⟩ : ∃ wo : World, wo = wr := ⟨_, rfl⟩
        have HBX := iD.mk (Bf.alloc HI.out (.cells #[.int .i64 s.f0, .int .i64 s.f1] 98))
        have HKX := iD.mk (HK.out.alloc HK.out.1.size (.cells #[.int .i64 s.f0, .int .i64 s.f1] 98))
        have HNE := iD.mk (show wo.heap.size ≠ w1.heap.size from by have := HI.out.lt; omega)
        go_wp2_with fail
        refine (nH _ _ pre _ _ HBX.out HKX.out.1.size HPL4.out).mono ?_
        rintro e w2 ⟨rfl, hI, hK⟩
        have HI1 := iD.mk hI
        have HK1 := iD.mk (HKX.out.trans hK)
        have hblk := hK.block (iT rfl) HNE.out (by decide)
        clear hI hK
        have hz1 : w2.cell? ⟨wo.heap.size, 1, none⟩ = some (.int .i64 s.f1) := (iE hblk 1).trans rfl
        clear hblk
        go_wp2_with fail
        refine (pR _ _ _ _ _ HI1.out HK1.out.1.size HPL.out).mono ?_
        rintro e w3 ⟨rfl, hI, hK⟩
        have HI2 := iD.mk hI
        have HK2 := iD.mk (HK1.out.trans hK)
        clear hI hK
        go_wp2
        go_roundw
        case rel => exact ⟨k + 1, by omega, by go_num, ⟨by rw [HREST.out, nU, ← List.append_assoc]; exact HI2.out⟩, HK2⟩
        case measure => simp [intOf]; omega
      · skip
        obtain rfl : k = l6.length := by omega
        have hI' := HI.out
        rw [List.take_length] at hI'
        have HI' := iD.mk hI'
        clear hI'
        go_wp2_with (first | (go_at_call 55; refine (Tryd.Buffer_Len w1.heap.size w1.heap.size _ _ (HI'.out)).mono ?_; rintro e wl ⟨rfl, nl, rfl⟩; rw [Lib.byteCells_length, ← HLEN.out]))
        go_ret2
        exact ⟨_, rfl, Kd.R_nil _ _ _ _ _, by have hz := HBW.out; have hy := HK.out.1; exact iG (iL hz hy) _⟩
  · rw [if_neg hbig]
    have hbigI : ¬ (60000 : Int) < (X.length : Int) := by omega
    clear hbig
    go_enter Tryd.func17, Tryd.ntmps17
    go_wp2_with (first | (go_at_call 19; refine (code_Sound.calls 6 a1 a2 A3 c3 l3 A4 c4 l4 a5 A6 c6 l6 a7 a8 A9 c9 l9 _ _ (Kd.C_below H3.out bel_) d3 (Kd.C_below H4.out bel_) d4 (Kd.C_below H6.out bel_) d6 (Kd.C_below H9.out bel_) d9 rfl).mono ?_; rintro e w1 ⟨rfl, hb1⟩; rw [HS.out]; have HBW := iD.mk (show Below w.heap.size w w1 from iL (iF (Below.refl _ _) _) hb1); have HBK := iD.mk (iM hb1 (iT rfl)); clear hb1; have HI0 := iD.mk (Bf.fresh w1); have HK0 := iD.mk ((Kp.refl w1.heap.size w1.heap.size w1).alloc (Nat.le_refl _) (.cells #[.slice none 0 0, .int .i64 0, .int .i8 0] 91)); obtain ⟨z0, z1, z2, z3, z4, z5, z6, z7, z8, z9, y0, y1, y2, y3, y4, y5, y6, y7, y8, y9⟩ := ten (jH (o := (.cells #[.slice none 0 0, .int .i64 0, .int .i8 0] 91)) HBK.out); clear y0 y1 y2 y3 y4 y5 y6 y7 y8 y9) | (go_at_call 49; refine (nV w1.heap.size w1.heap.size _ _ _ HI0.out HK0.out.1.size (by first | omega | (simp only [List.length_append, iR, List.length_nil, jD]; omega))).mono ?_; rintro e w2 ⟨rfl, hI, hK⟩; have HI1 := iD.mk hI; have HK1 := iD.mk (HK0.out.trans hK); clear hI hK z0 z1 z2 z3 z4 z5 z6 z7 z8 z9; obtain ⟨z0, z1, z2, z3, z4, z5, z6, z7, z8, z9, y0, y1, y2, y3, y4, y5, y6, y7, y8, y9⟩ := ten (iM HK1.out.1 HBK.out); clear y0 y1 y2 y3 y4 y5 y6 y7 y8 y9) | (go_at_call 50; refine (kZ w1.heap.size w1.heap.size _ _ _ HI1.out HK1.out.1.size (by first | omega | (simp only [List.length_append, iR, List.length_nil, jD]; omega))).mono ?_; rintro e w3 ⟨rfl, hI, hK⟩; have HI2 := iD.mk hI; have HK2 := iD.mk (HK1.out.trans hK); clear hI hK z0 z1 z2 z3 z4 z5 z6 z7 z8 z9; obtain ⟨z0, z1, z2, z3, z4, z5, z6, z7, z8, z9, y0, y1, y2, y3, y4, y5, y6, y7, y8, y9⟩ := ten (iM HK2.out.1 HBK.out); clear y0 y1 y2 y3 y4 y5 y6 y7 y8 y9) | (go_at_call 50; refine (kZ w1.heap.size w1.heap.size _ _ _ HI2.out HK2.out.1.size (by first | omega | (simp only [List.length_append, iR, List.length_nil, jD]; omega))).mono ?_; rintro e w4 ⟨rfl, hI, hK⟩; have HI3 := iD.mk hI; have HK3 := iD.mk (HK2.out.trans hK); clear hI hK z0 z1 z2 z3 z4 z5 z6 z7 z8 z9; obtain ⟨z0, z1, z2, z3, z4, z5, z6, z7, z8, z9, y0, y1, y2, y3, y4, y5, y6, y7, y8, y9⟩ := ten (iM HK3.out.1 HBK.out); clear y0 y1 y2 y3 y4 y5 y6 y7 y8 y9) | (go_at_call 53; refine (pR w1.heap.size w1.heap.size _ _ _ HI3.out HK3.out.1.size (by first | omega | (simp only [List.length_append, iR, List.length_nil, jD]; omega))).mono ?_; rintro e w5 ⟨rfl, hI, hK⟩; have HI4 := iD.mk hI; have HK4 := iD.mk (HK3.out.trans hK); clear hI hK z0 z1 z2 z3 z4 z5 z6 z7 z8 z9; obtain ⟨z0, z1, z2, z3, z4, z5, z6, z7, z8, z9, y0, y1, y2, y3, y4, y5, y6, y7, y8, y9⟩ := ten (iM HK4.out.1 HBK.out); clear y0 y1 y2 y3 y4 y5 y6 y7 y8 y9))
    clear z0 z1 z2 z3 z4 z5 z6 z7 z8 z9
    go_loopw [59] (fun i wr => ∃ k : Nat, k ≤ l6.length ∧ i = .int .i64 k ∧ iD (Bf w1.heap.size w1.heap.size ([] ++ layB 6 1 ++ layB a1 4 ++ layB a5 4 ++ layB l6.length 1 ++ (l6.take k).flatMap nU) wr) ∧ iD (Kp w1.heap.size w1.heap.size w1 wr)) (fun i _ => l6.length - (intOf i).toNat)
    case atStart => exact ⟨0, Nat.zero_le _, rfl, ⟨by rw [List.take_zero, List.flatMap_nil, List.append_nil]; exact HI4.out⟩, HK4⟩
    case round =>
      obtain ⟨k, hk, rfl, HI, HK⟩ := hrel
      clear HI4 HK4 HI3 HK3 HI2 HK2 HI1 HK1 HI0 HK0
      by_cases hlt : k < l6.length
      · obtain ⟨ad, rfl, hx0, hx1⟩ := xE (Kd.C_below H6.out (iL HBW.out HK.out.1)) (k : Int) (by omega) (by omega)
        rw [QG] at hx0 hx1
        rw [Int.toNat_natCast] at hx0 hx1
        have hts := iD.mk (kP nU xY l6 k hlt)
        have hpl : ([] ++ layB 6 1 ++ layB a1 4 ++ layB a5 4 ++ layB l6.length 1 ++ (l6.take k).flatMap nU).length + 10 ≤ 140737488355328 := by
          simp only [List.length_append, iR, List.length_nil, zK, List.length_take]
          omega
        obtain ⟨s, hs⟩ : ∃ s, s = l6.getD k xY := ⟨_, rfl⟩
        rw [← hs] at hx0 hx1 hts
        clear hs
        obtain ⟨pre, hpre⟩ : ∃ p, p = [] ++ layB 6 1 ++ layB a1 4 ++ layB a5 4 ++ layB l6.length 1 ++ (l6.take k).flatMap nU := ⟨_, rfl⟩
        have hrest : [] ++ layB 6 1 ++ layB a1 4 ++ layB a5 4 ++ layB l6.length 1 ++ (l6.take (k + 1)).flatMap nU = pre ++ nU s := by rw [hts.out, ← List.append_assoc, hpre]
        have HREST := iD.mk hrest
        rw [← hpre] at HI hpl
        have HPL := iD.mk (show (pre ++ layB s.f0 4).length + 1 ≤ 140737488355328 from by rw [List.length_append, iR]; omega)
        have HPL4 := iD.mk (show pre.length + 4 ≤ 140737488355328 from by omega)
        clear hpre hrest hts hpl
        obtain ⟨wo, rfl⟩ : ∃ wo : World, wo = wr := ⟨_, rfl⟩
        have HBX := iD.mk (Bf.alloc HI.out (.cells #[.int .i64 s.f0, .int .i64 s.f1] 98))
        have HKX := iD.mk (HK.out.alloc HK.out.1.size (.cells #[.int .i64 s.f0, .int .i64 s.f1] 98))
        have HNE := iD.mk (show wo.heap.size ≠ w1.heap.size from by have := HI.out.lt; omega)
        go_wp2_with fail
        refine (nH _ _ pre _ _ HBX.out HKX.out.1.size HPL4.out).mono ?_
        rintro e w2 ⟨rfl, hI, hK⟩
        have HI1 := iD.mk hI
        have HK1 := iD.mk (HKX.out.trans hK)
        have hblk := hK.block (iT rfl) HNE.out (by decide)
        clear hI hK
        have hz1 : w2.cell? ⟨wo.heap.size, 1, none⟩ = some (.int .i64 s.f1) := (iE hblk 1).trans rfl
        clear hblk
        go_wp2_with fail
        refine (pR _ _ _ _ _ HI1.out HK1.out.1.size HPL.out).mono ?_
        rintro e w3 ⟨rfl, hI, hK⟩
        have HI2 := iD.mk hI
        have HK2 := iD.mk (HK1.out.trans hK)
        clear hI hK
        go_wp2
        go_roundw
        case rel => exact ⟨k + 1, by omega, by go_num, ⟨by rw [HREST.out, nU, ← List.append_assoc]; exact HI2.out⟩, HK2⟩
        case measure => simp [intOf]; omega
      · skip
        obtain rfl : k = l6.length := by omega
        have hI' := HI.out
        rw [List.take_length] at hI'
        have HI' := iD.mk hI'
        clear hI'
        go_wp2_with (first | (go_at_call 55; refine (Tryd.Buffer_Len w1.heap.size w1.heap.size _ _ (HI'.out)).mono ?_; rintro e wl ⟨rfl, nl, rfl⟩; rw [Lib.byteCells_length, ← HLEN.out]) | (go_at_call 56; refine (Tryd.Buffer_Bytes w1.heap.size w1.heap.size _ _ (HI'.out.drewN _)).mono ?_; rintro e wb ⟨v, rfl, hv, nb, rfl⟩; have HV := iD.mk hv; clear hv))
        go_ret2
        exact ⟨_, rfl, by rw [HX.out, XE]; exact pF HV.out HBW.out.size, by have hz := HBW.out; have hy := HK.out.1; exact iG (iL hz hy) _⟩
set_option maxHeartbeats 2000000 in
theorem UQ (hs : jP ⟨a0, a1, a2, l3, l4, ⟨a5, l6⟩, a7, a8, l9⟩ = false) : Calls Tryd.prog 17 #[.agg #[.int .u8 a0, .int .u32 a1, .int .u32 a2, .slice A3 l3.length c3, .slice A4 l4.length c4, .int .u32 a5, .slice A6 l6.length c6, .int .i64 a7, .int .i64 a8, .slice A9 l9.length c9]] w (oW w (encR ⟨a0, a1, a2, l3, l4, ⟨a5, l6⟩, a7, a8, l9⟩)) := by
  have H3 := iD.mk h3; have H4 := iD.mk h4; have H6 := iD.mk h6; have H9 := iD.mk h9
  clear h3 h4 h6 h9
  unfold encR
  rw [if_neg (by rw [hs]; exact Bool.false_ne_true)]
  have HS := iD.mk hs
  clear hs
  go_enter Tryd.func17, Tryd.ntmps17
  go_wp2_with (first | (go_at_call 19; refine (code_Sound.calls a0 a1 a2 A3 c3 l3 A4 c4 l4 a5 A6 c6 l6 a7 a8 A9 c9 l9 _ _ (Kd.C_below H3.out bel_) d3 (Kd.C_below H4.out bel_) d4 (Kd.C_below H6.out bel_) d6 (Kd.C_below H9.out bel_) d9 rfl).mono ?_; rintro e w1 ⟨rfl, hb1⟩; rw [HS.out]))
  go_ret2
  exact ⟨_, rfl, Kd.R_nil _ _ _ _ _, iL (iF (Below.refl _ _) _) hb1⟩
end
theorem code_Encode.calls (a0_0 : Int) (a0_1 : Int) (a0_2 : Int) (A0_3 : Option Addr) (c0_3 : Nat) (l0_3 : List Int) (A0_4 : Option Addr) (c0_4 : Nat) (l0_4 : List jK) (a0_5 : Int) (A0_6 : Option Addr) (c0_6 : Nat) (l0_6 : List jX) (a0_7 : Int) (a0_8 : Int) (A0_9 : Option Addr) (c0_9 : Nat) (l0_9 : List jG) (r1 : List Int) (r2 : Int) (w : World) (hr0_3 : Kd.C (Kd.int .i64) w A0_3 l0_3.length l0_3) (hc0_3 : l0_3.length ≤ c0_3) (hr0_4 : Kd.C k139 w A0_4 l0_4.length l0_4) (hc0_4 : l0_4.length ≤ c0_4) (hr0_6 : Kd.C k98 w A0_6 l0_6.length l0_6) (hc0_6 : l0_6.length ≤ c0_6) (hr0_9 : Kd.C k86 w A0_9 l0_9.length l0_9) (hc0_9 : l0_9.length ≤ c0_9) (h : code_Encode.f a0_0 a0_1 a0_2 l0_3 l0_4 a0_5 l0_6 a0_7 a0_8 l0_9 = some (r1, r2)) :
    Calls Tryd.prog 17 #[.agg #[.int .u8 a0_0, .int .u32 a0_1, .int .u32 a0_2, .slice A0_3 l0_3.length c0_3, .slice A0_4 l0_4.length c0_4, .int .u32 a0_5, .slice A0_6 l0_6.length c0_6, .int .i64 a0_7, .int .i64 a0_8, .slice A0_9 l0_9.length c0_9]] w fun e w' => ∃ v0_ : Value, e = .returned (.tuple #[v0_, .int .u16 r2]) ∧ Kd.R (Kd.int .u8) 5 w' w.heap.size (fun _ => True) v0_ r1 ∧ Below w.heap.size w w' := by
  have e := Option.some.inj h
  clear h
  have main : Calls Tryd.prog 17 #[.agg #[.int .u8 a0_0, .int .u32 a0_1, .int .u32 a0_2, .slice A0_3 l0_3.length c0_3, .slice A0_4 l0_4.length c0_4, .int .u32 a0_5, .slice A0_6 l0_6.length c0_6, .int .i64 a0_7, .int .i64 a0_8, .slice A0_9 l0_9.length c0_9]] w (oW w (encR ⟨a0_0, a0_1, a0_2, l0_3, l0_4, ⟨a0_5, l0_6⟩, a0_7, a0_8, l0_9⟩)) := by
    clear e
    cases hs : jP ⟨a0_0, a0_1, a0_2, l0_3, l0_4, ⟨a0_5, l0_6⟩, a0_7, a0_8, l0_9⟩ with
    | false => exact UQ a0_0 a0_1 a0_2 A0_3 c0_3 l0_3 A0_4 c0_4 l0_4 a0_5 A0_6 c0_6 l0_6 a0_7 a0_8 A0_9 c0_9 l0_9 w hr0_3 hc0_3 hr0_4 hc0_4 hr0_6 hc0_6 hr0_9 hc0_9 hs
    | true =>
      by_cases h0 : a0_0 < 1 ∨ 7 < a0_0
      · rw [VA _ _ _ _ _ _ _ _ _ _ h0] at hs
        cases hs
      have h7 : a0_0 = 1 ∨ a0_0 = 2 ∨ a0_0 = 3 ∨ a0_0 = 4 ∨ a0_0 = 5 ∨ a0_0 = 6 ∨ a0_0 = 7 := by omega
      rcases h7 with rfl | rfl | rfl | rfl | rfl | rfl | rfl
      · exact UE a0_1 a0_2 A0_3 c0_3 l0_3 A0_4 c0_4 l0_4 a0_5 A0_6 c0_6 l0_6 a0_7 a0_8 A0_9 c0_9 l0_9 w hr0_3 hc0_3 hr0_4 hc0_4 hr0_6 hc0_6 hr0_9 hc0_9 hs
      · exact TM a0_1 a0_2 A0_3 c0_3 l0_3 A0_4 c0_4 l0_4 a0_5 A0_6 c0_6 l0_6 a0_7 a0_8 A0_9 c0_9 l0_9 w hr0_3 hc0_3 hr0_4 hc0_4 hr0_6 hc0_6 hr0_9 hc0_9 hs
      · exact UF a0_1 a0_2 A0_3 c0_3 l0_3 A0_4 c0_4 l0_4 a0_5 A0_6 c0_6 l0_6 a0_7 a0_8 A0_9 c0_9 l0_9 w hr0_3 hc0_3 hr0_4 hc0_4 hr0_6 hc0_6 hr0_9 hc0_9 hs
      · exact UT a0_1 a0_2 A0_3 c0_3 l0_3 A0_4 c0_4 l0_4 a0_5 A0_6 c0_6 l0_6 a0_7 a0_8 A0_9 c0_9 l0_9 w hr0_3 hc0_3 hr0_4 hc0_4 hr0_6 hc0_6 hr0_9 hc0_9 hs
      · exact UH a0_1 a0_2 A0_3 c0_3 l0_3 A0_4 c0_4 l0_4 a0_5 A0_6 c0_6 l0_6 a0_7 a0_8 A0_9 c0_9 l0_9 w hr0_3 hc0_3 hr0_4 hc0_4 hr0_6 hc0_6 hr0_9 hc0_9 hs
      · exact UK a0_1 a0_2 A0_3 c0_3 l0_3 A0_4 c0_4 l0_4 a0_5 A0_6 c0_6 l0_6 a0_7 a0_8 A0_9 c0_9 l0_9 w hr0_3 hc0_3 hr0_4 hc0_4 hr0_6 hc0_6 hr0_9 hc0_9 hs
      · exact UC a0_1 a0_2 A0_3 c0_3 l0_3 A0_4 c0_4 l0_4 a0_5 A0_6 c0_6 l0_6 a0_7 a0_8 A0_9 c0_9 l0_9 w hr0_3 hc0_3 hr0_4 hc0_4 hr0_6 hc0_6 hr0_9 hc0_9 hs
  rw [e] at main
  exact main
end Go.Proofs.YtgfkgppomaapiaaDoor.K
end

section
namespace Go.Proofs.YtgfkgppomaapiaaDoor.K
open Go.RowKit Go.Proofs.YtgfkgppomaapiaaDoorW.PrintWords Go.Proofs.YtgfkgppomaapiaaDoorW.PrintLast Go.Proofs.YtgfkgppomaapiaaDoorW.PrintMore
attribute [local go_sem] kE kQ
def bytes_Equal.f (l0 : List Int) (l1 : List Int) : Option (Bool) := some ((strOfNums l0).toList == (strOfNums l1).toList)
set_option maxHeartbeats 8000000 in
set_option maxRecDepth 100000 in
theorem bytes_Equal.calls (A0 : Option Addr) (c0 : Nat) (l0 : List Int) (A1 : Option Addr) (c1 : Nat) (l1 : List Int) (r : Bool) (w : World) (hr0 : Kd.C (Kd.int .u8) w A0 l0.length l0) (hc0 : l0.length ≤ c0) (hr1 : Kd.C (Kd.int .u8) w A1 l1.length l1) (hc1 : l1.length ≤ c1) (h : bytes_Equal.f l0 l1 = some r) :
    Calls Tryd.prog 75 #[.slice A0 l0.length c0, .slice A1 l1.length c1] w fun e w' => e = .returned (.bool r) ∧ jW w w' := by
  have HR0 := iD.mk hr0
  have HC0 := iD.mk hc0
  clear hr0 hc0
  have HR1 := iD.mk hr1
  have HC1 := iD.mk hc1
  clear hr1 hc1
  have H : (some ((strOfNums l0).toList == (strOfNums l1).toList)) = some r := h
  clear h
  obtain rfl := Option.some.inj H
  have hcv3 := Kd.C_string (P := Tryd.prog) (A := A0) (c := c0) Tryd.underlying33 Tryd.underlying5 Tryd.underlying9 HR0.out
  have hcv4 := Kd.C_string (P := Tryd.prog) (A := A1) (c := c1) Tryd.underlying33 Tryd.underlying5 Tryd.underlying9 HR1.out
  go_enter Tryd.func75, Tryd.ntmps75
  go_wp2
  go_ret
  exact ⟨by first | rfl | (simp; done) | (simp [*]; done), by repeat (first | exact jW.refl _ | apply jW.step)⟩
end Go.Proofs.YtgfkgppomaapiaaDoor.K
end

section
namespace Go.Proofs.YtgfkgppomaapiaaDoor.K
open Go Go.RowKit Go.Proofs.YtgfkgppomaapiaaDoorW.PrintWords Go.Proofs.YtgfkgppomaapiaaDoorW.PrintLast Go.Proofs.YtgfkgppomaapiaaDoorW.PrintMore Go.Proofs.YtgfkgppomaapiaaDoor.My
def rJ : SRec := ⟨0, 0, 0, [], [], ⟨0, []⟩, 0, 0, []⟩
/-- The bytes of numbers. -/
def bytesOf (l0 : List Int) : List UInt8 := l0.map fun x => UInt8.ofNat x.toNat
def decR (l : List UInt8) : SRec × Int := if 60000 < l.length then (rJ, 3) else match recP l with | none => (rJ, 70) | some (x, _) => if encR x = (nums l, 0) then (x, 0) else (rJ, 70)
def XV (r : SRec × Int) : Int × Int × Int × List Int × List jK × Int × List jX × Int × Int × List jG × Int := (r.1.f0, r.1.f1, r.1.f2, r.1.f3, r.1.f4, r.1.f5.f0, r.1.f5.f1, r.1.f6, r.1.f7, r.1.f8, r.2)
theorem vN (l : List UInt8) : bytesOf (nums l) = l := by
  unfold bytesOf nums
  rw [List.map_map]
  conv => rhs; rw [← List.map_id l]
  apply List.map_congr_left
  intro b _
  simp
theorem N8 {l m : List UInt8} (h : nums l = nums m) : l = m := by rw [← vN l, h, vN]
theorem qV {w : World} {A : Option Addr} {n : Nat} {l : List UInt8} (h : (Kd.int .u8).C w A n (nums l)) : kb.C w A n l := by
  refine ⟨by rw [← kH]; exact h.1, h.2.1, fun hn => ?_⟩
  obtain ⟨ad, e, hc⟩ := h.2.2 hn
  refine ⟨ad, e, fun j p hj => ?_⟩
  obtain ⟨c, h1, h2, h3⟩ := hc j (p.toNat : Int) (by unfold nums; rw [List.getElem?_map, hj]; rfl)
  exact ⟨c, h1, h2, h3⟩
theorem oM (l m : List UInt8) : ((strOfNums (nums l)).toList == (strOfNums (nums m)).toList) = decide (l = m) := by
  unfold nums
  rw [rP, rP, jO, jO]
  by_cases h : l = m
  · subst h; simp
  · simp [h]
theorem vC (x : SRec) : encR x = ([], 1) ∨ encR x = ([], 3) ∨ encR x = (nums (recE x), 0) := by
  unfold encR
  split
  · split
    · exact .inr (.inl rfl)
    · exact .inr (.inr rfl)
  · exact .inl rfl
def I8 (w : World) (r : SRec × Int) (e : Ending) (w' : World) : Prop := ∃ v, e = .returned (.tuple #[v, .int .u16 r.2]) ∧ RecV w.heap.size r.1 v w' ∧ Below w.heap.size w w'
theorem VK (w w' : World) (c : Int) (h : Below w.heap.size w w') : I8 w (rJ, c) (.returned (.tuple #[.agg #[.int .u8 0, .int .u32 0, .int .u32 0, .slice none 0 0, .slice none 0 0, .int .u32 0, .slice none 0 0, .int .i64 0, .int .i64 0, .slice none 0 0], .int .u16 c])) w' :=
  ⟨_, rfl, ⟨_, _, _, _, rfl, Kd.R_nil _ _ _ _ _, Kd.R_nil _ _ _ _ _, Kd.R_nil _ _ _ _ _, Kd.R_nil _ _ _ _ _⟩, h⟩
theorem lF {base : Nat} {x : SRec} {v : Value} {w w' : World} (h : RecV base x v w) (hb : Below w.heap.size w w') : RecV base x v w' := by
  obtain ⟨v3, v4, v6, v9, rfl, h3, h4, h6, h9⟩ := h
  exact ⟨v3, v4, v6, v9, rfl, Kd.R_below h3 hb, Kd.R_below h4 hb, Kd.R_below h6 hb, Kd.R_below h9 hb⟩
theorem uY {tmps : Array Value} {W : World} {p u : Tmp} {b : Nat} {cs : Array Value} {x : Value} (h : Tryd.f22.results = #[.cell p 30, .tmp u]) (hp : tmps.getD p undef = .pointer (some ⟨b, 0, none⟩)) (hu : tmps.getD u undef = x) (hx : W.heap[b]? = some (.cells cs 30 (0, 0))) (hs : cs.size = 10) :
    (results Tryd.f22 tmps).run Tryd.prog W = .ok (.tuple #[.agg cs, x]) W := by
  have h1 := run_loadVar_row (P := Tryd.prog) W b 30 30 cs (0, 0) _ hx Tryd.underlying30 rfl (by rw [hs]; kernel_rfl)
  rw [results_cell_tmp h, hp, hu]
  simp [asAddr, h1, Result.andThen]
theorem xR {w : World} {b : Nat} (h : w.heap[b]? = some (.cells #[.int .u8 0, .int .u32 0, .int .u32 0, .slice none 0 0, .slice none 0 0, .int .u32 0, .slice none 0 0, .int .i64 0, .int .i64 0, .slice none 0 0] 30 (0, 0))) : (Instr.storeAt 30 (.pointer (some ⟨b, 0, none⟩)) (.agg #[.int .u8 0, .int .u32 0, .int .u32 0, .slice none 0 0, .slice none 0 0, .int .u32 0, .slice none 0 0, .int .i64 0, .int .i64 0, .slice none 0 0])).run Tryd.prog w = .ok () (w.setRow b #[.int .u8 0, .int .u32 0, .int .u32 0, .slice none 0 0, .slice none 0 0, .int .u32 0, .slice none 0 0, .int .i64 0, .int .i64 0, .slice none 0 0]) := nD (a := 0) (k := 0) (i := 0) (x3 := .slice none 0 0) (x4 := .slice none 0 0) (j := 0) (x6 := .slice none 0 0) (p := 0) (q := 0) (x9 := .slice none 0 0) h rfl rfl rfl rfl
theorem xO (w W : World) (h : Below w.heap.size w W) (c : Int) : I8 w (rJ, c) (.returned (.tuple #[.agg #[.int .u8 0, .int .u32 0, .int .u32 0, .slice none 0 0, .slice none 0 0, .int .u32 0, .slice none 0 0, .int .i64 0, .int .i64 0, .slice none 0 0], .int .u16 c])) (W.setRow w.heap.size #[.int .u8 0, .int .u32 0, .int .u32 0, .slice none 0 0, .slice none 0 0, .int .u32 0, .slice none 0 0, .int .i64 0, .int .i64 0, .slice none 0 0]) :=
  VK w _ c (below_grown h (jC W w.heap.size _) (Nat.le_refl _) (Nat.le_refl _))
attribute [-go_sem] Instr.build Instr.storeAt Instr.loadAt
attribute [local go_sem] RZ
set_option maxRecDepth 20000 in
set_option maxHeartbeats 8000000 in
theorem decode_any (A : Option Addr) (c : Nat) (l : List UInt8) (w : World) (hCi : (Kd.int .u8).C w A l.length (nums l)) (hc : l.length ≤ c) :
    Calls Tryd.prog 22 #[.slice A l.length c] w (I8 w (decR l)) := by
  obtain ⟨Wa, hWa⟩ : ∃ Wa, Wa = w.alloc (.cells #[.int .u8 0, .int .u32 0, .int .u32 0, .slice none 0 0, .slice none 0 0, .int .u32 0, .slice none 0 0, .int .i64 0, .int .i64 0, .slice none 0 0] 30) := ⟨_, rfl⟩
  have HWA := iD.mk hWa
  have hBa : Below w.heap.size w Wa := by rw [hWa]; exact iF (Below.refl _ _) _
  have HXA := iD.mk (show Wa.heap[w.heap.size]? = some (.cells #[.int .u8 0, .int .u32 0, .int .u32 0, .slice none 0 0, .slice none 0 0, .int .u32 0, .slice none 0 0, .int .i64 0, .int .i64 0, .slice none 0 0] 30 (0, 0)) from by rw [hWa]; exact iT rfl)
  have HBA := iD.mk hBa
  have HLT := iD.mk (kD HXA.out)
  have HCI := iD.mk (Kd.C_below hCi hBa)
  have HC := iD.mk (qV HCI.out)
  clear hCi hWa hBa
  unfold decR
  by_cases hl : 60000 < l.length
  · rw [if_pos hl]
    have hst := fun (_ : True) => xR (show (w.alloc (.cells #[.int .u8 0, .int .u32 0, .int .u32 0, .slice none 0 0, .slice none 0 0, .int .u32 0, .slice none 0 0, .int .i64 0, .int .i64 0, .slice none 0 0] 30)).heap[w.heap.size]? = _ from iT rfl)
    go_enter Tryd.func22, Tryd.ntmps22
    go_wp2
    ((try simp only [Exit.inBlock, Exit.then]); exact bodyPost_ret (uY rfl rfl rfl (setRow_heap _ _ _ _ _ _ (iT rfl)) rfl) rfl (xO w _ (iF (Below.refl _ _) _) 3))
  · rw [if_neg hl]
    have hcall := QI A c l Wa HC.out hc (by omega)
    cases hp : recP l with
    | none =>
      go_enter Tryd.func22, Tryd.ntmps22
      go_wp2_with fail
      rw [← HWA.out]
      refine hcall.mono ?_
      rintro e w1 ⟨hB, hor⟩
      rcases hor.symm with ⟨_, rfl⟩ | ⟨x, r, v, h, _⟩
      case inr => rw [hp] at h; cases h
      have HX := iD.mk ((hB.block _ HLT.out).trans HXA.out)
      have HB := iD.mk (HBA.out.trans (hB.mono HBA.out.size))
      have hst := fun (_ : True) => xR (show (w1.alloc (.cells #[.int .u8 0, .int .u32 0, .int .u32 0, .slice none 0 0, .slice none 0 0, .int .u32 0, .slice none 0 0, .int .i64 0, .int .i64 0, .slice none 0 0] 30)).heap[w.heap.size]? = _ from jH HX.out)
      have hsx := fun (_ : True) => run_storeAt_new (P := Tryd.prog) w1 30 #[.int .u8 0, .int .u32 0, .int .u32 0, .slice none 0 0, .slice none 0 0, .int .u32 0, .slice none 0 0, .int .i64 0, .int .i64 0, .slice none 0 0] #[.int .u8 0, .int .u32 0, .int .u32 0, .slice none 0 0, .slice none 0 0, .int .u32 0, .slice none 0 0, .int .i64 0, .int .i64 0, .slice none 0 0] (by kernel_rfl) rfl (by simp [Value.oneCell'])
      clear hp hcall hB hor
      go_wp2
      ((try simp only [Exit.inBlock, Exit.then]); exact bodyPost_ret (uY rfl rfl rfl (setRow_heap _ _ _ _ _ _ (jH HX.out)) rfl) rfl (xO w _ (iF HB.out _) 70))
    | some y =>
      obtain ⟨x, r⟩ := y
      obtain ⟨D, hD⟩ : ∃ D : SRec × Int, D = (if encR x = (nums l, 0) then (x, 0) else (rJ, 70)) := ⟨_, rfl⟩
      show Calls _ _ _ _ (I8 w (if encR x = (nums l, 0) then (x, 0) else (rJ, 70)))
      rw [← hD]
      have HDD := iD.mk hD
      clear hD
      go_enter Tryd.func22, Tryd.ntmps22
      go_wp2_with fail
      rw [← HWA.out]
      refine hcall.mono ?_
      rintro e w1 ⟨hB, hor⟩
      rcases hor.symm with ⟨h, _⟩ | ⟨x', r', v, h, rfl, hv⟩
      case inl => rw [hp] at h; cases h
      rw [hp] at h
      injection h with h
      injection h with e1 e2
      subst e1
      subst e2
      clear hp hcall hor
      have HX := iD.mk ((hB.block _ HLT.out).trans HXA.out)
      have HB := iD.mk (HBA.out.trans (hB.mono HBA.out.size))
      have HCB0 := iD.mk (Kd.C_below HCI.out hB)
      obtain ⟨v3, v4, v6, v9, rfl, h3, h4, h6, h9⟩ := hv
      obtain ⟨A3, d3, rfl⟩ := Kd.R_slice h3
      obtain ⟨A4, d4, rfl⟩ := Kd.R_slice h4
      obtain ⟨A6, d6, rfl⟩ := Kd.R_slice h6
      obtain ⟨A9, d9, rfl⟩ := Kd.R_slice h9
      have hbw : Below w1.heap.size w1 (w1.alloc (.cells #[.int .u8 x.f0, .int .u32 x.f1, .int .u32 x.f2, .slice A3 x.f3.length d3, .slice A4 x.f4.length d4, .int .u32 x.f5.f0, .slice A6 x.f5.f1.length d6, .int .i64 x.f6, .int .i64 x.f7, .slice A9 x.f8.length d9] 30)) := iF (Below.refl _ _) _
      have HV := iD.mk (lF (show RecV Wa.heap.size x _ w1 from ⟨_, _, _, _, rfl, h3, h4, h6, h9⟩) hbw)
      have HX0 := HX
      have HX := iD.mk (show (w1.alloc (.cells #[.int .u8 x.f0, .int .u32 x.f1, .int .u32 x.f2, .slice A3 x.f3.length d3, .slice A4 x.f4.length d4, .int .u32 x.f5.f0, .slice A6 x.f5.f1.length d6, .int .i64 x.f6, .int .i64 x.f7, .slice A9 x.f8.length d9] 30)).heap[w.heap.size]? = _ from jH HX0.out)
      have HB := iD.mk (show Below w.heap.size w (w1.alloc (.cells #[.int .u8 x.f0, .int .u32 x.f1, .int .u32 x.f2, .slice A3 x.f3.length d3, .slice A4 x.f4.length d4, .int .u32 x.f5.f0, .slice A6 x.f5.f1.length d6, .int .i64 x.f6, .int .i64 x.f7, .slice A9 x.f8.length d9] 30)) from iF HB.out _)
      have HCB := iD.mk (Kd.C_below HCB0.out hbw)
      have HXX := iD.mk (show (w1.alloc (.cells #[.int .u8 x.f0, .int .u32 x.f1, .int .u32 x.f2, .slice A3 x.f3.length d3, .slice A4 x.f4.length d4, .int .u32 x.f5.f0, .slice A6 x.f5.f1.length d6, .int .i64 x.f6, .int .i64 x.f7, .slice A9 x.f8.length d9] 30)).heap[w1.heap.size]? = some (.cells #[.int .u8 x.f0, .int .u32 x.f1, .int .u32 x.f2, .slice A3 x.f3.length d3, .slice A4 x.f4.length d4, .int .u32 x.f5.f0, .slice A6 x.f5.f1.length d6, .int .i64 x.f6, .int .i64 x.f7, .slice A9 x.f8.length d9] 30 (0, 0)) from iT rfl)
      have h3 := Kd.R_below h3 hbw
      have h4 := Kd.R_below h4 hbw
      have h6 := Kd.R_below h6 hbw
      have h9 := Kd.R_below h9 hbw
      have hsx := fun (_ : True) => run_storeAt_new (P := Tryd.prog) w1 30 #[.int .u8 0, .int .u32 0, .int .u32 0, .slice none 0 0, .slice none 0 0, .int .u32 0, .slice none 0 0, .int .i64 0, .int .i64 0, .slice none 0 0] #[.int .u8 x.f0, .int .u32 x.f1, .int .u32 x.f2, .slice A3 x.f3.length d3, .slice A4 x.f4.length d4, .int .u32 x.f5.f0, .slice A6 x.f5.f1.length d6, .int .i64 x.f6, .int .i64 x.f7, .slice A9 x.f8.length d9] (by kernel_rfl) rfl (by simp [Value.oneCell'])
      have hlx := fun (_ : True) => mM HXX.out rfl
      obtain ⟨_, q3, C3⟩ := Kd.R_reads' h3
      obtain ⟨_, q4, C4⟩ := Kd.R_reads' h4
      obtain ⟨_, q6, C6⟩ := Kd.R_reads' h6
      obtain ⟨_, q9, C9⟩ := Kd.R_reads' h9
      have hcall := fun r1 r2 (h : encR x = (r1, r2)) => code_Encode.calls x.f0 x.f1 x.f2 A3 d3 x.f3 A4 d4 x.f4 x.f5.f0 A6 d6 x.f5.f1 x.f6 x.f7 A9 d9 x.f8 r1 r2 (w1.alloc (.cells #[.int .u8 x.f0, .int .u32 x.f1, .int .u32 x.f2, .slice A3 x.f3.length d3, .slice A4 x.f4.length d4, .int .u32 x.f5.f0, .slice A6 x.f5.f1.length d6, .int .i64 x.f6, .int .i64 x.f7, .slice A9 x.f8.length d9] 30)) C3 q3 C4 q4 C6 q6 C9 q9 (congrArg some h)
      clear h3 h4 h6 h9 C3 C4 C6 C9 q3 q4 q6 q9 hB hbw HX0 HCB0
      rcases vC x with he | he | he
      · have hcall := hcall _ _ he
        have HNE := iD.mk (show ¬ encR x = (nums l, 0) from by rw [he]; intro h; injection h with h1 h2; cases h2)
        clear he
        go_wp2_with fail
        refine hcall.mono ?_
        rintro e w2 ⟨v0, rfl, h0, hB2⟩
        have HX2 := iD.mk ((hB2.block _ (kD HX.out)).trans HX.out)
        have HB3 := iD.mk (HB.out.trans (hB2.mono HB.out.size))
        have hst := fun (_ : True) => xR HX2.out
        clear hB2 hcall h0
        go_wp2
        ((try simp only [Exit.inBlock, Exit.then]); exact bodyPost_ret (uY rfl rfl rfl (setRow_heap _ _ _ _ _ _ HX2.out) rfl) rfl (by rw [HDD.out, if_neg HNE.out]; exact xO w _ HB3.out 70))
      · have hcall := hcall _ _ he
        have HNE := iD.mk (show ¬ encR x = (nums l, 0) from by rw [he]; intro h; injection h with h1 h2; cases h2)
        clear he
        go_wp2_with fail
        refine hcall.mono ?_
        rintro e w2 ⟨v0, rfl, h0, hB2⟩
        have HX2 := iD.mk ((hB2.block _ (kD HX.out)).trans HX.out)
        have HB3 := iD.mk (HB.out.trans (hB2.mono HB.out.size))
        have hst := fun (_ : True) => xR HX2.out
        clear hB2 hcall h0
        go_wp2
        ((try simp only [Exit.inBlock, Exit.then]); exact bodyPost_ret (uY rfl rfl rfl (setRow_heap _ _ _ _ _ _ HX2.out) rfl) rfl (by rw [HDD.out, if_neg HNE.out]; exact xO w _ HB3.out 70))
      · have hcall := hcall _ _ he
        have HE := iD.mk he
        clear he
        go_wp2_with fail
        refine hcall.mono ?_
        rintro e w2 ⟨v0, rfl, h0, hB2⟩
        clear hcall
        obtain ⟨A0, d0, rfl⟩ := Kd.R_slice h0
        obtain ⟨_, q0, C0⟩ := Kd.R_reads' h0
        have HX2 := iD.mk ((hB2.block _ (kD HX.out)).trans HX.out)
        have HB3 := iD.mk (HB.out.trans (hB2.mono HB.out.size))
        have HV2 := iD.mk (lF HV.out hB2)
        have HXX2 := iD.mk ((hB2.block _ (kD HXX.out)).trans HXX.out)
        have hcall := bytes_Equal.calls A0 d0 (nums (recE x)) A c (nums l) _ w2 C0 q0 (by rw [kH]; exact Kd.C_below HCB.out hB2) (by rw [kH]; exact hc) rfl
        rw [oM, kH l] at hcall
        clear C0 h0 hB2 q0
        by_cases hq : recE x = l
        · rw [decide_eq_true hq] at hcall
          have HEQ := iD.mk (show encR x = (nums l, 0) from by rw [HE.out, hq])
          clear hq
          go_wp2_with fail
          refine hcall.mono ?_
          rintro e w3 ⟨rfl, hD⟩
          have HX3 := iD.mk ((hD.below.block _ (kD HX2.out)).trans HX2.out)
          have HB4 := iD.mk (HB3.out.trans (hD.below.mono HB3.out.size))
          have HV3 := iD.mk (lF HV2.out hD.below)
          have hl3 := fun (_ : True) => mM ((hD.below.block _ (kD HXX2.out)).trans HXX2.out) rfl
          have hst := fun (_ : True) => nD (a := x.f0) (k := x.f1) (i := x.f2) (x3 := .slice A3 x.f3.length d3) (x4 := .slice A4 x.f4.length d4) (j := x.f5.f0) (x6 := .slice A6 x.f5.f1.length d6) (p := x.f6) (q := x.f7) (x9 := .slice A9 x.f8.length d9) HX3.out rfl rfl rfl rfl
          clear hcall hD
          go_wp2
          (try simp only [Exit.inBlock, Exit.then])
          refine bodyPost_ret (uY rfl rfl rfl (setRow_heap _ _ _ _ _ _ HX3.out) rfl) rfl ?_
          rw [HDD.out, if_pos HEQ.out]
          exact ⟨_, rfl, yY (kN HV3.out (jC _ w.heap.size _) HLT.out) HBA.out.size, below_grown HB4.out (jC _ w.heap.size _) (Nat.le_refl _) (Nat.le_refl _)⟩
        · rw [decide_eq_false hq] at hcall
          have HNE := iD.mk (show ¬ encR x = (nums l, 0) from by rw [HE.out]; intro h; injection h with h1 h2; exact hq (N8 h1))
          clear hq
          go_wp2_with fail
          refine hcall.mono ?_
          rintro e w3 ⟨rfl, hD⟩
          have HX3 := iD.mk ((hD.below.block _ (kD HX2.out)).trans HX2.out)
          have HB4 := iD.mk (HB3.out.trans (hD.below.mono HB3.out.size))
          have hst := fun (_ : True) => xR HX3.out
          clear hcall hD
          go_wp2
          ((try simp only [Exit.inBlock, Exit.then]); exact bodyPost_ret (uY rfl rfl rfl (setRow_heap _ _ _ _ _ _ HX3.out) rfl) rfl (by rw [HDD.out, if_neg HNE.out]; exact xO w _ HB4.out 70))
def code_Decode.f (l0 : List Int) : Option (Int × Int × Int × List Int × List jK × Int × List jX × Int × Int × List jG × Int) := if nums (bytesOf l0) = l0 then some (XV (decR (bytesOf l0))) else none
end Go.Proofs.YtgfkgppomaapiaaDoor.K
end

section
namespace Go.Proofs.YtgfkgppomaapiaaDoor.K
open Go Go.RowKit Go.Proofs.YtgfkgppomaapiaaDoorW.PrintWords Go.Proofs.YtgfkgppomaapiaaDoorW.PrintLast Go.Proofs.YtgfkgppomaapiaaDoorW.PrintMore Go.Proofs.YtgfkgppomaapiaaDoor.My
def stratumlaw07_known.f : Option Bool := some true
attribute [-go_sem] Instr.build Instr.storeAt Instr.loadAt
end Go.Proofs.YtgfkgppomaapiaaDoor.K
end

section
namespace Go.Proofs.YtgfkgppomaapiaaDoor.K
open Go.RowKit Go.Proofs.YtgfkgppomaapiaaDoorW.PrintWords Go.Proofs.YtgfkgppomaapiaaDoor.My
structure SMsg where
  f0 : Int
  f1 : Int
  f2 : Int
  f3 : List Int
  f4 : List jK
  f5 : Int
  f6 : Int
  f7 : List jG
def mY (k : Int) : Int :=
  if k = 1 then 1 else if k = 4 then 2 else if k = 8 then 7 else if k = 9 then 7 else if k = 10 then 7
  else if k = 2 then 4 else if k = 3 then 4 else if k = 5 then 4 else if k = 6 then 4 else if k = 7 then 4 else if k = 11 then 4 else 0
/-- A message's record. -/
def recM (m : SMsg) : SRec := ⟨mY m.f0, m.f1, m.f2, m.f3, m.f4, ⟨0, []⟩, m.f5, m.f6, m.f7⟩
/-- A record's message, of a kind. -/
def msgR (k : Int) (r : SRec) : SMsg := ⟨k, r.f1, r.f2, r.f3, r.f4, r.f6, r.f7, r.f8⟩
def preM (m : SMsg) : Bool := !(decide (m.f0 = 4) && decide (0 < m.f3.length)) && !(decide (m.f0 = 8) && decide (0 < m.f7.length)) && !(decide (m.f0 = 9) && (!decide (m.f5 = 0) || !decide (m.f6 = 0)))
def mW (m : SMsg) : Bool := preM m && jP (recM m)
def encM (m : SMsg) : List Int × Int := if mW m = true then (if (encR (recM m)).2 = 0 then (m.f0 :: (encR (recM m)).1, 0) else ([], (encR (recM m)).2)) else ([], 1)
def lZ : SMsg := ⟨0, 0, 0, [], [], 0, 0, []⟩
def decM (l : List UInt8) : SMsg × Int := match l with
  | [] => (lZ, 160)
  | k :: t => if (decR t).2 = 0 then (if encM (msgR k.toNat (decR t).1) = (nums (k :: t), 0) then (msgR k.toNat (decR t).1, 0) else (lZ, 160)) else (lZ, 160)
theorem O8 (m : SMsg) : encM m = ([], 1) ∨ encM m = ([], 3) ∨ (mW m = true ∧ encM m = (m.f0 :: nums (recE (recM m)), 0)) := by
  unfold encM
  by_cases hs : mW m = true
  · rw [if_pos hs]
    rcases vC (recM m) with h | h | h <;> rw [h]
    · exact .inl (if_neg (by decide))
    · exact .inr (.inl (if_neg (by decide)))
    · exact .inr (.inr ⟨hs, if_pos rfl⟩)
  · rw [if_neg hs]; exact .inl rfl
def pM : SMsg := ⟨2, 5, 0, [], [], 0, 0, []⟩
theorem OT : encM pM = (nums [2, 4, 0, 0, 0, 5], 0) := by decide
theorem NQ : decM [2, 4, 0, 0, 0, 5] = (pM, 0) := by rfl
theorem O4 : decM [99] = (lZ, 160) := by rfl
theorem JD : mW pM = true := by rfl
theorem RG (k : Int) : mY k = 0 ∨ (mY k = 1 ∧ k = 1) ∨ (mY k = 2 ∧ k = 4) ∨ (mY k = 7 ∧ 8 ≤ k ∧ k ≤ 10) ∨ (mY k = 4 ∧ 2 ≤ k ∧ k ≤ 11 ∧ k ≠ 4 ∧ ¬ (8 ≤ k ∧ k ≤ 10)) := by
  unfold mY; repeat' split
  all_goals omega
theorem NK (k : Int) (h : mY k = 0) : k < 1 ∨ 11 < k := by
  unfold mY at h
  repeat' split at h
  all_goals omega
end Go.Proofs.YtgfkgppomaapiaaDoor.K
end

section
namespace Go.Proofs.YtgfkgppomaapiaaDoor.K
open Go.RowKit Go.Proofs.YtgfkgppomaapiaaDoorW.PrintWords Go.Proofs.YtgfkgppomaapiaaDoorW.PrintLast Go.Proofs.YtgfkgppomaapiaaDoorW.PrintMore
attribute [local go_sem] kE kQ
def stratumref07_SoundNodes.l0 : Nat → List Int → Int → Option (Bool)
  | 0, _, _ => none
  | k + 1, x0, x3 => if x3 < (x0.length : Int) then (if 0 ≤ x3 then (if (rd x0 x3) < 0 then (some false) else (if (rd x0 x3) > 5 then (some false) else (if x3 > 0 then (if 0 ≤ (wrap64 (x3 - 1)) then (if (wrap64 (x3 - 1)) < (x0.length : Int) then (if (rd x0 x3) ≤ (rd x0 (wrap64 (x3 - 1))) then (some false) else (stratumref07_SoundNodes.l0 k x0 (wrap64 (x3 + 1)))) else (none)) else (none)) else (stratumref07_SoundNodes.l0 k x0 (wrap64 (x3 + 1)))))) else (none)) else (some true)
def stratumref07_SoundNodes.f (k : Nat) (l0 : List Int) : Option (Bool) := stratumref07_SoundNodes.l0 k l0 0
end Go.Proofs.YtgfkgppomaapiaaDoor.K
end

section
namespace Go.Proofs.YtgfkgppomaapiaaDoor.K
open Go.RowKit Go.Proofs.YtgfkgppomaapiaaDoorW.PrintWords Go.Proofs.YtgfkgppomaapiaaDoorW.PrintLast Go.Proofs.YtgfkgppomaapiaaDoorW.PrintMore
attribute [local go_sem] kE kQ
mutual
def stratumref07_SoundFacts.l0 : Nat → List (S139) → Int → Option (Bool)
  | 0, _, _ => none
  | k + 1, x0, x3 => if x3 < (x0.length : Int) then (stratumref07_SoundFacts.l1 k x0 x3 0) else (some (decide ((x0.length : Int) ≤ 200)))
def stratumref07_SoundFacts.l1 : Nat → List (S139) → Int → Int → Option (Bool)
  | 0, _, _, _ => none
  | k + 1, x0, x3, x4 => if 0 ≤ x3 then (if x3 < (x0.length : Int) then (if x4 < (((jA x0 x3).f0).length : Int) then (if 0 ≤ x4 then (if (rd ((jA x0 x3).f0) x4) < 0 then (some false) else (if (rd ((jA x0 x3).f0) x4) > 9999 then (some false) else (stratumref07_SoundFacts.l1 k x0 x3 (wrap64 (x4 + 1))))) else (none)) else (if (((jA x0 x3).f0).length : Int) > 4 then (some false) else (stratumref07_SoundFacts.l0 k x0 (wrap64 (x3 + 1))))) else (none)) else (none)
end
def stratumref07_SoundFacts.f (k : Nat) (l0 : List (S139)) : Option (Bool) := stratumref07_SoundFacts.l0 k l0 0
end Go.Proofs.YtgfkgppomaapiaaDoor.K
end

section
namespace Go.Proofs.YtgfkgppomaapiaaDoor.K
open Go.RowKit Go.Proofs.YtgfkgppomaapiaaDoorW.PrintWords Go.Proofs.YtgfkgppomaapiaaDoorW.PrintLast Go.Proofs.YtgfkgppomaapiaaDoorW.PrintMore
attribute [local go_sem] kE kQ
def stratumref07_spans.l0 : Nat → List (S98) → Int → Option (Bool)
  | 0, _, _ => none
  | k + 1, x0, x3 => if x3 < (x0.length : Int) then (if 0 ≤ x3 then (if ((kS x0 x3).f0) < 0 then (some false) else (if ((kS x0 x3).f0) > 9999 then (some false) else (if ((kS x0 x3).f1) < 0 then (some false) else (if ((kS x0 x3).f1) > 5 then (some false) else (stratumref07_spans.l0 k x0 (wrap64 (x3 + 1))))))) else (none)) else (some (decide ((x0.length : Int) ≤ 40)))
def stratumref07_spans.f (k : Nat) (l0 : List (S98)) : Option (Bool) := stratumref07_spans.l0 k l0 0
end Go.Proofs.YtgfkgppomaapiaaDoor.K
end

section
namespace Go.Proofs.YtgfkgppomaapiaaDoor.K
open Go.RowKit Go.Proofs.YtgfkgppomaapiaaDoorW.PrintWords Go.Proofs.YtgfkgppomaapiaaDoorW.PrintLast Go.Proofs.YtgfkgppomaapiaaDoorW.PrintMore
attribute [local go_sem] kE kQ
def stratumref07_SoundEntries.l0 : Nat → List (S86) → Int → Option (Bool)
  | 0, _, _ => none
  | k + 1, x0, x3 => if x3 < (x0.length : Int) then (if 0 ≤ x3 then ((stratumref07_SoundFacts.f k ((iU x0 x3).f1)).bind fun t132 => (if t132 = true then (if x3 > 0 then (if 0 ≤ (wrap64 (x3 - 1)) then (if (wrap64 (x3 - 1)) < (x0.length : Int) then (if ((iU x0 x3).f0) ≤ ((iU x0 (wrap64 (x3 - 1))).f0) then (some false) else (stratumref07_SoundEntries.l0 k x0 (wrap64 (x3 + 1)))) else (none)) else (none)) else (stratumref07_SoundEntries.l0 k x0 (wrap64 (x3 + 1)))) else (some false))) else (none)) else (some (decide ((x0.length : Int) ≤ 5000)))
def stratumref07_SoundEntries.f (k : Nat) (l0 : List (S86)) : Option (Bool) := stratumref07_SoundEntries.l0 k l0 0
end Go.Proofs.YtgfkgppomaapiaaDoor.K
end

section
namespace Go.Proofs.YtgfkgppomaapiaaDoor.K
open Go Go.RowKit Go.Proofs.YtgfkgppomaapiaaDoorW.PrintWords Go.Proofs.YtgfkgppomaapiaaDoorW.PrintLast Go.Proofs.YtgfkgppomaapiaaDoorW.PrintMore Go.Proofs.YtgfkgppomaapiaaDoor.My
/-- A flag behind so many letters. -/
def flag (b : Bool) (c : Nat) (s : List UInt8) : Bool := b || s.any fun x => x.toNat == c
def XY (a1 a2 : Int) (l3 : List Int) (l4 : List jK) (a5 : Int) (l6 : List jX) (a7 a8 : Int) (l9 : List jG) (s : List UInt8) : Bool :=
  flag (a1 == 0) 73 s && flag (a2 == 0) 65 s && flag ((l3.length : Int) == 0) 78 s && flag ((l4.length : Int) == 0) 70 s && flag ((a5 == 0) && ((l6.length : Int) == 0)) 77 s && flag ((a7 == 0) && (a8 == 0) && ((l9.length : Int) == 0)) 82 s
def stratumref07_bare.f (a0_0 : Int) (a0_1 : Int) (a0_2 : Int) (l0_3 : List Int) (l0_4 : List jK) (a0_5 : Int) (l0_6 : List jX) (a0_7 : Int) (a0_8 : Int) (l0_9 : List jG) (a1 : ByteArray) : Option Bool :=
  if (a1.size : Int) ≤ 9223372036854775807 then some (XY a0_1 a0_2 l0_3 l0_4 a0_5 l0_6 a0_7 a0_8 l0_9 a1.data.toList) else none
end Go.Proofs.YtgfkgppomaapiaaDoor.K
end

section
namespace Go.Proofs.YtgfkgppomaapiaaDoor.K
open Go.RowKit Go.Proofs.YtgfkgppomaapiaaDoorW.PrintWords Go.Proofs.YtgfkgppomaapiaaDoorW.PrintLast Go.Proofs.YtgfkgppomaapiaaDoorW.PrintMore
attribute [local go_sem] kE kQ
def stratumref07_Sound.j0 : Nat → Int → Bool → Int → Int → Int → List Int → List (S139) → Int → List (S98) → Int → Int → List (S86) → Option (Bool)
  | 0, _, _, _, _, _, _, _, _, _, _, _, _ => none
  | k + 1, x4, x28, x136000, x136001, x136002, x136003, x136004, x136005, x136006, x136007, x136008, x136009 => if x28 = true then ((stratumref07_bare.f x136000 x136001 x136002 x136003 x136004 x136005 x136006 x136007 x136008 x136009 (⟨#[73]⟩ : ByteArray)).bind fun t141 => (some t141)) else (if x4 = 6 then ((stratumref07_bare.f x136000 x136001 x136002 x136003 x136004 x136005 x136006 x136007 x136008 x136009 (⟨#[77]⟩ : ByteArray)).bind fun t142 => (if t142 = true then ((stratumref07_spans.f k x136006).bind fun t143 => (some t143)) else (some false))) else (if x4 = 7 then ((stratumref07_bare.f x136000 x136001 x136002 x136003 x136004 x136005 x136006 x136007 x136008 x136009 (⟨#[73, 82]⟩ : ByteArray)).bind fun t144 => (if t144 = true then ((stratumref07_SoundEntries.f k x136009).bind fun t145 => (if t145 = true then (if x136007 ≥ 0 then (if x136007 ≤ 10000 then (if x136008 ≥ 0 then (some (decide (x136008 ≤ 10000))) else (some false)) else (some false)) else (some false)) else (some false))) else (some false))) else (some false)))
def stratumref07_Sound.f (k : Nat) (a0_0 : Int) (a0_1 : Int) (a0_2 : Int) (l0_3 : List Int) (l0_4 : List (S139)) (a0_5 : Int) (l0_6 : List (S98)) (a0_7 : Int) (a0_8 : Int) (l0_9 : List (S86)) : Option (Bool) := if a0_0 = 1 then ((stratumref07_bare.f a0_0 a0_1 a0_2 l0_3 l0_4 a0_5 l0_6 a0_7 a0_8 l0_9 (⟨#[73, 78, 70]⟩ : ByteArray)).bind fun t136 => (if t136 = true then ((stratumref07_SoundNodes.f k l0_3).bind fun t137 => (if t137 = true then ((stratumref07_SoundFacts.f k l0_4).bind fun t138 => (some t138)) else (some false))) else (some false))) else (if a0_0 = 2 then ((stratumref07_bare.f a0_0 a0_1 a0_2 l0_3 l0_4 a0_5 l0_6 a0_7 a0_8 l0_9 (⟨#[73, 65, 78]⟩ : ByteArray)).bind fun t139 => (if t139 = true then ((stratumref07_SoundNodes.f k l0_3).bind fun t140 => (some t140)) else (some false))) else (if a0_0 = 3 then (stratumref07_Sound.j0 k a0_0 (a0_0 == 3) a0_0 a0_1 a0_2 l0_3 l0_4 a0_5 l0_6 a0_7 a0_8 l0_9) else (if a0_0 = 4 then (stratumref07_Sound.j0 k a0_0 (a0_0 == 4) a0_0 a0_1 a0_2 l0_3 l0_4 a0_5 l0_6 a0_7 a0_8 l0_9) else (stratumref07_Sound.j0 k a0_0 (a0_0 == 5) a0_0 a0_1 a0_2 l0_3 l0_4 a0_5 l0_6 a0_7 a0_8 l0_9))))
end Go.Proofs.YtgfkgppomaapiaaDoor.K
end

section
namespace Go.Proofs.YtgfkgppomaapiaaDoor.K
open Go Go.RowKit Go.Proofs.YtgfkgppomaapiaaDoorW.PrintWords Go.Proofs.YtgfkgppomaapiaaDoorW.PrintLast Go.Proofs.YtgfkgppomaapiaaDoorW.PrintMore Go.Proofs.YtgfkgppomaapiaaDoor.My
theorem QN {α : Type} (d : α) (l : List α) (i : Int) (h : i.toNat < l.length) (h0 : 0 ≤ i) : l.drop i.toNat = l.getD i.toNat d :: l.drop (i + 1).toNat := by
  rw [List.drop_eq_getElem_cons h, show (i + 1).toNat = i.toNat + 1 by omega]
  congr 1
  rw [List.getD_eq_getElem?_getD, List.getElem?_eq_getElem h]
  rfl
theorem drop_end {α : Type} (l : List α) (i : Int) (h : ¬ i < (l.length : Int)) : l.drop i.toNat = [] := List.drop_of_length_le (by omega)
/-- The lengths of what is in a record. -/
structure V9 (l3 : List Int) (l4 : List jK) (l6 : List jX) (l9 : List jG) : Prop where
  n3 : l3.length ≤ 9223372036854775807
  n4 : l4.length ≤ 9223372036854775807
  f4 : ∀ f ∈ l4, f.f0.length ≤ 9223372036854775807
  n6 : l6.length ≤ 9223372036854775807
  n9 : l9.length ≤ 9223372036854775807
  f9 : ∀ e ∈ l9, e.f1.length ≤ 9223372036854775807 ∧ ∀ f ∈ e.f1, f.f0.length ≤ 9223372036854775807
theorem TB {g : Nat → Option Bool} {b : Bool} (B : Bool) (h : Ev g b) : Ev (fun k => if B = true then g k else some false) (B && b) := by
  cases B with
  | false => exact Ev.now _
  | true => exact h
end Go.Proofs.YtgfkgppomaapiaaDoor.K
end

section
namespace Go.Proofs.YtgfkgppomaapiaaDoor.K
open Go.RowKit Go.Proofs.YtgfkgppomaapiaaDoorW.PrintWords Go.Proofs.YtgfkgppomaapiaaDoorW.PrintLast Go.Proofs.YtgfkgppomaapiaaDoorW.PrintMore
attribute [local go_sem] kE kQ
def stratumref07_Put.l0 : Nat → List Int → Int → Int → Option (List Int)
  | 0, _, _, _ => none
  | k + 1, x0, x1, x7 => if x7 ≥ 0 then (if 0 ≤ (IntKind.u64.wrap (8 * (IntKind.u64.wrap (x7)))) then (if x0.length < 140737488355328 then (stratumref07_Put.l0 k (x0 ++ [(shr .u64 x1 (IntKind.u64.wrap (8 * (IntKind.u64.wrap (x7))))) % 256]) x1 (wrap64 (x7 - 1))) else (none)) else (none)) else (some x0)
def stratumref07_Put.f (k : Nat) (l0 : List Int) (a1 : Int) (a2 : Int) : Option (List Int) := stratumref07_Put.l0 k l0 a1 (wrap64 (a2 - 1))
set_option maxHeartbeats 8000000 in
set_option maxRecDepth 100000 in
theorem stratumref07_Put.calls (k : Nat) (P0_ : Nat → Prop) (u9000_ : Value) (l0 : List Int) (a1 : Int) (a2 : Int) (r : List Int) (w0 w : World) (hB : Below w0.heap.size w0 w) (ho0 : Kd.R (Kd.int .u8) 5 w w0.heap.size P0_ u9000_ l0) (h : stratumref07_Put.f k l0 a1 a2 = some r) :
    Calls Tryd.prog 57 #[u9000_, .int .u64 a1, .int .i64 a2] w fun e w' => ∃ v0_ : Value, e = .returned (v0_) ∧ Kd.R (Kd.int .u8) 5 w' w0.heap.size (fun k_ => (P0_ k_ ∨ w.heap.size ≤ k_)) v0_ r ∧ Below w0.heap.size w0 w' ∧ Kept w w' (fun k_ => P0_ k_) := by
  have HO0 := iD.mk (show Kd.R (Kd.int .u8) 5 w w0.heap.size (fun k_ => (P0_ k_ ∨ w.heap.size ≤ k_)) u9000_ l0 from Kd.R_mono ho0 (fun k_ hk => (.inl hk)))
  have HK := iD.mk (Kept.refl w (fun k_ => P0_ k_))
  have HW0 := iD.mk hB.size
  have HB := iD.mk hB
  clear hB
  have H : (stratumref07_Put.l0 k l0 a1 (wrap64 (a2 - 1))) = some r := h
  clear h
  have H' := iD.mk H
  clear H
  go_enter Tryd.func57, Tryd.ntmps57
  go_wp2
  go_loopg [0, 7] k (fun kq v0 v7 w' => ∃ (x0_1 : List Int) (x7_1 : Int), v7 = .int .i64 x7_1 ∧ iD (stratumref07_Put.l0 kq x0_1 a1 x7_1 = some r) ∧ iD (kq ≤ k) ∧ iD (Kd.R (Kd.int .u8) 5 w' w0.heap.size (fun k_ => (P0_ k_ ∨ w.heap.size ≤ k_)) v0 x0_1) ∧ iD (Kept w w' (fun k_ => P0_ k_)) ∧ iD (Below w0.heap.size w0 w'))
  case atStart => exact ⟨(l0), (wrap64 (a2 - 1)), (by first | rfl | (simp; done) | (simp [*]; done)), H', ⟨Nat.le_refl _⟩, ⟨by (with_reducible repeat (first | apply Kd.R_alloc | apply Kd.R_drewN | apply Kd.R_drew)); exact HO0.out⟩, ⟨by repeat (first | (with_reducible first | exact HK.out | apply Kept.alloc | apply Kept.drewN | apply Kept.drew) | exact HK.out)⟩, ⟨hb_⟩⟩
  case round =>
    clear H'
    try clear p2
    obtain ⟨x0_1, x7_1, rfl, HA, HK1, HO_0, HK, HB⟩ := hrel
    cases gk with
    | zero => exact absurd HA.out (by simp [stratumref07_Put.l0])
    | succ k1 =>
      have H := HA.out
      clear HA
      simp only [stratumref07_Put.l0] at H
      by_cases c4 : x7_1 ≥ 0
      · rw [if_pos c4] at H
        have c4b0 : decide (0 ≤ x7_1) = true := decide_eq_true c4
        clear c4
        obtain ⟨ji5, hji5⟩ : ∃ j_ : Int, (IntKind.u64.wrap (8 * (IntKind.u64.wrap (x7_1)))) = j_ := ⟨_, rfl⟩
        replace H : (if 0 ≤ (ji5) then (if x0_1.length < 140737488355328 then (stratumref07_Put.l0 k1 (x0_1 ++ [(shr .u64 a1 (ji5)) % 256]) a1 (wrap64 (x7_1 - 1))) else (none)) else (none)) = some r := by first | (rw [hji5] at H; exact H) | (simp only [hji5] at H ⊢; exact H)
        by_cases c6 : 0 ≤ (ji5)
        · rw [if_pos c6] at H
          have c6b0 := eq_true c6
          have c6b1 : decide (0 ≤ (ji5)) = true := decide_eq_true c6
          clear c6
          obtain ⟨ji7, hji7⟩ : ∃ j_ : Int, (shr .u64 a1 (ji5)) = j_ := ⟨_, rfl⟩
          replace H : (if x0_1.length < 140737488355328 then (stratumref07_Put.l0 k1 (x0_1 ++ [(ji7) % 256]) a1 (wrap64 (x7_1 - 1))) else (none)) = some r := by first | (rw [hji7] at H; exact H) | (simp only [hji7] at H ⊢; exact H)
          have hji7_ : (a1 / 2 ^ min (ji5).toNat 64) = ji7 := hji7
          have hji7z : (ji5) ≤ 64 → (a1 / 2 ^ (ji5).toNat) = ji7 := JK hji7
          by_cases c8 : x0_1.length < 140737488355328
          · rw [if_pos c8] at H
            have LMc8 := iD.mk c8
            clear c8
            obtain ⟨y146, hy146⟩ : ∃ y_ : List Int, y_ = (x0_1 ++ [(ji7) % 256]) := ⟨_, rfl⟩
            replace H : (stratumref07_Put.l0 k1 y146 a1 (wrap64 (x7_1 - 1))) = some r := by first | (rw [hy146]; with_reducible exact H) | (have H2_ := (Option.bind_some _ _).symm.trans H; rw [hy146]; with_reducible exact H2_) | (have H2_ := (Option.bind_some _ _).symm.trans H; with_reducible exact H2_) | with_reducible exact H | (rw [hy146]; exact H) | exact H
            have Ny146 := iD.mk hy146
            clear hy146
            have H' := iD.mk H
            clear H
            go_wp2_with (first | ((with_reducible refine nX (b := .append) (xs := #[.tmp 14, .tmp 21]) rfl ?_); at_builtin; refine Kd.R_append (Kd.int .u8) (w0 := w0) w0.heap.size rfl (.tmp 14) (.tmp 21) 33 5 (.int .u8 0) 1 rfl Tryd.underlying33 info5 rfl (by decide) (by omega) u0 x0_1 ((ji7) % 256) [.int .u8 ((ji7) % 256)] (fun k_ => (P0_ k_ ∨ w.heap.size ≤ k_)) (fun _ => False) rfl rfl ?aP (fun _ hk => hk.elim) ?aF ?aO ?aB ?aS ?aL ?_; (case aP => exact rfl); (case aB => exact hb_); (case aF => exact (fun k_ hk => (.inr (Nat.le_trans (by first | exact HK.out.1 | exact (show Kept w _ (fun k_ => P0_ k_) from by repeat (first | (with_reducible first | exact HK.out | apply Kept.alloc | apply Kept.drewN | apply Kept.drew) | exact HK.out)).1) hk)))); (case aO => exact (by (with_reducible repeat (first | apply Kd.R_alloc | apply Kd.R_drewN | apply Kd.R_drew)); exact HO_0.out)); (case aS => exact (iQ hb_)); (case aL => have := LMc8.out; omega); intro v147 w9 ho hb hg hat; rw [← Ny146.out] at ho; have n0_ := iD.mk (hb); have n1_ := iD.mk (Kept.of_grown (S := (fun k_ => P0_ k_)) hg (by repeat (first | (with_reducible first | exact HK.out | apply Kept.alloc | apply Kept.drewN | apply Kept.drew) | exact HK.out)) (fun k_ e_ => (HO_0.out.1 k_ e_))); have n2_ := iD.mk (ho); clear HB; clear HK; clear HO_0; have HB := n0_; have HK := n1_; have HO148 := n2_; clear n0_ n1_ n2_; clear ho hb hg hat))
            go_roundg k1
            case measure => have := HK1.out; omega
            case rel => exact ⟨(y146), (wrap64 (x7_1 - 1)), (by first | rfl | (simp; done) | (simp [*]; done)), H', ⟨by have := HK1.out; omega⟩, ⟨by (with_reducible repeat (first | apply Kd.R_alloc | apply Kd.R_drewN | apply Kd.R_drew)); exact HO148.out⟩, ⟨by repeat (first | (with_reducible first | exact HK.out | apply Kept.alloc | apply Kept.drewN | apply Kept.drew) | exact HK.out)⟩, ⟨hb_⟩⟩
          · rw [if_neg c8] at H
            exact absurd H (by simp)
        · rw [if_neg c6] at H
          exact absurd H (by simp)
      · rw [if_neg c4] at H
        have c4b0 : decide (0 ≤ x7_1) = false := decide_eq_false c4
        clear c4
        obtain rfl := Option.some.inj H
        go_wp2
        go_ret
        exact ⟨_, by first | rfl | (simp [iW, iV] <;> rfl) | (simp [*, iW, iV] <;> rfl), by (with_reducible repeat (first | apply Kd.R_alloc | apply Kd.R_drewN | apply Kd.R_drew)); exact HO_0.out, hb_, by repeat (first | (with_reducible first | exact HK.out | apply Kept.alloc | apply Kept.drewN | apply Kept.drew) | exact HK.out)⟩
end Go.Proofs.YtgfkgppomaapiaaDoor.K
end

section
namespace Go.Proofs.YtgfkgppomaapiaaDoor.K
open Go.RowKit Go.Proofs.YtgfkgppomaapiaaDoorW.PrintWords Go.Proofs.YtgfkgppomaapiaaDoorW.PrintLast Go.Proofs.YtgfkgppomaapiaaDoorW.PrintMore
attribute [local go_sem] kE kQ
def stratumref07_Nodes.l0 : Nat → List Int → List Int → Int → Option (List Int)
  | 0, _, _, _ => none
  | k + 1, x0, x1, x5 => if x5 < (x1.length : Int) then (if 0 ≤ x5 then ((stratumref07_Put.f k x0 (IntKind.u64.wrap (rd x1 x5)) 1).bind fun t153 => (stratumref07_Nodes.l0 k t153 x1 (wrap64 (x5 + 1)))) else (none)) else (some x0)
def stratumref07_Nodes.f (k : Nat) (l0 : List Int) (l1 : List Int) : Option (List Int) := (stratumref07_Put.f k l0 (IntKind.u64.wrap ((l1.length : Int))) 1).bind fun t149 => (stratumref07_Nodes.l0 k t149 l1 0)
end Go.Proofs.YtgfkgppomaapiaaDoor.K
end

section
namespace Go.Proofs.YtgfkgppomaapiaaDoor.K
open Go.RowKit Go.Proofs.YtgfkgppomaapiaaDoorW.PrintWords Go.Proofs.YtgfkgppomaapiaaDoorW.PrintLast Go.Proofs.YtgfkgppomaapiaaDoorW.PrintMore
attribute [local go_sem] kE kQ
mutual
def stratumref07_Facts.l0 : Nat → List Int → List (S139) → Int → Option (List Int)
  | 0, _, _, _ => none
  | k + 1, x0, x1, x5 => if x5 < (x1.length : Int) then (if 0 ≤ x5 then ((stratumref07_Put.f k x0 (IntKind.u64.wrap ((((jA x1 x5).f0).length : Int))) 1).bind fun t160 => (stratumref07_Facts.l1 k t160 x1 x5 0)) else (none)) else (some x0)
def stratumref07_Facts.l1 : Nat → List Int → List (S139) → Int → Int → Option (List Int)
  | 0, _, _, _, _ => none
  | k + 1, x0, x1, x5, x6 => if 0 ≤ x5 then (if x5 < (x1.length : Int) then (if x6 < (((jA x1 x5).f0).length : Int) then (if 0 ≤ x6 then ((stratumref07_Put.f k x0 (IntKind.u64.wrap (rd ((jA x1 x5).f0) x6)) 4).bind fun t166 => (stratumref07_Facts.l1 k t166 x1 x5 (wrap64 (x6 + 1)))) else (none)) else ((stratumref07_Put.f k x0 (IntKind.u64.wrap ((jA x1 x5).f1)) 8).bind fun t170 => (stratumref07_Facts.l0 k t170 x1 (wrap64 (x5 + 1))))) else (none)) else (none)
end
def stratumref07_Facts.f (k : Nat) (l0 : List Int) (l1 : List (S139)) : Option (List Int) := (stratumref07_Put.f k l0 (IntKind.u64.wrap ((l1.length : Int))) 4).bind fun t156 => (stratumref07_Facts.l0 k t156 l1 0)
set_option maxHeartbeats 8000000 in
set_option maxRecDepth 100000 in
theorem stratumref07_Facts.calls (k : Nat) (P0_ : Nat → Prop) (u9000_ : Value) (l0 : List Int) (A1 : Option Addr) (c1 : Nat) (l1 : List (S139)) (r : List Int) (w0 w : World) (hB : Below w0.heap.size w0 w) (ho0 : Kd.R (Kd.int .u8) 5 w w0.heap.size P0_ u9000_ l0) (hr1 : ∀ W_, Kept w W_ (fun k_ => P0_ k_) → Kd.C k139 W_ A1 l1.length l1) (hc1 : l1.length ≤ c1) (h : stratumref07_Facts.f k l0 l1 = some r) :
    Calls Tryd.prog 59 #[u9000_, .slice A1 l1.length c1] w fun e w' => ∃ v0_ : Value, e = .returned (v0_) ∧ Kd.R (Kd.int .u8) 5 w' w0.heap.size (fun k_ => (P0_ k_ ∨ w.heap.size ≤ k_)) v0_ r ∧ Below w0.heap.size w0 w' ∧ Kept w w' (fun k_ => P0_ k_) := by
  have HO0 := iD.mk (show Kd.R (Kd.int .u8) 5 w w0.heap.size (fun k_ => (P0_ k_ ∨ w.heap.size ≤ k_)) u9000_ l0 from Kd.R_mono ho0 (fun k_ hk => (.inl hk)))
  have HR1 := iD.mk hr1
  have HC1 := iD.mk hc1
  clear hr1 hc1
  have HK := iD.mk (Kept.refl w (fun k_ => P0_ k_))
  have HW0 := iD.mk hB.size
  have HB := iD.mk hB
  clear hB
  have H : ((stratumref07_Put.f k l0 (IntKind.u64.wrap ((l1.length : Int))) 4).bind fun t156 => (stratumref07_Facts.l0 k t156 l1 0)) = some r := h
  clear h
  replace H := Option.bind_eq_some_iff.mp H
  obtain ⟨t156, A30, H⟩ := H
  replace H : (stratumref07_Facts.l0 k t156 l1 0) = some r := H
  have A3 := iD.mk A30
  clear A30
  have H' := iD.mk H
  clear H
  obtain ⟨Ao4, co4, eo4⟩ := Kd.R_slice HO0.out
  subst eo4
  go_enter Tryd.func59, Tryd.ntmps59
  go_wp2_with (first | ((with_reducible refine nN (f := 57) rfl ?_); refine JF (some 11) rfl rfl Tryd.func57 (by kernel_rfl) rfl #[.slice Ao4 l0.length co4, .int .u64 (IntKind.u64.wrap ((l1.length : Int))), .int .i64 4] rfl (by (try simp only [List.map_toArray, List.map_cons, List.map_nil]); first | done | rfl | (simp only [List.length_drop, List.length_take]; rfl)) ?_; (with_reducible refine (stratumref07_Put.calls k (fun k_ => some k_ = (.slice Ao4 l0.length co4 : Value).ownBlock) (.slice Ao4 l0.length co4) l0 (IntKind.u64.wrap ((l1.length : Int))) 4 t156 w0 _ ?side1 ?side2 A3.out).mono ?_); (case side1 => repeat (first | (with_reducible first | exact HB.out | apply iF | apply iG | apply iJ) | exact HB.out)); (case side2 => exact Kd.R_tight rfl HO0.out); rintro e w5 ⟨v157, rfl, ho0, hb, hkp⟩; refine ⟨_, rfl, ?_⟩; have n0_ := iD.mk (Kd.R_mono (ok' := fun k_ => (P0_ k_ ∨ w.heap.size ≤ k_)) ho0 (fun k_ hk_ => Or.elim hk_ (fun hs_ => (HO0.out.1 k_ (hs_).symm)) (fun hn_ => (.inr (Nat.le_trans (by first | exact HK.out.1 | exact (show Kept w _ (fun k_ => P0_ k_) from by repeat (first | (with_reducible first | exact HK.out | apply Kept.alloc | apply Kept.drewN | apply Kept.drew) | exact HK.out)).1) hn_))))); have n1_ := iD.mk (Kept.then_ (S := (fun k_ => P0_ k_)) (by repeat (first | (with_reducible first | exact HK.out | apply Kept.alloc | apply Kept.drewN | apply Kept.drew) | exact HK.out)) hkp (fun k_ hs_ => (fun e_ => (HO0.out.1 k_ e_.symm)) hs_)); have n2_ := iD.mk (hb); clear HK; clear HB; clear HO0; have HO158 := n0_; have HK := n1_; have HB := n2_; clear n0_ n1_ n2_; (try clear hb); (try clear hkp); (try clear ho0)))
  go_loopg [0, 5] k (fun kq v0 v5 w' => ∃ (x0_1 : List Int) (x5_1 : Int), v5 = .int .i64 x5_1 ∧ iD (stratumref07_Facts.l0 kq x0_1 l1 x5_1 = some r) ∧ iD (kq ≤ k) ∧ iD (Kd.R (Kd.int .u8) 5 w' w0.heap.size (fun k_ => (P0_ k_ ∨ w.heap.size ≤ k_)) v0 x0_1) ∧ iD (Kept w w' (fun k_ => P0_ k_)) ∧ iD (Below w0.heap.size w0 w'))
  case atStart => exact ⟨(t156), (0), (by first | rfl | (simp; done) | (simp [*]; done)), H', ⟨Nat.le_refl _⟩, ⟨by (with_reducible repeat (first | apply Kd.R_alloc | apply Kd.R_drewN | apply Kd.R_drew)); exact HO158.out⟩, ⟨by repeat (first | (with_reducible first | exact HK.out | apply Kept.alloc | apply Kept.drewN | apply Kept.drew) | exact HK.out)⟩, ⟨hb_⟩⟩
  case round =>
    clear H'
    try clear c1
    try clear p2
    try clear c5
    obtain ⟨x0_1, x5_1, rfl, HA, HK1, HO_0, HK, HB⟩ := hrel
    cases gk with
    | zero => exact absurd HA.out (by simp [stratumref07_Facts.l0])
    | succ k1 =>
      have H := HA.out
      clear HA
      simp only [stratumref07_Facts.l0] at H
      by_cases c6 : x5_1 < (l1.length : Int)
      · rw [if_pos c6] at H
        have c6b0 : decide (x5_1 < (l1.length : Int)) = true := decide_eq_true c6
        clear c6
        by_cases c7 : 0 ≤ x5_1
        · rw [if_pos c7] at H
          have c7b0 : decide (0 ≤ x5_1) = true := decide_eq_true c7
          clear c7
          replace H := Option.bind_eq_some_iff.mp H
          obtain ⟨t160, A80, H⟩ := H
          replace H : (stratumref07_Facts.l1 k1 t160 l1 x5_1 0) = some r := H
          have A8 := iD.mk A80
          clear A80
          have H' := iD.mk H
          clear H
          have p159 : 0 ≤ (x5_1 : Int) := of_decide_eq_true asm_
          have q159 : x5_1 < (l1.length : Int) := of_decide_eq_true asm_
          obtain ⟨ad159, A159_0, c159_0, e159, hx159_0, hx159_1, hl159_0, hi159_0⟩ := lW (Kd.C_kept_now HR1.out HK.out) x5_1 p159 q159
          cases e159
          have HR159_0 := iD.mk hi159_0
          have HC159_0 := iD.mk hl159_0
          clear hi159_0 hl159_0
          replace p159 := eq_true p159
          replace q159 := eq_true q159
          obtain ⟨Ao9, co9, eo9⟩ := Kd.R_slice HO_0.out
          subst eo9
          go_wp2_with (first | ((with_reducible refine nN (f := 57) rfl ?_); refine JF (some 26) rfl rfl Tryd.func57 (by kernel_rfl) rfl #[.slice Ao9 x0_1.length co9, .int .u64 (IntKind.u64.wrap ((((jA l1 x5_1).f0).length : Int))), .int .i64 1] rfl (by (try simp only [List.map_toArray, List.map_cons, List.map_nil]); first | done | rfl | (simp only [List.length_drop, List.length_take]; rfl)) ?_; (with_reducible refine (stratumref07_Put.calls k1 (fun k_ => some k_ = (.slice Ao9 x0_1.length co9 : Value).ownBlock) (.slice Ao9 x0_1.length co9) x0_1 (IntKind.u64.wrap ((((jA l1 x5_1).f0).length : Int))) 1 t160 w0 _ ?side1 ?side2 A8.out).mono ?_); (case side1 => repeat (first | (with_reducible first | exact HB.out | apply iF | apply iG | apply iJ) | exact HB.out)); (case side2 => exact Kd.R_tight rfl HO_0.out); rintro e w10 ⟨v161, rfl, ho0, hb, hkp⟩; refine ⟨_, rfl, ?_⟩; have n0_ := iD.mk (Kd.R_mono (ok' := fun k_ => (P0_ k_ ∨ w.heap.size ≤ k_)) ho0 (fun k_ hk_ => Or.elim hk_ (fun hs_ => (HO_0.out.1 k_ (hs_).symm)) (fun hn_ => (.inr (Nat.le_trans (by first | exact HK.out.1 | exact (show Kept w _ (fun k_ => P0_ k_) from by repeat (first | (with_reducible first | exact HK.out | apply Kept.alloc | apply Kept.drewN | apply Kept.drew) | exact HK.out)).1) hn_))))); have n1_ := iD.mk (Kept.then_ (S := (fun k_ => P0_ k_)) (by repeat (first | (with_reducible first | exact HK.out | apply Kept.alloc | apply Kept.drewN | apply Kept.drew) | exact HK.out)) hkp (fun k_ hs_ => (fun e_ => (HO_0.out.1 k_ e_.symm)) hs_)); have n2_ := iD.mk (hb); clear HK; clear HB; clear HO_0; have HO162 := n0_; have HK := n1_; have HB := n2_; clear n0_ n1_ n2_; (try clear hb); (try clear hkp); (try clear ho0)))
          go_loopg [0, 6] k1 (fun kq v0 v6 w' => ∃ (x0_2 : List Int) (x6_2 : Int), v6 = .int .i64 x6_2 ∧ iD (stratumref07_Facts.l1 kq x0_2 l1 x5_1 x6_2 = some r) ∧ iD (kq ≤ k1) ∧ iD (Kd.R (Kd.int .u8) 5 w' w0.heap.size (fun k_ => (P0_ k_ ∨ w.heap.size ≤ k_)) v0 x0_2) ∧ iD (Kept w w' (fun k_ => P0_ k_)) ∧ iD (Below w0.heap.size w0 w'))
          case atStart => exact ⟨(t160), (0), (by first | rfl | (simp; done) | (simp [*]; done)), H', ⟨Nat.le_refl _⟩, ⟨by (with_reducible repeat (first | apply Kd.R_alloc | apply Kd.R_drewN | apply Kd.R_drew)); exact HO162.out⟩, ⟨by repeat (first | (with_reducible first | exact HK.out | apply Kept.alloc | apply Kept.drewN | apply Kept.drew) | exact HK.out)⟩, ⟨hb_⟩⟩
          case round =>
            clear H'
            try clear c1
            try clear p1
            try clear q1
            try clear hx1
            try clear p2
            try clear c5
            try clear c6
            try clear c6b0
            try clear c7
            try clear c7b0
            try clear hx159_0
            try clear hx159_1
            try clear p159
            try clear p2
            try clear q159
            obtain ⟨x0_2, x6_2, rfl, HA, HK2, HO_0, HK, HB⟩ := hrel
            cases gk with
            | zero => exact absurd HA.out (by simp [stratumref07_Facts.l1])
            | succ k2 =>
              have H := HA.out
              clear HA
              simp only [stratumref07_Facts.l1] at H
              by_cases c11 : 0 ≤ x5_1
              · rw [if_pos c11] at H
                have c11b0 : decide (0 ≤ x5_1) = true := decide_eq_true c11
                clear c11
                by_cases c12 : x5_1 < (l1.length : Int)
                · rw [if_pos c12] at H
                  have c12b0 : decide (x5_1 < (l1.length : Int)) = true := decide_eq_true c12
                  clear c12
                  by_cases c13 : x6_2 < (((jA l1 x5_1).f0).length : Int)
                  · rw [if_pos c13] at H
                    have c13b0 : decide (x6_2 < (((jA l1 x5_1).f0).length : Int)) = true := decide_eq_true c13
                    clear c13
                    by_cases c14 : 0 ≤ x6_2
                    · rw [if_pos c14] at H
                      have c14b0 : decide (0 ≤ x6_2) = true := decide_eq_true c14
                      clear c14
                      replace H := Option.bind_eq_some_iff.mp H
                      obtain ⟨t166, A150, H⟩ := H
                      replace H : (stratumref07_Facts.l1 k2 t166 l1 x5_1 (wrap64 (x6_2 + 1))) = some r := H
                      have A15 := iD.mk A150
                      clear A150
                      have H' := iD.mk H
                      clear H
                      have p163 : 0 ≤ (x5_1 : Int) := of_decide_eq_true asm_
                      have q163 : x5_1 < (l1.length : Int) := of_decide_eq_true asm_
                      obtain ⟨ad163, A163_0, c163_0, e163, hx163_0, hx163_1, hl163_0, hi163_0⟩ := lW (Kd.C_kept_now HR1.out HK.out) x5_1 p163 q163
                      obtain rfl : ad159 = ad163 := (by injection e163)
                      have HR163_0 := iD.mk hi163_0
                      have HC163_0 := iD.mk hl163_0
                      clear hi163_0 hl163_0
                      replace p163 := eq_true p163
                      replace q163 := eq_true q163
                      have p164 : 0 ≤ (x5_1 : Int) := of_decide_eq_true asm_
                      have q164 : x5_1 < (l1.length : Int) := of_decide_eq_true asm_
                      obtain ⟨ad164, A164_0, c164_0, e164, hx164_0, hx164_1, hl164_0, hi164_0⟩ := lW (Kd.C_kept_now HR1.out HK.out) x5_1 p164 q164
                      obtain rfl : ad159 = ad164 := (by injection e164)
                      have HR164_0 := iD.mk hi164_0
                      have HC164_0 := iD.mk hl164_0
                      clear hi164_0 hl164_0
                      replace p164 := eq_true p164
                      replace q164 := eq_true q164
                      have ea_ := Option.some.inj (hx163_0.symm.trans hx164_0)
                      injection ea_ with ea_ en_ ec_
                      subst ea_
                      subst ec_
                      clear en_
                      have p165 : 0 ≤ (x6_2 : Int) := of_decide_eq_true asm_
                      have q165 : x6_2 < (((jA l1 x5_1).f0).length : Int) := of_decide_eq_true asm_
                      obtain ⟨ad165, e165, hx165_0⟩ := Kd.at_int (by repeat (first | (with_reducible exact HR164_0.out) | (with_reducible refine Kd.C_alloc ?_ _) | (with_reducible refine Kd.C_drewN ?_ _) | (with_reducible refine Kd.C_drew ?_) | exact HR164_0.out)) x6_2 p165 q165
                      cases e165
                      replace p165 := eq_true p165
                      replace q165 := eq_true q165
                      obtain ⟨Ao16, co16, eo16⟩ := Kd.R_slice HO_0.out
                      subst eo16
                      go_wp2_with (first | ((with_reducible refine nN (f := 57) rfl ?_); refine JF (some 47) rfl rfl Tryd.func57 (by kernel_rfl) rfl #[.slice Ao16 x0_2.length co16, .int .u64 (IntKind.u64.wrap (rd ((jA l1 x5_1).f0) x6_2)), .int .i64 4] rfl (by (try simp only [List.map_toArray, List.map_cons, List.map_nil]); first | done | rfl | (simp only [List.length_drop, List.length_take]; rfl)) ?_; (with_reducible refine (stratumref07_Put.calls k2 (fun k_ => some k_ = (.slice Ao16 x0_2.length co16 : Value).ownBlock) (.slice Ao16 x0_2.length co16) x0_2 (IntKind.u64.wrap (rd ((jA l1 x5_1).f0) x6_2)) 4 t166 w0 _ ?side1 ?side2 A15.out).mono ?_); (case side1 => repeat (first | (with_reducible first | exact HB.out | apply iF | apply iG | apply iJ) | exact HB.out)); (case side2 => exact Kd.R_tight rfl HO_0.out); rintro e w17 ⟨v167, rfl, ho0, hb, hkp⟩; refine ⟨_, rfl, ?_⟩; have n0_ := iD.mk (Kd.R_mono (ok' := fun k_ => (P0_ k_ ∨ w.heap.size ≤ k_)) ho0 (fun k_ hk_ => Or.elim hk_ (fun hs_ => (HO_0.out.1 k_ (hs_).symm)) (fun hn_ => (.inr (Nat.le_trans (by first | exact HK.out.1 | exact (show Kept w _ (fun k_ => P0_ k_) from by repeat (first | (with_reducible first | exact HK.out | apply Kept.alloc | apply Kept.drewN | apply Kept.drew) | exact HK.out)).1) hn_))))); have n1_ := iD.mk (Kept.then_ (S := (fun k_ => P0_ k_)) (by repeat (first | (with_reducible first | exact HK.out | apply Kept.alloc | apply Kept.drewN | apply Kept.drew) | exact HK.out)) hkp (fun k_ hs_ => (fun e_ => (HO_0.out.1 k_ e_.symm)) hs_)); have n2_ := iD.mk (hb); clear HK; clear HB; clear HO_0; have HO168 := n0_; have HK := n1_; have HB := n2_; clear n0_ n1_ n2_; (try clear hb); (try clear hkp); (try clear ho0)))
                      go_roundg k2
                      case measure => have := HK1.out; have := HK2.out; omega
                      case rel => exact ⟨(t166), (wrap64 (x6_2 + 1)), (by first | rfl | (simp; done) | (simp [*]; done)), H', ⟨by have := HK1.out; have := HK2.out; omega⟩, ⟨by (with_reducible repeat (first | apply Kd.R_alloc | apply Kd.R_drewN | apply Kd.R_drew)); exact HO168.out⟩, ⟨by repeat (first | (with_reducible first | exact HK.out | apply Kept.alloc | apply Kept.drewN | apply Kept.drew) | exact HK.out)⟩, ⟨hb_⟩⟩
                    · rw [if_neg c14] at H
                      exact absurd H (by simp)
                  · rw [if_neg c13] at H
                    have c13b0 : decide (x6_2 < (((jA l1 x5_1).f0).length : Int)) = false := decide_eq_false c13
                    clear c13
                    replace H := Option.bind_eq_some_iff.mp H
                    obtain ⟨t170, A180, H⟩ := H
                    replace H : (stratumref07_Facts.l0 k2 t170 l1 (wrap64 (x5_1 + 1))) = some r := H
                    have A18 := iD.mk A180
                    clear A180
                    have H' := iD.mk H
                    clear H
                    have p163 : 0 ≤ (x5_1 : Int) := of_decide_eq_true asm_
                    have q163 : x5_1 < (l1.length : Int) := of_decide_eq_true asm_
                    obtain ⟨ad163, A163_0, c163_0, e163, hx163_0, hx163_1, hl163_0, hi163_0⟩ := lW (Kd.C_kept_now HR1.out HK.out) x5_1 p163 q163
                    obtain rfl : ad159 = ad163 := (by injection e163)
                    have HR163_0 := iD.mk hi163_0
                    have HC163_0 := iD.mk hl163_0
                    clear hi163_0 hl163_0
                    replace p163 := eq_true p163
                    replace q163 := eq_true q163
                    have p169 : 0 ≤ (x5_1 : Int) := of_decide_eq_true asm_
                    have q169 : x5_1 < (l1.length : Int) := of_decide_eq_true asm_
                    obtain ⟨ad169, A169_0, c169_0, e169, hx169_0, hx169_1, hl169_0, hi169_0⟩ := lW (Kd.C_kept_now HR1.out HK.out) x5_1 p169 q169
                    obtain rfl : ad159 = ad169 := (by injection e169)
                    have HR169_0 := iD.mk hi169_0
                    have HC169_0 := iD.mk hl169_0
                    clear hi169_0 hl169_0
                    replace p169 := eq_true p169
                    replace q169 := eq_true q169
                    have ea_ := Option.some.inj (hx163_0.symm.trans hx169_0)
                    injection ea_ with ea_ en_ ec_
                    subst ea_
                    subst ec_
                    clear en_
                    obtain ⟨Ao19, co19, eo19⟩ := Kd.R_slice HO_0.out
                    subst eo19
                    go_wp2_with (first | ((with_reducible refine nN (f := 57) rfl ?_); refine JF (some 55) rfl rfl Tryd.func57 (by kernel_rfl) rfl #[.slice Ao19 x0_2.length co19, .int .u64 (IntKind.u64.wrap ((jA l1 x5_1).f1)), .int .i64 8] rfl (by (try simp only [List.map_toArray, List.map_cons, List.map_nil]); first | done | rfl | (simp only [List.length_drop, List.length_take]; rfl)) ?_; (with_reducible refine (stratumref07_Put.calls k2 (fun k_ => some k_ = (.slice Ao19 x0_2.length co19 : Value).ownBlock) (.slice Ao19 x0_2.length co19) x0_2 (IntKind.u64.wrap ((jA l1 x5_1).f1)) 8 t170 w0 _ ?side1 ?side2 A18.out).mono ?_); (case side1 => repeat (first | (with_reducible first | exact HB.out | apply iF | apply iG | apply iJ) | exact HB.out)); (case side2 => exact Kd.R_tight rfl HO_0.out); rintro e w20 ⟨v171, rfl, ho0, hb, hkp⟩; refine ⟨_, rfl, ?_⟩; have n0_ := iD.mk (Kd.R_mono (ok' := fun k_ => (P0_ k_ ∨ w.heap.size ≤ k_)) ho0 (fun k_ hk_ => Or.elim hk_ (fun hs_ => (HO_0.out.1 k_ (hs_).symm)) (fun hn_ => (.inr (Nat.le_trans (by first | exact HK.out.1 | exact (show Kept w _ (fun k_ => P0_ k_) from by repeat (first | (with_reducible first | exact HK.out | apply Kept.alloc | apply Kept.drewN | apply Kept.drew) | exact HK.out)).1) hn_))))); have n1_ := iD.mk (Kept.then_ (S := (fun k_ => P0_ k_)) (by repeat (first | (with_reducible first | exact HK.out | apply Kept.alloc | apply Kept.drewN | apply Kept.drew) | exact HK.out)) hkp (fun k_ hs_ => (fun e_ => (HO_0.out.1 k_ e_.symm)) hs_)); have n2_ := iD.mk (hb); clear HK; clear HB; clear HO_0; have HO172 := n0_; have HK := n1_; have HB := n2_; clear n0_ n1_ n2_; (try clear hb); (try clear hkp); (try clear ho0)))
                    go_roundg k2
                    case measure => have := HK1.out; have := HK2.out; omega
                    case rel => exact ⟨(t170), (wrap64 (x5_1 + 1)), (by first | rfl | (simp; done) | (simp [*]; done)), H', ⟨by have := HK1.out; have := HK2.out; omega⟩, ⟨by (with_reducible repeat (first | apply Kd.R_alloc | apply Kd.R_drewN | apply Kd.R_drew)); exact HO172.out⟩, ⟨by repeat (first | (with_reducible first | exact HK.out | apply Kept.alloc | apply Kept.drewN | apply Kept.drew) | exact HK.out)⟩, ⟨hb_⟩⟩
                · rw [if_neg c12] at H
                  exact absurd H (by simp)
              · rw [if_neg c11] at H
                exact absurd H (by simp)
        · rw [if_neg c7] at H
          exact absurd H (by simp)
      · rw [if_neg c6] at H
        have c6b0 : decide (x5_1 < (l1.length : Int)) = false := decide_eq_false c6
        clear c6
        obtain rfl := Option.some.inj H
        go_wp2
        go_ret
        exact ⟨_, by first | rfl | (simp [iW, iV] <;> rfl) | (simp [*, iW, iV] <;> rfl), by (with_reducible repeat (first | apply Kd.R_alloc | apply Kd.R_drewN | apply Kd.R_drew)); exact HO_0.out, hb_, by repeat (first | (with_reducible first | exact HK.out | apply Kept.alloc | apply Kept.drewN | apply Kept.drew) | exact HK.out)⟩
end Go.Proofs.YtgfkgppomaapiaaDoor.K
end

section
namespace Go.Proofs.YtgfkgppomaapiaaDoor.K
open Go Go.RowKit Go.Proofs.YtgfkgppomaapiaaDoorW.PrintWords Go.Proofs.YtgfkgppomaapiaaDoorW.PrintLast Go.Proofs.YtgfkgppomaapiaaDoorW.PrintMore Go.Proofs.YtgfkgppomaapiaaDoor.My
theorem wrap_u64 (x : Int) : IntKind.u64.wrap x = x % 18446744073709551616 := by rfl
theorem UM (x : Int) (m : Nat) (hm : m < 8) : (shr .u64 (IntKind.u64.wrap x) (8 * (m : Int))) % 256 = (x / 256 ^ m) % 256 := by
  rw [wrap_u64]
  have h : m = 0 ∨ m = 1 ∨ m = 2 ∨ m = 3 ∨ m = 4 ∨ m = 5 ∨ m = 6 ∨ m = 7 := by omega
  unfold shr
  rw [show IntKind.u64.bits = 64 from rfl]
  rcases h with rfl | rfl | rfl | rfl | rfl | rfl | rfl | rfl <;> simp <;> omega
theorem nums_append (l m : List UInt8) : nums (l ++ m) = nums l ++ nums m := List.map_append ..
theorem RP (b : UInt8) (l : List UInt8) : nums (b :: l) = (b.toNat : Int) :: nums l := rfl
theorem XT (v : Int) : ((UInt8.ofNat (v % 256).toNat).toNat : Int) = v % 256 := by
  rw [UInt8.toNat_ofNat']
  omega
theorem QB (x : Int) : ∀ (n : Nat) (l : List Int), n ≤ 8 → l.length + n ≤ 140737488355328 → Ev (fun k => stratumref07_Put.l0 k l (IntKind.u64.wrap x) ((n : Int) - 1)) (l ++ nums (layB x n))
  | 0, l, _, _ => by
    refine Ev.step (f := fun _ => some l) (fun k => by simp only [stratumref07_Put.l0]; rw [if_neg (by omega)]) ?_
    simp only [layB, nums, List.map_nil, List.append_nil]
    exact Ev.now _
  | n + 1, l, hn, hl => by
    have e1 : ((n + 1 : Nat) : Int) - 1 = n := by omega
    have e2 : IntKind.u64.wrap ((n : Nat) : Int) = n := by rw [wrap_u64]; omega
    have e3 : IntKind.u64.wrap (8 * (n : Int)) = 8 * n := by rw [wrap_u64]; omega
    have e4 : wrap64 ((n : Int) - 1) = n - 1 := by unfold wrap64; omega
    rw [e1, layB, RP, XT]
    refine Ev.step (f := fun k => stratumref07_Put.l0 k (l ++ [x / 256 ^ n % 256]) (IntKind.u64.wrap x) ((n : Int) - 1)) (fun k => by simp only [stratumref07_Put.l0]; rw [if_pos (by omega), e2, e3, if_pos (by omega), if_pos (by omega), UM x n (by omega), e4]) ?_
    have := QB x n (l ++ [x / 256 ^ n % 256]) (by omega) (by rw [List.length_append]; simp only [List.length_cons, List.length_nil]; omega)
    rw [List.append_assoc] at this
    exact this
theorem IV (x : Int) (n : Nat) (l : List Int) (hn : n ≤ 8) (hl : l.length + n ≤ 140737488355328) : Ev (fun k => stratumref07_Put.f k l (IntKind.u64.wrap x) (n : Int)) (l ++ nums (layB x n)) := by
  unfold stratumref07_Put.f
  rw [show wrap64 ((n : Int) - 1) = n - 1 from by unfold wrap64; omega]
  exact QB x n l hn hl
theorem TL (l1 : List jK) (i : Int) (h0 : 0 ≤ i) (hlt : i < l1.length) (hn : l1.length ≤ 9223372036854775807) (hk : (jA l1 i).f0.length ≤ 9223372036854775807) (R : List Int)
    (m : Nat) (hR : ∀ l : List Int, l.length + m ≤ 140737488355328 → Ev (fun k => stratumref07_Facts.l0 k l l1 (i + 1)) (l ++ R)) (d : Nat) : ∀ (j : Int) (l : List Int), 0 ≤ j → j ≤ (jA l1 i).f0.length → ((jA l1 i).f0.length : Int) - j = d → l.length + 4 * d + 8 + m ≤ 140737488355328 →
    Ev (fun k => stratumref07_Facts.l1 k l l1 i j) (l ++ nums (((jA l1 i).f0.drop j.toNat).flatMap (layB · 4)) ++ nums (layB (jA l1 i).f1 8) ++ R) := by
  induction d with
  | zero =>
    intro j l g0 g1 hd hl
    rw [drop_end _ j (by omega)]
    refine Ev.step (f := fun k => (stratumref07_Put.f k l (IntKind.u64.wrap (jA l1 i).f1) 8).bind fun t => stratumref07_Facts.l0 k t l1 (i + 1)) (fun k => by simp only [stratumref07_Facts.l1]; rw [if_pos h0, if_pos hlt, if_neg (by omega), qF h0 hlt hn]) ?_
    simp only [List.flatMap_nil, nums, List.map_nil, List.append_nil]
    exact Ev.bind (IV _ 8 l (by omega) (by omega)) (hR _ (by rw [List.length_append, kH, iR]; omega))
  | succ d ih =>
    intro j l g0 g1 hd hl
    have hj : j < ((jA l1 i).f0.length : Int) := by omega
    rw [QN 0 _ j (by omega) g0, List.flatMap_cons, nums_append, ← List.append_assoc l]
    refine Ev.step (f := fun k => (stratumref07_Put.f k l (IntKind.u64.wrap (rd (jA l1 i).f0 j)) 4).bind fun t => stratumref07_Facts.l1 k t l1 i (j + 1)) (fun k => by simp only [stratumref07_Facts.l1]; rw [if_pos h0, if_pos hlt, if_pos hj, if_pos g0, qF g0 hj hk]) ?_
    exact Ev.bind (IV _ 4 l (by omega) (by omega)) (ih (j + 1) _ (by omega) (by omega) (by omega) (by rw [List.length_append, kH, iR]; omega))
theorem OJ (l1 : List jK) (hn : l1.length ≤ 9223372036854775807) (hk : ∀ f ∈ l1, f.f0.length ≤ 9223372036854775807) (d : Nat) : ∀ (i : Int) (l : List Int), 0 ≤ i → i ≤ l1.length → (l1.length : Int) - i = d → l.length + ((l1.drop i.toNat).flatMap mJ).length ≤ 140737488355328 →
    Ev (fun k => stratumref07_Facts.l0 k l l1 i) (l ++ nums ((l1.drop i.toNat).flatMap mJ)) := by
  induction d with
  | zero =>
    intro i l h0 h1 hd hl
    rw [drop_end _ i (by omega)]
    refine Ev.step (f := fun _ => some l) (fun k => by simp only [stratumref07_Facts.l0]; rw [if_neg (by omega)]) ?_
    simp only [List.flatMap_nil, nums, List.map_nil, List.append_nil]
    exact Ev.now _
  | succ d ih =>
    intro i l h0 h1 hd hl
    have hlt : i < (l1.length : Int) := by omega
    have hm : jA l1 i ∈ l1 := by
      unfold jA
      rw [List.getD_eq_getElem?_getD, List.getElem?_eq_getElem (show i.toNat < l1.length by omega)]
      exact List.getElem_mem _
    rw [QN z139 l1 i (by omega) h0, List.flatMap_cons, show l1.getD i.toNat z139 = jA l1 i from rfl] at hl ⊢
    rw [List.length_append, uI] at hl
    rw [nums_append]
    refine Ev.step (f := fun k => (stratumref07_Put.f k l (IntKind.u64.wrap ((jA l1 i).f0.length : Int)) 1).bind fun t => stratumref07_Facts.l1 k t l1 i 0) (fun k => by simp only [stratumref07_Facts.l0]; rw [if_pos hlt, if_pos h0]) ?_
    have hr := TL l1 i h0 hlt hn (hk _ hm) (nums ((l1.drop (i + 1).toNat).flatMap mJ)) ((l1.drop (i + 1).toNat).flatMap mJ).length (fun t ht => ih (i + 1) t (by omega) (by omega) (by omega) ht) (jA l1 i).f0.length 0 (l ++ nums (layB ((jA l1 i).f0.length : Int) 1)) (by omega) (by omega) (by omega) (by rw [List.length_append, kH, iR]; omega)
    have e : l ++ (nums (mJ (jA l1 i)) ++ nums ((l1.drop (i + 1).toNat).flatMap mJ)) = l ++ nums (layB ((jA l1 i).f0.length : Int) 1) ++ nums (((jA l1 i).f0.drop (0 : Int).toNat).flatMap (layB · 4)) ++ nums (layB (jA l1 i).f1 8) ++ nums ((l1.drop (i + 1).toNat).flatMap mJ) := by
      unfold mJ
      rw [nums_append, nums_append]
      simp only [List.append_assoc]
      rfl
    rw [e]
    exact Ev.bind (IV _ 1 l (by omega) (by omega)) hr
theorem RV (l1 : List jK) : (kC l1).length = 4 + (l1.flatMap mJ).length := by unfold kC; rw [List.length_append, iR]
theorem VJ (l1 : List jK) : 9 * l1.length ≤ (l1.flatMap mJ).length ∧ ∀ f ∈ l1, 4 * f.f0.length ≤ (l1.flatMap mJ).length := by
  induction l1 with
  | nil => exact ⟨by simp, fun f h => by cases h⟩
  | cons x l ih =>
    rw [List.flatMap_cons, List.length_append, uI, List.length_cons]
    refine ⟨by omega, fun f hf => ?_⟩
    rcases List.mem_cons.1 hf with rfl | hf
    · omega
    · have := ih.2 f hf; omega
theorem xA (l1 : List jK) (l : List Int) (hl : l.length + (kC l1).length ≤ 140737488355328) : Ev (fun k => stratumref07_Facts.f k l l1) (l ++ nums (kC l1)) := by
  rw [RV] at hl
  have hg := VJ l1
  unfold kC
  rw [nums_append, ← List.append_assoc]
  exact Ev.bind (IV (l1.length : Int) 4 l (by omega) (by omega)) (OJ l1 (by omega) (fun f hf => by have := hg.2 f hf; omega) l1.length 0 _ (by omega) (by omega) (by omega) (by rw [List.length_append, kH, iR]; show _ + (l1.flatMap mJ).length ≤ _; omega))
end Go.Proofs.YtgfkgppomaapiaaDoor.K
end

section
namespace Go.Proofs.YtgfkgppomaapiaaDoor.K
open Go Go.RowKit Go.Proofs.YtgfkgppomaapiaaDoorW.PrintWords Go.Proofs.YtgfkgppomaapiaaDoorW.PrintLast Go.Proofs.YtgfkgppomaapiaaDoorW.PrintMore Go.Proofs.YtgfkgppomaapiaaDoor.My
/-- What a call that lays bytes behind a row leaves. -/
def LP (P0 : Nat → Prop) (r : List Int) (w0 w : World) (e : Ending) (w' : World) : Prop :=
  ∃ v' : Value, e = .returned v' ∧ Kd.R (Kd.int .u8) 5 w' w0.heap.size (fun k => P0 k ∨ w.heap.size ≤ k) v' r ∧ Below w0.heap.size w0 w' ∧ Kept w w' P0
theorem MQ (P0 : Nat → Prop) (v : Value) (l : List Int) (x X : Int) (n : Nat) (nI : Int) (w0 w : World) (hX : X = IntKind.u64.wrap x) (hI : nI = n) (hn : n ≤ 8) (hl : l.length + n ≤ 140737488355328) (hB : Below w0.heap.size w0 w) (ho : Kd.R (Kd.int .u8) 5 w w0.heap.size P0 v l) :
    Calls Tryd.prog 57 #[v, .int .u64 X, .int .i64 nI] w (LP P0 (l ++ nums (layB x n)) w0 w) := by
  subst hI; subst hX
  obtain ⟨k, hk⟩ := (IV x n l hn hl).rounds
  exact stratumref07_Put.calls k P0 v l _ _ _ w0 w hB ho hk
theorem PD (P0 : Nat → Prop) (v : Value) (l : List Int) (A1 : Option Addr) (c1 : Nat) (l1 : List jK) (w0 w : World) (hl : l.length + (kC l1).length ≤ 140737488355328) (hB : Below w0.heap.size w0 w) (ho : Kd.R (Kd.int .u8) 5 w w0.heap.size P0 v l) (hr1 : ∀ W_, Kept w W_ (fun k_ => P0 k_) → Kd.C k139 W_ A1 l1.length l1) (hc1 : l1.length ≤ c1) :
    Calls Tryd.prog 59 #[v, .slice A1 l1.length c1] w (LP P0 (l ++ nums (kC l1)) w0 w) := by
  obtain ⟨k, hk⟩ := (xA l1 l hl).rounds
  exact stratumref07_Facts.calls k P0 v l A1 c1 l1 _ w0 w hB ho hr1 hc1 hk
theorem yX (l : List jG) (k : Nat) (h : k < l.length) : (l.take (k + 1)).flatMap kW = (l.take k).flatMap kW ++ (layB (iU l k).f0 4 ++ kC (iU l k).f1) := by
  rw [lT z86 l k h, List.flatMap_append]
  congr 1
  simp only [List.flatMap_cons, List.flatMap_nil, List.append_nil]
  rfl
theorem QO (l : List jG) (k : Nat) (h : k < l.length) : ((l.take k).flatMap kW).length + 4 + (kC (iU l k).f1).length ≤ (l.flatMap kW).length := by
  have e : l = l.take (k + 1) ++ l.drop (k + 1) := (List.take_append_drop _ _).symm
  conv => rhs; rw [e]
  rw [List.flatMap_append, yX l k h]
  simp only [List.length_append, iR]
  omega
theorem vM (l : List jG) : (jT l).length = 4 + (l.flatMap kW).length := by unfold jT; rw [List.length_append, iR]
theorem JV (l : List jG) : l.length ≤ (jT l).length := by
  rw [vM]
  induction l with
  | nil => simp
  | cons e l ih =>
    rw [List.flatMap_cons, List.length_append, List.length_cons]
    have : 4 ≤ (kW e).length := by unfold kW; rw [List.length_append, iR]; omega
    omega
set_option maxRecDepth 20000 in
set_option maxHeartbeats 4000000 in
theorem JH (P0 : Nat → Prop) (v : Value) (l0 : List Int) (A1 : Option Addr) (c1 : Nat) (l1 : List jG) (w0 w : World) (hl : l0.length + (jT l1).length ≤ 140737488355328) (hB : Below w0.heap.size w0 w) (ho : Kd.R (Kd.int .u8) 5 w w0.heap.size P0 v l0) (hP : ∀ k, P0 k → w0.heap.size ≤ k) (hr1 : Kd.C k86 w0 A1 l1.length l1) (hc1 : l1.length ≤ c1) :
    Calls Tryd.prog 60 #[v, .slice A1 l1.length c1] w (LP P0 (l0 ++ nums (jT l1)) w0 w) := by
  have HO := iD.mk (show Kd.R (Kd.int .u8) 5 w w0.heap.size (fun k => P0 k ∨ w.heap.size ≤ k) v l0 from Kd.R_mono ho (fun _ h => .inl h))
  have HR := iD.mk hr1
  have HP := iD.mk (show ∀ k, (P0 k ∨ w.heap.size ≤ k) → w0.heap.size ≤ k from fun k h => h.elim (hP k) (Nat.le_trans hB.size))
  have HB := iD.mk hB
  have HL := iD.mk hl
  have HK := iD.mk (Kept.refl w P0)
  have hge := JV l1
  have hmax : l1.length ≤ 140737488355328 := by omega
  rw [vM] at hl
  clear hr1 hB ho hge hP
  obtain ⟨Ao, co, rfl⟩ := Kd.R_slice HO.out
  go_enter Tryd.func60, Tryd.ntmps60
  go_wp2_with fail
  refine (MQ _ _ l0 (l1.length : Int) _ 4 4 w0 _ (by rw [wrap_u64]; omega) rfl (by omega) (by omega) HB.out HO.out).mono ?_
  rintro e w1 ⟨v1, rfl, ho1, hb1, hk1⟩
  have HO1 := iD.mk (Kd.R_mono (ok' := fun k => P0 k ∨ w.heap.size ≤ k) ho1 (fun k h => h.elim id .inr))
  have HB1 := iD.mk hb1
  have HK1 := iD.mk (HK.out.then_ hk1 (fun _ h => h))
  clear ho1 hb1 hk1
  go_wp2_with fail
  go_loopg [0, 5] l1.length (fun gg s0 s5 wr => ∃ k : Nat, k ≤ l1.length ∧ l1.length - k ≤ gg ∧ s5 = .int .i64 k ∧ iD (Kd.R (Kd.int .u8) 5 wr w0.heap.size (fun k => P0 k ∨ w.heap.size ≤ k) s0 (l0 ++ nums (layB (l1.length : Int) 4) ++ nums ((l1.take k).flatMap kW))) ∧ iD (Below w0.heap.size w0 wr) ∧ iD (Kept w wr P0))
  case atStart => exact ⟨0, Nat.zero_le _, by omega, rfl, ⟨by simpa [nums] using HO1.out⟩, HB1, HK1⟩
  case round =>
    clear HO1 HB1 HK1 HO HB HK
    obtain ⟨k, hk, hg, rfl, HO, HB, HK⟩ := hrel
    obtain ⟨Ao, co, rfl⟩ := Kd.R_slice HO.out
    by_cases hlt : k < l1.length
    · have hln := QO l1 k hlt
      have HT := iD.mk (yX l1 k hlt)
      obtain ⟨L, hL⟩ : ∃ L, L = l0 ++ nums (layB (l1.length : Int) 4) ++ nums ((l1.take k).flatMap kW) := ⟨_, rfl⟩
      have hLl : L.length + 4 + (kC (iU l1 k).f1).length ≤ 140737488355328 := by rw [hL]; simp only [List.length_append, kH, iR]; omega
      rw [← hL] at HO ⊢
      have HLq := iD.mk hL
      clear hL hln
      obtain ⟨ad, A', c', eA, gx0, gx1, hl', hC'⟩ := oQ HR.out k (by omega) (by omega)
      cases eA
      simp only [Int.toNat_natCast] at gx0 gx1
      have hx0 := kT HB.out gx0
      have hx1 := kT HB.out gx1
      have HC' := iD.mk hC'
      have HG := iD.mk (And.intro gx0 gx1)
      clear hC' gx0 gx1
      have hcall := MQ (fun k => P0 k ∨ w.heap.size ≤ k) (.slice Ao L.length co) L (iU l1 k).f0 (IntKind.u64.wrap (iU l1 k).f0) 4 4 w0 wr rfl rfl (by omega) (by omega) HB.out HO.out
      go_wp2_with fail
      go_at_call 57
      (with_reducible refine hcall.mono ?_)
      clear hcall
      rintro e w2 ⟨v2, rfl, ho2, hb2, hk2⟩
      have HO2 := iD.mk (Kd.R_mono (ok' := fun k => P0 k ∨ w.heap.size ≤ k) ho2 (fun k h => h.elim id (fun h => .inr (Nat.le_trans HK.out.1 h))))
      have HB2 := iD.mk hb2
      have HK2 := iD.mk (HK.out.then_ hk2 (fun _ h => h))
      clear ho2 hb2 hk2 hx0 hx1
      have hx0 := kT HB2.out HG.out.1
      have hx1 := kT HB2.out HG.out.2
      obtain ⟨Ao2, co2, rfl⟩ := Kd.R_slice HO2.out
      have hlen2 : (L ++ nums (layB (iU l1 k).f0 4)).length + (kC (iU l1 k).f1).length ≤ 140737488355328 := by rw [List.length_append, kH, iR]; omega
      have HE := iD.mk (show (L ++ nums (layB (iU l1 k).f0 4)) ++ nums (kC (iU l1 k).f1) = l0 ++ nums (layB (l1.length : Int) 4) ++ nums ((l1.take (k + 1)).flatMap kW) from by rw [HT.out, HLq.out, nums_append, nums_append]; simp only [List.append_assoc])
      generalize (L ++ nums (layB (iU l1 k).f0 4)) = L2 at *
      have hcall := PD (fun k => P0 k ∨ w.heap.size ≤ k) (.slice Ao2 L2.length co2) L2 A' c' (iU l1 k).f1 w0 w2 hlen2 HB2.out HO2.out (Kd.C_kept_came uA HC'.out HB2.out HP.out) hl'
      go_wp2_with fail
      go_at_call 59
      (with_reducible refine hcall.mono ?_)
      clear hcall
      rintro e w3 ⟨v3, rfl, ho3, hb3, hk3⟩
      have HO3 := iD.mk (Kd.R_mono (ok' := fun k => P0 k ∨ w.heap.size ≤ k) ho3 (fun k h => h.elim id (fun h => .inr (Nat.le_trans HK2.out.1 h))))
      have HB3 := iD.mk hb3
      have HK3 := iD.mk (HK2.out.then_ hk3 (fun _ h => h))
      clear ho3 hb3 hk3 hx0 hx1
      go_wp2_with fail
      go_roundg (l1.length - (k + 1))
      case measure => omega
      case rel => exact ⟨k + 1, by omega, by omega, by go_num, ⟨by rw [← HE.out]; exact HO3.out⟩, HB3, HK3⟩
    · have : k = l1.length := by omega
      subst this
      have HE := iD.mk (show l0 ++ nums (layB (l1.length : Int) 4) ++ nums ((l1.take l1.length).flatMap kW) = l0 ++ nums (jT l1) from by rw [List.take_length, List.append_assoc, ← nums_append]; rfl)
      go_wp2
      go_ret
      exact ⟨_, rfl, by rw [← HE.out]; exact HO.out, HB.out, HK.out⟩
/-- In the shape of the printed callers: behind nothing (pk.sh writes 'calls0' for 'calls _ _ ([] : List Int)' in the printed texts). -/
def stratumref07_Entries.f (l0 : List Int) (l1 : List jG) : Option (List Int) := if l0 = [] ∧ (jT l1).length ≤ 140737488355328 then some (nums (jT l1)) else none
theorem stratumref07_Entries.calls0 (A1 : Option Addr) (c1 : Nat) (l1 : List jG) (r : List Int) (w : World) (_hr0 : Kd.C (Kd.int .u8) w none ([] : List Int).length []) (_hc0 : 0 ≤ 0) (hr1 : Kd.C k86 w A1 l1.length l1) (hc1 : l1.length ≤ c1) (h : stratumref07_Entries.f ([] : List Int) l1 = some r) :
    Calls Tryd.prog 60 #[.slice none 0 0, .slice A1 l1.length c1] w fun e w' => ∃ v0_ : Value, e = .returned (v0_) ∧ Kd.R (Kd.int .u8) 5 w' w.heap.size (fun _ => True) v0_ r ∧ Below w.heap.size w w' := by
  unfold stratumref07_Entries.f at h
  split at h
  case isFalse => cases h
  rename_i hl
  obtain rfl := Option.some.inj h
  refine (JH (fun _ => False) (.slice none 0 0) [] A1 c1 l1 w w (by simpa using hl.2) (Below.refl _ _) (Kd.R_nil _ _ _ _ _) (fun _ h => h.elim) hr1 hc1).mono ?_
  rintro e w' ⟨v', rfl, h1, h2, _⟩
  exact ⟨v', rfl, Kd.R_mono h1 (fun _ _ => trivial), h2⟩
end Go.Proofs.YtgfkgppomaapiaaDoor.K
end

section
namespace Go.Proofs.YtgfkgppomaapiaaDoor.K
open Go Go.RowKit Go.Proofs.YtgfkgppomaapiaaDoorW.PrintWords Go.Proofs.YtgfkgppomaapiaaDoorW.PrintLast Go.Proofs.YtgfkgppomaapiaaDoorW.PrintMore Go.Proofs.YtgfkgppomaapiaaDoor.My
theorem LD {w : World} {A4 A9 : Option Addr} {l3 : List Int} {l4 : List jK} {l6 : List jX} {l9 : List jG} {A3 A6 : Option Addr} (h3 : Kd.C (Kd.int .i64) w A3 l3.length l3) (h4 : Kd.C k139 w A4 l4.length l4) (h6 : Kd.C k98 w A6 l6.length l6) (h9 : Kd.C k86 w A9 l9.length l9) : V9 l3 l4 l6 l9 := by
  have key : ∀ {A : Option Addr} {l : List jK}, Kd.C k139 w A l.length l → ∀ f ∈ l, f.f0.length ≤ 9223372036854775807 := by
    intro A l h f hf
    obtain ⟨i, hi, rfl⟩ := List.getElem_of_mem hf
    obtain ⟨_, _, _, _, _, _, _, hC⟩ := lW h i (by omega) (by omega)
    have e : jA l i = l[i] := by unfold jA; rw [Int.toNat_natCast, List.getD_eq_getElem?_getD, List.getElem?_eq_getElem hi]; rfl
    rw [e] at hC
    exact lC hC
  refine ⟨lC h3, lC h4, key h4, lC h6, lC h9, fun e he => ?_⟩
  obtain ⟨i, hi, rfl⟩ := List.getElem_of_mem he
  obtain ⟨_, _, _, _, _, _, _, hC⟩ := oQ h9 i (by omega) (by omega)
  have e : iU l9 i = l9[i] := by unfold iU; rw [Int.toNat_natCast, List.getD_eq_getElem?_getD, List.getElem?_eq_getElem hi]; rfl
  rw [e] at hC
  exact ⟨lC hC, key hC⟩
section
variable (a1 a2 : Int) (A3 : Option Addr) (c3 : Nat) (l3 : List Int) (A4 : Option Addr) (c4 : Nat) (l4 : List jK) (a5 : Int) (A6 : Option Addr) (c6 : Nat) (l6 : List jX) (a7 a8 : Int) (A9 : Option Addr) (c9 : Nat) (l9 : List jG) (w : World)
    (h3 : Kd.C (Kd.int .i64) w A3 l3.length l3) (d3 : l3.length ≤ c3) (h4 : Kd.C k139 w A4 l4.length l4) (d4 : l4.length ≤ c4) (h6 : Kd.C k98 w A6 l6.length l6) (d6 : l6.length ≤ c6) (h9 : Kd.C k86 w A9 l9.length l9) (d9 : l9.length ≤ c9)
include h3 d3 h4 d4 h6 d6 h9 d9
end
end Go.Proofs.YtgfkgppomaapiaaDoor.K
end
