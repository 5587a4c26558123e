/- The reference's Scan; what the laws of frames use. -/
import Derived.Test.YtbbhjceelghadaaFrameR
namespace Go.Proofs.Ytbbhjceelghadaa.My
open Go Go.RowKit Go.Proofs.YtbbhjceelghadaaW.PrintWords Go.Proofs.YtbbhjceelghadaaW.PrintMore Go.Proofs.YtbbhjceelghadaaW.PrintLast

/-- A row of rows of bytes that is new. -/
def OBB (w : World) (base : Nat) (v : Value) (ls : List (List UInt8)) : Prop := (Kd.slice 5 kb).R 22 w base (fun _ => True) v ls
theorem OBB.below {w w' : World} {base : Nat} {v : Value} {l : List (List UInt8)} (h : OBB w base v l) (hb : Below w.heap.size w w') : OBB w' base v l := Kd.R_below h hb
theorem OBB.reads {w : World} {base : Nat} {v : Value} {l : List (List UInt8)} (h : OBB w base v l) : ∃ A c, v = .slice A l.length c ∧ l.length ≤ c ∧ (Kd.slice 5 kb).C w A l.length l := Kd.R_reads h
theorem OBB.nil (w : World) (base : Nat) : OBB w base (.slice none 0 0) [] := Kd.R_nil _ _ _ _ _
theorem OBB.lower {w : World} {base base' : Nat} {v : Value} {l : List (List UInt8)} (h : OBB w base v l) (hb : base' ≤ base) : OBB w base' v l := Kd.R_lower h hb
theorem info_bb : (Try.prog.info? 22).map (fun i => (i.zero, i.size, i.bytes)) = some (some (.slice none 0 0), (Kd.slice 5 kb).sz, 24) := by kernel_rfl
/-- A row of bytes is none of the blocks of a row of rows. -/
theorem OB_apart {w : World} {base : Nat} {v x : Value} {ls : List (List UInt8)} {l : List UInt8} (h : OBB w base v ls) (hx : OB w base x l) : (Kd.slice 5 kb).M w base (fun k => some k ≠ v.ownBlock) l [x] := by
  refine ⟨x, rfl, ?_⟩
  cases hv : v.ownBlock with
  | none => exact Kd.R_mono hx (fun k _ => by simp)
  | some g =>
    obtain ⟨inner, ho⟩ := Kd.R_own h
    obtain ⟨cells, hc⟩ := own_typed ho g hv
    exact Kd.R_mono (Kd.R_types hx hc (by decide)) (fun k hk e => hk.2 (by injection e))

theorem FR_is_none {base : Nat} {e : Ending} {w : World} (h : FR none base e w) : ∃ v, e = .returned (.tuple #[v, .bool false]) := h
theorem FR_is_some {base : Nat} {e : Ending} {w : World} {x : List UInt8} (h : FR (some x) base e w) : ∃ v, e = .returned (.tuple #[v, .bool true]) ∧ OB w base v x := h

set_option maxHeartbeats 2000000 in
theorem refScan_any (A : Option Addr) (c : Nat) (l : List UInt8) (w0 : World) (hr : kb.C w0 A l.length l) (hc : l.length ≤ c) (hs : (l.length : Int) ≤ 1000000) :
    Calls Try.prog 22 #[.slice A l.length c] w0 fun e w' => ∃ v, e = .returned (.tuple #[v, .int .i64 (endB (scanB l) : Nat)]) ∧ OBB w' w0.heap.size v (scanB l) ∧ Below w0.heap.size w0 w' := by
  have HL := Aside0.mk hr
  clear hr
  go_enter Try.func22, Try.ntmps22
  go_wp2
  go_loopw [4, 5] (fun v i wr => ∃ (k : Nat) (ls : List (List UInt8)), k ≤ l.length ∧ i = .int .i64 (k : Int) ∧ Aside0 (scanB l = ls ++ scanB (l.drop k)) ∧ Aside0 (endB ls = k) ∧ ls.length ≤ k ∧ Aside0 (OBB wr w0.heap.size v ls) ∧ Aside0 (Below w0.heap.size w0 wr)) (fun _ i _ => l.length - (intOf i).toNat)
  case atStart => exact ⟨0, [], by omega, rfl, ⟨rfl⟩, ⟨rfl⟩, by simp, ⟨OBB.nil _ _⟩, ⟨Below.refl _ _⟩⟩
  case round =>
    obtain ⟨k, ls, hk, rfl, HS, HE, hll, HO, HB⟩ := hrel
    have hB := HB.out
    obtain ⟨A', hr, hC⟩ := cut_l HL.out hc k (k : Int) rfl hk
    obtain ⟨l', hl'⟩ : ∃ z, z = l.drop k := ⟨_, rfl⟩
    have hll' : l'.length = l.length - k := by rw [hl', List.length_drop]
    rw [← hl'] at hC
    rw [← hll'] at hr hC
    have HC := Aside0.mk (Kd.C_below hC hB)
    have HL' := Aside0.mk hl'
    have hcc : l'.length ≤ c - k := by omega
    have hk1 : (k : Int) ≤ (l.length : Int) := by omega
    have HLL := Aside0.mk hll'
    clear hC hl' hll'
    cases hf : firstB l' with
    | none =>
      have HF := Aside0.mk hf
      clear hf
      go_wp2_with fail
      refine (refFirst_any A' (c - k) l' _ HC.out hcc).mono ?_
      rintro e w1 ⟨hfr, hb1⟩
      rw [HF.out] at hfr
      obtain ⟨v1, rfl⟩ := FR_is_none hfr
      clear hfr
      go_wp2
      go_ret2
      have h1 : scanB l = ls := by rw [HS.out, ← HL'.out, scanB_none HF.out, List.append_nil]
      rw [h1, HE.out]
      exact ⟨u4, rfl, HO.out.below hb1, below_step hB hb1⟩
    | some x =>
      have HF := Aside0.mk hf
      have hxl := (first_some hf).2.2
      have hx60 : (x.length : Int) ≤ 60000 := by have := (first_some hf).1; omega
      have hxk : (k : Int) + ((x.length : Int) + 7) ≤ (l.length : Int) := by have := HLL.out; omega
      have hkx : k + (x.length + 7) ≤ l.length := by omega
      clear hf
      go_wp2_with fail
      refine (refFirst_any A' (c - k) l' _ HC.out hcc).mono ?_
      rintro e w1 ⟨hfr, hb1⟩
      rw [HF.out] at hfr
      obtain ⟨v1, rfl, ho1⟩ := FR_is_some hfr
      obtain ⟨A1, c1, rfl, hc1, hC1⟩ := ho1.reads
      have HO1 := Aside0.mk (ho1.lower hB.size)
      have HO2 := Aside0.mk (HO.out.below hb1)
      have hB1 := below_step hB hb1
      clear hfr hC1 ho1 hB HB hb1
      go_wp2_with (at_builtin; refine Kd.R_append (Kd.slice 5 kb) (w0 := w0) w0.heap.size rfl (.tmp 19) (.tmp 21) 36 22 (.slice none 0 0) 24 rfl Try.underlying36 info_bb rfl (by decide) (by omega) u4 ls x [(.slice A1 x.length c1)] (fun _ => True) (fun k => some k ≠ Value.ownBlock u4) rfl rfl (OB_apart HO2.out HO1.out) (fun _ h => ⟨trivial, h⟩) (fun _ _ => trivial) HO2.out ?aB ?aS ?aL ?_; (case aB => (repeat (first | exact Below.refl _ _ | apply below_alloc | apply below_drew | apply pw_below_drewN | apply below_bytesWorld | (refine below_set ?_ (by first | assumption | omega)) | refine below_step ?_ (by assumption)))); (case aS => exact below_size (by (repeat (first | exact Below.refl _ _ | apply below_alloc | apply below_drew | apply pw_below_drewN | apply below_bytesWorld | (refine below_set ?_ (by first | assumption | omega)) | refine below_step ?_ (by assumption))))); (case aL => omega); intro v2 w2 ho1 hb1_ hg hat; have HO1' := Aside0.mk (show OBB w2 w0.heap.size v2 (ls ++ [x]) from ho1); have HB1' := Aside0.mk hb1_; clear ho1 hb1_ hg hat)
      go_roundw
      case rel => exact ⟨k + (x.length + 7), ls ++ [x], hkx, by go_num, ⟨by rw [HS.out, ← HL'.out, scanB_some HF.out, List.append_assoc, HL'.out, List.drop_drop]; rfl⟩, ⟨by rw [endB_append, HE.out]; rfl⟩, by rw [List.length_append]; simp; omega, HO1', HB1'⟩
      case measure => simp [intOf]; try omega

end Go.Proofs.Ytbbhjceelghadaa.My
