/- Parts of the proof, one behind the other: CoV. -/
import Derived.Test.YtjppookmjdaplaaQCoordVotes2
set_option linter.unusedVariables false
set_option linter.unusedSimpArgs false
section
namespace Go.Proofs.Ytjppookmjdaplaa.K
open Go Go.RowKit Go.Maps Go.Proofs.YtjppookmjdaplaaW.PrintWords Go.Proofs.YtjppookmjdaplaaW.PrintLast Go.Proofs.YtjppookmjdaplaaW.PrintMore Go.Proofs.Ytjppookmjdaplaa.My
/-- A row of seven numbers of the law's own. -/
abbrev sdA (sd : List Int) : Array Value := (nums .i64 sd).toArray
theorem mk7 (W : World) : (Instr.makeSlice 25 (.int .i64 7) (.int .i64 7)).run Try.prog W = .ok (.slice (some ⟨W.heap.size, 0, none⟩) 7 7) (W.alloc (.cells (sdA [0, 0, 0, 0, 0, 0, 0]) 3)) := by
  have h := pF (P := Try.prog) 25 3 .i64 8 Try.underlying25 (by kernel_rfl) (by decide) 7 (by decide) W
  rw [show sdA [0, 0, 0, 0, 0, 0, 0] = madeCells #[.int .i64 0] 7 from by kernel_rfl]
  exact h
theorem qL {w : World} {g : Nat} {sd : List Int} (h : w.heap[g]? = some (.cells (sdA sd) 3 (0, 0))) (i : Nat) (hi : i < sd.length) : w.cell? ⟨g, i, none⟩ = some (.int .i64 (rd sd (i : Int))) := by
  rw [iE h i]
  simp [nums, rd, List.getD_eq_getElem?_getD, List.getElem?_eq_getElem hi, hi]
theorem vJ {w : World} {g : Nat} {sd : List Int} (h : w.heap[g]? = some (.cells (sdA sd) 3 (0, 0))) (i : Nat) (x : Int) : (w.setCell ⟨g, i, none⟩ (.int .i64 x)).heap[g]? = some (.cells (sdA (sd.set i x)) 3 (0, 0)) :=
  iL h i _ (by simp [nums, List.map_set])
/-- What has been said, as numbers and as a list. -/
structure Sd (sd : List Int) (ns said : List Int) : Prop where
  len : sd.length = 7
  bit : ∀ i : Nat, i < 7 → rd sd (i : Int) = 0 ∨ rd sd (i : Int) = 1
  iff : ∀ x ∈ ns, x ∈ said ↔ rd sd x = 1
theorem Sd.new (ns : List Int) : Sd [0, 0, 0, 0, 0, 0, 0] ns [] := by
  have hz : ∀ i : Nat, i < 7 → rd [0, 0, 0, 0, 0, 0, 0] (i : Int) = 0 := by decide
  refine ⟨rfl, fun i hi => .inl (hz i hi), fun x _ => ⟨fun h => (by cases h), fun h => ?_⟩⟩
  exfalso
  unfold rd at h
  rw [List.getD_eq_getElem?_getD] at h
  have : ∀ j : Nat, ([0, 0, 0, 0, 0, 0, 0] : List Int)[j]?.getD 0 = 0 := fun j => by
    rcases Nat.lt_or_ge j 7 with hj | hj
    · have := hz j hj; unfold rd at this; rwa [Int.toNat_natCast, List.getD_eq_getElem?_getD] at this
    · rw [List.getElem?_eq_none (by simpa using hj)]; rfl
  rw [this] at h; cases h
theorem rJ {sd : List Int} {k : Nat} (hk : k < sd.length) (v : Int) (x : Int) (h0 : 0 ≤ x) : rd (sd.set k v) x = if x = (k : Int) then v else rd sd x := by
  obtain ⟨j, rfl⟩ := Int.eq_ofNat_of_zero_le h0
  unfold rd
  rw [Int.toNat_natCast, List.getD_eq_getElem?_getD, List.getD_eq_getElem?_getD, List.getElem?_set]
  by_cases e : k = j
  · subst e; rw [if_pos rfl, if_pos rfl]; simp [hk]
  · rw [if_neg e, if_neg (by omega)]
theorem Sd.say {sd : List Int} {b : CB} (h : Sd sd b.nodes b.said) (hrt : Rt b.nodes) {k : Nat} (hk : k < 7) : Sd (sd.set k 1) b.nodes (b.say (k : Int)).said := by
  refine ⟨by rw [List.length_set]; exact h.len, fun i hi => ?_, fun x hx => ?_⟩
  · rw [rJ (by rw [h.len]; exact hk) 1 (i : Int) (by omega)]
    split
    · exact .inr rfl
    · exact h.bit i hi
  · rw [rJ (by rw [h.len]; exact hk) 1 x (hrt.rng x hx).1]
    unfold CB.say
    split
    · rename_i hs
      simp only [List.mem_append, List.mem_singleton]
      split
      · rename_i e; simp [e]
      · rename_i e; simp [e, h.iff x hx]
    · rename_i hs
      split
      · rename_i e
        subst e
        constructor
        · exact fun _ => rfl
        · intro _
          by_cases hm : (k : Int) ∈ b.said
          · exact hm
          · exact absurd ⟨hx, hm⟩ hs
      · exact h.iff x hx
def sdP (sd : List Int) (x : Int) : Bool := rd sd x == 1
theorem Sd.lacks {sd : List Int} {b : CB} (h : Sd sd b.nodes b.said) : b.lacks = b.nodes.filter fun x => !sdP sd x := by
  unfold CB.lacks
  refine List.filter_congr (fun x hx => ?_)
  have := h.iff x hx
  unfold sdP
  by_cases e : rd sd x = 1
  · simp [e, this.2 e]
  · have hn : x ∉ b.said := fun hm => e (this.1 hm)
    have he : (rd sd x == 1) = false := by simpa using e
    rw [he]; simp [hn]
theorem Sd.all {sd : List Int} {b : CB} (h : Sd sd b.nodes b.said) : b.all = b.nodes.all (sdP sd) := by
  unfold CB.all
  rw [h.lacks]
  cases hA : b.nodes.all (sdP sd)
  · obtain ⟨x, hx, hp⟩ := List.all_eq_false.1 hA
    rw [List.isEmpty_eq_false_iff]
    intro e
    have : x ∈ b.nodes.filter fun x => !sdP sd x := List.mem_filter.2 ⟨hx, by simpa using hp⟩
    rw [e] at this; cases this
  · rw [List.isEmpty_iff]
    refine List.filter_eq_nil_iff.2 (fun x hx => ?_)
    have := List.all_eq_true.1 hA x hx
    simp [this]
theorem nS {l : List Int} {k : Nat} (hk : k < l.length) (p : Int → Bool) : ((l.take (k + 1)).filter p).length = ((l.take k).filter p).length + if p (rd l k) then 1 else 0 := by
  rw [jK 0 l k hk, List.filter_append, List.length_append]
  congr 1
  rw [show l.getD k 0 = rd l k from by simp [rd]]
  cases hp : p (rd l k) <;> simp [hp]
theorem rD {l : List Int} {k : Nat} (hk : k < l.length) (p : Int → Bool) : (l.take (k + 1)).all p = ((l.take k).all p && p (rd l k)) := by
  rw [jK 0 l k hk, List.all_append]
  rw [show l.getD k 0 = rd l k from by simp [rd]]
  simp
def vS (b : CB) : CS := ⟨[(1, b)], 0, 0, 1, 1, [⟨0, 0⟩]⟩
theorem vU (b : CB) (h : b.st = 1) : (vS b).inn 1 1 = some b := by simp [CS.inn, vS, getB, h, Option.filter]
theorem pO (b : CB) (h : b.st = 1) (x : Int) : (vS b).voteE 1 x = (b.say x).all ∧ (vS b).vote 1 x = vS (b.say x) := by
  unfold CS.voteE CS.vote
  rw [vU b h]
  exact ⟨rfl, by simp [CS.say, CS.withL, vS, setB]⟩
attribute [-go_sem] Instr.build
attribute [local go_sem] bu_2 rG mk7
set_option maxRecDepth 20000 in
set_option maxHeartbeats 8000000 in
theorem coordVotes_walk (b : Nat) (A1 : Option Addr) (q1 : Nat) (l : List UInt8) (w : World) (hb : b < 256) (hr : kb.C w A1 l.length l) (hc : l.length ≤ q1) :
    Calls Try.prog 3 #[.int .u8 (b : Int), .slice A1 l.length q1] w fun e w' => e = .returned (.bool true) ∧ Below w.heap.size w w' := by
  have hmx := hr.2.1
  obtain ⟨N, hN⟩ : ∃ N, l.length = N := ⟨_, rfl⟩
  have HN := iC.mk hN
  rw [hN] at hmx hr hc ⊢
  have HC := iC.mk hr
  have hno := fun W => nU (b : Int) W (by omega)
  have hrt := pI (b : Int)
  obtain ⟨ns, hns⟩ : ∃ ns, ns = kW (b : Int) := ⟨_, rfl⟩
  rw [← hns] at hno hrt
  have hnl := hrt.len
  have HRT := iC.mk hrt
  obtain ⟨M, hM⟩ : ∃ M, ns.length = M := ⟨_, rfl⟩
  have HM := iC.mk hM
  rw [hM] at hno hnl
  clear hr hN hb hns hrt hM
  go_enter Try.func3, Try.ntmps3
  go_wp2_with fail
  go_at_call 10
  refine (new_any w).mono ?_
  rintro e w1 ⟨c, rfl, h1, hb1⟩
  have HB1 := iC.mk hb1
  have H1 := iC.mk h1
  clear h1 hb1
  go_wp2_with fail
  go_at_call 11
  refine (hno w1).mono ?_
  rintro e w2 ⟨A2, q2, rfl, hR2, hb2⟩
  have HB2 := iC.mk (iI HB1.out hb2)
  have H2 := iC.mk (H1.out.below hb2)
  have HR2 := iC.mk (Kd.R_lower hR2 HB1.out.size)
  clear hno hR2 hb2 HB1 H1
  by_cases hbig : 100 < N
  · have hkn := mP HB2.out
    go_wp2_with (go_at_call 12; refine hkn.mono ?_; rintro e w3 ⟨rfl, hb3⟩)
    go_ret
    exact ⟨rfl, hb3⟩
  · by_cases hM0 : M = 0
    · have hkn := mP HB2.out
      subst hM0
      go_wp2_with (go_at_call 12; refine hkn.mono ?_; rintro e w3 ⟨rfl, hb3⟩)
      go_ret
      exact ⟨rfl, hb3⟩
    · have hne : ns ≠ [] := by intro e; rw [e] at HM; exact hM0 (by rw [← HM.out]; rfl)
      have hrb := nR HRT.out hne
      have hid : CS.new.beginId ns = (1, 0) := by unfold CS.beginId; rw [if_neg (by simp [hrb]), if_neg (by decide)]; rfl
      have hbe : CS.new.begin_ ns = ⟨[(1, ⟨1, 0, ns, [], false⟩)], 0, 0, 1, 1, [⟨0, 0⟩]⟩ := by unfold CS.begin_; rw [if_neg (by simp [hrb]), if_neg (by decide)]; rfl
      have hcall := nM H2.out (fr_C HR2.out) (k := q2) (by rw [HM.out]; exact (R_C HR2.out).2.1) (by omega)
      rw [hid, hbe] at hcall
      rw [HM.out] at hcall
      clear hid hbe
      have hM1 : ((M : Int) == 0) = false := by simpa using hM0
      go_wp2_with fail
      go_at_call 13
      refine hcall.mono ?_
      rintro e w3 ⟨rfl, h3, hf3⟩
      have H3 := iC.mk h3
      have HF3 := iC.mk ((CoFr.of_below HB2.out (Nat.le_refl _)).trans hf3)
      have HR3 := iC.mk (hf3.rows HR2.out (fun q hq => by (obtain rfl : q = 3 := (by simpa [show ki.E = [] from rfl] using hq)); exact (by decide)))
      clear h3 hf3 hcall HB2 H2 HR2
      go_wp2
      obtain ⟨g, hg⟩ : ∃ g, g = w3.heap.size := ⟨_, rfl⟩
      have HX := iC.mk (show (w3.alloc (.cells (sdA [0, 0, 0, 0, 0, 0, 0]) 3)).heap[g]? = some (.cells (sdA [0, 0, 0, 0, 0, 0, 0]) 3 (0, 0)) from iP hg)
      have hal : Below w3.heap.size w3 (w3.alloc (.cells (sdA [0, 0, 0, 0, 0, 0, 0]) 3)) := iD (Below.refl _ _) _
      have H4 := iC.mk (H3.out.rez (g := g) hal (by omega) (by rw [hg]; simp))
      have HF4 := iC.mk (HF3.out.trans (CoFr.of_below hal H3.out.Ble))
      have HR4 := iC.mk (Kd.R_mono (Kd.R_below (Kd.R_bound HR3.out) hal) (ok' := fun k => k ≠ g) (fun k hk => by have := hk.2.2.1; omega))
      have HG := iC.mk (show w.heap.size ≤ g from by rw [hg]; exact HF3.out.size)
      rw [← hg]
      generalize w3.alloc (.cells (sdA [0, 0, 0, 0, 0, 0, 0]) 3) = w4 at HX H4 HF4 HR4 ⊢
      clear hg hal H3 HF3 HR3
      go_loopw [10] (fun q wr => ∃ (i : Nat) (sd : List Int) (bb : CB), q = .int .i64 (i : Int) ∧ i ≤ N ∧ iC (Co g wr w.heap.size c 1 (vS bb)) ∧ iC (CoFr w.heap.size w wr) ∧ iC (wr.heap[g]? = some (.cells (sdA sd) 3 (0, 0))) ∧ iC (ki.R 3 wr w.heap.size (fun k => k ≠ g) (.slice A2 M q2) ns) ∧ iC (Sd sd bb.nodes bb.said ∧ bb.nodes = ns ∧ bb.st = 1 ∧ bb.ended = false)) (fun q _ => ((N : Int) - intOf q).toNat)
      case atStart => exact ⟨0, _, ⟨1, 0, ns, [], false⟩, rfl, Nat.zero_le _, H4, HF4, HX, HR4, ⟨Sd.new ns, rfl, rfl, rfl⟩⟩
      case round =>
        obtain ⟨i, sd, bb, rfl, hi, HS, HF, HXr, HRr, HD⟩ := hrel
        by_cases hlt : i < N
        · have hCr : kb.C wr A1 N l := Kd.C_below HC.out HF.out.below
          obtain ⟨ad, rfl, hx⟩ := C_at hCr i hlt
          obtain ⟨X, hX⟩ : ∃ X, X = ((l.getD i 0).toNat : Int) := ⟨_, rfl⟩
          have hX0 : 0 ≤ X ∧ X < 256 := by have := (l.getD i 0).toNat_lt; omega
          rw [← hX] at hx
          have hw : wrap64 ((i : Int) + 1) = ((i + 1 : Nat) : Int) := by unfold wrap64; omega
          obtain ⟨k, hk⟩ : ∃ k : Nat, X.tmod 7 = (k : Int) := ⟨(X % 7).toNat, by rw [Int.tmod_eq_emod_of_nonneg hX0.1]; omega⟩
          have hk7 : k < 7 := by rw [Int.tmod_eq_emod_of_nonneg hX0.1] at hk; omega
          have hwk : wrap64 (k : Int) = (k : Int) := by unfold wrap64; omega
          have hsl := HD.out.1.len
          have y0 := qL HXr.out k (by rw [hsl]; exact hk7)
          have f0 := iH HXr.out k
          clear hX hCr hX0 hsl
          go_upto_region 14 with fail
          obtain ⟨W, hW⟩ : ∃ W, W = wr.setCell ⟨g, k, none⟩ (.int .i64 1) := ⟨_, rfl⟩
          have hgr := nG wr g k (.int .i64 1)
          have HX5 := iC.mk (show W.heap[g]? = some (.cells (sdA (sd.set k 1)) 3 (0, 0)) from by rw [hW]; exact vJ HXr.out k 1)
          have H5 := iC.mk (show Co g W w.heap.size c 1 (vS bb) from by rw [hW]; exact HS.out.other HXr.out hgr (by decide) (by decide) (by decide) (fun _ => rfl))
          have HF5 := iC.mk (show CoFr w.heap.size w W from by rw [hW]; exact CoFr.of_below (HF.out.below.grown hgr HF.out.size (fun j hj => by cases hj; exact HG.out)) (Nat.le_refl _))
          have HR5 := iC.mk (show ki.R 3 W w.heap.size (fun k => k ≠ g) (.slice A2 M q2) ns from by rw [hW]; exact Kd.R_far HRr.out (p := ⟨g, k, none⟩) (fun j hj => hj) _)
          have HD5 := iC.mk (And.intro (HD.out.1.say (by rw [HD.out.2.1]; exact HRT.out) hk7) (And.intro HD.out.2.1 (And.intro HD.out.2.2.1 HD.out.2.2.2)))
          obtain ⟨sd', hsd⟩ : ∃ sd', sd' = sd.set k 1 := ⟨_, rfl⟩
          rw [← hsd] at HX5 HD5
          rw [← hW]
          clear hW hgr y0 f0 HS HF HXr HRr HD hsd hx
          go_wp2
          have HWK := iC.mk hwk
          clear hk hwk
          go_loopw [12, 13, 14] (fun p q r wr' => ∃ j : Nat, p = .bool ((ns.take j).all (sdP sd')) ∧ q = .int .i64 (((ns.take j).filter fun x => !sdP sd' x).length : Int) ∧ r = .int .i64 (j : Int) ∧ j ≤ M ∧ wr' = W) (fun _ _ r _ => ((M : Int) - intOf r).toNat)
          case atStart => exact ⟨0, rfl, rfl, rfl, Nat.zero_le _, rfl⟩
          case round =>
            obtain ⟨j, rfl, rfl, rfl, hj, rfl⟩ := hrel
            by_cases hlj : j < M
            · have hjl : j < ns.length := by rw [HM.out]; exact hlj
              have hC2 : ki.C wr A2 M ns := by have := (R_C HR5.out).2.2; rwa [HM.out] at this
              obtain ⟨ad2, rfl⟩ : ∃ ad2, A2 = some ad2 := by
                obtain ⟨ad2, _, e, _⟩ := Kd.C_get hC2 0 (j : Int) (by omega) (by omega)
                exact ⟨ad2, e⟩
              have hx2 := Kd.foot_int hC2 (j : Int) (by omega) (by omega)
              rw [Int.toNat_natCast] at hx2
              have hall := rD hjl (sdP sd')
              have hfil := nS hjl (fun x => !sdP sd' x)
              have hxm : rd ns j ∈ ns := by unfold rd; rw [Int.toNat_natCast, List.getD_eq_getElem?_getD, List.getElem?_eq_getElem hjl]; exact List.getElem_mem hjl
              have hxr := HRT.out.rng _ hxm
              obtain ⟨x, hxe⟩ : ∃ x : Nat, rd ns j = (x : Int) := ⟨(rd ns j).toNat, by omega⟩
              rw [hxe] at hx2 hall hfil hxr
              have hx7 : x < 7 := by omega
              have hy := qL HX5.out x (by rw [HD5.out.1.len]; exact hx7)
              have hbit := HD5.out.1.bit x hx7
              obtain ⟨v, hv⟩ : ∃ v, v = rd sd' (x : Int) := ⟨_, rfl⟩
              have hp : sdP sd' (x : Int) = (v == 1) := by rw [hv]; rfl
              rw [← hv] at hy hbit
              rw [hp] at hall hfil
              obtain ⟨F, hF⟩ : ∃ F, F = ((ns.take j).filter fun x => !sdP sd' x).length := ⟨_, rfl⟩
              obtain ⟨b1, hb1⟩ : ∃ b1, b1 = (ns.take j).all (sdP sd') := ⟨_, rfl⟩
              have hFl : F ≤ 6 := by rw [hF]; exact Nat.le_trans (List.length_filter_le _ _) (by rw [List.length_take]; omega)
              rw [← hF] at hfil ⊢
              rw [← hb1] at hall ⊢
              have HALL := iC.mk hall
              have HFIL := iC.mk hfil
              have hw2 : wrap64 ((j : Int) + 1) = ((j + 1 : Nat) : Int) := by unfold wrap64; omega
              clear hC2 hall hfil hxm hxe hv hp hF hb1 hjl hxr
              obtain ⟨b2, hb2⟩ : ∃ b2, (v == 1) = b2 := ⟨_, rfl⟩
              obtain ⟨d, hd⟩ : ∃ d : Nat, 1 - v = (d : Int) := ⟨(1 - v).toNat, by omega⟩
              have hd2 : d = if !b2 then 1 else 0 := by
                rcases hbit with rfl | rfl
                · obtain rfl : b2 = false := by rw [← hb2]; rfl
                  simp; omega
                · obtain rfl : b2 = true := by rw [← hb2]; rfl
                  simp; omega
              have hwd : wrap64 (1 - v) = (d : Int) := by rw [hd]; unfold wrap64; omega
              have hw3 : wrap64 ((F : Int) + (d : Int)) = ((F + d : Nat) : Int) := by unfold wrap64; omega
              rw [hb2] at HALL HFIL
              rw [← hd2] at HFIL
              clear hd hd2 hbit
              cases b2 <;> cases b1 <;>
              · go_wp2
                go_roundw
                case rel => exact ⟨j + 1, by rw [HALL.out]; rfl, by rw [HFIL.out]; first | rfl | rw [hw3], by first | rfl | rw [hw2], hlj, trivial⟩
                case measure => (first | (simp [intOf, hw2]; omega) | (simp [intOf]; omega))
            · obtain rfl : j = M := by omega
              have hsd : Sd sd' (bb.say (k : Int)).nodes (bb.say (k : Int)).said := by rw [CB.say_nodes]; exact HD5.out.1
              have hnd : (bb.say (k : Int)).nodes = ns := by rw [CB.say_nodes]; exact HD5.out.2.1
              have e1 : (ns.take j).all (sdP sd') = (bb.say (k : Int)).all := by rw [List.take_of_length_le (by rw [HM.out]; exact Nat.le_refl _), hsd.all, hnd]
              have e2 : ((ns.take j).filter fun x => !sdP sd' x) = (bb.say (k : Int)).lacks := by rw [List.take_of_length_le (by rw [HM.out]; exact Nat.le_refl _), hsd.lacks, hnd]
              rw [e1, e2]
              have hv := lV H5.out (id := 1) (by omega) (k : Int) (by omega)
              rw [(pO bb HD5.out.2.2.1 _).1, (pO bb HD5.out.2.2.1 _).2] at hv
              have HN5 := iC.mk (And.intro hsd (And.intro hnd (And.intro ((bb.say_st (k : Int)).trans HD5.out.2.2.1) ((bb.say_ended (k : Int)).trans HD5.out.2.2.2))))
              obtain ⟨bn, hbn⟩ : ∃ bn, bn = bb.say (k : Int) := ⟨_, rfl⟩
              rw [← hbn] at hv HN5 ⊢
              obtain ⟨al, hal⟩ : ∃ al, al = bn.all := ⟨_, rfl⟩
              rw [← hal] at hv ⊢
              clear e1 e2 hsd hnd hbn hal HD5
              go_wp2_with fail
              go_at_call 14
              refine hv.mono ?_
              rintro e w6 ⟨rfl, h6, hf6⟩
              have H6 := iC.mk h6
              have HF6 := iC.mk (HF5.out.trans hf6)
              have HX6 := iC.mk (hf6.cells _ _ _ _ HX5.out (by decide) (by decide))
              have HR6 := iC.mk (hf6.rows HR5.out (fun q hq => by (obtain rfl : q = 3 := (by simpa [show ki.E = [] from rfl] using hq)); exact (by decide)))
              have hla := nJ h6 (id := 1) (by omega)
              rw [show (vS bn).lacks 1 = bn.lacks from by simp [CS.lacks, vS, getB, HN5.out.2.2.2]] at hla
              obtain ⟨LA, hLA⟩ : ∃ LA, LA = bn.lacks := ⟨_, rfl⟩
              rw [← hLA] at hla ⊢
              have hne2 : (al != al) = false := by cases al <;> rfl
              clear hv h6 hf6 hLA
              go_wp2_with fail
              go_at_call 15
              refine hla.mono ?_
              rintro e w7 ⟨v7, rfl, hr7, hb7⟩
              obtain ⟨A7, q7, rfl⟩ := Kd.R_slice hr7
              have H7 := iC.mk (H6.out.below hb7)
              have HF7 := iC.mk (HF6.out.trans (CoFr.of_below hb7 H6.out.Ble))
              have HX7 := iC.mk (jD hb7 HX6.out)
              have HR7 := iC.mk (Kd.R_below HR6.out hb7)
              clear hla hr7 hb7
              go_wp2
              go_roundw
              case rel => exact ⟨i + 1, sd', bn, by first | rfl | rw [hw], hlt, H7, HF7, HX7, HR7, HN5⟩
              case measure => (first | (simp [intOf, hw]; omega) | (simp [intOf]; omega))
        · obtain rfl : i = N := by omega
          have hkn := l9 wr
          go_wp2_with fail
          go_at_call 12
          refine hkn.mono ?_
          rintro e w6 ⟨rfl, hb6⟩
          have HF6 := iC.mk (iI HF.out.below hb6)
          have hst := kT (HS.out.below hb6) (id := 1) (by omega)
          rw [show (vS bb).status 1 = (1, bb.at_) from by simp [CS.status, vS, getB, HD.out.2.2.1]] at hst
          obtain ⟨tt, htt⟩ : ∃ tt, tt = bb.at_ := ⟨_, rfl⟩
          rw [← htt] at hst
          clear hkn hb6 htt
          go_wp2_with fail
          go_at_call 16
          refine hst.mono ?_
          rintro e w7 ⟨rfl, hb7⟩
          have HF7 := iC.mk (iI HF6.out hb7)
          clear hst hb7
          go_wp2
          go_ret
          exact ⟨rfl, HF7.out⟩
end Go.Proofs.Ytjppookmjdaplaa.K
end
