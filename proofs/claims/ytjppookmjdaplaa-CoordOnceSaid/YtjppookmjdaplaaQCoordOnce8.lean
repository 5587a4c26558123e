/- Parts of the proof, one behind the other: OnW, Came, CameS, CameP, OnC. -/
import Derived.Test.YtjppookmjdaplaaQCoordOnce7
import Derived.Test.YtjppookmjdaplaaRows
import Derived.Deep.Slices
import Derived.ChangeSame
set_option linter.unusedVariables false
set_option linter.unusedSimpArgs false
section
namespace Go.Proofs.Ytjppookmjdaplaa.K
open Go Go.RowKit Go.Maps Go.Proofs.YtjppookmjdaplaaW.PrintWords Go.Proofs.YtjppookmjdaplaaW.PrintLast Go.Proofs.YtjppookmjdaplaaW.PrintMore Go.Proofs.Ytjppookmjdaplaa.My
attribute [-go_sem] Instr.build
attribute [local go_sem] NI
set_option maxRecDepth 20000 in
set_option maxHeartbeats 8000000 in
theorem coordOnce_walk (A0 : Option Addr) (q0 : Nat) (l : List TOp) (w : World) (hC : kOp.C w A0 l.length l) (hc : l.length ≤ q0) (hok : l.length ≤ 140737488351232 ∧ ∀ x ∈ l, OpOk x) :
    Calls Try.prog 7 #[.slice A0 l.length q0] w fun e w' => e = .returned (.bool true) ∧ Below w.heap.size w w' := by
  have hhv := LV A0 q0 l w hC
  have HC := iC.mk hC
  have HOK := iC.mk hok.2
  obtain ⟨N, hN⟩ : ∃ N, l.length = N := ⟨_, rfl⟩
  have HN := iC.mk hN
  rw [hN] at hhv hc HC ⊢
  clear hC hok hN
  go_enter Try.func7, Try.ntmps7
  go_wp2_with fail
  go_at_call 28
  refine hhv.mono ?_
  rintro e w1 ⟨b, rfl, hb, rfl⟩
  have HHV := iC.mk hb
  have hkn := vF w1
  clear hb hhv
  cases b with
  | true =>
    go_wp2_with (go_at_call 12; refine hkn.mono ?_; rintro e w3 ⟨rfl, hb3⟩)
    go_ret
    exact ⟨rfl, hb3⟩
  | false =>
    have HLN := iC.mk (HHV.out rfl)
    clear HHV
    go_wp2_with fail
    go_at_call 12
    refine hkn.mono ?_
    rintro e w2 ⟨rfl, hb2⟩
    have HB2 := iC.mk hb2
    have HC2 := iC.mk (Kd.C_below HC.out hb2)
    clear hkn hb2 HC
    go_wp2_with fail
    go_at_call 10
    refine (new_any w2).mono ?_
    rintro e w3 ⟨c, rfl, h3, hb3⟩
    have H3 := iC.mk h3
    have HB3 := iC.mk hb3
    clear h3 hb3
    go_wp2_with fail
    go_at_call 29
    refine (J9 w3).mono ?_
    rintro e w4 ⟨rc, rfl, h4, hb4⟩
    have htw := Tw.new H3.out HB3.out h4 hb4
    have HTW := iC.mk htw.1
    have HBW := iC.mk htw.2
    clear h4 hb4 htw H3 HB3
    go_upto_region 4 with fail
    obtain ⟨W5, hW5⟩ : ∃ W5, W5 = w4.alloc (.cells (twC c rc) 65) := ⟨_, rfl⟩
    obtain ⟨tp, htp⟩ : ∃ tp, tp = w4.heap.size := ⟨_, rfl⟩
    rw [← hW5, ← htp] at HTW
    rw [← hW5] at HBW
    rw [show w4.alloc (.cells #[.pointer (some ⟨c, 0, none⟩), .pointer (some ⟨rc, 0, none⟩), .slice none 0 0] 65) = W5 from hW5.symm, ← htp]
    obtain ⟨Ai, ki', t0, _⟩ := HTW.out.blk
    have u0 := (iD t0 0).trans (show _ = some (Value.pointer (some ⟨c, 0, none⟩)) from rfl)
    clear t0 hW5 htp
    go_wp2_with fail
    go_loopw [4, 5] (fun q4 q5 wr => ∃ (last : Int) (i n : Nat) (s : CS) (ids : List Int), q4 = .int .u32 last ∧ q5 = .int .i64 (i : Int) ∧ i ≤ N ∧ iC (Tw wr w2.heap.size tp c rc n s ids) ∧ iC (Below w2.heap.size w2 wr) ∧ iC (n ≤ i ∧ s.L.length ≤ i ∧ ids.length ≤ i ∧ last ≤ s.last)) (fun _ q5 _ => ((N : Int) - intOf q5).toNat)
    case atStart => exact ⟨0, 0, 0, CS.new, [], rfl, rfl, Nat.zero_le _, HTW, HBW, ⟨Nat.le_refl _, Nat.le_refl _, Nat.le_refl _, Int.le_refl _⟩⟩
    case round =>
      obtain ⟨last, i, n, s, ids, rfl, rfl, hi, HS, HB, HI⟩ := hrel
      clear HTW HBW u0
      by_cases hlt : i < N
      · obtain ⟨L, hLe⟩ : ∃ L, ids.length = L := ⟨_, rfl⟩
        have HL := iC.mk hLe
        have hI := HI.out
        have hN60 : N ≤ 60 := by exact HLN.out.1
        have hL60 : L ≤ 60 := by omega
        obtain ⟨Ai, ki', t0, _⟩ := HS.out.blk
        have u2 := (iD t0 2).trans (show _ = some (Value.slice Ai ids.length ki') from rfl)
        rw [hLe] at u2
        have hmk := fun (_ : True) => mkst L (by omega) wr
        have hli := vS hlt
        have HLI := iC.mk (And.intro hlt (And.intro hN60 hI))
        clear t0 hLe hI hN60
        go_wp2_with fail
        obtain ⟨g, hg⟩ : ∃ g, g = wr.heap.size := ⟨_, rfl⟩
        obtain ⟨W, hW⟩ : ∃ W, W = wr.alloc (.cells (stZ L) 36) := ⟨_, rfl⟩
        have hal : Below wr.heap.size wr W := by rw [hW]; exact iF (Below.refl _ _) _
        have HX := iC.mk (show StB W g L 0 (fun j => s.status (rd ids j)) from ⟨stZ L, by rw [hW]; exact jD hg, size_madeCells _ _, fun j hj => by omega⟩)
        have HGG := iC.mk (show w2.heap.size ≤ g from by rw [hg]; exact HB.out.size)
        have HSW := iC.mk (HS.out.below hal)
        have HBW := iC.mk (HB.out.trans (hal.mono HB.out.size))
        rw [← hW, ← hg]
        clear hW hg hal u2 hmk HS HB
        go_loopw [7] (fun q wr' => ∃ k : Nat, q = .int .i64 (k : Int) ∧ k ≤ L ∧ iC (Tw wr' w2.heap.size tp c rc n s ids) ∧ iC (Below w2.heap.size w2 wr') ∧ iC (StB wr' g L k (fun j => s.status (rd ids j)))) (fun q _ => ((L : Int) - intOf q).toNat)
        case atStart => exact ⟨0, rfl, Nat.zero_le _, HSW, HBW, HX⟩
        case round =>
          obtain ⟨k, rfl, hk, HS, HB, HG⟩ := hrel
          clear HSW HBW HX
          by_cases hlk : k < L
          · have hkl : k < ids.length := by rw [HL.out]; exact hlk
            obtain ⟨ai, q, t0, xi⟩ := HS.out.ids hkl
            have hid := HS.out.id hkl
            obtain ⟨X, hX⟩ : ∃ X, X = rd ids (k : Int) := ⟨_, rfl⟩
            rw [← hX] at xi hid
            have u0 := (iD t0 0).trans (show _ = some (Value.pointer (some ⟨c, 0, none⟩)) from rfl)
            have u2 := (iD t0 2).trans (show _ = some (Value.slice (some ai) ids.length q) from rfl)
            rw [HL.out] at u2
            have hst := mM (HS.out.co.below (iP (Below.refl _ _))) hid
            obtain ⟨p, hp⟩ : ∃ p, p = s.status X := ⟨_, rfl⟩
            rw [← hp] at hst
            have HP := iC.mk (show p = s.status (rd ids (k : Int)) from by rw [hp, hX])
            obtain ⟨⟨v0, v1, y0, y1⟩, fz⟩ := HG.out.room hlk
            have f0 := fz (k * 2)
            have f1 := fz (k * 2 + 1)
            have hw := I5 k (Nat.le_trans (Nat.le_of_lt hlk) (Nat.le_trans hL60 (by decide)))
            have hlk1 := vS hlk
            clear t0 hX hp hid fz hkl
            go_upto_region 14 with fail
            refine jQ (n := 16) (S := fun w' => w'.cell? ⟨tp, 0, none⟩ = some (.pointer (some ⟨c, 0, none⟩)) ∧ w'.cell? ⟨tp, 2, none⟩ = some (.slice (some ai) L q) ∧ w'.cell? (ai.add k) = some (.int .u32 X) ∧ w'.cell? ⟨g, k * 2, none⟩ = some v0 ∧ w'.cell? ⟨g, k * 2 + 1, none⟩ = some v1 ∧ w'.frozen? ⟨g, k * 2, none⟩ = false ∧ w'.frozen? ⟨g, k * 2 + 1, none⟩ = false) (ds := [15]) #[false, false, false, false, false, false, false, false, false, false, false, false, false, false, false, false] (by kernel_rfl) rfl rfl ⟨u0, u2, xi, y0, y1, f0, f1⟩ (fun hHeld => ?_)
            refine jE (T := (true, [([], []), ([], []), ([], []), ([2], [2]), ([3], [3]), ([4], [4]), ([], []), ([6], [6]), ([7], [7]), ([8], [8]), ([], []), ([9, 10], [9, 10]), ([11], [11]), ([5, 12], [5, 12]), ([0, 1, 0, 1, 2, 3, 4, 5, 6, 7, 8, 9, 10, 11, 12, 13], [0, 1]), ([14, 13, 13, 0, 1, 2, 3, 4, 5, 6, 7, 8, 9, 10, 11, 12, 13], [13, 14])])) (B := [0, 0, 0, 4, 12, 28, 0, 64, 192, 448, 0, 1984, 4032, 8188, 16383, 32767]) (by kernel_rfl) (by kernel_rfl) (fun HT_ HW_ => ?_)
            refine iM (i := 0) (N := some 46) (v := ?_) (a' := ?_) #[true, false, false, false, false, false, false, false, false, false, false, false, false, false, false, false] rfl rfl (iI HT_.out (by kernel_rfl)) (fun _ _ _ h => h) (Or.inl ⟨by rfl, ?_⟩) ?_ ?_
            rotate_left
            · intro w'
              go_simp
              with_reducible rfl
            rotate_left
            · simp only [Act.put, List.setIfInBounds_toArray, List.set_cons_zero, List.set_cons_succ, iJ, iK]
              rfl
            refine iM (i := 1) (N := some 47) (v := ?_) (a' := ?_) #[true, true, false, false, false, false, false, false, false, false, false, false, false, false, false, false] rfl rfl (iI HT_.out (by kernel_rfl)) (fun _ _ _ h => h) (Or.inl ⟨by rfl, ?_⟩) ?_ ?_
            rotate_left
            · intro w'
              go_simp
              with_reducible rfl
            rotate_left
            · simp only [Act.put, List.setIfInBounds_toArray, List.set_cons_zero, List.set_cons_succ, iJ, iK]
              rfl
            refine iM (i := 2) (N := some 48) (v := ?_) (a' := ?_) #[true, true, true, false, false, false, false, false, false, false, false, false, false, false, false, false] rfl rfl (iI HT_.out (by kernel_rfl)) (fun _ _ _ h => h) (Or.inl ⟨by rfl, ?_⟩) ?_ ?_
            rotate_left
            · intro w'
              go_simp
              with_reducible rfl
            rotate_left
            · simp only [Act.put, List.setIfInBounds_toArray, List.set_cons_zero, List.set_cons_succ, iJ, iK]
              rfl
            refine iM (i := 3) (N := some 49) (v := ?_) (a' := ?_) #[true, true, true, true, false, false, false, false, false, false, false, false, false, false, false, false] rfl rfl (iI HT_.out (by kernel_rfl)) (fun _ _ _ h => h) (Or.inl ⟨by rfl, ?_⟩) ?_ ?_
            rotate_left
            · intro w'
              go_simp
              with_reducible rfl
            rotate_left
            · simp only [Act.put, List.setIfInBounds_toArray, List.set_cons_zero, List.set_cons_succ, iJ, iK]
              rfl
            refine iM (i := 4) (N := some 50) (v := ?_) (a' := ?_) #[true, true, true, true, true, false, false, false, false, false, false, false, false, false, false, false] rfl rfl (iI HT_.out (by kernel_rfl)) (fun _ _ _ h => h) (Or.inl ⟨by rfl, ?_⟩) ?_ ?_
            rotate_left
            · intro w'
              go_simp
              with_reducible rfl
            rotate_left
            · simp only [Act.put, List.setIfInBounds_toArray, List.set_cons_zero, List.set_cons_succ, iJ, iK]
              rfl
            refine iM (i := 6) (N := some 52) (v := ?_) (a' := ?_) #[true, true, true, true, true, false, true, false, false, false, false, false, false, false, false, false] rfl rfl (iI HT_.out (by kernel_rfl)) (fun _ _ _ h => h) (Or.inl ⟨by rfl, ?_⟩) ?_ ?_
            rotate_left
            · intro w'
              go_simp
              with_reducible rfl
            rotate_left
            · simp only [Act.put, List.setIfInBounds_toArray, List.set_cons_zero, List.set_cons_succ, iJ, iK]
              rfl
            refine iM (i := 7) (N := some 53) (v := ?_) (a' := ?_) #[true, true, true, true, true, false, true, true, false, false, false, false, false, false, false, false] rfl rfl (iI HT_.out (by kernel_rfl)) (fun _ _ _ h => h) (Or.inl ⟨by rfl, ?_⟩) ?_ ?_
            rotate_left
            · intro w'
              go_simp
              with_reducible rfl
            rotate_left
            · simp only [Act.put, List.setIfInBounds_toArray, List.set_cons_zero, List.set_cons_succ, iJ, iK]
              rfl
            refine iM (i := 8) (N := some 54) (v := ?_) (a' := ?_) #[true, true, true, true, true, false, true, true, true, false, false, false, false, false, false, false] rfl rfl (iI HT_.out (by kernel_rfl)) (fun _ _ _ h => h) (Or.inl ⟨by rfl, ?_⟩) ?_ ?_
            rotate_left
            · intro w'
              go_simp
              with_reducible rfl
            rotate_left
            · simp only [Act.put, List.setIfInBounds_toArray, List.set_cons_zero, List.set_cons_succ, iJ, iK]
              rfl
            refine iM (i := 10) (N := some 56) (v := ?_) (a' := ?_) #[true, true, true, true, true, false, true, true, true, false, true, false, false, false, false, false] rfl rfl (iI HT_.out (by kernel_rfl)) (fun _ _ _ h => h) (Or.inl ⟨by rfl, ?_⟩) ?_ ?_
            rotate_left
            · intro w'
              go_simp
              with_reducible rfl
            rotate_left
            · simp only [Act.put, List.setIfInBounds_toArray, List.set_cons_zero, List.set_cons_succ, iJ, iK]
              rfl
            refine jH (i := 5) (N := some 51) (v := ?_) (a' := ?_) #[true, true, true, true, true, true, true, true, true, false, true, false, false, false, false, false] rfl rfl (iT HT_.out HW_.out (by kernel_rfl)) (fun _ _ _ h => h) (Or.inl ⟨by rfl, ?_⟩) hHeld ?_ ?_
            rotate_left
            · rintro w' ⟨s0, s1, s2, s3, s4, s5, s6⟩
              go_simp
              with_reducible rfl
            rotate_left
            · simp only [Act.put, List.setIfInBounds_toArray, List.set_cons_zero, List.set_cons_succ, iJ, iK]
              rfl
            refine jH (i := 9) (N := some 55) (v := ?_) (a' := ?_) #[true, true, true, true, true, true, true, true, true, true, true, false, false, false, false, false] rfl rfl (iT HT_.out HW_.out (by kernel_rfl)) (fun _ _ _ h => h) (Or.inl ⟨by rfl, ?_⟩) hHeld ?_ ?_
            rotate_left
            · rintro w' ⟨s0, s1, s2, s3, s4, s5, s6⟩
              go_simp
              with_reducible rfl
            rotate_left
            · simp only [Act.put, List.setIfInBounds_toArray, List.set_cons_zero, List.set_cons_succ, iJ, iK]
              rfl
            refine iM (i := 11) (N := some 57) (v := ?_) (a' := ?_) #[true, true, true, true, true, true, true, true, true, true, true, true, false, false, false, false] rfl rfl (iI HT_.out (by kernel_rfl)) (fun _ _ _ h => h) (Or.inl ⟨by rfl, ?_⟩) ?_ ?_
            rotate_left
            · intro w'
              go_simp
              with_reducible rfl
            rotate_left
            · simp only [Act.put, List.setIfInBounds_toArray, List.set_cons_zero, List.set_cons_succ, iJ, iK]
              rfl
            refine jH (i := 12) (N := some 58) (v := ?_) (a' := ?_) #[true, true, true, true, true, true, true, true, true, true, true, true, true, false, false, false] rfl rfl (iT HT_.out HW_.out (by kernel_rfl)) (fun _ _ _ h => h) (Or.inl ⟨by rfl, ?_⟩) hHeld ?_ ?_
            rotate_left
            · rintro w' ⟨s0, s1, s2, s3, s4, s5, s6⟩
              go_simp
              with_reducible rfl
            rotate_left
            · simp only [Act.put, List.setIfInBounds_toArray, List.set_cons_zero, List.set_cons_succ, iJ, iK]
              rfl
            refine one_ (i := 13) (N := some 59) #[true, true, true, true, true, true, true, true, true, true, true, true, true, true, false, false] rfl rfl (jK HT_.out (by kernel_rfl)) (by decide) (fun K hK => ?_)
            refine l7 Try.func16 (by kernel_rfl) rfl #[.pointer (some ⟨c, 0, none⟩), .int .u32 X] (by rfl) rfl rfl (by simp only [List.map_toArray, List.map_cons, List.map_nil]; rfl) ?_
            with_reducible refine (hst).mono ?_
            rintro e w5 ⟨rfl, hb5⟩
            refine ⟨_, rfl, ?_⟩
            have HB5 := iC.mk (show Below wr.heap.size wr w5 from iQ (iP (Below.refl _ _)) hb5)
            have HG5 := iC.mk (HG.out.below HB5.out)
            clear hb5 hst
            refine hK.out _ _ ⟨(jI HB5.out u0), (jI HB5.out u2), (jI HB5.out xi), (jI HB5.out y0), (jI HB5.out y1), ((HG5.out.room hlk).2 _), ((HG5.out.room hlk).2 _)⟩ (fun hHeld => ?_)
            clear hK K
            refine kC (a' := ?_) ?_ ?_
            rotate_left
            · show Act.put _ (some 59) _ = _
              simp only [Act.put, List.setIfInBounds_toArray, List.set_cons_zero, List.set_cons_succ, iJ, iK]
              rfl
            refine iM (i := 14) (N := some 60) (v := ?_) (a' := ?_) #[true, true, true, true, true, true, true, true, true, true, true, true, true, true, true, false] rfl rfl (iI HT_.out (by kernel_rfl)) (fun _ _ _ h => h) (Or.inl ⟨by rfl, ?_⟩) ?_ ?_
            rotate_left
            · intro w'
              go_simp
              with_reducible rfl
            rotate_left
            · simp only [Act.put, List.setIfInBounds_toArray, List.set_cons_zero, List.set_cons_succ, iJ, iK]
              rfl
            refine mQ (i := 15) (N := none) #[true, true, true, true, true, true, true, true, true, true, true, true, true, true, true, true] rfl rfl (jK HT_.out (by kernel_rfl)) (by decide) (fun K hK => ?_)
            refine mX (w1 := ?_) (by rfl) rfl ?_ ?_
            rotate_left
            · go_simp
              rfl
            refine hK.out _ _ ?_
            clear hK K
            refine kP (jM HT_.out (by kernel_rfl)) ?_
            have hp5 := HG5.out.put hlk
            rw [← HP.out] at hp5
            obtain ⟨hq5, ⟨cs5, hc5⟩, hg5⟩ := hp5
            have HS5 := iC.mk ((HS.out.below HB5.out).other hc5 hg5)
            have HB6 := iC.mk (((HB.out.trans (HB5.out.mono HB.out.size))).grown hg5 (HB.out.trans (HB5.out.mono HB.out.size)).size (fun j hj => by cases hj; exact HGG.out))
            have HG6 := iC.mk hq5
            clear hq5 hc5 hg5 u0 u2 xi y0 y1 f0 f1 HT_ HW_ hHeld
            obtain ⟨W6, hW6⟩ : ∃ W6, W6 = LH w5 g k p := ⟨_, rfl⟩
            rw [← hW6] at HS5 HB6 HG6
            rw [show (w5.setCell ⟨g, k * 2, none⟩ (.int .u8 p.1)).setCell ⟨g, k * 2 + 1, none⟩ (.int .u32 p.2) = W6 from hW6.symm]
            clear hW6
            go_wp2
            go_roundw
            case rel => exact ⟨k + 1, by first | rfl | rw [hw], hlk, HS5, HB6, HG6⟩
            case measure => (first | exact kV hlk | (rw [hw]; exact kV hlk) | (simp only [hw]; exact kV hlk))
          · obtain rfl : k = L := Nat.le_antisymm hk (Nat.le_of_not_lt hlk)
            have hkk : decide ((k : Int) < (k : Int)) = false := by simp
            obtain ⟨Ai2, ki2, t0, _⟩ := HS.out.blk
            have u2 := (iD t0 2).trans (show _ = some (Value.slice Ai2 ids.length ki2) from rfl)
            rw [HL.out] at u2
            obtain ⟨ad, A5, c5, A6, c6, rfl, ⟨o0, o1, o2, o3, o4, o5, o6⟩, l5, g5, l6, g6⟩ := MO HC2.out i hlt
            have o0 := jI HB.out o0
            have o1 := jI HB.out o1
            have o2 := jI HB.out o2
            have o3 := jI HB.out o3
            have o4 := jI HB.out o4
            have o5 := jI HB.out o5
            have o6 := jI HB.out o6
            have hil : i < l.length := by rw [HN.out]; exact hlt
            have hmem : l.getD i default ∈ l := by rw [List.getD_eq_getElem?_getD, List.getElem?_eq_getElem hil]; exact List.getElem_mem hil
            obtain ⟨b0, b1, b2, b3, b4, b5⟩ := HOK.out _ hmem
            have hraw := HLN.out.2 _ hmem
            generalize l.getD i default = o at o0 o1 o2 o3 o4 o5 o6 l5 g5 l6 g6 b0 b1 b2 b3 b4 b5 hraw
            obtain ⟨kd, oid, at_, nd, on, mm, rr⟩ := o
            simp only at o0 o1 o2 o3 o4 o5 o6 l5 g5 l6 g6 b0 b1 b2 b3 b4 b5 hraw
            obtain ⟨kd, rfl, c0⟩ := vO b0
            obtain ⟨oid, rfl, c1⟩ := vO b1
            obtain ⟨nd, rfl, c3⟩ := vO b3
            obtain ⟨on, rfl, c4⟩ := vO b4
            obtain ⟨e1, e2, e3⟩ := IP (L := 0) HLI.out
            have hdo := JE HS.out e1 e2 e3 kd oid nd on at_ c0 c1 c3 c4 b2 (km := c5) (fun W' hb => Kd.C_below g5 (HB.out.trans hb)) l5 b5 (kr := c6) (fun W' hb => Kd.C_below g6 (HB.out.trans hb)) l6 hraw
            have HGk := HG
            clear t0 b0 b1 b2 b3 b4 b5 l5 l6 g5 g6 hraw hmem hil e1 e2 e3 c0 c1 c3 c4
            obtain ⟨N5, hN5⟩ : ∃ N5, mm.length = N5 := ⟨_, rfl⟩
            obtain ⟨N6, hN6⟩ : ∃ N6, rr.length = N6 := ⟨_, rfl⟩
            rw [hN5] at o5 hdo
            rw [hN6] at o6 hdo
            clear hN5 hN6
            go_wp2_with fail
            go_at_call 30
            refine hdo.mono ?_
            rintro e w7 ⟨rfl, n', s', ids', hT7, hS7, hn7, hp7, hl7, hD7⟩
            have HT7 := iC.mk hT7
            have HY7 := iC.mk hS7
            have HP7 := iC.mk hp7
            have HB7 := iC.mk (HB.out.trans hD7.below)
            have HG7 := iC.mk (HGk.out.keep hD7)
            have HN7 := iC.mk (And.intro hn7 hl7)
            clear hdo hT7 hS7 hn7 hp7 hl7 hD7 o0 o1 o2 o3 o4 o5 o6 u2 HS HB HG HGk
            go_wp2_with fail
            go_loopw [8] (fun q wr' => ∃ j : Nat, q = .int .i64 (j : Int) ∧ j ≤ k ∧ iC (Tw wr' w2.heap.size tp c rc n' s' ids') ∧ iC (Below w2.heap.size w2 wr') ∧ iC (StB wr' g k k (fun j => s.status (rd ids j)))) (fun q _ => ((k : Int) - intOf q).toNat)
            case atStart => exact ⟨0, rfl, Nat.zero_le _, HT7, HB7, HG7⟩
            case round =>
              obtain ⟨j, rfl, hj, HS, HB, HG⟩ := hrel
              clear HT7 HB7 HG7
              by_cases hjk : j < k
              · have hkl : j < ids.length := by rw [HL.out]; exact hjk
                have hkl2 : j < ids'.length := Nat.lt_of_lt_of_le hkl HP7.out.length_le
                obtain ⟨ai, q, t0, xi⟩ := HS.out.ids hkl2
                have hid := HS.out.id hkl2
                rw [MK HP7.out hkl] at xi hid
                obtain ⟨⟨y0, y1⟩⟩ : (_ ∧ _) ∧ True := ⟨HG.out.get hjk, trivial⟩
                obtain ⟨X, hX⟩ : ∃ X, X = rd ids (j : Int) := ⟨_, rfl⟩
                try simp only at y0 y1
                rw [← hX] at xi hid y0 y1
                have hst := mM (HS.out.co.below (iP (Below.refl _ _))) hid
                have u0 := (iD t0 0).trans (show _ = some (Value.pointer (some ⟨c, 0, none⟩)) from rfl)
                have u2 := (iD t0 2).trans (show _ = some (Value.slice (some ai) ids'.length q) from rfl)
                obtain ⟨L2, hL2⟩ : ∃ L2, ids'.length = L2 := ⟨_, rfl⟩
                rw [hL2] at u2 hkl2
                have hw := I5 j (Nat.le_trans (Nat.le_of_lt hjk) (Nat.le_trans hL60 (by decide)))
                have hlk1 := vS hjk
                have hlk2 := vS hkl2
                have hkp := HY7.out.keep X
                obtain ⟨a, b, hab⟩ : ∃ a b, s.status X = (a, b) := ⟨_, _, rfl⟩
                rw [hab] at y0 y1 hkp
                try simp only at y0 y1
                clear t0 hX hid hkl hab hL2
                by_cases ha : a = 2
                · subst ha
                  have hk2 := hkp b rfl
                  rw [hk2] at hst
                  try simp only at hst
                  clear hkp hk2
                  go_upto_region 19 with fail
                  refine jQ (n := 25) (S := fun w' => w'.cell? ⟨tp, 0, none⟩ = some (.pointer (some ⟨c, 0, none⟩)) ∧ w'.cell? ⟨tp, 2, none⟩ = some (.slice (some ai) L2 q) ∧ w'.cell? (ai.add j) = some (.int .u32 X) ∧ w'.cell? ⟨g, j * 2, none⟩ = some (.int .u8 2) ∧ w'.cell? ⟨g, j * 2 + 1, none⟩ = some (.int .u32 b)) (ds := []) #[false, false, false, false, false, false, false, false, false, false, false, false, false, false, false, false, false, false, false, false, false, false, false, false, false] (by kernel_rfl) rfl rfl ⟨u0, u2, xi, y0, y1⟩ (fun hHeld => ?_)
                  refine jE (T := (true, [([], []), ([], []), ([0, 1], [0, 1]), ([2], [2]), ([3], [3]), ([4], [4]), ([5], [5]), ([6], [6]), ([7, 6], [6, 7]), ([8, 6], [6, 8]), ([9, 6], [6, 9]), ([6], [6]), ([11, 6], [6, 11]), ([12, 6], [6, 12]), ([13, 6], [6, 13]), ([6], [6]), ([14, 15, 6], [6, 14, 15]), ([16, 6], [6, 16]), ([10, 17, 6, 6], [6, 10, 17]), ([6], [6]), ([6], [6]), ([19, 20, 6], [6, 19, 20]), ([21, 6], [6, 21]), ([18, 22, 6], [6, 18, 22]), ([6, 23], [6, 23])])) (B := [0, 0, 3, 7, 15, 31, 63, 127, 255, 511, 1023, 127, 2175, 6271, 14463, 127, 63615, 129151, 262143, 127, 127, 1572991, 3670143, 8388607, 16777215]) (by kernel_rfl) (by kernel_rfl) (fun HT_ HW_ => ?_)
                  refine iM (i := 0) (N := some 73) (v := ?_) (a' := ?_) #[true, false, false, false, false, false, false, false, false, false, false, false, false, false, false, false, false, false, false, false, false, false, false, false, false] rfl rfl (iI HT_.out (by kernel_rfl)) (fun _ _ _ h => h) (Or.inl ⟨by rfl, ?_⟩) ?_ ?_
                  rotate_left
                  · intro w'
                    go_simp
                    with_reducible rfl
                  rotate_left
                  · simp only [Act.put, List.setIfInBounds_toArray, List.set_cons_zero, List.set_cons_succ, iJ, iK]
                    rfl
                  refine iM (i := 1) (N := some 74) (v := ?_) (a' := ?_) #[true, true, false, false, false, false, false, false, false, false, false, false, false, false, false, false, false, false, false, false, false, false, false, false, false] rfl rfl (iI HT_.out (by kernel_rfl)) (fun _ _ _ h => h) (Or.inl ⟨by rfl, ?_⟩) ?_ ?_
                  rotate_left
                  · intro w'
                    go_simp
                    with_reducible rfl
                  rotate_left
                  · simp only [Act.put, List.setIfInBounds_toArray, List.set_cons_zero, List.set_cons_succ, iJ, iK]
                    rfl
                  refine iM (i := 2) (N := some 75) (v := ?_) (a' := ?_) #[true, true, true, false, false, false, false, false, false, false, false, false, false, false, false, false, false, false, false, false, false, false, false, false, false] rfl rfl (iI HT_.out (by kernel_rfl)) (fun _ _ _ h => h) (Or.inl ⟨by rfl, ?_⟩) ?_ ?_
                  rotate_left
                  · intro w'
                    go_simp
                    with_reducible rfl
                  rotate_left
                  · simp only [Act.put, List.setIfInBounds_toArray, List.set_cons_zero, List.set_cons_succ, iJ, iK]
                    rfl
                  refine iM (i := 3) (N := some 76) (v := ?_) (a' := ?_) #[true, true, true, true, false, false, false, false, false, false, false, false, false, false, false, false, false, false, false, false, false, false, false, false, false] rfl rfl (iI HT_.out (by kernel_rfl)) (fun _ _ _ h => h) (Or.inl ⟨by rfl, ?_⟩) ?_ ?_
                  rotate_left
                  · intro w'
                    go_simp
                    with_reducible rfl
                  rotate_left
                  · simp only [Act.put, List.setIfInBounds_toArray, List.set_cons_zero, List.set_cons_succ, iJ, iK]
                    rfl
                  refine jH (i := 4) (N := some 77) (v := ?_) (a' := ?_) #[true, true, true, true, true, false, false, false, false, false, false, false, false, false, false, false, false, false, false, false, false, false, false, false, false] rfl rfl (iT HT_.out HW_.out (by kernel_rfl)) (fun _ _ _ h => h) (Or.inl ⟨by rfl, ?_⟩) hHeld ?_ ?_
                  rotate_left
                  · rintro w' ⟨s0, s1, s2, s3, s4⟩
                    go_simp
                    with_reducible rfl
                  rotate_left
                  · simp only [Act.put, List.setIfInBounds_toArray, List.set_cons_zero, List.set_cons_succ, iJ, iK]
                    rfl
                  refine iM (i := 5) (N := some 78) (v := ?_) (a' := ?_) #[true, true, true, true, true, true, false, false, false, false, false, false, false, false, false, false, false, false, false, false, false, false, false, false, false] rfl rfl (iI HT_.out (by kernel_rfl)) (fun _ _ _ h => h) (Or.inl ⟨by rfl, ?_⟩) ?_ ?_
                  rotate_left
                  · intro w'
                    go_simp
                    with_reducible rfl
                  rotate_left
                  · simp only [Act.put, List.setIfInBounds_toArray, List.set_cons_zero, List.set_cons_succ, iJ, iK]
                    rfl
                  refine iM (i := 6) (N := some 79) (v := ?_) (a' := ?_) #[true, true, true, true, true, true, true, false, false, false, false, false, false, false, false, false, false, false, false, false, false, false, false, false, false] rfl rfl (iI HT_.out (by kernel_rfl)) (fun _ _ _ h => h) (Or.inl ⟨by rfl, ?_⟩) ?_ ?_
                  rotate_left
                  · intro w'
                    go_simp
                    with_reducible rfl
                  rotate_left
                  · simp only [Act.put, List.setIfInBounds_toArray, List.set_cons_zero, List.set_cons_succ, iJ, iK]
                    rfl
                  refine iM (i := 7) (N := some 80) (v := ?_) (a' := ?_) #[true, true, true, true, true, true, true, true, false, false, false, false, false, false, false, false, false, false, false, false, false, false, false, false, false] rfl rfl (iI HT_.out (by kernel_rfl)) (fun _ _ _ h => h) (Or.inl ⟨by rfl, ?_⟩) ?_ ?_
                  rotate_left
                  · intro w'
                    go_simp
                    with_reducible rfl
                  rotate_left
                  · simp only [Act.put, List.setIfInBounds_toArray, List.set_cons_zero, List.set_cons_succ, iJ, iK]
                    rfl
                  refine iM (i := 8) (N := some 81) (v := ?_) (a' := ?_) #[true, true, true, true, true, true, true, true, true, false, false, false, false, false, false, false, false, false, false, false, false, false, false, false, false] rfl rfl (iI HT_.out (by kernel_rfl)) (fun _ _ _ h => h) (Or.inl ⟨by rfl, ?_⟩) ?_ ?_
                  rotate_left
                  · intro w'
                    go_simp
                    with_reducible rfl
                  rotate_left
                  · simp only [Act.put, List.setIfInBounds_toArray, List.set_cons_zero, List.set_cons_succ, iJ, iK]
                    rfl
                  refine iM (i := 9) (N := some 82) (v := ?_) (a' := ?_) #[true, true, true, true, true, true, true, true, true, true, false, false, false, false, false, false, false, false, false, false, false, false, false, false, false] rfl rfl (iI HT_.out (by kernel_rfl)) (fun _ _ _ h => h) (Or.inl ⟨by rfl, ?_⟩) ?_ ?_
                  rotate_left
                  · intro w'
                    go_simp
                    with_reducible rfl
                  rotate_left
                  · simp only [Act.put, List.setIfInBounds_toArray, List.set_cons_zero, List.set_cons_succ, iJ, iK]
                    rfl
                  refine iM (i := 11) (N := some 84) (v := ?_) (a' := ?_) #[true, true, true, true, true, true, true, true, true, true, false, true, false, false, false, false, false, false, false, false, false, false, false, false, false] rfl rfl (iI HT_.out (by kernel_rfl)) (fun _ _ _ h => h) (Or.inl ⟨by rfl, ?_⟩) ?_ ?_
                  rotate_left
                  · intro w'
                    go_simp
                    with_reducible rfl
                  rotate_left
                  · simp only [Act.put, List.setIfInBounds_toArray, List.set_cons_zero, List.set_cons_succ, iJ, iK]
                    rfl
                  refine iM (i := 12) (N := some 85) (v := ?_) (a' := ?_) #[true, true, true, true, true, true, true, true, true, true, false, true, true, false, false, false, false, false, false, false, false, false, false, false, false] rfl rfl (iI HT_.out (by kernel_rfl)) (fun _ _ _ h => h) (Or.inl ⟨by rfl, ?_⟩) ?_ ?_
                  rotate_left
                  · intro w'
                    go_simp
                    with_reducible rfl
                  rotate_left
                  · simp only [Act.put, List.setIfInBounds_toArray, List.set_cons_zero, List.set_cons_succ, iJ, iK]
                    rfl
                  refine iM (i := 13) (N := some 86) (v := ?_) (a' := ?_) #[true, true, true, true, true, true, true, true, true, true, false, true, true, true, false, false, false, false, false, false, false, false, false, false, false] rfl rfl (iI HT_.out (by kernel_rfl)) (fun _ _ _ h => h) (Or.inl ⟨by rfl, ?_⟩) ?_ ?_
                  rotate_left
                  · intro w'
                    go_simp
                    with_reducible rfl
                  rotate_left
                  · simp only [Act.put, List.setIfInBounds_toArray, List.set_cons_zero, List.set_cons_succ, iJ, iK]
                    rfl
                  refine iM (i := 15) (N := some 88) (v := ?_) (a' := ?_) #[true, true, true, true, true, true, true, true, true, true, false, true, true, true, false, true, false, false, false, false, false, false, false, false, false] rfl rfl (iI HT_.out (by kernel_rfl)) (fun _ _ _ h => h) (Or.inl ⟨by rfl, ?_⟩) ?_ ?_
                  rotate_left
                  · intro w'
                    go_simp
                    with_reducible rfl
                  rotate_left
                  · simp only [Act.put, List.setIfInBounds_toArray, List.set_cons_zero, List.set_cons_succ, iJ, iK]
                    rfl
                  refine iM (i := 19) (N := some 92) (v := ?_) (a' := ?_) #[true, true, true, true, true, true, true, true, true, true, false, true, true, true, false, true, false, false, false, true, false, false, false, false, false] rfl rfl (iI HT_.out (by kernel_rfl)) (fun _ _ _ h => h) (Or.inl ⟨by rfl, ?_⟩) ?_ ?_
                  rotate_left
                  · intro w'
                    go_simp
                    with_reducible rfl
                  rotate_left
                  · simp only [Act.put, List.setIfInBounds_toArray, List.set_cons_zero, List.set_cons_succ, iJ, iK]
                    rfl
                  refine iM (i := 20) (N := some 93) (v := ?_) (a' := ?_) #[true, true, true, true, true, true, true, true, true, true, false, true, true, true, false, true, false, false, false, true, true, false, false, false, false] rfl rfl (iI HT_.out (by kernel_rfl)) (fun _ _ _ h => h) (Or.inl ⟨by rfl, ?_⟩) ?_ ?_
                  rotate_left
                  · intro w'
                    go_simp
                    with_reducible rfl
                  rotate_left
                  · simp only [Act.put, List.setIfInBounds_toArray, List.set_cons_zero, List.set_cons_succ, iJ, iK]
                    rfl
                  refine iM (i := 21) (N := some 94) (v := ?_) (a' := ?_) #[true, true, true, true, true, true, true, true, true, true, false, true, true, true, false, true, false, false, false, true, true, true, false, false, false] rfl rfl (iI HT_.out (by kernel_rfl)) (fun _ _ _ h => h) (Or.inl ⟨by rfl, ?_⟩) ?_ ?_
                  rotate_left
                  · intro w'
                    go_simp
                    with_reducible rfl
                  rotate_left
                  · simp only [Act.put, List.setIfInBounds_toArray, List.set_cons_zero, List.set_cons_succ, iJ, iK]
                    rfl
                  refine jH (i := 10) (N := some 83) (v := ?_) (a' := ?_) #[true, true, true, true, true, true, true, true, true, true, true, true, true, true, false, true, false, false, false, true, true, true, false, false, false] rfl rfl (iT HT_.out HW_.out (by kernel_rfl)) (fun _ _ _ h => h) (Or.inl ⟨by rfl, ?_⟩) hHeld ?_ ?_
                  rotate_left
                  · rintro w' ⟨s0, s1, s2, s3, s4⟩
                    go_simp
                    with_reducible rfl
                  rotate_left
                  · simp only [Act.put, List.setIfInBounds_toArray, List.set_cons_zero, List.set_cons_succ, iJ, iK]
                    rfl
                  refine jH (i := 14) (N := some 87) (v := ?_) (a' := ?_) #[true, true, true, true, true, true, true, true, true, true, true, true, true, true, true, true, false, false, false, true, true, true, false, false, false] rfl rfl (iT HT_.out HW_.out (by kernel_rfl)) (fun _ _ _ h => h) (Or.inl ⟨by rfl, ?_⟩) hHeld ?_ ?_
                  rotate_left
                  · rintro w' ⟨s0, s1, s2, s3, s4⟩
                    go_simp
                    with_reducible rfl
                  rotate_left
                  · simp only [Act.put, List.setIfInBounds_toArray, List.set_cons_zero, List.set_cons_succ, iJ, iK]
                    rfl
                  refine iM (i := 16) (N := some 89) (v := ?_) (a' := ?_) #[true, true, true, true, true, true, true, true, true, true, true, true, true, true, true, true, true, false, false, true, true, true, false, false, false] rfl rfl (iI HT_.out (by kernel_rfl)) (fun _ _ _ h => h) (Or.inl ⟨by rfl, ?_⟩) ?_ ?_
                  rotate_left
                  · intro w'
                    go_simp
                    with_reducible rfl
                  rotate_left
                  · simp only [Act.put, List.setIfInBounds_toArray, List.set_cons_zero, List.set_cons_succ, iJ, iK]
                    rfl
                  refine jH (i := 17) (N := some 90) (v := ?_) (a' := ?_) #[true, true, true, true, true, true, true, true, true, true, true, true, true, true, true, true, true, true, false, true, true, true, false, false, false] rfl rfl (iT HT_.out HW_.out (by kernel_rfl)) (fun _ _ _ h => h) (Or.inl ⟨by rfl, ?_⟩) hHeld ?_ ?_
                  rotate_left
                  · rintro w' ⟨s0, s1, s2, s3, s4⟩
                    go_simp
                    with_reducible rfl
                  rotate_left
                  · simp only [Act.put, List.setIfInBounds_toArray, List.set_cons_zero, List.set_cons_succ, iJ, iK]
                    rfl
                  refine jH (i := 22) (N := some 95) (v := ?_) (a' := ?_) #[true, true, true, true, true, true, true, true, true, true, true, true, true, true, true, true, true, true, false, true, true, true, true, false, false] rfl rfl (iT HT_.out HW_.out (by kernel_rfl)) (fun _ _ _ h => h) (Or.inl ⟨by rfl, ?_⟩) hHeld ?_ ?_
                  rotate_left
                  · rintro w' ⟨s0, s1, s2, s3, s4⟩
                    go_simp
                    with_reducible rfl
                  rotate_left
                  · simp only [Act.put, List.setIfInBounds_toArray, List.set_cons_zero, List.set_cons_succ, iJ, iK]
                    rfl
                  refine one_ (i := 18) (N := some 91) #[true, true, true, true, true, true, true, true, true, true, true, true, true, true, true, true, true, true, true, true, true, true, true, false, false] rfl rfl (jK HT_.out (by kernel_rfl)) (by decide) (fun K hK => ?_)
                  refine l7 Try.func16 (by kernel_rfl) rfl #[.pointer (some ⟨c, 0, none⟩), .int .u32 X] (by rfl) rfl rfl (by simp only [List.map_toArray, List.map_cons, List.map_nil]; rfl) ?_
                  with_reducible refine (hst).mono ?_
                  rintro e w9 ⟨rfl, hb9⟩
                  refine ⟨_, rfl, ?_⟩
                  have HB9 := iC.mk (show Below wr.heap.size wr w9 from iQ (iP (Below.refl _ _)) hb9)
                  clear hb9 hst
                  refine hK.out _ _ ⟨(jI HB9.out u0), (jI HB9.out u2), (jI HB9.out xi), (jI HB9.out y0), (jI HB9.out y1)⟩ (fun hHeld => ?_)
                  clear hK K
                  refine kC (a' := ?_) ?_ ?_
                  rotate_left
                  · show Act.put _ (some 91) _ = _
                    simp only [Act.put, List.setIfInBounds_toArray, List.set_cons_zero, List.set_cons_succ, iJ, iK]
                    rfl
                  refine iM (i := 23) (N := some 96) (v := ?_) (a' := ?_) #[true, true, true, true, true, true, true, true, true, true, true, true, true, true, true, true, true, true, true, true, true, true, true, true, false] rfl rfl (iI HT_.out (by kernel_rfl)) (fun _ _ _ h => h) (Or.inl ⟨by rfl, ?_⟩) ?_ ?_
                  rotate_left
                  · intro w'
                    go_simp
                    with_reducible rfl
                  rotate_left
                  · simp only [Act.put, List.setIfInBounds_toArray, List.set_cons_zero, List.set_cons_succ, iJ, iK]
                    rfl
                  refine iM (i := 24) (N := some 97) (v := ?_) (a' := ?_) #[true, true, true, true, true, true, true, true, true, true, true, true, true, true, true, true, true, true, true, true, true, true, true, true, true] rfl rfl (iI HT_.out (by kernel_rfl)) (fun _ _ _ h => h) (Or.inl ⟨by rfl, ?_⟩) ?_ ?_
                  rotate_left
                  · intro w'
                    go_simp
                    with_reducible rfl
                  rotate_left
                  · simp only [Act.put, List.setIfInBounds_toArray, List.set_cons_zero, List.set_cons_succ, iJ, iK]
                    rfl
                  refine kP (jM HT_.out (by kernel_rfl)) ?_
                  have HS9 := iC.mk (HS.out.below HB9.out)
                  have HG9 := iC.mk (HG.out.below HB9.out)
                  have HBB := iC.mk (HB.out.trans (HB9.out.mono HB.out.size))
                  clear u0 u2 xi y0 y1 HT_ HW_ hHeld HS HG HB
                  go_wp2
                  go_roundw
                  case rel => exact ⟨j + 1, by first | rfl | rw [hw], hjk, HS9, HBB, HG9⟩
                  case measure => (first | exact kV hjk | (rw [hw]; exact kV hjk) | (simp only [hw]; exact kV hjk))
                · have ha2 : (a == 2) = false := by simpa using ha
                  clear hkp ha hst
                  go_upto_region 19 with fail
                  refine jQ (n := 25) (S := fun w' => w'.cell? ⟨tp, 0, none⟩ = some (.pointer (some ⟨c, 0, none⟩)) ∧ w'.cell? ⟨tp, 2, none⟩ = some (.slice (some ai) L2 q) ∧ w'.cell? (ai.add j) = some (.int .u32 X) ∧ w'.cell? ⟨g, j * 2, none⟩ = some (.int .u8 a) ∧ w'.cell? ⟨g, j * 2 + 1, none⟩ = some (.int .u32 b)) (ds := []) #[false, false, false, false, false, false, false, false, false, false, false, false, false, false, false, false, false, false, false, false, false, false, false, false, false] (by kernel_rfl) rfl rfl ⟨u0, u2, xi, y0, y1⟩ (fun hHeld => ?_)
                  refine jE (T := (true, [([], []), ([], []), ([0, 1], [0, 1]), ([2], [2]), ([3], [3]), ([4], [4]), ([5], [5]), ([6], [6]), ([7, 6], [6, 7]), ([8, 6], [6, 8]), ([9, 6], [6, 9]), ([6], [6]), ([11, 6], [6, 11]), ([12, 6], [6, 12]), ([13, 6], [6, 13]), ([6], [6]), ([14, 15, 6], [6, 14, 15]), ([16, 6], [6, 16]), ([10, 17, 6, 6], [6, 10, 17]), ([6], [6]), ([6], [6]), ([19, 20, 6], [6, 19, 20]), ([21, 6], [6, 21]), ([18, 22, 6], [6, 18, 22]), ([6, 23], [6, 23])])) (B := [0, 0, 3, 7, 15, 31, 63, 127, 255, 511, 1023, 127, 2175, 6271, 14463, 127, 63615, 129151, 262143, 127, 127, 1572991, 3670143, 8388607, 16777215]) (by kernel_rfl) (by kernel_rfl) (fun HT_ HW_ => ?_)
                  refine iM (i := 0) (N := some 73) (v := ?_) (a' := ?_) #[true, false, false, false, false, false, false, false, false, false, false, false, false, false, false, false, false, false, false, false, false, false, false, false, false] rfl rfl (iI HT_.out (by kernel_rfl)) (fun _ _ _ h => h) (Or.inl ⟨by rfl, ?_⟩) ?_ ?_
                  rotate_left
                  · intro w'
                    go_simp
                    with_reducible rfl
                  rotate_left
                  · simp only [Act.put, List.setIfInBounds_toArray, List.set_cons_zero, List.set_cons_succ, iJ, iK]
                    rfl
                  refine iM (i := 1) (N := some 74) (v := ?_) (a' := ?_) #[true, true, false, false, false, false, false, false, false, false, false, false, false, false, false, false, false, false, false, false, false, false, false, false, false] rfl rfl (iI HT_.out (by kernel_rfl)) (fun _ _ _ h => h) (Or.inl ⟨by rfl, ?_⟩) ?_ ?_
                  rotate_left
                  · intro w'
                    go_simp
                    with_reducible rfl
                  rotate_left
                  · simp only [Act.put, List.setIfInBounds_toArray, List.set_cons_zero, List.set_cons_succ, iJ, iK]
                    rfl
                  refine iM (i := 2) (N := some 75) (v := ?_) (a' := ?_) #[true, true, true, false, false, false, false, false, false, false, false, false, false, false, false, false, false, false, false, false, false, false, false, false, false] rfl rfl (iI HT_.out (by kernel_rfl)) (fun _ _ _ h => h) (Or.inl ⟨by rfl, ?_⟩) ?_ ?_
                  rotate_left
                  · intro w'
                    go_simp
                    with_reducible rfl
                  rotate_left
                  · simp only [Act.put, List.setIfInBounds_toArray, List.set_cons_zero, List.set_cons_succ, iJ, iK]
                    rfl
                  refine iM (i := 3) (N := some 76) (v := ?_) (a' := ?_) #[true, true, true, true, false, false, false, false, false, false, false, false, false, false, false, false, false, false, false, false, false, false, false, false, false] rfl rfl (iI HT_.out (by kernel_rfl)) (fun _ _ _ h => h) (Or.inl ⟨by rfl, ?_⟩) ?_ ?_
                  rotate_left
                  · intro w'
                    go_simp
                    with_reducible rfl
                  rotate_left
                  · simp only [Act.put, List.setIfInBounds_toArray, List.set_cons_zero, List.set_cons_succ, iJ, iK]
                    rfl
                  refine jH (i := 4) (N := some 77) (v := ?_) (a' := ?_) #[true, true, true, true, true, false, false, false, false, false, false, false, false, false, false, false, false, false, false, false, false, false, false, false, false] rfl rfl (iT HT_.out HW_.out (by kernel_rfl)) (fun _ _ _ h => h) (Or.inl ⟨by rfl, ?_⟩) hHeld ?_ ?_
                  rotate_left
                  · rintro w' ⟨s0, s1, s2, s3, s4⟩
                    go_simp
                    with_reducible rfl
                  rotate_left
                  · simp only [Act.put, List.setIfInBounds_toArray, List.set_cons_zero, List.set_cons_succ, iJ, iK]
                    rfl
                  refine iM (i := 5) (N := some 78) (v := ?_) (a' := ?_) #[true, true, true, true, true, true, false, false, false, false, false, false, false, false, false, false, false, false, false, false, false, false, false, false, false] rfl rfl (iI HT_.out (by kernel_rfl)) (fun _ _ _ h => h) (Or.inl ⟨by rfl, ?_⟩) ?_ ?_
                  rotate_left
                  · intro w'
                    go_simp
                    with_reducible rfl
                  rotate_left
                  · simp only [Act.put, List.setIfInBounds_toArray, List.set_cons_zero, List.set_cons_succ, iJ, iK]
                    rfl
                  refine iM (i := 6) (N := some 79) (v := ?_) (a' := ?_) #[true, true, true, true, true, true, true, false, false, false, false, false, false, false, false, false, false, false, false, false, false, false, false, false, false] rfl rfl (iI HT_.out (by kernel_rfl)) (fun _ _ _ h => h) (Or.inl ⟨by rfl, ?_⟩) ?_ ?_
                  rotate_left
                  · intro w'
                    go_simp
                    with_reducible rfl
                  rotate_left
                  · simp only [Act.put, List.setIfInBounds_toArray, List.set_cons_zero, List.set_cons_succ, iJ, iK]
                    rfl
                  refine iM (i := 7) (N := some 80) (v := undef) (a' := ?_) #[true, true, true, true, true, true, true, true, false, false, false, false, false, false, false, false, false, false, false, false, false, false, false, false, false] rfl rfl (iI HT_.out (by kernel_rfl)) (fun _ _ _ h => h) (Or.inr ⟨by rfl, rfl⟩) ?_ ?_
                  rotate_left
                  · simp only [Act.put, List.setIfInBounds_toArray, List.set_cons_zero, List.set_cons_succ, iJ, iK]
                    rfl
                  refine iM (i := 8) (N := some 81) (v := undef) (a' := ?_) #[true, true, true, true, true, true, true, true, true, false, false, false, false, false, false, false, false, false, false, false, false, false, false, false, false] rfl rfl (iI HT_.out (by kernel_rfl)) (fun _ _ _ h => h) (Or.inr ⟨by rfl, rfl⟩) ?_ ?_
                  rotate_left
                  · simp only [Act.put, List.setIfInBounds_toArray, List.set_cons_zero, List.set_cons_succ, iJ, iK]
                    rfl
                  refine iM (i := 9) (N := some 82) (v := undef) (a' := ?_) #[true, true, true, true, true, true, true, true, true, true, false, false, false, false, false, false, false, false, false, false, false, false, false, false, false] rfl rfl (iI HT_.out (by kernel_rfl)) (fun _ _ _ h => h) (Or.inr ⟨by rfl, rfl⟩) ?_ ?_
                  rotate_left
                  · simp only [Act.put, List.setIfInBounds_toArray, List.set_cons_zero, List.set_cons_succ, iJ, iK]
                    rfl
                  refine iM (i := 10) (N := some 83) (v := undef) (a' := ?_) #[true, true, true, true, true, true, true, true, true, true, true, false, false, false, false, false, false, false, false, false, false, false, false, false, false] rfl rfl (iI HT_.out (by kernel_rfl)) (fun _ _ _ h => h) (Or.inr ⟨by rfl, rfl⟩) ?_ ?_
                  rotate_left
                  · simp only [Act.put, List.setIfInBounds_toArray, List.set_cons_zero, List.set_cons_succ, iJ, iK]
                    rfl
                  refine iM (i := 11) (N := some 84) (v := undef) (a' := ?_) #[true, true, true, true, true, true, true, true, true, true, true, true, false, false, false, false, false, false, false, false, false, false, false, false, false] rfl rfl (iI HT_.out (by kernel_rfl)) (fun _ _ _ h => h) (Or.inr ⟨by rfl, rfl⟩) ?_ ?_
                  rotate_left
                  · simp only [Act.put, List.setIfInBounds_toArray, List.set_cons_zero, List.set_cons_succ, iJ, iK]
                    rfl
                  refine iM (i := 12) (N := some 85) (v := undef) (a' := ?_) #[true, true, true, true, true, true, true, true, true, true, true, true, true, false, false, false, false, false, false, false, false, false, false, false, false] rfl rfl (iI HT_.out (by kernel_rfl)) (fun _ _ _ h => h) (Or.inr ⟨by rfl, rfl⟩) ?_ ?_
                  rotate_left
                  · simp only [Act.put, List.setIfInBounds_toArray, List.set_cons_zero, List.set_cons_succ, iJ, iK]
                    rfl
                  refine iM (i := 13) (N := some 86) (v := undef) (a' := ?_) #[true, true, true, true, true, true, true, true, true, true, true, true, true, true, false, false, false, false, false, false, false, false, false, false, false] rfl rfl (iI HT_.out (by kernel_rfl)) (fun _ _ _ h => h) (Or.inr ⟨by rfl, rfl⟩) ?_ ?_
                  rotate_left
                  · simp only [Act.put, List.setIfInBounds_toArray, List.set_cons_zero, List.set_cons_succ, iJ, iK]
                    rfl
                  refine iM (i := 14) (N := some 87) (v := undef) (a' := ?_) #[true, true, true, true, true, true, true, true, true, true, true, true, true, true, true, false, false, false, false, false, false, false, false, false, false] rfl rfl (iI HT_.out (by kernel_rfl)) (fun _ _ _ h => h) (Or.inr ⟨by rfl, rfl⟩) ?_ ?_
                  rotate_left
                  · simp only [Act.put, List.setIfInBounds_toArray, List.set_cons_zero, List.set_cons_succ, iJ, iK]
                    rfl
                  refine iM (i := 15) (N := some 88) (v := undef) (a' := ?_) #[true, true, true, true, true, true, true, true, true, true, true, true, true, true, true, true, false, false, false, false, false, false, false, false, false] rfl rfl (iI HT_.out (by kernel_rfl)) (fun _ _ _ h => h) (Or.inr ⟨by rfl, rfl⟩) ?_ ?_
                  rotate_left
                  · simp only [Act.put, List.setIfInBounds_toArray, List.set_cons_zero, List.set_cons_succ, iJ, iK]
                    rfl
                  refine iM (i := 16) (N := some 89) (v := undef) (a' := ?_) #[true, true, true, true, true, true, true, true, true, true, true, true, true, true, true, true, true, false, false, false, false, false, false, false, false] rfl rfl (iI HT_.out (by kernel_rfl)) (fun _ _ _ h => h) (Or.inr ⟨by rfl, rfl⟩) ?_ ?_
                  rotate_left
                  · simp only [Act.put, List.setIfInBounds_toArray, List.set_cons_zero, List.set_cons_succ, iJ, iK]
                    rfl
                  refine iM (i := 17) (N := some 90) (v := undef) (a' := ?_) #[true, true, true, true, true, true, true, true, true, true, true, true, true, true, true, true, true, true, false, false, false, false, false, false, false] rfl rfl (iI HT_.out (by kernel_rfl)) (fun _ _ _ h => h) (Or.inr ⟨by rfl, rfl⟩) ?_ ?_
                  rotate_left
                  · simp only [Act.put, List.setIfInBounds_toArray, List.set_cons_zero, List.set_cons_succ, iJ, iK]
                    rfl
                  refine iM (i := 18) (N := some 91) (v := undef) (a' := ?_) #[true, true, true, true, true, true, true, true, true, true, true, true, true, true, true, true, true, true, true, false, false, false, false, false, false] rfl rfl (iI HT_.out (by kernel_rfl)) (fun _ _ _ h => h) (Or.inr ⟨by rfl, rfl⟩) ?_ ?_
                  rotate_left
                  · simp only [Act.put, List.setIfInBounds_toArray, List.set_cons_zero, List.set_cons_succ, iJ, iK]
                    rfl
                  refine iM (i := 19) (N := some 92) (v := undef) (a' := ?_) #[true, true, true, true, true, true, true, true, true, true, true, true, true, true, true, true, true, true, true, true, false, false, false, false, false] rfl rfl (iI HT_.out (by kernel_rfl)) (fun _ _ _ h => h) (Or.inr ⟨by rfl, rfl⟩) ?_ ?_
                  rotate_left
                  · simp only [Act.put, List.setIfInBounds_toArray, List.set_cons_zero, List.set_cons_succ, iJ, iK]
                    rfl
                  refine iM (i := 20) (N := some 93) (v := undef) (a' := ?_) #[true, true, true, true, true, true, true, true, true, true, true, true, true, true, true, true, true, true, true, true, true, false, false, false, false] rfl rfl (iI HT_.out (by kernel_rfl)) (fun _ _ _ h => h) (Or.inr ⟨by rfl, rfl⟩) ?_ ?_
                  rotate_left
                  · simp only [Act.put, List.setIfInBounds_toArray, List.set_cons_zero, List.set_cons_succ, iJ, iK]
                    rfl
                  refine iM (i := 21) (N := some 94) (v := undef) (a' := ?_) #[true, true, true, true, true, true, true, true, true, true, true, true, true, true, true, true, true, true, true, true, true, true, false, false, false] rfl rfl (iI HT_.out (by kernel_rfl)) (fun _ _ _ h => h) (Or.inr ⟨by rfl, rfl⟩) ?_ ?_
                  rotate_left
                  · simp only [Act.put, List.setIfInBounds_toArray, List.set_cons_zero, List.set_cons_succ, iJ, iK]
                    rfl
                  refine iM (i := 22) (N := some 95) (v := undef) (a' := ?_) #[true, true, true, true, true, true, true, true, true, true, true, true, true, true, true, true, true, true, true, true, true, true, true, false, false] rfl rfl (iI HT_.out (by kernel_rfl)) (fun _ _ _ h => h) (Or.inr ⟨by rfl, rfl⟩) ?_ ?_
                  rotate_left
                  · simp only [Act.put, List.setIfInBounds_toArray, List.set_cons_zero, List.set_cons_succ, iJ, iK]
                    rfl
                  refine iM (i := 23) (N := some 96) (v := undef) (a' := ?_) #[true, true, true, true, true, true, true, true, true, true, true, true, true, true, true, true, true, true, true, true, true, true, true, true, false] rfl rfl (iI HT_.out (by kernel_rfl)) (fun _ _ _ h => h) (Or.inr ⟨by rfl, rfl⟩) ?_ ?_
                  rotate_left
                  · simp only [Act.put, List.setIfInBounds_toArray, List.set_cons_zero, List.set_cons_succ, iJ, iK]
                    rfl
                  refine iM (i := 24) (N := some 97) (v := ?_) (a' := ?_) #[true, true, true, true, true, true, true, true, true, true, true, true, true, true, true, true, true, true, true, true, true, true, true, true, true] rfl rfl (iI HT_.out (by kernel_rfl)) (fun _ _ _ h => h) (Or.inl ⟨by rfl, ?_⟩) ?_ ?_
                  rotate_left
                  · intro w'
                    go_simp
                    with_reducible rfl
                  rotate_left
                  · simp only [Act.put, List.setIfInBounds_toArray, List.set_cons_zero, List.set_cons_succ, iJ, iK]
                    rfl
                  refine kP (jM HT_.out (by kernel_rfl)) ?_
                  have HBd := iC.mk (show Below wr.heap.size wr wr.drew from iP (Below.refl _ _))
                  have HS9 := iC.mk (HS.out.below HBd.out)
                  have HG9 := iC.mk (HG.out.below HBd.out)
                  have HBB := iC.mk (HB.out.trans (HBd.out.mono HB.out.size))
                  clear u0 u2 xi y0 y1 HT_ HW_ hHeld HS HG HB
                  go_wp2
                  go_roundw
                  case rel => exact ⟨j + 1, by first | rfl | rw [hw], hjk, HS9, HBB, HG9⟩
                  case measure => (first | exact kV hjk | (rw [hw]; exact kV hjk) | (simp only [hw]; exact kV hjk))
              · obtain rfl : j = k := Nat.le_antisymm hj (Nat.le_of_not_lt hjk)
                have hjj : decide ((j : Int) < (j : Int)) = false := by simp
                obtain ⟨Ai9, ki9, t0, _⟩ := HS.out.blk
                have u0 := (iD t0 0).trans (show _ = some (Value.pointer (some ⟨c, 0, none⟩)) from rfl)
                have hla := last_any HS.out.co
                obtain ⟨hle2, hfin, hw⟩ := JA HLI.out HY7.out HN7.out
                have HR := iC.mk hfin
                clear t0 hj hjk hfin HLI HN7
                go_wp2_with (go_at_call 31; refine hla.mono ?_; rintro e w9 ⟨rfl, rfl⟩)
                go_roundw
                case rel => exact ⟨s'.last, i + 1, n', s', ids', rfl, by first | rfl | rw [hw], hlt, HS, HB, HR⟩
                case measure => (first | exact kV hlt | (rw [hw]; exact kV hlt) | (simp only [hw]; exact kV hlt))
      · obtain rfl : i = N := Nat.le_antisymm hi (Nat.le_of_not_lt hlt)
        go_wp2
        go_ret
        exact ⟨rfl, HB2.out.trans (HB.out.mono HB2.out.size)⟩
end Go.Proofs.Ytjppookmjdaplaa.K
end

section
namespace Go.Proofs.Ytjppookmjdaplaa.My
open Go Go.RowKit Go.Deep Go.ChangeShapes Go.WideShapes Go.ChangeAt Go.Proofs.YtjppookmjdaplaaW.PrintWords
/-- A value of type t that came in reads as a v of kind d, of which ok holds and which is no heavier than the datum's bulk. -/
def Came {α : Type} (d : Kd α) (t : TypeId) (ok : α → Prop) (wt : α → Nat) : Prop :=
  ∀ {H : Type} (enc : TypeId × Value → H) (w : World) (fuel : Nat) (cs : List Value) (x : DataW H × List MemPlace), DataW.trod enc Try.prog w 0 (fun _ => true) true fuel t cs = some x → ∃ v : α, d.K w v cs ∧ ok v ∧ wt v ≤ Rows.uptoBulk x.1
theorem IV {k : IntKind} {t : TypeId} (ht : Try.prog.underlying t = some (.int k)) : Came (Kd.int k) t (fun n => (Lit.int k n).wf = true) (fun _ => 1) := by
  intro H enc w fuel cs x h
  obtain ⟨n, rfl, hx, hw⟩ := DataW.trod_int ht h
  exact ⟨n, rfl, hw, by rw [hx]; simp [Rows.uptoBulk]⟩
theorem IY {α : Type} [Inhabited α] {n : Nat} {p : Nat → α → Prop} (h : ∀ i, i < n → ∃ x, p i x) : ∃ f : Nat → α, ∀ i, i < n → p i (f i) := by
  classical
  refine ⟨fun i => if h' : i < n then Classical.choose (h i h') else default, fun i hi => ?_⟩
  simp only [dif_pos hi]
  exact Classical.choose_spec (h i hi)
theorem zA {w : World} {a : Addr} {n : Nat} {cs : List Value} (h : w.cells? 0 a n = some cs) (i : Nat) (v : Value) (hi : cs[i]? = some v) : w.cell? (a.add i) = some v := by
  obtain ⟨_, hl, hc⟩ := World.cells?_some h
  have hil : i < n := by have := (List.getElem?_eq_some_iff.1 hi).1; omega
  rw [hc i hil]
  exact hi
end Go.Proofs.Ytjppookmjdaplaa.My
end

section
namespace Go.Proofs.Ytjppookmjdaplaa.My
open Go Go.RowKit Go.Deep Go.ChangeShapes Go.WideShapes Go.ChangeAt Go.Proofs.YtjppookmjdaplaaW.PrintWords
/-- Nothing in it is too large. -/
def Reach {H : Type} (t : TypeId) (d : DataW H) : Prop := ∀ n ∈ d.weights Try.prog t, n ≤ reachBytes
def lM {α : Type} (d : Kd α) (t : TypeId) (ok : α → Prop) : Prop :=
  ∀ {H : Type} (enc : TypeId × Value → H) (w : World) (fuel : Nat) (cs : List Value) (x : DataW H × List MemPlace), DataW.trod enc Try.prog w 0 (fun _ => true) true fuel t cs = some x → Reach t x.1 → ∃ v : α, d.K w v cs ∧ ok v
theorem J7 {α : Type} {d : Kd α} {t : TypeId} {ok : α → Prop} {wt : α → Nat} (h : Came d t ok wt) : lM d t ok := by
  intro H enc w fuel cs x hx _
  obtain ⟨v, h1, h2, _⟩ := h enc w fuel cs x hx
  exact ⟨v, h1, h2⟩
theorem mD {α : Type} {d : Kd α} {t : TypeId} {ok ok' : α → Prop} (h : lM d t ok) (hok : ∀ x, ok x → ok' x) : lM d t ok' := by
  intro H enc w fuel cs x hx hr
  obtain ⟨v, h1, h2⟩ := h enc w fuel cs x hx hr
  exact ⟨v, h1, hok v h2⟩
theorem pG {H : Type} {e : TypeId} : ∀ {l : List (DataW H)} {d : DataW H}, d ∈ l → ∀ n ∈ d.weights Try.prog e, n ∈ DataW.weightsAll Try.prog e l
  | x :: l, d, hd, n, hn => by
    simp only [DataW.weightsAll, List.mem_append]
    rcases List.mem_cons.1 hd with rfl | hd
    · exact .inl hn
    · exact .inr (pG hd n hn)
  | [], d, hd, n, hn => by cases hd
theorem mZ {α : Type} [Inhabited α] {d : Kd α} {t e : TypeId} {ok : α → Prop} {B : Nat} (ht : Try.prog.underlying t = some (.slice e)) (hc : Try.prog.cellsOf e = d.sz) (hB : Try.prog.bytesOf e = B) (he : lM d e ok) :
    lM (Kd.slice e d) t (fun l => l.length * B ≤ reachBytes ∧ ∀ x ∈ l, ok x) := by
  intro H enc w fuel cs x h hr
  rcases open_slice ht h with ⟨rfl, rfl⟩ | ⟨ad, len, cap, m, n, D, Pl, rfl, _, hl, hmax, hm, rfl, hel⟩
  · exact ⟨[], ⟨none, 0, rfl, Nat.le_refl _, ⟨rfl, by simp, fun h => absurd h (Nat.lt_irrefl 0)⟩⟩, by simp⟩
  · have hlm : len ≤ m := by rw [hm]; simp; exact hl
    have hw : ∀ n, n ∈ (((List.range len).map D).length + ((List.range (m - len)).map fun j => D (len + j)).length) * Try.prog.bytesOf e :: (DataW.weightsAll Try.prog e ((List.range len).map D) ++ DataW.weightsAll Try.prog e ((List.range (m - len)).map fun j => D (len + j))) → n ≤ reachBytes := by
      intro n hn
      refine hr n ?_
      simp only [DataW.weights, ht]
      exact hn
    have one : ∀ i, i < len → ∃ v : α, (∃ cs', w.cells? 0 (ad.add (i * Try.prog.cellsOf e)) (Try.prog.cellsOf e) = some cs' ∧ d.K w v cs') ∧ ok v := by
      intro i hi
      obtain ⟨cs', h1, h2⟩ := hel i (by omega)
      obtain ⟨v, h3, h4⟩ := he enc w n cs' _ h2 (fun k hk => hw k (List.mem_cons_of_mem _ (List.mem_append_left _ (pG (List.mem_map.2 ⟨i, List.mem_range.2 hi, rfl⟩) k hk))))
      exact ⟨v, ⟨cs', h1, h3⟩, h4⟩
    obtain ⟨L, hL⟩ := IY one
    have hlen : ((List.range len).map L).length = len := by simp
    refine ⟨(List.range len).map L, ⟨some ad, cap, by rw [hlen], by rw [hlen]; exact hl, ?_⟩, ?_, ?_⟩
    · rw [hlen]
      refine ⟨hlen, by unfold maxLen at hmax; omega, fun _ => ⟨ad, rfl, fun j p hj => ?_⟩⟩
      have hjl : j < len := by have := (List.getElem?_eq_some_iff.1 hj).1; simpa using this
      have hp : p = L j := by
        rw [List.getElem?_map, List.getElem?_range hjl] at hj
        simp only [Option.map_some, Option.some.injEq] at hj
        exact hj.symm
      subst hp
      obtain ⟨⟨cs', h1, h2⟩, _⟩ := hL j hjl
      rw [hc] at h1
      refine ⟨cs', d.K_len h2, h2, fun i u hi => ?_⟩
      have := zA h1 i u hi
      rwa [Go.Deep.add_add] at this
    · have h1 := hw _ List.mem_cons_self
      rw [List.length_map, List.length_map, List.length_range, List.length_range, hB] at h1
      rw [hlen]
      exact Nat.le_trans (Nat.mul_le_mul_right B (by omega)) h1
    · intro y hy
      obtain ⟨i, hi, rfl⟩ := List.mem_map.1 hy
      exact (hL i (List.mem_range.1 hi)).2
/-- What a slice argument is. -/
theorem came_CS {α : Type} {d : Kd α} {t e : TypeId} {ok : List α → Prop} (h : lM (Kd.slice e d) t ok) {H : Type} (enc : TypeId × Value → H) {w : World} {fuel : Nat} {v : Value} {x : DataW H × List MemPlace} (ht : DataW.trod enc Try.prog w 0 (fun _ => true) true fuel t v.cells.toList = some x) (hr : Reach t x.1) :
    ∃ (A : Option Addr) (c : Nat) (l : List α), v.cells.toList = [.slice A l.length c] ∧ l.length ≤ c ∧ d.C w A l.length l ∧ ok l := by
  obtain ⟨l, ⟨A, c, h1, h2, h3⟩, h4⟩ := h enc w fuel _ x ht hr
  exact ⟨A, c, l, h1, h2, h3, h4⟩
theorem reach_arg {H : Type} {ts : List TypeId} {ds : List (DataW H)} (h : (DataW.weightsEach Try.prog ts ds).all (· ≤ reachBytes) = true) {j : Nat} {t : TypeId} {d : DataW H} (ht : ts[j]? = some t) (hd : ds[j]? = some d) : Reach t d := fun n hn => by
  have := List.all_eq_true.1 h n (DataW.weights_mem_each ht hd n hn)
  simpa using this
theorem oV : reachBytes = 140737488351232 := rfl
end Go.Proofs.Ytjppookmjdaplaa.My
end

section
namespace Go.Proofs.Ytjppookmjdaplaa.My
open Go Go.RowKit Go.Deep Go.ChangeShapes Go.WideShapes Go.ChangeAt Go.Proofs.YtjppookmjdaplaaW.PrintWords
theorem qQ {α : Type} {n : Nat} : ∀ {l : List α}, l.length = n + 1 → ∃ x t, l = x :: t ∧ t.length = n
  | x :: t, h => ⟨x, t, rfl, by simpa using h⟩
theorem xZ {α β γ : Type} {da : Kd α} {db : Kd β} {dc : Kd γ} {t : TypeId} {f0 f1 f2 : Field} {oka : α → Prop} {okb : β → Prop} {okc : γ → Prop} (ht : Try.prog.underlying t = some (.struct #[f0, f1, f2])) (ct : Try.prog.cellsOf t = da.sz + (db.sz + dc.sz))
    (h0 : f0.offset = 0) (h1 : f1.offset = da.sz) (h2 : f2.offset = da.sz + db.sz) (c0 : Try.prog.cellsOf f0.type = da.sz) (c1 : Try.prog.cellsOf f1.type = db.sz) (c2 : Try.prog.cellsOf f2.type = dc.sz) (A : lM da f0.type oka) (B : lM db f1.type okb) (C : lM dc f2.type okc) :
    lM (Kd.pair da (Kd.pair db dc)) t (fun x => oka x.1 ∧ okb x.2.1 ∧ okc x.2.2) := by
  intro H enc w fuel cs x h hr
  obtain ⟨xs, n, rfl, rfl, hl, hlen, hf⟩ := DataW.trod_struct ht h
  have hl0 : xs.length = 2 + 1 := hlen
  obtain ⟨y0, t0, rfl, hl1⟩ := qQ hl0
  obtain ⟨y1, t1, rfl, hl2⟩ := qQ (n := 1) hl1
  obtain ⟨y2, t2, rfl, hl3⟩ := qQ (n := 0) hl2
  obtain rfl := List.eq_nil_of_length_eq_zero hl3
  · have e0 := hf 0 _ rfl
    have e1 := hf 1 _ rfl
    have e2 := hf 2 _ rfl
    have e0 : DataW.trod enc Try.prog w 0 (fun _ => true) true n f0.type (List.take (Try.prog.cellsOf f0.type) (List.drop f0.offset cs)) = some y0 := e0
    have e1 : DataW.trod enc Try.prog w 0 (fun _ => true) true n f1.type (List.take (Try.prog.cellsOf f1.type) (List.drop f1.offset cs)) = some y1 := e1
    have e2 : DataW.trod enc Try.prog w 0 (fun _ => true) true n f2.type (List.take (Try.prog.cellsOf f2.type) (List.drop f2.offset cs)) = some y2 := e2
    rw [h0, c0, List.drop_zero] at e0
    rw [h1, c1] at e1
    rw [h2, c2] at e2
    have hl : cs.length = da.sz + (db.sz + dc.sz) := by rw [← ct]; exact hl
    have hw : ∀ k, k ∈ DataW.weights Try.prog f0.type y0.1 ++ (DataW.weights Try.prog f1.type y1.1 ++ (DataW.weights Try.prog f2.type y2.1 ++ [])) → k ≤ reachBytes := fun k hk => hr k (by
      simp only [DataW.weights, ht]
      simpa [DataW.weightsEach] using hk)
    obtain ⟨v0, k0, o0⟩ := A enc w n _ _ e0 (fun k hk => hw k (List.mem_append_left _ hk))
    obtain ⟨v1, k1, o1⟩ := B enc w n _ _ e1 (fun k hk => hw k (List.mem_append_right _ (List.mem_append_left _ hk)))
    obtain ⟨v2, k2, o2⟩ := C enc w n _ _ e2 (fun k hk => hw k (List.mem_append_right _ (List.mem_append_right _ (List.mem_append_left _ hk))))
    refine ⟨(v0, v1, v2), ⟨_, _, ?_, k0, _, _, rfl, k1, k2⟩, ⟨o0, o1, o2⟩⟩
    have hd : List.drop (da.sz + db.sz) cs = List.drop db.sz (List.drop da.sz cs) := by first | rw [List.drop_drop] | rw [List.drop_drop, Nat.add_comm]
    rw [List.take_of_length_le (l := List.drop (da.sz + db.sz) cs) (by rw [List.length_drop]; omega), hd, List.take_append_drop, List.take_append_drop]
theorem I9 {α β : Type} {d : Kd α} {t : TypeId} {ok : α → Prop} (f : β → α) (g : α → β) (hfg : ∀ x, f (g x) = x) (h : lM d t ok) : lM (Kd.iso d f) t (fun y => ok (f y)) := by
  intro H enc w fuel cs x hx hr
  obtain ⟨v, h1, h2⟩ := h enc w fuel cs x hx hr
  exact ⟨g v, by show d.K w (f (g v)) cs; rw [hfg]; exact h1, by show ok (f (g v)); rw [hfg]; exact h2⟩
theorem kR {k : IntKind} {t : TypeId} (ht : Try.prog.underlying t = some (.int k)) : lM (Kd.int k) t (fun n => (Lit.int k n).wf = true) := J7 (IV ht)
theorem yK : lM (Kd.slice 3 (Kd.int .i64)) 25 (fun l => (l.length : Int) ≤ 17592186044416) :=
  mD (mZ (B := 8) Try.underlying25 (by kernel_rfl) (by kernel_rfl) (kR Try.underlying3)) (fun _ h => by have := h.1; rw [oV] at this; omega)
instance : Inhabited K.S103 := ⟨K.z103⟩
instance : Inhabited K.S96 := ⟨K.z96⟩
instance : Inhabited K.S91 := ⟨K.z91⟩
theorem zO : lM K.k91 91 (fun x => (0 ≤ x.f0 ∧ x.f0 < 65536) ∧ (0 ≤ x.f1 ∧ x.f1 < 65536) ∧ (0 ≤ x.f2 ∧ x.f2 < 256)) :=
  mD (I9 (fun x : K.S91 => (x.f0, x.f1, x.f2)) (fun p => ⟨p.1, p.2.1, p.2.2⟩) (fun _ => rfl) (xZ Try.underlying91 (by kernel_rfl) rfl rfl rfl (by kernel_rfl) (by kernel_rfl) (by kernel_rfl) (kR Try.underlying29) (kR Try.underlying29) (kR Try.underlying5))) (fun _ h => ⟨wf_u16 h.1, wf_u16 h.2.1, wf_u8 h.2.2⟩)
theorem yC : lM (Kd.slice 91 K.k91) 39 (fun l => (∀ x ∈ l, (0 ≤ x.f0 ∧ x.f0 < 65536) ∧ (0 ≤ x.f1 ∧ x.f1 < 65536) ∧ (0 ≤ x.f2 ∧ x.f2 < 256)) ∧ (l.length : Int) ≤ 140737488351232) :=
  mD (mZ (B := 6) Try.underlying39 (by kernel_rfl) (by kernel_rfl) zO) (fun _ h => ⟨h.2, by have := h.1; rw [oV] at this; omega⟩)
end Go.Proofs.Ytjppookmjdaplaa.My
end

section
namespace Go.Proofs.Ytjppookmjdaplaa.K
open Go Go.RowKit Go.Deep Go.ChangeShapes Go.WideShapes Go.ChangeAt Go.Proofs.YtjppookmjdaplaaW.PrintWords Go.Proofs.Ytjppookmjdaplaa.My
theorem nG {α : Type} {n : Nat} : ∀ {l : List α}, l.length = n + 1 → ∃ x t, l = x :: t ∧ t.length = n
  | x :: t, h => ⟨x, t, rfl, by simpa using h⟩
set_option maxRecDepth 100000 in
theorem xH : lM kOp 69 OpOk := by
  intro H enc w fuel cs x h hr
  obtain ⟨xs, n, rfl, rfl, hl, hlen, hf⟩ := DataW.trod_struct Try.underlying69 h
  match xs, hlen with
  | [y0, y1, y2, y3, y4, y5, y6], _ =>
    have hrr : ∀ k, k ∈ DataW.weights Try.prog 5 y0.1 ++ (DataW.weights Try.prog 5 y1.1 ++ (DataW.weights Try.prog 28 y2.1 ++ (DataW.weights Try.prog 5 y3.1 ++ (DataW.weights Try.prog 5 y4.1 ++ (DataW.weights Try.prog 39 y5.1 ++ (DataW.weights Try.prog 25 y6.1 ++ [])))))) → k ≤ reachBytes := fun k hk => hr k (by
      simp only [DataW.weights, Try.underlying69]
      simpa [DataW.weightsEach] using hk)
    rw [show Try.prog.cellsOf 69 = 7 from by kernel_rfl] at hl
    obtain ⟨a0, p0, o0⟩ := kR Try.underlying5 enc w n _ y0 (hf 0 _ rfl) (fun k hk => hrr k (by simp [hk]))
    obtain ⟨a1, p1, o1⟩ := kR Try.underlying5 enc w n _ y1 (hf 1 _ rfl) (fun k hk => hrr k (by simp [hk]))
    obtain ⟨a2, p2, o2⟩ := kR Try.underlying28 enc w n _ y2 (hf 2 _ rfl) (fun k hk => hrr k (by simp [hk]))
    obtain ⟨a3, p3, o3⟩ := kR Try.underlying5 enc w n _ y3 (hf 3 _ rfl) (fun k hk => hrr k (by simp [hk]))
    obtain ⟨a4, p4, o4⟩ := kR Try.underlying5 enc w n _ y4 (hf 4 _ rfl) (fun k hk => hrr k (by simp [hk]))
    obtain ⟨a5, ⟨A5, c5, p5, g5, r5⟩, o5⟩ := yC enc w n _ y5 (hf 5 _ rfl) (fun k hk => hrr k (by simp [hk]))
    obtain ⟨a6, ⟨A6, c6, p6, g6, r6⟩, o6⟩ := yK enc w n _ y6 (hf 6 _ rfl) (fun k hk => hrr k (by simp [hk]))
    have p0 : List.take (Try.prog.cellsOf 5) (List.drop 0 cs) = [.int .u8 a0] := p0
    rw [show Try.prog.cellsOf 5 = 1 from by kernel_rfl] at p0
    have p1 : List.take (Try.prog.cellsOf 5) (List.drop 1 cs) = [.int .u8 a1] := p1
    rw [show Try.prog.cellsOf 5 = 1 from by kernel_rfl] at p1
    have p2 : List.take (Try.prog.cellsOf 28) (List.drop 2 cs) = [.int .u32 a2] := p2
    rw [show Try.prog.cellsOf 28 = 1 from by kernel_rfl] at p2
    have p3 : List.take (Try.prog.cellsOf 5) (List.drop 3 cs) = [.int .u8 a3] := p3
    rw [show Try.prog.cellsOf 5 = 1 from by kernel_rfl] at p3
    have p4 : List.take (Try.prog.cellsOf 5) (List.drop 4 cs) = [.int .u8 a4] := p4
    rw [show Try.prog.cellsOf 5 = 1 from by kernel_rfl] at p4
    have p5 : List.take (Try.prog.cellsOf 39) (List.drop 5 cs) = [.slice A5 a5.length c5] := p5
    rw [show Try.prog.cellsOf 39 = 1 from by kernel_rfl] at p5
    have p6 : List.take (Try.prog.cellsOf 25) (List.drop 6 cs) = [.slice A6 a6.length c6] := p6
    rw [show Try.prog.cellsOf 25 = 1 from by kernel_rfl] at p6
    obtain ⟨z0, t0, rfl, h0⟩ := nG hl
    obtain ⟨z1, t1, rfl, h1⟩ := nG h0
    obtain ⟨z2, t2, rfl, h2⟩ := nG h1
    obtain ⟨z3, t3, rfl, h3⟩ := nG h2
    obtain ⟨z4, t4, rfl, h4⟩ := nG h3
    obtain ⟨z5, t5, rfl, h5⟩ := nG h4
    obtain ⟨z6, t6, rfl, h6⟩ := nG h5
    obtain rfl := List.eq_nil_of_length_eq_zero h6
    have s0 : [z0] = [.int .u8 a0] := p0
    have s1 : [z1] = [.int .u8 a1] := p1
    have s2 : [z2] = [.int .u32 a2] := p2
    have s3 : [z3] = [.int .u8 a3] := p3
    have s4 : [z4] = [.int .u8 a4] := p4
    have s5 : [z5] = [.slice A5 a5.length c5] := p5
    have s6 : [z6] = [.slice A6 a6.length c6] := p6
    simp only [List.cons.injEq, and_true] at s0 s1 s2 s3 s4 s5 s6
    subst s0; subst s1; subst s2; subst s3; subst s4; subst s5; subst s6
    exact ⟨⟨a0, a1, a2, a3, a4, a5, a6⟩, ⟨_, _, rfl, rfl, ⟨_, _, rfl, rfl, ⟨_, _, rfl, rfl, ⟨_, _, rfl, rfl, ⟨_, _, rfl, rfl, ⟨[.slice A5 a5.length c5], [.slice A6 a6.length c6], rfl, ⟨A5, c5, rfl, g5, r5⟩, ⟨A6, c6, rfl, g6, r6⟩⟩⟩⟩⟩⟩⟩, ⟨wf_u8 o0, wf_u8 o1, wf_u32 o2, wf_u8 o3, wf_u8 o4, o5.1⟩⟩
theorem cameS_ops15 : lM (Kd.slice 69 kOp) 59 (fun l => l.length ≤ 140737488351232 ∧ ∀ v ∈ l, OpOk v) :=
  mD (mZ (B := 64) Try.underlying59 (by kernel_rfl) (by kernel_rfl) xH) (fun l h => ⟨by have := h.1; rw [oV] at this; omega, h.2⟩)
end Go.Proofs.Ytjppookmjdaplaa.K
end
