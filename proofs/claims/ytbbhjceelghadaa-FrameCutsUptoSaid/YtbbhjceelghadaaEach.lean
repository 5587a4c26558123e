/- frame.each's rounds. -/
import Derived.Test.YtbbhjceelghadaaRange
namespace Go.Proofs.Ytbbhjceelghadaa.My
open Go Go.RowKit Go.Proofs.YtbbhjceelghadaaW.PrintWords Go.Proofs.YtbbhjceelghadaaW.PrintMore Go.Proofs.YtbbhjceelghadaaW.PrintLast
attribute [local go_sem] Oper.semAt_some
/-- The smaller one, not opened. -/
def imin (x y : Int) : Int := if y < x then y else x
theorem imin_le {n x y : Int} (h1 : n ≤ x) (h2 : n ≤ y) : n ≤ imin x y := by unfold imin; split <;> assumption
theorem imin_lt {n x y : Int} (h : x < n ∨ y < n) : imin x y < n := by unfold imin; split <;> omega
theorem min2_i (k k' : IntKind) (x y : Int) : Builtin.min2 (.int k x) (.int k' y) = pure (.int k (imin x y)) := min2_int k k' x y
attribute [local go_sem] min2_i min_two

/-- What is handed to a round: where the frame ends, its bytes' slice, its bytes. -/
abbrev Fr := Nat × Value × List UInt8
def frs (xs : List Fr) : List (List UInt8) := xs.map fun x => x.2.2
def lastK (xs : List Fr) : Nat := (xs.getLast?.map fun x => x.1).getD 0
theorem frs_snoc (xs : List Fr) (x : Fr) : frs (xs ++ [x]) = frs xs ++ [x.2.2] := by simp [frs]
theorem lastK_snoc (xs : List Fr) (x : Fr) : lastK (xs ++ [x]) = x.1 := by simp [lastK]
theorem frs_le (xs : List Fr) : xs.length ≤ endB (frs xs) := by
  induction xs with
  | nil => simp
  | cons x xs ih =>
    rw [show frs (x :: xs) = x.2.2 :: frs xs from rfl, endB_cons, List.length_cons]
    omega
def encF (x : Fr) : Array Value := #[.int .i64 (x.1 : Int), x.2.1]
def KpF (n0 B : Nat) (W W' : World) : Prop := Below n0 W W' ∧ W'.heap[B]? = W.heap[B]?
def GF (n0 : Nat) (x : Fr) (W : World) : Prop := OB W n0 x.2.1 x.2.2

theorem shl_or (x0 x1 x2 : UInt8) : bits .or .i64 (bits .or .i64 ((x0.toNat : Int) * 65536) ((x1.toNat : Int) * 256)) (x2.toNat : Int) = (x0.toNat : Int) * 65536 + (x1.toNat : Int) * 256 + (x2.toNat : Int) := by
  have b0 := x0.toNat_lt
  have b1 := x1.toNat_lt
  have b2 := x2.toNat_lt
  have hw : ∀ n : Int, 0 ≤ n → n < 2 ^ 24 → IntKind.i64.wrap n = n := fun n h1 h2 => by rw [i64_w]; unfold Go.RowKit.wrap64; omega
  have h1 : bits .or .i64 ((x0.toNat : Int) * 65536) ((x1.toNat : Int) * 256) = (x0.toNat : Int) * 65536 + (x1.toNat : Int) * 256 := bits_join .i64 24 (by decide) hw 16 _ _ (by omega) (by omega) (by omega) (by omega) (by omega) (by omega)
  rw [h1]
  exact bits_join .i64 24 (by decide) hw 8 _ _ (by omega) (by omega) (by omega) (by omega) (by omega) (by omega)

/-- Bytes that are read. -/
def RSl (l : List UInt8) : Value → World → Prop := fun v w => ∃ A c, v = .slice A l.length c ∧ l.length ≤ c ∧ kb.C w A l.length l
theorem Rm_sl (l : List UInt8) : Rm (RSl l) := fun _ _ _ ⟨A, c, h1, h2, h3⟩ hb => ⟨A, c, h1, h2, Kd.C_below h3 hb⟩
/-- 'b[:hi:hi]'. -/
theorem cut_hm (A : Option Addr) (n c hi : Nat) (hiI : Int) (e1 : hiI = hi) (h1 : hi ≤ n) (hc : n ≤ c) :
    ∀ W : World, (Instr.slice 22 (.slice A n c) none (some (.int .i64 hiI)) (some (.int .i64 hiI))).run Try.prog W = .ok (.slice A hi hi) W := by
  subst e1
  intro W
  obtain ⟨i, hi0, hsz⟩ := Option.map_eq_some_iff.1 info_bytes
  have hel : Try.prog.elem 22 = 5 := by simp [Program.elem, Try.underlying22]
  have hu : Try.prog.underlying 22 = some (.slice (Try.prog.elem 22)) := by rw [hel]; exact Try.underlying22
  rw [run_slice_hm W 22 A n c hu .i64 .i64 (hi : Int) (hi : Int) (Int.natCast_nonneg _) (Int.le_refl _) (by omega), hel]
  simp [sizeOf, typeInfo, hi0, hsz, sliced, Result.andThen]
  intro _
  cases A with
  | none => rfl
  | some a => simp [Addr.add]
theorem KpF_refl (n0 B : Nat) (W : World) : KpF n0 B W W := ⟨Below.refl _ _, rfl⟩

theorem first_once (b : List UInt8) (h7 : 7 ≤ b.length) (h1 : num3 b ≤ 60000) (h2 : num3 b ≤ b.length - 7) :
    firstB b = if (tailB (b.take (3 + num3 b)) == (b.take (3 + num3 b + 4)).drop (3 + num3 b)) = true then some ((b.take (3 + num3 b)).drop 3) else none := by
  unfold firstB
  rw [if_neg (by omega), if_neg (by omega)]
  have e1 : (b.take (3 + num3 b + 4)).drop (3 + num3 b) = (b.drop (3 + num3 b)).take 4 := by rw [List.drop_take]; congr 1; omega
  have e2 : (b.take (3 + num3 b)).drop 3 = (b.drop 3).take (num3 b) := by rw [List.drop_take]; congr 1; omega
  rw [e1, e2]
  simp only [beq_iff_eq]

set_option maxHeartbeats 2000000 in
theorem each_gives (n B e : Nat) (fz : Nat × Nat) (A : Option Addr) (c : Nat) (l : List UInt8) (wS w0 : World) (hr : kb.C wS A l.length l) (hc : l.length ≤ c) (hs : (l.length : Int) ≤ 1000000) (hwS : Below wS.heap.size wS w0)
    (hB : w0.heap[B]? = some (.cells #[.slice A l.length c] e fz)) :
    GivesG Fence.wide n Try.prog 34 #[.pointer (some ⟨B, 0, none⟩)] encF (KpF wS.heap.size B) (GF w0.heap.size) (fun xs => frs xs = scanB l ∧ lastK xs = endB (scanB l)) (l.length + 1) w0 := by
  intro lp J W hW hJb hY h0
  have HL := Aside0.mk hr
  clear hr
  have hBW := heap_below hW hB
  refine callsIn_of_wp Try.func34 rfl trivial ?_ rfl
  simp only [Try.ntmps34, List.size_toArray, List.length_cons, List.length_nil, Nat.reduceAdd, Nat.reduceSub, Array.replicate_succ, Array.replicate_zero, List.push_toArray, List.append_toArray, List.nil_append, List.cons_append]
  gi_wp2
  gi_loopw [3] (fun p wr => ∃ (k : Nat) (xs : List Fr), p = .int .i64 (k : Int) ∧ k ≤ l.length ∧ Aside0 (scanB l = frs xs ++ scanB (l.drop k)) ∧ Aside0 (endB (frs xs) = k) ∧ Aside0 (lastK xs = k) ∧ Aside0 (J xs wr) ∧ Aside0 (Below wS.heap.size wS wr) ∧ w0.heap.size ≤ wr.heap.size ∧ wr.heap[B]? = some (.cells #[.slice A l.length c] e fz)) (fun p _ => l.length - (intOf p).toNat)
  case atStart => exact ⟨0, [], rfl, Nat.zero_le _, ⟨rfl⟩, ⟨rfl⟩, ⟨rfl⟩, ⟨h0⟩, ⟨hwS.trans (hW.mono hwS.size)⟩, hW.size, hBW⟩
  case round =>
    obtain ⟨k, xs, rfl, hk, HS, HE, HK, HJ, HB, hszr, hBr⟩ := hrel
    have hcell : wr.cell? ⟨B, 0, none⟩ = some (.slice A l.length c) := by simp [World.cell?, hBr]
    have hk1 : (k : Int) ≤ (l.length : Int) := by omega
    obtain ⟨A', hrun, hC⟩ := cut_l (Kd.C_below HL.out HB.out) hc k (k : Int) rfl hk
    obtain ⟨l', hl'⟩ : ∃ z, z = l.drop k := ⟨_, rfl⟩
    have hll : l'.length = l.length - k := by rw [hl', List.length_drop]
    have hlI : (l'.length : Int) = (l.length : Int) - (k : Int) := by omega
    rw [← hl'] at hC
    rw [← hll] at hrun hC
    have HLI := Aside0.mk hlI
    have HLL := Aside0.mk hll
    have HL' := Aside0.mk hl'
    clear hl' hll hlI
    rw [← HL'.out] at HS
    have hcc : l'.length ≤ c - k := by have := HLL.out; omega
    by_cases h7 : (7 : Int) ≤ (l.length : Int) - (k : Int)
    · have h7' : (7 : Int) ≤ (l'.length : Int) := by have := HLI.out; omega
      obtain ⟨ad, hA, hx0⟩ := C_at hC 0 (by omega)
      obtain ⟨ad', hA', hx1⟩ := C_at hC 1 (by omega)
      obtain ⟨ad'', hA'', hx2⟩ := C_at hC 2 (by omega)
      subst hA
      obtain rfl : ad = ad' := by injection hA'
      obtain rfl : ad = ad'' := by injection hA''
      clear hA' hA''
      obtain ⟨x0, e0⟩ : ∃ x, x = l'.getD 0 0 := ⟨_, rfl⟩
      obtain ⟨x1, e1⟩ : ∃ x, x = l'.getD 1 0 := ⟨_, rfl⟩
      obtain ⟨x2, e2⟩ : ∃ x, x = l'.getD 2 0 := ⟨_, rfl⟩
      rw [← e0] at hx0
      rw [← e1] at hx1
      rw [← e2] at hx2
      have HN := Aside0.mk (num3_int l' x0 x1 x2 e0 e1 e2)
      have HSH := Aside0.mk (shl_or x0 x1 x2)
      have b0 := x0.toNat_lt
      have b1 := x1.toNat_lt
      have b2 := x2.toNat_lt
      clear e0 e1 e2
      have HC := Aside0.mk hC
      clear hC
      have hm' : (l'.length : Int) ≤ 1000000 := by have := HLI.out; omega
      have hne : ¬ (l' = []) := fun h => by subst h; simp at h7'
      have hi0 : (0 : Int) < (l'.length : Int) := by omega
      have hi1 : (1 : Int) < (l'.length : Int) := by omega
      have hi2 : (2 : Int) < (l'.length : Int) := by omega
      have hs0 : (x0.toNat : Int) * 65536 ≤ 16711680 := by omega
      have hs1 : (x1.toNat : Int) * 256 ≤ 65280 := by omega
      gi_wp2
      refine wpIn_wide.2 ?_
      refine grow_rs [15, 16, 17, 18, 19, 20, 21, 22, 23, 24, 25, 26, 27, 28, 29, 30, 5] [fun v _ => v = (.slice (some ad) l'.length (c - k)), fun v _ => v = (.pointer (some (ad.add 0))), fun v _ => v = (.int .u8 (x0.toNat : Int)), fun v _ => v = (.int .i64 (x0.toNat : Int)), fun v _ => v = (.int .i64 ((x0.toNat : Int) * 65536)), fun v _ => v = (.slice (some ad) l'.length (c - k)), fun v _ => v = (.pointer (some (ad.add 1))), fun v _ => v = (.int .u8 (x1.toNat : Int)), fun v _ => v = (.int .i64 (x1.toNat : Int)), fun v _ => v = (.int .i64 ((x1.toNat : Int) * 256)), fun v _ => v = (.int .i64 (bits .or .i64 ((x0.toNat : Int) * 65536) ((x1.toNat : Int) * 256))), fun v _ => v = (.slice (some ad) l'.length (c - k)), fun v _ => v = (.pointer (some (ad.add 2))), fun v _ => v = (.int .u8 (x2.toNat : Int)), fun v _ => v = (.int .i64 (x2.toNat : Int)), fun v _ => v = (.int .i64 (bits .or .i64 (bits .or .i64 ((x0.toNat : Int) * 65536) ((x1.toNat : Int) * 256)) (x2.toNat : Int))), fun v _ => v = (.int .i64 (bits .or .i64 (bits .or .i64 ((x0.toNat : Int) * 65536) ((x1.toNat : Int) * 256)) (x2.toNat : Int)))] [0, 1, 2, 3, 4, 5, 6, 7, 8, 9, 10, 11, 12, 13, 14, 15, 16] (true, [([], []), ([0], [0]), ([1], [1]), ([2], [2]), ([3], [3]), ([], []), ([5], [5]), ([6], [6]), ([7], [7]), ([8], [8]), ([4, 9], [4, 9]), ([], []), ([11], [11]), ([12], [12]), ([13], [13]), ([10, 14], [10, 14]), ([15, 0, 1, 2, 3, 4, 5, 6, 7, 8, 9, 10, 11, 12, 13, 14, 15], [15])]) [0, 1, 3, 7, 15, 0, 32, 96, 224, 480, 1023, 0, 2048, 6144, 14336, 32767, 65535] (by kernel_rfl) (by kernel_rfl) (by kernel_rfl) (by kernel_rfl) (by kernel_rfl) (by kernel_rfl) (by kernel_rfl) (by rfl) (by kernel_rfl) ?_ ?_ ?_
      · exact (Rms_cons (Rm_eq _) (Rms_cons (Rm_eq _) (Rms_cons (Rm_eq _) (Rms_cons (Rm_eq _) (Rms_cons (Rm_eq _) (Rms_cons (Rm_eq _) (Rms_cons (Rm_eq _) (Rms_cons (Rm_eq _) (Rms_cons (Rm_eq _) (Rms_cons (Rm_eq _) (Rms_cons (Rm_eq _) (Rms_cons (Rm_eq _) (Rms_cons (Rm_eq _) (Rms_cons (Rm_eq _) (Rms_cons (Rm_eq _) (Rms_cons (Rm_eq _) (Rms_cons (Rm_eq _) Rms_nil)))))))))))))))))
      · refine gsteps_cons ?_ ?_
        · intro a w' vs hB hel hd
          have e4 : a.tmps[4]? = some (.slice (some ad) l'.length (c - k)) := (hel 4 (by kernel_rfl)).trans (by rfl)
          refine ⟨_, rfl, rfl, fun K hK => ?_⟩
          refine value_ (w1 := w') (v := .slice (some ad) l'.length (c - k)) (by rfl) rfl ?_ (hK _ _ (by exact rfl) (Below.refl _ _))
          · go_simp
            (try simp only [i64_w, bs_list])
            (try rfl)
            (try (unfold Go.RowKit.wrap64; omega))
        refine gsteps_cons ?_ ?_
        · intro a w' vs hB hel hd
          obtain ⟨f15, r15⟩ := hd 0 (by kernel_rfl)
          have e15 : a.tmps[15]? = some (.slice (some ad) l'.length (c - k)) := f15.trans (congrArg some (r15 : vs 0 = (.slice (some ad) l'.length (c - k))))
          refine ⟨_, rfl, rfl, fun K hK => ?_⟩
          refine value_ (w1 := w') (v := .pointer (some (ad.add 0))) (by rfl) rfl ?_ (hK _ _ (by exact rfl) (Below.refl _ _))
          · go_simp
            (try simp only [i64_w, bs_list])
            (try rfl)
            (try (unfold Go.RowKit.wrap64; omega))
        refine gsteps_cons ?_ ?_
        · intro a w' vs hB hel hd
          obtain ⟨f16, r16⟩ := hd 1 (by kernel_rfl)
          have e16 : a.tmps[16]? = some (.pointer (some (ad.add 0))) := f16.trans (congrArg some (r16 : vs 1 = (.pointer (some (ad.add 0)))))
          have hy0 := bcell hB hx0
          rw [addr_zero] at hy0
          refine ⟨_, rfl, rfl, fun K hK => ?_⟩
          refine value_ (w1 := w') (v := .int .u8 (x0.toNat : Int)) (by rfl) rfl ?_ (hK _ _ (by exact rfl) (Below.refl _ _))
          · go_simp
            (try simp only [i64_w, bs_list])
            (try rfl)
            (try (unfold Go.RowKit.wrap64; omega))
        refine gsteps_cons ?_ ?_
        · intro a w' vs hB hel hd
          obtain ⟨f17, r17⟩ := hd 2 (by kernel_rfl)
          have e17 : a.tmps[17]? = some (.int .u8 (x0.toNat : Int)) := f17.trans (congrArg some (r17 : vs 2 = (.int .u8 (x0.toNat : Int))))
          refine ⟨_, rfl, rfl, fun K hK => ?_⟩
          refine value_ (w1 := w') (v := .int .i64 (x0.toNat : Int)) (by rfl) rfl ?_ (hK _ _ (by exact rfl) (Below.refl _ _))
          · go_simp
            (try simp only [i64_w, bs_list])
            (try rfl)
            (try (unfold Go.RowKit.wrap64; omega))
        refine gsteps_cons ?_ ?_
        · intro a w' vs hB hel hd
          obtain ⟨f18, r18⟩ := hd 3 (by kernel_rfl)
          have e18 : a.tmps[18]? = some (.int .i64 (x0.toNat : Int)) := f18.trans (congrArg some (r18 : vs 3 = (.int .i64 (x0.toNat : Int))))
          refine ⟨_, rfl, rfl, fun K hK => ?_⟩
          refine value_ (w1 := w') (v := .int .i64 ((x0.toNat : Int) * 65536)) (by rfl) rfl ?_ (hK _ _ (by exact rfl) (Below.refl _ _))
          · go_simp
            (try simp only [i64_w, bs_list])
            (try rfl)
            (try (unfold Go.RowKit.wrap64; omega))
        refine gsteps_cons ?_ ?_
        · intro a w' vs hB hel hd
          have e4 : a.tmps[4]? = some (.slice (some ad) l'.length (c - k)) := (hel 4 (by kernel_rfl)).trans (by rfl)
          refine ⟨_, rfl, rfl, fun K hK => ?_⟩
          refine value_ (w1 := w') (v := .slice (some ad) l'.length (c - k)) (by rfl) rfl ?_ (hK _ _ (by exact rfl) (Below.refl _ _))
          · go_simp
            (try simp only [i64_w, bs_list])
            (try rfl)
            (try (unfold Go.RowKit.wrap64; omega))
        refine gsteps_cons ?_ ?_
        · intro a w' vs hB hel hd
          obtain ⟨f20, r20⟩ := hd 5 (by kernel_rfl)
          have e20 : a.tmps[20]? = some (.slice (some ad) l'.length (c - k)) := f20.trans (congrArg some (r20 : vs 5 = (.slice (some ad) l'.length (c - k))))
          refine ⟨_, rfl, rfl, fun K hK => ?_⟩
          refine value_ (w1 := w') (v := .pointer (some (ad.add 1))) (by rfl) rfl ?_ (hK _ _ (by exact rfl) (Below.refl _ _))
          · go_simp
            (try simp only [i64_w, bs_list])
            (try rfl)
            (try (unfold Go.RowKit.wrap64; omega))
        refine gsteps_cons ?_ ?_
        · intro a w' vs hB hel hd
          obtain ⟨f21, r21⟩ := hd 6 (by kernel_rfl)
          have e21 : a.tmps[21]? = some (.pointer (some (ad.add 1))) := f21.trans (congrArg some (r21 : vs 6 = (.pointer (some (ad.add 1)))))
          have hy0 := bcell hB hx1
          rw [addr_pos _ _ (by omega)] at hy0
          refine ⟨_, rfl, rfl, fun K hK => ?_⟩
          refine value_ (w1 := w') (v := .int .u8 (x1.toNat : Int)) (by rfl) rfl ?_ (hK _ _ (by exact rfl) (Below.refl _ _))
          · go_simp
            (try simp only [i64_w, bs_list])
            (try rfl)
            (try (unfold Go.RowKit.wrap64; omega))
        refine gsteps_cons ?_ ?_
        · intro a w' vs hB hel hd
          obtain ⟨f22, r22⟩ := hd 7 (by kernel_rfl)
          have e22 : a.tmps[22]? = some (.int .u8 (x1.toNat : Int)) := f22.trans (congrArg some (r22 : vs 7 = (.int .u8 (x1.toNat : Int))))
          refine ⟨_, rfl, rfl, fun K hK => ?_⟩
          refine value_ (w1 := w') (v := .int .i64 (x1.toNat : Int)) (by rfl) rfl ?_ (hK _ _ (by exact rfl) (Below.refl _ _))
          · go_simp
            (try simp only [i64_w, bs_list])
            (try rfl)
            (try (unfold Go.RowKit.wrap64; omega))
        refine gsteps_cons ?_ ?_
        · intro a w' vs hB hel hd
          obtain ⟨f23, r23⟩ := hd 8 (by kernel_rfl)
          have e23 : a.tmps[23]? = some (.int .i64 (x1.toNat : Int)) := f23.trans (congrArg some (r23 : vs 8 = (.int .i64 (x1.toNat : Int))))
          refine ⟨_, rfl, rfl, fun K hK => ?_⟩
          refine value_ (w1 := w') (v := .int .i64 ((x1.toNat : Int) * 256)) (by rfl) rfl ?_ (hK _ _ (by exact rfl) (Below.refl _ _))
          · go_simp
            (try simp only [i64_w, bs_list])
            (try rfl)
            (try (unfold Go.RowKit.wrap64; omega))
        refine gsteps_cons ?_ ?_
        · intro a w' vs hB hel hd
          obtain ⟨f19, r19⟩ := hd 4 (by kernel_rfl)
          have e19 : a.tmps[19]? = some (.int .i64 ((x0.toNat : Int) * 65536)) := f19.trans (congrArg some (r19 : vs 4 = (.int .i64 ((x0.toNat : Int) * 65536))))
          obtain ⟨f24, r24⟩ := hd 9 (by kernel_rfl)
          have e24 : a.tmps[24]? = some (.int .i64 ((x1.toNat : Int) * 256)) := f24.trans (congrArg some (r24 : vs 9 = (.int .i64 ((x1.toNat : Int) * 256))))
          refine ⟨_, rfl, rfl, fun K hK => ?_⟩
          refine value_ (w1 := w') (v := .int .i64 (bits .or .i64 ((x0.toNat : Int) * 65536) ((x1.toNat : Int) * 256))) (by rfl) rfl ?_ (hK _ _ (by exact rfl) (Below.refl _ _))
          · go_simp
            (try simp only [i64_w, bs_list])
            (try rfl)
            (try (unfold Go.RowKit.wrap64; omega))
        refine gsteps_cons ?_ ?_
        · intro a w' vs hB hel hd
          have e4 : a.tmps[4]? = some (.slice (some ad) l'.length (c - k)) := (hel 4 (by kernel_rfl)).trans (by rfl)
          refine ⟨_, rfl, rfl, fun K hK => ?_⟩
          refine value_ (w1 := w') (v := .slice (some ad) l'.length (c - k)) (by rfl) rfl ?_ (hK _ _ (by exact rfl) (Below.refl _ _))
          · go_simp
            (try simp only [i64_w, bs_list])
            (try rfl)
            (try (unfold Go.RowKit.wrap64; omega))
        refine gsteps_cons ?_ ?_
        · intro a w' vs hB hel hd
          obtain ⟨f26, r26⟩ := hd 11 (by kernel_rfl)
          have e26 : a.tmps[26]? = some (.slice (some ad) l'.length (c - k)) := f26.trans (congrArg some (r26 : vs 11 = (.slice (some ad) l'.length (c - k))))
          refine ⟨_, rfl, rfl, fun K hK => ?_⟩
          refine value_ (w1 := w') (v := .pointer (some (ad.add 2))) (by rfl) rfl ?_ (hK _ _ (by exact rfl) (Below.refl _ _))
          · go_simp
            (try simp only [i64_w, bs_list])
            (try rfl)
            (try (unfold Go.RowKit.wrap64; omega))
        refine gsteps_cons ?_ ?_
        · intro a w' vs hB hel hd
          obtain ⟨f27, r27⟩ := hd 12 (by kernel_rfl)
          have e27 : a.tmps[27]? = some (.pointer (some (ad.add 2))) := f27.trans (congrArg some (r27 : vs 12 = (.pointer (some (ad.add 2)))))
          have hy0 := bcell hB hx2
          rw [addr_pos _ _ (by omega)] at hy0
          refine ⟨_, rfl, rfl, fun K hK => ?_⟩
          refine value_ (w1 := w') (v := .int .u8 (x2.toNat : Int)) (by rfl) rfl ?_ (hK _ _ (by exact rfl) (Below.refl _ _))
          · go_simp
            (try simp only [i64_w, bs_list])
            (try rfl)
            (try (unfold Go.RowKit.wrap64; omega))
        refine gsteps_cons ?_ ?_
        · intro a w' vs hB hel hd
          obtain ⟨f28, r28⟩ := hd 13 (by kernel_rfl)
          have e28 : a.tmps[28]? = some (.int .u8 (x2.toNat : Int)) := f28.trans (congrArg some (r28 : vs 13 = (.int .u8 (x2.toNat : Int))))
          refine ⟨_, rfl, rfl, fun K hK => ?_⟩
          refine value_ (w1 := w') (v := .int .i64 (x2.toNat : Int)) (by rfl) rfl ?_ (hK _ _ (by exact rfl) (Below.refl _ _))
          · go_simp
            (try simp only [i64_w, bs_list])
            (try rfl)
            (try (unfold Go.RowKit.wrap64; omega))
        refine gsteps_cons ?_ ?_
        · intro a w' vs hB hel hd
          obtain ⟨f25, r25⟩ := hd 10 (by kernel_rfl)
          have e25 : a.tmps[25]? = some (.int .i64 (bits .or .i64 ((x0.toNat : Int) * 65536) ((x1.toNat : Int) * 256))) := f25.trans (congrArg some (r25 : vs 10 = (.int .i64 (bits .or .i64 ((x0.toNat : Int) * 65536) ((x1.toNat : Int) * 256)))))
          obtain ⟨f29, r29⟩ := hd 14 (by kernel_rfl)
          have e29 : a.tmps[29]? = some (.int .i64 (x2.toNat : Int)) := f29.trans (congrArg some (r29 : vs 14 = (.int .i64 (x2.toNat : Int))))
          refine ⟨_, rfl, rfl, fun K hK => ?_⟩
          refine value_ (w1 := w') (v := .int .i64 (bits .or .i64 (bits .or .i64 ((x0.toNat : Int) * 65536) ((x1.toNat : Int) * 256)) (x2.toNat : Int))) (by rfl) rfl ?_ (hK _ _ (by exact rfl) (Below.refl _ _))
          · go_simp
            (try simp only [i64_w, bs_list])
            (try rfl)
            (try (unfold Go.RowKit.wrap64; omega))
        refine gsteps_cons ?_ ?_
        · intro a w' vs hB hel hd
          obtain ⟨f30, r30⟩ := hd 15 (by kernel_rfl)
          have e30 : a.tmps[30]? = some (.int .i64 (bits .or .i64 (bits .or .i64 ((x0.toNat : Int) * 65536) ((x1.toNat : Int) * 256)) (x2.toNat : Int))) := f30.trans (congrArg some (r30 : vs 15 = (.int .i64 (bits .or .i64 (bits .or .i64 ((x0.toNat : Int) * 65536) ((x1.toNat : Int) * 256)) (x2.toNat : Int)))))
          refine ⟨_, rfl, rfl, fun K hK => ?_⟩
          refine value_ (w1 := w') (v := .int .i64 (bits .or .i64 (bits .or .i64 ((x0.toNat : Int) * 65536) ((x1.toNat : Int) * 256)) (x2.toNat : Int))) (by rfl) rfl ?_ (hK _ _ (by exact rfl) (Below.refl _ _))
          · go_simp
            (try simp only [i64_w, bs_list])
            (try rfl)
            (try (unfold Go.RowKit.wrap64; omega))
        exact gsteps_nil
      · intro vs w' hB hR
        have hv0_ : vs 0 = (.slice (some ad) l'.length (c - k)) := hR 0 (by kernel_rfl)
        have hv1_ : vs 1 = (.pointer (some (ad.add 0))) := hR 1 (by kernel_rfl)
        have hv2_ : vs 2 = (.int .u8 (x0.toNat : Int)) := hR 2 (by kernel_rfl)
        have hv3_ : vs 3 = (.int .i64 (x0.toNat : Int)) := hR 3 (by kernel_rfl)
        have hv4_ : vs 4 = (.int .i64 ((x0.toNat : Int) * 65536)) := hR 4 (by kernel_rfl)
        have hv5_ : vs 5 = (.slice (some ad) l'.length (c - k)) := hR 5 (by kernel_rfl)
        have hv6_ : vs 6 = (.pointer (some (ad.add 1))) := hR 6 (by kernel_rfl)
        have hv7_ : vs 7 = (.int .u8 (x1.toNat : Int)) := hR 7 (by kernel_rfl)
        have hv8_ : vs 8 = (.int .i64 (x1.toNat : Int)) := hR 8 (by kernel_rfl)
        have hv9_ : vs 9 = (.int .i64 ((x1.toNat : Int) * 256)) := hR 9 (by kernel_rfl)
        have hv10_ : vs 10 = (.int .i64 (bits .or .i64 ((x0.toNat : Int) * 65536) ((x1.toNat : Int) * 256))) := hR 10 (by kernel_rfl)
        have hv11_ : vs 11 = (.slice (some ad) l'.length (c - k)) := hR 11 (by kernel_rfl)
        have hv12_ : vs 12 = (.pointer (some (ad.add 2))) := hR 12 (by kernel_rfl)
        have hv13_ : vs 13 = (.int .u8 (x2.toNat : Int)) := hR 13 (by kernel_rfl)
        have hv14_ : vs 14 = (.int .i64 (x2.toNat : Int)) := hR 14 (by kernel_rfl)
        have hv15_ : vs 15 = (.int .i64 (bits .or .i64 (bits .or .i64 ((x0.toNat : Int) * 65536) ((x1.toNat : Int) * 256)) (x2.toNat : Int))) := hR 15 (by kernel_rfl)
        have hv16_ : vs 16 = (.int .i64 (bits .or .i64 (bits .or .i64 ((x0.toNat : Int) * 65536) ((x1.toNat : Int) * 256)) (x2.toNat : Int))) := hR 16 (by kernel_rfl)
        rw [show entries [15, 16, 17, 18, 19, 20, 21, 22, 23, 24, 25, 26, 27, 28, 29, 30, 5] vs = [(0, 15, vs 0), (1, 16, vs 1), (2, 17, vs 2), (3, 18, vs 3), (4, 19, vs 4), (5, 20, vs 5), (6, 21, vs 6), (7, 22, vs 7), (8, 23, vs 8), (9, 24, vs 9), (10, 25, vs 10), (11, 26, vs 11), (12, 27, vs 12), (13, 28, vs 13), (14, 29, vs 14), (15, 30, vs 15), (16, 5, vs 16)] from rfl]
        simp only [putSel, if_true, Act.put, List.setIfInBounds_toArray, List.set_cons_zero, List.set_cons_succ, hv0_, hv1_, hv2_, hv3_, hv4_, hv5_, hv6_, hv7_, hv8_, hv9_, hv10_, hv11_, hv12_, hv13_, hv14_, hv15_, hv16_]
        clear hR hv0_ hv1_ hv2_ hv3_ hv4_ hv5_ hv6_ hv7_ hv8_ hv9_ hv10_ hv11_ hv12_ hv13_ hv14_ hv15_ hv16_
        rw [HSH.out, HN.out]
        obtain ⟨n, hne1⟩ : ∃ n, n = num3 l' := ⟨_, rfl⟩
        rw [← hne1]
        have HNE := Aside0.mk hne1
        clear hne1 HSH
        have hB3 : Below wr.heap.size wr w' := hB
        clear hB
        by_cases h60 : (60000 : Int) < (n : Int)
        · have HF := Aside0.mk (show firstB l' = none from by unfold firstB; rw [if_neg (by omega), if_pos (by rw [← HNE.out]; omega)])
          have hmn : imin 60000 ((l'.length : Int) - 3 - 4) < (n : Int) := imin_lt (.inl h60)
          gi_wp2
          refine bodyPost_ret (results_none rfl _ _ _) rfl ?_
          exact ⟨⟨_, rfl⟩, xs, ⟨by rw [HS.out, scanB_none HF.out, List.append_nil], by rw [HK.out, HS.out, scanB_none HF.out, List.append_nil, HE.out]⟩, hJb _ _ _ HJ.out hB3⟩
        · by_cases hln : (l'.length : Int) - 7 < (n : Int)
          · have HF := Aside0.mk (show firstB l' = none from by unfold firstB; rw [if_neg (by omega), if_pos (by rw [← HNE.out]; omega)])
            have hmn : imin 60000 ((l'.length : Int) - 3 - 4) < (n : Int) := imin_lt (.inr (by omega))
            gi_wp2
            refine bodyPost_ret (results_none rfl _ _ _) rfl ?_
            exact ⟨⟨_, rfl⟩, xs, ⟨by rw [HS.out, scanB_none HF.out, List.append_nil], by rw [HK.out, HS.out, scanB_none HF.out, List.append_nil, HE.out]⟩, hJb _ _ _ HJ.out hB3⟩
          · have hn1 : (n : Int) ≤ (l'.length : Int) - 7 := by omega
            have hnn : n + 7 ≤ l'.length := by omega
            have hr3 := cut_hm (some ad) l'.length (c - k) (3 + n) (3 + (n : Int)) (by omega) (by omega) hcc
            have hC3 := Aside0.mk (C_take_n HC.out (3 + n) (by omega))
            obtain ⟨A4, hr4, hC4⟩ := cut_lh HC.out hcc (3 + n) (3 + n + 4) (3 + (n : Int)) (3 + (n : Int) + 4) (by omega) (by omega) (by omega) (by omega)
            obtain ⟨l4, hl4⟩ : ∃ z, z = (l'.take (3 + n + 4)).drop (3 + n) := ⟨_, rfl⟩
            have hll4 : l4.length = 3 + n + 4 - (3 + n) := by rw [hl4, List.length_drop, List.length_take]; omega
            rw [← hl4, ← hll4] at hC4
            rw [← hll4] at hr4
            obtain ⟨A1, hr1, hC1⟩ := cut_lh HC.out hcc 3 (3 + n) (3 : Int) (3 + (n : Int)) rfl (by omega) (by omega) (by omega)
            obtain ⟨x, hx⟩ : ∃ z, z = (l'.take (3 + n)).drop 3 := ⟨_, rfl⟩
            have hxl : x.length = 3 + n - 3 := by rw [hx, List.length_drop, List.length_take]; omega
            rw [← hx, ← hxl] at hC1
            rw [← hxl] at hr1
            have HC4 := Aside0.mk hC4
            have HC1 := Aside0.mk hC1
            have HL4 := Aside0.mk hl4
            have HXX := Aside0.mk hx
            have HXL := Aside0.mk hxl
            have hx60 : x.length ≤ 140737488355327 := by omega
            have hxc : x.length ≤ c - k - 3 := by omega
            clear hC4 hC1 hl4 hx hll4 hxl
            have hmn : (n : Int) ≤ imin 60000 ((l'.length : Int) - 3 - 4) := imin_le (by omega) (by omega)
            gi_wp2
            refine wpIn_wide.2 ?_
            refine grow_rs [40, 41, 42, 43, 44, 45, 46, 47, 48, 49, 50, 51, 52, 53] [fun v _ => v = (.slice (some ad) l'.length (c - k)), fun v _ => v = (.int .i64 (3 + (n : Int))), fun v _ => v = (.int .i64 (3 + (n : Int))), fun v _ => v = (.slice (some ad) (3 + n) (3 + n)), RLit 1 #[.slice (some ad) (3 + n) (3 + n)] 22, fun v _ => v = (.int .u32 (sumN [l'.take (3 + n)] : Int)), RSl (tailB (l'.take (3 + n))), fun v _ => v = (.slice (some ad) l'.length (c - k)), fun v _ => v = (.int .i64 (3 + (n : Int))), fun v _ => v = (.int .i64 (3 + (n : Int))), fun v _ => v = (.int .i64 (3 + (n : Int) + 4)), fun v _ => v = (.slice A4 l4.length (c - k - (3 + n))), fun v _ => v = (.bool (tailB (l'.take (3 + n)) == l4)), fun v _ => v = (.bool (!(tailB (l'.take (3 + n)) == l4)))] [0, 1, 2, 3, 4, 5, 6, 7, 8, 9, 10, 11, 12, 13] (true, [([], []), ([], []), ([], []), ([0, 1, 2], [0, 1, 2]), ([3], [3]), ([4], [4]), ([5, 5], [5]), ([], []), ([], []), ([], []), ([9], [9]), ([7, 8, 10], [7, 8, 10]), ([6, 11, 6], [6, 11]), ([12], [12])]) [0, 0, 0, 7, 15, 31, 63, 0, 0, 0, 512, 1920, 4095, 8191] (by kernel_rfl) (by kernel_rfl) (by kernel_rfl) (by kernel_rfl) (by kernel_rfl) (by kernel_rfl) (by kernel_rfl) (by rfl) (by kernel_rfl) ?_ ?_ ?_
            · exact (Rms_cons (Rm_eq _) (Rms_cons (Rm_eq _) (Rms_cons (Rm_eq _) (Rms_cons (Rm_eq _) (Rms_cons (Rm_lit _ _ _) (Rms_cons (Rm_eq _) (Rms_cons (Rm_sl _) (Rms_cons (Rm_eq _) (Rms_cons (Rm_eq _) (Rms_cons (Rm_eq _) (Rms_cons (Rm_eq _) (Rms_cons (Rm_eq _) (Rms_cons (Rm_eq _) (Rms_cons (Rm_eq _) Rms_nil))))))))))))))
            · refine gsteps_cons ?_ ?_
              · intro a w' vs hB hel hd
                have e4 : a.tmps[4]? = some (.slice (some ad) l'.length (c - k)) := (hel 4 (by kernel_rfl)).trans (by rfl)
                refine ⟨_, rfl, rfl, fun K hK => ?_⟩
                refine value_ (w1 := w') (v := .slice (some ad) l'.length (c - k)) (by rfl) rfl ?_ (hK _ _ (by exact rfl) (Below.refl _ _))
                · go_simp
                  (try simp only [i64_w, bs_list])
                  (try rfl)
                  (try (unfold Go.RowKit.wrap64; omega))
              refine gsteps_cons ?_ ?_
              · intro a w' vs hB hel hd
                have e6 : a.tmps[6]? = some (.int .i64 (3 + (n : Int))) := (hel 6 (by kernel_rfl)).trans (by rfl)
                refine ⟨_, rfl, rfl, fun K hK => ?_⟩
                refine value_ (w1 := w') (v := .int .i64 (3 + (n : Int))) (by rfl) rfl ?_ (hK _ _ (by exact rfl) (Below.refl _ _))
                · go_simp
                  (try simp only [i64_w, bs_list])
                  (try rfl)
                  (try (unfold Go.RowKit.wrap64; omega))
              refine gsteps_cons ?_ ?_
              · intro a w' vs hB hel hd
                have e6 : a.tmps[6]? = some (.int .i64 (3 + (n : Int))) := (hel 6 (by kernel_rfl)).trans (by rfl)
                refine ⟨_, rfl, rfl, fun K hK => ?_⟩
                refine value_ (w1 := w') (v := .int .i64 (3 + (n : Int))) (by rfl) rfl ?_ (hK _ _ (by exact rfl) (Below.refl _ _))
                · go_simp
                  (try simp only [i64_w, bs_list])
                  (try rfl)
                  (try (unfold Go.RowKit.wrap64; omega))
              refine gsteps_cons ?_ ?_
              · intro a w' vs hB hel hd
                obtain ⟨f40, r40⟩ := hd 0 (by kernel_rfl)
                have e40 : a.tmps[40]? = some (.slice (some ad) l'.length (c - k)) := f40.trans (congrArg some (r40 : vs 0 = (.slice (some ad) l'.length (c - k))))
                obtain ⟨f41, r41⟩ := hd 1 (by kernel_rfl)
                have e41 : a.tmps[41]? = some (.int .i64 (3 + (n : Int))) := f41.trans (congrArg some (r41 : vs 1 = (.int .i64 (3 + (n : Int)))))
                obtain ⟨f42, r42⟩ := hd 2 (by kernel_rfl)
                have e42 : a.tmps[42]? = some (.int .i64 (3 + (n : Int))) := f42.trans (congrArg some (r42 : vs 2 = (.int .i64 (3 + (n : Int)))))
                refine ⟨_, rfl, rfl, fun K hK => ?_⟩
                refine value_ (w1 := w') (v := .slice (some ad) (3 + n) (3 + n)) (by rfl) rfl ?_ (hK _ _ (by exact rfl) (Below.refl _ _))
                · go_simp
                  (try simp only [i64_w, bs_list])
                  (try rfl)
                  (try (unfold Go.RowKit.wrap64; omega))
              refine gsteps_cons ?_ ?_
              · intro a w' vs hB hel hd
                obtain ⟨f43, r43⟩ := hd 3 (by kernel_rfl)
                have e43 : a.tmps[43]? = some (.slice (some ad) (3 + n) (3 + n)) := f43.trans (congrArg some (r43 : vs 3 = (.slice (some ad) (3 + n) (3 + n))))
                refine ⟨_, rfl, rfl, fun K hK => ?_⟩
                refine value_ (w1 := w'.alloc (.cells #[.slice (some ad) (3 + n) (3 + n)] 22)) (v := .slice (some ⟨w'.heap.size, 0, none⟩) 1 1) (by rfl) rfl ?_ (hK _ _ (by exact ⟨w'.heap.size, rfl, heap_new' rfl⟩) (below_alloc (Below.refl _ _) _))
                · go_simp
                  (try rfl)
              refine gsteps_cons ?_ ?_
              · intro a w' vs hB hel hd
                obtain ⟨f44, r44⟩ := hd 4 (by kernel_rfl)
                obtain ⟨b4_, hv4_, hb4_⟩ := (r44 : (RLit 1 #[.slice (some ad) (3 + n) (3 + n)] 22) (vs 4) w')
                have e44 : a.tmps[44]? = some (.slice (some ⟨b4_, 0, none⟩) 1 1) := f44.trans (congrArg some hv4_)
                refine ⟨_, rfl, rfl, fun K hK => ?_⟩
                refine goes_ Try.func16 (by kernel_rfl) rfl #[.slice (some ⟨b4_, 0, none⟩) 1 1] (by rfl) rfl rfl (by first | (simp only [List.map_toArray, List.map_cons, List.map_nil, Act.eval, Array.getD_eq_getD_getElem?, Option.getD_some, e44]; done) | (simp only [List.map_toArray, List.map_cons, List.map_nil, Act.eval, Array.getD_eq_getD_getElem?, Option.getD_some, e44]; rfl)) ?_
                refine (sum_blk [l'.take (3 + n)] hb4_ rfl (by simp) (Cs.cons (Kd.C_below hC3.out (by (repeat (first | exact Below.refl _ _ | apply below_alloc | apply below_drew | apply pw_below_drewN | apply below_bytesWorld | (refine below_set ?_ (by first | assumption | omega)) | refine below_step ?_ (by assumption))))) (Nat.le_refl _) (Cs.nil _))).mono ?_
                rintro e_ w2_ ⟨rfl, hb2_⟩
                exact ⟨_, rfl, hK _ _ (by exact rfl) hb2_⟩
              refine gsteps_cons ?_ ?_
              · intro a w' vs hB hel hd
                obtain ⟨f45, r45⟩ := hd 5 (by kernel_rfl)
                have e45 : a.tmps[45]? = some (.int .u32 (sumN [l'.take (3 + n)] : Int)) := f45.trans (congrArg some (r45 : vs 5 = (.int .u32 (sumN [l'.take (3 + n)] : Int))))
                refine ⟨_, rfl, rfl, fun K hK => ?_⟩
                refine goes_ Try.func27 (by kernel_rfl) rfl #[.int .u32 (sumN [l'.take (3 + n)] : Int), (Value.int IntKind.i64 4)] (by rfl) rfl rfl (by first | (simp only [List.map_toArray, List.map_cons, List.map_nil, Act.eval, Array.getD_eq_getD_getElem?, Option.getD_some, e45]; done) | (simp only [List.map_toArray, List.map_cons, List.map_nil, Act.eval, Array.getD_eq_getD_getElem?, Option.getD_some, e45]; rfl)) ?_
                refine (spell4 _ _).mono ?_
                rintro e_ w2_ ⟨v_, rfl, ho_, hb2_⟩
                exact ⟨_, rfl, hK _ _ (OB.reads ho_) hb2_⟩
              refine gsteps_cons ?_ ?_
              · intro a w' vs hB hel hd
                have e4 : a.tmps[4]? = some (.slice (some ad) l'.length (c - k)) := (hel 4 (by kernel_rfl)).trans (by rfl)
                refine ⟨_, rfl, rfl, fun K hK => ?_⟩
                refine value_ (w1 := w') (v := .slice (some ad) l'.length (c - k)) (by rfl) rfl ?_ (hK _ _ (by exact rfl) (Below.refl _ _))
                · go_simp
                  (try simp only [i64_w, bs_list])
                  (try rfl)
                  (try (unfold Go.RowKit.wrap64; omega))
              refine gsteps_cons ?_ ?_
              · intro a w' vs hB hel hd
                have e6 : a.tmps[6]? = some (.int .i64 (3 + (n : Int))) := (hel 6 (by kernel_rfl)).trans (by rfl)
                refine ⟨_, rfl, rfl, fun K hK => ?_⟩
                refine value_ (w1 := w') (v := .int .i64 (3 + (n : Int))) (by rfl) rfl ?_ (hK _ _ (by exact rfl) (Below.refl _ _))
                · go_simp
                  (try simp only [i64_w, bs_list])
                  (try rfl)
                  (try (unfold Go.RowKit.wrap64; omega))
              refine gsteps_cons ?_ ?_
              · intro a w' vs hB hel hd
                have e6 : a.tmps[6]? = some (.int .i64 (3 + (n : Int))) := (hel 6 (by kernel_rfl)).trans (by rfl)
                refine ⟨_, rfl, rfl, fun K hK => ?_⟩
                refine value_ (w1 := w') (v := .int .i64 (3 + (n : Int))) (by rfl) rfl ?_ (hK _ _ (by exact rfl) (Below.refl _ _))
                · go_simp
                  (try simp only [i64_w, bs_list])
                  (try rfl)
                  (try (unfold Go.RowKit.wrap64; omega))
              refine gsteps_cons ?_ ?_
              · intro a w' vs hB hel hd
                obtain ⟨f49, r49⟩ := hd 9 (by kernel_rfl)
                have e49 : a.tmps[49]? = some (.int .i64 (3 + (n : Int))) := f49.trans (congrArg some (r49 : vs 9 = (.int .i64 (3 + (n : Int)))))
                refine ⟨_, rfl, rfl, fun K hK => ?_⟩
                refine value_ (w1 := w') (v := .int .i64 (3 + (n : Int) + 4)) (by rfl) rfl ?_ (hK _ _ (by exact rfl) (Below.refl _ _))
                · go_simp
                  (try simp only [i64_w, bs_list])
                  (try rfl)
                  (try (unfold Go.RowKit.wrap64; omega))
              refine gsteps_cons ?_ ?_
              · intro a w' vs hB hel hd
                obtain ⟨f47, r47⟩ := hd 7 (by kernel_rfl)
                have e47 : a.tmps[47]? = some (.slice (some ad) l'.length (c - k)) := f47.trans (congrArg some (r47 : vs 7 = (.slice (some ad) l'.length (c - k))))
                obtain ⟨f48, r48⟩ := hd 8 (by kernel_rfl)
                have e48 : a.tmps[48]? = some (.int .i64 (3 + (n : Int))) := f48.trans (congrArg some (r48 : vs 8 = (.int .i64 (3 + (n : Int)))))
                obtain ⟨f50, r50⟩ := hd 10 (by kernel_rfl)
                have e50 : a.tmps[50]? = some (.int .i64 (3 + (n : Int) + 4)) := f50.trans (congrArg some (r50 : vs 10 = (.int .i64 (3 + (n : Int) + 4))))
                refine ⟨_, rfl, rfl, fun K hK => ?_⟩
                refine value_ (w1 := w') (v := .slice A4 l4.length (c - k - (3 + n))) (by rfl) rfl ?_ (hK _ _ (by exact rfl) (Below.refl _ _))
                · go_simp
                  (try simp only [i64_w, bs_list])
                  (try rfl)
                  (try (unfold Go.RowKit.wrap64; omega))
              refine gsteps_cons ?_ ?_
              · intro a w' vs hB hel hd
                obtain ⟨f46, r46⟩ := hd 6 (by kernel_rfl)
                obtain ⟨A6_, c6_, hv6_, hc6_, hC6_⟩ := (r46 : (RSl (tailB (l'.take (3 + n)))) (vs 6) w')
                have e46 : a.tmps[46]? = some (.slice A6_ (tailB (l'.take (3 + n))).length c6_) := f46.trans (congrArg some hv6_)
                obtain ⟨f51, r51⟩ := hd 11 (by kernel_rfl)
                have e51 : a.tmps[51]? = some (.slice A4 l4.length (c - k - (3 + n))) := f51.trans (congrArg some (r51 : vs 11 = (.slice A4 l4.length (c - k - (3 + n)))))
                refine ⟨_, rfl, rfl, fun K hK => ?_⟩
                refine goes_ Try.func35 (by kernel_rfl) rfl #[.slice A6_ (tailB (l'.take (3 + n))).length c6_, .slice A4 l4.length (c - k - (3 + n))] (by rfl) rfl rfl (by first | (simp only [List.map_toArray, List.map_cons, List.map_nil, Act.eval, Array.getD_eq_getD_getElem?, Option.getD_some, e46, e51]; done) | (simp only [List.map_toArray, List.map_cons, List.map_nil, Act.eval, Array.getD_eq_getD_getElem?, Option.getD_some, e46, e51]; rfl)) ?_
                refine (bequal_any A6_ A4 c6_ (c - k - (3 + n)) _ _ _ _ w' hC6_ (Kd.C_below HC4.out (by (repeat (first | exact Below.refl _ _ | apply below_alloc | apply below_drew | apply pw_below_drewN | apply below_bytesWorld | (refine below_set ?_ (by first | assumption | omega)) | refine below_step ?_ (by assumption)))))).mono ?_
                rintro e_ w2_ ⟨rfl, rfl⟩
                exact ⟨_, rfl, hK _ _ (by exact rfl) (Below.refl _ _)⟩
              refine gsteps_cons ?_ ?_
              · intro a w' vs hB hel hd
                obtain ⟨f52, r52⟩ := hd 12 (by kernel_rfl)
                have e52 : a.tmps[52]? = some (.bool (tailB (l'.take (3 + n)) == l4)) := f52.trans (congrArg some (r52 : vs 12 = (.bool (tailB (l'.take (3 + n)) == l4))))
                refine ⟨_, rfl, rfl, fun K hK => ?_⟩
                refine value_ (w1 := w') (v := .bool (!(tailB (l'.take (3 + n)) == l4))) (by rfl) rfl ?_ (hK _ _ (by exact rfl) (Below.refl _ _))
                · go_simp
                  (try simp only [i64_w, bs_list])
                  (try rfl)
                  (try (unfold Go.RowKit.wrap64; omega))
              exact gsteps_nil
            · intro vs w' hB hR
              have hv0_ : vs 0 = (.slice (some ad) l'.length (c - k)) := hR 0 (by kernel_rfl)
              have hv1_ : vs 1 = (.int .i64 (3 + (n : Int))) := hR 1 (by kernel_rfl)
              have hv2_ : vs 2 = (.int .i64 (3 + (n : Int))) := hR 2 (by kernel_rfl)
              have hv3_ : vs 3 = (.slice (some ad) (3 + n) (3 + n)) := hR 3 (by kernel_rfl)
              obtain ⟨b4_, hv4_, hb4_⟩ := (hR 4 (by kernel_rfl) : (RLit 1 #[.slice (some ad) (3 + n) (3 + n)] 22) (vs 4) w')
              have hv5_ : vs 5 = (.int .u32 (sumN [l'.take (3 + n)] : Int)) := hR 5 (by kernel_rfl)
              obtain ⟨A6_, c6_, hv6_, hc6_, hC6_⟩ := (hR 6 (by kernel_rfl) : (RSl (tailB (l'.take (3 + n)))) (vs 6) w')
              have hv7_ : vs 7 = (.slice (some ad) l'.length (c - k)) := hR 7 (by kernel_rfl)
              have hv8_ : vs 8 = (.int .i64 (3 + (n : Int))) := hR 8 (by kernel_rfl)
              have hv9_ : vs 9 = (.int .i64 (3 + (n : Int))) := hR 9 (by kernel_rfl)
              have hv10_ : vs 10 = (.int .i64 (3 + (n : Int) + 4)) := hR 10 (by kernel_rfl)
              have hv11_ : vs 11 = (.slice A4 l4.length (c - k - (3 + n))) := hR 11 (by kernel_rfl)
              have hv12_ : vs 12 = (.bool (tailB (l'.take (3 + n)) == l4)) := hR 12 (by kernel_rfl)
              have hv13_ : vs 13 = (.bool (!(tailB (l'.take (3 + n)) == l4))) := hR 13 (by kernel_rfl)
              rw [show entries [40, 41, 42, 43, 44, 45, 46, 47, 48, 49, 50, 51, 52, 53] vs = [(0, 40, vs 0), (1, 41, vs 1), (2, 42, vs 2), (3, 43, vs 3), (4, 44, vs 4), (5, 45, vs 5), (6, 46, vs 6), (7, 47, vs 7), (8, 48, vs 8), (9, 49, vs 9), (10, 50, vs 10), (11, 51, vs 11), (12, 52, vs 12), (13, 53, vs 13)] from rfl]
              simp only [putSel, if_true, Act.put, List.setIfInBounds_toArray, List.set_cons_zero, List.set_cons_succ, hv0_, hv1_, hv2_, hv3_, hv4_, hv5_, hv6_, hv7_, hv8_, hv9_, hv10_, hv11_, hv12_, hv13_]
              clear hR hv0_ hv1_ hv2_ hv3_ hv5_ hv7_ hv8_ hv9_ hv10_ hv11_ hv12_ hv13_
              have hB6 : Below wr.heap.size wr w' := by (repeat (first | exact Below.refl _ _ | apply below_alloc | apply below_drew | apply pw_below_drewN | apply below_bytesWorld | (refine below_set ?_ (by first | assumption | omega)) | refine below_step ?_ (by assumption)))
              have hfa := first_once l' (by omega) (by rw [← HNE.out]; omega) (by rw [← HNE.out]; omega)
              rw [← HNE.out, ← HL4.out, ← HXX.out] at hfa
              obtain ⟨q, hq⟩ : ∃ q, q = (tailB (l'.take (3 + n)) == l4) := ⟨_, rfl⟩
              rw [← hq] at hfa ⊢
              have HFA := Aside0.mk hfa
              clear hfa hq
              cases q with
              | false =>
                have HF := Aside0.mk (show firstB l' = none from HFA.out)
                gi_wp2
                refine bodyPost_ret (results_none rfl _ _ _) rfl ?_
                exact ⟨⟨_, rfl⟩, xs, ⟨by rw [HS.out, scanB_none HF.out, List.append_nil], by rw [HK.out, HS.out, scanB_none HF.out, List.append_nil, HE.out]⟩, hJb _ _ _ HJ.out hB6⟩
              | true =>
                have HF := Aside0.mk (show firstB l' = some x from HFA.out)
                gi_wp2
                refine ⟨trivial, (fun h => by cases h), ?_⟩
                refine (callsIn_wide.2 (bclone_any A1 (c - k - 3) x w' (Kd.C_below HC1.out hB6) hxc hx60)).mono ?_
                rintro e_ w5 ⟨v5, rfl, ho5, hb5⟩
                obtain ⟨A5, c5, rfl, hc5, hC5⟩ := ho5.reads
                clear hC5
                have hB7 : Below wr.heap.size wr w5 := below_step hB6 hb5
                have hlow : w0.heap.size ≤ w'.heap.size := Nat.le_trans hszr hB6.size
                have hszt : w0.heap.size ≤ w5.heap.size := Nat.le_trans hszr hB7.size
                have hcast : ((k + (3 + n + 4) : Nat) : Int) = (k : Int) + (3 + (n : Int) + 4) := by omega
                obtain ⟨fn, tmps, assign, body, hy, hR⟩ := hY xs (k + (3 + n + 4), .slice A5 x.length c5, x) w5 (hJb _ _ _ HJ.out hB7) (ho5.lower hlow) (by have := frs_le xs; rw [HE.out] at this; omega)
                simp only [encF, hcast] at hy
                clear ho5 hcast
                gi_wp2
                refine ⟨(fun h => by cases h), hR.mono ?_⟩
                rintro e_ W6 ⟨rfl, hJ6, hk6, hk6'⟩
                have HJ6 := Aside0.mk hJ6
                have hlast : scanB l = frs xs ++ x :: scanB (l.drop (k + (3 + n + 4))) := by
                  have hxl := HXL.out
                  rw [HS.out, scanB_some HF.out, HL'.out, List.drop_drop, show x.length + 7 = 3 + n + 4 from by omega]
                have HLAST := Aside0.mk hlast
                have hBt : W6.heap[B]? = some (.cells #[.slice A l.length c] e fz) := hk6'.trans (heap_below hB7 hBr)
                have hBW6 := Aside0.mk ((HB.out.trans (hB7.mono HB.out.size)).trans hk6)
                have hszu : w0.heap.size ≤ W6.heap.size := Nat.le_trans hszt hk6.size
                clear hJ6 hlast hk6 hk6'
                gi_wp2
                go_roundw
                case rel => exact ⟨k + (3 + n + 4), xs ++ [(k + (3 + n + 4), .slice A5 x.length c5, x)], by go_num, by have := HLL.out; omega, ⟨by rw [frs_snoc, HLAST.out, List.append_assoc]; rfl⟩, ⟨by rw [frs_snoc, endB_append, HE.out, endB_cons]; show k + (x.length + 7 + 0) = _; have := HXL.out; omega⟩, ⟨lastK_snoc _ _⟩, HJ6, hBW6, hszu, hBt⟩
                case measure => simp [intOf]; try omega
    · have h7' : l'.length < 7 := by have := HLI.out; omega
      have hf : firstB l' = none := by unfold firstB; rw [if_pos h7']
      have HF := Aside0.mk hf
      clear hf h7'
      gi_wp2
      go_end0
      exact ⟨⟨_, rfl⟩, xs, ⟨by rw [HS.out, scanB_none HF.out, List.append_nil], by rw [HK.out, HS.out, scanB_none HF.out, List.append_nil, HE.out]⟩, HJ.out⟩

end Go.Proofs.Ytbbhjceelghadaa.My
