/- Parts of the proof, one behind the other: RefE, ReadS, Region, RegCS, ReadF, ReadE, ReadR, CodeT, K42, CodeD, Came, CameR, K87. -/
import Derived.Test.YtgfkgppomaapiaaGreatDoorQWalDoes4
import Derived.Deep.WholeRow
import Derived.Laws.Tables
import Derived.Recover
import Derived.Defers
import Derived.Laws.ResultCell
import Derived.Deep.Slices
import Derived.ChangeSame
set_option linter.unusedVariables false
set_option linter.unusedSimpArgs false
section
namespace Go.Proofs.YtgfkgppomaapiaaGreatDoor.K
open RowKit YtgfkgppomaapiaaGreatDoorW.PrintWords YtgfkgppomaapiaaGreatDoorW.PrintLast YtgfkgppomaapiaaGreatDoorW.PrintMore My
theorem lM {w1 w2:World} {B:Nat} {o:Obj} (hk:Kept w1 w2 (fun k=>B<k)) (hx:w1.heap[B]? = some o):w2.heap[B]? = some o:=(hk.2 B (jH hx) (Nat.lt_irrefl B)).trans hx
theorem PT (w:World) (base:Nat) (x:Int) (B:Nat) (hb:base≤w.heap.size) (hB:B<w.heap.size):Kd.R (Kd.int .u8) 5 (w.alloc (.cells #[.int .u8 x] 5)) base (fun k=>B<k) (.slice (some ⟨w.heap.size,0,none⟩) 1 1) [x]:=by
 refine Kd.R_of_own (enc:=Value.int .u8) (h1:=fun _=>rfl) ⟨rfl,.inr ⟨w.heap.size,1,#[.int .u8 x],rfl,hb,iP rfl,Nat.le_refl _,by unfold maxLen;omega,rfl,rfl⟩⟩ ?_
 intro k hk
 have:w.heap.size=k:=by simpa [Value.ownBlock] using hk
 omega
def qK (w:World) (r:List Int × Int) (e:Ending) (w':World):Prop:=∃ v0_:Value,e=.returned (.tuple #[v0_,.int .i64 r.2])∧Kd.R (Kd.int .u8) 5 w' w.heap.size (fun _=>True) v0_ r.1∧Below w.heap.size w w'
section
variable (a1 a2:Int) (A3:Option Addr) (c3:Nat) (l3:List Int) (A4:Option Addr) (c4:Nat) (l4:List jQ) (a5:Int) (A6:Option Addr) (c6:Nat) (l6:List kC) (a7 a8:Int) (A9:Option Addr) (c9:Nat) (l9:List jJ) (w:World)
  (h3:Kd.C (Kd.int .i64) w A3 l3.length l3) (d3:l3.length≤c3) (h4:Kd.C k149 w A4 l4.length l4) (d4:l4.length≤c4) (h6:Kd.C k122 w A6 l6.length l6) (d6:l6.length≤c6) (h9:Kd.C k114 w A9 l9.length l9) (d9:l9.length≤c9)
include h3 d3 h4 d4 h6 d6 h9 d9
set_option maxHeartbeats 8000000 in
set_option maxRecDepth 20000 in
theorem WV (hs:jR ⟨1,a1,a2,l3,l4,⟨a5,l6⟩,a7,a8,l9⟩=true):Calls Tryz.prog 44 #[.agg #[.int .u8 1,.int .u32 a1,.int .u32 a2,.slice A3 l3.length c3,.slice A4 l4.length c4,.int .u32 a5,.slice A6 l6.length c6,.int .i64 a7,.int .i64 a8,.slice A9 l9.length c9]] w (qK w (encR ⟨1,a1,a2,l3,l4,⟨a5,l6⟩,a7,a8,l9⟩)):=by
 have H3:=iC.mk h3;have H4:=iC.mk h4;have H6:=iC.mk h6;have H9:=iC.mk h9
 have hbw:Below w.heap.size w (w.alloc (.cells #[.int .u8 1,.int .u32 a1,.int .u32 a2,.slice A3 l3.length c3,.slice A4 l4.length c4,.int .u32 a5,.slice A6 l6.length c6,.int .i64 a7,.int .i64 a8,.slice A9 l9.length c9] 54)):=iD (Below.refl _ _) _
 have hsnd:=nH 1 a1 a2 A3 c3 l3 A4 c4 l4 a5 A6 c6 l6 a7 a8 A9 c9 l9 (w.alloc (.cells #[.int .u8 1,.int .u32 a1,.int .u32 a2,.slice A3 l3.length c3,.slice A4 l4.length c4,.int .u32 a5,.slice A6 l6.length c6,.int .i64 a7,.int .i64 a8,.slice A9 l9.length c9] 54)) (Kd.C_below h3 hbw) d3 (Kd.C_below h4 hbw) d4 (Kd.C_below h6 hbw) d6 (Kd.C_below h9 hbw) d9
 rw [hs] at hsnd
 have HS:=iC.mk hs
 have q3:l3.length≤6∧(kP l4).length≤5004:=by
  have h:=HS.out
  rw [WF,Bool.and_eq_true,Bool.and_eq_true] at h
  exact ⟨rC _ h.1.1,xY _ h.1.2⟩
 unfold encR
 rw [if_pos HS.out]
 obtain ⟨X,hX⟩:∃ X:List UInt8,X=recE ⟨1,a1,a2,l3,l4,⟨a5,l6⟩,a7,a8,l9⟩:=⟨_,rfl⟩
 rw [← hX]
 have HXX:=iC.mk hX
 obtain ⟨r,hr⟩:∃ r:List Int × Int,r=(if 60000<X.length then ([],3) else (nums X,0)):=⟨_,rfl⟩
 rw [← hr]
 have HRR:=iC.mk hr
 clear hr hs hX hbw h3 h4 h6 h9
 go_enter Tryz.func44,Tryz.ntmps44
 go_wp2_with fail
 go_at_call 71
 (with_reducible refine hsnd.mono ?_)
 clear hsnd
 rintro e w0 ⟨rfl,hb1⟩
 have hB0:Below w.heap.size w w0:=iH (iD (Below.refl _ _) _) hb1
 have hX0:w0.heap[w.heap.size]? = some (.cells #[.int .u8 1,.int .u32 a1,.int .u32 a2,.slice A3 l3.length c3,.slice A4 l4.length c4,.int .u32 a5,.slice A6 l6.length c6,.int .i64 a7,.int .i64 a8,.slice A9 l9.length c9] 54 (0,0)):=iI hb1 (iP rfl)
 obtain ⟨z0,z1,z2,z3,z4,z5,z6,z7,z8,z9,y0,y1,y2,y3,y4,y5,y6,y7,y8,y9⟩:=ten hX0
 have HO:=iC.mk (PT w0 w.heap.size 1 w.heap.size hB0.size (jH hX0))
 have HB:=iC.mk (iD hB0 (.cells #[.int .u8 1] 5))
 have HX:=iC.mk (jI (o:=.cells #[.int .u8 1] 5) hX0)
 have HW1:=iC.mk (show w0.alloc (.cells #[.int .u8 1] 5)=w0.alloc (.cells #[.int .u8 1] 5) from rfl)
 clear hb1 hB0 hX0
 go_upto_region 4 with fail
 clear z0 z1 z2 z3 z4 z5 z6 z7 z8 z9 y0 y1 y2 y3 y4 y5 y6 y7 y8 y9
 obtain ⟨w1,hw1⟩:∃ x,x=w0.alloc (.cells #[.int .u8 1] 5):=⟨_,rfl⟩
 rw [← hw1] at HO HB HX ⊢
 clear HW1
 have HW1:=iC.mk hw1
 clear hw1
 obtain ⟨L1,hL⟩:∃ l,l=[(1:Int)]:=⟨_,rfl⟩
 have hn1:L1.length≤1:=by rw [hL];simp
 rw [← hL] at HO
 have HL1:=iC.mk hL
 clear hL
 obtain ⟨z0,z1,z2,z3,z4,z5,z6,z7,z8,z9,y0,y1,y2,y3,y4,y5,y6,y7,y8,y9⟩:=ten HX.out
 have hcall:=lU (fun k=>w.heap.size<k) (.slice (some ⟨w0.heap.size,0,none⟩) 1 1) L1 (a1) (IntKind.u64.wrap a1) 4 4 w w1 (by first | rfl | (rw [wrap_u64];omega)) rfl (by omega) (by omega) HB.out HO.out
 go_wp2_with fail
 go_at_call 72
 (with_reducible refine hcall.mono ?_)
 clear hcall z0 z1 z2 z3 z4 z5 z6 z7 z8 z9 y0 y1 y2 y3 y4 y5 y6 y7 y8 y9
 rintro e w2 ⟨v2,rfl,ho,hb,hk⟩
 have HO':=iC.mk (Kd.R_mono (ok':=fun k=>w.heap.size<k) ho (fun k h=>h.elim id (fun h=>Nat.lt_of_lt_of_le (jH HX.out) h)))
 have HX':=iC.mk (lM hk HX.out)
 have HB':=iC.mk hb
 clear ho hb hk HO HX HB
 obtain ⟨HO,HX,HB⟩:_∧_∧_:=⟨HO',HX',HB'⟩
 clear HO' HX' HB'
 obtain ⟨Ao,co,rfl⟩:=Kd.R_slice HO.out
 obtain ⟨L2,hL⟩:∃ l,l=L1 ++ nums (layB a1 4):=⟨_,rfl⟩
 have hn2:L2.length≤5:=by rw [hL];simp only [List.length_append,jM,iM];omega
 rw [← hL] at HO ⊢
 have HL2:=iC.mk hL
 clear hL hn1
 obtain ⟨z0,z1,z2,z3,z4,z5,z6,z7,z8,z9,y0,y1,y2,y3,y4,y5,y6,y7,y8,y9⟩:=ten HX.out
 have hcall:=JC (fun k=>w.heap.size<k) _ L2 A3 c3 l3 w w2 (by rw [jB];omega) HB.out HO.out (Kd.C_kept_came (Kd.heap_int .i64) H3.out HB.out (fun k h=>Nat.le_of_lt h)) d3
 go_wp2_with fail
 go_at_call 73
 (with_reducible refine hcall.mono ?_)
 clear hcall z0 z1 z2 z3 z4 z5 z6 z7 z8 z9 y0 y1 y2 y3 y4 y5 y6 y7 y8 y9
 rintro e w3 ⟨v3,rfl,ho,hb,hk⟩
 have HO':=iC.mk (Kd.R_mono (ok':=fun k=>w.heap.size<k) ho (fun k h=>h.elim id (fun h=>Nat.lt_of_lt_of_le (jH HX.out) h)))
 have HX':=iC.mk (lM hk HX.out)
 have HB':=iC.mk hb
 clear ho hb hk HO HX HB
 obtain ⟨HO,HX,HB⟩:_∧_∧_:=⟨HO',HX',HB'⟩
 clear HO' HX' HB'
 obtain ⟨Ao,co,rfl⟩:=Kd.R_slice HO.out
 obtain ⟨L3,hL⟩:∃ l,l=L2 ++ nums (nJ l3):=⟨_,rfl⟩
 have hn3:L3.length≤12:=by rw [hL];simp only [List.length_append,jM,iM,jB];omega
 rw [← hL] at HO ⊢
 have HL3:=iC.mk hL
 clear hL hn2
 obtain ⟨z0,z1,z2,z3,z4,z5,z6,z7,z8,z9,y0,y1,y2,y3,y4,y5,y6,y7,y8,y9⟩:=ten HX.out
 have hcall:=JI (fun k=>w.heap.size<k) _ L3 A4 c4 l4 w w3 (by omega) HB.out HO.out (Kd.C_kept_came uJ H4.out HB.out (fun k h=>Nat.le_of_lt h)) d4
 go_wp2_with fail
 go_at_call 74
 (with_reducible refine hcall.mono ?_)
 clear hcall z0 z1 z2 z3 z4 z5 z6 z7 z8 z9 y0 y1 y2 y3 y4 y5 y6 y7 y8 y9
 rintro e w4 ⟨v4,rfl,ho,hb,hk⟩
 have HO':=iC.mk (Kd.R_mono (ok':=fun k=>w.heap.size<k) ho (fun k h=>h.elim id (fun h=>Nat.lt_of_lt_of_le (jH HX.out) h)))
 have HX':=iC.mk (lM hk HX.out)
 have HB':=iC.mk hb
 clear ho hb hk HO HX HB
 obtain ⟨HO,HX,HB⟩:_∧_∧_:=⟨HO',HX',HB'⟩
 clear HO' HX' HB'
 obtain ⟨Ao,co,rfl⟩:=Kd.R_slice HO.out
 obtain ⟨L4,hL⟩:∃ l,l=L3 ++ nums (kP l4):=⟨_,rfl⟩
 have hn4:L4.length≤5016:=by rw [hL];simp only [List.length_append,jM,iM];omega
 rw [← hL] at HO ⊢
 have HL4:=iC.mk hL
 clear hL hn3
 obtain ⟨z0,z1,z2,z3,z4,z5,z6,z7,z8,z9,y0,y1,y2,y3,y4,y5,y6,y7,y8,y9⟩:=ten HX.out
 have HLX:=iC.mk (show L4=nums X from by rw [HL4.out,HL3.out,HL2.out,HL1.out,HXX.out,jh_];simp only [List.nil_append,nums_append];rfl)
 by_cases hq:(60000:Int)<(L4.length:Int)
 ·have HP:iC (r=([],3)):=⟨by rw [HRR.out,if_pos (by rw [HLX.out,jM] at hq;omega)]⟩
  go_wp2_with fail
  go_ret2
  rw [HP.out]
  exact ⟨_,rfl,Kd.R_nil _ _ _ _ _,HB.out⟩
 ·have HP:iC (r=(nums X,0)):=⟨by rw [HRR.out,if_neg (by rw [HLX.out,jM] at hq;omega)]⟩
  go_wp2_with fail
  go_ret2
  rw [HP.out]
  exact ⟨_,rfl,by rw [← HLX.out];exact Kd.R_mono HO.out (fun _ _=>trivial),HB.out⟩
set_option maxHeartbeats 8000000 in
set_option maxRecDepth 20000 in
theorem Y7 (hs:jR ⟨2,a1,a2,l3,l4,⟨a5,l6⟩,a7,a8,l9⟩=true):Calls Tryz.prog 44 #[.agg #[.int .u8 2,.int .u32 a1,.int .u32 a2,.slice A3 l3.length c3,.slice A4 l4.length c4,.int .u32 a5,.slice A6 l6.length c6,.int .i64 a7,.int .i64 a8,.slice A9 l9.length c9]] w (qK w (encR ⟨2,a1,a2,l3,l4,⟨a5,l6⟩,a7,a8,l9⟩)):=by
 have H3:=iC.mk h3;have H4:=iC.mk h4;have H6:=iC.mk h6;have H9:=iC.mk h9
 have hbw:Below w.heap.size w (w.alloc (.cells #[.int .u8 2,.int .u32 a1,.int .u32 a2,.slice A3 l3.length c3,.slice A4 l4.length c4,.int .u32 a5,.slice A6 l6.length c6,.int .i64 a7,.int .i64 a8,.slice A9 l9.length c9] 54)):=iD (Below.refl _ _) _
 have hsnd:=nH 2 a1 a2 A3 c3 l3 A4 c4 l4 a5 A6 c6 l6 a7 a8 A9 c9 l9 (w.alloc (.cells #[.int .u8 2,.int .u32 a1,.int .u32 a2,.slice A3 l3.length c3,.slice A4 l4.length c4,.int .u32 a5,.slice A6 l6.length c6,.int .i64 a7,.int .i64 a8,.slice A9 l9.length c9] 54)) (Kd.C_below h3 hbw) d3 (Kd.C_below h4 hbw) d4 (Kd.C_below h6 hbw) d6 (Kd.C_below h9 hbw) d9
 rw [hs] at hsnd
 have HS:=iC.mk hs
 have q3:l3.length≤6:=by
  have h:=HS.out
  rw [XE,Bool.and_eq_true] at h
  exact rC _ h.1
 unfold encR
 rw [if_pos HS.out]
 obtain ⟨X,hX⟩:∃ X:List UInt8,X=recE ⟨2,a1,a2,l3,l4,⟨a5,l6⟩,a7,a8,l9⟩:=⟨_,rfl⟩
 rw [← hX]
 have HXX:=iC.mk hX
 obtain ⟨r,hr⟩:∃ r:List Int × Int,r=(if 60000<X.length then ([],3) else (nums X,0)):=⟨_,rfl⟩
 rw [← hr]
 have HRR:=iC.mk hr
 clear hr hs hX hbw h3 h4 h6 h9
 go_enter Tryz.func44,Tryz.ntmps44
 go_wp2_with fail
 go_at_call 71
 (with_reducible refine hsnd.mono ?_)
 clear hsnd
 rintro e w0 ⟨rfl,hb1⟩
 have hB0:Below w.heap.size w w0:=iH (iD (Below.refl _ _) _) hb1
 have hX0:w0.heap[w.heap.size]? = some (.cells #[.int .u8 2,.int .u32 a1,.int .u32 a2,.slice A3 l3.length c3,.slice A4 l4.length c4,.int .u32 a5,.slice A6 l6.length c6,.int .i64 a7,.int .i64 a8,.slice A9 l9.length c9] 54 (0,0)):=iI hb1 (iP rfl)
 obtain ⟨z0,z1,z2,z3,z4,z5,z6,z7,z8,z9,y0,y1,y2,y3,y4,y5,y6,y7,y8,y9⟩:=ten hX0
 have HO:=iC.mk (PT w0 w.heap.size 2 w.heap.size hB0.size (jH hX0))
 have HB:=iC.mk (iD hB0 (.cells #[.int .u8 2] 5))
 have HX:=iC.mk (jI (o:=.cells #[.int .u8 2] 5) hX0)
 have HW1:=iC.mk (show w0.alloc (.cells #[.int .u8 2] 5)=w0.alloc (.cells #[.int .u8 2] 5) from rfl)
 clear hb1 hB0 hX0
 go_upto_region 4 with fail
 clear z0 z1 z2 z3 z4 z5 z6 z7 z8 z9 y0 y1 y2 y3 y4 y5 y6 y7 y8 y9
 obtain ⟨w1,hw1⟩:∃ x,x=w0.alloc (.cells #[.int .u8 2] 5):=⟨_,rfl⟩
 rw [← hw1] at HO HB HX ⊢
 clear HW1
 have HW1:=iC.mk hw1
 clear hw1
 obtain ⟨L1,hL⟩:∃ l,l=[(2:Int)]:=⟨_,rfl⟩
 have hn1:L1.length≤1:=by rw [hL];simp
 rw [← hL] at HO
 have HL1:=iC.mk hL
 clear hL
 obtain ⟨z0,z1,z2,z3,z4,z5,z6,z7,z8,z9,y0,y1,y2,y3,y4,y5,y6,y7,y8,y9⟩:=ten HX.out
 have hcall:=lU (fun k=>w.heap.size<k) (.slice (some ⟨w0.heap.size,0,none⟩) 1 1) L1 (a1) (IntKind.u64.wrap a1) 4 4 w w1 (by first | rfl | (rw [wrap_u64];omega)) rfl (by omega) (by omega) HB.out HO.out
 go_wp2_with fail
 go_at_call 72
 (with_reducible refine hcall.mono ?_)
 clear hcall z0 z1 z2 z3 z4 z5 z6 z7 z8 z9 y0 y1 y2 y3 y4 y5 y6 y7 y8 y9
 rintro e w2 ⟨v2,rfl,ho,hb,hk⟩
 have HO':=iC.mk (Kd.R_mono (ok':=fun k=>w.heap.size<k) ho (fun k h=>h.elim id (fun h=>Nat.lt_of_lt_of_le (jH HX.out) h)))
 have HX':=iC.mk (lM hk HX.out)
 have HB':=iC.mk hb
 clear ho hb hk HO HX HB
 obtain ⟨HO,HX,HB⟩:_∧_∧_:=⟨HO',HX',HB'⟩
 clear HO' HX' HB'
 obtain ⟨Ao,co,rfl⟩:=Kd.R_slice HO.out
 obtain ⟨L2,hL⟩:∃ l,l=L1 ++ nums (layB a1 4):=⟨_,rfl⟩
 have hn2:L2.length≤5:=by rw [hL];simp only [List.length_append,jM,iM];omega
 rw [← hL] at HO ⊢
 have HL2:=iC.mk hL
 clear hL hn1
 obtain ⟨z0,z1,z2,z3,z4,z5,z6,z7,z8,z9,y0,y1,y2,y3,y4,y5,y6,y7,y8,y9⟩:=ten HX.out
 have hcall:=lU (fun k=>w.heap.size<k) _ L2 (a2) (IntKind.u64.wrap a2) 4 4 w w2 (by first | rfl | (rw [wrap_u64];omega)) rfl (by omega) (by omega) HB.out HO.out
 go_wp2_with fail
 go_at_call 72
 (with_reducible refine hcall.mono ?_)
 clear hcall z0 z1 z2 z3 z4 z5 z6 z7 z8 z9 y0 y1 y2 y3 y4 y5 y6 y7 y8 y9
 rintro e w3 ⟨v3,rfl,ho,hb,hk⟩
 have HO':=iC.mk (Kd.R_mono (ok':=fun k=>w.heap.size<k) ho (fun k h=>h.elim id (fun h=>Nat.lt_of_lt_of_le (jH HX.out) h)))
 have HX':=iC.mk (lM hk HX.out)
 have HB':=iC.mk hb
 clear ho hb hk HO HX HB
 obtain ⟨HO,HX,HB⟩:_∧_∧_:=⟨HO',HX',HB'⟩
 clear HO' HX' HB'
 obtain ⟨Ao,co,rfl⟩:=Kd.R_slice HO.out
 obtain ⟨L3,hL⟩:∃ l,l=L2 ++ nums (layB a2 4):=⟨_,rfl⟩
 have hn3:L3.length≤9:=by rw [hL];simp only [List.length_append,jM,iM];omega
 rw [← hL] at HO ⊢
 have HL3:=iC.mk hL
 clear hL hn2
 obtain ⟨z0,z1,z2,z3,z4,z5,z6,z7,z8,z9,y0,y1,y2,y3,y4,y5,y6,y7,y8,y9⟩:=ten HX.out
 have hcall:=JC (fun k=>w.heap.size<k) _ L3 A3 c3 l3 w w3 (by rw [jB];omega) HB.out HO.out (Kd.C_kept_came (Kd.heap_int .i64) H3.out HB.out (fun k h=>Nat.le_of_lt h)) d3
 go_wp2_with fail
 go_at_call 73
 (with_reducible refine hcall.mono ?_)
 clear hcall z0 z1 z2 z3 z4 z5 z6 z7 z8 z9 y0 y1 y2 y3 y4 y5 y6 y7 y8 y9
 rintro e w4 ⟨v4,rfl,ho,hb,hk⟩
 have HO':=iC.mk (Kd.R_mono (ok':=fun k=>w.heap.size<k) ho (fun k h=>h.elim id (fun h=>Nat.lt_of_lt_of_le (jH HX.out) h)))
 have HX':=iC.mk (lM hk HX.out)
 have HB':=iC.mk hb
 clear ho hb hk HO HX HB
 obtain ⟨HO,HX,HB⟩:_∧_∧_:=⟨HO',HX',HB'⟩
 clear HO' HX' HB'
 obtain ⟨Ao,co,rfl⟩:=Kd.R_slice HO.out
 obtain ⟨L4,hL⟩:∃ l,l=L3 ++ nums (nJ l3):=⟨_,rfl⟩
 have hn4:L4.length≤16:=by rw [hL];simp only [List.length_append,jM,iM,jB];omega
 rw [← hL] at HO ⊢
 have HL4:=iC.mk hL
 clear hL hn3
 obtain ⟨z0,z1,z2,z3,z4,z5,z6,z7,z8,z9,y0,y1,y2,y3,y4,y5,y6,y7,y8,y9⟩:=ten HX.out
 have HLX:=iC.mk (show L4=nums X from by rw [HL4.out,HL3.out,HL2.out,HL1.out,HXX.out,ji9];simp only [List.nil_append,nums_append];rfl)
 by_cases hq:(60000:Int)<(L4.length:Int)
 ·have HP:iC (r=([],3)):=⟨by rw [HRR.out,if_pos (by rw [HLX.out,jM] at hq;omega)]⟩
  go_wp2_with fail
  go_ret2
  rw [HP.out]
  exact ⟨_,rfl,Kd.R_nil _ _ _ _ _,HB.out⟩
 ·have HP:iC (r=(nums X,0)):=⟨by rw [HRR.out,if_neg (by rw [HLX.out,jM] at hq;omega)]⟩
  go_wp2_with fail
  go_ret2
  rw [HP.out]
  exact ⟨_,rfl,by rw [← HLX.out];exact Kd.R_mono HO.out (fun _ _=>trivial),HB.out⟩
set_option maxHeartbeats 8000000 in
set_option maxRecDepth 20000 in
theorem VZ (hs:jR ⟨3,a1,a2,l3,l4,⟨a5,l6⟩,a7,a8,l9⟩=true):Calls Tryz.prog 44 #[.agg #[.int .u8 3,.int .u32 a1,.int .u32 a2,.slice A3 l3.length c3,.slice A4 l4.length c4,.int .u32 a5,.slice A6 l6.length c6,.int .i64 a7,.int .i64 a8,.slice A9 l9.length c9]] w (qK w (encR ⟨3,a1,a2,l3,l4,⟨a5,l6⟩,a7,a8,l9⟩)):=by
 have H3:=iC.mk h3;have H4:=iC.mk h4;have H6:=iC.mk h6;have H9:=iC.mk h9
 have hbw:Below w.heap.size w (w.alloc (.cells #[.int .u8 3,.int .u32 a1,.int .u32 a2,.slice A3 l3.length c3,.slice A4 l4.length c4,.int .u32 a5,.slice A6 l6.length c6,.int .i64 a7,.int .i64 a8,.slice A9 l9.length c9] 54)):=iD (Below.refl _ _) _
 have hsnd:=nH 3 a1 a2 A3 c3 l3 A4 c4 l4 a5 A6 c6 l6 a7 a8 A9 c9 l9 (w.alloc (.cells #[.int .u8 3,.int .u32 a1,.int .u32 a2,.slice A3 l3.length c3,.slice A4 l4.length c4,.int .u32 a5,.slice A6 l6.length c6,.int .i64 a7,.int .i64 a8,.slice A9 l9.length c9] 54)) (Kd.C_below h3 hbw) d3 (Kd.C_below h4 hbw) d4 (Kd.C_below h6 hbw) d6 (Kd.C_below h9 hbw) d9
 rw [hs] at hsnd
 have HS:=iC.mk hs
 unfold encR
 rw [if_pos HS.out]
 obtain ⟨X,hX⟩:∃ X:List UInt8,X=recE ⟨3,a1,a2,l3,l4,⟨a5,l6⟩,a7,a8,l9⟩:=⟨_,rfl⟩
 rw [← hX]
 have HXX:=iC.mk hX
 obtain ⟨r,hr⟩:∃ r:List Int × Int,r=(if 60000<X.length then ([],3) else (nums X,0)):=⟨_,rfl⟩
 rw [← hr]
 have HRR:=iC.mk hr
 clear hr hs hX hbw h3 h4 h6 h9
 go_enter Tryz.func44,Tryz.ntmps44
 go_wp2_with fail
 go_at_call 71
 (with_reducible refine hsnd.mono ?_)
 clear hsnd
 rintro e w0 ⟨rfl,hb1⟩
 have hB0:Below w.heap.size w w0:=iH (iD (Below.refl _ _) _) hb1
 have hX0:w0.heap[w.heap.size]? = some (.cells #[.int .u8 3,.int .u32 a1,.int .u32 a2,.slice A3 l3.length c3,.slice A4 l4.length c4,.int .u32 a5,.slice A6 l6.length c6,.int .i64 a7,.int .i64 a8,.slice A9 l9.length c9] 54 (0,0)):=iI hb1 (iP rfl)
 obtain ⟨z0,z1,z2,z3,z4,z5,z6,z7,z8,z9,y0,y1,y2,y3,y4,y5,y6,y7,y8,y9⟩:=ten hX0
 have HO:=iC.mk (PT w0 w.heap.size 3 w.heap.size hB0.size (jH hX0))
 have HB:=iC.mk (iD hB0 (.cells #[.int .u8 3] 5))
 have HX:=iC.mk (jI (o:=.cells #[.int .u8 3] 5) hX0)
 have HW1:=iC.mk (show w0.alloc (.cells #[.int .u8 3] 5)=w0.alloc (.cells #[.int .u8 3] 5) from rfl)
 clear hb1 hB0 hX0
 go_upto_region 4 with fail
 clear z0 z1 z2 z3 z4 z5 z6 z7 z8 z9 y0 y1 y2 y3 y4 y5 y6 y7 y8 y9
 obtain ⟨w1,hw1⟩:∃ x,x=w0.alloc (.cells #[.int .u8 3] 5):=⟨_,rfl⟩
 rw [← hw1] at HO HB HX ⊢
 clear HW1
 have HW1:=iC.mk hw1
 clear hw1
 obtain ⟨L1,hL⟩:∃ l,l=[(3:Int)]:=⟨_,rfl⟩
 have hn1:L1.length≤1:=by rw [hL];simp
 rw [← hL] at HO
 have HL1:=iC.mk hL
 clear hL
 obtain ⟨z0,z1,z2,z3,z4,z5,z6,z7,z8,z9,y0,y1,y2,y3,y4,y5,y6,y7,y8,y9⟩:=ten HX.out
 have hcall:=lU (fun k=>w.heap.size<k) (.slice (some ⟨w0.heap.size,0,none⟩) 1 1) L1 (a1) (IntKind.u64.wrap a1) 4 4 w w1 (by first | rfl | (rw [wrap_u64];omega)) rfl (by omega) (by omega) HB.out HO.out
 go_wp2_with fail
 go_at_call 72
 (with_reducible refine hcall.mono ?_)
 clear hcall z0 z1 z2 z3 z4 z5 z6 z7 z8 z9 y0 y1 y2 y3 y4 y5 y6 y7 y8 y9
 rintro e w2 ⟨v2,rfl,ho,hb,hk⟩
 have HO':=iC.mk (Kd.R_mono (ok':=fun k=>w.heap.size<k) ho (fun k h=>h.elim id (fun h=>Nat.lt_of_lt_of_le (jH HX.out) h)))
 have HX':=iC.mk (lM hk HX.out)
 have HB':=iC.mk hb
 clear ho hb hk HO HX HB
 obtain ⟨HO,HX,HB⟩:_∧_∧_:=⟨HO',HX',HB'⟩
 clear HO' HX' HB'
 obtain ⟨Ao,co,rfl⟩:=Kd.R_slice HO.out
 obtain ⟨L2,hL⟩:∃ l,l=L1 ++ nums (layB a1 4):=⟨_,rfl⟩
 have hn2:L2.length≤5:=by rw [hL];simp only [List.length_append,jM,iM];omega
 rw [← hL] at HO ⊢
 have HL2:=iC.mk hL
 clear hL hn1
 obtain ⟨z0,z1,z2,z3,z4,z5,z6,z7,z8,z9,y0,y1,y2,y3,y4,y5,y6,y7,y8,y9⟩:=ten HX.out
 have HLX:=iC.mk (show L2=nums X from by rw [HL2.out,HL1.out,HXX.out,jf7];simp only [List.nil_append,nums_append];rfl)
 have HP:iC (r=(nums X,0)):=⟨by rw [HRR.out,if_neg (by have h:=congrArg List.length HLX.out;rw [jM] at h;omega)]⟩
 go_wp2_with fail
 go_ret2
 rw [HP.out]
 exact ⟨_,rfl,by rw [← HLX.out];exact Kd.R_mono HO.out (fun _ _=>trivial),HB.out⟩
set_option maxHeartbeats 8000000 in
set_option maxRecDepth 20000 in
theorem ZH (hs:jR ⟨4,a1,a2,l3,l4,⟨a5,l6⟩,a7,a8,l9⟩=true):Calls Tryz.prog 44 #[.agg #[.int .u8 4,.int .u32 a1,.int .u32 a2,.slice A3 l3.length c3,.slice A4 l4.length c4,.int .u32 a5,.slice A6 l6.length c6,.int .i64 a7,.int .i64 a8,.slice A9 l9.length c9]] w (qK w (encR ⟨4,a1,a2,l3,l4,⟨a5,l6⟩,a7,a8,l9⟩)):=by
 have H3:=iC.mk h3;have H4:=iC.mk h4;have H6:=iC.mk h6;have H9:=iC.mk h9
 have hbw:Below w.heap.size w (w.alloc (.cells #[.int .u8 4,.int .u32 a1,.int .u32 a2,.slice A3 l3.length c3,.slice A4 l4.length c4,.int .u32 a5,.slice A6 l6.length c6,.int .i64 a7,.int .i64 a8,.slice A9 l9.length c9] 54)):=iD (Below.refl _ _) _
 have hsnd:=nH 4 a1 a2 A3 c3 l3 A4 c4 l4 a5 A6 c6 l6 a7 a8 A9 c9 l9 (w.alloc (.cells #[.int .u8 4,.int .u32 a1,.int .u32 a2,.slice A3 l3.length c3,.slice A4 l4.length c4,.int .u32 a5,.slice A6 l6.length c6,.int .i64 a7,.int .i64 a8,.slice A9 l9.length c9] 54)) (Kd.C_below h3 hbw) d3 (Kd.C_below h4 hbw) d4 (Kd.C_below h6 hbw) d6 (Kd.C_below h9 hbw) d9
 rw [hs] at hsnd
 have HS:=iC.mk hs
 unfold encR
 rw [if_pos HS.out]
 obtain ⟨X,hX⟩:∃ X:List UInt8,X=recE ⟨4,a1,a2,l3,l4,⟨a5,l6⟩,a7,a8,l9⟩:=⟨_,rfl⟩
 rw [← hX]
 have HXX:=iC.mk hX
 obtain ⟨r,hr⟩:∃ r:List Int × Int,r=(if 60000<X.length then ([],3) else (nums X,0)):=⟨_,rfl⟩
 rw [← hr]
 have HRR:=iC.mk hr
 clear hr hs hX hbw h3 h4 h6 h9
 go_enter Tryz.func44,Tryz.ntmps44
 go_wp2_with fail
 go_at_call 71
 (with_reducible refine hsnd.mono ?_)
 clear hsnd
 rintro e w0 ⟨rfl,hb1⟩
 have hB0:Below w.heap.size w w0:=iH (iD (Below.refl _ _) _) hb1
 have hX0:w0.heap[w.heap.size]? = some (.cells #[.int .u8 4,.int .u32 a1,.int .u32 a2,.slice A3 l3.length c3,.slice A4 l4.length c4,.int .u32 a5,.slice A6 l6.length c6,.int .i64 a7,.int .i64 a8,.slice A9 l9.length c9] 54 (0,0)):=iI hb1 (iP rfl)
 obtain ⟨z0,z1,z2,z3,z4,z5,z6,z7,z8,z9,y0,y1,y2,y3,y4,y5,y6,y7,y8,y9⟩:=ten hX0
 have HO:=iC.mk (PT w0 w.heap.size 4 w.heap.size hB0.size (jH hX0))
 have HB:=iC.mk (iD hB0 (.cells #[.int .u8 4] 5))
 have HX:=iC.mk (jI (o:=.cells #[.int .u8 4] 5) hX0)
 have HW1:=iC.mk (show w0.alloc (.cells #[.int .u8 4] 5)=w0.alloc (.cells #[.int .u8 4] 5) from rfl)
 clear hb1 hB0 hX0
 go_upto_region 4 with fail
 clear z0 z1 z2 z3 z4 z5 z6 z7 z8 z9 y0 y1 y2 y3 y4 y5 y6 y7 y8 y9
 obtain ⟨w1,hw1⟩:∃ x,x=w0.alloc (.cells #[.int .u8 4] 5):=⟨_,rfl⟩
 rw [← hw1] at HO HB HX ⊢
 clear HW1
 have HW1:=iC.mk hw1
 clear hw1
 obtain ⟨L1,hL⟩:∃ l,l=[(4:Int)]:=⟨_,rfl⟩
 have hn1:L1.length≤1:=by rw [hL];simp
 rw [← hL] at HO
 have HL1:=iC.mk hL
 clear hL
 obtain ⟨z0,z1,z2,z3,z4,z5,z6,z7,z8,z9,y0,y1,y2,y3,y4,y5,y6,y7,y8,y9⟩:=ten HX.out
 have hcall:=lU (fun k=>w.heap.size<k) (.slice (some ⟨w0.heap.size,0,none⟩) 1 1) L1 (a1) (IntKind.u64.wrap a1) 4 4 w w1 (by first | rfl | (rw [wrap_u64];omega)) rfl (by omega) (by omega) HB.out HO.out
 go_wp2_with fail
 go_at_call 72
 (with_reducible refine hcall.mono ?_)
 clear hcall z0 z1 z2 z3 z4 z5 z6 z7 z8 z9 y0 y1 y2 y3 y4 y5 y6 y7 y8 y9
 rintro e w2 ⟨v2,rfl,ho,hb,hk⟩
 have HO':=iC.mk (Kd.R_mono (ok':=fun k=>w.heap.size<k) ho (fun k h=>h.elim id (fun h=>Nat.lt_of_lt_of_le (jH HX.out) h)))
 have HX':=iC.mk (lM hk HX.out)
 have HB':=iC.mk hb
 clear ho hb hk HO HX HB
 obtain ⟨HO,HX,HB⟩:_∧_∧_:=⟨HO',HX',HB'⟩
 clear HO' HX' HB'
 obtain ⟨Ao,co,rfl⟩:=Kd.R_slice HO.out
 obtain ⟨L2,hL⟩:∃ l,l=L1 ++ nums (layB a1 4):=⟨_,rfl⟩
 have hn2:L2.length≤5:=by rw [hL];simp only [List.length_append,jM,iM];omega
 rw [← hL] at HO ⊢
 have HL2:=iC.mk hL
 clear hL hn1
 obtain ⟨z0,z1,z2,z3,z4,z5,z6,z7,z8,z9,y0,y1,y2,y3,y4,y5,y6,y7,y8,y9⟩:=ten HX.out
 have HLX:=iC.mk (show L2=nums X from by rw [HL2.out,HL1.out,HXX.out,jg5];simp only [List.nil_append,nums_append];rfl)
 have HP:iC (r=(nums X,0)):=⟨by rw [HRR.out,if_neg (by have h:=congrArg List.length HLX.out;rw [jM] at h;omega)]⟩
 go_wp2_with fail
 go_ret2
 rw [HP.out]
 exact ⟨_,rfl,by rw [← HLX.out];exact Kd.R_mono HO.out (fun _ _=>trivial),HB.out⟩
set_option maxHeartbeats 8000000 in
set_option maxRecDepth 20000 in
theorem Z7 (hs:jR ⟨5,a1,a2,l3,l4,⟨a5,l6⟩,a7,a8,l9⟩=true):Calls Tryz.prog 44 #[.agg #[.int .u8 5,.int .u32 a1,.int .u32 a2,.slice A3 l3.length c3,.slice A4 l4.length c4,.int .u32 a5,.slice A6 l6.length c6,.int .i64 a7,.int .i64 a8,.slice A9 l9.length c9]] w (qK w (encR ⟨5,a1,a2,l3,l4,⟨a5,l6⟩,a7,a8,l9⟩)):=by
 have H3:=iC.mk h3;have H4:=iC.mk h4;have H6:=iC.mk h6;have H9:=iC.mk h9
 have hbw:Below w.heap.size w (w.alloc (.cells #[.int .u8 5,.int .u32 a1,.int .u32 a2,.slice A3 l3.length c3,.slice A4 l4.length c4,.int .u32 a5,.slice A6 l6.length c6,.int .i64 a7,.int .i64 a8,.slice A9 l9.length c9] 54)):=iD (Below.refl _ _) _
 have hsnd:=nH 5 a1 a2 A3 c3 l3 A4 c4 l4 a5 A6 c6 l6 a7 a8 A9 c9 l9 (w.alloc (.cells #[.int .u8 5,.int .u32 a1,.int .u32 a2,.slice A3 l3.length c3,.slice A4 l4.length c4,.int .u32 a5,.slice A6 l6.length c6,.int .i64 a7,.int .i64 a8,.slice A9 l9.length c9] 54)) (Kd.C_below h3 hbw) d3 (Kd.C_below h4 hbw) d4 (Kd.C_below h6 hbw) d6 (Kd.C_below h9 hbw) d9
 rw [hs] at hsnd
 have HS:=iC.mk hs
 unfold encR
 rw [if_pos HS.out]
 obtain ⟨X,hX⟩:∃ X:List UInt8,X=recE ⟨5,a1,a2,l3,l4,⟨a5,l6⟩,a7,a8,l9⟩:=⟨_,rfl⟩
 rw [← hX]
 have HXX:=iC.mk hX
 obtain ⟨r,hr⟩:∃ r:List Int × Int,r=(if 60000<X.length then ([],3) else (nums X,0)):=⟨_,rfl⟩
 rw [← hr]
 have HRR:=iC.mk hr
 clear hr hs hX hbw h3 h4 h6 h9
 go_enter Tryz.func44,Tryz.ntmps44
 go_wp2_with fail
 go_at_call 71
 (with_reducible refine hsnd.mono ?_)
 clear hsnd
 rintro e w0 ⟨rfl,hb1⟩
 have hB0:Below w.heap.size w w0:=iH (iD (Below.refl _ _) _) hb1
 have hX0:w0.heap[w.heap.size]? = some (.cells #[.int .u8 5,.int .u32 a1,.int .u32 a2,.slice A3 l3.length c3,.slice A4 l4.length c4,.int .u32 a5,.slice A6 l6.length c6,.int .i64 a7,.int .i64 a8,.slice A9 l9.length c9] 54 (0,0)):=iI hb1 (iP rfl)
 obtain ⟨z0,z1,z2,z3,z4,z5,z6,z7,z8,z9,y0,y1,y2,y3,y4,y5,y6,y7,y8,y9⟩:=ten hX0
 have HO:=iC.mk (PT w0 w.heap.size 5 w.heap.size hB0.size (jH hX0))
 have HB:=iC.mk (iD hB0 (.cells #[.int .u8 5] 5))
 have HX:=iC.mk (jI (o:=.cells #[.int .u8 5] 5) hX0)
 have HW1:=iC.mk (show w0.alloc (.cells #[.int .u8 5] 5)=w0.alloc (.cells #[.int .u8 5] 5) from rfl)
 clear hb1 hB0 hX0
 go_upto_region 4 with fail
 clear z0 z1 z2 z3 z4 z5 z6 z7 z8 z9 y0 y1 y2 y3 y4 y5 y6 y7 y8 y9
 obtain ⟨w1,hw1⟩:∃ x,x=w0.alloc (.cells #[.int .u8 5] 5):=⟨_,rfl⟩
 rw [← hw1] at HO HB HX ⊢
 clear HW1
 have HW1:=iC.mk hw1
 clear hw1
 obtain ⟨L1,hL⟩:∃ l,l=[(5:Int)]:=⟨_,rfl⟩
 have hn1:L1.length≤1:=by rw [hL];simp
 rw [← hL] at HO
 have HL1:=iC.mk hL
 clear hL
 obtain ⟨z0,z1,z2,z3,z4,z5,z6,z7,z8,z9,y0,y1,y2,y3,y4,y5,y6,y7,y8,y9⟩:=ten HX.out
 have hcall:=lU (fun k=>w.heap.size<k) (.slice (some ⟨w0.heap.size,0,none⟩) 1 1) L1 (a1) (IntKind.u64.wrap a1) 4 4 w w1 (by first | rfl | (rw [wrap_u64];omega)) rfl (by omega) (by omega) HB.out HO.out
 go_wp2_with fail
 go_at_call 72
 (with_reducible refine hcall.mono ?_)
 clear hcall z0 z1 z2 z3 z4 z5 z6 z7 z8 z9 y0 y1 y2 y3 y4 y5 y6 y7 y8 y9
 rintro e w2 ⟨v2,rfl,ho,hb,hk⟩
 have HO':=iC.mk (Kd.R_mono (ok':=fun k=>w.heap.size<k) ho (fun k h=>h.elim id (fun h=>Nat.lt_of_lt_of_le (jH HX.out) h)))
 have HX':=iC.mk (lM hk HX.out)
 have HB':=iC.mk hb
 clear ho hb hk HO HX HB
 obtain ⟨HO,HX,HB⟩:_∧_∧_:=⟨HO',HX',HB'⟩
 clear HO' HX' HB'
 obtain ⟨Ao,co,rfl⟩:=Kd.R_slice HO.out
 obtain ⟨L2,hL⟩:∃ l,l=L1 ++ nums (layB a1 4):=⟨_,rfl⟩
 have hn2:L2.length≤5:=by rw [hL];simp only [List.length_append,jM,iM];omega
 rw [← hL] at HO ⊢
 have HL2:=iC.mk hL
 clear hL hn1
 obtain ⟨z0,z1,z2,z3,z4,z5,z6,z7,z8,z9,y0,y1,y2,y3,y4,y5,y6,y7,y8,y9⟩:=ten HX.out
 have HLX:=iC.mk (show L2=nums X from by rw [HL2.out,HL1.out,HXX.out,jg8];simp only [List.nil_append,nums_append];rfl)
 have HP:iC (r=(nums X,0)):=⟨by rw [HRR.out,if_neg (by have h:=congrArg List.length HLX.out;rw [jM] at h;omega)]⟩
 go_wp2_with fail
 go_ret2
 rw [HP.out]
 exact ⟨_,rfl,by rw [← HLX.out];exact Kd.R_mono HO.out (fun _ _=>trivial),HB.out⟩
set_option maxHeartbeats 8000000 in
set_option maxRecDepth 20000 in
theorem YX (hs:jR ⟨7,a1,a2,l3,l4,⟨a5,l6⟩,a7,a8,l9⟩=true):Calls Tryz.prog 44 #[.agg #[.int .u8 7,.int .u32 a1,.int .u32 a2,.slice A3 l3.length c3,.slice A4 l4.length c4,.int .u32 a5,.slice A6 l6.length c6,.int .i64 a7,.int .i64 a8,.slice A9 l9.length c9]] w (qK w (encR ⟨7,a1,a2,l3,l4,⟨a5,l6⟩,a7,a8,l9⟩)):=by
 have H3:=iC.mk h3;have H4:=iC.mk h4;have H6:=iC.mk h6;have H9:=iC.mk h9
 have hbw:Below w.heap.size w (w.alloc (.cells #[.int .u8 7,.int .u32 a1,.int .u32 a2,.slice A3 l3.length c3,.slice A4 l4.length c4,.int .u32 a5,.slice A6 l6.length c6,.int .i64 a7,.int .i64 a8,.slice A9 l9.length c9] 54)):=iD (Below.refl _ _) _
 have hsnd:=nH 7 a1 a2 A3 c3 l3 A4 c4 l4 a5 A6 c6 l6 a7 a8 A9 c9 l9 (w.alloc (.cells #[.int .u8 7,.int .u32 a1,.int .u32 a2,.slice A3 l3.length c3,.slice A4 l4.length c4,.int .u32 a5,.slice A6 l6.length c6,.int .i64 a7,.int .i64 a8,.slice A9 l9.length c9] 54)) (Kd.C_below h3 hbw) d3 (Kd.C_below h4 hbw) d4 (Kd.C_below h6 hbw) d6 (Kd.C_below h9 hbw) d9
 rw [hs] at hsnd
 have HS:=iC.mk hs
 have q9:(jZ l9).length≤25040004:=by
  have h:=HS.out
  rw [Z4] at h
  simp only [Bool.and_eq_true,decide_eq_true_eq] at h
  exact vX _ h.1.1.1.1.1.1 (by have:=h.1.1.1.1.1.2;omega)
 unfold encR
 rw [if_pos HS.out]
 obtain ⟨X,hX⟩:∃ X:List UInt8,X=recE ⟨7,a1,a2,l3,l4,⟨a5,l6⟩,a7,a8,l9⟩:=⟨_,rfl⟩
 rw [← hX]
 have HXX:=iC.mk hX
 obtain ⟨r,hr⟩:∃ r:List Int × Int,r=(if 60000<X.length then ([],3) else (nums X,0)):=⟨_,rfl⟩
 rw [← hr]
 have HRR:=iC.mk hr
 clear hr hs hX hbw h3 h4 h6 h9
 go_enter Tryz.func44,Tryz.ntmps44
 go_wp2_with fail
 go_at_call 71
 (with_reducible refine hsnd.mono ?_)
 clear hsnd
 rintro e w0 ⟨rfl,hb1⟩
 have hB0:Below w.heap.size w w0:=iH (iD (Below.refl _ _) _) hb1
 have hX0:w0.heap[w.heap.size]? = some (.cells #[.int .u8 7,.int .u32 a1,.int .u32 a2,.slice A3 l3.length c3,.slice A4 l4.length c4,.int .u32 a5,.slice A6 l6.length c6,.int .i64 a7,.int .i64 a8,.slice A9 l9.length c9] 54 (0,0)):=iI hb1 (iP rfl)
 obtain ⟨z0,z1,z2,z3,z4,z5,z6,z7,z8,z9,y0,y1,y2,y3,y4,y5,y6,y7,y8,y9⟩:=ten hX0
 have HO:=iC.mk (PT w0 w.heap.size 7 w.heap.size hB0.size (jH hX0))
 have HB:=iC.mk (iD hB0 (.cells #[.int .u8 7] 5))
 have HX:=iC.mk (jI (o:=.cells #[.int .u8 7] 5) hX0)
 have HW1:=iC.mk (show w0.alloc (.cells #[.int .u8 7] 5)=w0.alloc (.cells #[.int .u8 7] 5) from rfl)
 clear hb1 hB0 hX0
 go_upto_region 4 with fail
 clear z0 z1 z2 z3 z4 z5 z6 z7 z8 z9 y0 y1 y2 y3 y4 y5 y6 y7 y8 y9
 obtain ⟨w1,hw1⟩:∃ x,x=w0.alloc (.cells #[.int .u8 7] 5):=⟨_,rfl⟩
 rw [← hw1] at HO HB HX ⊢
 clear HW1
 have HW1:=iC.mk hw1
 clear hw1
 obtain ⟨L1,hL⟩:∃ l,l=[(7:Int)]:=⟨_,rfl⟩
 have hn1:L1.length≤1:=by rw [hL];simp
 rw [← hL] at HO
 have HL1:=iC.mk hL
 clear hL
 obtain ⟨z0,z1,z2,z3,z4,z5,z6,z7,z8,z9,y0,y1,y2,y3,y4,y5,y6,y7,y8,y9⟩:=ten HX.out
 have hcall:=lU (fun k=>w.heap.size<k) (.slice (some ⟨w0.heap.size,0,none⟩) 1 1) L1 (a1) (IntKind.u64.wrap a1) 4 4 w w1 (by first | rfl | (rw [wrap_u64];omega)) rfl (by omega) (by omega) HB.out HO.out
 go_wp2_with fail
 go_at_call 72
 (with_reducible refine hcall.mono ?_)
 clear hcall z0 z1 z2 z3 z4 z5 z6 z7 z8 z9 y0 y1 y2 y3 y4 y5 y6 y7 y8 y9
 rintro e w2 ⟨v2,rfl,ho,hb,hk⟩
 have HO':=iC.mk (Kd.R_mono (ok':=fun k=>w.heap.size<k) ho (fun k h=>h.elim id (fun h=>Nat.lt_of_lt_of_le (jH HX.out) h)))
 have HX':=iC.mk (lM hk HX.out)
 have HB':=iC.mk hb
 clear ho hb hk HO HX HB
 obtain ⟨HO,HX,HB⟩:_∧_∧_:=⟨HO',HX',HB'⟩
 clear HO' HX' HB'
 obtain ⟨Ao,co,rfl⟩:=Kd.R_slice HO.out
 obtain ⟨L2,hL⟩:∃ l,l=L1 ++ nums (layB a1 4):=⟨_,rfl⟩
 have hn2:L2.length≤5:=by rw [hL];simp only [List.length_append,jM,iM];omega
 rw [← hL] at HO ⊢
 have HL2:=iC.mk hL
 clear hL hn1
 obtain ⟨z0,z1,z2,z3,z4,z5,z6,z7,z8,z9,y0,y1,y2,y3,y4,y5,y6,y7,y8,y9⟩:=ten HX.out
 have hcall:=lU (fun k=>w.heap.size<k) _ L2 (a7) (IntKind.u64.wrap a7) 4 4 w w2 (by first | rfl | (rw [wrap_u64];omega)) rfl (by omega) (by omega) HB.out HO.out
 go_wp2_with fail
 go_at_call 72
 (with_reducible refine hcall.mono ?_)
 clear hcall z0 z1 z2 z3 z4 z5 z6 z7 z8 z9 y0 y1 y2 y3 y4 y5 y6 y7 y8 y9
 rintro e w3 ⟨v3,rfl,ho,hb,hk⟩
 have HO':=iC.mk (Kd.R_mono (ok':=fun k=>w.heap.size<k) ho (fun k h=>h.elim id (fun h=>Nat.lt_of_lt_of_le (jH HX.out) h)))
 have HX':=iC.mk (lM hk HX.out)
 have HB':=iC.mk hb
 clear ho hb hk HO HX HB
 obtain ⟨HO,HX,HB⟩:_∧_∧_:=⟨HO',HX',HB'⟩
 clear HO' HX' HB'
 obtain ⟨Ao,co,rfl⟩:=Kd.R_slice HO.out
 obtain ⟨L3,hL⟩:∃ l,l=L2 ++ nums (layB a7 4):=⟨_,rfl⟩
 have hn3:L3.length≤9:=by rw [hL];simp only [List.length_append,jM,iM];omega
 rw [← hL] at HO ⊢
 have HL3:=iC.mk hL
 clear hL hn2
 obtain ⟨z0,z1,z2,z3,z4,z5,z6,z7,z8,z9,y0,y1,y2,y3,y4,y5,y6,y7,y8,y9⟩:=ten HX.out
 have hcall:=lU (fun k=>w.heap.size<k) _ L3 (a8) (IntKind.u64.wrap a8) 4 4 w w3 (by first | rfl | (rw [wrap_u64];omega)) rfl (by omega) (by omega) HB.out HO.out
 go_wp2_with fail
 go_at_call 72
 (with_reducible refine hcall.mono ?_)
 clear hcall z0 z1 z2 z3 z4 z5 z6 z7 z8 z9 y0 y1 y2 y3 y4 y5 y6 y7 y8 y9
 rintro e w4 ⟨v4,rfl,ho,hb,hk⟩
 have HO':=iC.mk (Kd.R_mono (ok':=fun k=>w.heap.size<k) ho (fun k h=>h.elim id (fun h=>Nat.lt_of_lt_of_le (jH HX.out) h)))
 have HX':=iC.mk (lM hk HX.out)
 have HB':=iC.mk hb
 clear ho hb hk HO HX HB
 obtain ⟨HO,HX,HB⟩:_∧_∧_:=⟨HO',HX',HB'⟩
 clear HO' HX' HB'
 obtain ⟨Ao,co,rfl⟩:=Kd.R_slice HO.out
 obtain ⟨L4,hL⟩:∃ l,l=L3 ++ nums (layB a8 4):=⟨_,rfl⟩
 have hn4:L4.length≤13:=by rw [hL];simp only [List.length_append,jM,iM];omega
 rw [← hL] at HO ⊢
 have HL4:=iC.mk hL
 clear hL hn3
 obtain ⟨z0,z1,z2,z3,z4,z5,z6,z7,z8,z9,y0,y1,y2,y3,y4,y5,y6,y7,y8,y9⟩:=ten HX.out
 have hcall:=yV (fun k=>w.heap.size<k) _ L4 A9 c9 l9 w w4 (by omega) HB.out HO.out (fun k h=>Nat.le_of_lt h) H9.out d9
 go_wp2_with fail
 go_at_call 75
 (with_reducible refine hcall.mono ?_)
 clear hcall z0 z1 z2 z3 z4 z5 z6 z7 z8 z9 y0 y1 y2 y3 y4 y5 y6 y7 y8 y9
 rintro e w5 ⟨v5,rfl,ho,hb,hk⟩
 have HO':=iC.mk (Kd.R_mono (ok':=fun k=>w.heap.size<k) ho (fun k h=>h.elim id (fun h=>Nat.lt_of_lt_of_le (jH HX.out) h)))
 have HX':=iC.mk (lM hk HX.out)
 have HB':=iC.mk hb
 clear ho hb hk HO HX HB
 obtain ⟨HO,HX,HB⟩:_∧_∧_:=⟨HO',HX',HB'⟩
 clear HO' HX' HB'
 obtain ⟨Ao,co,rfl⟩:=Kd.R_slice HO.out
 obtain ⟨L5,hL⟩:∃ l,l=L4 ++ nums (jZ l9):=⟨_,rfl⟩
 have hn5:L5.length≤25040017:=by rw [hL];simp only [List.length_append,jM,iM];omega
 rw [← hL] at HO ⊢
 have HL5:=iC.mk hL
 clear hL hn4
 obtain ⟨z0,z1,z2,z3,z4,z5,z6,z7,z8,z9,y0,y1,y2,y3,y4,y5,y6,y7,y8,y9⟩:=ten HX.out
 have HLX:=iC.mk (show L5=nums X from by rw [HL5.out,HL4.out,HL3.out,HL2.out,HL1.out,HXX.out,jk3];simp only [List.nil_append,nums_append];rfl)
 by_cases hq:(60000:Int)<(L5.length:Int)
 ·have HP:iC (r=([],3)):=⟨by rw [HRR.out,if_pos (by rw [HLX.out,jM] at hq;omega)]⟩
  go_wp2_with fail
  go_ret2
  rw [HP.out]
  exact ⟨_,rfl,Kd.R_nil _ _ _ _ _,HB.out⟩
 ·have HP:iC (r=(nums X,0)):=⟨by rw [HRR.out,if_neg (by rw [HLX.out,jM] at hq;omega)]⟩
  go_wp2_with fail
  go_ret2
  rw [HP.out]
  exact ⟨_,rfl,by rw [← HLX.out];exact Kd.R_mono HO.out (fun _ _=>trivial),HB.out⟩
set_option maxHeartbeats 8000000 in
set_option maxRecDepth 20000 in
theorem YL (hs:jR ⟨6,a1,a2,l3,l4,⟨a5,l6⟩,a7,a8,l9⟩=true):Calls Tryz.prog 44 #[.agg #[.int .u8 6,.int .u32 a1,.int .u32 a2,.slice A3 l3.length c3,.slice A4 l4.length c4,.int .u32 a5,.slice A6 l6.length c6,.int .i64 a7,.int .i64 a8,.slice A9 l9.length c9]] w (qK w (encR ⟨6,a1,a2,l3,l4,⟨a5,l6⟩,a7,a8,l9⟩)):=by
 have H3:=iC.mk h3;have H4:=iC.mk h4;have H6:=iC.mk h6;have H9:=iC.mk h9
 have hbw:Below w.heap.size w (w.alloc (.cells #[.int .u8 6,.int .u32 a1,.int .u32 a2,.slice A3 l3.length c3,.slice A4 l4.length c4,.int .u32 a5,.slice A6 l6.length c6,.int .i64 a7,.int .i64 a8,.slice A9 l9.length c9] 54)):=iD (Below.refl _ _) _
 have hsnd:=nH 6 a1 a2 A3 c3 l3 A4 c4 l4 a5 A6 c6 l6 a7 a8 A9 c9 l9 (w.alloc (.cells #[.int .u8 6,.int .u32 a1,.int .u32 a2,.slice A3 l3.length c3,.slice A4 l4.length c4,.int .u32 a5,.slice A6 l6.length c6,.int .i64 a7,.int .i64 a8,.slice A9 l9.length c9] 54)) (Kd.C_below h3 hbw) d3 (Kd.C_below h4 hbw) d4 (Kd.C_below h6 hbw) d6 (Kd.C_below h9 hbw) d9
 rw [hs] at hsnd
 have HS:=iC.mk hs
 have q6:l6.length≤40:=by
  have h:=HS.out
  rw [X7,Bool.and_eq_true,Bool.and_eq_true,Bool.and_eq_true] at h
  have:=of_decide_eq_true h.1.1.2
  omega
 unfold encR
 rw [if_pos HS.out]
 obtain ⟨X,hX⟩:∃ X:List UInt8,X=recE ⟨6,a1,a2,l3,l4,⟨a5,l6⟩,a7,a8,l9⟩:=⟨_,rfl⟩
 rw [← hX]
 have HXX:=iC.mk hX
 obtain ⟨r,hr⟩:∃ r:List Int × Int,r=(if 60000<X.length then ([],3) else (nums X,0)):=⟨_,rfl⟩
 rw [← hr]
 have HRR:=iC.mk hr
 clear hr hs hX hbw h3 h4 h6 h9
 go_enter Tryz.func44,Tryz.ntmps44
 go_wp2_with fail
 go_at_call 71
 (with_reducible refine hsnd.mono ?_)
 clear hsnd
 rintro e w0 ⟨rfl,hb1⟩
 have hB0:Below w.heap.size w w0:=iH (iD (Below.refl _ _) _) hb1
 have hX0:w0.heap[w.heap.size]? = some (.cells #[.int .u8 6,.int .u32 a1,.int .u32 a2,.slice A3 l3.length c3,.slice A4 l4.length c4,.int .u32 a5,.slice A6 l6.length c6,.int .i64 a7,.int .i64 a8,.slice A9 l9.length c9] 54 (0,0)):=iI hb1 (iP rfl)
 obtain ⟨z0,z1,z2,z3,z4,z5,z6,z7,z8,z9,y0,y1,y2,y3,y4,y5,y6,y7,y8,y9⟩:=ten hX0
 have HO:=iC.mk (PT w0 w.heap.size 6 w.heap.size hB0.size (jH hX0))
 have HB:=iC.mk (iD hB0 (.cells #[.int .u8 6] 5))
 have HX:=iC.mk (jI (o:=.cells #[.int .u8 6] 5) hX0)
 have HW1:=iC.mk (show w0.alloc (.cells #[.int .u8 6] 5)=w0.alloc (.cells #[.int .u8 6] 5) from rfl)
 clear hb1 hB0 hX0
 go_upto_region 4 with fail
 clear z0 z1 z2 z3 z4 z5 z6 z7 z8 z9 y0 y1 y2 y3 y4 y5 y6 y7 y8 y9
 obtain ⟨w1,hw1⟩:∃ x,x=w0.alloc (.cells #[.int .u8 6] 5):=⟨_,rfl⟩
 rw [← hw1] at HO HB HX ⊢
 clear HW1
 have HW1:=iC.mk hw1
 clear hw1
 obtain ⟨L1,hL⟩:∃ l,l=[(6:Int)]:=⟨_,rfl⟩
 have hn1:L1.length≤1:=by rw [hL];simp
 rw [← hL] at HO
 have HL1:=iC.mk hL
 clear hL
 obtain ⟨z0,z1,z2,z3,z4,z5,z6,z7,z8,z9,y0,y1,y2,y3,y4,y5,y6,y7,y8,y9⟩:=ten HX.out
 have hcall:=lU (fun k=>w.heap.size<k) (.slice (some ⟨w0.heap.size,0,none⟩) 1 1) L1 (a1) (IntKind.u64.wrap a1) 4 4 w w1 (by first | rfl | (rw [wrap_u64];omega)) rfl (by omega) (by omega) HB.out HO.out
 go_wp2_with fail
 go_at_call 72
 (with_reducible refine hcall.mono ?_)
 clear hcall z0 z1 z2 z3 z4 z5 z6 z7 z8 z9 y0 y1 y2 y3 y4 y5 y6 y7 y8 y9
 rintro e w2 ⟨v2,rfl,ho,hb,hk⟩
 have HO':=iC.mk (Kd.R_mono (ok':=fun k=>w.heap.size<k) ho (fun k h=>h.elim id (fun h=>Nat.lt_of_lt_of_le (jH HX.out) h)))
 have HX':=iC.mk (lM hk HX.out)
 have HB':=iC.mk hb
 clear ho hb hk HO HX HB
 obtain ⟨HO,HX,HB⟩:_∧_∧_:=⟨HO',HX',HB'⟩
 clear HO' HX' HB'
 obtain ⟨Ao,co,rfl⟩:=Kd.R_slice HO.out
 obtain ⟨L2,hL⟩:∃ l,l=L1 ++ nums (layB a1 4):=⟨_,rfl⟩
 have hn2:L2.length≤5:=by rw [hL];simp only [List.length_append,jM,iM];omega
 rw [← hL] at HO ⊢
 have HL2:=iC.mk hL
 clear hL hn1
 obtain ⟨z0,z1,z2,z3,z4,z5,z6,z7,z8,z9,y0,y1,y2,y3,y4,y5,y6,y7,y8,y9⟩:=ten HX.out
 have hcall:=lU (fun k=>w.heap.size<k) _ L2 (a5) (IntKind.u64.wrap a5) 4 4 w w2 (by first | rfl | (rw [wrap_u64];omega)) rfl (by omega) (by omega) HB.out HO.out
 go_wp2_with fail
 go_at_call 72
 (with_reducible refine hcall.mono ?_)
 clear hcall z0 z1 z2 z3 z4 z5 z6 z7 z8 z9 y0 y1 y2 y3 y4 y5 y6 y7 y8 y9
 rintro e w3 ⟨v3,rfl,ho,hb,hk⟩
 have HO':=iC.mk (Kd.R_mono (ok':=fun k=>w.heap.size<k) ho (fun k h=>h.elim id (fun h=>Nat.lt_of_lt_of_le (jH HX.out) h)))
 have HX':=iC.mk (lM hk HX.out)
 have HB':=iC.mk hb
 clear ho hb hk HO HX HB
 obtain ⟨HO,HX,HB⟩:_∧_∧_:=⟨HO',HX',HB'⟩
 clear HO' HX' HB'
 obtain ⟨Ao,co,rfl⟩:=Kd.R_slice HO.out
 obtain ⟨L3,hL⟩:∃ l,l=L2 ++ nums (layB a5 4):=⟨_,rfl⟩
 have hn3:L3.length≤9:=by rw [hL];simp only [List.length_append,jM,iM];omega
 rw [← hL] at HO ⊢
 have HL3:=iC.mk hL
 clear hL hn2
 obtain ⟨z0,z1,z2,z3,z4,z5,z6,z7,z8,z9,y0,y1,y2,y3,y4,y5,y6,y7,y8,y9⟩:=ten HX.out
 have hcall:=lU (fun k=>w.heap.size<k) _ L3 ((l6.length:Int)) ((l6.length:Int)) 1 1 w w3 (by first | rfl | (rw [wrap_u64];omega)) rfl (by omega) (by omega) HB.out HO.out
 go_wp2_with fail
 go_at_call 72
 (with_reducible refine hcall.mono ?_)
 clear hcall z0 z1 z2 z3 z4 z5 z6 z7 z8 z9 y0 y1 y2 y3 y4 y5 y6 y7 y8 y9
 rintro e w4 ⟨v4,rfl,ho,hb,hk⟩
 have HO':=iC.mk (Kd.R_mono (ok':=fun k=>w.heap.size<k) ho (fun k h=>h.elim id (fun h=>Nat.lt_of_lt_of_le (jH HX.out) h)))
 have HX':=iC.mk (lM hk HX.out)
 have HB':=iC.mk hb
 clear ho hb hk HO HX HB
 obtain ⟨HO,HX,HB⟩:_∧_∧_:=⟨HO',HX',HB'⟩
 clear HO' HX' HB'
 obtain ⟨Ao,co,rfl⟩:=Kd.R_slice HO.out
 obtain ⟨L4,hL⟩:∃ l,l=L3 ++ nums (layB (l6.length:Int) 1):=⟨_,rfl⟩
 have hn4:L4.length≤10:=by rw [hL];simp only [List.length_append,jM,iM];omega
 rw [← hL] at HO ⊢
 have HL4:=iC.mk hL
 clear hL hn3
 obtain ⟨z0,z1,z2,z3,z4,z5,z6,z7,z8,z9,y0,y1,y2,y3,y4,y5,y6,y7,y8,y9⟩:=ten HX.out
 go_wp2_with fail
 clear z0 z1 z2 z3 z4 z5 z6 z7 z8 z9 y0 y1 y2 y3 y4 y5 y6 y7 y8 y9
 go_loopg [4,5] l6.length (fun gg s4 s5 wr=>∃ k:Nat,k≤l6.length∧l6.length - k≤gg∧s5=.int .i64 k∧iC (Kd.R (Kd.int .u8) 5 wr w.heap.size (fun k=>w.heap.size<k) s4 (L4 ++ nums ((l6.take k).flatMap oH)))∧iC (Below w.heap.size w wr)∧iC (wr.heap[w.heap.size]? = some (.cells #[.int .u8 6,.int .u32 a1,.int .u32 a2,.slice A3 l3.length c3,.slice A4 l4.length c4,.int .u32 a5,.slice A6 l6.length c6,.int .i64 a7,.int .i64 a8,.slice A9 l9.length c9] 54 (0,0))))
 case atStart=>exact ⟨0,Nat.zero_le _,by omega,rfl,⟨by simpa [nums] using HO.out⟩,HB,HX⟩
 case round =>
  clear HO HB HX
  obtain ⟨k,hk,hg,rfl,HO,HB,HX⟩:=hrel
  obtain ⟨Ao,co,rfl⟩:=Kd.R_slice HO.out
  by_cases hlt:k<l6.length
  ·have HT:=iC.mk (kV oH z122 l6 k hlt)
   obtain ⟨w5,rfl⟩:∃ x:World,x=wr:=⟨_,rfl⟩
   obtain ⟨L5,hL⟩:∃ L,L=L4 ++ nums ((l6.take k).flatMap oH):=⟨_,rfl⟩
   have hn5:L5.length≤210:=by rw [hL];have h1:=qC oH l6 k;rw [yO l6] at h1;simp only [List.length_append,jM];omega
   rw [← hL] at HO ⊢
   have HL5:=iC.mk hL
   clear hL
   obtain ⟨ad,eA,gx0,gx1⟩:=lQ H6.out k (by omega) (by omega)
   cases eA
   simp only [Int.toNat_natCast] at gx0 gx1
   have hx0:=kE HB.out gx0
   have hx1:=kE HB.out gx1
   have HG:=iC.mk (And.intro gx0 gx1)
   clear gx0 gx1
   have HSP:=iC.mk (show jO l6 k=l6.getD k z122 from by unfold jO;rw [Int.toNat_natCast])
   generalize jO l6 k=sp at HSP hx0 hx1 HG ⊢
   obtain ⟨z0,z1,z2,z3,z4,z5,z6,z7,z8,z9,y0,y1,y2,y3,y4,y5,y6,y7,y8,y9⟩:=ten HX.out
   have hcall:=lU (fun k=>w.heap.size<k) _ L5 (sp.f0) (IntKind.u64.wrap sp.f0) 4 4 w w5 (by first | rfl | (rw [wrap_u64];omega)) rfl (by omega) (by omega) HB.out HO.out
   go_wp2_with fail
   go_at_call 72
   (with_reducible refine hcall.mono ?_)
   clear hcall z0 z1 z2 z3 z4 z5 z6 z7 z8 z9 y0 y1 y2 y3 y4 y5 y6 y7 y8 y9
   rintro e w6 ⟨v6,rfl,ho,hb,hk⟩
   have HO':=iC.mk (Kd.R_mono (ok':=fun k=>w.heap.size<k) ho (fun k h=>h.elim id (fun h=>Nat.lt_of_lt_of_le (jH HX.out) h)))
   have HX':=iC.mk (lM hk HX.out)
   have HB':=iC.mk hb
   clear ho hb hk HO HX HB
   obtain ⟨HO,HX,HB⟩:_∧_∧_:=⟨HO',HX',HB'⟩
   clear HO' HX' HB'
   obtain ⟨Ao,co,rfl⟩:=Kd.R_slice HO.out
   obtain ⟨L6,hL⟩:∃ l,l=L5 ++ nums (layB sp.f0 4):=⟨_,rfl⟩
   have hn6:L6.length≤214:=by rw [hL];simp only [List.length_append,jM,iM];omega
   rw [← hL] at HO ⊢
   have HL6:=iC.mk hL
   clear hL hn5
   clear hx0 hx1
   have hx0:=kE HB.out HG.out.1
   have hx1:=kE HB.out HG.out.2
   obtain ⟨z0,z1,z2,z3,z4,z5,z6,z7,z8,z9,y0,y1,y2,y3,y4,y5,y6,y7,y8,y9⟩:=ten HX.out
   have hcall:=lU (fun k=>w.heap.size<k) _ L6 (sp.f1) (IntKind.u64.wrap sp.f1) 1 1 w w6 (by first | rfl | (rw [wrap_u64];omega)) rfl (by omega) (by omega) HB.out HO.out
   go_wp2_with fail
   go_at_call 72
   (with_reducible refine hcall.mono ?_)
   clear hcall z0 z1 z2 z3 z4 z5 z6 z7 z8 z9 y0 y1 y2 y3 y4 y5 y6 y7 y8 y9
   rintro e w7 ⟨v7,rfl,ho,hb,hk⟩
   have HO':=iC.mk (Kd.R_mono (ok':=fun k=>w.heap.size<k) ho (fun k h=>h.elim id (fun h=>Nat.lt_of_lt_of_le (jH HX.out) h)))
   have HX':=iC.mk (lM hk HX.out)
   have HB':=iC.mk hb
   clear ho hb hk HO HX HB
   obtain ⟨HO,HX,HB⟩:_∧_∧_:=⟨HO',HX',HB'⟩
   clear HO' HX' HB'
   obtain ⟨Ao,co,rfl⟩:=Kd.R_slice HO.out
   obtain ⟨L7,hL⟩:∃ l,l=L6 ++ nums (layB sp.f1 1):=⟨_,rfl⟩
   have hn7:L7.length≤215:=by rw [hL];simp only [List.length_append,jM,iM];omega
   rw [← hL] at HO ⊢
   have HL7:=iC.mk hL
   clear hL hn6
   clear hx0 hx1
   have HE:=iC.mk (show L7=L4 ++ nums ((l6.take (k+1)).flatMap oH) from by rw [HT.out,← HSP.out,HL7.out,HL6.out,HL5.out];unfold oH;simp only [nums_append,List.append_assoc])
   go_wp2_with fail
   go_roundg (l6.length - (k+1))
   case measure=>omega
   case rel=>exact ⟨k+1,by omega,by omega,by go_num,⟨by rw [← HE.out];exact HO.out⟩,HB,HX⟩
  ·have:k=l6.length:=by omega
   subst this
   obtain ⟨w5,rfl⟩:∃ x:World,x=wr:=⟨_,rfl⟩
   obtain ⟨L5,hL⟩:∃ L,L=L4 ++ nums (l6.flatMap oH):=⟨_,rfl⟩
   rw [List.take_length] at HO ⊢
   rw [← hL] at HO ⊢
   have HL5:=iC.mk hL
   clear hL
   obtain ⟨z0,z1,z2,z3,z4,z5,z6,z7,z8,z9,y0,y1,y2,y3,y4,y5,y6,y7,y8,y9⟩:=ten HX.out
   have HLX:=iC.mk (show L5=nums X from by rw [HL5.out,HL4.out,HL3.out,HL2.out,HL1.out,HXX.out,jh3];simp only [List.nil_append,nums_append];rfl)
   by_cases hq:(60000:Int)<(L5.length:Int)
   ·have HP:iC (r=([],3)):=⟨by rw [HRR.out,if_pos (by rw [HLX.out,jM] at hq;omega)]⟩
    go_wp2_with fail
    go_ret2
    rw [HP.out]
    exact ⟨_,rfl,Kd.R_nil _ _ _ _ _,HB.out⟩
   ·have HP:iC (r=(nums X,0)):=⟨by rw [HRR.out,if_neg (by rw [HLX.out,jM] at hq;omega)]⟩
    go_wp2_with fail
    go_ret2
    rw [HP.out]
    exact ⟨_,rfl,by rw [← HLX.out];exact Kd.R_mono HO.out (fun _ _=>trivial),HB.out⟩
end
end Go.Proofs.YtgfkgppomaapiaaGreatDoor.K
end
namespace Go.Proofs.YtgfkgppomaapiaaGreatDoor.K
open RowKit YtgfkgppomaapiaaGreatDoorW.PrintWords YtgfkgppomaapiaaGreatDoorW.PrintLast YtgfkgppomaapiaaGreatDoorW.PrintMore My
section
def encS (s:kC):List Value:=[.int .i64 s.f0,.int .i64 s.f1]
theorem QG {α β:Type} (f:α→β) (z u:β) (done:List α) (n k:Nat) (x:α) (hu:u=f x) (hd:done.length=k) (hk:k<n):(done.map f ++ List.replicate (n - k) z).set k u=(done ++ [x]).map f ++ List.replicate (n - (k+1)) z:=by
 subst hu
 rw [QB z (f x) (done.map f) n k (by rw [List.length_map];exact hd) hk,List.map_append]
 rfl
theorem RJ {r:List UInt8} (h:intP 4 r=none):uO r=none:=by unfold uO;rw [h];rfl
theorem QW {r r1:List UInt8} {x:Int} (h:intP 4 r=some (x,r1)) (h1:intP 1 r1=none):uO r=none:=by unfold uO;rw [h];simp only [Option.bind_some];rw [h1];rfl
theorem UG {r r1 r2:List UInt8} {x y:Int} (h:intP 4 r=some (x,r1)) (h1:intP 1 r1=some (y,r2)):uO r=some (⟨x,y⟩,r2):=by unfold uO;rw [h];simp only [Option.bind_some];rw [h1];rfl
set_option maxRecDepth 20000 in
set_option maxHeartbeats 4000000 in
theorem JQ (g:Nat) (l:List UInt8) (w0 w:World) (h:Rd w0 w g l) (hb:Below w0.heap.size w0 w) (hg:w0.heap.size≤g) (hm:(l.length:Int)≤100000) :
  Calls Tryz.prog 117 #[.pointer (some ⟨g,0,none⟩)] w (PP (qI l) (fun xs v w'=>Kd.R k122 122 w' w.heap.size (fun _=>True) v xs) w0 w g):=by
 have HR:=iC.mk h
 have HB:=iC.mk hb
 have hlt:=h.lt
 clear h hb
 cases hmy:many 1 5 l with
 | none =>
  have hn:qI l=none:=by unfold qI;rw [hmy];rfl
  have hcall:=qX 1 5 1 5 rfl rfl (by omega) (by omega) g l w0 w HR.out HB.out hg hmy
  have HN:=iC.mk hn
  clear hmy hn
  go_enter Tryz.func117,Tryz.ntmps117
  go_wp2_with (go_at_call 122;refine hcall.mono ?_;rintro e w1 ⟨rfl,hG⟩)
  exact ⟨rfl,hG,.inr ⟨HN.out,rfl⟩⟩
 | some x =>
  obtain ⟨n,r0⟩:=x
  have hn:qI l=repP uO n r0:=by unfold qI;rw [hmy];rfl
  have hcall:=IP 1 5 1 5 rfl rfl (by omega) (by omega) g l r0 n w0 w HR.out HB.out hg hmy
  have HN:=iC.mk hn
  obtain ⟨hl1,hl2⟩:=mQ hmy (by omega)
  have hn1:(n:Int)≤100000:=by omega
  have hmk:=xJ (t:=49) (e:=122) Tryz.underlying49 jj3 (by omega) n hn1
  clear hmy hn hl1 hl2
  go_enter Tryz.func117,Tryz.ntmps117
  go_wp2_with (go_at_call 122;refine hcall.mono ?_;rintro e w1 ⟨rfl,hR,hG,hle⟩;clear hle;have HR1:=iC.mk hR;have HG1:=iC.mk hG;clear hR hG)
  have HO:=iC.mk (XC (e:=122) (W:=w1) (n:=n) (base:=w.heap.size) (x:=.int .i64 0) (y:=.int .i64 0) rfl rfl (by omega) HG1.out.size)
  have HG:=iC.mk (iV HG1.out (grown_below (iD (Below.refl _ _) (.cells (madeCells #[.int .i64 0,.int .i64 0] (n * 2)) 122))))
  have HR2:=iC.mk (Rd.grown HR1.out (grown_below (row:=none) (iD (Below.refl _ _) (.cells (madeCells #[.int .i64 0,.int .i64 0] (n * 2)) 122))) (by simp))
  clear HR1 HG1 hcall hmk
  obtain ⟨ad,had⟩:∃ ad:Addr,ad=⟨w1.heap.size,0,none⟩:=⟨_,rfl⟩
  rw [← had] at HO ⊢
  obtain ⟨W2,hW⟩:∃ W2,W2=w1.alloc (.cells (madeCells #[.int .i64 0,.int .i64 0] (n * 2)) 122):=⟨_,rfl⟩
  rw [← hW] at HO HG HR2
  first | rw [← hW] | (rw [show w1.alloc (.cells (madeCells (Value.agg #[.int .i64 0,.int .i64 0]).cells (n * 2)) 122)=W2 from hW.symm])
  clear hW had
  go_loopw [10] (fun i wr=>∃ (k:Nat) (done:List kC) (r:List UInt8),k≤n∧i=.int .i64 k∧iC (Left uO n k r0 r done)∧iC (Rd w0 wr g r)∧iC (RW 122 wr w.heap.size (.slice (some ad) n n) (done.map encS ++ List.replicate (n - k) [.int .i64 0,.int .i64 0]))∧iC (w.grownBy wr (some g))) (fun i _=>n - (intOf i).toNat)
  case atStart=>exact ⟨0,[],r0,Nat.zero_le _,rfl,⟨Left.start _ _ _⟩,HR2,HO,HG⟩
  case round =>
   obtain ⟨k,done,r,hk,rfl,HL,HRd,HOk,HGk⟩:=hrel
   clear HR2 HO HG
   by_cases hkn:k<n
   ·cases hp:intP 4 r with
    | none =>
     have hcall:=kG 4 4 rfl g r w0 wr HRd.out (lX hp)
     have HF:=iC.mk (Left.fail HL.out hkn (RJ hp))
     clear hp
     go_wp2_with (go_at_call 114;refine hcall.mono ?_;rintro e w2 ⟨rfl,hG⟩)
     exact ⟨rfl,iV HGk.out hG,.inr ⟨by rw [HN.out];exact HF.out,rfl⟩⟩
    | some x =>
     obtain ⟨x,r1⟩:=x
     obtain ⟨hs1,hx,hr1⟩:=oM hp
     have hcall:=nZ 4 4 rfl (by omega) g r w0 wr HRd.out (below_grown HB.out HGk.out hg (Nat.le_refl _)) hs1
     have hsm:=oC r 4 (by omega)
     rw [← hr1] at hcall
     obtain ⟨m,hm1⟩:∃ m,m=numB (r.take 4):=⟨_,rfl⟩
     rw [← hm1] at hcall hsm hx
     subst hx
     clear hr1 hm1 hs1
     cases hp1:intP 1 r1 with
     | none =>
      have HF:=iC.mk (Left.fail HL.out hkn (QW hp hp1))
      have HP1:=iC.mk hp1
      clear hp hp1
      go_wp2_with fail
      refine hcall.mono ?_
      rintro e w2 ⟨rfl,hR,hG⟩
      obtain ⟨x0,y0,hrow,z0,z1,f0,f1,hbs,hbl,hset0,_⟩:=ML (jT HOk.out hG hlt) k hkn
      obtain ⟨hs0,hg0⟩:=hset0 (.int .i64 (m:Int)) rfl
      have HGR:=iC.mk (kF (iV HGk.out hG) hg0 hbs)
      have HRR:=iC.mk (Rd.grown hR hg0 (by (intro e;injection e with e;omega)))
      clear hset0 hs0 hg0 hR hG hrow z1 f1 hcall
      go_wp2_with fail
      refine (kG 1 1 rfl g r1 w0 _ HRR.out (lX HP1.out)).mono ?_
      rintro e w3 ⟨rfl,hG⟩
      go_wp2
      exact ⟨rfl,iV HGR.out hG,.inr ⟨by rw [HN.out];exact HF.out,rfl⟩⟩
     | some y =>
      obtain ⟨y,r2⟩:=y
      have HN1:=iC.mk (Left.next HL.out hkn (UG hp hp1))
      obtain ⟨hs2,hy,hr2⟩:=oM hp1
      have hsm2:=oC r1 1 (by omega)
      obtain ⟨m2,hm2⟩:∃ m2,m2=numB (r1.take 1):=⟨_,rfl⟩
      rw [← hm2] at hsm2 hy
      subst hy
      clear hp hp1
      go_wp2_with fail
      refine hcall.mono ?_
      rintro e w2 ⟨rfl,hR,hG⟩
      obtain ⟨x0,y0,hrow,z0,z1,f0,f1,hbs,hbl,hset0,_⟩:=ML (jT HOk.out hG hlt) k hkn
      obtain ⟨hs0,hg0⟩:=hset0 (.int .i64 (m:Int)) rfl
      have HGR:=iC.mk (kF (iV HGk.out hG) hg0 hbs)
      have HRR:=iC.mk (Rd.grown hR hg0 (by (intro e;injection e with e;omega)))
      have HS0:=iC.mk hs0
      clear hset0 hs0 hg0 hR hG hrow z1 f1 hcall
      go_wp2_with fail
      have hcall:=nZ 1 1 rfl (by omega) g r1 w0 _ HRR.out (below_grown HB.out HGR.out hg (Nat.le_refl _)) hs2
      rw [← hr2,← hm2] at hcall
      refine hcall.mono ?_
      rintro e w3 ⟨rfl,hR,hG⟩
      obtain ⟨x1,y1,hrow,z0',z1,f0',f1,hbs1,hbl1,_,hset1⟩:=ML (jT HS0.out hG hlt) k hkn
      obtain ⟨hs1,hg1⟩:=hset1 (.int .i64 (m2:Int)) rfl
      have hkl:k<(done.map encS ++ List.replicate (n - k) [Value.int .i64 0,.int .i64 0]).length:=by rw [List.length_append,List.length_map,List.length_replicate,HL.out.1];omega
      rw [List.getD_eq_getElem?_getD,List.getElem?_set_self hkl] at hrow
      have hx1:x1=.int .i64 (m:Int):=by injection hrow with hx _;exact hx.symm
      subst hx1
      rw [List.set_set] at hs1
      have HS1:=iC.mk hs1
      have HGR2:=iC.mk (kF (iV HGR.out hG) hg1 hbs1)
      have HRR2:=iC.mk (Rd.grown hR hg1 (by (intro e;injection e with e;omega)))
      clear hset1 hs1 hg1 hR hG hrow hcall z0 f0 z0' f0' hr2 hm2 hs2 hkl HS0 HGR HRR
      go_wp2
      go_roundw
      case rel=>exact ⟨k+1,done ++ [⟨(m:Int),(m2:Int)⟩],r2,by omega,by go_num,HN1,HRR2,⟨by rw [← QG encS _ [.int .i64 (m:Int),.int .i64 (m2:Int)] done n k ⟨(m:Int),(m2:Int)⟩ rfl HL.out.1 hkn];exact HS1.out⟩,HGR2⟩
      case measure=>simp [intOf];omega
   ·obtain rfl:k=n:=by omega
    go_wp2
    go_ret
    have hd:=HOk.out
    rw [Nat.sub_self,List.replicate_zero,List.append_nil] at hd
    refine ⟨HGk.out,.inl ⟨done,r,_,by rw [HN.out];exact Left.done HL.out,rfl,?_,HRd.out⟩⟩
    refine N7 rfl hd (by rw [List.length_map]) (fun _ _=>trivial) (fun j p c hj hc=>?_)
    rw [List.getElem?_map,hj] at hc
    injection hc with hc
    subst hc
    exact U1 _ _ _ _
end
end Go.Proofs.YtgfkgppomaapiaaGreatDoor.K
section
namespace Go.Proofs.YtgfkgppomaapiaaGreatDoor.My
open Go Go.RowKit Go.Proofs.YtgfkgppomaapiaaGreatDoorW.PrintWords Go.Proofs.YtgfkgppomaapiaaGreatDoorW.PrintLast
def entries (D:List Tmp) (vs:Nat→Value):List (Nat × Tmp × Value):=(List.range D.length).map fun i=>(i,D.getD i 0,vs i)
theorem lG {D:List Tmp} {vs:Nat→Value} {i:Nat} (h:i<D.length):(entries D vs)[i]? = some (i,D.getD i 0,vs i):=by
 unfold entries
 rw [List.getElem?_map,List.getElem?_range h]
 rfl
theorem lJ (D:List Tmp) (vs:Nat→Value):(entries D vs).length=D.length:=by simp [entries]
theorem IY {D:List Tmp} {vs:Nat→Value} {i:Nat} (v:Value):(entries D vs).set i (i,D.getD i 0,v)=entries D (fun j=>if j=i then v else vs j):=by
 apply List.ext_getElem?
 intro j
 by_cases hj:j<D.length
 ·by_cases hij:i=j
  ·subst hij
   rw [List.getElem?_set_self (by rw [lJ];exact hj),lG hj,if_pos rfl]
  ·rw [List.getElem?_set_ne hij,lG hj,lG hj,if_neg (Ne.symm hij)]
 ·rw [List.getElem?_eq_none (by simp [lJ];omega),List.getElem?_eq_none (by rw [lJ];omega)]
def xQ (D:List Tmp):Bool:=decide D.Nodup
theorem V3 {D:List Tmp} (h:D.Nodup) {i j:Nat} (hi:i<D.length) (hj:j<D.length) (e:D.getD i 0=D.getD j 0):i=j:=by
 rw [List.getD_eq_getElem?_getD,List.getD_eq_getElem?_getD,List.getElem?_eq_getElem hi,List.getElem?_eq_getElem hj] at e
 simp only [Option.getD_some] at e
 have hp:=List.pairwise_iff_getElem.1 h
 rcases Nat.lt_trichotomy i j with hij | hij | hij
 ·exact absurd e (hp i j hi hj hij)
 ·exact hij
 ·exact absurd e.symm (hp j i hj hi hij)
theorem uH {b b':Nat→Bool}:∀ {L:List (Nat × Tmp × Value)} {a:Act},(∀ e∈L,b e.1=b' e.1)→jX a b L=jX a b' L
 | [],_,_=>rfl
 | e :: L,a,h=>by
  unfold jX
  rw [h e List.mem_cons_self]
  exact uH (fun x hx=>h x (List.mem_cons_of_mem _ hx))
theorem pV {D:List Tmp} {vs:Nat→Value} {i:Nat} (hD:xQ D=true) (hi:i<D.length) :
  (((entries D vs).take i ++ (entries D vs).drop (i+1)).all fun e=>!(e.1 == i) && !(e.2.1 == D.getD i 0))=true:=by
 have hnd:D.Nodup:=of_decide_eq_true hD
 rw [List.all_eq_true]
 intro e he
 obtain ⟨j,hj,hne⟩:∃ j,(entries D vs)[j]? = some e∧j≠i:=by
  rcases List.mem_append.1 he with h | h
  ·obtain ⟨j,hj⟩:=List.getElem?_of_mem h
   rw [List.getElem?_take] at hj
   split at hj
   ·exact ⟨j,hj,by omega⟩
   ·cases hj
  ·obtain ⟨j,hj⟩:=List.getElem?_of_mem h
   rw [List.getElem?_drop] at hj
   exact ⟨_,hj,by omega⟩
 have hjl:j<D.length:=by have:=(List.getElem?_eq_some_iff.1 hj).1;rwa [lJ] at this
 rw [lG hjl] at hj
 simp only [Option.some.injEq] at hj
 subst hj
 simp only [Bool.and_eq_true,Bool.not_eq_true',beq_eq_false_iff_ne]
 exact ⟨hne,fun e=>hne (V3 hnd hjl hi e)⟩
section
variable {P:Program} {ops:Array Oper} {Q:Exit→Act→World→Prop} {T:Bool × List (List Nat × List Nat)} {B:List Nat}
def uY (P:Program) (ops:Array Oper) (Q:Exit→Act→World→Prop) (B:List Nat) (D:List Tmp) (R:Nat→Value→World→Prop) (a0:Act) (w0:World) (i:Nat):Prop :=
 ∀ (a:Act) (w:World) (vs:Nat→Value),Below w0.heap.size w0 w→(∀ s,D.contains s=false→a.tmps[s]? = a0.tmps[s]?) →
  (∀ j,(B.getD i 0).testBit j=true→a.tmps[D.getD j 0]? = some (vs j)∧R j (vs j) w) →
  ∃ oi,ops[i]? = some oi∧oi.dst=some (D.getD i 0)∧∀ K:Act→World→Prop,(∀ v w',R i v w'→Below w.heap.size w w'→K (a.put (some (D.getD i 0)) v) w') →
   if Region.wanted oi (yielded ops a.tmps)=true then Oper.wp P oi a w K Q else K (a.put (some (D.getD i 0)) undef) w
theorem oV {D:List Tmp} {R:Nat→Value→World→Prop} {a0:Act} {w0:World}:∀ i∈([]:List Nat),uY P ops Q B D R a0 w0 i:=fun _ h=>by cases h
theorem iJ {D:List Tmp} {R:Nat→Value→World→Prop} {a0:Act} {w0:World} {i:Nat} {rs:List Nat} (h:uY P ops Q B D R a0 w0 i) (hs:∀ j∈rs,uY P ops Q B D R a0 w0 j):∀ j∈i :: rs,uY P ops Q B D R a0 w0 j:=fun j hj=>by
 rcases List.mem_cons.1 hj with rfl | hj
 ·exact h
 ·exact hs j hj
def Rm (r:Value→World→Prop):Prop:=∀ v w w',r v w→Below w.heap.size w w'→r v w'
theorem jS (t:Value):Rm (fun v _=>v=t):=fun _ _ _ h _=>h
def RLit (n:Nat) (cells:Array Value) (E:Nat):Value→World→Prop:=fun v w=>∃ b,v=.slice (some ⟨b,0,none⟩) n n∧w.heap[b]? = some (.cells cells E (0,0))
theorem jm2 (n:Nat) (cells:Array Value) (E:Nat):Rm (RLit n cells E):=fun _ _ _ ⟨b,h1,h2⟩ hb=>⟨b,h1,iI hb h2⟩
theorem vS:∀ r∈([]:List (Value→World→Prop)),Rm r:=fun _ h=>by cases h
theorem iU {r:Value→World→Prop} {rs:List (Value→World→Prop)} (h:Rm r) (hs:∀ r∈rs,Rm r):∀ x∈r :: rs,Rm x:=fun x hx=>by
 rcases List.mem_cons.1 hx with rfl | hx
 ·exact h
 ·exact hs x hx
def RR (Rs:List (Value→World→Prop)):Nat→Value→World→Prop:=fun i=>Rs.getD i (fun _ _=>True)
theorem jj9 {Rs:List (Value→World→Prop)} (h:∀ r∈Rs,Rm r):∀ i v w w',RR Rs i v w→Below w.heap.size w w'→RR Rs i v w':=by
 intro i v w w' hr hb
 unfold RR at *
 rcases Nat.lt_or_ge i Rs.length with hl | hl
 ·have e:Rs.getD i (fun _ _=>True)=Rs[i]:=by rw [List.getD_eq_getElem?_getD,List.getElem?_eq_getElem hl];rfl
  rw [e] at hr ⊢
  exact h _ (List.getElem_mem hl) v w w' hr hb
 ·rw [List.getD_eq_getElem?_getD,List.getElem?_eq_none hl]
  trivial
theorem QT {id:Nat} {a0:Act} {w0:World} (D:List Tmp) (R:Nat→Value→World→Prop) (hm:P.follows .mixedOrders=true)
  (hT:rtab .any ops=T) (hw:nT T.2 B=true) (hk:qN T.2 (List.range ops.size)=true) (hD:xQ D=true) (hDn:D.length=ops.size)
  (hin:(D.all fun t=>Nat.ble (t+1) a0.tmps.size)=true) (hBn:((List.range ops.size).all fun i=>Nat.ble (B.getD i 0) (2 ^ ops.size - 1))=true)
  (hmono:∀ i v w w',R i v w→Below w.heap.size w w'→R i v w')
  (hs:∀ i∈List.range ops.size,uY P ops Q B D R a0 w0 i)
  (hend:∀ (vs:Nat→Value) (w:World),Below w0.heap.size w0 w→(∀ i,i<ops.size→R i (vs i) w)→Q .normal (jX a0 (fun _=>true) (entries D vs)) w) :
  (Code.region id ops true).wp P Q a0 w0:=by
 have hTl:T.2.length=ops.size:=by rw [← hT,oW]
 refine qJ (n:=ops.size) (S:=fun _=>True) (ds:=[]) (Array.replicate ops.size false) hm rfl rfl trivial (fun _=>?_)
 refine inv_ (T:=T) (B:=B) (List.range ops.size) (fun b a w=>∃ vs:Nat→Value,a=jX a0 b (entries D vs)∧(∀ i,i<ops.size→b i=true→R i (vs i) w)∧Below w0.heap.size w0 w) hT hw hk ?_ ?_ ?_ ?_
 ·simp only [Bool.and_eq_true,beq_iff_eq,List.length_range,and_true]
  rw [hTl]
  apply List.ext_getElem
  ·simp [lof]
  ·intro i h1 h2
   simp [lof] at h1 ⊢
   exact h1
 ·refine ⟨fun _=>undef,?_,(fun _ _ h=>by cases h),iW (Below.refl _ _)⟩
  have:∀ (L:List (Nat × Tmp × Value)) (a:Act),jX a (fun _=>false) L=a:=by
   intro L
   induction L with
   | nil=>intro a;rfl
   | cons e L ih=>intro a;unfold jX;rw [if_neg (by simp)];exact ih a
  rw [this]
 ·intro i hi
  have hil:i<ops.size:=List.mem_range.1 hi
  have hiD:i<D.length:=by omega
  intro b a w ⟨vs,ha,hR,hB⟩ hb hon hoff
  have hsz:∀ s,D.contains s=false→a.tmps[s]? = a0.tmps[s]?:=by
   intro s hsD
   rw [ha]
   refine qV ?_
   rw [List.all_eq_true]
   intro e he
   obtain ⟨j,hj⟩:=List.getElem?_of_mem he
   have hjl:j<D.length:=by have:=(List.getElem?_eq_some_iff.1 hj).1;rwa [lJ] at this
   rw [lG hjl] at hj
   simp only [Option.some.injEq] at hj
   subst hj
   simp only [Bool.not_eq_true',beq_eq_false_iff_ne]
   intro h
   have:D.contains s=true:=by
    rw [List.contains_iff_mem,← h,List.getD_eq_getElem?_getD,List.getElem?_eq_getElem hjl]
    exact List.getElem_mem hjl
   rw [this] at hsD
   cases hsD
  have hdep:∀ j,(B.getD i 0).testBit j=true→a.tmps[D.getD j 0]? = some (vs j)∧R j (vs j) w:=by
   intro j hj
   have hjn:j<ops.size:=by
    rcases Nat.lt_or_ge j ops.size with h | h
    ·exact h
    ·have h1:=List.all_eq_true.1 hBn i hi
     have h2:B.getD i 0≤2 ^ ops.size - 1:=Nat.le_of_ble_eq_true h1
     have h3:B.getD i 0<2 ^ j:=Nat.lt_of_le_of_lt h2 (Nat.lt_of_lt_of_le (Nat.sub_lt (Nat.two_pow_pos _) Nat.one_pos) (Nat.pow_le_pow_right (by decide) h))
     rw [Nat.testBit_lt_two_pow h3] at hj
     cases hj
   have hbj:b j=true:=hon j (by rw [Bool.and_eq_true];exact ⟨by simpa using hjn,hj⟩)
   refine ⟨?_,hR j hjn hbj⟩
   rw [ha]
   have hjD:j<D.length:=by omega
   refine I8 (e:=(j,D.getD j 0,vs j)) j (lG hjD) ?_ hbj ?_
   ·have:=pV (vs:=vs) hD hjD
    rw [List.all_append,Bool.and_eq_true] at this
    have h2:=this.2
    rw [List.all_eq_true] at h2 ⊢
    intro x hx
    have:=h2 x hx
    rw [Bool.and_eq_true] at this
    exact this.2
   ·have h1:=List.all_eq_true.1 hin (D.getD j 0) (by rw [List.getD_eq_getElem?_getD,List.getElem?_eq_getElem hjD];exact List.getElem_mem hjD)
    exact h1
  obtain ⟨oi,ho,hdst,hstep⟩:=hs i hi a w vs hB hsz hdep
  refine ⟨oi,ho,fun K hK=>?_⟩
  rw [hdst]
  refine hstep K fun v w' hv hbw=>?_
  refine hK.out _ _ ⟨fun j=>if j=i then v else vs j,?_,?_,iH hB hbw⟩
  ·rw [ha]
   exact JS i hb (lG hiD) (IY v) (pV hD hiD)
  ·intro j hj hbj
   by_cases hji:j=i
   ·subst hji
    simp only [if_pos]
    exact hv
   ·simp only [if_neg hji]
    rw [zG hji] at hbj
    exact hmono _ _ _ _ (hR j hj hbj) hbw
 ·intro b a w hall ⟨vs,ha,hR,hB⟩
  have:jX a0 b (entries D vs)=jX a0 (fun _=>true) (entries D vs):=by
   have hlt:∀ e∈entries D vs,b e.1=true:=by
    intro e he
    obtain ⟨j,hj⟩:=List.getElem?_of_mem he
    have hjl:j<D.length:=by have:=(List.getElem?_eq_some_iff.1 hj).1;rwa [lJ] at this
    rw [lG hjl] at hj
    simp only [Option.some.injEq] at hj
    subst hj
    exact hall j (by simpa using (by omega:j<ops.size))
   exact uH (fun e he=>hlt e he)
  rw [ha,this]
  exact hend vs w hB (fun i hi=>hR i hi (hall i (by simpa using hi)))
theorem vT {id:Nat} {a0:Act} {w0:World} (D:List Tmp) (Rs:List (Value→World→Prop)) (L:List Nat) (T:Bool × List (List Nat × List Nat)) (B:List Nat) (hm:P.follows .mixedOrders=true)
  (hT:rtab .any ops=T) (hL:List.range ops.size=L) (hw:nT T.2 B=true) (hk:qN T.2 L=true) (hD:xQ D=true) (hDn:D.length=ops.size)
  (hin:(D.all fun t=>Nat.ble (t+1) a0.tmps.size)=true) (hBn:(L.all fun i=>Nat.ble (B.getD i 0) (2 ^ D.length - 1))=true)
  (hmono:∀ r∈Rs,Rm r) (hs:∀ i∈L,uY P ops Q B D (RR Rs) a0 w0 i)
  (hend:∀ (vs:Nat→Value) (w:World),Below w0.heap.size w0 w→(∀ i,Nat.ble (i+1) D.length=true→RR Rs i (vs i) w)→Q .normal (jX a0 (fun _=>true) (entries D vs)) w) :
  (Code.region id ops true).wp P Q a0 w0:=by
 subst hL
 rw [hDn] at hBn
 exact QT D (RR Rs) hm hT hw hk hD hDn hin hBn (jj9 hmono) hs (fun vs w hb h=>hend vs w hb (fun i hi=>h i (by have:=Nat.le_of_ble_eq_true hi;omega)))
end
end Go.Proofs.YtgfkgppomaapiaaGreatDoor.My
end
section
namespace Go.Proofs.YtgfkgppomaapiaaGreatDoor.My
open Go Go.RowKit Go.Proofs.YtgfkgppomaapiaaGreatDoorW.PrintWords Go.Proofs.YtgfkgppomaapiaaGreatDoorW.PrintLast
section
variable {P:Program} {ops:Array Oper} {Q:Exit→Act→World→Prop} {T:Bool × List (List Nat × List Nat)} {B:List Nat}
def Met (B:List Nat) (D:List Tmp) (V:Nat→Value) (a0 a:Act) (i:Nat):Prop :=
 (∀ s,D.contains s=false→a.tmps[s]? = a0.tmps[s]?)∧(∀ j,(B.getD i 0).testBit j=true→a.tmps[D.getD j 0]? = some (V j))∧a.defers=a0.defers
def xU (P:Program) (ops:Array Oper) (Q:Exit→Act→World→Prop) (B:List Nat) (D:List Tmp) (V:Nat→Value) (a0:Act) (Ok:World→Prop) (i:Nat):Prop :=
 ∀ (a:Act) (w:World),Ok w→Met B D V a0 a i→∃ oi,ops[i]? = some oi∧oi.dst=some (D.getD i 0)∧∀ K:Act→World→Prop,K (a.put (some (D.getD i 0)) (V i)) w →
  if Region.wanted oi (yielded ops a.tmps)=true then Oper.wp P oi a w K Q else K (a.put (some (D.getD i 0)) undef) w
theorem LH {D:List Tmp} {V:Nat→Value} {a0:Act} {Ok:World→Prop}:∀ i∈([]:List Nat),xU P ops Q B D V a0 Ok i:=fun _ h=>by cases h
theorem jV {D:List Tmp} {V:Nat→Value} {a0:Act} {Ok:World→Prop} {i:Nat} {rs:List Nat} (h:xU P ops Q B D V a0 Ok i) (hs:∀ j∈rs,xU P ops Q B D V a0 Ok j):∀ j∈i :: rs,xU P ops Q B D V a0 Ok j:=fun j hj=>by
 rcases List.mem_cons.1 hj with rfl | hj
 ·exact h
 ·exact hs j hj
theorem jk5 {oi:Oper} {N:Option Tmp} {a:Act} {w:World} {K:Act→World→Prop} {f:FuncId} {fn:Func} {ops0:Array Operand} {ts:Array TypeId} (hf:P.funcs[f]? = some fn) (hname:(fn.name == "runtime.NumGoroutine")=false) (hb:fn.body.isSome=true) (args:Array Value)
  (hw:Region.wanted oi (yielded ops a.tmps)=true) (hop:oi.op=.call { callee:=.value (.func f),args:=ops0,argTypes:=ts }) (hargs:ops0.map a.eval=args)
  (h:Calls P f args w fun e w'=>∃ chain,e=.panicked chain∧Q (.panic chain) a w'):if Region.wanted oi (yielded ops a.tmps)=true then Oper.wp P oi a w K Q else K (a.put N undef) w:=by
 have he:=QO hf hname hb args w
 have hrun:(execOp a.eval oi).run P w=.ok (.enter f args) w:=by
  unfold execOp
  simp [hop,resolve,Deferred.ofValue,invoke,Act.eval,hargs,he]
 rw [if_pos hw]
 unfold Oper.wp
 rw [hrun,Oper.upon_enter]
 refine h.mono fun e w'' hh=>?_
 obtain ⟨chain,rfl,hk⟩:=hh
 exact hk
theorem JL {id:Nat} {a0:Act} {w0:World} (D:List Tmp) (V:Nat→Value) (c:Nat) (Aft Fin:World→Prop) (L:List Nat) (Lp:List Nat) (T:Bool × List (List Nat × List Nat)) (B:List Nat) (hm:P.follows .mixedOrders=true)
  (hT:rtab .any ops=T) (hL:List.range ops.size=L) (hw:nT T.2 B=true) (hk:qN T.2 L=true) (hD:xQ D=true) (hDn:D.length+1=ops.size)
  (hin:(D.all fun t=>Nat.ble (t+1) a0.tmps.size)=true) (hBn:(L.all fun i=>Nat.ble (B.getD i 0) (2 ^ D.length - 1))=true)
  (hLp:((List.range D.length).all fun i=>i == c || Lp.contains i)=true)
  (hlast:((List.range D.length).all fun j=>(B.getD D.length 0).testBit j)=true)
  (hpure:∀ i∈Lp,xU P ops Q B D V a0 (fun w=>w=w0.drew∨Aft w) i)
  (hcall:∀ (a:Act),Met B D V a0 a c→∃ oi,ops[c]? = some oi∧oi.dst=some (D.getD c 0)∧∀ K:Act→World→Prop,(∀ w',Aft w'→K (a.put (some (D.getD c 0)) (V c)) w') →
   if Region.wanted oi (yielded ops a.tmps)=true then Oper.wp P oi a w0.drew K Q else K (a.put (some (D.getD c 0)) undef) w0.drew)
  (hc:Nat.ble (c+1) D.length=true)
  (hstore:∀ (a:Act) (w:World),Aft w→Met B D V a0 a D.length→∃ om,ops[D.length]? = some om∧om.dst=none∧∀ K:Act→World→Prop,(∀ w',Fin w'→K a w') →
   if Region.wanted om (yielded ops a.tmps)=true then Oper.wp P om a w K Q else K (a.put none undef) w)
  (hend:∀ w,Fin w→Q .normal (jX a0 (fun _=>true) (entries D V)) w) :
  (Code.region id ops true).wp P Q a0 w0:=by
 subst hL
 have hTl:T.2.length=ops.size:=by rw [← hT,oW]
 have hcl:c<D.length:=by have:=Nat.le_of_ble_eq_true hc;omega
 refine qJ (n:=ops.size) (S:=fun _=>True) (ds:=[]) (Array.replicate ops.size false) hm rfl rfl trivial (fun _=>?_)
 have hall:∀ {b:Nat→Bool},(∀ j,j<D.length→b j=true)→jX a0 b (entries D V)=jX a0 (fun _=>true) (entries D V):=by
  intro b hb
  refine uH (fun e he=>?_)
  obtain ⟨j,hj⟩:=List.getElem?_of_mem he
  have hjl:j<D.length:=by have:=(List.getElem?_eq_some_iff.1 hj).1;rwa [lJ] at this
  rw [lG hjl] at hj
  simp only [Option.some.injEq] at hj
  subst hj
  exact hb j hjl
 have hoffs:∀ (b:Nat→Bool) s,D.contains s=false→(jX a0 b (entries D V)).tmps[s]? = a0.tmps[s]?:=by
  intro b s hsD
  refine qV ?_
  rw [List.all_eq_true]
  intro e he
  obtain ⟨j,hj⟩:=List.getElem?_of_mem he
  have hjl:j<D.length:=by have:=(List.getElem?_eq_some_iff.1 hj).1;rwa [lJ] at this
  rw [lG hjl] at hj
  simp only [Option.some.injEq] at hj
  subst hj
  simp only [Bool.not_eq_true',beq_eq_false_iff_ne]
  intro h
  have:D.contains s=true:=by
   rw [List.contains_iff_mem,← h,List.getD_eq_getElem?_getD,List.getElem?_eq_getElem hjl]
   exact List.getElem_mem hjl
  rw [this] at hsD
  cases hsD
 have hons:∀ (b:Nat→Bool) j,j<D.length→b j=true→(jX a0 b (entries D V)).tmps[D.getD j 0]? = some (V j):=by
  intro b j hjD hbj
  refine I8 (e:=(j,D.getD j 0,V j)) j (lG hjD) ?_ hbj ?_
  ·have:=pV (vs:=V) hD hjD
   rw [List.all_append,Bool.and_eq_true] at this
   have h2:=this.2
   rw [List.all_eq_true] at h2 ⊢
   intro x hx
   have:=h2 x hx
   rw [Bool.and_eq_true] at this
   exact this.2
  ·exact List.all_eq_true.1 hin (D.getD j 0) (by rw [List.getD_eq_getElem?_getD,List.getElem?_eq_getElem hjD];exact List.getElem_mem hjD)
 refine inv_ (T:=T) (B:=B) (List.range ops.size) (fun b a w=>a=jX a0 b (entries D V)∧(b D.length=true→(∀ j,j<D.length→b j=true)∧Fin w)∧(b D.length=false→if b c=true then Aft w else w=w0.drew)) hT hw hk ?_ ?_ ?_ ?_
 ·simp only [Bool.and_eq_true,beq_iff_eq,List.length_range,and_true]
  rw [hTl]
  apply List.ext_getElem
  ·simp [lof]
  ·intro i h1 h2
   simp [lof] at h1 ⊢
   exact h1
 ·refine ⟨?_,(fun h=>by cases h),fun _=>by simp⟩
  have:∀ (L:List (Nat × Tmp × Value)) (a:Act),jX a (fun _=>false) L=a:=by
   intro L
   induction L with
   | nil=>intro a;rfl
   | cons e L ih=>intro a;unfold jX;rw [if_neg (by simp)];exact ih a
  rw [this]
 ·intro i hi
  have hil:i<ops.size:=List.mem_range.1 hi
  intro b a w ⟨ha,hfin,hbef⟩ hb hon hoff
  have hdepb:∀ j,(B.getD i 0).testBit j=true→j<D.length∧b j=true:=by
   intro j hj
   have hjn:j<D.length:=by
    rcases Nat.lt_or_ge j D.length with h | h
    ·exact h
    ·have h1:=List.all_eq_true.1 hBn i hi
     have h2:B.getD i 0≤2 ^ D.length - 1:=Nat.le_of_ble_eq_true h1
     have h3:B.getD i 0<2 ^ j:=Nat.lt_of_le_of_lt h2 (Nat.lt_of_lt_of_le (Nat.sub_lt (Nat.two_pow_pos _) Nat.one_pos) (Nat.pow_le_pow_right (by decide) h))
     rw [Nat.testBit_lt_two_pow h3] at hj
     cases hj
   exact ⟨hjn,hon j (by rw [Bool.and_eq_true];exact ⟨by simpa using (by omega:j<ops.size),hj⟩)⟩
  have hmet:Met B D V a0 a i:=by
   subst ha
   exact ⟨hoffs b,fun j hj=>hons b j (hdepb j hj).1 (hdepb j hj).2,(vW b _ _).2⟩
  by_cases hiD:i<D.length
  ·have hne:b D.length=false:=by
    cases hbD:b D.length with
    | false=>rfl
    | true=>rw [(hfin hbD).1 i hiD] at hb;cases hb
   have hbw:=hbef hne
   have hup:up b i D.length=false:=by rw [zG (by omega)];exact hne
   have hnext:a.put (some (D.getD i 0)) (V i)=jX a0 (up b i) (entries D V):=by
    rw [ha]
    exact JS i hb (lG hiD) (by rw [IY];congr 1;funext j;split <;> simp_all) (pV hD hiD)
   by_cases hic:i=c
   ·subst hic
    rw [if_neg (by rw [hb];decide)] at hbw
    subst hbw
    obtain ⟨oi,ho,hdst,hstep⟩:=hcall a hmet
    refine ⟨oi,ho,fun K hK=>?_⟩
    rw [hdst]
    refine hstep K fun w' hw'=>hK.out _ _ ⟨hnext,(fun h=>by rw [hup] at h;cases h),fun _=>?_⟩
    rw [if_pos (yJ b i)]
    exact hw'
   ·have hLi:i∈Lp:=by
     have:=List.all_eq_true.1 hLp i (List.mem_range.2 hiD)
     rw [Bool.or_eq_true,beq_iff_eq] at this
     rcases this with h | h
     ·exact absurd h hic
     ·exact List.contains_iff_mem.1 h
    obtain ⟨oi,ho,hdst,hstep⟩:=hpure i hLi a w (by
     split at hbw
     ·exact .inr hbw
     ·exact .inl hbw) hmet
    refine ⟨oi,ho,fun K hK=>?_⟩
    rw [hdst]
    refine hstep K (hK.out _ _ ⟨hnext,(fun h=>by rw [hup] at h;cases h),fun _=>?_⟩)
    rw [zG (Ne.symm hic)]
    exact hbw
  ·have hiD':i=D.length:=by omega
   subst hiD'
   have hbs:∀ j,j<D.length→b j=true:=fun j hj=>(hdepb j (List.all_eq_true.1 hlast j (List.mem_range.2 hj))).2
   have hbw:=hbef hb
   rw [if_pos (hbs c hcl)] at hbw
   have ha':a=jX a0 (fun _=>true) (entries D V):=by rw [ha,hall hbs]
   subst ha'
   obtain ⟨om,ho,hdst,hstep⟩:=hstore _ w hbw hmet
   refine ⟨om,ho,fun K hK=>?_⟩
   rw [hdst]
   refine hstep K fun w' hw'=>?_
   refine hK.out _ _ ⟨?_,fun _=>⟨fun j hj=>by rw [zG (by omega)];exact hbs j hj,hw'⟩,fun h=>by rw [yJ] at h;cases h⟩
   rw [hall (b:=up b D.length) (fun j hj=>by rw [zG (by omega)];exact hbs j hj)]
 ·intro b a w hallb ⟨ha,hfin,_⟩
  have hb:∀ j,j<D.length+1→b j=true:=fun j hj=>hallb j (by simpa using (by omega:j<ops.size))
  have hf:=hfin (hb _ (Nat.lt_succ_self _))
  rw [ha,hall hf.1]
  exact hend w hf.2
end
end Go.Proofs.YtgfkgppomaapiaaGreatDoor.My
end
namespace Go.Proofs.YtgfkgppomaapiaaGreatDoor.K
open RowKit YtgfkgppomaapiaaGreatDoorW.PrintWords YtgfkgppomaapiaaGreatDoorW.PrintLast YtgfkgppomaapiaaGreatDoorW.PrintMore My
section
theorem XQ:(Tryz.prog.info? 149).map (fun i=>(i.zero,i.size,i.bytes))=some (some (.agg #[(.slice none 0 0),(.int .i64 0)]),2,32):=by kernel_rfl
def nN {α:Type} (d:Kd α) (w:World) (base:Nat) (P:Nat→Prop) (done:List α) (rows:List (List Value)):Prop :=
 ∀ (j:Nat) (p:α) (c:List Value),done[j]? = some p→rows[j]? = some c→d.M w base P p c
theorem nN.move {α:Type} {d:Kd α} {w w':World} {base:Nat} {P:Nat→Prop} {done:List α} {rows:List (List Value)} (h:nN d w base P done rows) (hm:∀ b,P b→base≤b→b<w.heap.size→w'.heap[b]? = w.heap[b]?):nN d w' base P done rows:=fun j p c hj hc =>
 d.M_mono (fun _ hk=>hk.1) (d.M_move (fun k hk=>hm k hk.1 hk.2.1 hk.2.2.1) (d.M_bound (h j p c hj hc)))
theorem nN.bound {α:Type} {d:Kd α} {w:World} {base:Nat} {P:Nat→Prop} {done:List α} {rows:List (List Value)} (h:nN d w base P done rows):nN d w base (fun b=>P b∧b<w.heap.size) done rows:=fun j p c hj hc =>
 d.M_mono (fun _ hk=>⟨hk.1,hk.2.2.1⟩) (d.M_bound (h j p c hj hc))
theorem nN.mono {α:Type} {d:Kd α} {w:World} {base:Nat} {P P':Nat→Prop} {done:List α} {rows:List (List Value)} (h:nN d w base P done rows) (hp:∀ b,P b→P' b):nN d w base P' done rows:=fun j p c hj hc=>d.M_mono hp (h j p c hj hc)
theorem nN.set {α:Type} {d:Kd α} {w:World} {base:Nat} {P:Nat→Prop} {done:List α} {rows:List (List Value)} {k:Nat} (h:nN d w base P done rows) (hk:done.length≤k) (u:List Value):nN d w base P done (rows.set k u):=fun j p c hj hc=>by
 have hjl:=(List.getElem?_eq_some_iff.1 hj).1
 rw [List.getElem?_set_ne (by omega)] at hc
 exact h j p c hj hc
theorem nN.snoc {α:Type} {d:Kd α} {w:World} {base:Nat} {P:Nat→Prop} {done:List α} {rows:List (List Value)} {x:α} {c:List Value} (h:nN d w base P done rows) (hc:rows[done.length]? = some c) (hx:d.M w base P x c):nN d w base P (done ++ [x]) rows:=fun j p c' hj hc'=>by
 rcases Nat.lt_or_ge j done.length with hj' | hj'
 ·rw [List.getElem?_append_left hj'] at hj
  exact h j p c' hj hc'
 ·have hjl:=(List.getElem?_eq_some_iff.1 hj).1
  rw [List.length_append,List.length_singleton] at hjl
  obtain rfl:j=done.length:=by omega
  rw [List.getElem?_append_right (Nat.le_refl _),Nat.sub_self] at hj
  obtain rfl:x=p:=by simpa using hj
  rw [hc] at hc'
  injection hc' with hc'
  subst hc'
  exact hx
theorem nN.grown {α:Type} {d:Kd α} {w w':World} {base g:Nat} {P:Nat→Prop} {done:List α} {rows:List (List Value)} (h:nN d w base P done rows) (hg:w.grownBy w' (some g)) (hlt:g<base):nN d w' base P done rows :=
 h.move (fun b _ hb hl=>hg.block b hl (fun e=>by injection e with e;omega))
theorem nN.other {α:Type} {d:Kd α} {w w':World} {base g:Nat} {P:Nat→Prop} {done:List α} {rows:List (List Value)} (h:nN d w base P done rows) (hg:w.grownBy w' (some g)) (hp:∀ b,P b→b≠g):nN d w' base P done rows :=
 h.move (fun b hb _ hl=>hg.block b hl (fun e=>hp b hb (by injection e)))
theorem PY {α:Type} {d:Kd α} {e:Nat} {w w1:World} {base:Nat} {ok:Nat→Prop} {v:Value} {xs:List α} {g:Nat} (h:d.R e w base ok v xs) (hE:d.E=[]) (hg:w.grownBy w1 (some g)) (hne:some g≠v.ownBlock):d.R e w1 base ok v xs:=by
 have h1:=Kd.R_tight hE h
 have h2:=Kd.R_grown h1 hg (fun k hk e=>hne (by rw [← hk];exact e.symm))
 exact ⟨fun k hk=>h.1 k hk,(by
  obtain ⟨_,inner,ho,hr⟩:=h2
  refine ⟨inner,ho,hr.imp_ (fun p c hp=>?_)⟩
  refine d.M_mono (fun k hk=>?_) (d.M_bound hp)
  obtain ⟨_,_,_,q,hq,_⟩:=hk
  rw [hE] at hq
  cases hq)⟩
theorem P9 {r:List UInt8} (h:many 1 4 r=none):qF r=none:=by unfold qF;rw [h];rfl
theorem QS {r r1:List UInt8} {n:Nat} (h:many 1 4 r=some (n,r1)) (h1:repP (intP 4) n r1=none):qF r=none:=by unfold qF;rw [h];simp only [Option.bind_some];rw [h1];rfl
theorem PU {r r1 r2:List UInt8} {n:Nat} {ks:List Int} (h:many 1 4 r=some (n,r1)) (h1:repP (intP 4) n r1=some (ks,r2)) (h2:number 8 r2=none):qF r=none:=by unfold qF;rw [h];simp only [Option.bind_some];rw [h1];simp only [Option.bind_some];rw [h2];rfl
theorem JJ {r r1 r2 r3:List UInt8} {n m:Nat} {ks:List Int} (h:many 1 4 r=some (n,r1)) (h1:repP (intP 4) n r1=some (ks,r2)) (h2:number 8 r2=some (m,r3)):qF r=some (⟨ks,s64 m⟩,r3):=by unfold qF;rw [h];simp only [Option.bind_some];rw [h1];simp only [Option.bind_some];rw [h2];rfl
theorem TY (m:Nat) (h:m<18446744073709551616):wrap64 (m:Int)=s64 m:=by
 unfold wrap64 s64
 split <;> omega
theorem jh0 (l:List UInt8):numB (l.take 8)<18446744073709551616:=by
 have h1:=yD (l.take 8)
 have h2:(l.take 8).length≤8:=by rw [List.length_take];omega
 have h3:256 ^ (l.take 8).length≤256 ^ 8:=Nat.pow_le_pow_right (by decide) h2
 have h4:256 ^ 8=18446744073709551616:=by decide
 omega
def Short {α:Type} (p:List UInt8→Option (α × List UInt8)):Prop:=∀ l x r,p l=some (x,r)→r.length≤l.length
theorem qE (s:Nat):Short (intP s):=fun l x r h=>by
 obtain ⟨_,_,rfl⟩:=oM h
 rw [List.length_drop];omega
theorem rD {α:Type} {p:List UInt8→Option (α × List UInt8)} (hp:Short p):∀ n,Short (repP p n)
 | 0,l,x,r,h=>by
  simp only [repP,Option.some.injEq,Prod.mk.injEq] at h
  rw [h.2];exact Nat.le_refl _
 | n+1,l,x,r,h=>by
  rw [I4] at h
  obtain ⟨⟨y,r1⟩,h1,h⟩:=Option.bind_eq_some_iff.1 h
  obtain ⟨⟨ys,r2⟩,h2,h⟩:=Option.bind_eq_some_iff.1 h
  simp only [Option.some.injEq,Prod.mk.injEq] at h
  have a:=hp _ _ _ h1
  have b:=rD hp n _ _ _ h2
  rw [← h.2]
  exact Nat.le_trans b a
theorem VC:Short qF:=fun l x r h=>by
 unfold qF at h
 obtain ⟨⟨n,r1⟩,h1,h⟩:=Option.bind_eq_some_iff.1 h
 obtain ⟨⟨ks,r2⟩,h2,h⟩:=Option.bind_eq_some_iff.1 h
 obtain ⟨⟨m,r3⟩,h3,h⟩:=Option.bind_eq_some_iff.1 h
 simp only [Option.some.injEq,Prod.mk.injEq] at h
 have a:=(mQ h1 (by omega)).1
 have b:=rD (qE 4) n _ _ _ h2
 obtain ⟨_,_,hd⟩:=nS h3
 simp only at a b hd
 have c:r3.length≤r2.length:=by rw [hd,List.length_drop];omega
 rw [← h.2]
 omega
theorem LX (rows:List (List Value)) (k:Nat) (u:List Value) (h:k<rows.length):(rows.set k u).getD k []=u:=by
 rw [List.getD_eq_getElem?_getD,List.getElem?_set_self h];rfl
set_option maxRecDepth 20000 in
set_option maxHeartbeats 8000000 in
theorem yG (g:Nat) (l:List UInt8) (w0 w:World) (h:Rd w0 w g l) (hb:Below w0.heap.size w0 w) (hg:w0.heap.size≤g) (hm:(l.length:Int)≤100000) :
  Calls Tryz.prog 116 #[.pointer (some ⟨g,0,none⟩)] w (PP (nC l) (fun xs v w'=>Kd.R k149 149 w' w.heap.size (fun _=>True) v xs) w0 w g):=by
 have HR:=iC.mk h
 have HB:=iC.mk hb
 have hlt:=h.lt
 clear h hb
 cases hmy:many 4 9 l with
 | none =>
  have hn:nC l=none:=by unfold nC;rw [hmy];rfl
  have hcall:=qX 4 9 4 9 rfl rfl (by omega) (by omega) g l w0 w HR.out HB.out hg hmy
  have HN:=iC.mk hn
  clear hmy hn
  go_enter Tryz.func116,Tryz.ntmps116
  go_wp2_with (go_at_call 122;refine hcall.mono ?_;rintro e w1 ⟨rfl,hG⟩)
  exact ⟨rfl,hG,.inr ⟨HN.out,rfl⟩⟩
 | some x =>
  obtain ⟨n,r0⟩:=x
  have hn:nC l=repP qF n r0:=by unfold nC;rw [hmy];rfl
  have hcall:=IP 4 9 4 9 rfl rfl (by omega) (by omega) g l r0 n w0 w HR.out HB.out hg hmy
  have HN:=iC.mk hn
  obtain ⟨hl1,hl2⟩:=mQ hmy (by omega)
  have hn1:(n:Int)≤100000:=by omega
  have hr0:(r0.length:Int)≤100000:=by omega
  have hmk:=xJ (t:=48) (e:=149) Tryz.underlying48 XQ (by omega) n hn1
  clear hmy hn hl1 hl2
  go_enter Tryz.func116,Tryz.ntmps116
  go_wp2_with (go_at_call 122;refine hcall.mono ?_;rintro e w1 ⟨rfl,hR,hG,hle⟩;clear hle;have HR1:=iC.mk hR;have HG1:=iC.mk hG;clear hR hG)
  have HO:=iC.mk (XC (e:=149) (W:=w1) (n:=n) (base:=w.heap.size) (x:=.slice none 0 0) (y:=.int .i64 0) rfl rfl (by omega) HG1.out.size)
  have HG:=iC.mk (iV HG1.out (grown_below (iD (Below.refl _ _) (.cells (madeCells #[.slice none 0 0,.int .i64 0] (n * 2)) 149))))
  have HR2:=iC.mk (Rd.grown HR1.out (grown_below (row:=none) (iD (Below.refl _ _) (.cells (madeCells #[.slice none 0 0,.int .i64 0] (n * 2)) 149))) (by simp))
  clear HR1 HG1 hcall hmk
  obtain ⟨ad,had⟩:∃ ad:Addr,ad=⟨w1.heap.size,0,none⟩:=⟨_,rfl⟩
  rw [← had] at HO ⊢
  obtain ⟨W2,hW⟩:∃ W2,W2=w1.alloc (.cells (madeCells #[.slice none 0 0,.int .i64 0] (n * 2)) 149):=⟨_,rfl⟩
  rw [← hW] at HO HG HR2
  first | rw [← hW] | (rw [show w1.alloc (.cells (madeCells (Value.agg #[.slice none 0 0,.int .i64 0]).cells (n * 2)) 149)=W2 from hW.symm])
  clear hW had
  go_loopw [11] (fun i wr=>∃ (k:Nat) (done:List jQ) (r:List UInt8) (rows:List (List Value)),k≤n∧i=.int .i64 k∧iC (Left qF n k r0 r done)∧(r.length:Int)≤100000∧iC (Rd w0 wr g r)∧iC (RW 149 wr w.heap.size (.slice (some ad) n n) rows)∧iC (rows.length=n)∧iC (nN k149 wr w.heap.size (fun b=>b≠ad.block) done rows)∧iC (w.grownBy wr (some g))) (fun i _=>n - (intOf i).toNat)
  case atStart=>exact ⟨0,[],r0,_,Nat.zero_le _,rfl,⟨Left.start _ _ _⟩,hr0,HR2,HO,⟨List.length_replicate⟩,⟨fun j p c hj _=>by simp at hj⟩,HG⟩
  case round =>
   obtain ⟨k,done,r,rows,hk,rfl,HL,hrl,HRd,HOk,HLEN,HD,HGk⟩:=hrel
   clear HR2 HO HG
   by_cases hkn:k<n
   ·cases hp:many 1 4 r with
    | none =>
     have hcall:=qX 1 4 1 4 rfl rfl (by omega) (by omega) g r w0 wr HRd.out (below_grown HB.out HGk.out hg (Nat.le_refl _)) hg hp
     have HF:=iC.mk (Left.fail HL.out hkn (P9 hp))
     clear hp
     go_wp2_with (go_at_call 122;refine hcall.mono ?_;rintro e w2 ⟨rfl,hG⟩)
     exact ⟨rfl,iV HGk.out hG,.inr ⟨by rw [HN.out];exact HF.out,rfl⟩⟩
    | some x =>
     obtain ⟨nk,r1⟩:=x
     have hcall:=IP 1 4 1 4 rfl rfl (by omega) (by omega) g r r1 nk w0 wr HRd.out (below_grown HB.out HGk.out hg (Nat.le_refl _)) hg hp
     obtain ⟨hl1,hl2⟩:=mQ hp (by omega)
     have hnk:(nk:Int)≤100000:=by omega
     have hr1:(r1.length:Int)≤100000:=by omega
     have hmk:=xJ (t:=47) (e:=3) Tryz.underlying47 info3 (by omega) nk hnk
     have HP:=iC.mk hp
     clear hp hl1 hl2
     obtain ⟨wo,rfl⟩:∃ wo:World,wo=wr:=⟨_,rfl⟩
     obtain ⟨_,_,_,_,_,_,_,_,hadlt,_,_⟩:=ML HOk.out k hkn
     go_wp2_with (go_at_call 122;refine hcall.mono ?_;rintro e w2 ⟨rfl,hR,hG,hle⟩;clear hle;have HR1:=iC.mk hR;have HG1:=iC.mk hG;clear hR;obtain ⟨x0,y0,hrow,z0,z1,f0,f1,hbs,hbl,hset0,_⟩:=ML (Kd.R_below (jT HOk.out hG hlt) (iD (Below.refl _ _) (.cells (madeCells #[.int .i64 0] nk) 3))) k hkn;have HROW:=iC.mk hrow;have HSET:=iC.mk hset0;clear hrow hset0 hG z1 f1 hbl;rename_i junk_;clear junk_)
     clear hcall hmk z0 f0
     obtain ⟨hs3,hg3⟩:=HSET.out (.slice (some ⟨w2.heap.size,0,none⟩) nk nk) rfl
     have hRI0:RI (w2.alloc (.cells (madeCells #[.int .i64 0] nk) 3)) w.heap.size (.slice (some ⟨w2.heap.size,0,none⟩) nk nk) (List.replicate nk 0):=je7 (by omega) (iV HGk.out HG1.out).size
     have hsz2:wo.heap.size≤w2.heap.size:=HG1.out.size
     have hRI:=PY hRI0 rfl hg3 (by simp [Value.ownBlock];omega)
     have hgW:w.grownBy ((w2.alloc (.cells (madeCells #[.int .i64 0] nk) 3)).setCell (ad.add (k * 2)) (.slice (some ⟨w2.heap.size,0,none⟩) nk nk)) (some g) :=
      kF (iV (iV HGk.out HG1.out) (grown_below (iD (Below.refl _ _) _))) hg3 hbs
     have hRd3:=Rd.grown (Rd.grown HR1.out (grown_below (row:=none) (iD (Below.refl _ _) (.cells (madeCells #[.int .i64 0] nk) 3))) (by simp)) hg3 (by intro e;injection e with e;omega)
     have hD3:nN k149 ((w2.alloc (.cells (madeCells #[.int .i64 0] nk) 3)).setCell (ad.add (k * 2)) (.slice (some ⟨w2.heap.size,0,none⟩) nk nk)) w.heap.size (fun b=>b≠ad.block∧b<wo.heap.size) done (rows.set k [.slice (some ⟨w2.heap.size,0,none⟩) nk nk,y0]) :=
      nN.set (HD.out.bound.move (fun b hP hb hl=>by
       have h1:b≠g:=by omega
       have h2:=HG1.out.block b hl (fun e=>h1 (by injection e))
       have h3:(w2.alloc (.cells (madeCells #[.int .i64 0] nk) 3)).heap[b]? = w2.heap[b]?:=Below.heap_alloc _ _ _ (by omega)
       exact (hg3.block b (by simp;omega) (fun e=>hP.1 (by injection e))).trans (h3.trans h2))) (by rw [HL.out.1];exact Nat.le_refl _) _
     have HKB:=iC.mk (show w2.heap.size≠ad.block∧wo.heap.size≤w2.heap.size from ⟨by omega,hsz2⟩)
     have HS3:=iC.mk hs3
     have HRI3:=iC.mk hRI
     have HG3:=iC.mk hgW
     have HRd3:=iC.mk hRd3
     have HD3:=iC.mk hD3
     clear hs3 hg3 hRI0 hRI hgW hRd3 hD3 HSET HR1 HG1 hsz2 HROW
     obtain ⟨kad,hkad⟩:∃ kad:Addr,kad=⟨w2.heap.size,0,none⟩:=⟨_,rfl⟩
     rw [show w2.heap.size=kad.block by rw [hkad]] at HKB
     rw [← hkad] at HS3 HRI3 HG3 HRd3 HD3 ⊢
     obtain ⟨W3,hW3⟩:∃ W3,W3=(w2.alloc (.cells (madeCells #[.int .i64 0] nk) 3)).setCell (ad.add (k * 2)) (.slice (some kad) nk nk):=⟨_,rfl⟩
     rw [← hW3] at HS3 HRI3 HG3 HRd3 HD3
     first | rw [← hW3] | (rw [show (w2.alloc (.cells (madeCells (Value.int .i64 0).cells (nk * 1)) 3)).setCell (ad.add (k * 2)) (.slice (some kad) nk nk)=W3 from by rw [hW3,Nat.mul_one];rfl])
     clear hW3 hkad
     have hadI:(k:Int)<(n:Int):=by omega
     have HKN:=iC.mk hkn
     go_loopw [27] (fun i wi=>∃ (j:Nat) (kd:List Int) (r2:List UInt8),j≤nk∧i=.int .i64 j∧iC (Left (intP 4) nk j r1 r2 kd)∧(r2.length:Int)≤100000∧iC (Rd w0 wi g r2)∧iC (RI wi w.heap.size (.slice (some kad) nk nk) (kd ++ List.replicate (nk - j) 0))∧iC (RW 149 wi w.heap.size (.slice (some ad) n n) (rows.set k [.slice (some kad) nk nk,y0]))∧iC (nN k149 wi w.heap.size (fun b=>b≠ad.block∧b<wo.heap.size) done (rows.set k [.slice (some kad) nk nk,y0]))∧iC (w.grownBy wi (some g))) (fun i _=>nk - (intOf i).toNat)
     case atStart=>exact ⟨0,[],r1,Nat.zero_le _,rfl,⟨Left.start _ _ _⟩,hr1,HRd3,HRI3,HS3,HD3,HG3⟩
     case round =>
      obtain ⟨j,kd,r2,hj,rfl,HLk,hrl2,HRd,HRI,HOk,HD,HGi⟩:=hrel
      clear HRd3 HRI3 HS3 HD3 HG3
      obtain ⟨xx,yy,hrow,hz0,hz1,hf0,hf1,_,hbl2,_,hset1⟩:=ML HOk.out k hkn
      rw [LX _ _ _ (by rw [HLEN.out];exact hkn)] at hrow
      injection hrow with hrow1 hrow2
      injection hrow2 with hrow2 _
      subst hrow1;subst hrow2
      by_cases hjn:j<nk
      ·cases hp4:intP 4 r2 with
       | none =>
        have HP4:=iC.mk hp4
        have HF:=iC.mk (Left.fail HL.out hkn (QS HP.out (Left.fail HLk.out hjn hp4)))
        have Z0:=iC.mk hz0
        clear hp4 hset1 hz1 hf1 hz0
        go_wp2
        refine JL [30,31,32,33,34,35,36,37,38,39] (fun i=>[.slice (some ad) n n,.int .i64 (k:Int),.pointer (some (ad.add (k * 2))),.pointer (some (ad.add (k * 2))),.slice (some kad) nk nk,.int .i64 (j:Int),.pointer (some ⟨g,0,none⟩),.int .u64 0,.int .i64 0,.pointer (some (kad.add j))].getD i undef) 7 (fun _=>False) (fun _=>False) [0,1,2,3,4,5,6,7,8,9,10] [0,1,2,3,4,5,6,8,9] (true,[([],[]),([],[]),([0,1],[0,1]),([2],[2]),([3],[3]),([],[]),([],[]),([6],[6]),([7],[7]),([4,5,0,1,2,3,4,5,6,7,8],[4,5]),([9,8,7,0,1,2,3,4,5,6,7,8],[8,9])]) [0,0,3,7,15,0,0,64,192,511,1023] (by kernel_rfl) (by kernel_rfl) (by kernel_rfl) (by kernel_rfl) (by kernel_rfl) (by kernel_rfl) (by kernel_rfl) (by rfl) (by kernel_rfl) (by kernel_rfl) (by kernel_rfl) ?_ ?_ (by kernel_rfl) ?_ ?_
        ·refine jV ?_ ?_
         ·intro a w' hok ⟨hel,hd,_⟩
          have e3:a.tmps[3]? = some (.slice (some ad) n n):=(hel 3 (by kernel_rfl)).trans (by rfl)
          refine ⟨_,rfl,rfl,fun K hK=>?_⟩
          refine jC (w1:=w') (v:=.slice (some ad) n n) (by rfl) rfl ?_ hK
          go_simp
          (try simp only [iO,iY])
          (try rfl)
          (try (unfold Go.RowKit.wrap64;omega))
         refine jV ?_ ?_
         ·intro a w' hok ⟨hel,hd,_⟩
          have e4:a.tmps[4]? = some (.int .i64 (k:Int)):=(hel 4 (by kernel_rfl)).trans (by rfl)
          refine ⟨_,rfl,rfl,fun K hK=>?_⟩
          refine jC (w1:=w') (v:=.int .i64 (k:Int)) (by rfl) rfl ?_ hK
          go_simp
          (try simp only [iO,iY])
          (try rfl)
          (try (unfold Go.RowKit.wrap64;omega))
         refine jV ?_ ?_
         ·intro a w' hok ⟨hel,hd,_⟩
          have e30:a.tmps[30]? = some (.slice (some ad) n n):=hd 0 (by kernel_rfl)
          have e31:a.tmps[31]? = some (.int .i64 (k:Int)):=hd 1 (by kernel_rfl)
          refine ⟨_,rfl,rfl,fun K hK=>?_⟩
          refine jC (w1:=w') (v:=.pointer (some (ad.add (k * 2)))) (by rfl) rfl ?_ hK
          go_simp
          (try simp only [iO,iY])
          (try rfl)
          (try (unfold Go.RowKit.wrap64;omega))
         refine jV ?_ ?_
         ·intro a w' hok ⟨hel,hd,_⟩
          have e32:a.tmps[32]? = some (.pointer (some (ad.add (k * 2)))):=hd 2 (by kernel_rfl)
          refine ⟨_,rfl,rfl,fun K hK=>?_⟩
          refine jC (w1:=w') (v:=.pointer (some (ad.add (k * 2)))) (by rfl) rfl ?_ hK
          go_simp
          (try simp only [iO,iY])
          (try rfl)
          (try (unfold Go.RowKit.wrap64;omega))
         refine jV ?_ ?_
         ·intro a w' hok ⟨hel,hd,_⟩
          have e33:a.tmps[33]? = some (.pointer (some (ad.add (k * 2)))):=hd 3 (by kernel_rfl)
          have hz:w'.cell? (ad.add (k * 2))=some (.slice (some kad) nk nk):=by (rcases hok with rfl | hf;exact Z0.out;exact hf.elim)
          refine ⟨_,rfl,rfl,fun K hK=>?_⟩
          refine jC (w1:=w') (v:=.slice (some kad) nk nk) (by rfl) rfl ?_ hK
          go_simp
          (try simp only [iO,iY])
          (try rfl)
          (try (unfold Go.RowKit.wrap64;omega))
         refine jV ?_ ?_
         ·intro a w' hok ⟨hel,hd,_⟩
          have e5:a.tmps[5]? = some (.int .i64 (j:Int)):=(hel 5 (by kernel_rfl)).trans (by rfl)
          refine ⟨_,rfl,rfl,fun K hK=>?_⟩
          refine jC (w1:=w') (v:=.int .i64 (j:Int)) (by rfl) rfl ?_ hK
          go_simp
          (try simp only [iO,iY])
          (try rfl)
          (try (unfold Go.RowKit.wrap64;omega))
         refine jV ?_ ?_
         ·intro a w' hok ⟨hel,hd,_⟩
          have e0:a.tmps[0]? = some (.pointer (some ⟨g,0,none⟩)):=(hel 0 (by kernel_rfl)).trans (by rfl)
          refine ⟨_,rfl,rfl,fun K hK=>?_⟩
          refine jC (w1:=w') (v:=.pointer (some ⟨g,0,none⟩)) (by rfl) rfl ?_ hK
          go_simp
          (try simp only [iO,iY])
          (try rfl)
          (try (unfold Go.RowKit.wrap64;omega))
         refine jV ?_ ?_
         ·intro a w' hok ⟨hel,hd,_⟩
          have e37:a.tmps[37]? = some (.int .u64 0):=hd 7 (by kernel_rfl)
          refine ⟨_,rfl,rfl,fun K hK=>?_⟩
          refine jC (w1:=w') (v:=.int .i64 0) (by rfl) rfl ?_ hK
          go_simp
          (try simp only [iO,iY])
          (try rfl)
          (try (unfold Go.RowKit.wrap64;omega))
         refine jV ?_ ?_
         ·intro a w' hok ⟨hel,hd,_⟩
          have e34:a.tmps[34]? = some (.slice (some kad) nk nk):=hd 4 (by kernel_rfl)
          have e35:a.tmps[35]? = some (.int .i64 (j:Int)):=hd 5 (by kernel_rfl)
          refine ⟨_,rfl,rfl,fun K hK=>?_⟩
          refine jC (w1:=w') (v:=.pointer (some (kad.add j))) (by rfl) rfl ?_ hK
          go_simp
          (try simp only [iO,iY])
          (try rfl)
          (try (unfold Go.RowKit.wrap64;omega))
         exact LH
        ·intro a ⟨hel,hd,hdef⟩
         have e36:a.tmps[36]? = some (.pointer (some ⟨g,0,none⟩)):=hd 6 (by kernel_rfl)
         refine ⟨_,rfl,rfl,fun K hK=>?_⟩
         refine jk5 Tryz.func114 (by kernel_rfl) rfl #[.pointer (some ⟨g,0,none⟩),(Value.int IntKind.i64 4)] (by rfl) rfl (by first | (simp only [List.map_toArray,List.map_cons,List.map_nil,Act.eval,Array.getD_eq_getD_getElem?,Option.getD_some,e36];done) | (simp only [List.map_toArray,List.map_cons,List.map_nil,Act.eval,Array.getD_eq_getD_getElem?,Option.getD_some,e36];rfl)) ?_
         refine (kG 4 4 rfl g r2 w0 wr.drew HRd.out (lX HP4.out)).mono ?_
         rintro e_ w2_ ⟨rfl,hG⟩
         exact ⟨_,rfl,hdef,iV HGi.out ⟨hG.os,hG.tape,hG.output,hG.size,hG.block⟩,.inr ⟨by rw [HN.out];exact HF.out,rfl⟩⟩
        ·intro a w' hA ⟨hel,hd,_⟩
         exact hA.elim
        ·intro w' hF
         exact hF.elim
       | some x =>
        obtain ⟨x,r3⟩:=x
        obtain ⟨hs1,hx,hr3⟩:=oM hp4
        have hr3l:=qE 4 _ _ _ hp4
        have HN1:=iC.mk (Left.next HLk.out hjn hp4)
        have hcall:=nZ 4 4 rfl (by omega) g r2 w0 wr.drew HRd.out (iW (below_grown HB.out HGi.out hg (Nat.le_refl _))) hs1
        have hsm:=oC r2 4 (by omega)
        rw [← hr3] at hcall
        obtain ⟨m,hm1⟩:∃ m,m=numB (r2.take 4):=⟨_,rfl⟩
        rw [← hm1] at hcall hsm hx
        subst hx
        have HCALL:=iC.mk hcall
        have Z0:=iC.mk hz0
        have HBL2:=iC.mk hbl2
        clear hp4 hr3 hm1 hs1 hcall hset1 hz1 hf1 hz0
        go_wp2
        refine JL [30,31,32,33,34,35,36,37,38,39] (fun i=>[.slice (some ad) n n,.int .i64 (k:Int),.pointer (some (ad.add (k * 2))),.pointer (some (ad.add (k * 2))),.slice (some kad) nk nk,.int .i64 (j:Int),.pointer (some ⟨g,0,none⟩),.int .u64 (m:Int),.int .i64 (m:Int),.pointer (some (kad.add j))].getD i undef) 7 (fun W=>Rd w0 W g r3∧wr.grownBy W (some g)) (fun W=>∃ W1,(Rd w0 W1 g r3∧wr.grownBy W1 (some g))∧W=W1.setCell (kad.add j) (.int .i64 (m:Int))) [0,1,2,3,4,5,6,7,8,9,10] [0,1,2,3,4,5,6,8,9] (true,[([],[]),([],[]),([0,1],[0,1]),([2],[2]),([3],[3]),([],[]),([],[]),([6],[6]),([7],[7]),([4,5,0,1,2,3,4,5,6,7,8],[4,5]),([9,8,7,0,1,2,3,4,5,6,7,8],[8,9])]) [0,0,3,7,15,0,0,64,192,511,1023] (by kernel_rfl) (by kernel_rfl) (by kernel_rfl) (by kernel_rfl) (by kernel_rfl) (by kernel_rfl) (by kernel_rfl) (by rfl) (by kernel_rfl) (by kernel_rfl) (by kernel_rfl) ?_ ?_ (by kernel_rfl) ?_ ?_
        ·refine jV ?_ ?_
         ·intro a w' hok ⟨hel,hd,_⟩
          have e3:a.tmps[3]? = some (.slice (some ad) n n):=(hel 3 (by kernel_rfl)).trans (by rfl)
          refine ⟨_,rfl,rfl,fun K hK=>?_⟩
          refine jC (w1:=w') (v:=.slice (some ad) n n) (by rfl) rfl ?_ hK
          go_simp
          (try simp only [iO,iY])
          (try rfl)
          (try (unfold Go.RowKit.wrap64;omega))
         refine jV ?_ ?_
         ·intro a w' hok ⟨hel,hd,_⟩
          have e4:a.tmps[4]? = some (.int .i64 (k:Int)):=(hel 4 (by kernel_rfl)).trans (by rfl)
          refine ⟨_,rfl,rfl,fun K hK=>?_⟩
          refine jC (w1:=w') (v:=.int .i64 (k:Int)) (by rfl) rfl ?_ hK
          go_simp
          (try simp only [iO,iY])
          (try rfl)
          (try (unfold Go.RowKit.wrap64;omega))
         refine jV ?_ ?_
         ·intro a w' hok ⟨hel,hd,_⟩
          have e30:a.tmps[30]? = some (.slice (some ad) n n):=hd 0 (by kernel_rfl)
          have e31:a.tmps[31]? = some (.int .i64 (k:Int)):=hd 1 (by kernel_rfl)
          refine ⟨_,rfl,rfl,fun K hK=>?_⟩
          refine jC (w1:=w') (v:=.pointer (some (ad.add (k * 2)))) (by rfl) rfl ?_ hK
          go_simp
          (try simp only [iO,iY])
          (try rfl)
          (try (unfold Go.RowKit.wrap64;omega))
         refine jV ?_ ?_
         ·intro a w' hok ⟨hel,hd,_⟩
          have e32:a.tmps[32]? = some (.pointer (some (ad.add (k * 2)))):=hd 2 (by kernel_rfl)
          refine ⟨_,rfl,rfl,fun K hK=>?_⟩
          refine jC (w1:=w') (v:=.pointer (some (ad.add (k * 2)))) (by rfl) rfl ?_ hK
          go_simp
          (try simp only [iO,iY])
          (try rfl)
          (try (unfold Go.RowKit.wrap64;omega))
         refine jV ?_ ?_
         ·intro a w' hok ⟨hel,hd,_⟩
          have e33:a.tmps[33]? = some (.pointer (some (ad.add (k * 2)))):=hd 3 (by kernel_rfl)
          have hz:w'.cell? (ad.add (k * 2))=some (.slice (some kad) nk nk):=by (rcases hok with rfl | hf;exact Z0.out;exact hf.2.cell Z0.out (by rw [show (ad.add (k * 2)).block=ad.block from by (unfold Addr.add;split <;> rfl)];intro e;injection e with e;omega))
          refine ⟨_,rfl,rfl,fun K hK=>?_⟩
          refine jC (w1:=w') (v:=.slice (some kad) nk nk) (by rfl) rfl ?_ hK
          go_simp
          (try simp only [iO,iY])
          (try rfl)
          (try (unfold Go.RowKit.wrap64;omega))
         refine jV ?_ ?_
         ·intro a w' hok ⟨hel,hd,_⟩
          have e5:a.tmps[5]? = some (.int .i64 (j:Int)):=(hel 5 (by kernel_rfl)).trans (by rfl)
          refine ⟨_,rfl,rfl,fun K hK=>?_⟩
          refine jC (w1:=w') (v:=.int .i64 (j:Int)) (by rfl) rfl ?_ hK
          go_simp
          (try simp only [iO,iY])
          (try rfl)
          (try (unfold Go.RowKit.wrap64;omega))
         refine jV ?_ ?_
         ·intro a w' hok ⟨hel,hd,_⟩
          have e0:a.tmps[0]? = some (.pointer (some ⟨g,0,none⟩)):=(hel 0 (by kernel_rfl)).trans (by rfl)
          refine ⟨_,rfl,rfl,fun K hK=>?_⟩
          refine jC (w1:=w') (v:=.pointer (some ⟨g,0,none⟩)) (by rfl) rfl ?_ hK
          go_simp
          (try simp only [iO,iY])
          (try rfl)
          (try (unfold Go.RowKit.wrap64;omega))
         refine jV ?_ ?_
         ·intro a w' hok ⟨hel,hd,_⟩
          have e37:a.tmps[37]? = some (.int .u64 (m:Int)):=hd 7 (by kernel_rfl)
          refine ⟨_,rfl,rfl,fun K hK=>?_⟩
          refine jC (w1:=w') (v:=.int .i64 (m:Int)) (by rfl) rfl ?_ hK
          go_simp
          (try simp only [iO,iY])
          (try rfl)
          (try (unfold Go.RowKit.wrap64;omega))
         refine jV ?_ ?_
         ·intro a w' hok ⟨hel,hd,_⟩
          have e34:a.tmps[34]? = some (.slice (some kad) nk nk):=hd 4 (by kernel_rfl)
          have e35:a.tmps[35]? = some (.int .i64 (j:Int)):=hd 5 (by kernel_rfl)
          refine ⟨_,rfl,rfl,fun K hK=>?_⟩
          refine jC (w1:=w') (v:=.pointer (some (kad.add j))) (by rfl) rfl ?_ hK
          go_simp
          (try simp only [iO,iY])
          (try rfl)
          (try (unfold Go.RowKit.wrap64;omega))
         exact LH
        ·intro a ⟨hel,hd,hdef⟩
         have e36:a.tmps[36]? = some (.pointer (some ⟨g,0,none⟩)):=hd 6 (by kernel_rfl)
         refine ⟨_,rfl,rfl,fun K hK=>?_⟩
         refine oD Tryz.func114 (by kernel_rfl) rfl #[.pointer (some ⟨g,0,none⟩),(Value.int IntKind.i64 4)] (by rfl) rfl rfl (by first | (simp only [List.map_toArray,List.map_cons,List.map_nil,Act.eval,Array.getD_eq_getD_getElem?,Option.getD_some,e36];done) | (simp only [List.map_toArray,List.map_cons,List.map_nil,Act.eval,Array.getD_eq_getD_getElem?,Option.getD_some,e36];rfl)) ?_
         refine HCALL.out.mono ?_
         rintro e_ w2_ ⟨rfl,hR,hG⟩
         exact ⟨_,rfl,hK _ ⟨hR,⟨hG.os,hG.tape,hG.output,hG.size,hG.block⟩⟩⟩
        ·intro a w' hA ⟨hel,hd,_⟩
         have e39:a.tmps[39]? = some (.pointer (some (kad.add j))):=hd 9 (by kernel_rfl)
         have e38:a.tmps[38]? = some (.int .i64 (m:Int)):=hd 8 (by kernel_rfl)
         obtain ⟨⟨old,ho⟩,hf,_⟩:=jk7 (jT HRI.out hA.2 hlt) j hjn (m:Int)
         refine ⟨_,rfl,rfl,fun K hK=>?_⟩
         refine j2_ (w1:=w'.setCell (kad.add j) (.int .i64 (m:Int))) (by rfl) rfl ?_ (hK _ ?_)
         ·go_simp
          (try rfl)
         ·exact ⟨w',hA,rfl⟩
        ·intro w' hF
         rw [show entries [30,31,32,33,34,35,36,37,38,39] (fun i=>[.slice (some ad) n n,.int .i64 (k:Int),.pointer (some (ad.add (k * 2))),.pointer (some (ad.add (k * 2))),.slice (some kad) nk nk,.int .i64 (j:Int),.pointer (some ⟨g,0,none⟩),.int .u64 (m:Int),.int .i64 (m:Int),.pointer (some (kad.add j))].getD i undef)=[(0,30,.slice (some ad) n n),(1,31,.int .i64 (k:Int)),(2,32,.pointer (some (ad.add (k * 2)))),(3,33,.pointer (some (ad.add (k * 2)))),(4,34,.slice (some kad) nk nk),(5,35,.int .i64 (j:Int)),(6,36,.pointer (some ⟨g,0,none⟩)),(7,37,.int .u64 (m:Int)),(8,38,.int .i64 (m:Int)),(9,39,.pointer (some (kad.add j)))] from rfl]
         simp only [jX,if_true,Act.put,sb_,sz_,ss_,List.map_toArray,List.map_cons,List.map_nil]
         obtain ⟨W4,⟨hR4,hG4⟩,rfl⟩:=hF
         obtain ⟨_,_,hbk,hset,hgr⟩:=jk7 (jT HRI.out hG4 hlt) j hjn (m:Int)
         have HSI:=iC.mk hset
         have HGI:=iC.mk (kF (iV HGi.out hG4) hgr hbk)
         have HRR:=iC.mk (Rd.grown hR4 hgr (by intro e;injection e with e;omega))
         have HOI:=iC.mk (PY (jT HOk.out hG4 hlt) rfl hgr (by simp [Value.ownBlock];exact HKB.out.1))
         have HDI:=iC.mk (nN.other (nN.grown HD.out hG4 hlt) hgr (fun b hb e=>by have:=HKB.out.2;omega))
         clear hset hgr hR4 hG4 hbk
         go_wp2
         go_roundw
         case rel=>exact ⟨j+1,kd ++ [(m:Int)],r3,by omega,by go_num,HN1,by omega,HRR,⟨by rw [← QB _ _ _ _ _ HLk.out.1 hjn];exact HSI.out⟩,HOI,HDI,HGI⟩
         case measure=>simp [intOf];omega
      ·obtain rfl:j=nk:=by omega
       have hRI:=HRI.out
       rw [Nat.sub_self,List.replicate_zero,List.append_nil] at hRI
       have hL4:=Left.done HLk.out
       cases hp8:number 8 r2 with
       | none =>
        have hcall:=kG 8 8 rfl g r2 w0 wr HRd.out (vV hp8)
        have HF:=iC.mk (Left.fail HL.out hkn (PU HP.out hL4 hp8))
        clear hp8 hL4 hset1 hRI
        go_wp2_with (go_at_call 114;refine hcall.mono ?_;rintro e w4 ⟨rfl,hG⟩)
        exact ⟨rfl,iV HGi.out hG,.inr ⟨by rw [HN.out];exact HF.out,rfl⟩⟩
       | some x =>
        obtain ⟨m,r3⟩:=x
        obtain ⟨hs8,hm8,hr8⟩:=nS hp8
        have HN1:=iC.mk (Left.next HL.out hkn (JJ HP.out hL4 hp8))
        have hcall:=nZ 8 8 rfl (by omega) g r2 w0 wr HRd.out (below_grown HB.out HGi.out hg (Nat.le_refl _)) hs8
        rw [← hm8,← hr8] at hcall
        have hmb:m<18446744073709551616:=by rw [hm8];exact jh0 _
        have hw64:=TY m hmb
        have hr3l:(r3.length:Int)≤100000:=by rw [hr8,List.length_drop];omega
        have HRIx:=iC.mk hRI
        have HMB:=iC.mk hmb
        have hmI:(m:Int)<18446744073709551616:=by omega
        clear hp8 hL4 hset1 hRI hm8 hr8 hs8 hmb hz0 hz1 hf0 hf1 hbl2
        go_wp2_with (go_at_call 114;refine hcall.mono ?_;rintro e w4 ⟨rfl,hR,hG⟩;obtain ⟨xx,yy,hrow,hz0,hz1,hf0,hf1,_,hbl2,_,hset1⟩:=ML (jT HOk.out hG hlt) k hkn;rw [LX _ _ _ (by rw [HLEN.out];exact hkn)] at hrow;injection hrow with hrow1 hrow2;subst hrow1;clear hrow2;have HSET1:=iC.mk hset1;have HR4:=iC.mk hR;have HG4:=iC.mk hG;clear hset1 hR hG hz0 hf0)
        obtain ⟨hsV,hgV⟩:=HSET1.out (.int .i64 (s64 m)) rfl
        rw [List.set_set] at hsV
        have HGV:=iC.mk (kF (iV HGi.out HG4.out) hgV hbs)
        have HRV:=iC.mk (Rd.grown HR4.out hgV (by intro e;injection e with e;omega))
        have hRIk:=Kd.R_tight rfl (PY (jT HRIx.out HG4.out hlt) rfl hgV (by simp [Value.ownBlock];intro e;exact HKB.out.1 e.symm))
        have hDk:=(nN.other (nN.grown HD.out HG4.out hlt) hgV (fun b hb=>hb.1)).mono (fun b hb=>hb.1)
        have hDk':=hDk.set (k:=k) (by rw [HL.out.1];exact Nat.le_refl _) [.slice (some kad) j j,.int .i64 (s64 m)]
        rw [List.set_set] at hDk'
        have hDone:=hDk'.snoc (x:=⟨kd,s64 m⟩) (c:=[.slice (some kad) j j,.int .i64 (s64 m)]) (by rw [HL.out.1];exact List.getElem?_set_self (by rw [HLEN.out];exact hkn)) (zK _ _ _ ⟨kd,s64 m⟩ (Kd.R_mono hRIk (fun b hb=>by
         have hb':kad.block=b:=by simpa [Value.ownBlock] using hb.symm
         rw [← hb'];exact HKB.out.1)))
        have HDONE:=iC.mk hDone
        have HSV:=iC.mk hsV
        have HLEN2:=iC.mk (show (rows.set k [.slice (some kad) j j,.int .i64 (s64 m)]).length=n from by rw [List.length_set];exact HLEN.out)
        clear hsV hgV hRIk hDk hDk' hDone hcall
        go_roundw
        case rel=>exact ⟨k+1,done ++ [⟨kd,s64 m⟩],r3,_,by omega,by go_num,HN1,hr3l,HRV,HSV,HLEN2,HDONE,HGV⟩
        case measure=>simp [intOf];omega
   ·obtain rfl:k=n:=by omega
    go_wp2
    go_ret
    refine ⟨HGk.out,.inl ⟨done,r,_,by rw [HN.out];exact Left.done HL.out,rfl,?_,HRd.out⟩⟩
    refine N7 rfl HOk.out (by rw [HL.out.1,HLEN.out]) (fun _ _=>trivial) (fun j p c hj hc=>?_)
    exact k149.M_mono (fun b hb=>⟨trivial,by simp [Value.ownBlock];exact hb⟩) (HD.out j p c hj hc)
end
section
theorem P5 {r:List UInt8} (h:intP 4 r=none):mY r=none:=by unfold mY;rw [h];rfl
theorem O4 {r r1:List UInt8} {x:Int} (h:intP 4 r=some (x,r1)) (h1:nC r1=none):mY r=none:=by unfold mY;rw [h];simp only [Option.bind_some];rw [h1];rfl
theorem QN {r r1 r2:List UInt8} {x:Int} {fs:List jQ} (h:intP 4 r=some (x,r1)) (h1:nC r1=some (fs,r2)):mY r=some (⟨x,fs⟩,r2):=by unfold mY;rw [h];simp only [Option.bind_some];rw [h1];rfl
theorem vO:Short nC:=fun l x r h=>by
 unfold nC at h
 obtain ⟨⟨n,r1⟩,h1,h⟩:=Option.bind_eq_some_iff.1 h
 have a:=(mQ h1 (by omega)).1
 have b:=rD VC n _ _ _ h
 simp only at a b
 omega
set_option maxRecDepth 20000 in
set_option maxHeartbeats 8000000 in
theorem yU (g:Nat) (l:List UInt8) (w0 w:World) (h:Rd w0 w g l) (hb:Below w0.heap.size w0 w) (hg:w0.heap.size≤g) (hm:(l.length:Int)≤100000) :
  Calls Tryz.prog 118 #[.pointer (some ⟨g,0,none⟩)] w (PP (lI l) (fun xs v w'=>Kd.R k114 114 w' w.heap.size (fun _=>True) v xs) w0 w g):=by
 have HR:=iC.mk h
 have HB:=iC.mk hb
 have hlt:=h.lt
 clear h hb
 cases hmy:many 4 8 l with
 | none =>
  have hn:lI l=none:=by unfold lI;rw [hmy];rfl
  have hcall:=qX 4 8 4 8 rfl rfl (by omega) (by omega) g l w0 w HR.out HB.out hg hmy
  have HN:=iC.mk hn
  clear hmy hn
  go_enter Tryz.func118,Tryz.ntmps118
  go_wp2_with (go_at_call 122;refine hcall.mono ?_;rintro e w1 ⟨rfl,hG⟩)
  exact ⟨rfl,hG,.inr ⟨HN.out,rfl⟩⟩
 | some x =>
  obtain ⟨n,r0⟩:=x
  have hn:lI l=repP mY n r0:=by unfold lI;rw [hmy];rfl
  have hcall:=IP 4 8 4 8 rfl rfl (by omega) (by omega) g l r0 n w0 w HR.out HB.out hg hmy
  have HN:=iC.mk hn
  obtain ⟨hl1,hl2⟩:=mQ hmy (by omega)
  have hn1:(n:Int)≤100000:=by omega
  have hr0:(r0.length:Int)≤100000:=by omega
  have hmk:=xJ (t:=52) (e:=114) Tryz.underlying52 jg2 (by omega) n hn1
  clear hmy hn hl1 hl2
  go_enter Tryz.func118,Tryz.ntmps118
  go_wp2_with (go_at_call 122;refine hcall.mono ?_;rintro e w1 ⟨rfl,hR,hG,hle⟩;clear hle;have HR1:=iC.mk hR;have HG1:=iC.mk hG;clear hR hG)
  have HO:=iC.mk (XC (e:=114) (W:=w1) (n:=n) (base:=w.heap.size) (x:=.int .u32 0) (y:=.slice none 0 0) rfl rfl (by omega) HG1.out.size)
  have HG:=iC.mk (iV HG1.out (grown_below (iD (Below.refl _ _) (.cells (madeCells #[.int .u32 0,.slice none 0 0] (n * 2)) 114))))
  have HR2:=iC.mk (Rd.grown HR1.out (grown_below (row:=none) (iD (Below.refl _ _) (.cells (madeCells #[.int .u32 0,.slice none 0 0] (n * 2)) 114))) (by simp))
  clear HR1 HG1 hcall hmk
  obtain ⟨ad,had⟩:∃ ad:Addr,ad=⟨w1.heap.size,0,none⟩:=⟨_,rfl⟩
  rw [← had] at HO ⊢
  obtain ⟨W2,hW⟩:∃ W2,W2=w1.alloc (.cells (madeCells #[.int .u32 0,.slice none 0 0] (n * 2)) 114):=⟨_,rfl⟩
  rw [← hW] at HO HG HR2
  first | rw [← hW] | (rw [show w1.alloc (.cells (madeCells (Value.agg #[.int .u32 0,.slice none 0 0]).cells (n * 2)) 114)=W2 from hW.symm])
  clear hW had
  go_loopw [10] (fun i wr=>∃ (k:Nat) (done:List jJ) (r:List UInt8) (rows:List (List Value)),k≤n∧i=.int .i64 k∧iC (Left mY n k r0 r done)∧(r.length:Int)≤100000∧iC (Rd w0 wr g r)∧iC (RW 114 wr w.heap.size (.slice (some ad) n n) rows)∧iC (rows.length=n)∧iC (nN k114 wr w.heap.size (fun b=>b≠ad.block) done rows)∧iC (w.grownBy wr (some g))) (fun i _=>n - (intOf i).toNat)
  case atStart=>exact ⟨0,[],r0,_,Nat.zero_le _,rfl,⟨Left.start _ _ _⟩,hr0,HR2,HO,⟨List.length_replicate⟩,⟨fun j p c hj _=>by simp at hj⟩,HG⟩
  case round =>
   obtain ⟨k,done,r,rows,hk,rfl,HL,hrl,HRd,HOk,HLEN,HD,HGk⟩:=hrel
   clear HR2 HO HG
   by_cases hkn:k<n
   ·cases hp:intP 4 r with
    | none =>
     have hcall:=kG 4 4 rfl g r w0 wr HRd.out (lX hp)
     have HF:=iC.mk (Left.fail HL.out hkn (P5 hp))
     clear hp
     go_wp2_with (go_at_call 114;refine hcall.mono ?_;rintro e w2 ⟨rfl,hG⟩)
     exact ⟨rfl,iV HGk.out hG,.inr ⟨by rw [HN.out];exact HF.out,rfl⟩⟩
    | some x =>
     obtain ⟨x,r1⟩:=x
     obtain ⟨hs1,hx,hr1⟩:=oM hp
     have hr1l:=qE 4 _ _ _ hp
     have hr1I:(r1.length:Int)≤100000:=by omega
     have hcall:=nZ 4 4 rfl (by omega) g r w0 wr HRd.out (below_grown HB.out HGk.out hg (Nat.le_refl _)) hs1
     have hsm:=oC r 4 (by omega)
     rw [← hr1] at hcall
     obtain ⟨m,hm1⟩:∃ m,m=numB (r.take 4):=⟨_,rfl⟩
     rw [← hm1] at hcall hsm hx
     subst hx
     have HP:=iC.mk hp
     clear hr1 hm1 hs1 hp hr1l
     go_wp2_with fail
     refine hcall.mono ?_
     rintro e w2 ⟨rfl,hR,hG⟩
     obtain ⟨x0,y0,hrow,z0,z1,f0,f1,hbs,hbl,hset0,_⟩:=ML (jT HOk.out hG hlt) k hkn
     obtain ⟨hs0,hg0⟩:=hset0 (.int .u32 (m:Int)) rfl
     have HGR:=iC.mk (kF (iV HGk.out hG) hg0 hbs)
     have HRR:=iC.mk (Rd.grown hR hg0 (by (intro e;injection e with e;omega)))
     have HS0:=iC.mk hs0
     have HD0:=iC.mk ((nN.other (nN.grown HD.out hG hlt) hg0 (fun b hb=>hb)).set (k:=k) (by rw [HL.out.1];exact Nat.le_refl _) [.int .u32 (m:Int),y0])
     clear hset0 hs0 hg0 hR hG hrow z1 f1 hcall
     go_wp2_with fail
     refine (yG g r1 w0 _ HRR.out (below_grown HB.out HGR.out hg (Nat.le_refl _)) hg hr1I).mono ?_
     intro e w3 hpp
     cases hp2:nC r1 with
     | none =>
      obtain ⟨rfl,hG⟩:=hpp.short hp2
      have HF:=iC.mk (Left.fail HL.out hkn (O4 HP.out hp2))
      clear hp2 hpp
      go_wp2
      exact ⟨rfl,iV HGR.out hG,.inr ⟨by rw [HN.out];exact HF.out,rfl⟩⟩
     | some y =>
      obtain ⟨fs,r2⟩:=y
      obtain ⟨v,rfl,hv,hR,hG⟩:=hpp.ok hp2
      have HN1:=iC.mk (Left.next HL.out hkn (QN HP.out hp2))
      have hr2l:=vO _ _ _ hp2
      have hr2I:(r2.length:Int)≤100000:=by omega
      obtain ⟨x1,y1,hrow,z0',z1,f0',f1,hbs1,hbl1,_,hset1⟩:=ML (jT HS0.out hG hlt) k hkn
      rw [LX _ _ _ (by rw [HLEN.out];exact hkn)] at hrow
      injection hrow with hrow1 hrow2
      subst hrow1
      obtain ⟨Av,cv,rfl⟩:=Kd.R_slice hv
      obtain ⟨hs1,hg1⟩:=hset1 (.slice Av fs.length cv) rfl
      rw [List.set_set] at hs1
      have hvb:=Kd.R_lower (Kd.R_mono (Kd.R_bound hv) (ok':=fun b=>b≠ad.block) (fun b hb=>by have:=hb.2.1;simp at this;omega)) (HGR.out.size)
      have hvb1:=Kd.R_grown hvb hg1 (fun b hb e=>hb (by injection e))
      have hDk:=(nN.other (nN.grown HD0.out hG hlt) hg1 (fun b hb=>hb)).set (k:=k) (by rw [HL.out.1];exact Nat.le_refl _) [.int .u32 (m:Int),.slice Av fs.length cv]
      rw [List.set_set] at hDk
      have hDone:=hDk.snoc (x:=⟨(m:Int),fs⟩) (c:=[.int .u32 (m:Int),.slice Av fs.length cv]) (by rw [HL.out.1];exact List.getElem?_set_self (by rw [HLEN.out];exact hkn)) (MB _ _ _ ⟨(m:Int),fs⟩ hvb1)
      have HDONE:=iC.mk hDone
      have HSV:=iC.mk hs1
      have HGV:=iC.mk (kF (iV HGR.out hG) hg1 hbs1)
      have HRV:=iC.mk (Rd.grown hR hg1 (by (intro e;injection e with e;omega)))
      have HLEN2:=iC.mk (show (rows.set k [.int .u32 (m:Int),.slice Av fs.length cv]).length=n from by rw [List.length_set];exact HLEN.out)
      clear hset1 hs1 hg1 hR hG hrow2 z0 f0 z0' f0' hv hvb hvb1 hDk hDone hpp hp2 hr2l
      go_wp2
      go_roundw
      case rel=>exact ⟨k+1,done ++ [⟨(m:Int),fs⟩],r2,_,by omega,by go_num,HN1,hr2I,HRV,HSV,HLEN2,HDONE,HGV⟩
      case measure=>simp [intOf];omega
   ·obtain rfl:k=n:=by omega
    go_wp2
    go_ret
    refine ⟨HGk.out,.inl ⟨done,r,_,by rw [HN.out];exact Left.done HL.out,rfl,?_,HRd.out⟩⟩
    refine N7 rfl HOk.out (by rw [HL.out.1,HLEN.out]) (fun _ _=>trivial) (fun j p c hj hc=>?_)
    exact k114.M_mono (fun b hb=>⟨trivial,by simp [Value.ownBlock];exact hb⟩) (HD.out j p c hj hc)
end
end Go.Proofs.YtgfkgppomaapiaaGreatDoor.K
section
namespace Go.Proofs.YtgfkgppomaapiaaGreatDoor.K
open RowKit YtgfkgppomaapiaaGreatDoorW.PrintWords YtgfkgppomaapiaaGreatDoorW.PrintLast YtgfkgppomaapiaaGreatDoorW.PrintMore My
theorem uU (s:Nat) (S:Int) (hS:S=s) (hs8:s≤8) {g:Nat} {l r:List UInt8} {x:Int} {w0 w:World} (h:Rd w0 w g l) (hb:Below w0.heap.size w0 w) (hp:intP s l=some (x,r)) :
  ∃ m:Nat,x=(m:Int)∧m<256 ^ s∧r.length+s=l.length∧Calls Tryz.prog 114 #[.pointer (some ⟨g,0,none⟩),.int .i64 S] w fun e w'=>e=.returned (.int .u64 (m:Int))∧Rd w0 w' g r∧w.grownBy w' (some g):=by
 obtain ⟨h1,h2,h3⟩:=oM hp
 refine ⟨numB (l.take s),h2,?_,?_,?_⟩
 ·have:=yD (l.take s)
  rwa [List.length_take,Nat.min_eq_left h1] at this
 ·rw [h3,List.length_drop];omega
 ·rw [h3];exact nZ s S hS hs8 g l w0 w h hb h1
theorem yF {l:List UInt8} (h:intP 1 l=none):recP l=none:=by unfold recP;rw [h];rfl
theorem JU {l r:List UInt8} {x:Int} (h:intP 1 l=some (x,r)) (h1:intP 4 r=none):recP l=none:=by unfold recP;rw [h];simp only [Option.bind_some];rw [h1];rfl
theorem NR {l r r1:List UInt8} {x y:Int} (h:intP 1 l=some (x,r)) (h1:intP 4 r=some (y,r1)):recP l=pW x y r1:=by unfold recP;rw [h];simp only [Option.bind_some];rw [h1];rfl
theorem IX:Short nV:=fun l x r h=>by
 unfold nV at h
 obtain ⟨⟨n,r1⟩,h1,h⟩:=Option.bind_eq_some_iff.1 h
 have a:=(mQ h1 (by omega)).1
 have b:=rD (qE 1) n _ _ _ h
 simp only at a b
 omega
theorem QZ:Short qI:=fun l x r h=>by
 unfold qI at h
 obtain ⟨⟨n,r1⟩,h1,h⟩:=Option.bind_eq_some_iff.1 h
 have a:=(mQ h1 (by omega)).1
 have b:=rD (p:=uO) (fun l x r h=>by
  unfold uO at h
  obtain ⟨⟨x1,r1⟩,h1,h⟩:=Option.bind_eq_some_iff.1 h
  obtain ⟨⟨x2,r2⟩,h2,h⟩:=Option.bind_eq_some_iff.1 h
  injection h with h
  injection h with e1 e2
  subst e2
  have a:=qE 4 _ _ _ h1
  have b:=qE 1 _ _ _ h2
  exact Nat.le_trans b a) n _ _ _ h
 simp only at a b
 omega
theorem LY:Short lI:=fun l x r h=>by
 unfold lI at h
 obtain ⟨⟨n,r1⟩,h1,h⟩:=Option.bind_eq_some_iff.1 h
 have a:=(mQ h1 (by omega)).1
 have b:=rD (p:=mY) (fun l x r h=>by
  unfold mY at h
  obtain ⟨⟨x1,r1⟩,h1,h⟩:=Option.bind_eq_some_iff.1 h
  obtain ⟨⟨x2,r2⟩,h2,h⟩:=Option.bind_eq_some_iff.1 h
  injection h with h
  injection h with e1 e2
  subst e2
  have a:=qE 4 _ _ _ h1
  have b:=vO _ _ _ h2
  exact Nat.le_trans b a) n _ _ _ h
 simp only at a b
 omega
theorem jP (w:World) (b:Nat) (cs:Array Value):w.grownBy (w.setRow b cs) (some b):=⟨rfl,rfl,rfl,by simp,fun k _ hne=>setRow_other w b k cs (fun e=>hne (by rw [e]))⟩
structure RInv (w0 w W:World) (g b:Nat) (r:List UInt8) (cs:Array Value):Prop where
 rd:Rd w0 W g r
 gr:w.grownBy W (some g)
 bl:Below w0.heap.size w0 W
 x:W.heap[b]? = some (.cells cs 54 (0,0))
 res:W.heap[w.heap.size]? = some (.cells #[.int .u8 0,.int .u32 0,.int .u32 0,.slice none 0 0,.slice none 0 0,.int .u32 0,.slice none 0 0,.int .i64 0,.int .i64 0,.slice none 0 0] 54 (0,0))
 lt:g<w.heap.size
 le:w.heap.size<b
 small:(r.length:Int)≤100000
 hg:w0.heap.size≤g
theorem RInv.call {w0 w W W':World} {g b:Nat} {r r':List UInt8} {cs:Array Value} (h:RInv w0 w W g b r cs) (hR:Rd w0 W' g r') (hG:W.grownBy W' (some g)) (hl:r'.length≤r.length):RInv w0 w W' g b r' cs :=
 ⟨hR,iV h.gr hG,below_grown h.bl hG h.hg (Nat.le_refl _),(hG.block b (jH h.x) (fun e=>by injection e with e;have:=h.lt;have:=h.le;omega)).trans h.x,(hG.block _ (jH h.res) (fun e=>by injection e with e;have:=h.lt;omega)).trans h.res,h.lt,h.le,by have:=h.small;omega,h.hg⟩
theorem RInv.store {w0 w W:World} {g b:Nat} {r:List UInt8} {cs:Array Value} (h:RInv w0 w W g b r cs) (cs':Array Value):RInv w0 w (W.setRow b cs') g b r cs':=by
 have h1:=h.lt
 have h2:=h.le
 have h3:=h.hg
 refine ⟨Rd.grown h.rd (jP W b cs') (fun e=>by injection e with e;omega),kF h.gr (jP W b cs') (by omega),below_grown h.bl (jP W b cs') (by omega) (Nat.le_refl _),setRow_heap W b cs cs' _ _ h.x,?_,h1,h2,h.small,h3⟩
 rw [setRow_other W b _ cs' (by omega)]
 exact h.res
theorem RInv.fin {w0 w W:World} {g b:Nat} {r:List UInt8} {cs:Array Value} (h:RInv w0 w W g b r cs) (cs':Array Value):w.grownBy (W.setRow w.heap.size cs') (some g)∧Rd w0 (W.setRow w.heap.size cs') g r :=
 ⟨kF h.gr (jP W _ cs') (Nat.le_refl _),Rd.grown h.rd (jP W _ cs') (fun e=>by injection e with e;have:=h.lt;omega)⟩
theorem RInv.fresh {w0 w W:World} {g b:Nat} {r:List UInt8} {cs:Array Value} (h:RInv w0 w W g b r cs):b<W.heap.size:=jH h.x
def RecV (base:Nat) (x:SRec) (v:Value) (w':World):Prop :=
 ∃ v3 v4 v6 v9,v=.agg #[.int .u8 x.f0,.int .u32 x.f1,.int .u32 x.f2,v3,v4,.int .u32 x.f5.f0,v6,.int .i64 x.f6,.int .i64 x.f7,v9] ∧
  Kd.R (Kd.int .i64) 3 w' base (fun _=>True) v3 x.f3∧Kd.R k149 149 w' base (fun k=>some k≠v3.ownBlock) v4 x.f4 ∧
  Kd.R k122 122 w' base (fun _=>True) v6 x.f5.f1∧Kd.R k114 114 w' base (fun k=>some k≠v3.ownBlock∧some k≠v4.ownBlock) v9 x.f8
theorem OI (a b:Int):(Tryz.prog).built 54 (#[(0,.int .u8 a),(1,.int .u32 b)]:Array (Nat × Value)).toList=some #[.int .u8 a,.int .u32 b,.int .u32 0,.slice none 0 0,.slice none 0 0,.int .u32 0,.slice none 0 0,.int .i64 0,.int .i64 0,.slice none 0 0]:=by kernel_rfl
section
variable {w:World} {b:Nat} {c0 c1 c2 c3 c4 c5 c6 c7 c8 c9:Value}
theorem ji3 (h:w.heap[b]? = some (.cells #[c0,c1,c2,c3,c4,c5,c6,c7,c8,c9] 54 (0,0))):(Instr.loadAt 5 (.pointer (some ⟨b,0,none⟩))).run Tryz.prog w=.ok c0 w:=by
 have z0:w.cell? ⟨b,0,none⟩=some c0:=(iG h 0).trans rfl
 simp [go_sem,z0]
theorem st_2 (x:Int) (h:w.heap[b]? = some (.cells #[c0,c1,c2,c3,c4,c5,c6,c7,c8,c9] 54 (0,0))):(Instr.storeAt 46 (.pointer (some ⟨b,2,none⟩)) (.int .u32 x)).run Tryz.prog w=.ok () (w.setRow b #[c0,c1,.int .u32 x,c3,c4,c5,c6,c7,c8,c9]):=by
 have z:w.cell? ⟨b,2,none⟩=some c2:=(iG h 2).trans rfl
 have y:w.frozen? ⟨b,2,none⟩=false:=iE h 2
 rw [show w.setRow b #[c0,c1,.int .u32 x,c3,c4,c5,c6,c7,c8,c9]=w.setCell ⟨b,2,none⟩ (.int .u32 x) from (setCell_eq_setRow w b 2 _ _ _ (.int .u32 x) h).symm]
 simp [go_sem,z,y]
theorem st_3 (A:Option Addr) (n c:Nat) (h:w.heap[b]? = some (.cells #[c0,c1,c2,c3,c4,c5,c6,c7,c8,c9] 54 (0,0))):(Instr.storeAt 47 (.pointer (some ⟨b,3,none⟩)) (.slice A n c)).run Tryz.prog w=.ok () (w.setRow b #[c0,c1,c2,.slice A n c,c4,c5,c6,c7,c8,c9]):=by
 have z:w.cell? ⟨b,3,none⟩=some c3:=(iG h 3).trans rfl
 have y:w.frozen? ⟨b,3,none⟩=false:=iE h 3
 rw [show w.setRow b #[c0,c1,c2,.slice A n c,c4,c5,c6,c7,c8,c9]=w.setCell ⟨b,3,none⟩ (.slice A n c) from (setCell_eq_setRow w b 3 _ _ _ (.slice A n c) h).symm]
 simp [go_sem,z,y]
theorem st_4 (A:Option Addr) (n c:Nat) (h:w.heap[b]? = some (.cells #[c0,c1,c2,c3,c4,c5,c6,c7,c8,c9] 54 (0,0))):(Instr.storeAt 48 (.pointer (some ⟨b,4,none⟩)) (.slice A n c)).run Tryz.prog w=.ok () (w.setRow b #[c0,c1,c2,c3,.slice A n c,c5,c6,c7,c8,c9]):=by
 have z:w.cell? ⟨b,4,none⟩=some c4:=(iG h 4).trans rfl
 have y:w.frozen? ⟨b,4,none⟩=false:=iE h 4
 rw [show w.setRow b #[c0,c1,c2,c3,.slice A n c,c5,c6,c7,c8,c9]=w.setCell ⟨b,4,none⟩ (.slice A n c) from (setCell_eq_setRow w b 4 _ _ _ (.slice A n c) h).symm]
 simp [go_sem,z,y]
theorem st_5 (x:Int) (h:w.heap[b]? = some (.cells #[c0,c1,c2,c3,c4,c5,c6,c7,c8,c9] 54 (0,0))):(Instr.storeAt 46 (.pointer (some ⟨b,5,none⟩)) (.int .u32 x)).run Tryz.prog w=.ok () (w.setRow b #[c0,c1,c2,c3,c4,.int .u32 x,c6,c7,c8,c9]):=by
 have z:w.cell? ⟨b,5,none⟩=some c5:=(iG h 5).trans rfl
 have y:w.frozen? ⟨b,5,none⟩=false:=iE h 5
 rw [show w.setRow b #[c0,c1,c2,c3,c4,.int .u32 x,c6,c7,c8,c9]=w.setCell ⟨b,5,none⟩ (.int .u32 x) from (setCell_eq_setRow w b 5 _ _ _ (.int .u32 x) h).symm]
 simp [go_sem,z,y]
theorem st_6 (A:Option Addr) (n c:Nat) (h:w.heap[b]? = some (.cells #[c0,c1,c2,c3,c4,c5,c6,c7,c8,c9] 54 (0,0))):(Instr.storeAt 49 (.pointer (some ⟨b,6,none⟩)) (.slice A n c)).run Tryz.prog w=.ok () (w.setRow b #[c0,c1,c2,c3,c4,c5,.slice A n c,c7,c8,c9]):=by
 have z:w.cell? ⟨b,6,none⟩=some c6:=(iG h 6).trans rfl
 have y:w.frozen? ⟨b,6,none⟩=false:=iE h 6
 rw [show w.setRow b #[c0,c1,c2,c3,c4,c5,.slice A n c,c7,c8,c9]=w.setCell ⟨b,6,none⟩ (.slice A n c) from (setCell_eq_setRow w b 6 _ _ _ (.slice A n c) h).symm]
 simp [go_sem,z,y]
theorem st_7 (x:Int) (h:w.heap[b]? = some (.cells #[c0,c1,c2,c3,c4,c5,c6,c7,c8,c9] 54 (0,0))):(Instr.storeAt 3 (.pointer (some ⟨b,7,none⟩)) (.int .i64 x)).run Tryz.prog w=.ok () (w.setRow b #[c0,c1,c2,c3,c4,c5,c6,.int .i64 x,c8,c9]):=by
 have z:w.cell? ⟨b,7,none⟩=some c7:=(iG h 7).trans rfl
 have y:w.frozen? ⟨b,7,none⟩=false:=iE h 7
 rw [show w.setRow b #[c0,c1,c2,c3,c4,c5,c6,.int .i64 x,c8,c9]=w.setCell ⟨b,7,none⟩ (.int .i64 x) from (setCell_eq_setRow w b 7 _ _ _ (.int .i64 x) h).symm]
 simp [go_sem,z,y]
theorem st_8 (x:Int) (h:w.heap[b]? = some (.cells #[c0,c1,c2,c3,c4,c5,c6,c7,c8,c9] 54 (0,0))):(Instr.storeAt 3 (.pointer (some ⟨b,8,none⟩)) (.int .i64 x)).run Tryz.prog w=.ok () (w.setRow b #[c0,c1,c2,c3,c4,c5,c6,c7,.int .i64 x,c9]):=by
 have z:w.cell? ⟨b,8,none⟩=some c8:=(iG h 8).trans rfl
 have y:w.frozen? ⟨b,8,none⟩=false:=iE h 8
 rw [show w.setRow b #[c0,c1,c2,c3,c4,c5,c6,c7,.int .i64 x,c9]=w.setCell ⟨b,8,none⟩ (.int .i64 x) from (setCell_eq_setRow w b 8 _ _ _ (.int .i64 x) h).symm]
 simp [go_sem,z,y]
theorem st_9 (A:Option Addr) (n c:Nat) (h:w.heap[b]? = some (.cells #[c0,c1,c2,c3,c4,c5,c6,c7,c8,c9] 54 (0,0))):(Instr.storeAt 52 (.pointer (some ⟨b,9,none⟩)) (.slice A n c)).run Tryz.prog w=.ok () (w.setRow b #[c0,c1,c2,c3,c4,c5,c6,c7,c8,.slice A n c]):=by
 have z:w.cell? ⟨b,9,none⟩=some c9:=(iG h 9).trans rfl
 have y:w.frozen? ⟨b,9,none⟩=false:=iE h 9
 rw [show w.setRow b #[c0,c1,c2,c3,c4,c5,c6,c7,c8,.slice A n c]=w.setCell ⟨b,9,none⟩ (.slice A n c) from (setCell_eq_setRow w b 9 _ _ _ (.slice A n c) h).symm]
 simp [go_sem,z,y]
end
theorem qO {w:World} {b:Nat} {cs:Array Value} (h:w.heap[b]? = some (.cells cs 54 (0,0))) (hs:cs.size=10):(Instr.loadAt 54 (.pointer (some ⟨b,0,none⟩))).run Tryz.prog w=.ok (.agg cs) w:=by
 simp only [Instr.loadAt,Instr.sureAddr,Sem.run_bind,Sem.run_pure,Result.andThen]
 exact run_loadVar_row w b 54 54 cs (0,0) _ h Tryz.underlying54 rfl (by rw [hs];kernel_rfl)
theorem oJ {w:World} {b:Nat} {c0 c1 c2 c3 c4 c5 c6 c7 c8 c9:Value} {a k i:Int} {x3 x4 x6 x9:Value} {j p q:Int} (h:w.heap[b]? = some (.cells #[c0,c1,c2,c3,c4,c5,c6,c7,c8,c9] 54 (0,0))) (o3:x3.oneCell'=true) (o4:x4.oneCell'=true) (o6:x6.oneCell'=true) (o9:x9.oneCell'=true) :
  (Instr.storeAt 54 (.pointer (some ⟨b,0,none⟩)) (.agg #[.int .u8 a,.int .u32 k,.int .u32 i,x3,x4,.int .u32 j,x6,.int .i64 p,.int .i64 q,x9])).run Tryz.prog w=.ok () (w.setRow b #[.int .u8 a,.int .u32 k,.int .u32 i,x3,x4,.int .u32 j,x6,.int .i64 p,.int .i64 q,x9]):=by
 simp only [Instr.storeAt,Instr.sureAddr,Sem.run_bind,Sem.run_pure,Result.andThen]
 exact run_storeVar_row w b 54 54 _ _ h (by kernel_rfl) rfl (by simp [o3,o4,o6,o9,show ∀ k n,(Value.int k n).oneCell'=true from fun _ _=>rfl])
theorem jn8 (w:World) (a k:Int):(Instr.storeAt 54 (.pointer (some ⟨w.heap.size,0,none⟩)) (.agg #[.int .u8 a,.int .u32 k,.int .u32 0,.slice none 0 0,.slice none 0 0,.int .u32 0,.slice none 0 0,.int .i64 0,.int .i64 0,.slice none 0 0])).run Tryz.prog (w.alloc (.cells #[.int .u8 0,.int .u32 0,.int .u32 0,.slice none 0 0,.slice none 0 0,.int .u32 0,.slice none 0 0,.int .i64 0,.int .i64 0,.slice none 0 0] 54))=.ok () (w.alloc (.cells #[.int .u8 a,.int .u32 k,.int .u32 0,.slice none 0 0,.slice none 0 0,.int .u32 0,.slice none 0 0,.int .i64 0,.int .i64 0,.slice none 0 0] 54)) :=
 run_storeAt_new (P:=Tryz.prog) w 54 #[.int .u8 0,.int .u32 0,.int .u32 0,.slice none 0 0,.slice none 0 0,.int .u32 0,.slice none 0 0,.int .i64 0,.int .i64 0,.slice none 0 0] #[.int .u8 a,.int .u32 k,.int .u32 0,.slice none 0 0,.slice none 0 0,.int .u32 0,.slice none 0 0,.int .i64 0,.int .i64 0,.slice none 0 0] (by kernel_rfl) rfl (by simp [Value.oneCell'])
theorem je3 (w:World) (a k:Int):(Instr.build 54 #[(0,.int .u8 a),(1,.int .u32 k)]).run Tryz.prog w=.ok (.agg #[.int .u8 a,.int .u32 k,.int .u32 0,.slice none 0 0,.slice none 0 0,.int .u32 0,.slice none 0 0,.int .i64 0,.int .i64 0,.slice none 0 0]) w:=run_build w 54 _ _ (OI a k)
attribute [-go_sem] Instr.build Instr.storeAt Instr.loadAt
attribute [local go_sem] je3 jn8
set_option maxRecDepth 20000 in
set_option maxHeartbeats 16000000 in
theorem jb6 (g:Nat) (l:List UInt8) (w0 w:World) (h:Rd w0 w g l) (hb:Below w0.heap.size w0 w) (hg:w0.heap.size≤g) (hm:(l.length:Int)≤100000) :
  Calls Tryz.prog 109 #[.pointer (some ⟨g,0,none⟩)] w (PP (recP l) (fun x v w'=>RecV w.heap.size x v w') w0 w g):=by
 have HR:=iC.mk h
 have HB:=iC.mk hb
 have hlt:=h.lt
 clear h hb
 obtain ⟨W,hW⟩:∃ W,W=w.alloc (Obj.cells #[.int .u8 0,.int .u32 0,.int .u32 0,.slice none 0 0,.slice none 0 0,.int .u32 0,.slice none 0 0,.int .i64 0,.int .i64 0,.slice none 0 0] 54):=⟨_,rfl⟩
 have HW:=iC.mk hW
 have HG:=iC.mk (show w.grownBy W (some g) from by rw [hW];exact grown_below (iD (Below.refl _ _) _))
 have HR1:=iC.mk (Rd.grown HR.out (row:=none) (show w.grownBy W none from by rw [hW];exact grown_below (iD (Below.refl _ _) _)) (by simp))
 have HB1:=iC.mk (below_grown HB.out HG.out hg (Nat.le_refl _))
 have HX:=iC.mk (show W.heap[w.heap.size]? = some (.cells #[.int .u8 0,.int .u32 0,.int .u32 0,.slice none 0 0,.slice none 0 0,.int .u32 0,.slice none 0 0,.int .i64 0,.int .i64 0,.slice none 0 0] 54 (0,0)) from by rw [hW];exact iP rfl)
 have HG0:=iC.mk hg
 clear HR hW hg
 cases hp1:intP 1 l with
 | none =>
  have hcall:=kG 1 1 rfl g l w0 W HR1.out (lX hp1)
  have HN:=iC.mk (yF hp1)
  clear hp1
  go_enter Tryz.func109,Tryz.ntmps109
  go_wp2_with fail
  rw [← HW.out]
  refine hcall.mono ?_
  rintro e w1 ⟨rfl,hG⟩
  go_wp2
  exact ⟨rfl,iV HG.out hG,.inr ⟨HN.out,rfl⟩⟩
 | some x =>
  obtain ⟨k,r1⟩:=x
  obtain ⟨m1,rfl,hm1,hl1,hcall1⟩:=uU 1 1 rfl (by omega) HR1.out HB1.out hp1
  have hmm1:(m1:Int)<256:=by omega
  cases hp2:intP 4 r1 with
  | none =>
   have HN:=iC.mk (JU hp1 hp2)
   clear hp1
   go_enter Tryz.func109,Tryz.ntmps109
   go_wp2_with fail
   rw [← HW.out]
   refine hcall1.mono ?_
   rintro e w1 ⟨rfl,hR,hG⟩
   go_wp2_with fail
   refine (kG 4 4 rfl g r1 w0 w1 hR (lX hp2)).mono ?_
   rintro e w2 ⟨rfl,hG2⟩
   clear hp2
   go_wp2
   exact ⟨rfl,iV (iV HG.out hG) hG2,.inr ⟨HN.out,rfl⟩⟩
  | some y =>
   obtain ⟨y,r2⟩:=y
   have HN:=iC.mk (NR hp1 hp2)
   clear hp1
   go_enter Tryz.func109,Tryz.ntmps109
   go_wp2_with fail
   rw [← HW.out]
   refine hcall1.mono ?_
   rintro e w1 ⟨rfl,hR,hG⟩
   obtain ⟨m2,rfl,hm2,hl2,hcall2⟩:=uU 4 4 rfl (by omega) hR (below_grown HB1.out hG HG0.out (Nat.le_refl _)) hp2
   have hmm2:True→(m2:Int) % 4294967296=(m2:Int):=fun _=>by omega
   have hr2:=iC.mk (show (r2.length:Int)≤100000 from by omega)
   go_wp2_with fail
   refine hcall2.mono ?_
   rintro e w2 ⟨rfl,hR2,hG2⟩
   have HI:=iC.mk (show RInv w0 w (w2.alloc (.cells #[.int .u8 (m1:Int),.int .u32 (m2:Int),.int .u32 0,.slice none 0 0,.slice none 0 0,.int .u32 0,.slice none 0 0,.int .i64 0,.int .i64 0,.slice none 0 0] 54)) g w2.heap.size r2 #[.int .u8 (m1:Int),.int .u32 (m2:Int),.int .u32 0,.slice none 0 0,.slice none 0 0,.int .u32 0,.slice none 0 0,.int .i64 0,.int .i64 0,.slice none 0 0] from by
    have hgt:=iV (iV HG.out hG) hG2
    have hx2:=(hG2.block _ (Nat.lt_of_lt_of_le (jH HX.out) hG.size) (fun e=>by injection e with e;omega)).trans ((hG.block _ (jH HX.out) (fun e=>by injection e with e;omega)).trans HX.out)
    refine ⟨Rd.grown hR2 (row:=none) (grown_below (iD (Below.refl _ _) _)) (by simp),iV hgt (grown_below (iD (Below.refl _ _) _)),below_grown (g:=g) HB.out (iV hgt (grown_below (iD (Below.refl _ _) _))) HG0.out (Nat.le_refl _),iP rfl,?_,hlt,jH hx2,hr2.out,HG0.out⟩
    exact jI hx2)
   clear hp2 hcall1 hcall2 hR hG hR2 hG2 HW HR1 HB1 HG hm1 hm2 hm HX hl1 hl2 hr2 HB HG0 hlt
   have hfr:=HI.out.fresh
   obtain ⟨b,hbd⟩:∃ b,b=w2.heap.size:=⟨_,rfl⟩
   have hld:=fun (_:True)=>ji3 HI.out.x
   clear hbd b hfr
   by_cases hk1:(m1:Int)=1
   ·have HBODY:=iC.mk (show pW (m1:Int) (m2:Int) r2=(nV r2).bind fun x=>(nC x.2).bind fun y=>some (⟨(m1:Int),(m2:Int),0,x.1,y.1,⟨0,[]⟩,0,0,[]⟩,y.2) from by unfold pW;rw [if_pos hk1])
    have hka:(m1:Int)≤1:=by omega
    have hkb:1≤(m1:Int):=by omega
    clear hk1
    go_wp2_with fail
    cases hq0:nV r2 with
    | none =>
     have hF:recP l=none:=by rw [HN.out,HBODY.out];rw [hq0];rfl
     have HF:=iC.mk hF
     refine (vG g r2 w0 _ HI.out.rd HI.out.bl HI.out.hg HI.out.small).mono ?_
     intro e wx hpp
     obtain ⟨rfl,hG⟩:=hpp.short hq0
     clear hpp
     clear hF hq0
     go_wp2
     exact ⟨rfl,iV HI.out.gr hG,.inr ⟨HF.out,rfl⟩⟩
    | some y =>
     obtain ⟨y0,s0⟩:=y
     have HQ0:=iC.mk hq0
     refine (vG g r2 w0 _ HI.out.rd HI.out.bl HI.out.hg HI.out.small).mono ?_
     intro e w3 hpp
     obtain ⟨v3,rfl,hv3,hR,hG⟩:=hpp.ok hq0
     have hv3:Kd.R (Kd.int .i64) 3 _ _ _ _ _:=hv3
     obtain ⟨A3,d3,rfl⟩:=Kd.R_slice hv3
     have hl0:=IX _ _ _ hq0
     clear hpp
     have HC0:=iC.mk (HI.out.call hR hG (by omega))
     have HV3:=iC.mk hv3
     have HB3:=iC.mk HI.out.fresh
     clear hv3
     have HD0:=iC.mk (HC0.out.store #[.int .u8 (m1:Int),.int .u32 (m2:Int),.int .u32 0,.slice A3 y0.length d3,.slice none 0 0,.int .u32 0,.slice none 0 0,.int .i64 0,.int .i64 0,.slice none 0 0])
     have HV3:=iC.mk (jT HV3.out (jP _ w2.heap.size #[.int .u8 (m1:Int),.int .u32 (m2:Int),.int .u32 0,.slice A3 y0.length d3,.slice none 0 0,.int .u32 0,.slice none 0 0,.int .i64 0,.int .i64 0,.slice none 0 0]) HB3.out)
     have hst0:=fun (_:True)=>st_3 A3 y0.length d3 HC0.out.x
     clear hR hG hq0 hl0
     go_wp2_with fail
     cases hq1:nC s0 with
     | none =>
      have hF:recP l=none:=by rw [HN.out,HBODY.out];rw [HQ0.out];simp only [Option.bind_some];rw [hq1];rfl
      have HF:=iC.mk hF
      refine (yG g s0 w0 _ HD0.out.rd HD0.out.bl HD0.out.hg HD0.out.small).mono ?_
      intro e wx hpp
      obtain ⟨rfl,hG⟩:=hpp.short hq1
      clear hpp
      clear hF hq1
      go_wp2
      exact ⟨rfl,iV HD0.out.gr hG,.inr ⟨HF.out,rfl⟩⟩
     | some y =>
      obtain ⟨y1,s1⟩:=y
      have HQ1:=iC.mk hq1
      have HO3:=iC.mk (Kd.R_lt HV3.out)
      refine (yG g s0 w0 _ HD0.out.rd HD0.out.bl HD0.out.hg HD0.out.small).mono ?_
      intro e w4 hpp
      obtain ⟨v4,rfl,hv4,hR,hG⟩:=hpp.ok hq1
      obtain ⟨A4,d4,rfl⟩:=Kd.R_slice hv4
      have hl1:=vO _ _ _ hq1
      clear hpp
      have HC1:=iC.mk (HD0.out.call hR hG (by omega))
      have HV3:=iC.mk (jT HV3.out hG (by have:=HC1.out.lt;have:=HC1.out.le;have:=HB3.out;omega))
      have HV4:=iC.mk hv4
      have HB4:=iC.mk HD0.out.fresh
      clear hv4
      have HD1:=iC.mk (HC1.out.store #[.int .u8 (m1:Int),.int .u32 (m2:Int),.int .u32 0,.slice A3 y0.length d3,.slice A4 y1.length d4,.int .u32 0,.slice none 0 0,.int .i64 0,.int .i64 0,.slice none 0 0])
      have HV3:=iC.mk (jT HV3.out (jP _ w2.heap.size #[.int .u8 (m1:Int),.int .u32 (m2:Int),.int .u32 0,.slice A3 y0.length d3,.slice A4 y1.length d4,.int .u32 0,.slice none 0 0,.int .i64 0,.int .i64 0,.slice none 0 0]) HB3.out)
      have HV4:=iC.mk (jT HV4.out (jP _ w2.heap.size #[.int .u8 (m1:Int),.int .u32 (m2:Int),.int .u32 0,.slice A3 y0.length d3,.slice A4 y1.length d4,.int .u32 0,.slice none 0 0,.int .i64 0,.int .i64 0,.slice none 0 0]) HB4.out)
      have hst1:=fun (_:True)=>st_4 A4 y1.length d4 HC1.out.x
      clear hR hG hq1 hl1
      have hlr:=fun (_:True)=>qO HD1.out.x rfl
      have hsr:=fun (_:True)=>oJ (a:=(m1:Int)) (k:=(m2:Int)) (i:=0) (x3:=.slice A3 y0.length d3) (x4:=.slice A4 y1.length d4) (j:=0) (x6:=.slice none 0 0) (p:=0) (q:=0) (x9:=.slice none 0 0) HD1.out.res rfl rfl rfl rfl
      have hlr2:=fun (_:True)=>qO (setRow_heap (w4.setRow w2.heap.size #[.int .u8 (m1:Int),.int .u32 (m2:Int),.int .u32 0,.slice A3 y0.length d3,.slice A4 y1.length d4,.int .u32 0,.slice none 0 0,.int .i64 0,.int .i64 0,.slice none 0 0]) w.heap.size #[.int .u8 0,.int .u32 0,.int .u32 0,.slice none 0 0,.slice none 0 0,.int .u32 0,.slice none 0 0,.int .i64 0,.int .i64 0,.slice none 0 0] #[.int .u8 (m1:Int),.int .u32 (m2:Int),.int .u32 0,.slice A3 y0.length d3,.slice A4 y1.length d4,.int .u32 0,.slice none 0 0,.int .i64 0,.int .i64 0,.slice none 0 0] _ _ HD1.out.res) rfl
      go_wp2_with fail
      (try simp only [Exit.inBlock,Exit.then])
      refine bodyPost_ret (results_cell_row rfl _ _ w.heap.size 54 #[.int .u8 (m1:Int),.int .u32 (m2:Int),.int .u32 0,.slice A3 y0.length d3,.slice A4 y1.length d4,.int .u32 0,.slice none 0 0,.int .i64 0,.int .i64 0,.slice none 0 0] (0,0) _ (by rfl) (setRow_heap _ _ _ _ _ _ HD1.out.res) Tryz.underlying54 rfl rfl) rfl ?_
      obtain ⟨hf1,hf2⟩:=HD1.out.fin #[.int .u8 (m1:Int),.int .u32 (m2:Int),.int .u32 0,.slice A3 y0.length d3,.slice A4 y1.length d4,.int .u32 0,.slice none 0 0,.int .i64 0,.int .i64 0,.slice none 0 0]
      refine ⟨hf1,.inl ⟨⟨(m1:Int),(m2:Int),0,y0,y1,⟨0,[]⟩,0,0,[]⟩,s1,_,?_,rfl,⟨_,_,_,_,rfl,?_,?_,?_,?_⟩,hf2⟩⟩
      ·rw [HN.out,HBODY.out];rw [HQ0.out];simp only [Option.bind_some];rw [HQ1.out];rfl
      ·have hh:=jT HV3.out (jP _ w.heap.size #[.int .u8 (m1:Int),.int .u32 (m2:Int),.int .u32 0,.slice A3 y0.length d3,.slice A4 y1.length d4,.int .u32 0,.slice none 0 0,.int .i64 0,.int .i64 0,.slice none 0 0]) (by have:=HD1.out.le;have:=HB3.out;omega)
       have hle:=Nat.le_of_lt (Nat.lt_trans HD1.out.le HB3.out)
       exact Kd.R_lower hh hle
      ·have hh:=jT HV4.out (jP _ w.heap.size #[.int .u8 (m1:Int),.int .u32 (m2:Int),.int .u32 0,.slice A3 y0.length d3,.slice A4 y1.length d4,.int .u32 0,.slice none 0 0,.int .i64 0,.int .i64 0,.slice none 0 0]) (by have:=HD1.out.le;have:=HB4.out;omega)
       have hle:=Nat.le_of_lt (Nat.lt_trans HD1.out.le HB4.out)
       refine Kd.R_lower (Kd.R_mono (Kd.R_bound hh) (ok':=fun k=>some k≠Value.ownBlock (.slice A3 y0.length d3)) (fun k hk e=>?_)) hle
       have h1:=HO3.out k e.symm
       have h2:=hk.2.1
       omega
      ·exact Kd.R_nil _ _ _ _ _
      ·exact Kd.R_nil _ _ _ _ _
   by_cases hk2:(m1:Int)=2
   ·have HBODY:=iC.mk (show pW (m1:Int) (m2:Int) r2=(intP 4 r2).bind fun x=>(nV x.2).bind fun y=>some (⟨(m1:Int),(m2:Int),x.1,y.1,[],⟨0,[]⟩,0,0,[]⟩,y.2) from by unfold pW;rw [if_neg hk1];rw [if_pos hk2])
    have hka:(m1:Int)≤2:=by omega
    have hkb:2≤(m1:Int):=by omega
    clear hk2
    go_wp2_with fail
    cases hq0:intP 4 r2 with
    | none =>
     have hF:recP l=none:=by rw [HN.out,HBODY.out];rw [hq0];rfl
     have HF:=iC.mk hF
     refine (kG 4 4 rfl g r2 w0 _ HI.out.rd (lX hq0)).mono ?_
     rintro e wx ⟨rfl,hG⟩
     clear hF hq0
     go_wp2
     exact ⟨rfl,iV HI.out.gr hG,.inr ⟨HF.out,rfl⟩⟩
    | some y =>
     obtain ⟨y0,s0⟩:=y
     obtain ⟨n0,hy,hn0,hl0,hcall⟩:=uU 4 4 rfl (by omega) HI.out.rd HI.out.bl hq0
     subst hy
     have hnn0:True→(n0:Int) % 4294967296=(n0:Int):=fun _=>by omega
     have HQ0:=iC.mk hq0
     refine hcall.mono ?_
     rintro e w3 ⟨rfl,hR,hG⟩
     have HC0:=iC.mk (HI.out.call hR hG (by omega))
     have HD0:=iC.mk (HC0.out.store #[.int .u8 (m1:Int),.int .u32 (m2:Int),.int .u32 (n0:Int),.slice none 0 0,.slice none 0 0,.int .u32 0,.slice none 0 0,.int .i64 0,.int .i64 0,.slice none 0 0])
     have hst0:=fun (_:True)=>st_2 (n0:Int) HC0.out.x
     clear hR hG hq0 hl0 hn0 hcall
     go_wp2_with fail
     cases hq1:nV s0 with
     | none =>
      have hF:recP l=none:=by rw [HN.out,HBODY.out];rw [HQ0.out];simp only [Option.bind_some];rw [hq1];rfl
      have HF:=iC.mk hF
      refine (vG g s0 w0 _ HD0.out.rd HD0.out.bl HD0.out.hg HD0.out.small).mono ?_
      intro e wx hpp
      obtain ⟨rfl,hG⟩:=hpp.short hq1
      clear hpp
      clear hF hq1
      go_wp2
      exact ⟨rfl,iV HD0.out.gr hG,.inr ⟨HF.out,rfl⟩⟩
     | some y =>
      obtain ⟨y1,s1⟩:=y
      have HQ1:=iC.mk hq1
      refine (vG g s0 w0 _ HD0.out.rd HD0.out.bl HD0.out.hg HD0.out.small).mono ?_
      intro e w4 hpp
      obtain ⟨v3,rfl,hv3,hR,hG⟩:=hpp.ok hq1
      have hv3:Kd.R (Kd.int .i64) 3 _ _ _ _ _:=hv3
      obtain ⟨A3,d3,rfl⟩:=Kd.R_slice hv3
      have hl1:=IX _ _ _ hq1
      clear hpp
      have HC1:=iC.mk (HD0.out.call hR hG (by omega))
      have HV3:=iC.mk hv3
      have HB3:=iC.mk HD0.out.fresh
      clear hv3
      have HD1:=iC.mk (HC1.out.store #[.int .u8 (m1:Int),.int .u32 (m2:Int),.int .u32 (n0:Int),.slice A3 y1.length d3,.slice none 0 0,.int .u32 0,.slice none 0 0,.int .i64 0,.int .i64 0,.slice none 0 0])
      have HV3:=iC.mk (jT HV3.out (jP _ w2.heap.size #[.int .u8 (m1:Int),.int .u32 (m2:Int),.int .u32 (n0:Int),.slice A3 y1.length d3,.slice none 0 0,.int .u32 0,.slice none 0 0,.int .i64 0,.int .i64 0,.slice none 0 0]) HB3.out)
      have hst1:=fun (_:True)=>st_3 A3 y1.length d3 HC1.out.x
      clear hR hG hq1 hl1
      have hlr:=fun (_:True)=>qO HD1.out.x rfl
      have hsr:=fun (_:True)=>oJ (a:=(m1:Int)) (k:=(m2:Int)) (i:=(n0:Int)) (x3:=.slice A3 y1.length d3) (x4:=.slice none 0 0) (j:=0) (x6:=.slice none 0 0) (p:=0) (q:=0) (x9:=.slice none 0 0) HD1.out.res rfl rfl rfl rfl
      have hlr2:=fun (_:True)=>qO (setRow_heap (w4.setRow w2.heap.size #[.int .u8 (m1:Int),.int .u32 (m2:Int),.int .u32 (n0:Int),.slice A3 y1.length d3,.slice none 0 0,.int .u32 0,.slice none 0 0,.int .i64 0,.int .i64 0,.slice none 0 0]) w.heap.size #[.int .u8 0,.int .u32 0,.int .u32 0,.slice none 0 0,.slice none 0 0,.int .u32 0,.slice none 0 0,.int .i64 0,.int .i64 0,.slice none 0 0] #[.int .u8 (m1:Int),.int .u32 (m2:Int),.int .u32 (n0:Int),.slice A3 y1.length d3,.slice none 0 0,.int .u32 0,.slice none 0 0,.int .i64 0,.int .i64 0,.slice none 0 0] _ _ HD1.out.res) rfl
      go_wp2_with fail
      (try simp only [Exit.inBlock,Exit.then])
      refine bodyPost_ret (results_cell_row rfl _ _ w.heap.size 54 #[.int .u8 (m1:Int),.int .u32 (m2:Int),.int .u32 (n0:Int),.slice A3 y1.length d3,.slice none 0 0,.int .u32 0,.slice none 0 0,.int .i64 0,.int .i64 0,.slice none 0 0] (0,0) _ (by rfl) (setRow_heap _ _ _ _ _ _ HD1.out.res) Tryz.underlying54 rfl rfl) rfl ?_
      obtain ⟨hf1,hf2⟩:=HD1.out.fin #[.int .u8 (m1:Int),.int .u32 (m2:Int),.int .u32 (n0:Int),.slice A3 y1.length d3,.slice none 0 0,.int .u32 0,.slice none 0 0,.int .i64 0,.int .i64 0,.slice none 0 0]
      refine ⟨hf1,.inl ⟨⟨(m1:Int),(m2:Int),(n0:Int),y1,[],⟨0,[]⟩,0,0,[]⟩,s1,_,?_,rfl,⟨_,_,_,_,rfl,?_,?_,?_,?_⟩,hf2⟩⟩
      ·rw [HN.out,HBODY.out];rw [HQ0.out];simp only [Option.bind_some];rw [HQ1.out];rfl
      ·have hh:=jT HV3.out (jP _ w.heap.size #[.int .u8 (m1:Int),.int .u32 (m2:Int),.int .u32 (n0:Int),.slice A3 y1.length d3,.slice none 0 0,.int .u32 0,.slice none 0 0,.int .i64 0,.int .i64 0,.slice none 0 0]) (by have:=HD1.out.le;have:=HB3.out;omega)
       have hle:=Nat.le_of_lt (Nat.lt_trans HD1.out.le HB3.out)
       exact Kd.R_lower hh hle
      ·exact Kd.R_nil _ _ _ _ _
      ·exact Kd.R_nil _ _ _ _ _
      ·exact Kd.R_nil _ _ _ _ _
   by_cases hk6:(m1:Int)=6
   ·have HBODY:=iC.mk (show pW (m1:Int) (m2:Int) r2=(intP 4 r2).bind fun x=>(qI x.2).bind fun y=>some (⟨(m1:Int),(m2:Int),0,[],[],⟨x.1,y.1⟩,0,0,[]⟩,y.2) from by unfold pW;rw [if_neg hk1];rw [if_neg hk2];rw [if_pos hk6])
    have hka:(m1:Int)≤6:=by omega
    have hkb:6≤(m1:Int):=by omega
    clear hk6
    go_wp2_with fail
    cases hq0:intP 4 r2 with
    | none =>
     have hF:recP l=none:=by rw [HN.out,HBODY.out];rw [hq0];rfl
     have HF:=iC.mk hF
     refine (kG 4 4 rfl g r2 w0 _ HI.out.rd (lX hq0)).mono ?_
     rintro e wx ⟨rfl,hG⟩
     clear hF hq0
     go_wp2
     exact ⟨rfl,iV HI.out.gr hG,.inr ⟨HF.out,rfl⟩⟩
    | some y =>
     obtain ⟨y0,s0⟩:=y
     obtain ⟨n0,hy,hn0,hl0,hcall⟩:=uU 4 4 rfl (by omega) HI.out.rd HI.out.bl hq0
     subst hy
     have hnn0:True→(n0:Int) % 4294967296=(n0:Int):=fun _=>by omega
     have HQ0:=iC.mk hq0
     refine hcall.mono ?_
     rintro e w3 ⟨rfl,hR,hG⟩
     have HC0:=iC.mk (HI.out.call hR hG (by omega))
     have HD0:=iC.mk (HC0.out.store #[.int .u8 (m1:Int),.int .u32 (m2:Int),.int .u32 0,.slice none 0 0,.slice none 0 0,.int .u32 (n0:Int),.slice none 0 0,.int .i64 0,.int .i64 0,.slice none 0 0])
     have hst0:=fun (_:True)=>st_5 (n0:Int) HC0.out.x
     clear hR hG hq0 hl0 hn0 hcall
     go_wp2_with fail
     cases hq1:qI s0 with
     | none =>
      have hF:recP l=none:=by rw [HN.out,HBODY.out];rw [HQ0.out];simp only [Option.bind_some];rw [hq1];rfl
      have HF:=iC.mk hF
      refine (JQ g s0 w0 _ HD0.out.rd HD0.out.bl HD0.out.hg HD0.out.small).mono ?_
      intro e wx hpp
      obtain ⟨rfl,hG⟩:=hpp.short hq1
      clear hpp
      clear hF hq1
      go_wp2
      exact ⟨rfl,iV HD0.out.gr hG,.inr ⟨HF.out,rfl⟩⟩
     | some y =>
      obtain ⟨y1,s1⟩:=y
      have HQ1:=iC.mk hq1
      refine (JQ g s0 w0 _ HD0.out.rd HD0.out.bl HD0.out.hg HD0.out.small).mono ?_
      intro e w4 hpp
      obtain ⟨v6,rfl,hv6,hR,hG⟩:=hpp.ok hq1
      obtain ⟨A6,d6,rfl⟩:=Kd.R_slice hv6
      have hl1:=QZ _ _ _ hq1
      clear hpp
      have HC1:=iC.mk (HD0.out.call hR hG (by omega))
      have HV6:=iC.mk hv6
      have HB6:=iC.mk HD0.out.fresh
      clear hv6
      have HD1:=iC.mk (HC1.out.store #[.int .u8 (m1:Int),.int .u32 (m2:Int),.int .u32 0,.slice none 0 0,.slice none 0 0,.int .u32 (n0:Int),.slice A6 y1.length d6,.int .i64 0,.int .i64 0,.slice none 0 0])
      have HV6:=iC.mk (jT HV6.out (jP _ w2.heap.size #[.int .u8 (m1:Int),.int .u32 (m2:Int),.int .u32 0,.slice none 0 0,.slice none 0 0,.int .u32 (n0:Int),.slice A6 y1.length d6,.int .i64 0,.int .i64 0,.slice none 0 0]) HB6.out)
      have hst1:=fun (_:True)=>st_6 A6 y1.length d6 HC1.out.x
      clear hR hG hq1 hl1
      have hlr:=fun (_:True)=>qO HD1.out.x rfl
      have hsr:=fun (_:True)=>oJ (a:=(m1:Int)) (k:=(m2:Int)) (i:=0) (x3:=.slice none 0 0) (x4:=.slice none 0 0) (j:=(n0:Int)) (x6:=.slice A6 y1.length d6) (p:=0) (q:=0) (x9:=.slice none 0 0) HD1.out.res rfl rfl rfl rfl
      have hlr2:=fun (_:True)=>qO (setRow_heap (w4.setRow w2.heap.size #[.int .u8 (m1:Int),.int .u32 (m2:Int),.int .u32 0,.slice none 0 0,.slice none 0 0,.int .u32 (n0:Int),.slice A6 y1.length d6,.int .i64 0,.int .i64 0,.slice none 0 0]) w.heap.size #[.int .u8 0,.int .u32 0,.int .u32 0,.slice none 0 0,.slice none 0 0,.int .u32 0,.slice none 0 0,.int .i64 0,.int .i64 0,.slice none 0 0] #[.int .u8 (m1:Int),.int .u32 (m2:Int),.int .u32 0,.slice none 0 0,.slice none 0 0,.int .u32 (n0:Int),.slice A6 y1.length d6,.int .i64 0,.int .i64 0,.slice none 0 0] _ _ HD1.out.res) rfl
      go_wp2_with fail
      (try simp only [Exit.inBlock,Exit.then])
      refine bodyPost_ret (results_cell_row rfl _ _ w.heap.size 54 #[.int .u8 (m1:Int),.int .u32 (m2:Int),.int .u32 0,.slice none 0 0,.slice none 0 0,.int .u32 (n0:Int),.slice A6 y1.length d6,.int .i64 0,.int .i64 0,.slice none 0 0] (0,0) _ (by rfl) (setRow_heap _ _ _ _ _ _ HD1.out.res) Tryz.underlying54 rfl rfl) rfl ?_
      obtain ⟨hf1,hf2⟩:=HD1.out.fin #[.int .u8 (m1:Int),.int .u32 (m2:Int),.int .u32 0,.slice none 0 0,.slice none 0 0,.int .u32 (n0:Int),.slice A6 y1.length d6,.int .i64 0,.int .i64 0,.slice none 0 0]
      refine ⟨hf1,.inl ⟨⟨(m1:Int),(m2:Int),0,[],[],⟨(n0:Int),y1⟩,0,0,[]⟩,s1,_,?_,rfl,⟨_,_,_,_,rfl,?_,?_,?_,?_⟩,hf2⟩⟩
      ·rw [HN.out,HBODY.out];rw [HQ0.out];simp only [Option.bind_some];rw [HQ1.out];rfl
      ·exact Kd.R_nil _ _ _ _ _
      ·exact Kd.R_nil _ _ _ _ _
      ·have hh:=jT HV6.out (jP _ w.heap.size #[.int .u8 (m1:Int),.int .u32 (m2:Int),.int .u32 0,.slice none 0 0,.slice none 0 0,.int .u32 (n0:Int),.slice A6 y1.length d6,.int .i64 0,.int .i64 0,.slice none 0 0]) (by have:=HD1.out.le;have:=HB6.out;omega)
       have hle:=Nat.le_of_lt (Nat.lt_trans HD1.out.le HB6.out)
       exact Kd.R_lower hh hle
      ·exact Kd.R_nil _ _ _ _ _
   by_cases hk7:(m1:Int)=7
   ·have HBODY:=iC.mk (show pW (m1:Int) (m2:Int) r2=(intP 4 r2).bind fun x=>(intP 4 x.2).bind fun y=>(lI y.2).bind fun z=>some (⟨(m1:Int),(m2:Int),0,[],[],⟨0,[]⟩,x.1,y.1,z.1⟩,z.2) from by unfold pW;rw [if_neg hk1];rw [if_neg hk2];rw [if_neg hk6];rw [if_pos hk7])
    have hka:(m1:Int)≤7:=by omega
    have hkb:7≤(m1:Int):=by omega
    clear hk7
    go_wp2_with fail
    cases hq0:intP 4 r2 with
    | none =>
     have hF:recP l=none:=by rw [HN.out,HBODY.out];rw [hq0];rfl
     have HF:=iC.mk hF
     refine (kG 4 4 rfl g r2 w0 _ HI.out.rd (lX hq0)).mono ?_
     rintro e wx ⟨rfl,hG⟩
     clear hF hq0
     go_wp2
     exact ⟨rfl,iV HI.out.gr hG,.inr ⟨HF.out,rfl⟩⟩
    | some y =>
     obtain ⟨y0,s0⟩:=y
     obtain ⟨n0,hy,hn0,hl0,hcall⟩:=uU 4 4 rfl (by omega) HI.out.rd HI.out.bl hq0
     subst hy
     have hnn0:True→(n0:Int) % 4294967296=(n0:Int):=fun _=>by omega
     have HQ0:=iC.mk hq0
     refine hcall.mono ?_
     rintro e w3 ⟨rfl,hR,hG⟩
     have hnw0:True→wrap64 (n0:Int)=(n0:Int):=fun _=>vY n0 (by omega)
     have HC0:=iC.mk (HI.out.call hR hG (by omega))
     have HD0:=iC.mk (HC0.out.store #[.int .u8 (m1:Int),.int .u32 (m2:Int),.int .u32 0,.slice none 0 0,.slice none 0 0,.int .u32 0,.slice none 0 0,.int .i64 (n0:Int),.int .i64 0,.slice none 0 0])
     have hst0:=fun (_:True)=>st_7 (n0:Int) HC0.out.x
     clear hR hG hq0 hl0 hn0 hcall
     go_wp2_with fail
     cases hq1:intP 4 s0 with
     | none =>
      have hF:recP l=none:=by rw [HN.out,HBODY.out];rw [HQ0.out];simp only [Option.bind_some];rw [hq1];rfl
      have HF:=iC.mk hF
      refine (kG 4 4 rfl g s0 w0 _ HD0.out.rd (lX hq1)).mono ?_
      rintro e wx ⟨rfl,hG⟩
      clear hF hq1
      go_wp2
      exact ⟨rfl,iV HD0.out.gr hG,.inr ⟨HF.out,rfl⟩⟩
     | some y =>
      obtain ⟨y1,s1⟩:=y
      obtain ⟨n1,hy,hn1,hl1,hcall⟩:=uU 4 4 rfl (by omega) HD0.out.rd HD0.out.bl hq1
      subst hy
      have hnn1:True→(n1:Int) % 4294967296=(n1:Int):=fun _=>by omega
      have HQ1:=iC.mk hq1
      refine hcall.mono ?_
      rintro e w4 ⟨rfl,hR,hG⟩
      have hnw1:True→wrap64 (n1:Int)=(n1:Int):=fun _=>vY n1 (by omega)
      have HC1:=iC.mk (HD0.out.call hR hG (by omega))
      have HD1:=iC.mk (HC1.out.store #[.int .u8 (m1:Int),.int .u32 (m2:Int),.int .u32 0,.slice none 0 0,.slice none 0 0,.int .u32 0,.slice none 0 0,.int .i64 (n0:Int),.int .i64 (n1:Int),.slice none 0 0])
      have hst1:=fun (_:True)=>st_8 (n1:Int) HC1.out.x
      clear hR hG hq1 hl1 hn1 hcall
      go_wp2_with fail
      cases hq2:lI s1 with
      | none =>
       have hF:recP l=none:=by rw [HN.out,HBODY.out];rw [HQ0.out];simp only [Option.bind_some];rw [HQ1.out];simp only [Option.bind_some];rw [hq2];rfl
       have HF:=iC.mk hF
       refine (yU g s1 w0 _ HD1.out.rd HD1.out.bl HD1.out.hg HD1.out.small).mono ?_
       intro e wx hpp
       obtain ⟨rfl,hG⟩:=hpp.short hq2
       clear hpp
       clear hF hq2
       go_wp2
       exact ⟨rfl,iV HD1.out.gr hG,.inr ⟨HF.out,rfl⟩⟩
      | some y =>
       obtain ⟨y2,s2⟩:=y
       have HQ2:=iC.mk hq2
       refine (yU g s1 w0 _ HD1.out.rd HD1.out.bl HD1.out.hg HD1.out.small).mono ?_
       intro e w5 hpp
       obtain ⟨v9,rfl,hv9,hR,hG⟩:=hpp.ok hq2
       obtain ⟨A9,d9,rfl⟩:=Kd.R_slice hv9
       have hl2:=LY _ _ _ hq2
       clear hpp
       have HC2:=iC.mk (HD1.out.call hR hG (by omega))
       have HV9:=iC.mk hv9
       have HB9:=iC.mk HD1.out.fresh
       clear hv9
       have HD2:=iC.mk (HC2.out.store #[.int .u8 (m1:Int),.int .u32 (m2:Int),.int .u32 0,.slice none 0 0,.slice none 0 0,.int .u32 0,.slice none 0 0,.int .i64 (n0:Int),.int .i64 (n1:Int),.slice A9 y2.length d9])
       have HV9:=iC.mk (jT HV9.out (jP _ w2.heap.size #[.int .u8 (m1:Int),.int .u32 (m2:Int),.int .u32 0,.slice none 0 0,.slice none 0 0,.int .u32 0,.slice none 0 0,.int .i64 (n0:Int),.int .i64 (n1:Int),.slice A9 y2.length d9]) HB9.out)
       have hst2:=fun (_:True)=>st_9 A9 y2.length d9 HC2.out.x
       clear hR hG hq2 hl2
       have hlr:=fun (_:True)=>qO HD2.out.x rfl
       have hsr:=fun (_:True)=>oJ (a:=(m1:Int)) (k:=(m2:Int)) (i:=0) (x3:=.slice none 0 0) (x4:=.slice none 0 0) (j:=0) (x6:=.slice none 0 0) (p:=(n0:Int)) (q:=(n1:Int)) (x9:=.slice A9 y2.length d9) HD2.out.res rfl rfl rfl rfl
       have hlr2:=fun (_:True)=>qO (setRow_heap (w5.setRow w2.heap.size #[.int .u8 (m1:Int),.int .u32 (m2:Int),.int .u32 0,.slice none 0 0,.slice none 0 0,.int .u32 0,.slice none 0 0,.int .i64 (n0:Int),.int .i64 (n1:Int),.slice A9 y2.length d9]) w.heap.size #[.int .u8 0,.int .u32 0,.int .u32 0,.slice none 0 0,.slice none 0 0,.int .u32 0,.slice none 0 0,.int .i64 0,.int .i64 0,.slice none 0 0] #[.int .u8 (m1:Int),.int .u32 (m2:Int),.int .u32 0,.slice none 0 0,.slice none 0 0,.int .u32 0,.slice none 0 0,.int .i64 (n0:Int),.int .i64 (n1:Int),.slice A9 y2.length d9] _ _ HD2.out.res) rfl
       go_wp2_with fail
       (try simp only [Exit.inBlock,Exit.then])
       refine bodyPost_ret (results_cell_row rfl _ _ w.heap.size 54 #[.int .u8 (m1:Int),.int .u32 (m2:Int),.int .u32 0,.slice none 0 0,.slice none 0 0,.int .u32 0,.slice none 0 0,.int .i64 (n0:Int),.int .i64 (n1:Int),.slice A9 y2.length d9] (0,0) _ (by rfl) (setRow_heap _ _ _ _ _ _ HD2.out.res) Tryz.underlying54 rfl rfl) rfl ?_
       obtain ⟨hf1,hf2⟩:=HD2.out.fin #[.int .u8 (m1:Int),.int .u32 (m2:Int),.int .u32 0,.slice none 0 0,.slice none 0 0,.int .u32 0,.slice none 0 0,.int .i64 (n0:Int),.int .i64 (n1:Int),.slice A9 y2.length d9]
       refine ⟨hf1,.inl ⟨⟨(m1:Int),(m2:Int),0,[],[],⟨0,[]⟩,(n0:Int),(n1:Int),y2⟩,s2,_,?_,rfl,⟨_,_,_,_,rfl,?_,?_,?_,?_⟩,hf2⟩⟩
       ·rw [HN.out,HBODY.out];rw [HQ0.out];simp only [Option.bind_some];rw [HQ1.out];simp only [Option.bind_some];rw [HQ2.out];rfl
       ·exact Kd.R_nil _ _ _ _ _
       ·exact Kd.R_nil _ _ _ _ _
       ·exact Kd.R_nil _ _ _ _ _
       ·have hh:=jT HV9.out (jP _ w.heap.size #[.int .u8 (m1:Int),.int .u32 (m2:Int),.int .u32 0,.slice none 0 0,.slice none 0 0,.int .u32 0,.slice none 0 0,.int .i64 (n0:Int),.int .i64 (n1:Int),.slice A9 y2.length d9]) (by have:=HD2.out.le;have:=HB9.out;omega)
        have hle:=Nat.le_of_lt (Nat.lt_trans HD2.out.le HB9.out)
        exact Kd.R_lower (Kd.R_mono hh (fun k _=>⟨fun e=>by simp [Value.ownBlock] at e,fun e=>by simp [Value.ownBlock] at e⟩)) hle
   have HBODY:=iC.mk (show pW (m1:Int) (m2:Int) r2=some (⟨(m1:Int),(m2:Int),0,[],[],⟨0,[]⟩,0,0,[]⟩,r2) from by unfold pW;rw [if_neg hk1,if_neg hk2,if_neg hk6,if_neg hk7])
   have hlr:=fun (_:True)=>qO HI.out.x rfl
   have hsr:=fun (_:True)=>oJ (a:=(m1:Int)) (k:=(m2:Int)) (i:=0) (x3:=.slice none 0 0) (x4:=.slice none 0 0) (j:=0) (x6:=.slice none 0 0) (p:=0) (q:=0) (x9:=.slice none 0 0) HI.out.res rfl rfl rfl rfl
   have hlr2:=fun (_:True)=>qO (setRow_heap (w2.alloc (.cells #[.int .u8 (m1:Int),.int .u32 (m2:Int),.int .u32 0,.slice none 0 0,.slice none 0 0,.int .u32 0,.slice none 0 0,.int .i64 0,.int .i64 0,.slice none 0 0] 54)) w.heap.size #[.int .u8 0,.int .u32 0,.int .u32 0,.slice none 0 0,.slice none 0 0,.int .u32 0,.slice none 0 0,.int .i64 0,.int .i64 0,.slice none 0 0] #[.int .u8 (m1:Int),.int .u32 (m2:Int),.int .u32 0,.slice none 0 0,.slice none 0 0,.int .u32 0,.slice none 0 0,.int .i64 0,.int .i64 0,.slice none 0 0] _ _ HI.out.res) rfl
   go_wp2_with fail
   (try simp only [Exit.inBlock,Exit.then])
   refine bodyPost_ret (results_cell_row rfl _ _ w.heap.size 54 #[.int .u8 (m1:Int),.int .u32 (m2:Int),.int .u32 0,.slice none 0 0,.slice none 0 0,.int .u32 0,.slice none 0 0,.int .i64 0,.int .i64 0,.slice none 0 0] (0,0) _ (by rfl) (setRow_heap _ _ _ _ _ _ HI.out.res) Tryz.underlying54 rfl rfl) rfl ?_
   obtain ⟨hf1,hf2⟩:=HI.out.fin #[.int .u8 (m1:Int),.int .u32 (m2:Int),.int .u32 0,.slice none 0 0,.slice none 0 0,.int .u32 0,.slice none 0 0,.int .i64 0,.int .i64 0,.slice none 0 0]
   refine ⟨hf1,.inl ⟨⟨(m1:Int),(m2:Int),0,[],[],⟨0,[]⟩,0,0,[]⟩,r2,_,?_,rfl,⟨_,_,_,_,rfl,?_,?_,?_,?_⟩,hf2⟩⟩
   ·rw [HN.out,HBODY.out];skip
   ·exact Kd.R_nil _ _ _ _ _
   ·exact Kd.R_nil _ _ _ _ _
   ·exact Kd.R_nil _ _ _ _ _
   ·exact Kd.R_nil _ _ _ _ _
end Go.Proofs.YtgfkgppomaapiaaGreatDoor.K
end
namespace Go.Proofs.YtgfkgppomaapiaaGreatDoor.K
open RowKit YtgfkgppomaapiaaGreatDoorW.PrintWords YtgfkgppomaapiaaGreatDoorW.PrintLast YtgfkgppomaapiaaGreatDoorW.PrintMore My
section
theorem V8:(Tryz.prog).built 54 (#[]:Array (Nat × Value)).toList=some #[.int .u8 0,.int .u32 0,.int .u32 0,.slice none 0 0,.slice none 0 0,.int .u32 0,.slice none 0 0,.int .i64 0,.int .i64 0,.slice none 0 0]:=by kernel_rfl
theorem ZI (w:World):(Instr.build 54 #[]).run Tryz.prog w=.ok (.agg #[.int .u8 0,.int .u32 0,.int .u32 0,.slice none 0 0,.slice none 0 0,.int .u32 0,.slice none 0 0,.int .i64 0,.int .i64 0,.slice none 0 0]) w:=run_build w _ _ _ V8
theorem WM {w:World} {b:Nat} {c0:Value} (x:Bool) (h:w.heap[b]? = some (.cells #[c0] 4 (0,0))):(Instr.storeAt 4 (.pointer (some ⟨b,0,none⟩)) (.bool x)).run Tryz.prog w=.ok () (w.setCell ⟨b,0,none⟩ (.bool x)):=by
 have z:w.cell? ⟨b,0,none⟩=some c0:=(iG h 0).trans rfl
 have y:w.frozen? ⟨b,0,none⟩=false:=iE h 0
 simp [go_sem,z,y]
theorem jb1 (w:World):(Instr.storeAt 165 (.pointer (some ⟨w.heap.size,0,none⟩)) (.agg #[])).run Tryz.prog (w.alloc (.cells #[] 165))=.ok () (w.alloc (.cells #[] 165)) :=
 run_storeAt_new (P:=Tryz.prog) w _ #[] #[] (by kernel_rfl) rfl (by simp)
theorem jh1 {w:World} {b:Nat} {x:Bool} (h:w.heap[b]? = some (.cells #[.bool x] 4 (0,0))):(Instr.loadAt 4 (.pointer (some ⟨b,0,none⟩))).run Tryz.prog w=.ok (.bool x) w:=by
 have z:w.cell? ⟨b,0,none⟩=some (.bool x):=(iG h 0).trans rfl
 simp [go_sem,z]
theorem ZM (w:World) (A:Option Addr) (n c:Nat):(Instr.build 168 #[(0,.slice A n c)]).run Tryz.prog w=.ok (.agg #[.slice A n c]) w:=run_build w _ _ _ (by kernel_rfl)
theorem jb4 (w:World):(Instr.typeAssert (.iface 165 (.agg #[])) 20 165 true).run Tryz.prog w=.ok (.tuple #[.agg #[],.bool true]) w:=by
 have hu:(Tryz.prog).underlying 165=some (.struct #[]):=by kernel_rfl
 simp [Instr.typeAssert,run_underlying hu]
attribute [-go_sem] Instr.build Instr.storeAt
attribute [local go_sem] ZI ZM jb1 jb4
set_option maxRecDepth 20000 in
theorem Q4 (bx bi:Nat) (w:World) (hx:w.heap[bx]? = some (.cells #[.int .u8 0,.int .u32 0,.int .u32 0,.slice none 0 0,.slice none 0 0,.int .u32 0,.slice none 0 0,.int .i64 0,.int .i64 0,.slice none 0 0] 54 (0,0))) (hi:w.heap[bi]? = some (.cells #[.bool false] 4 (0,0))) (hne:bx≠bi) :
  CallsD Tryz.prog 108 #[.pointer (some ⟨bx,0,none⟩),.pointer (some ⟨bi,0,none⟩)] (.panicking JH) w fun e u' w' =>
   e=.returned (.tuple #[])∧u'=.panicking [{ v:=.iface 165 (.agg #[]),recovered:=true }]∧w'=((w.alloc (.cells #[] 165)).setRow bx #[.int .u8 0,.int .u32 0,.int .u32 0,.slice none 0 0,.slice none 0 0,.int .u32 0,.slice none 0 0,.int .i64 0,.int .i64 0,.slice none 0 0]).setCell ⟨bi,0,none⟩ (.bool false):=by
 have hx1:(w.alloc (.cells #[] 165)).heap[bx]? = some (.cells #[.int .u8 0,.int .u32 0,.int .u32 0,.slice none 0 0,.slice none 0 0,.int .u32 0,.slice none 0 0,.int .i64 0,.int .i64 0,.slice none 0 0] 54 (0,0)):=jI hx
 have hi1:((w.alloc (.cells #[] 165)).setRow bx #[.int .u8 0,.int .u32 0,.int .u32 0,.slice none 0 0,.slice none 0 0,.int .u32 0,.slice none 0 0,.int .i64 0,.int .i64 0,.slice none 0 0]).heap[bi]? = some (.cells #[.bool false] 4 (0,0)):=by rw [setRow_other _ _ _ _ (fun e=>hne e.symm)];exact jI hi
 have hs1:=fun (_:True)=>oJ (a:=0) (k:=0) (i:=0) (x3:=.slice none 0 0) (x4:=.slice none 0 0) (j:=0) (x6:=.slice none 0 0) (p:=0) (q:=0) (x9:=.slice none 0 0) hx1 rfl rfl rfl rfl
 have hs2:=fun (_:True)=>WM false hi1
 clear hx1 hi1 hx hi
 refine callsD_of_wpS Tryz.func108 rfl fun c₀ cs hu=>?_
 simp only [Tryz.ntmps108,List.size_toArray,List.length_cons,List.length_nil,Nat.reduceAdd,Nat.reduceSub,Array.replicate_succ,
   Array.replicate_zero,List.push_toArray,List.append_toArray,List.nil_append,List.cons_append]
 apply wpS_seq
 apply wpS_region
 simp [wpOpsS,go_sem,recoverD,hu,Exit.thenS,JH]
 refine wpS_of_wp ?_
 go_wp2
 cases c₀
 simp_all [bodyPostS,results,Tryz.results108]
theorem V4 (bx bi:Nat) (w:World) :
  CallsD Tryz.prog 108 #[.pointer (some ⟨bx,0,none⟩),.pointer (some ⟨bi,0,none⟩)] .returning w fun e u' w' =>
   e=.returned (.tuple #[])∧u'=.returning∧w'=w:=by
 refine callsD_of_wpS Tryz.func108 rfl fun c₀ cs hu=>?_
 simp only [Tryz.ntmps108,List.size_toArray,List.length_cons,List.length_nil,Nat.reduceAdd,Nat.reduceSub,Array.replicate_succ,
   Array.replicate_zero,List.push_toArray,List.append_toArray,List.nil_append,List.cons_append]
 apply wpS_seq
 apply wpS_region
 simp [wpOpsS,go_sem,recoverD,hu,Exit.thenS]
 refine wpS_of_wp ?_
 go_wp2
 cases c₀
 simp_all [bodyPostS,results,Tryz.results108]
theorem NJ {tmps:Array Value} {W:World} {bx bi:Nat} {cs:Array Value} {x:Bool} {R:Ending→World→Prop} (hp:tmps.getD 2 undef=.pointer (some ⟨bx,0,none⟩)) (hq:tmps.getD 3 undef=.pointer (some ⟨bi,0,none⟩))
  (hx:W.heap[bx]? = some (.cells cs 54 (0,0))) (hs:cs.size=10) (hi:W.heap[bi]? = some (.cells #[.bool x] 4 (0,0))) (hR:R (.returned (.tuple #[.agg cs,.bool x])) W):Leaves Tryz.prog Tryz.f82 tmps R [] .returning W:=by
 refine ⟨_,?_,hR⟩
 have h:Tryz.f82.results = #[.cell 2 54,.cell 3 4]:=rfl
 have hp':tmps[2]?.getD undef=.pointer (some ⟨bx,0,none⟩):=by simpa using hp
 have hq':tmps[3]?.getD undef=.pointer (some ⟨bi,0,none⟩):=by simpa using hq
 have h1:=run_loadVar_row (P:=Tryz.prog) W bx 54 54 cs (0,0) _ hx Tryz.underlying54 rfl (by rw [hs];kernel_rfl)
 have h2:=jh1 hi
 simp only [Instr.loadAt,Instr.sureAddr,Sem.run_bind,Sem.run_pure,Result.andThen] at h2
 simp [results,h,hp',hq',asAddr,h1,h2]
theorem yQ {base:Nat} {x:SRec} {v:Value} {w w':World} {g:Nat} (h:RecV base x v w) (hg:w.grownBy w' (some g)) (hlt:g<base):RecV base x v w':=by
 obtain ⟨v3,v4,v6,v9,rfl,h3,h4,h6,h9⟩:=h
 exact ⟨v3,v4,v6,v9,rfl,jT h3 hg hlt,jT h4 hg hlt,jT h6 hg hlt,jT h9 hg hlt⟩
theorem LG {base base':Nat} {x:SRec} {v:Value} {w:World} (h:RecV base x v w) (hle:base'≤base):RecV base' x v w:=by
 obtain ⟨v3,v4,v6,v9,rfl,h3,h4,h6,h9⟩:=h
 exact ⟨v3,v4,v6,v9,rfl,Kd.R_lower h3 hle,Kd.R_lower h4 hle,Kd.R_lower h6 hle,Kd.R_lower h9 hle⟩
theorem O9 {w:World} {b:Nat} {c0:Value} {t:Nat} (v:Value) (h:w.heap[b]? = some (.cells #[c0] t (0,0))):(w.setCell ⟨b,0,none⟩ v).heap[b]? = some (.cells #[v] t (0,0)):=by
 rw [setCell_eq_setRow w b 0 #[c0] t (0,0) v h]
 exact setRow_heap w b _ _ _ _ h
theorem JG {w:World} {b i k:Nat} (v:Value) (hne:k≠b):(w.setCell ⟨b,i,none⟩ v).heap[k]? = w.heap[k]?:=Below.heap_setCell _ _ _ _ hne
set_option maxRecDepth 20000 in
theorem WC (A:Option Addr) (c:Nat) (l:List UInt8) (w:World) (hC:kb.C w A l.length l) (hc:l.length≤c) (hm:(l.length:Int)≤100000) :
  Calls Tryz.prog 82 #[.slice A l.length c] w fun e w'=>Below w.heap.size w w' ∧
   ((∃ x r v,recP l=some (x,r)∧e=.returned (.tuple #[v,.bool true])∧RecV w.heap.size x v w')∨(recP l=none∧e=.returned (.tuple #[.agg #[.int .u8 0,.int .u32 0,.int .u32 0,.slice none 0 0,.slice none 0 0,.int .u32 0,.slice none 0 0,.int .i64 0,.int .i64 0,.slice none 0 0],.bool false]))):=by
 have hmf:∀ (fn:Fn) (first cap:Array Value) (w:World),(Instr.makeFunc fn first cap).run Tryz.prog w=.ok (.func fn first cap) w:=fun _ _ _ _=>rfl
 have HC:=iC.mk hC
 obtain ⟨WR,hWR⟩:∃ WR,WR=((w.alloc (.cells #[.int .u8 0,.int .u32 0,.int .u32 0,.slice none 0 0,.slice none 0 0,.int .u32 0,.slice none 0 0,.int .i64 0,.int .i64 0,.slice none 0 0] 54)).alloc (.cells #[.bool false] 4)).alloc (.cells #[.slice A l.length c] 168):=⟨_,rfl⟩
 have HW:=iC.mk hWR
 have hB:Below w.heap.size w WR:=by rw [hWR];exact iD (iD (iD (Below.refl _ _) _) _) _
 have HR:=iC.mk (show Rd w WR (w.heap.size+2) l from ⟨A,c,by rw [hWR];exact iP (by simp),hc,hC⟩)
 have HX:=iC.mk (show WR.heap[w.heap.size]? = some (.cells #[.int .u8 0,.int .u32 0,.int .u32 0,.slice none 0 0,.slice none 0 0,.int .u32 0,.slice none 0 0,.int .i64 0,.int .i64 0,.slice none 0 0] 54 (0,0)) from by rw [hWR];exact jI (jI (iP rfl)))
 have HI:=iC.mk (show WR.heap[w.heap.size+1]? = some (.cells #[.bool false] 4 (0,0)) from by rw [hWR];exact jI (iP (by simp)))
 have HB:=iC.mk hB
 have hsz:WR.heap.size=w.heap.size+3:=by rw [hWR];simp
 clear hC hWR hB
 go_enter_defers Tryz.func82,Tryz.ntmps82
 go_wp2_with fail
 rw [← HW.out]
 refine (jb6 (w.heap.size+2) l w WR HR.out HB.out (by omega) hm).mono ?_
 intro e w1 hpp
 cases hp:recP l with
 | none =>
  obtain ⟨rfl,hG⟩:=hpp.short hp
  clear hpp
  have hx1:=(hG.block _ (jH HX.out) (fun e=>by injection e with e;omega)).trans HX.out
  have hi1:=(hG.block _ (jH HI.out) (fun e=>by injection e with e;omega)).trans HI.out
  have HX1:=iC.mk hx1
  have HI1:=iC.mk hi1
  clear hx1 hi1
  go_wp2
  refine leaves_cons (f:=108) (args:=#[.pointer (some ⟨w.heap.size,0,none⟩),.pointer (some ⟨w.heap.size+1,0,none⟩)]) (by simp) (by simp [go_sem]) ?_
  refine (Q4 w.heap.size (w.heap.size+1) w1 HX1.out HI1.out (by omega)).mono ?_
  rintro e u' w2 ⟨rfl,rfl,rfl⟩
  have hB2:=below_grown HB.out hG (by omega) (Nat.le_refl _)
  have hx2:=(JG (i:=0) (.bool false) (show w.heap.size≠w.heap.size+1 by omega)).trans (setRow_heap (w1.alloc (.cells #[] 165)) w.heap.size _ #[.int .u8 0,.int .u32 0,.int .u32 0,.slice none 0 0,.slice none 0 0,.int .u32 0,.slice none 0 0,.int .i64 0,.int .i64 0,.slice none 0 0] _ _ (jI HX1.out))
  have hi2:=O9 (.bool false) ((setRow_other (w1.alloc (.cells #[] 165)) w.heap.size (w.heap.size+1) #[.int .u8 0,.int .u32 0,.int .u32 0,.slice none 0 0,.slice none 0 0,.int .u32 0,.slice none 0 0,.int .i64 0,.int .i64 0,.slice none 0 0] (by omega)).trans (jI HI1.out))
  refine NJ rfl rfl hx2 rfl hi2 ⟨?_,.inr ⟨hp,rfl⟩⟩
  exact iL (below_grown (iD hB2 _) (jP _ w.heap.size _) (Nat.le_refl _) (Nat.le_refl _)) (by show _≤_;simp)
 | some y =>
  obtain ⟨x,r⟩:=y
  obtain ⟨v,rfl,hv,hR,hG⟩:=hpp.ok hp
  obtain ⟨v3,v4,v6,v9,rfl,h3,h4,h6,h9⟩:=hv
  obtain ⟨A3,d3,rfl⟩:=Kd.R_slice h3
  obtain ⟨A4,d4,rfl⟩:=Kd.R_slice h4
  obtain ⟨A6,d6,rfl⟩:=Kd.R_slice h6
  obtain ⟨A9,d9,rfl⟩:=Kd.R_slice h9
  have hx1:=(hG.block _ (jH HX.out) (fun e=>by injection e with e;omega)).trans HX.out
  have hi1:=(hG.block _ (jH HI.out) (fun e=>by injection e with e;omega)).trans HI.out
  have hs1:=fun (_:True)=>oJ (a:=x.f0) (k:=x.f1) (i:=x.f2) (x3:=.slice A3 x.f3.length d3) (x4:=.slice A4 x.f4.length d4) (j:=x.f5.f0) (x6:=.slice A6 x.f5.f1.length d6) (p:=x.f6) (q:=x.f7) (x9:=.slice A9 x.f8.length d9) hx1 rfl rfl rfl rfl
  have hi2:=(setRow_other w1 w.heap.size (w.heap.size+1) #[.int .u8 x.f0,.int .u32 x.f1,.int .u32 x.f2,.slice A3 x.f3.length d3,.slice A4 x.f4.length d4,.int .u32 x.f5.f0,.slice A6 x.f5.f1.length d6,.int .i64 x.f6,.int .i64 x.f7,.slice A9 x.f8.length d9] (by omega)).trans hi1
  have hs2:=fun (_:True)=>WM true hi2
  have HX1:=iC.mk hx1
  have HI2:=iC.mk hi2
  clear hpp hx1 hi1 hi2
  go_wp2
  refine leaves_cons (f:=108) (args:=#[.pointer (some ⟨w.heap.size,0,none⟩),.pointer (some ⟨w.heap.size+1,0,none⟩)]) (by simp) (by simp [go_sem]) ?_
  refine (V4 w.heap.size (w.heap.size+1) _).mono ?_
  rintro e u' w2 ⟨rfl,rfl,rfl⟩
  have hB2:=below_grown HB.out hG (by omega) (Nat.le_refl _)
  have hx2:=(JG (i:=0) (.bool true) (show w.heap.size≠w.heap.size+1 by omega)).trans (setRow_heap w1 w.heap.size _ #[.int .u8 x.f0,.int .u32 x.f1,.int .u32 x.f2,.slice A3 x.f3.length d3,.slice A4 x.f4.length d4,.int .u32 x.f5.f0,.slice A6 x.f5.f1.length d6,.int .i64 x.f6,.int .i64 x.f7,.slice A9 x.f8.length d9] _ _ HX1.out)
  have hi2:=O9 (.bool true) HI2.out
  refine NJ rfl rfl hx2 rfl hi2 ⟨?_,.inl ⟨x,r,_,hp,rfl,?_⟩⟩
  ·exact iL (below_grown hB2 (jP _ w.heap.size _) (Nat.le_refl _) (Nat.le_refl _)) (by show _≤_;simp)
  ·exact LG (yQ (yQ ⟨_,_,_,_,rfl,h3,h4,h6,h9⟩ (jP w1 w.heap.size _) (by omega)) (jY _ (w.heap.size+1) 0 _) (by omega)) (by omega)
end
end Go.Proofs.YtgfkgppomaapiaaGreatDoor.K
namespace Go.Proofs.YtgfkgppomaapiaaGreatDoor.K
open Go.RowKit Go.Proofs.YtgfkgppomaapiaaGreatDoorW.PrintWords Go.Proofs.YtgfkgppomaapiaaGreatDoorW.PrintLast Go.Proofs.YtgfkgppomaapiaaGreatDoorW.PrintMore
section
attribute [local go_sem] kL kH kZ lC
def bytes_Equal.f (l0:List Int) (l1:List Int):Option (Bool):=some ((strOfNums l0).toList == (strOfNums l1).toList)
set_option maxHeartbeats 8000000 in
set_option maxRecDepth 100000 in
theorem bytes_Equal.calls (A0:Option Addr) (c0:Nat) (l0:List Int) (A1:Option Addr) (c1:Nat) (l1:List Int) (r:Bool) (w:World) (hr0:Kd.C (Kd.int .u8) w A0 l0.length l0) (hc0:l0.length≤c0) (hr1:Kd.C (Kd.int .u8) w A1 l1.length l1) (hc1:l1.length≤c1) (h:bytes_Equal.f l0 l1=some r) :
  Calls Tryz.prog 83 #[.slice A0 l0.length c0,.slice A1 l1.length c1] w fun e w'=>e=.returned (.bool r)∧jD w w':=by
 have HR0:=iC.mk hr0
 have HC0:=iC.mk hc0
 clear hr0 hc0
 have HR1:=iC.mk hr1
 have HC1:=iC.mk hc1
 clear hr1 hc1
 have H:(some ((strOfNums l0).toList == (strOfNums l1).toList))=some r:=h
 clear h
 obtain rfl:=Option.some.inj H
 have hcv3:=Kd.C_string (P:=Tryz.prog) (A:=A0) (c:=c0) Tryz.underlying22 Tryz.underlying5 Tryz.underlying9 HR0.out
 have hcv4:=Kd.C_string (P:=Tryz.prog) (A:=A1) (c:=c1) Tryz.underlying22 Tryz.underlying5 Tryz.underlying9 HR1.out
 go_enter Tryz.func83,Tryz.ntmps83
 go_wp2
 go_ret
 exact ⟨by first | rfl | (simp;done) | (simp [*];done),by repeat (first | exact jD.refl _ | apply jD.step)⟩
end
end Go.Proofs.YtgfkgppomaapiaaGreatDoor.K
namespace Go.Proofs.YtgfkgppomaapiaaGreatDoor.K
open RowKit YtgfkgppomaapiaaGreatDoorW.PrintWords YtgfkgppomaapiaaGreatDoorW.PrintLast YtgfkgppomaapiaaGreatDoorW.PrintMore My
section
def mJ:SRec:=⟨0,0,0,[],[],⟨0,[]⟩,0,0,[]⟩
def bytesOf (l0:List Int):List UInt8:=l0.map fun x=>UInt8.ofNat x.toNat
def decR (l:List UInt8):SRec × Int:=if 60000<l.length then (mJ,3) else match recP l with | none=>(mJ,70) | some (x,_)=>if encR x=(nums l,0) then (x,0) else (mJ,70)
theorem zC (l:List UInt8):bytesOf (nums l)=l:=by
 unfold bytesOf nums
 rw [List.map_map]
 conv=>rhs;rw [← List.map_id l]
 apply List.map_congr_left
 intro b _
 simp
theorem MF {l m:List UInt8} (h:nums l=nums m):l=m:=by rw [← zC l,h,zC]
theorem vF {w:World} {A:Option Addr} {n:Nat} {l:List UInt8} (h:(Kd.int .u8).C w A n (nums l)):kb.C w A n l:=by
 refine ⟨by rw [← jM];exact h.1,h.2.1,fun hn=>?_⟩
 obtain ⟨ad,e,hc⟩:=h.2.2 hn
 refine ⟨ad,e,fun j p hj=>?_⟩
 obtain ⟨c,h1,h2,h3⟩:=hc j (p.toNat:Int) (by unfold nums;rw [List.getElem?_map,hj];rfl)
 exact ⟨c,h1,h2,h3⟩
theorem uZ (l m:List UInt8):((strOfNums (nums l)).toList == (strOfNums (nums m)).toList)=decide (l=m):=by
 unfold nums
 rw [vP,vP,iY,iY]
 by_cases h:l=m
 ·subst h;simp
 ·simp [h]
theorem oP (x:SRec):encR x=([],1)∨encR x=([],3)∨encR x=(nums (recE x),0):=by
 unfold encR
 split
 ·split
  ·exact .inr (.inl rfl)
  ·exact .inr (.inr rfl)
 ·exact .inl rfl
def MX (w:World) (r:SRec × Int) (e:Ending) (w':World):Prop:=∃ v,e=.returned (.tuple #[v,.int .u16 r.2])∧RecV w.heap.size r.1 v w'∧Below w.heap.size w w'
theorem jj4 (w w':World) (c:Int) (h:Below w.heap.size w w'):MX w (mJ,c) (.returned (.tuple #[.agg #[.int .u8 0,.int .u32 0,.int .u32 0,.slice none 0 0,.slice none 0 0,.int .u32 0,.slice none 0 0,.int .i64 0,.int .i64 0,.slice none 0 0],.int .u16 c])) w' :=
 ⟨_,rfl,⟨_,_,_,_,rfl,Kd.R_nil _ _ _ _ _,Kd.R_nil _ _ _ _ _,Kd.R_nil _ _ _ _ _,Kd.R_nil _ _ _ _ _⟩,h⟩
theorem yL {base:Nat} {x:SRec} {v:Value} {w w':World} (h:RecV base x v w) (hb:Below w.heap.size w w'):RecV base x v w':=by
 obtain ⟨v3,v4,v6,v9,rfl,h3,h4,h6,h9⟩:=h
 exact ⟨v3,v4,v6,v9,rfl,Kd.R_below h3 hb,Kd.R_below h4 hb,Kd.R_below h6 hb,Kd.R_below h9 hb⟩
theorem yH {tmps:Array Value} {W:World} {p u:Tmp} {b:Nat} {cs:Array Value} {x:Value} (h:Tryz.f50.results = #[.cell p 54,.tmp u]) (hp:tmps.getD p undef=.pointer (some ⟨b,0,none⟩)) (hu:tmps.getD u undef=x) (hx:W.heap[b]? = some (.cells cs 54 (0,0))) (hs:cs.size=10) :
  (results Tryz.f50 tmps).run Tryz.prog W=.ok (.tuple #[.agg cs,x]) W:=by
 have h1:=run_loadVar_row (P:=Tryz.prog) W b 54 54 cs (0,0) _ hx Tryz.underlying54 rfl (by rw [hs];kernel_rfl)
 rw [results_cell_tmp h,hp,hu]
 simp [asAddr,h1,Result.andThen]
theorem zV {w:World} {b:Nat} (h:w.heap[b]? = some (.cells #[.int .u8 0,.int .u32 0,.int .u32 0,.slice none 0 0,.slice none 0 0,.int .u32 0,.slice none 0 0,.int .i64 0,.int .i64 0,.slice none 0 0] 54 (0,0))):(Instr.storeAt 54 (.pointer (some ⟨b,0,none⟩)) (.agg #[.int .u8 0,.int .u32 0,.int .u32 0,.slice none 0 0,.slice none 0 0,.int .u32 0,.slice none 0 0,.int .i64 0,.int .i64 0,.slice none 0 0])).run Tryz.prog w=.ok () (w.setRow b #[.int .u8 0,.int .u32 0,.int .u32 0,.slice none 0 0,.slice none 0 0,.int .u32 0,.slice none 0 0,.int .i64 0,.int .i64 0,.slice none 0 0]):=oJ (a:=0) (k:=0) (i:=0) (x3:=.slice none 0 0) (x4:=.slice none 0 0) (j:=0) (x6:=.slice none 0 0) (p:=0) (q:=0) (x9:=.slice none 0 0) h rfl rfl rfl rfl
theorem IB (w W:World) (h:Below w.heap.size w W) (c:Int):MX w (mJ,c) (.returned (.tuple #[.agg #[.int .u8 0,.int .u32 0,.int .u32 0,.slice none 0 0,.slice none 0 0,.int .u32 0,.slice none 0 0,.int .i64 0,.int .i64 0,.slice none 0 0],.int .u16 c])) (W.setRow w.heap.size #[.int .u8 0,.int .u32 0,.int .u32 0,.slice none 0 0,.slice none 0 0,.int .u32 0,.slice none 0 0,.int .i64 0,.int .i64 0,.slice none 0 0]) :=
 jj4 w _ c (below_grown h (jP W w.heap.size _) (Nat.le_refl _) (Nat.le_refl _))
attribute [-go_sem] Instr.build Instr.storeAt Instr.loadAt
attribute [local go_sem] ZI
set_option maxRecDepth 20000 in
set_option maxHeartbeats 8000000 in
theorem decode_any (A:Option Addr) (c:Nat) (l:List UInt8) (w:World) (hCi:(Kd.int .u8).C w A l.length (nums l)) (hc:l.length≤c) :
  Calls Tryz.prog 50 #[.slice A l.length c] w (MX w (decR l)):=by
 obtain ⟨Wa,hWa⟩:∃ Wa,Wa=w.alloc (.cells #[.int .u8 0,.int .u32 0,.int .u32 0,.slice none 0 0,.slice none 0 0,.int .u32 0,.slice none 0 0,.int .i64 0,.int .i64 0,.slice none 0 0] 54):=⟨_,rfl⟩
 have HWA:=iC.mk hWa
 have hBa:Below w.heap.size w Wa:=by rw [hWa];exact iD (Below.refl _ _) _
 have HXA:=iC.mk (show Wa.heap[w.heap.size]? = some (.cells #[.int .u8 0,.int .u32 0,.int .u32 0,.slice none 0 0,.slice none 0 0,.int .u32 0,.slice none 0 0,.int .i64 0,.int .i64 0,.slice none 0 0] 54 (0,0)) from by rw [hWa];exact iP rfl)
 have HBA:=iC.mk hBa
 have HLT:=iC.mk (jH HXA.out)
 have HCI:=iC.mk (Kd.C_below hCi hBa)
 have HC:=iC.mk (vF HCI.out)
 clear hCi hWa hBa
 unfold decR
 by_cases hl:60000<l.length
 ·rw [if_pos hl]
  have hst:=fun (_:True)=>zV (show (w.alloc (.cells #[.int .u8 0,.int .u32 0,.int .u32 0,.slice none 0 0,.slice none 0 0,.int .u32 0,.slice none 0 0,.int .i64 0,.int .i64 0,.slice none 0 0] 54)).heap[w.heap.size]? = _ from iP rfl)
  go_enter Tryz.func50,Tryz.ntmps50
  go_wp2
  ((try simp only [Exit.inBlock,Exit.then]);exact bodyPost_ret (yH rfl rfl rfl (setRow_heap _ _ _ _ _ _ (iP rfl)) rfl) rfl (IB w _ (iD (Below.refl _ _) _) 3))
 ·rw [if_neg hl]
  have hcall:=WC A c l Wa HC.out hc (by omega)
  cases hp:recP l with
  | none =>
   go_enter Tryz.func50,Tryz.ntmps50
   go_wp2_with fail
   rw [← HWA.out]
   refine hcall.mono ?_
   rintro e w1 ⟨hB,hor⟩
   rcases hor.symm with ⟨_,rfl⟩ | ⟨x,r,v,h,_⟩
   case inr=>rw [hp] at h;cases h
   have HX:=iC.mk ((hB.block _ HLT.out).trans HXA.out)
   have HB:=iC.mk (HBA.out.trans (hB.mono HBA.out.size))
   have hst:=fun (_:True)=>zV (show (w1.alloc (.cells #[.int .u8 0,.int .u32 0,.int .u32 0,.slice none 0 0,.slice none 0 0,.int .u32 0,.slice none 0 0,.int .i64 0,.int .i64 0,.slice none 0 0] 54)).heap[w.heap.size]? = _ from jI HX.out)
   have hsx:=fun (_:True)=>run_storeAt_new (P:=Tryz.prog) w1 54 #[.int .u8 0,.int .u32 0,.int .u32 0,.slice none 0 0,.slice none 0 0,.int .u32 0,.slice none 0 0,.int .i64 0,.int .i64 0,.slice none 0 0] #[.int .u8 0,.int .u32 0,.int .u32 0,.slice none 0 0,.slice none 0 0,.int .u32 0,.slice none 0 0,.int .i64 0,.int .i64 0,.slice none 0 0] (by kernel_rfl) rfl (by simp [Value.oneCell'])
   clear hp hcall hB hor
   go_wp2
   ((try simp only [Exit.inBlock,Exit.then]);exact bodyPost_ret (yH rfl rfl rfl (setRow_heap _ _ _ _ _ _ (jI HX.out)) rfl) rfl (IB w _ (iD HB.out _) 70))
  | some y =>
   obtain ⟨x,r⟩:=y
   obtain ⟨D,hD⟩:∃ D:SRec × Int,D=(if encR x=(nums l,0) then (x,0) else (mJ,70)):=⟨_,rfl⟩
   show Calls _ _ _ _ (MX w (if encR x=(nums l,0) then (x,0) else (mJ,70)))
   rw [← hD]
   have HDD:=iC.mk hD
   clear hD
   go_enter Tryz.func50,Tryz.ntmps50
   go_wp2_with fail
   rw [← HWA.out]
   refine hcall.mono ?_
   rintro e w1 ⟨hB,hor⟩
   rcases hor.symm with ⟨h,_⟩ | ⟨x',r',v,h,rfl,hv⟩
   case inl=>rw [hp] at h;cases h
   rw [hp] at h
   injection h with h
   injection h with e1 e2
   subst e1
   subst e2
   clear hp hcall hor
   have HX:=iC.mk ((hB.block _ HLT.out).trans HXA.out)
   have HB:=iC.mk (HBA.out.trans (hB.mono HBA.out.size))
   have HCB0:=iC.mk (Kd.C_below HCI.out hB)
   obtain ⟨v3,v4,v6,v9,rfl,h3,h4,h6,h9⟩:=hv
   obtain ⟨A3,d3,rfl⟩:=Kd.R_slice h3
   obtain ⟨A4,d4,rfl⟩:=Kd.R_slice h4
   obtain ⟨A6,d6,rfl⟩:=Kd.R_slice h6
   obtain ⟨A9,d9,rfl⟩:=Kd.R_slice h9
   have hbw:Below w1.heap.size w1 (w1.alloc (.cells #[.int .u8 x.f0,.int .u32 x.f1,.int .u32 x.f2,.slice A3 x.f3.length d3,.slice A4 x.f4.length d4,.int .u32 x.f5.f0,.slice A6 x.f5.f1.length d6,.int .i64 x.f6,.int .i64 x.f7,.slice A9 x.f8.length d9] 54)):=iD (Below.refl _ _) _
   have HV:=iC.mk (yL (show RecV Wa.heap.size x _ w1 from ⟨_,_,_,_,rfl,h3,h4,h6,h9⟩) hbw)
   have HX0:=HX
   have HX:=iC.mk (show (w1.alloc (.cells #[.int .u8 x.f0,.int .u32 x.f1,.int .u32 x.f2,.slice A3 x.f3.length d3,.slice A4 x.f4.length d4,.int .u32 x.f5.f0,.slice A6 x.f5.f1.length d6,.int .i64 x.f6,.int .i64 x.f7,.slice A9 x.f8.length d9] 54)).heap[w.heap.size]? = _ from jI HX0.out)
   have HB:=iC.mk (show Below w.heap.size w (w1.alloc (.cells #[.int .u8 x.f0,.int .u32 x.f1,.int .u32 x.f2,.slice A3 x.f3.length d3,.slice A4 x.f4.length d4,.int .u32 x.f5.f0,.slice A6 x.f5.f1.length d6,.int .i64 x.f6,.int .i64 x.f7,.slice A9 x.f8.length d9] 54)) from iD HB.out _)
   have HCB:=iC.mk (Kd.C_below HCB0.out hbw)
   have HXX:=iC.mk (show (w1.alloc (.cells #[.int .u8 x.f0,.int .u32 x.f1,.int .u32 x.f2,.slice A3 x.f3.length d3,.slice A4 x.f4.length d4,.int .u32 x.f5.f0,.slice A6 x.f5.f1.length d6,.int .i64 x.f6,.int .i64 x.f7,.slice A9 x.f8.length d9] 54)).heap[w1.heap.size]? = some (.cells #[.int .u8 x.f0,.int .u32 x.f1,.int .u32 x.f2,.slice A3 x.f3.length d3,.slice A4 x.f4.length d4,.int .u32 x.f5.f0,.slice A6 x.f5.f1.length d6,.int .i64 x.f6,.int .i64 x.f7,.slice A9 x.f8.length d9] 54 (0,0)) from iP rfl)
   have h3:=Kd.R_below h3 hbw
   have h4:=Kd.R_below h4 hbw
   have h6:=Kd.R_below h6 hbw
   have h9:=Kd.R_below h9 hbw
   have hsx:=fun (_:True)=>run_storeAt_new (P:=Tryz.prog) w1 54 #[.int .u8 0,.int .u32 0,.int .u32 0,.slice none 0 0,.slice none 0 0,.int .u32 0,.slice none 0 0,.int .i64 0,.int .i64 0,.slice none 0 0] #[.int .u8 x.f0,.int .u32 x.f1,.int .u32 x.f2,.slice A3 x.f3.length d3,.slice A4 x.f4.length d4,.int .u32 x.f5.f0,.slice A6 x.f5.f1.length d6,.int .i64 x.f6,.int .i64 x.f7,.slice A9 x.f8.length d9] (by kernel_rfl) rfl (by simp [Value.oneCell'])
   have hlx:=fun (_:True)=>qO HXX.out rfl
   obtain ⟨_,q3,C3⟩:=Kd.R_reads' h3
   obtain ⟨_,q4,C4⟩:=Kd.R_reads' h4
   obtain ⟨_,q6,C6⟩:=Kd.R_reads' h6
   obtain ⟨_,q9,C9⟩:=Kd.R_reads' h9
   have hcall:=fun r1 r2 (h:encR x=(r1,r2))=>code_Encode.calls x.f0 x.f1 x.f2 A3 d3 x.f3 A4 d4 x.f4 x.f5.f0 A6 d6 x.f5.f1 x.f6 x.f7 A9 d9 x.f8 r1 r2 (w1.alloc (.cells #[.int .u8 x.f0,.int .u32 x.f1,.int .u32 x.f2,.slice A3 x.f3.length d3,.slice A4 x.f4.length d4,.int .u32 x.f5.f0,.slice A6 x.f5.f1.length d6,.int .i64 x.f6,.int .i64 x.f7,.slice A9 x.f8.length d9] 54)) C3 q3 C4 q4 C6 q6 C9 q9 (congrArg some h)
   clear h3 h4 h6 h9 C3 C4 C6 C9 q3 q4 q6 q9 hB hbw HX0 HCB0
   rcases oP x with he | he | he
   ·have hcall:=hcall _ _ he
    have HNE:=iC.mk (show ¬ encR x=(nums l,0) from by rw [he];intro h;injection h with h1 h2;cases h2)
    clear he
    go_wp2_with fail
    refine hcall.mono ?_
    rintro e w2 ⟨v0,rfl,h0,hB2⟩
    have HX2:=iC.mk ((hB2.block _ (jH HX.out)).trans HX.out)
    have HB3:=iC.mk (HB.out.trans (hB2.mono HB.out.size))
    have hst:=fun (_:True)=>zV HX2.out
    clear hB2 hcall h0
    go_wp2
    ((try simp only [Exit.inBlock,Exit.then]);exact bodyPost_ret (yH rfl rfl rfl (setRow_heap _ _ _ _ _ _ HX2.out) rfl) rfl (by rw [HDD.out,if_neg HNE.out];exact IB w _ HB3.out 70))
   ·have hcall:=hcall _ _ he
    have HNE:=iC.mk (show ¬ encR x=(nums l,0) from by rw [he];intro h;injection h with h1 h2;cases h2)
    clear he
    go_wp2_with fail
    refine hcall.mono ?_
    rintro e w2 ⟨v0,rfl,h0,hB2⟩
    have HX2:=iC.mk ((hB2.block _ (jH HX.out)).trans HX.out)
    have HB3:=iC.mk (HB.out.trans (hB2.mono HB.out.size))
    have hst:=fun (_:True)=>zV HX2.out
    clear hB2 hcall h0
    go_wp2
    ((try simp only [Exit.inBlock,Exit.then]);exact bodyPost_ret (yH rfl rfl rfl (setRow_heap _ _ _ _ _ _ HX2.out) rfl) rfl (by rw [HDD.out,if_neg HNE.out];exact IB w _ HB3.out 70))
   ·have hcall:=hcall _ _ he
    have HE:=iC.mk he
    clear he
    go_wp2_with fail
    refine hcall.mono ?_
    rintro e w2 ⟨v0,rfl,h0,hB2⟩
    clear hcall
    obtain ⟨A0,d0,rfl⟩:=Kd.R_slice h0
    obtain ⟨_,q0,C0⟩:=Kd.R_reads' h0
    have HX2:=iC.mk ((hB2.block _ (jH HX.out)).trans HX.out)
    have HB3:=iC.mk (HB.out.trans (hB2.mono HB.out.size))
    have HV2:=iC.mk (yL HV.out hB2)
    have HXX2:=iC.mk ((hB2.block _ (jH HXX.out)).trans HXX.out)
    have hcall:=bytes_Equal.calls A0 d0 (nums (recE x)) A c (nums l) _ w2 C0 q0 (by rw [jM];exact Kd.C_below HCB.out hB2) (by rw [jM];exact hc) rfl
    rw [uZ,jM l] at hcall
    clear C0 h0 hB2 q0
    by_cases hq:recE x=l
    ·rw [decide_eq_true hq] at hcall
     have HEQ:=iC.mk (show encR x=(nums l,0) from by rw [HE.out,hq])
     clear hq
     go_wp2_with fail
     refine hcall.mono ?_
     rintro e w3 ⟨rfl,hD⟩
     have HX3:=iC.mk ((hD.below.block _ (jH HX2.out)).trans HX2.out)
     have HB4:=iC.mk (HB3.out.trans (hD.below.mono HB3.out.size))
     have HV3:=iC.mk (yL HV2.out hD.below)
     have hl3:=fun (_:True)=>qO ((hD.below.block _ (jH HXX2.out)).trans HXX2.out) rfl
     have hst:=fun (_:True)=>oJ (a:=x.f0) (k:=x.f1) (i:=x.f2) (x3:=.slice A3 x.f3.length d3) (x4:=.slice A4 x.f4.length d4) (j:=x.f5.f0) (x6:=.slice A6 x.f5.f1.length d6) (p:=x.f6) (q:=x.f7) (x9:=.slice A9 x.f8.length d9) HX3.out rfl rfl rfl rfl
     clear hcall hD
     go_wp2
     (try simp only [Exit.inBlock,Exit.then])
     refine bodyPost_ret (yH rfl rfl rfl (setRow_heap _ _ _ _ _ _ HX3.out) rfl) rfl ?_
     rw [HDD.out,if_pos HEQ.out]
     exact ⟨_,rfl,LG (yQ HV3.out (jP _ w.heap.size _) HLT.out) HBA.out.size,below_grown HB4.out (jP _ w.heap.size _) (Nat.le_refl _) (Nat.le_refl _)⟩
    ·rw [decide_eq_false hq] at hcall
     have HNE:=iC.mk (show ¬ encR x=(nums l,0) from by rw [HE.out];intro h;injection h with h1 h2;exact hq (MF h1))
     clear hq
     go_wp2_with fail
     refine hcall.mono ?_
     rintro e w3 ⟨rfl,hD⟩
     have HX3:=iC.mk ((hD.below.block _ (jH HX2.out)).trans HX2.out)
     have HB4:=iC.mk (HB3.out.trans (hD.below.mono HB3.out.size))
     have hst:=fun (_:True)=>zV HX3.out
     clear hcall hD
     go_wp2
     ((try simp only [Exit.inBlock,Exit.then]);exact bodyPost_ret (yH rfl rfl rfl (setRow_heap _ _ _ _ _ _ HX3.out) rfl) rfl (by rw [HDD.out,if_neg HNE.out];exact IB w _ HB4.out 70))
end
end Go.Proofs.YtgfkgppomaapiaaGreatDoor.K
namespace Go.Proofs.YtgfkgppomaapiaaGreatDoor.My
open Go Go.RowKit Go.Deep Go.ChangeShapes Go.WideShapes Go.ChangeAt Go.Proofs.YtgfkgppomaapiaaGreatDoorW.PrintWords
section
def Came {α:Type} (d:Kd α) (t:TypeId) (ok:α→Prop) (wt:α→Nat):Prop :=
 ∀ {H:Type} (enc:TypeId × Value→H) (w:World) (fuel:Nat) (cs:List Value) (x:DataW H × List MemPlace),DataW.trod enc Tryz.prog w 0 (fun _=>true) true fuel t cs=some x→∃ v:α,d.K w v cs∧ok v∧wt v≤Rows.uptoBulk x.1
theorem mP {k:IntKind} {t:TypeId} (ht:Tryz.prog.underlying t=some (.int k)):Came (Kd.int k) t (fun n=>(Lit.int k n).wf=true) (fun _=>1):=by
 intro H enc w fuel cs x h
 obtain ⟨n,rfl,hx,hw⟩:=DataW.trod_int ht h
 exact ⟨n,rfl,hw,by rw [hx];simp [Rows.uptoBulk]⟩
def rJ {α:Type} (wt:α→Nat) (l:List α):Nat:=(l.map wt).sum
theorem U7 {α:Type} (wt:α→Nat) (x:α) (l:List α):rJ wt (x :: l)=wt x+rJ wt l:=by simp [rJ]
theorem ZX {α:Type} [Inhabited α] {n:Nat} {p:Nat→α→Prop} (h:∀ i,i<n→∃ x,p i x):∃ f:Nat→α,∀ i,i<n→p i (f i):=by
 classical
 refine ⟨fun i=>if h':i<n then Classical.choose (h i h') else default,fun i hi=>?_⟩
 simp only [dif_pos hi]
 exact Classical.choose_spec (h i hi)
theorem WL {w:World} {a:Addr} {n:Nat} {cs:List Value} (h:w.cells? 0 a n=some cs) (i:Nat) (v:Value) (hi:cs[i]? = some v):w.cell? (a.add i)=some v:=by
 obtain ⟨_,hl,hc⟩:=World.cells?_some h
 have hil:i<n:=by have:=(List.getElem?_eq_some_iff.1 hi).1;omega
 rw [hc i hil]
 exact hi
theorem qR {α:Type} [Inhabited α] {d:Kd α} {t e:TypeId} {ok:α→Prop} {wt:α→Nat} (ht:Tryz.prog.underlying t=some (.slice e)) (hc:Tryz.prog.cellsOf e=d.sz) (he:Came d e ok wt) :
  Came (Kd.slice e d) t (fun l=>∀ x∈l,ok x) (fun l=>rJ wt l+1):=by
 intro H enc w fuel cs x h
 rcases open_slice ht h with ⟨rfl,rfl⟩ | ⟨ad,len,cap,m,n,D,Pl,rfl,_,hl,hmax,hm,rfl,hel⟩
 ·exact ⟨[],⟨none,0,rfl,Nat.le_refl _,⟨rfl,by simp,fun h=>absurd h (Nat.lt_irrefl 0)⟩⟩,(by simp),by simp [rJ,Rows.uptoBulk]⟩
 ·have hlm:len≤m:=by rw [hm];simp;exact hl
  have one:∀ i,i<len→∃ v:α,(∃ cs',w.cells? 0 (ad.add (i * Tryz.prog.cellsOf e)) (Tryz.prog.cellsOf e)=some cs'∧d.K w v cs')∧ok v∧wt v≤Rows.uptoBulk (D i):=by
   intro i hi
   obtain ⟨cs',h1,h2⟩:=hel i (by omega)
   obtain ⟨v,h3,h4,h5⟩:=he enc w n cs' _ h2
   exact ⟨v,⟨cs',h1,h3⟩,h4,h5⟩
  obtain ⟨L,hL⟩:=ZX one
  have hlen:((List.range len).map L).length=len:=by simp
  refine ⟨(List.range len).map L,⟨some ad,cap,by rw [hlen],by rw [hlen];exact hl,?_⟩,?_,?_⟩
  ·rw [hlen]
   refine ⟨hlen,by unfold maxLen at hmax;omega,fun _=>⟨ad,rfl,fun j p hj=>?_⟩⟩
   have hjl:j<len:=by have:=(List.getElem?_eq_some_iff.1 hj).1;simpa using this
   have hp:p=L j:=by
    rw [List.getElem?_map,List.getElem?_range hjl] at hj
    simp only [Option.map_some,Option.some.injEq] at hj
    exact hj.symm
   subst hp
   obtain ⟨⟨cs',h1,h2⟩,_,_⟩:=hL j hjl
   rw [hc] at h1
   refine ⟨cs',d.K_len h2,h2,fun i u hi=>?_⟩
   have:=WL h1 i u hi
   rwa [Go.Deep.add_add] at this
  ·intro y hy
   obtain ⟨i,hi,rfl⟩:=List.mem_map.1 hy
   exact (hL i (List.mem_range.1 hi)).2.1
  ·have key:∀ is:List Nat,(∀ i∈is,i<len)→rJ wt (is.map L)≤Rows.uptoBulkAll (is.map D):=by
    intro is
    induction is with
    | nil=>intro _;simp [rJ,Rows.uptoBulkAll]
    | cons i is ih =>
     intro hi
     have h3:=ih (fun k hk=>hi k (List.mem_cons_of_mem _ hk))
     have h4:=(hL i (hi i List.mem_cons_self)).2.2
     rw [List.map_cons,List.map_cons,U7]
     simp only [Rows.uptoBulkAll]
     omega
   have:=key (List.range len) (fun i hi=>List.mem_range.1 hi)
   simp only [Rows.uptoBulk]
   omega
theorem xA {α β:Type} {da:Kd α} {db:Kd β} {t:TypeId} {f0 f1:Field} {oka:α→Prop} {okb:β→Prop} {wta:α→Nat} {wtb:β→Nat} (ht:Tryz.prog.underlying t=some (.struct #[f0,f1])) (ct:Tryz.prog.cellsOf t=da.sz+db.sz)
  (h0:f0.offset=0) (h1:f1.offset=da.sz) (c0:Tryz.prog.cellsOf f0.type=da.sz) (c1:Tryz.prog.cellsOf f1.type=db.sz) (A:Came da f0.type oka wta) (B:Came db f1.type okb wtb) :
  Came (Kd.pair da db) t (fun x=>oka x.1∧okb x.2) (fun x=>wta x.1+wtb x.2+1):=by
 intro H enc w fuel cs x h
 obtain ⟨y0,y1,n,rfl,hl,e0,e1⟩:=trod_struct2 ht h
 rw [h0,c0,List.drop_zero] at e0
 rw [h1,c1] at e1
 obtain ⟨v0,k0,o0,b0⟩:=A enc w n _ _ e0
 obtain ⟨v1,k1,o1,b1⟩:=B enc w n _ _ e1
 refine ⟨(v0,v1),⟨_,_,?_,k0,k1⟩,⟨o0,o1⟩,?_⟩
 ·rw [List.take_of_length_le (l:=cs.drop da.sz) (by rw [List.length_drop];omega),List.take_append_drop]
 ·simp only [Rows.uptoBulk,Rows.uptoBulkAll]
  omega
theorem MN {α β:Type} {d:Kd α} {t:TypeId} {ok:α→Prop} {wt:α→Nat} (f:β→α) (g:α→β) (hfg:∀ x,f (g x)=x) (h:Came d t ok wt):Came (Kd.iso d f) t (fun y=>ok (f y)) (fun y=>wt (f y)):=by
 intro H enc w fuel cs x hx
 obtain ⟨v,h1,h2,h3⟩:=h enc w fuel cs x hx
 exact ⟨g v,by show d.K w (f (g v)) cs;rw [hfg];exact h1,by show ok (f (g v));rw [hfg];exact h2,by show wt (f (g v))≤_;rw [hfg];exact h3⟩
theorem uB {α:Type} {d:Kd α} {t:TypeId} {ok ok':α→Prop} {wt:α→Nat} (h:Came d t ok wt) (hok:∀ x,ok x→ok' x):Came d t ok' wt:=by
 intro H enc w fuel cs x hx
 obtain ⟨v,h1,h2,h3⟩:=h enc w fuel cs x hx
 exact ⟨v,h1,hok v h2,h3⟩
theorem came_C {α:Type} {d:Kd α} {t e:TypeId} {ok:List α→Prop} {wt:List α→Nat} (h:Came (Kd.slice e d) t ok wt) {H:Type} (enc:TypeId × Value→H) {w:World} {fuel:Nat} {v:Value} {x:DataW H × List MemPlace} (ht:DataW.trod enc Tryz.prog w 0 (fun _=>true) true fuel t v.cells.toList=some x) :
  ∃ (A:Option Addr) (c:Nat) (l:List α),v.cells.toList=[.slice A l.length c]∧l.length≤c∧d.C w A l.length l∧ok l∧wt l≤Rows.uptoBulk x.1:=by
 obtain ⟨l,⟨A,c,h1,h2,h3⟩,h4,h5⟩:=h enc w fuel _ x ht
 exact ⟨A,c,l,h1,h2,h3,h4,h5⟩
end
end Go.Proofs.YtgfkgppomaapiaaGreatDoor.My
namespace Go.Proofs.YtgfkgppomaapiaaGreatDoor.K
open Go Go.RowKit Go.Deep Go.ChangeShapes Go.WideShapes Go.ChangeAt Go.Proofs.YtgfkgppomaapiaaGreatDoorW.PrintWords Go.Proofs.YtgfkgppomaapiaaGreatDoor.My
section
instance:Inhabited jQ:=⟨⟨[],0⟩⟩
instance:Inhabited jJ:=⟨⟨0,[]⟩⟩
instance:Inhabited kC:=⟨⟨0,0⟩⟩
def I64 (n:Int):Prop:=-9223372036854775808≤n∧n<9223372036854775808
def j02 (f:jQ):Prop:=(∀ v∈f.f0,I64 v)∧I64 f.f1
def WY (e:jJ):Prop:=(0≤e.f0∧e.f0<4294967296)∧∀ f∈e.f1,j02 f
def ja9 (s:kC):Prop:=I64 s.f0∧I64 s.f1
def wtI (_:Int):Nat:=1
def wtF (f:jQ):Nat:=rJ wtI f.f0+1+1+1
def wtE (e:jJ):Nat:=1+(rJ wtF e.f1+1)+1
def wtS (_:kC):Nat:=3
theorem JZ {n:Int} (h:(Lit.int .i64 n).wf=true):I64 n:=by have:=wf_i64 h;unfold I64;omega
theorem came_ints:Came (Kd.slice 3 (Kd.int .i64)) 47 (fun l=>∀ v∈l,I64 v) (fun l=>rJ wtI l+1) :=
 uB (qR (wt:=wtI) Tryz.underlying47 (by kernel_rfl) (mP Tryz.underlying3)) (fun _ h x hx=>JZ (h x hx))
theorem ZL:Came k149 149 j02 wtF :=
 uB (MN (fun x:jQ=>(x.f0,x.f1)) (fun p=>⟨p.1,p.2⟩) (fun _=>rfl) (xA Tryz.underlying149 (by kernel_rfl) rfl rfl (by kernel_rfl) (by kernel_rfl) came_ints (mP Tryz.underlying2))) (fun _ h=>⟨h.1,JZ h.2⟩)
theorem JX:Came (Kd.slice 149 k149) 48 (fun l=>∀ v∈l,j02 v) (fun l=>rJ wtF l+1) :=
 qR Tryz.underlying48 (by kernel_rfl) ZL
theorem UM:Came k114 114 WY wtE :=
 uB (MN (fun x:jJ=>(x.f0,x.f1)) (fun p=>⟨p.1,p.2⟩) (fun _=>rfl) (xA Tryz.underlying114 (by kernel_rfl) rfl rfl (by kernel_rfl) (by kernel_rfl) (mP Tryz.underlying46) JX)) (fun _ h=>⟨wf_u32 h.1,h.2⟩)
theorem OO:Came (Kd.slice 114 k114) 52 (fun l=>∀ v∈l,WY v) (fun l=>rJ wtE l+1) :=
 qR Tryz.underlying52 (by kernel_rfl) UM
theorem ZJ:Came k122 122 ja9 wtS :=
 uB (MN (fun x:kC=>(x.f0,x.f1)) (fun p=>⟨p.1,p.2⟩) (fun _=>rfl) (xA Tryz.underlying122 (by kernel_rfl) rfl rfl (by kernel_rfl) (by kernel_rfl) (mP Tryz.underlying3) (mP Tryz.underlying3))) (fun _ h=>⟨JZ h.1,JZ h.2⟩)
theorem VS:Came (Kd.slice 122 k122) 49 (fun l=>∀ v∈l,ja9 v) (fun l=>rJ wtS l+1) :=
 qR Tryz.underlying49 (by kernel_rfl) ZJ
theorem jd4:Came (Kd.pair (Kd.int .u32) (Kd.slice 122 k122)) 51 (fun m=>(0≤m.1∧m.1<4294967296)∧∀ v∈m.2,ja9 v) (fun m=>1+(rJ wtS m.2+1)+1) :=
 uB (xA Tryz.underlying51 (by kernel_rfl) rfl rfl (by kernel_rfl) (by kernel_rfl) (mP Tryz.underlying46) VS) (fun _ h=>⟨wf_u32 h.1,h.2⟩)
theorem pF {α:Type} {n:Nat}:∀ {l:List α},l.length=n+1→∃ x t,l=x :: t∧t.length=n
 | x :: t,h=>⟨x,t,rfl,by simpa using h⟩
theorem TT {α:Type} {l:List α} (h:l.length=10):∃ z0 z1 z2 z3 z4 z5 z6 z7 z8 z9,l=[z0,z1,z2,z3,z4,z5,z6,z7,z8,z9]:=by
 obtain ⟨z0,l0,rfl,h0⟩:=pF h
 obtain ⟨z1,l1,rfl,h1⟩:=pF h0
 obtain ⟨z2,l2,rfl,h2⟩:=pF h1
 obtain ⟨z3,l3,rfl,h3⟩:=pF h2
 obtain ⟨z4,l4,rfl,h4⟩:=pF h3
 obtain ⟨z5,l5,rfl,h5⟩:=pF h4
 obtain ⟨z6,l6,rfl,h6⟩:=pF h5
 obtain ⟨z7,l7,rfl,h7⟩:=pF h6
 obtain ⟨z8,l8,rfl,h8⟩:=pF h7
 obtain ⟨z9,l9,rfl,h9⟩:=pF h8
 have:=List.eq_nil_of_length_eq_zero h9
 subst this
 exact ⟨z0,z1,z2,z3,z4,z5,z6,z7,z8,z9,rfl⟩
def RecIn (w:World) (r:SRec) (cs:List Value):Prop :=
 ∃ A3 c3 A4 c4 A6 c6 A9 c9,cs=[.int .u8 r.f0,.int .u32 r.f1,.int .u32 r.f2,.slice A3 r.f3.length c3,.slice A4 r.f4.length c4,.int .u32 r.f5.f0,.slice A6 r.f5.f1.length c6,.int .i64 r.f6,.int .i64 r.f7,.slice A9 r.f8.length c9] ∧
  (Kd.int .i64).C w A3 r.f3.length r.f3∧r.f3.length≤c3∧k149.C w A4 r.f4.length r.f4∧r.f4.length≤c4∧k122.C w A6 r.f5.f1.length r.f5.f1∧r.f5.f1.length≤c6∧k114.C w A9 r.f8.length r.f8∧r.f8.length≤c9
structure RecW (r:SRec):Prop where
 ok:LQ r
 n3:∀ v∈r.f3,I64 v
 n4:∀ f∈r.f4,j02 f
 n6:∀ s∈r.f5.f1,ja9 s
 n7:I64 r.f6
 n8:I64 r.f7
 n9:∀ e∈r.f8,WY e
def wtR (r:SRec):Nat:=rJ wtI r.f3+rJ wtF r.f4+rJ wtS r.f5.f1+rJ wtE r.f8
theorem QU {H:Type} (enc:TypeId × Value→H) {w:World} {fuel:Nat} {cs:List Value} {x:DataW H × List MemPlace} (h:DataW.trod enc Tryz.prog w 0 (fun _=>true) true fuel 54 cs=some x) :
  ∃ r:SRec,RecIn w r cs∧RecW r∧wtR r≤Rows.uptoBulk x.1:=by
 obtain ⟨xs,n,rfl,rfl,hl,hlen,hf⟩:=DataW.trod_struct Tryz.underlying54 h
 match xs,hlen with
 | [y0,y1,y2,y3,y4,y5,y6,y7,y8],_ =>
  rw [show Tryz.prog.cellsOf 54=10 from by kernel_rfl] at hl
  obtain ⟨a0,p0,o0,b0⟩:=mP Tryz.underlying5 enc w n _ y0 (hf 0 _ rfl)
  obtain ⟨a1,p1,o1,b1⟩:=mP Tryz.underlying46 enc w n _ y1 (hf 1 _ rfl)
  obtain ⟨a2,p2,o2,b2⟩:=mP Tryz.underlying46 enc w n _ y2 (hf 2 _ rfl)
  obtain ⟨a3,⟨A3,c3,p3,q3,r3⟩,o3,b3⟩:=came_ints enc w n _ y3 (hf 3 _ rfl)
  obtain ⟨a4,⟨A4,c4,p4,q4,r4⟩,o4,b4⟩:=JX enc w n _ y4 (hf 4 _ rfl)
  obtain ⟨a5,⟨c50,c51,p5,q5,⟨A6,c6,p6,q6,r6⟩⟩,o5,b5⟩:=jd4 enc w n _ y5 (hf 5 _ rfl)
  obtain ⟨a7,p7,o7,b7⟩:=mP Tryz.underlying3 enc w n _ y6 (hf 6 _ rfl)
  obtain ⟨a8,p8,o8,b8⟩:=mP Tryz.underlying3 enc w n _ y7 (hf 7 _ rfl)
  obtain ⟨a9,⟨A9,c9,p9,q9,r9⟩,o9,b9⟩:=OO enc w n _ y8 (hf 8 _ rfl)
  have p0:List.take (Tryz.prog.cellsOf 5) (List.drop 0 cs)=[.int .u8 a0]:=p0
  rw [show Tryz.prog.cellsOf 5=1 from by kernel_rfl] at p0
  have p1:List.take (Tryz.prog.cellsOf 46) (List.drop 1 cs)=[.int .u32 a1]:=p1
  rw [show Tryz.prog.cellsOf 46=1 from by kernel_rfl] at p1
  have p2:List.take (Tryz.prog.cellsOf 46) (List.drop 2 cs)=[.int .u32 a2]:=p2
  rw [show Tryz.prog.cellsOf 46=1 from by kernel_rfl] at p2
  have p3:List.take (Tryz.prog.cellsOf 47) (List.drop 3 cs)=[.slice A3 a3.length c3]:=p3
  rw [show Tryz.prog.cellsOf 47=1 from by kernel_rfl] at p3
  have p4:List.take (Tryz.prog.cellsOf 48) (List.drop 4 cs)=[.slice A4 a4.length c4]:=p4
  rw [show Tryz.prog.cellsOf 48=1 from by kernel_rfl] at p4
  have p5:List.take (Tryz.prog.cellsOf 51) (List.drop 5 cs)=c50 ++ c51:=p5
  rw [show Tryz.prog.cellsOf 51=2 from by kernel_rfl] at p5
  have p7:List.take (Tryz.prog.cellsOf 3) (List.drop 7 cs)=[.int .i64 a7]:=p7
  rw [show Tryz.prog.cellsOf 3=1 from by kernel_rfl] at p7
  have p8:List.take (Tryz.prog.cellsOf 3) (List.drop 8 cs)=[.int .i64 a8]:=p8
  rw [show Tryz.prog.cellsOf 3=1 from by kernel_rfl] at p8
  have p9:List.take (Tryz.prog.cellsOf 52) (List.drop 9 cs)=[.slice A9 a9.length c9]:=p9
  rw [show Tryz.prog.cellsOf 52=1 from by kernel_rfl] at p9
  obtain ⟨z0,z1,z2,z3,z4,z5,z6,z7,z8,z9,rfl⟩:=TT hl
  have s0:[z0]=[.int .u8 a0]:=p0
  have s1:[z1]=[.int .u32 a1]:=p1
  have s2:[z2]=[.int .u32 a2]:=p2
  have s3:[z3]=[.slice A3 a3.length c3]:=p3
  have s4:[z4]=[.slice A4 a4.length c4]:=p4
  have s5:[z5,z6]=c50 ++ c51:=p5
  have q5:c50=[.int .u32 a5.1]:=q5
  have s7:[z7]=[.int .i64 a7]:=p7
  have s8:[z8]=[.int .i64 a8]:=p8
  have s9:[z9]=[.slice A9 a9.length c9]:=p9
  rw [q5,p6] at s5
  simp only [List.cons.injEq,and_true,List.cons_append,List.nil_append] at s0 s1 s2 s3 s4 s5 s7 s8 s9
  obtain ⟨rfl,rfl⟩:=s5
  subst s0;subst s1;subst s2;subst s3;subst s4;subst s7;subst s8;subst s9
  refine ⟨⟨a0,a1,a2,a3,a4,⟨a5.1,a5.2⟩,a7,a8,a9⟩,⟨A3,c3,A4,c4,A6,c6,A9,c9,rfl,r3,q3,r4,q4,r6,q6,r9,q9⟩,⟨⟨wf_u8 o0,wf_u32 o1,wf_u32 o2,fun f hf=>(o4 f hf).2,o5.1,fun e he=>⟨(o9 e he).1.1,(o9 e he).1.2,fun f hf=>((o9 e he).2 f hf).2⟩⟩,o3,o4,o5.2,JZ o7,JZ o8,o9⟩,?_⟩
  simp only at b3 b4 b5 b9
  simp only [wtR,Rows.uptoBulk,Rows.uptoBulkAll,List.map_cons,List.map_nil]
  omega
end
end Go.Proofs.YtgfkgppomaapiaaGreatDoor.K
namespace Go.Proofs.YtgfkgppomaapiaaGreatDoor.K
open Go.RowKit Go.Proofs.YtgfkgppomaapiaaGreatDoorW.PrintWords Go.Proofs.YtgfkgppomaapiaaGreatDoorW.PrintLast Go.Proofs.YtgfkgppomaapiaaGreatDoorW.PrintMore
section
attribute [local go_sem] kL kH kZ lC
def stratumlaw07_heavy.l0:Nat→List (S149)→Int→Int→Option (Int)
 | 0,_,_,_=>none
 | k+1,x0,x3,x4=>if x4<(x0.length:Int) then (if 0≤x4 then (stratumlaw07_heavy.l0 k x0 (wrap64 (x3+(wrap64 (1+(((iR x0 x4).f0).length:Int))))) (wrap64 (x4+1))) else (none)) else (some x3)
def stratumlaw07_heavy.f (k:Nat) (l0:List (S149)):Option (Int):=stratumlaw07_heavy.l0 k l0 0 0
set_option maxHeartbeats 8000000 in
set_option maxRecDepth 100000 in
theorem stratumlaw07_heavy.calls (k:Nat) (A0:Option Addr) (c0:Nat) (l0:List (S149)) (r:Int) (w:World) (hr0:Kd.C k149 w A0 l0.length l0) (hc0:l0.length≤c0) (h:stratumlaw07_heavy.f k l0=some r) :
  Calls Tryz.prog 59 #[.slice A0 l0.length c0] w fun e w'=>e=.returned (.int .i64 r)∧jD w w':=by
 have HR0:=iC.mk hr0
 have HC0:=iC.mk hc0
 clear hr0 hc0
 have H:(stratumlaw07_heavy.l0 k l0 0 0)=some r:=h
 clear h
 have H':=iC.mk H
 clear H
 go_enter Tryz.func59,Tryz.ntmps59
 go_wp2
 go_loopg [3,4] k (fun kq v3 v4 w'=>∃ (x3_1:Int) (x4_1:Int),v3=.int .i64 x3_1∧v4=.int .i64 x4_1∧iC (stratumlaw07_heavy.l0 kq l0 x3_1 x4_1=some r)∧iC (kq≤k)∧jD w w')
 case atStart=>exact ⟨(0),(0),(by first | rfl | (simp;done) | (simp [*];done)),(by first | rfl | (simp;done) | (simp [*];done)),H',⟨Nat.le_refl _⟩,by repeat (first | exact jD.refl _ | apply jD.step)⟩
 case round =>
  clear H'
  obtain ⟨x3_1,x4_1,rfl,rfl,HA,HK1,⟨m1,rfl⟩⟩:=hrel
  cases gk with
  | zero=>exact absurd HA.out (by simp [stratumlaw07_heavy.l0])
  | succ k1 =>
   have H:=HA.out
   clear HA
   simp only [stratumlaw07_heavy.l0] at H
   by_cases c2:x4_1<(l0.length:Int)
   ·rw [if_pos c2] at H
    have c2b0:decide (x4_1<(l0.length:Int))=true:=decide_eq_true c2
    clear c2
    by_cases c3:0≤x4_1
    ·rw [if_pos c3] at H
     have c3b0:decide (0≤x4_1)=true:=decide_eq_true c3
     clear c3
     have H':=iC.mk H
     clear H
     have p239:0≤(x4_1:Int):=of_decide_eq_true asm_
     have q239:x4_1<(l0.length:Int):=of_decide_eq_true asm_
     obtain ⟨ad239,A239_0,c239_0,e239,hx239_0,hx239_1,hl239_0,hi239_0⟩:=kU HR0.out x4_1 p239 q239
     cases e239
     have HR239_0:=iC.mk hi239_0
     have HC239_0:=iC.mk hl239_0
     clear hi239_0 hl239_0
     replace p239:=eq_true p239
     replace q239:=eq_true q239
     go_wp2
     go_roundg k1
     case measure=>have:=HK1.out;omega
     case rel=>exact ⟨(wrap64 (x3_1+(wrap64 (1+(((iR l0 x4_1).f0).length:Int))))),(wrap64 (x4_1+1)),(by first | rfl | (simp;done) | (simp [*];done)),(by first | rfl | (simp;done) | (simp [*];done)),H',⟨by have:=HK1.out;omega⟩,by repeat (first | exact jD.refl _ | apply jD.step)⟩
    ·rw [if_neg c3] at H
     exact absurd H (by simp)
   ·rw [if_neg c2] at H
    have c2b0:decide (x4_1<(l0.length:Int))=false:=decide_eq_false c2
    clear c2
    obtain rfl:=Option.some.inj H
    go_wp2
    go_ret
    exact ⟨by first | rfl | (simp;done) | (simp [*];done),by repeat (first | exact jD.refl _ | apply jD.step)⟩
end
end Go.Proofs.YtgfkgppomaapiaaGreatDoor.K
