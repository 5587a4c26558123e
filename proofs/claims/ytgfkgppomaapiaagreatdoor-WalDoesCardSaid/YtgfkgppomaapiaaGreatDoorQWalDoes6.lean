/- Parts of the proof, one behind the other: K88, LawE, LawF, MakeP, K80, K81, K1, K82, K83, SameP, SoundL, Apart, Owns, WalK, Adler, SumW, FrameP, FrameW, FrameB, Range. -/
import Derived.Test.YtgfkgppomaapiaaGreatDoorQWalDoes5
import Derived.RangeFuncNested
import Derived.RangeFuncBound
import Derived.RangeFuncCalls
import Derived.RangeFuncLeaves
import Derived.RangeFuncBox
import Derived.Shelf.RegionOpen
import Derived.OwnWalkIn
import Derived.TacticsInMore
import Derived.LoopNIn
import Derived.LoopIn
set_option linter.unusedVariables false
set_option linter.unusedSimpArgs false
namespace Go.Proofs.YtgfkgppomaapiaaGreatDoor.K
open Go.RowKit Go.Proofs.YtgfkgppomaapiaaGreatDoorW.PrintWords Go.Proofs.YtgfkgppomaapiaaGreatDoorW.PrintLast Go.Proofs.YtgfkgppomaapiaaGreatDoorW.PrintMore
section
attribute [local go_sem] kL kH kZ lC
def stratumlaw07_Heavy.l0:Nat→Int→Int→Int→Int→Int→List Int→List (S149)→Int→List (S122)→Int→Int→List (S114)→Option (Int)
 | 0,_,_,_,_,_,_,_,_,_,_,_,_=>none
 | k+1,x3,x4,x241000,x241001,x241002,x241003,x241004,x241005,x241006,x241007,x241008,x241009=>if x4<(x241009.length:Int) then (if 0≤x4 then ((stratumlaw07_heavy.f k ((iK x241009 x4).f1)).bind fun t243=>(stratumlaw07_Heavy.l0 k (wrap64 (x3+(wrap64 (1+t243)))) (wrap64 (x4+1)) x241000 x241001 x241002 x241003 x241004 x241005 x241006 x241007 x241008 x241009)) else (none)) else (some x3)
def stratumlaw07_Heavy.f (k:Nat) (a0_0:Int) (a0_1:Int) (a0_2:Int) (l0_3:List Int) (l0_4:List (S149)) (a0_5:Int) (l0_6:List (S122)) (a0_7:Int) (a0_8:Int) (l0_9:List (S114)):Option (Int):=(stratumlaw07_heavy.f k l0_4).bind fun t241=>(stratumlaw07_Heavy.l0 k (wrap64 ((wrap64 ((l0_3.length:Int)+(l0_6.length:Int)))+t241)) 0 a0_0 a0_1 a0_2 l0_3 l0_4 a0_5 l0_6 a0_7 a0_8 l0_9)
set_option maxHeartbeats 8000000 in
set_option maxRecDepth 100000 in
theorem stratumlaw07_Heavy.calls (k:Nat) (a0_0:Int) (a0_1:Int) (a0_2:Int) (A0_3:Option Addr) (c0_3:Nat) (l0_3:List Int) (A0_4:Option Addr) (c0_4:Nat) (l0_4:List (S149)) (a0_5:Int) (A0_6:Option Addr) (c0_6:Nat) (l0_6:List (S122)) (a0_7:Int) (a0_8:Int) (A0_9:Option Addr) (c0_9:Nat) (l0_9:List (S114)) (r:Int) (w:World) (hr0_3:Kd.C (Kd.int .i64) w A0_3 l0_3.length l0_3) (hc0_3:l0_3.length≤c0_3) (hr0_4:Kd.C k149 w A0_4 l0_4.length l0_4) (hc0_4:l0_4.length≤c0_4) (hr0_6:Kd.C k122 w A0_6 l0_6.length l0_6) (hc0_6:l0_6.length≤c0_6) (hr0_9:Kd.C k114 w A0_9 l0_9.length l0_9) (hc0_9:l0_9.length≤c0_9) (h:stratumlaw07_Heavy.f k a0_0 a0_1 a0_2 l0_3 l0_4 a0_5 l0_6 a0_7 a0_8 l0_9=some r) :
  Calls Tryz.prog 40 #[.agg #[.int .u8 a0_0,.int .u32 a0_1,.int .u32 a0_2,.slice A0_3 l0_3.length c0_3,.slice A0_4 l0_4.length c0_4,.int .u32 a0_5,.slice A0_6 l0_6.length c0_6,.int .i64 a0_7,.int .i64 a0_8,.slice A0_9 l0_9.length c0_9]] w fun e w'=>e=.returned (.int .i64 r)∧Below w.heap.size w w':=by
 have hu54:=Tryz.underlying54
 have HR0_3:=iC.mk hr0_3
 have HC0_3:=iC.mk hc0_3
 clear hr0_3 hc0_3
 have HR0_4:=iC.mk hr0_4
 have HC0_4:=iC.mk hc0_4
 clear hr0_4 hc0_4
 have HR0_6:=iC.mk hr0_6
 have HC0_6:=iC.mk hc0_6
 clear hr0_6 hc0_6
 have HR0_9:=iC.mk hr0_9
 have HC0_9:=iC.mk hc0_9
 clear hr0_9 hc0_9
 have HB:=iC.mk (Below.refl w.heap.size w)
 have H:((stratumlaw07_heavy.f k l0_4).bind fun t241=>(stratumlaw07_Heavy.l0 k (wrap64 ((wrap64 ((l0_3.length:Int)+(l0_6.length:Int)))+t241)) 0 a0_0 a0_1 a0_2 l0_3 l0_4 a0_5 l0_6 a0_7 a0_8 l0_9))=some r:=h
 clear h
 replace H:=Option.bind_eq_some_iff.mp H
 obtain ⟨t241,A20,H⟩:=H
 replace H:(stratumlaw07_Heavy.l0 k (wrap64 ((wrap64 ((l0_3.length:Int)+(l0_6.length:Int)))+t241)) 0 a0_0 a0_1 a0_2 l0_3 l0_4 a0_5 l0_6 a0_7 a0_8 l0_9)=some r:=H
 have A2:=iC.mk A20
 clear A20
 have H':=iC.mk H
 clear H
 go_enter Tryz.func40,Tryz.ntmps40
 go_wp2_with (first | ((with_reducible refine kJ (N:=1) rfl ?_);refine jW ?hg (N:=1) ?hd (cs:=#[.int .u8 a0_0,.int .u32 a0_1,.int .u32 a0_2,.slice A0_3 l0_3.length c0_3,.slice A0_4 l0_4.length c0_4,.int .u32 a0_5,.slice A0_6 l0_6.length c0_6,.int .i64 a0_7,.int .i64 a0_8,.slice A0_9 l0_9.length c0_9]) (t:=54) ?hr ?_;(case hd=>rfl);(case hg=>rfl);(case hr=>first | (go_simp;done) | (go_simp;rfl));intro gb240 hg w3 hbox hb;have n0_:=iC.mk (iH hb_ hb);have n1_:=iC.mk (hbox);have n2_:=iC.mk ((by rw [hg];exact (iT hb_):w.heap.size≤gb240));have n3_:=iC.mk ((by rw [hg];exact (iT hb_):w.heap.size≤gb240));clear HB;have HB:=n0_;have BK240:=n1_;have GW240:=n2_;have GE240:=n3_;clear n0_ n1_ n2_ n3_;clear hb hbox hg;have hcz4_0:w3.cell? ⟨gb240,0,none⟩=some (.int .u8 a0_0):=(iG BK240.out 0).trans rfl;have hcz4_1:w3.cell? ⟨gb240,1,none⟩=some (.int .u32 a0_1):=(iG BK240.out 1).trans rfl;have hcz4_2:w3.cell? ⟨gb240,2,none⟩=some (.int .u32 a0_2):=(iG BK240.out 2).trans rfl;have hcz4_3:w3.cell? ⟨gb240,3,none⟩=some (.slice A0_3 l0_3.length c0_3):=(iG BK240.out 3).trans rfl;have hcz4_4:w3.cell? ⟨gb240,4,none⟩=some (.slice A0_4 l0_4.length c0_4):=(iG BK240.out 4).trans rfl;have hcz4_5:w3.cell? ⟨gb240,5,none⟩=some (.int .u32 a0_5):=(iG BK240.out 5).trans rfl;have hcz4_6:w3.cell? ⟨gb240,6,none⟩=some (.slice A0_6 l0_6.length c0_6):=(iG BK240.out 6).trans rfl;have hcz4_7:w3.cell? ⟨gb240,7,none⟩=some (.int .i64 a0_7):=(iG BK240.out 7).trans rfl;have hcz4_8:w3.cell? ⟨gb240,8,none⟩=some (.int .i64 a0_8):=(iG BK240.out 8).trans rfl;have hcz4_9:w3.cell? ⟨gb240,9,none⟩=some (.slice A0_9 l0_9.length c0_9):=(iG BK240.out 9).trans rfl;have hfz4_0:=iE BK240.out 0;have hfz4_1:=iE BK240.out 1;have hfz4_2:=iE BK240.out 2;have hfz4_3:=iE BK240.out 3;have hfz4_4:=iE BK240.out 4;have hfz4_5:=iE BK240.out 5;have hfz4_6:=iE BK240.out 6;have hfz4_7:=iE BK240.out 7;have hfz4_8:=iE BK240.out 8;have hfz4_9:=iE BK240.out 9) | (go_at_call 59;(with_reducible refine (stratumlaw07_heavy.calls k _ _ l0_4 t241 _ ?side1 ?side2 A2.out).mono ?_);(case side1=>repeat (first | exact (Kd.C_below HR0_4.out HB.out) | (with_reducible refine Kd.C_alloc ?_ _) | (with_reducible refine Kd.C_drewN ?_ _) | (with_reducible refine Kd.C_drew ?_)));(case side2=>exact HC0_4.out);rintro e w' ⟨rfl,⟨nd,rfl⟩⟩;(try first | exact ⟨rfl,_,World.drewN_drewN _ _ _⟩ | exact ⟨rfl,_,Eq.trans (World.drewN_drewN _ _ _) (congrArg (World.drewN _) (Nat.add_assoc _ _ _))⟩)))
 repeat (go_quiet (first | ((with_reducible refine kJ (N:=1) rfl ?_);refine jW ?hg (N:=1) ?hd (cs:=#[.int .u8 a0_0,.int .u32 a0_1,.int .u32 a0_2,.slice A0_3 l0_3.length c0_3,.slice A0_4 l0_4.length c0_4,.int .u32 a0_5,.slice A0_6 l0_6.length c0_6,.int .i64 a0_7,.int .i64 a0_8,.slice A0_9 l0_9.length c0_9]) (t:=54) ?hr ?_;(case hd=>rfl);(case hg=>rfl);(case hr=>first | (go_simp;done) | (go_simp;rfl));intro gb240 hg w3 hbox hb;have n0_:=iC.mk (iH hb_ hb);have n1_:=iC.mk (hbox);have n2_:=iC.mk ((by rw [hg];exact (iT hb_):w.heap.size≤gb240));have n3_:=iC.mk ((by rw [hg];exact (iT hb_):w.heap.size≤gb240));clear HB;have HB:=n0_;have BK240:=n1_;have GW240:=n2_;have GE240:=n3_;clear n0_ n1_ n2_ n3_;clear hb hbox hg;have hcz4_0:w3.cell? ⟨gb240,0,none⟩=some (.int .u8 a0_0):=(iG BK240.out 0).trans rfl;have hcz4_1:w3.cell? ⟨gb240,1,none⟩=some (.int .u32 a0_1):=(iG BK240.out 1).trans rfl;have hcz4_2:w3.cell? ⟨gb240,2,none⟩=some (.int .u32 a0_2):=(iG BK240.out 2).trans rfl;have hcz4_3:w3.cell? ⟨gb240,3,none⟩=some (.slice A0_3 l0_3.length c0_3):=(iG BK240.out 3).trans rfl;have hcz4_4:w3.cell? ⟨gb240,4,none⟩=some (.slice A0_4 l0_4.length c0_4):=(iG BK240.out 4).trans rfl;have hcz4_5:w3.cell? ⟨gb240,5,none⟩=some (.int .u32 a0_5):=(iG BK240.out 5).trans rfl;have hcz4_6:w3.cell? ⟨gb240,6,none⟩=some (.slice A0_6 l0_6.length c0_6):=(iG BK240.out 6).trans rfl;have hcz4_7:w3.cell? ⟨gb240,7,none⟩=some (.int .i64 a0_7):=(iG BK240.out 7).trans rfl;have hcz4_8:w3.cell? ⟨gb240,8,none⟩=some (.int .i64 a0_8):=(iG BK240.out 8).trans rfl;have hcz4_9:w3.cell? ⟨gb240,9,none⟩=some (.slice A0_9 l0_9.length c0_9):=(iG BK240.out 9).trans rfl;have hfz4_0:=iE BK240.out 0;have hfz4_1:=iE BK240.out 1;have hfz4_2:=iE BK240.out 2;have hfz4_3:=iE BK240.out 3;have hfz4_4:=iE BK240.out 4;have hfz4_5:=iE BK240.out 5;have hfz4_6:=iE BK240.out 6;have hfz4_7:=iE BK240.out 7;have hfz4_8:=iE BK240.out 8;have hfz4_9:=iE BK240.out 9) | (go_at_call 59;(with_reducible refine (stratumlaw07_heavy.calls k _ _ l0_4 t241 _ ?side1 ?side2 A2.out).mono ?_);(case side1=>repeat (first | exact (Kd.C_below HR0_4.out HB.out) | (with_reducible refine Kd.C_alloc ?_ _) | (with_reducible refine Kd.C_drewN ?_ _) | (with_reducible refine Kd.C_drew ?_)));(case side2=>exact HC0_4.out);rintro e w' ⟨rfl,⟨nd,rfl⟩⟩;(try first | exact ⟨rfl,_,World.drewN_drewN _ _ _⟩ | exact ⟨rfl,_,Eq.trans (World.drewN_drewN _ _ _) (congrArg (World.drewN _) (Nat.add_assoc _ _ _))⟩)));try go_wp2_with (first | ((with_reducible refine kJ (N:=1) rfl ?_);refine jW ?hg (N:=1) ?hd (cs:=#[.int .u8 a0_0,.int .u32 a0_1,.int .u32 a0_2,.slice A0_3 l0_3.length c0_3,.slice A0_4 l0_4.length c0_4,.int .u32 a0_5,.slice A0_6 l0_6.length c0_6,.int .i64 a0_7,.int .i64 a0_8,.slice A0_9 l0_9.length c0_9]) (t:=54) ?hr ?_;(case hd=>rfl);(case hg=>rfl);(case hr=>first | (go_simp;done) | (go_simp;rfl));intro gb240 hg w3 hbox hb;have n0_:=iC.mk (iH hb_ hb);have n1_:=iC.mk (hbox);have n2_:=iC.mk ((by rw [hg];exact (iT hb_):w.heap.size≤gb240));have n3_:=iC.mk ((by rw [hg];exact (iT hb_):w.heap.size≤gb240));clear HB;have HB:=n0_;have BK240:=n1_;have GW240:=n2_;have GE240:=n3_;clear n0_ n1_ n2_ n3_;clear hb hbox hg;have hcz4_0:w3.cell? ⟨gb240,0,none⟩=some (.int .u8 a0_0):=(iG BK240.out 0).trans rfl;have hcz4_1:w3.cell? ⟨gb240,1,none⟩=some (.int .u32 a0_1):=(iG BK240.out 1).trans rfl;have hcz4_2:w3.cell? ⟨gb240,2,none⟩=some (.int .u32 a0_2):=(iG BK240.out 2).trans rfl;have hcz4_3:w3.cell? ⟨gb240,3,none⟩=some (.slice A0_3 l0_3.length c0_3):=(iG BK240.out 3).trans rfl;have hcz4_4:w3.cell? ⟨gb240,4,none⟩=some (.slice A0_4 l0_4.length c0_4):=(iG BK240.out 4).trans rfl;have hcz4_5:w3.cell? ⟨gb240,5,none⟩=some (.int .u32 a0_5):=(iG BK240.out 5).trans rfl;have hcz4_6:w3.cell? ⟨gb240,6,none⟩=some (.slice A0_6 l0_6.length c0_6):=(iG BK240.out 6).trans rfl;have hcz4_7:w3.cell? ⟨gb240,7,none⟩=some (.int .i64 a0_7):=(iG BK240.out 7).trans rfl;have hcz4_8:w3.cell? ⟨gb240,8,none⟩=some (.int .i64 a0_8):=(iG BK240.out 8).trans rfl;have hcz4_9:w3.cell? ⟨gb240,9,none⟩=some (.slice A0_9 l0_9.length c0_9):=(iG BK240.out 9).trans rfl;have hfz4_0:=iE BK240.out 0;have hfz4_1:=iE BK240.out 1;have hfz4_2:=iE BK240.out 2;have hfz4_3:=iE BK240.out 3;have hfz4_4:=iE BK240.out 4;have hfz4_5:=iE BK240.out 5;have hfz4_6:=iE BK240.out 6;have hfz4_7:=iE BK240.out 7;have hfz4_8:=iE BK240.out 8;have hfz4_9:=iE BK240.out 9) | (go_at_call 59;(with_reducible refine (stratumlaw07_heavy.calls k _ _ l0_4 t241 _ ?side1 ?side2 A2.out).mono ?_);(case side1=>repeat (first | exact (Kd.C_below HR0_4.out HB.out) | (with_reducible refine Kd.C_alloc ?_ _) | (with_reducible refine Kd.C_drewN ?_ _) | (with_reducible refine Kd.C_drew ?_)));(case side2=>exact HC0_4.out);rintro e w' ⟨rfl,⟨nd,rfl⟩⟩;(try first | exact ⟨rfl,_,World.drewN_drewN _ _ _⟩ | exact ⟨rfl,_,Eq.trans (World.drewN_drewN _ _ _) (congrArg (World.drewN _) (Nat.add_assoc _ _ _))⟩))))
 go_loopg [3,4] k (fun kq v3 v4 w'=>∃ (x3_1:Int) (x4_1:Int),v3=.int .i64 x3_1∧v4=.int .i64 x4_1∧iC (stratumlaw07_Heavy.l0 kq x3_1 x4_1 a0_0 a0_1 a0_2 l0_3 l0_4 a0_5 l0_6 a0_7 a0_8 l0_9=some r)∧iC (kq≤k)∧iC (w'.heap[gb240]? = some (.cells #[.int .u8 a0_0,.int .u32 a0_1,.int .u32 a0_2,(.slice A0_3 l0_3.length c0_3),(.slice A0_4 l0_4.length c0_4),.int .u32 a0_5,(.slice A0_6 l0_6.length c0_6),.int .i64 a0_7,.int .i64 a0_8,(.slice A0_9 l0_9.length c0_9)] 54 (0,0)))∧iC (Below w.heap.size w w'))
 case atStart=>exact ⟨(wrap64 ((wrap64 ((l0_3.length:Int)+(l0_6.length:Int)))+t241)),(0),(by first | rfl | (simp;done) | (simp [*];done)),(by first | rfl | (simp;done) | (simp [*];done)),H',⟨Nat.le_refl _⟩,⟨bk_ BK240.out⟩,⟨by repeat (first | (with_reducible first | exact HB.out | apply iD | apply iF | apply iQ | refine iL ?_ GE240.out) | exact HB.out)⟩⟩
 case round =>
  clear H'
  try clear p2
  try clear c4
  try clear hcz4_0
  try clear hcz4_1
  try clear hcz4_2
  try clear hcz4_3
  try clear hcz4_4
  try clear hcz4_5
  try clear hcz4_6
  try clear hcz4_7
  try clear hcz4_8
  try clear hcz4_9
  try clear hfz4_0
  try clear hfz4_1
  try clear hfz4_2
  try clear hfz4_3
  try clear hfz4_4
  try clear hfz4_5
  try clear hfz4_6
  try clear hfz4_7
  try clear hfz4_8
  try clear hfz4_9
  obtain ⟨x3_1,x4_1,rfl,rfl,HA,HK1,BK240,HB⟩:=hrel
  cases gk with
  | zero=>exact absurd HA.out (by simp [stratumlaw07_Heavy.l0])
  | succ k1 =>
   have H:=HA.out
   clear HA
   simp only [stratumlaw07_Heavy.l0] at H
   by_cases c5:x4_1<(l0_9.length:Int)
   ·rw [if_pos c5] at H
    have c5b0:decide (x4_1<(l0_9.length:Int))=true:=decide_eq_true c5
    clear c5
    by_cases c6:0≤x4_1
    ·rw [if_pos c6] at H
     have c6b0:decide (0≤x4_1)=true:=decide_eq_true c6
     clear c6
     replace H:=Option.bind_eq_some_iff.mp H
     obtain ⟨t243,A70,H⟩:=H
     replace H:(stratumlaw07_Heavy.l0 k1 (wrap64 (x3_1+(wrap64 (1+t243)))) (wrap64 (x4_1+1)) a0_0 a0_1 a0_2 l0_3 l0_4 a0_5 l0_6 a0_7 a0_8 l0_9)=some r:=H
     have A7:=iC.mk A70
     clear A70
     have H':=iC.mk H
     clear H
     have hcz8_0:wr.cell? ⟨gb240,0,none⟩=some (.int .u8 a0_0):=(iG BK240.out 0).trans rfl
     have hcz8_1:wr.cell? ⟨gb240,1,none⟩=some (.int .u32 a0_1):=(iG BK240.out 1).trans rfl
     have hcz8_2:wr.cell? ⟨gb240,2,none⟩=some (.int .u32 a0_2):=(iG BK240.out 2).trans rfl
     have hcz8_3:wr.cell? ⟨gb240,3,none⟩=some (.slice A0_3 l0_3.length c0_3):=(iG BK240.out 3).trans rfl
     have hcz8_4:wr.cell? ⟨gb240,4,none⟩=some (.slice A0_4 l0_4.length c0_4):=(iG BK240.out 4).trans rfl
     have hcz8_5:wr.cell? ⟨gb240,5,none⟩=some (.int .u32 a0_5):=(iG BK240.out 5).trans rfl
     have hcz8_6:wr.cell? ⟨gb240,6,none⟩=some (.slice A0_6 l0_6.length c0_6):=(iG BK240.out 6).trans rfl
     have hcz8_7:wr.cell? ⟨gb240,7,none⟩=some (.int .i64 a0_7):=(iG BK240.out 7).trans rfl
     have hcz8_8:wr.cell? ⟨gb240,8,none⟩=some (.int .i64 a0_8):=(iG BK240.out 8).trans rfl
     have hcz8_9:wr.cell? ⟨gb240,9,none⟩=some (.slice A0_9 l0_9.length c0_9):=(iG BK240.out 9).trans rfl
     have hfz8_0:=iE BK240.out 0
     have hfz8_1:=iE BK240.out 1
     have hfz8_2:=iE BK240.out 2
     have hfz8_3:=iE BK240.out 3
     have hfz8_4:=iE BK240.out 4
     have hfz8_5:=iE BK240.out 5
     have hfz8_6:=iE BK240.out 6
     have hfz8_7:=iE BK240.out 7
     have hfz8_8:=iE BK240.out 8
     have hfz8_9:=iE BK240.out 9
     have p242:0≤(x4_1:Int):=of_decide_eq_true asm_
     have q242:x4_1<(l0_9.length:Int):=of_decide_eq_true asm_
     obtain ⟨ad242,A242_1,c242_1,e242,hx242_0,hx242_1,hl242_1,hi242_1⟩:=kN HR0_9.out x4_1 p242 q242
     cases e242
     replace hx242_0:=(HB.out.cell (World.block_lt_of_cell? w _ hx242_0)).trans hx242_0
     replace hx242_1:=(HB.out.cell (World.block_lt_of_cell? w _ hx242_1)).trans hx242_1
     have HR242_1:=iC.mk hi242_1
     have HC242_1:=iC.mk hl242_1
     clear hi242_1 hl242_1
     replace p242:=eq_true p242
     replace q242:=eq_true q242
     go_wp2_with (first | (go_at_call 59;(with_reducible refine (stratumlaw07_heavy.calls k1 _ _ ((iK l0_9 x4_1).f1) t243 _ ?side1 ?side2 A7.out).mono ?_);(case side1=>repeat (first | exact (Kd.C_below HR242_1.out HB.out) | (with_reducible refine Kd.C_alloc ?_ _) | (with_reducible refine Kd.C_drewN ?_ _) | (with_reducible refine Kd.C_drew ?_)));(case side2=>exact HC242_1.out);rintro e w' ⟨rfl,⟨nd,rfl⟩⟩;(try first | exact ⟨rfl,_,World.drewN_drewN _ _ _⟩ | exact ⟨rfl,_,Eq.trans (World.drewN_drewN _ _ _) (congrArg (World.drewN _) (Nat.add_assoc _ _ _))⟩)))
     repeat (go_quiet (first | (go_at_call 59;(with_reducible refine (stratumlaw07_heavy.calls k1 _ _ ((iK l0_9 x4_1).f1) t243 _ ?side1 ?side2 A7.out).mono ?_);(case side1=>repeat (first | exact (Kd.C_below HR242_1.out HB.out) | (with_reducible refine Kd.C_alloc ?_ _) | (with_reducible refine Kd.C_drewN ?_ _) | (with_reducible refine Kd.C_drew ?_)));(case side2=>exact HC242_1.out);rintro e w' ⟨rfl,⟨nd,rfl⟩⟩;(try first | exact ⟨rfl,_,World.drewN_drewN _ _ _⟩ | exact ⟨rfl,_,Eq.trans (World.drewN_drewN _ _ _) (congrArg (World.drewN _) (Nat.add_assoc _ _ _))⟩)));try go_wp2_with (first | (go_at_call 59;(with_reducible refine (stratumlaw07_heavy.calls k1 _ _ ((iK l0_9 x4_1).f1) t243 _ ?side1 ?side2 A7.out).mono ?_);(case side1=>repeat (first | exact (Kd.C_below HR242_1.out HB.out) | (with_reducible refine Kd.C_alloc ?_ _) | (with_reducible refine Kd.C_drewN ?_ _) | (with_reducible refine Kd.C_drew ?_)));(case side2=>exact HC242_1.out);rintro e w' ⟨rfl,⟨nd,rfl⟩⟩;(try first | exact ⟨rfl,_,World.drewN_drewN _ _ _⟩ | exact ⟨rfl,_,Eq.trans (World.drewN_drewN _ _ _) (congrArg (World.drewN _) (Nat.add_assoc _ _ _))⟩))))
     go_roundg k1
     case measure=>have:=HK1.out;omega
     case rel=>exact ⟨(wrap64 (x3_1+(wrap64 (1+t243)))),(wrap64 (x4_1+1)),(by first | rfl | (simp;done) | (simp [*];done)),(by first | rfl | (simp;done) | (simp [*];done)),H',⟨by have:=HK1.out;omega⟩,⟨bk_ BK240.out⟩,⟨by repeat (first | (with_reducible first | exact HB.out | apply iD | apply iF | apply iQ | refine iL ?_ GE240.out) | exact HB.out)⟩⟩
    ·rw [if_neg c6] at H
     exact absurd H (by simp)
   ·rw [if_neg c5] at H
    have c5b0:decide (x4_1<(l0_9.length:Int))=false:=decide_eq_false c5
    clear c5
    obtain rfl:=Option.some.inj H
    have hcz9_0:wr.cell? ⟨gb240,0,none⟩=some (.int .u8 a0_0):=(iG BK240.out 0).trans rfl
    have hcz9_1:wr.cell? ⟨gb240,1,none⟩=some (.int .u32 a0_1):=(iG BK240.out 1).trans rfl
    have hcz9_2:wr.cell? ⟨gb240,2,none⟩=some (.int .u32 a0_2):=(iG BK240.out 2).trans rfl
    have hcz9_3:wr.cell? ⟨gb240,3,none⟩=some (.slice A0_3 l0_3.length c0_3):=(iG BK240.out 3).trans rfl
    have hcz9_4:wr.cell? ⟨gb240,4,none⟩=some (.slice A0_4 l0_4.length c0_4):=(iG BK240.out 4).trans rfl
    have hcz9_5:wr.cell? ⟨gb240,5,none⟩=some (.int .u32 a0_5):=(iG BK240.out 5).trans rfl
    have hcz9_6:wr.cell? ⟨gb240,6,none⟩=some (.slice A0_6 l0_6.length c0_6):=(iG BK240.out 6).trans rfl
    have hcz9_7:wr.cell? ⟨gb240,7,none⟩=some (.int .i64 a0_7):=(iG BK240.out 7).trans rfl
    have hcz9_8:wr.cell? ⟨gb240,8,none⟩=some (.int .i64 a0_8):=(iG BK240.out 8).trans rfl
    have hcz9_9:wr.cell? ⟨gb240,9,none⟩=some (.slice A0_9 l0_9.length c0_9):=(iG BK240.out 9).trans rfl
    have hfz9_0:=iE BK240.out 0
    have hfz9_1:=iE BK240.out 1
    have hfz9_2:=iE BK240.out 2
    have hfz9_3:=iE BK240.out 3
    have hfz9_4:=iE BK240.out 4
    have hfz9_5:=iE BK240.out 5
    have hfz9_6:=iE BK240.out 6
    have hfz9_7:=iE BK240.out 7
    have hfz9_8:=iE BK240.out 8
    have hfz9_9:=iE BK240.out 9
    go_wp2
    repeat (go_quiet (fail);try go_wp2)
    go_ret
    exact ⟨by first | rfl | (simp [jF,jG] <;> rfl) | (simp [*,jF,jG] <;> rfl),by repeat (first | (with_reducible first | exact HB.out | apply iD | apply iF | apply iQ | refine iL ?_ GE240.out) | exact HB.out)⟩
end
end Go.Proofs.YtgfkgppomaapiaaGreatDoor.K
section
namespace Go.Proofs.YtgfkgppomaapiaaGreatDoor.K
open RowKit YtgfkgppomaapiaaGreatDoorW.PrintWords YtgfkgppomaapiaaGreatDoorW.PrintLast YtgfkgppomaapiaaGreatDoorW.PrintMore My
theorem YF (l:List jQ) (hn:l.length≤9223372036854775807) (d:Nat):∀ i x:Int,0≤i→i≤l.length→(l.length:Int) - i=d→∃ v,Ev (fun k=>stratumlaw07_heavy.l0 k l x i) v:=by
 induction d with
 | zero =>
  intro i x h0 h1 hd
  exact ⟨x,Ev.step (f:=fun _=>some x) (fun k=>by simp only [stratumlaw07_heavy.l0];rw [if_neg (by omega)]) (Ev.now _)⟩
 | succ d ih =>
  intro i x h0 h1 hd
  have hlt:i<(l.length:Int):=by omega
  obtain ⟨v,hv⟩:=ih (i+1) (wrap64 (x+wrap64 (1+((iR l i).f0.length:Int)))) (by omega) (by omega) (by omega)
  exact ⟨v,Ev.step (fun k=>by simp only [stratumlaw07_heavy.l0];rw [if_pos hlt,if_pos h0,oK h0 hlt hn]) hv⟩
theorem U0 (l:List jQ) (hn:l.length≤9223372036854775807):∃ v,Ev (fun k=>stratumlaw07_heavy.f k l) v:=YF l hn l.length 0 0 (by omega) (by omega) (by omega)
theorem YJ (a0 a1 a2:Int) (l3:List Int) (l4:List jQ) (a5:Int) (l6:List kC) (a7 a8:Int) (l9:List jJ) (hn:l9.length≤9223372036854775807) (hf:∀ e∈l9,e.f1.length≤9223372036854775807) (d:Nat):∀ i x:Int,0≤i→i≤l9.length→(l9.length:Int) - i=d →
  ∃ v,Ev (fun k=>stratumlaw07_Heavy.l0 k x i a0 a1 a2 l3 l4 a5 l6 a7 a8 l9) v:=by
 induction d with
 | zero =>
  intro i x h0 h1 hd
  exact ⟨x,Ev.step (f:=fun _=>some x) (fun k=>by simp only [stratumlaw07_Heavy.l0];rw [if_neg (by omega)]) (Ev.now _)⟩
 | succ d ih =>
  intro i x h0 h1 hd
  have hlt:i<(l9.length:Int):=by omega
  have hm:iK l9 i∈l9:=by
   unfold iK
   rw [List.getD_eq_getElem?_getD,List.getElem?_eq_getElem (show i.toNat<l9.length by omega)]
   exact List.getElem_mem _
  obtain ⟨u,hu⟩:=U0 _ (hf _ hm)
  obtain ⟨v,hv⟩:=ih (i+1) (wrap64 (x+wrap64 (1+u))) (by omega) (by omega) (by omega)
  exact ⟨v,Ev.step (fun k=>by simp only [stratumlaw07_Heavy.l0];rw [if_pos hlt,if_pos h0,oK h0 hlt hn]) (Ev.bind hu hv)⟩
theorem ZV (a0 a1 a2:Int) (l3:List Int) (l4:List jQ) (a5:Int) (l6:List kC) (a7 a8:Int) (l9:List jJ) (h:jd9 l3 l4 l6 l9):∃ v,Ev (fun k=>stratumlaw07_Heavy.f k a0 a1 a2 l3 l4 a5 l6 a7 a8 l9) v:=by
 obtain ⟨u,hu⟩:=U0 l4 h.n4
 obtain ⟨v,hv⟩:=YJ a0 a1 a2 l3 l4 a5 l6 a7 a8 l9 h.n9 (fun e he=>(h.f9 e he).1) l9.length 0 (wrap64 ((wrap64 ((l3.length:Int)+(l6.length:Int)))+u)) (by omega) (by omega) (by omega)
 exact ⟨v,Ev.bind hu hv⟩
section
variable (a0 a1 a2:Int) (A3:Option Addr) (c3:Nat) (l3:List Int) (A4:Option Addr) (c4:Nat) (l4:List jQ) (a5:Int) (A6:Option Addr) (c6:Nat) (l6:List kC) (a7 a8:Int) (A9:Option Addr) (c9:Nat) (l9:List jJ) (w:World)
  (h3:Kd.C (Kd.int .i64) w A3 l3.length l3) (d3:l3.length≤c3) (h4:Kd.C k149 w A4 l4.length l4) (d4:l4.length≤c4) (h6:Kd.C k122 w A6 l6.length l6) (d6:l6.length≤c6) (h9:Kd.C k114 w A9 l9.length l9) (d9:l9.length≤c9)
include h3 d3 h4 d4 h6 d6 h9 d9
theorem YM:∃ v:Int,Calls Tryz.prog 40 #[.agg #[.int .u8 a0,.int .u32 a1,.int .u32 a2,.slice A3 l3.length c3,.slice A4 l4.length c4,.int .u32 a5,.slice A6 l6.length c6,.int .i64 a7,.int .i64 a8,.slice A9 l9.length c9]] w fun e w'=>e=.returned (.int .i64 v)∧Below w.heap.size w w':=by
 obtain ⟨v,hv⟩:=ZV a0 a1 a2 l3 l4 a5 l6 a7 a8 l9 (RD h3 h4 h6 h9)
 obtain ⟨k,hk⟩:=hv.rounds
 exact ⟨v,stratumlaw07_Heavy.calls k a0 a1 a2 A3 c3 l3 A4 c4 l4 a5 A6 c6 l6 a7 a8 A9 c9 l9 v w h3 d3 h4 d4 h6 d6 h9 d9 hk⟩
theorem OW:Calls Tryz.prog 71 #[.agg #[.int .u8 a0,.int .u32 a1,.int .u32 a2,.slice A3 l3.length c3,.slice A4 l4.length c4,.int .u32 a5,.slice A6 l6.length c6,.int .i64 a7,.int .i64 a8,.slice A9 l9.length c9]] w fun e w'=>e=.returned (.bool (jR ⟨a0,a1,a2,l3,l4,⟨a5,l6⟩,a7,a8,l9⟩))∧Below w.heap.size w w':=by
 exact nH a0 a1 a2 A3 c3 l3 A4 c4 l4 a5 A6 c6 l6 a7 a8 A9 c9 l9 w h3 d3 h4 d4 h6 d6 h9 d9
set_option maxHeartbeats 4000000 in
theorem Y8 (hs:jR ⟨a0,a1,a2,l3,l4,⟨a5,l6⟩,a7,a8,l9⟩=false):Calls Tryz.prog 44 #[.agg #[.int .u8 a0,.int .u32 a1,.int .u32 a2,.slice A3 l3.length c3,.slice A4 l4.length c4,.int .u32 a5,.slice A6 l6.length c6,.int .i64 a7,.int .i64 a8,.slice A9 l9.length c9]] w (qK w (encR ⟨a0,a1,a2,l3,l4,⟨a5,l6⟩,a7,a8,l9⟩)):=by
 have hbw:Below w.heap.size w (w.alloc (.cells #[.int .u8 a0,.int .u32 a1,.int .u32 a2,.slice A3 l3.length c3,.slice A4 l4.length c4,.int .u32 a5,.slice A6 l6.length c6,.int .i64 a7,.int .i64 a8,.slice A9 l9.length c9] 54)):=iD (Below.refl _ _) _
 have hsnd:=OW a0 a1 a2 A3 c3 l3 A4 c4 l4 a5 A6 c6 l6 a7 a8 A9 c9 l9 _ (Kd.C_below h3 hbw) d3 (Kd.C_below h4 hbw) d4 (Kd.C_below h6 hbw) d6 (Kd.C_below h9 hbw) d9
 rw [hs] at hsnd
 have hr:encR ⟨a0,a1,a2,l3,l4,⟨a5,l6⟩,a7,a8,l9⟩=([],1):=by unfold encR;rw [if_neg (by rw [hs];decide)]
 rw [hr]
 clear hs hr hbw h3 h4 h6 h9
 go_enter Tryz.func44,Tryz.ntmps44
 go_wp2_with fail
 go_at_call 71
 (with_reducible refine hsnd.mono ?_)
 clear hsnd
 rintro e w0 ⟨rfl,hb1⟩
 go_wp2_with fail
 go_ret2
 exact ⟨_,rfl,Kd.R_nil _ _ _ _ _,iH (iD (Below.refl _ _) _) hb1⟩
theorem MK:Calls Tryz.prog 44 #[.agg #[.int .u8 a0,.int .u32 a1,.int .u32 a2,.slice A3 l3.length c3,.slice A4 l4.length c4,.int .u32 a5,.slice A6 l6.length c6,.int .i64 a7,.int .i64 a8,.slice A9 l9.length c9]] w (qK w (encR ⟨a0,a1,a2,l3,l4,⟨a5,l6⟩,a7,a8,l9⟩)):=by
 cases hs:jR ⟨a0,a1,a2,l3,l4,⟨a5,l6⟩,a7,a8,l9⟩ with
 | false=>exact Y8 a0 a1 a2 A3 c3 l3 A4 c4 l4 a5 A6 c6 l6 a7 a8 A9 c9 l9 w h3 d3 h4 d4 h6 d6 h9 d9 hs
 | true =>
  have h7:¬ (a0<1∨7<a0):=by
   intro h
   rw [Z9 _ _ _ _ _ _ _ _ _ _ h] at hs
   cases hs
  have h7:a0=1∨a0=2∨a0=3∨a0=4∨a0=5∨a0=6∨a0=7:=by omega
  rcases h7 with rfl | rfl | rfl | rfl | rfl | rfl | rfl
  ·exact WV a1 a2 A3 c3 l3 A4 c4 l4 a5 A6 c6 l6 a7 a8 A9 c9 l9 w h3 d3 h4 d4 h6 d6 h9 d9 hs
  ·exact Y7 a1 a2 A3 c3 l3 A4 c4 l4 a5 A6 c6 l6 a7 a8 A9 c9 l9 w h3 d3 h4 d4 h6 d6 h9 d9 hs
  ·exact VZ a1 a2 A3 c3 l3 A4 c4 l4 a5 A6 c6 l6 a7 a8 A9 c9 l9 w h3 d3 h4 d4 h6 d6 h9 d9 hs
  ·exact ZH a1 a2 A3 c3 l3 A4 c4 l4 a5 A6 c6 l6 a7 a8 A9 c9 l9 w h3 d3 h4 d4 h6 d6 h9 d9 hs
  ·exact Z7 a1 a2 A3 c3 l3 A4 c4 l4 a5 A6 c6 l6 a7 a8 A9 c9 l9 w h3 d3 h4 d4 h6 d6 h9 d9 hs
  ·exact YL a1 a2 A3 c3 l3 A4 c4 l4 a5 A6 c6 l6 a7 a8 A9 c9 l9 w h3 d3 h4 d4 h6 d6 h9 d9 hs
  ·exact YX a1 a2 A3 c3 l3 A4 c4 l4 a5 A6 c6 l6 a7 a8 A9 c9 l9 w h3 d3 h4 d4 h6 d6 h9 d9 hs
end
end Go.Proofs.YtgfkgppomaapiaaGreatDoor.K
end
section
namespace Go.Proofs.YtgfkgppomaapiaaGreatDoor.K
open Go.RowKit Go.Proofs.YtgfkgppomaapiaaGreatDoorW.PrintWords Go.Proofs.YtgfkgppomaapiaaGreatDoorW.PrintLast Go.Proofs.YtgfkgppomaapiaaGreatDoorW.PrintMore
attribute [local go_sem] kL kH kZ lC
theorem XG:(Tryz.prog.info? 149).map (fun i=>(i.zero,i.size,i.bytes))=some (some (.agg #[(.slice none 0 0),(.int .i64 0)]),2,32):=by kernel_rfl
mutual
def stratumlaw07_Facts.l0:Nat→List (S149)→List (S149)→Int→Option ((List (S149)))
 | 0,_,_,_=>none
 | k+1,x0,x3,x4=>if x4<(x0.length:Int) then (stratumlaw07_Facts.j1 k x0 x3 x4 (decide (x4<60))) else (stratumlaw07_Facts.j1 k x0 x3 x4 false)
def stratumlaw07_Facts.j1:Nat→List (S149)→List (S149)→Int→Bool→Option ((List (S149)))
 | 0,_,_,_,_=>none
 | k+1,x0,x3,x4,x14=>if x14=true then (if 0≤x4 then (if x4<(x0.length:Int) then (stratumlaw07_Facts.l1 k x0 x3 x4 0 ([]:List Int) ((iR x0 x4).f1)) else (none)) else (none)) else (some x3)
def stratumlaw07_Facts.l1:Nat→List (S149)→List (S149)→Int→Int→List Int→Int→Option ((List (S149)))
 | 0,_,_,_,_,_,_=>none
 | k+1,x0,x3,x4,x6,x241000,x241001=>if 0≤x4 then (if x4<(x0.length:Int) then (if x6<(((iR x0 x4).f0).length:Int) then (if x6<4 then (if 0≤x6 then (if x241000.length<17592186044416 then (stratumlaw07_Facts.l1 k x0 x3 x4 (wrap64 (x6+1)) (x241000 ++ [(mx (rd ((iR x0 x4).f0) x6) 0) % 10000]) x241001) else (none)) else (none)) else (if x3.length<4398046511104 then (stratumlaw07_Facts.l0 k x0 (x3 ++ [(⟨x241000,x241001⟩:S149)]) (wrap64 (x4+1))) else (none))) else (if x3.length<4398046511104 then (stratumlaw07_Facts.l0 k x0 (x3 ++ [(⟨x241000,x241001⟩:S149)]) (wrap64 (x4+1))) else (none))) else (none)) else (none)
end
def stratumlaw07_Facts.f (k:Nat) (l0:List (S149)):Option ((List (S149))):=stratumlaw07_Facts.l0 k l0 ([]:List (S149)) 0
def stratumlaw07_Facts.T9:Bool × List (List Nat × List Nat):=(true,[([],[]),([0],[0]),([],[]),([],[]),([2,3],[2,3]),([4],[4]),([5],[5]),([],[]),([6,7],[6,7]),([8],[8]),([9],[9]),([10],[10]),([11],[11]),([1,12],[1,12]),([0,1,2,3,4,5,6,7,8,9,10,11,12,13],[]),([14,13,13,0,1,2,3,4,5,6,7,8,9,10,11,12,13],[13,14])])
def stratumlaw07_Facts.B9:List Nat:=[0,1,0,0,12,28,60,0,252,508,1020,2044,4092,8191,16383,32767]
theorem stratumlaw07_Facts.tab9:rtab .any (opsOf Tryz.f70 9)=stratumlaw07_Facts.T9:=by kernel_rfl
theorem stratumlaw07_Facts.bits9:nT stratumlaw07_Facts.T9.2 stratumlaw07_Facts.B9=true:=by kernel_rfl
set_option maxHeartbeats 8000000 in
set_option maxRecDepth 100000 in
theorem stratumlaw07_Facts.callsS (k:Nat) (A0:Option Addr) (c0:Nat) (l0:List (S149)) (r:List (S149)) (w:World) (hr0:Kd.C k149 w A0 l0.length l0) (hc0:l0.length≤c0) (h:stratumlaw07_Facts.f k l0=some r) :
  Calls Tryz.prog 70 #[.slice A0 l0.length c0] w fun e w'=>∃ v0_:Value,e=.returned (v0_)∧Kd.S k149 149 w' w.heap.size (fun _=>True) v0_ r∧Below w.heap.size w w':=by
 have hu149:=Tryz.underlying149
 have HR0:=iC.mk hr0
 have HC0:=iC.mk hc0
 clear hr0 hc0
 have HB:=iC.mk (Below.refl w.heap.size w)
 have H:(stratumlaw07_Facts.l0 k l0 ([]:List (S149)) 0)=some r:=h
 clear h
 have H':=iC.mk H
 clear H
 go_enter Tryz.func70,Tryz.ntmps70
 go_wp2
 go_loopg [3,4] k (fun kq v3 v4 w'=>∃ (x3_1:List (S149)) (x4_1:Int),v4=.int .i64 x4_1∧iC (stratumlaw07_Facts.l0 kq l0 x3_1 x4_1=some r)∧iC (kq≤k)∧iC (Kd.S k149 149 w' w.heap.size (fun _=>True) v3 x3_1)∧iC (Below w.heap.size w w'))
 case atStart=>exact ⟨(([]:List (S149))),(0),(by first | rfl | (simp;done) | (simp [*];done)),H',⟨Nat.le_refl _⟩,⟨by first | exact Kd.S_nil _ _ _ _ _ | exact Kd.N_nil _ _ _ _ _ | exact Kd.V_nil _ _ _ _ _ | exact Kd.Q_nil _ _ _ _ _ | exact Kd.R_nil _ _ _ _ _⟩,⟨hb_⟩⟩
 case round =>
  clear H'
  obtain ⟨x3_1,x4_1,rfl,HA,HK1,HO_3,HB⟩:=hrel
  cases gk with
  | zero=>exact absurd HA.out (by simp [stratumlaw07_Facts.l0])
  | succ k1 =>
   have H:=HA.out
   clear HA
   simp only [stratumlaw07_Facts.l0] at H
   have HC2:=iC.mk H
   clear H
   go_upto_region 3 with (fail)
   go_cut [14] (fun v14 wc=>∃ (kq:Nat) (x14_1:Bool),v14=.bool x14_1∧iC (stratumlaw07_Facts.j1 kq l0 x3_1 x4_1 x14_1=some r)∧iC (kq≤k1)∧iC (Kd.S k149 149 wc w.heap.size (fun _=>True) u3 x3_1)∧iC (Below w.heap.size w wc))
   case first =>
    have H:=HC2.out
    clear HC2
    by_cases c3:x4_1<(l0.length:Int)
    ·rw [if_pos c3] at H
     have c3b0:decide (x4_1<(l0.length:Int))=true:=decide_eq_true c3
     clear c3
     (first | rw [c3b0] | (simp only [iO,jA];rw [c3b0]) | skip)
     have H':=iC.mk H
     clear H
     go_wp2
     go_meet
     case rel=>exact ⟨_,(decide (x4_1<60)),(by first | rfl | (simp;done) | (simp [*];done)),H',⟨by have:=HK1.out;first | omega | exact Nat.le_refl _⟩,⟨by (with_reducible repeat (first | apply Kd.S_alloc | apply Kd.S_drewN | apply Kd.S_drew));exact HO_3.out⟩,⟨hb_⟩⟩
    ·rw [if_neg c3] at H
     have c3b0:decide (x4_1<(l0.length:Int))=false:=decide_eq_false c3
     clear c3
     (first | rw [c3b0] | (simp only [iO,jA];rw [c3b0]) | skip)
     have H':=iC.mk H
     clear H
     go_wp2
     go_meet
     case rel=>exact ⟨_,(false),(by first | rfl | (simp;done) | (simp [*];done)),H',⟨by have:=HK1.out;first | omega | exact Nat.le_refl _⟩,⟨by (with_reducible repeat (first | apply Kd.S_alloc | apply Kd.S_drewN | apply Kd.S_drew));exact HO_3.out⟩,⟨hb_⟩⟩
   case rest =>
    clear HC2
    try clear p2
    try clear c3
    try clear c3b0
    obtain ⟨kq,x14_1,rfl,HA,HJ1,HO_3,HB⟩:=hcut
    cases kq with
    | zero=>exact absurd HA.out (by simp [stratumlaw07_Facts.j1])
    | succ kj1 =>
     have H:=HA.out
     clear HA
     simp only [stratumlaw07_Facts.j1] at H
     by_cases c4:x14_1=true
     ·subst c4
      have H1:(if 0≤x4_1 then (if x4_1<(l0.length:Int) then (stratumlaw07_Facts.l1 kj1 l0 x3_1 x4_1 0 ([]:List Int) ((iR l0 x4_1).f1)) else (none)) else (none))=some r:=by rw [if_pos rfl] at H;exact H
      clear H
      have H:=H1
      clear H1
      by_cases c5:0≤x4_1
      ·rw [if_pos c5] at H
       have c5b0:decide (0≤x4_1)=true:=decide_eq_true c5
       clear c5
       by_cases c6:x4_1<(l0.length:Int)
       ·rw [if_pos c6] at H
        have c6b0:decide (x4_1<(l0.length:Int))=true:=decide_eq_true c6
        clear c6
        have H':=iC.mk H
        clear H
        have p239:0≤(x4_1:Int):=of_decide_eq_true asm_
        have q239:x4_1<(l0.length:Int):=of_decide_eq_true asm_
        obtain ⟨ad239,A239_0,c239_0,e239,hx239_0,hx239_1,hl239_0,hi239_0⟩:=kU HR0.out x4_1 p239 q239
        cases e239
        replace hx239_0:=(HB.out.cell (World.block_lt_of_cell? w _ hx239_0)).trans hx239_0
        replace hx239_1:=(HB.out.cell (World.block_lt_of_cell? w _ hx239_1)).trans hx239_1
        have HR239_0:=iC.mk hi239_0
        have HC239_0:=iC.mk hl239_0
        clear hi239_0 hl239_0
        replace p239:=eq_true p239
        replace q239:=eq_true q239
        go_wp2_with (first | ((with_reducible refine kJ (N:=5) rfl ?_);refine jW ?hg (N:=5) ?hd (cs:=#[.slice none 0 0,.int .i64 0]) (t:=149) ?hr ?_;(case hd=>rfl);(case hg=>rfl);(case hr=>first | (go_simp;done) | (go_simp;rfl));intro gb240 hg w7 hbox hb;have n0_:=iC.mk (Kd.S_below (Kd.S_elderB (by (with_reducible repeat (first | apply Kd.S_alloc | apply Kd.S_drewN | apply Kd.S_drew));exact HO_3.out) gb240 (Nat.le_of_eq hg.symm)) hb);have n1_:=iC.mk (iH hb_ hb);have n2_:=iC.mk (hbox);have n3_:=iC.mk ((by rw [hg];exact (iT hb_):w.heap.size≤gb240));have n4_:=iC.mk ((by rw [hg];exact (iT hb_):w.heap.size≤gb240));clear HO_3;clear HB;have HO_3:=n0_;have HB:=n1_;have BK240:=n2_;have GW240:=n3_;have GE240:=n4_;clear n0_ n1_ n2_ n3_ n4_;clear hb hbox hg;have hcz8_0:w7.cell? ⟨gb240,0,none⟩=some (.slice none 0 0):=(iG BK240.out 0).trans rfl;have hcz8_1:w7.cell? ⟨gb240,1,none⟩=some (.int .i64 0):=(iG BK240.out 1).trans rfl;have hfz8_0:=iE BK240.out 0;have hfz8_1:=iE BK240.out 1))
        go_loopg [6] kj1 (fun kq v6 w'=>∃ (x6_3:Int) (x241000_3:List Int) (u241000:Value),v6=.int .i64 x6_3∧iC (stratumlaw07_Facts.l1 kq l0 x3_1 x4_1 x6_3 x241000_3 ((iR l0 x4_1).f1)=some r)∧iC (kq≤kj1)∧iC (Kd.S k149 149 w' w.heap.size (fun k_=>some k_≠(u241000:Value).ownBlock∧k_≠gb240) u3 x3_1)∧iC (Kd.R (Kd.int .i64) 3 w' w.heap.size (fun _=>True) u241000 x241000_3)∧iC (w'.heap[gb240]? = some (.cells #[u241000,.int .i64 ((iR l0 x4_1).f1)] 149 (0,0)))∧iC (Below w.heap.size w w'))
        case atStart=>exact ⟨(0),(([]:List Int)),(.slice none 0 0),(by first | rfl | (simp;done) | (simp [*];done)),H',⟨Nat.le_refl _⟩,⟨by (with_reducible repeat (first | apply Kd.S_alloc | apply Kd.S_drewN | apply Kd.S_drew));exact Kd.S_mono (Kd.S_far (p:=⟨gb240,1,none⟩) (Kd.S_far (p:=⟨gb240,0,none⟩) (Kd.S_mono HO_3.out (fun k_ hk=>(⟨hk,hk.2⟩:_∧k_≠gb240))) (fun _ hk=>hk.2) (.slice none 0 0)) (fun _ hk=>hk.2) (.int .i64 ((iR l0 x4_1).f1))) (fun _ hk=>⟨(by simp [Value.ownBlock]),hk.1.2⟩)⟩,⟨by first | exact Kd.R_nil _ _ _ _ _ | exact Kd.N_nil _ _ _ _ _ | exact Kd.V_nil _ _ _ _ _ | exact Kd.Q_nil _ _ _ _ _ | exact Kd.S_nil _ _ _ _ _⟩,⟨by (with_reducible repeat (first | refine kQ ?_ _ | refine kK ?_ | refine kD ?_ _));refine jU (cs:=#[.slice none 0 0,.int .i64 0]) ?_ 1 _ rfl;(with_reducible repeat (first | refine kQ ?_ _ | refine kK ?_ | refine kD ?_ _));refine jU (cs:=#[.slice none 0 0,.int .i64 0]) ?_ 0 _ rfl;(with_reducible repeat (first | refine kQ ?_ _ | refine kK ?_ | refine kD ?_ _));exact BK240.out⟩,⟨by repeat (first | (with_reducible first | exact HB.out | apply iD | apply iF | apply iQ | refine iL ?_ GE240.out) | exact HB.out)⟩⟩
        case round =>
         clear H'
         try clear c2
         try clear p2
         try clear q2
         try clear hx2
         try clear c3
         try clear c3b0
         try clear c4
         try clear c5
         try clear c5b0
         try clear c6
         try clear c6b0
         try clear c7
         try clear hcz8_0
         try clear hcz8_1
         try clear hfz8_0
         try clear hfz8_1
         try clear hx239_0
         try clear hx239_1
         try clear p2
         try clear p239
         try clear q239
         obtain ⟨x6_3,x241000_3,u241000,rfl,HA,HK3,HO_3,HO_241000,BK240,HB⟩:=hrel
         cases gk with
         | zero=>exact absurd HA.out (by simp [stratumlaw07_Facts.l1])
         | succ k3 =>
          have H:=HA.out
          clear HA
          simp only [stratumlaw07_Facts.l1] at H
          by_cases c9:0≤x4_1
          ·rw [if_pos c9] at H
           have c9b0:decide (0≤x4_1)=true:=decide_eq_true c9
           clear c9
           by_cases c10:x4_1<(l0.length:Int)
           ·rw [if_pos c10] at H
            have c10b0:decide (x4_1<(l0.length:Int))=true:=decide_eq_true c10
            clear c10
            by_cases c11:x6_3<(((iR l0 x4_1).f0).length:Int)
            ·rw [if_pos c11] at H
             have c11b0:decide (x6_3<(((iR l0 x4_1).f0).length:Int))=true:=decide_eq_true c11
             clear c11
             by_cases c12:x6_3<4
             ·rw [if_pos c12] at H
              have c12b0:decide (x6_3<4)=true:=decide_eq_true c12
              clear c12
              by_cases c13:0≤x6_3
              ·rw [if_pos c13] at H
               have c13b0:decide (0≤x6_3)=true:=decide_eq_true c13
               clear c13
               obtain ⟨ji14,hji14⟩:∃ j_:Int,(mx (rd ((iR l0 x4_1).f0) x6_3) 0)=j_:=⟨_,rfl⟩
               replace H:(if x241000_3.length<17592186044416 then (stratumlaw07_Facts.l1 k3 l0 x3_1 x4_1 (wrap64 (x6_3+1)) (x241000_3 ++ [(ji14) % 10000]) ((iR l0 x4_1).f1)) else (none))=some r:=by first | (rw [hji14] at H;exact H) | (simp only [hji14] at H ⊢;exact H)
               have hji14_:(if (rd ((iR l0 x4_1).f0) x6_3)<0 then 0 else (rd ((iR l0 x4_1).f0) x6_3))=ji14:=hji14
               have hpos_:0≤ji14:=by rw [← hji14_];split <;> omega
               have hmod_:ji14.tmod 10000=ji14 % 10000:=Int.tmod_eq_emod_of_nonneg hpos_
               by_cases c15:x241000_3.length<17592186044416
               ·rw [if_pos c15] at H
                have LMc15:=iC.mk c15
                clear c15
                obtain ⟨y244,hy244⟩:∃ y_:List Int,y_=(x241000_3 ++ [(ji14) % 10000]):=⟨_,rfl⟩
                replace H:(stratumlaw07_Facts.l1 k3 l0 x3_1 x4_1 (wrap64 (x6_3+1)) y244 ((iR l0 x4_1).f1))=some r:=by first | (rw [hy244];with_reducible exact H) | (have H2_:=(Option.bind_some _ _).symm.trans H;rw [hy244];with_reducible exact H2_) | (have H2_:=(Option.bind_some _ _).symm.trans H;with_reducible exact H2_) | with_reducible exact H | (rw [hy244];exact H) | exact H
                have Ny244:=iC.mk hy244
                clear hy244
                have H':=iC.mk H
                clear H
                have p241:0≤(x4_1:Int):=of_decide_eq_true asm_
                have q241:x4_1<(l0.length:Int):=of_decide_eq_true asm_
                obtain ⟨ad241,A241_0,c241_0,e241,hx241_0,hx241_1,hl241_0,hi241_0⟩:=kU HR0.out x4_1 p241 q241
                obtain rfl:ad239=ad241:=(by injection e241)
                replace hx241_0:=(HB.out.cell (World.block_lt_of_cell? w _ hx241_0)).trans hx241_0
                replace hx241_1:=(HB.out.cell (World.block_lt_of_cell? w _ hx241_1)).trans hx241_1
                have HR241_0:=iC.mk hi241_0
                have HC241_0:=iC.mk hl241_0
                clear hi241_0 hl241_0
                replace p241:=eq_true p241
                replace q241:=eq_true q241
                try go_wp2
                have n0_:=iC.mk (Kd.S_drew HO_3.out)
                have n1_:=iC.mk (Kd.R_drew HO_241000.out)
                have n2_:=iC.mk (kK BK240.out)
                have n3_:=iC.mk (iQ HB.out)
                clear HO_3
                clear HO_241000
                clear BK240
                clear HB
                have HO_3:=n0_
                have HO_241000:=n1_
                have BK240:=n2_
                have HB:=n3_
                clear n0_ n1_ n2_ n3_
                have p242:0≤(x4_1:Int):=of_decide_eq_true asm_
                have q242:x4_1<(l0.length:Int):=of_decide_eq_true asm_
                obtain ⟨ad242,A242_0,c242_0,e242,hx242_0,hx242_1,hl242_0,hi242_0⟩:=kU HR0.out x4_1 p242 q242
                have hw242_1:=hx242_1
                have hw242_0:=hx242_0
                obtain rfl:ad239=ad242:=(by injection e242)
                replace hx242_0:=(HB.out.cell (World.block_lt_of_cell? w _ hx242_0)).trans hx242_0
                replace hx242_1:=(HB.out.cell (World.block_lt_of_cell? w _ hx242_1)).trans hx242_1
                have HR242_0:=iC.mk hi242_0
                have HC242_0:=iC.mk hl242_0
                clear hi242_0 hl242_0
                replace p242:=eq_true p242
                replace q242:=eq_true q242
                have p243:0≤(x6_3:Int):=of_decide_eq_true asm_
                have q243:x6_3<(((iR l0 x4_1).f0).length:Int):=of_decide_eq_true asm_
                obtain ⟨ad243,e243,hx243_0⟩:=Kd.at_int HR242_0.out x6_3 p243 q243
                have hw243_0:=hx243_0
                cases e243
                replace hx243_0:=(HB.out.cell (World.block_lt_of_cell? w _ hx243_0)).trans hx243_0
                replace p243:=eq_true p243
                replace q243:=eq_true q243
                refine qJ (n:=16) (S:=fun w'=>w'.cell? ⟨gb240,0,none⟩=some (u241000)∧w'.cell? ⟨gb240,1,none⟩=some (.int .i64 ((iR l0 x4_1).f1))∧w'.cell? (ad239.add ((x4_1).toNat * 2))=some (.slice (some ad243) ((iR l0 x4_1).f0).length c242_0)∧w'.cell? ⟨(ad239.add ((x4_1).toNat * 2)).block,(ad239.add ((x4_1).toNat * 2)).off+1,none⟩=some (.int .i64 ((iR l0 x4_1).f1))∧w'.cell? (ad243.add (x6_3).toNat)=some (.int .i64 (rd ((iR l0 x4_1).f0) x6_3))) (ds:=[15]) #[false,false,false,false,false,false,false,false,false,false,false,false,false,false,false,false] (by kernel_rfl) rfl rfl ⟨(iG BK240.out 0).trans rfl,(iG BK240.out 1).trans rfl,((HB.out.cell (World.block_lt_of_cell? w _ hw242_0)).trans hw242_0),((HB.out.cell (World.block_lt_of_cell? w _ hw242_1)).trans hw242_1),((HB.out.cell (World.block_lt_of_cell? w _ hw243_0)).trans hw243_0)⟩ (fun hHeld=>?_);refine mM stratumlaw07_Facts.tab9 stratumlaw07_Facts.bits9 (fun HT_ HW_=>?_)
                generalize wr.drew=w16 at HO_3 HO_241000 BK240 HB HR242_0 hx242_0 hx242_1 hx243_0 hHeld ⊢
                refine jK (i:=0) (N:=some 37) (v:=?_) (a':=?_) #[true,false,false,false,false,false,false,false,false,false,false,false,false,false,false,false] rfl rfl (iZ HT_.out (by kernel_rfl)) (fun _ _ _ h=>h) (Or.inl ⟨by rfl,?_⟩) ?_ ?_
                rotate_left
                ·intro w'
                 go_simp
                 with_reducible rfl
                rotate_left
                ·simp only [Act.put,sb_,sz_,ss_,iO,jA]
                 rfl
                refine jK (i:=2) (N:=some 39) (v:=?_) (a':=?_) #[true,false,true,false,false,false,false,false,false,false,false,false,false,false,false,false] rfl rfl (iZ HT_.out (by kernel_rfl)) (fun _ _ _ h=>h) (Or.inl ⟨by rfl,?_⟩) ?_ ?_
                rotate_left
                ·intro w'
                 go_simp
                 with_reducible rfl
                rotate_left
                ·simp only [Act.put,sb_,sz_,ss_,iO,jA]
                 rfl
                refine jK (i:=3) (N:=some 40) (v:=?_) (a':=?_) #[true,false,true,true,false,false,false,false,false,false,false,false,false,false,false,false] rfl rfl (iZ HT_.out (by kernel_rfl)) (fun _ _ _ h=>h) (Or.inl ⟨by rfl,?_⟩) ?_ ?_
                rotate_left
                ·intro w'
                 go_simp
                 with_reducible rfl
                rotate_left
                ·simp only [Act.put,sb_,sz_,ss_,iO,jA]
                 rfl
                refine jK (i:=4) (N:=some 41) (v:=?_) (a':=?_) #[true,false,true,true,true,false,false,false,false,false,false,false,false,false,false,false] rfl rfl (iZ HT_.out (by kernel_rfl)) (fun _ _ _ h=>h) (Or.inl ⟨by rfl,?_⟩) ?_ ?_
                rotate_left
                ·intro w'
                 go_simp
                 with_reducible rfl
                rotate_left
                ·simp only [Act.put,sb_,sz_,ss_,iO,jA]
                 rfl
                refine jK (i:=5) (N:=some 42) (v:=?_) (a':=?_) #[true,false,true,true,true,true,false,false,false,false,false,false,false,false,false,false] rfl rfl (iZ HT_.out (by kernel_rfl)) (fun _ _ _ h=>h) (Or.inl ⟨by rfl,?_⟩) ?_ ?_
                rotate_left
                ·intro w'
                 go_simp
                 with_reducible rfl
                rotate_left
                ·simp only [Act.put,sb_,sz_,ss_,iO,jA]
                 rfl
                refine jK (i:=7) (N:=some 44) (v:=?_) (a':=?_) #[true,false,true,true,true,true,false,true,false,false,false,false,false,false,false,false] rfl rfl (iZ HT_.out (by kernel_rfl)) (fun _ _ _ h=>h) (Or.inl ⟨by rfl,?_⟩) ?_ ?_
                rotate_left
                ·intro w'
                 go_simp
                 with_reducible rfl
                rotate_left
                ·simp only [Act.put,sb_,sz_,ss_,iO,jA]
                 rfl
                refine qP (i:=1) (N:=some 38) (v:=?_) (a':=?_) #[true,true,true,true,true,true,false,true,false,false,false,false,false,false,false,false] rfl rfl (lF HT_.out HW_.out (by kernel_rfl)) (fun _ _ _ h=>h) (Or.inl ⟨by rfl,?_⟩) hHeld ?_ ?_
                rotate_left
                ·rintro w' ⟨s0,s1,s2,s3,s4⟩
                 go_simp
                 with_reducible rfl
                rotate_left
                ·simp only [Act.put,sb_,sz_,ss_,iO,jA]
                 rfl
                refine qP (i:=6) (N:=some 43) (v:=?_) (a':=?_) #[true,true,true,true,true,true,true,true,false,false,false,false,false,false,false,false] rfl rfl (lF HT_.out HW_.out (by kernel_rfl)) (fun _ _ _ h=>h) (Or.inl ⟨by rfl,?_⟩) hHeld ?_ ?_
                rotate_left
                ·rintro w' ⟨s0,s1,s2,s3,s4⟩
                 go_simp
                 with_reducible rfl
                rotate_left
                ·simp only [Act.put,sb_,sz_,ss_,iO,jA]
                 rfl
                refine jK (i:=8) (N:=some 45) (v:=?_) (a':=?_) #[true,true,true,true,true,true,true,true,true,false,false,false,false,false,false,false] rfl rfl (iZ HT_.out (by kernel_rfl)) (fun _ _ _ h=>h) (Or.inl ⟨by rfl,?_⟩) ?_ ?_
                rotate_left
                ·intro w'
                 go_simp
                 with_reducible rfl
                rotate_left
                ·simp only [Act.put,sb_,sz_,ss_,iO,jA]
                 rfl
                refine qP (i:=9) (N:=some 46) (v:=?_) (a':=?_) #[true,true,true,true,true,true,true,true,true,true,false,false,false,false,false,false] rfl rfl (lF HT_.out HW_.out (by kernel_rfl)) (fun _ _ _ h=>h) (Or.inl ⟨by rfl,?_⟩) hHeld ?_ ?_
                rotate_left
                ·rintro w' ⟨s0,s1,s2,s3,s4⟩
                 go_simp
                 with_reducible rfl
                rotate_left
                ·simp only [Act.put,sb_,sz_,ss_,iO,jA]
                 rfl
                refine jK (i:=10) (N:=some 47) (v:=?_) (a':=?_) #[true,true,true,true,true,true,true,true,true,true,true,false,false,false,false,false] rfl rfl (iZ HT_.out (by kernel_rfl)) (fun _ _ _ h=>h) (Or.inl ⟨by rfl,?_⟩) ?_ ?_
                rotate_left
                ·intro w'
                 go_simp
                 with_reducible rfl
                rotate_left
                ·simp only [Act.put,sb_,sz_,ss_,iO,jA]
                 rfl
                refine jK (i:=11) (N:=some 48) (v:=?_) (a':=?_) #[true,true,true,true,true,true,true,true,true,true,true,true,false,false,false,false] rfl rfl (iZ HT_.out (by kernel_rfl)) (fun _ _ _ h=>h) (Or.inl ⟨by rfl,?_⟩) ?_ ?_
                rotate_left
                ·intro w'
                 go_simp
                 with_reducible rfl
                rotate_left
                ·simp only [Act.put,sb_,sz_,ss_,iO,jA]
                 rfl
                refine one_ (i:=12) (N:=some 49) #[true,true,true,true,true,true,true,true,true,true,true,true,true,false,false,false] rfl rfl (kY HT_.out (by kernel_rfl)) (by decide) (fun K hK=>?_)
                refine jC (w1:=?_) (v:=?_) (by rfl) rfl ?_ ?_
                rotate_left 2
                ·go_simp
                 constructor
                 ·rfl
                 ·rfl
                refine hK.out _ _ ⟨(iG (kD BK240.out _) 0).trans rfl,(iG (kD BK240.out _) 1).trans rfl,(World.cell?_alloc_lt _ _ _ (World.block_lt_of_cell? _ _ (((HB.out.cell (World.block_lt_of_cell? w _ hw242_0)).trans hw242_0)))).trans (((HB.out.cell (World.block_lt_of_cell? w _ hw242_0)).trans hw242_0)),(World.cell?_alloc_lt _ _ _ (World.block_lt_of_cell? _ _ (((HB.out.cell (World.block_lt_of_cell? w _ hw242_1)).trans hw242_1)))).trans (((HB.out.cell (World.block_lt_of_cell? w _ hw242_1)).trans hw242_1)),(World.cell?_alloc_lt _ _ _ (World.block_lt_of_cell? _ _ (((HB.out.cell (World.block_lt_of_cell? w _ hw243_0)).trans hw243_0)))).trans (((HB.out.cell (World.block_lt_of_cell? w _ hw243_0)).trans hw243_0))⟩ (fun hHeld=>?_)
                clear hK K
                refine lL (a':=?_) ?_ ?_
                rotate_left
                ·show Act.put _ (some 49) _=_
                 simp only [Act.put,sb_,sz_,ss_,iO,jA]
                 rfl
                refine one_ (i:=13) (N:=some 50) #[true,true,true,true,true,true,true,true,true,true,true,true,true,true,false,false] rfl rfl (kY HT_.out (by kernel_rfl)) (by decide) (fun K hK=>?_)
                refine Kd.R_append_step (Kd.int .i64) (w0:=w) w.heap.size (by rfl) (.tmp 38) (.tmp 49) 47 3 (.int .i64 0) 8 rfl Tryz.underlying47 info3 rfl (by decide) (by omega) u241000 x241000_3 ((ji14) % 10000) [.int .i64 ((ji14) % 10000)] (fun _=>True) (fun _=>False) rfl rfl ?aP (fun _ hk=>hk.elim) ?aF ?aO ?aB ?aS ?aL ?_
                (case aP=>exact rfl)
                (case aB=>exact (by repeat (first | (with_reducible first | exact HB.out | apply iD | apply iF | apply iQ | refine iL ?_ GE240.out) | exact HB.out)))
                (case aF=>exact (fun _ _=>trivial))
                (case aO=>exact (by (with_reducible repeat (first | apply Kd.R_alloc | apply Kd.R_drewN | apply Kd.R_drew));exact HO_241000.out))
                (case aS=>exact (iT (by repeat (first | (with_reducible first | exact HB.out | apply iD | apply iF | apply iQ | refine iL ?_ GE240.out) | exact HB.out))))
                (case aL=>have:=LMc15.out;omega)
                intro v245 w17 ho hb hg hat
                rw [← Ny244.out] at ho
                have n0_:=iC.mk (Kd.S_after (ok:=(fun k_=>k_≠gb240)) (by (with_reducible repeat (first | apply Kd.S_alloc | apply Kd.S_drewN | apply Kd.S_drew));exact Kd.S_mono HO_3.out (fun _ hk=>⟨hk.2,hk.1⟩)) hg hat)
                have n1_:=iC.mk (qQ (g:=gb240) (o:=.cells #[u241000,.int .i64 ((iR l0 x4_1).f1)] 149 (0,0)) (bk_ BK240.out) hg (Kd.R_ne HO_241000.out BK240.out (by decide)))
                have n2_:=iC.mk (hb)
                have n3_:=iC.mk (ho)
                clear HO_3
                clear BK240
                clear HB
                clear HO_241000
                have HO_3:=n0_
                have BK240:=n1_
                have HB:=n2_
                have HO246:=n3_
                clear n0_ n1_ n2_ n3_
                clear ho hb hg hat
                obtain ⟨Ao18,co18,eo18⟩:=Kd.R_slice HO246.out
                (first | subst eo18 | (injection eo18 with f1_ f2_ f3_;have f4_:=f1_.symm;have f5_:=f3_.symm;clear f1_ f2_ f3_;subst f4_;subst f5_))
                refine hK.out _ _ ⟨(iG BK240.out 0).trans rfl,(iG BK240.out 1).trans rfl,((HB.out.cell (World.block_lt_of_cell? w _ hw242_0)).trans hw242_0),((HB.out.cell (World.block_lt_of_cell? w _ hw242_1)).trans hw242_1),((HB.out.cell (World.block_lt_of_cell? w _ hw243_0)).trans hw243_0)⟩ (fun hHeld=>?_)
                clear hK K
                refine lL (a':=?_) ?_ ?_
                rotate_left
                ·show Act.put _ (some 50) _=_
                 simp only [Act.put,sb_,sz_,ss_,iO,jA]
                 rfl
                refine jK (i:=14) (N:=some 51) (v:=?_) (a':=?_) #[true,true,true,true,true,true,true,true,true,true,true,true,true,true,true,false] rfl rfl (iZ HT_.out (by kernel_rfl)) (fun _ _ _ h=>h) (Or.inl ⟨by rfl,?_⟩) ?_ ?_
                rotate_left
                ·intro w'
                 go_simp
                 with_reducible rfl
                rotate_left
                ·simp only [Act.put,sb_,sz_,ss_,iO,jA]
                 rfl
                refine jd0 (i:=15) (N:=none) #[true,true,true,true,true,true,true,true,true,true,true,true,true,true,true,true] rfl rfl (kY HT_.out (by kernel_rfl)) (by decide) (fun K hK=>?_)
                have hs19:w17.cell? ⟨gb240,0,none⟩=some (u241000):=(iG BK240.out 0).trans rfl
                have hfs19:=iE BK240.out 0
                refine j2_ (w1:=?_) (by rfl) rfl ?_ ?_
                rotate_left
                ·go_simp
                 rfl
                refine hK.out _ _ ?_
                clear hK K
                refine zI (pM HT_.out (by kernel_rfl)) ?_
                try go_wp2
                go_roundg k3
                case measure=>have:=HK1.out;have:=HJ1.out;have:=HK3.out;omega
                case rel=>exact ⟨(wrap64 (x6_3+1)),(y244),(.slice Ao18 y244.length co18),(by first | rfl | (simp;done) | (simp [*];done)),H',⟨by have:=HK1.out;have:=HJ1.out;have:=HK3.out;omega⟩,⟨by (with_reducible repeat (first | apply Kd.S_alloc | apply Kd.S_drewN | apply Kd.S_drew));exact Kd.S_mono (Kd.S_far (p:=⟨gb240,0,none⟩) (Kd.S_mono HO_3.out (fun k_ hk=>(⟨hk,hk.1⟩:_∧k_≠gb240))) (fun _ hk=>hk.2) (.slice Ao18 y244.length co18)) (fun _ hk=>⟨hk.1.2,hk.1.1⟩)⟩,⟨by (with_reducible repeat (first | apply Kd.R_alloc | apply Kd.R_drewN | apply Kd.R_drew));exact Kd.R_mono (Kd.R_far (p:=⟨gb240,0,none⟩) (Kd.R_types HO246.out BK240.out (by decide)) (fun _ hk=>hk.2) (.slice Ao18 y244.length co18)) (fun _ hk=>trivial)⟩,⟨by (with_reducible repeat (first | refine kQ ?_ _ | refine kK ?_ | refine kD ?_ _));refine jU (cs:=#[u241000,.int .i64 ((iR l0 x4_1).f1)]) ?_ 0 _ rfl;(with_reducible repeat (first | refine kQ ?_ _ | refine kK ?_ | refine kD ?_ _));exact BK240.out⟩,⟨by repeat (first | (with_reducible first | exact HB.out | apply iD | apply iF | apply iQ | refine iL ?_ GE240.out) | exact HB.out)⟩⟩
               ·rw [if_neg c15] at H
                exact absurd H (by simp)
              ·rw [if_neg c13] at H
               exact absurd H (by simp)
             ·rw [if_neg c12] at H
              have c12b0:decide (x6_3<4)=false:=decide_eq_false c12
              clear c12
              by_cases c20:x3_1.length<4398046511104
              ·rw [if_pos c20] at H
               have LMc20:=iC.mk c20
               clear c20
               obtain ⟨y247,hy247⟩:∃ y_:List (S149),y_=(x3_1 ++ [(⟨x241000_3,((iR l0 x4_1).f1)⟩:S149)]):=⟨_,rfl⟩
               replace H:(stratumlaw07_Facts.l0 k3 l0 y247 (wrap64 (x4_1+1)))=some r:=by first | (rw [hy247];with_reducible exact H) | (have H2_:=(Option.bind_some _ _).symm.trans H;rw [hy247];with_reducible exact H2_) | (have H2_:=(Option.bind_some _ _).symm.trans H;with_reducible exact H2_) | with_reducible exact H | (rw [hy247];exact H) | exact H
               have Ny247:=iC.mk hy247
               clear hy247
               have H':=iC.mk H
               clear H
               have p241:0≤(x4_1:Int):=of_decide_eq_true asm_
               have q241:x4_1<(l0.length:Int):=of_decide_eq_true asm_
               obtain ⟨ad241,A241_0,c241_0,e241,hx241_0,hx241_1,hl241_0,hi241_0⟩:=kU HR0.out x4_1 p241 q241
               obtain rfl:ad239=ad241:=(by injection e241)
               replace hx241_0:=(HB.out.cell (World.block_lt_of_cell? w _ hx241_0)).trans hx241_0
               replace hx241_1:=(HB.out.cell (World.block_lt_of_cell? w _ hx241_1)).trans hx241_1
               have HR241_0:=iC.mk hi241_0
               have HC241_0:=iC.mk hl241_0
               clear hi241_0 hl241_0
               replace p241:=eq_true p241
               replace q241:=eq_true q241
               have hcz21_0:wr.cell? ⟨gb240,0,none⟩=some (u241000):=(iG BK240.out 0).trans rfl
               have hcz21_1:wr.cell? ⟨gb240,1,none⟩=some (.int .i64 ((iR l0 x4_1).f1)):=(iG BK240.out 1).trans rfl
               have hfz21_0:=iE BK240.out 0
               have hfz21_1:=iE BK240.out 1
               obtain ⟨Ao23,co23,eo23⟩:=Kd.R_slice HO_241000.out
               subst eo23
               go_wp2_with (first | ((with_reducible refine rX (b:=.append) (xs:=#[.tmp 52,.tmp 54]) rfl ?_);at_builtin;refine Kd.S_append k149 (w0:=w) w.heap.size rfl (.tmp 52) (.tmp 54) 48 149 (.agg #[(.slice none 0 0),(.int .i64 0)]) 32 rfl Tryz.underlying48 XG rfl (by decide) (by omega) u3 x3_1 (⟨x241000_3,((iR l0 x4_1).f1)⟩:S149) [.slice Ao23 x241000_3.length co23,.int .i64 ((iR l0 x4_1).f1)] (fun k_=>k_≠gb240) (fun k_=>some k_=(.slice Ao23 x241000_3.length co23:Value).ownBlock) rfl rfl ?aP (fun k_ hk_=>((Kd.R_mono (ok':=fun k_=>((fun k_=>k_≠gb240)) k_∧some k_≠(u3:Value).ownBlock) (Kd.R_types (Kd.R_apart' (HO_241000.out) (Kd.S_typed HO_3.out) (by decide)) BK240.out (by decide)) (fun k_ hk=>⟨hk.2,hk.1.2⟩))).1 k_ hk_.symm) ?aF ?aO ?aB ?aS ?aL ?_;(case aP=>exact zK _ _ _ (⟨x241000_3,((iR l0 x4_1).f1)⟩:S149) (Kd.R_mono (Kd.R_tight rfl (Kd.R_mono (ok':=fun k_=>((fun k_=>k_≠gb240)) k_∧some k_≠(u3:Value).ownBlock) (Kd.R_types (Kd.R_apart' (HO_241000.out) (Kd.S_typed HO_3.out) (by decide)) BK240.out (by decide)) (fun k_ hk=>⟨hk.2,hk.1.2⟩))) (fun _ h_=>h_)));(case aB=>exact (by repeat (first | (with_reducible first | exact HB.out | apply iD | apply iF | apply iQ | refine iL ?_ GE240.out) | exact HB.out)));(case aF=>exact (fun k_ hk=>Kd.freshB (g:=gb240) (o:=.cells #[.slice Ao23 x241000_3.length co23,.int .i64 ((iR l0 x4_1).f1)] 149 (0,0)) (bk_ BK240.out) k_ hk));(case aO=>exact (by (with_reducible repeat (first | apply Kd.S_alloc | apply Kd.S_drewN | apply Kd.S_drew));exact Kd.S_mono HO_3.out (fun k_ hk=>⟨hk.2,fun e_=>hk.1 e_⟩)));(case aS=>exact (iT (by repeat (first | (with_reducible first | exact HB.out | apply iD | apply iF | apply iQ | refine iL ?_ GE240.out) | exact HB.out))));(case aL=>have:=LMc20.out;omega);intro v248 w22 ho hb hg hat;rw [← Ny247.out] at ho;have n0_:=iC.mk (qQ (g:=gb240) (o:=.cells #[.slice Ao23 x241000_3.length co23,.int .i64 ((iR l0 x4_1).f1)] 149 (0,0)) (bk_ BK240.out) hg (Kd.S_away HO_3.out (fun _ hk=>hk.2)));have n1_:=iC.mk (hb);have n2_:=iC.mk (ho);clear BK240;clear HB;clear HO_3;clear HO_241000;have BK240:=n0_;have HB:=n1_;have HO249:=n2_;clear n0_ n1_ n2_;clear ho hb hg hat))
               go_roundg k3
               case measure=>have:=HK1.out;have:=HJ1.out;have:=HK3.out;omega
               case rel=>exact ⟨(y247),(wrap64 (x4_1+1)),(by first | rfl | (simp;done) | (simp [*];done)),H',⟨by have:=HK1.out;have:=HJ1.out;have:=HK3.out;omega⟩,⟨by (with_reducible repeat (first | apply Kd.S_alloc | apply Kd.S_drewN | apply Kd.S_drew));exact Kd.S_mono HO249.out (fun _ hk=>trivial)⟩,⟨by repeat (first | (with_reducible first | exact HB.out | apply iD | apply iF | apply iQ | refine iL ?_ GE240.out) | exact HB.out)⟩⟩
              ·rw [if_neg c20] at H
               exact absurd H (by simp)
            ·rw [if_neg c11] at H
             have c11b0:decide (x6_3<(((iR l0 x4_1).f0).length:Int))=false:=decide_eq_false c11
             clear c11
             by_cases c24:x3_1.length<4398046511104
             ·rw [if_pos c24] at H
              have LMc24:=iC.mk c24
              clear c24
              obtain ⟨y250,hy250⟩:∃ y_:List (S149),y_=(x3_1 ++ [(⟨x241000_3,((iR l0 x4_1).f1)⟩:S149)]):=⟨_,rfl⟩
              replace H:(stratumlaw07_Facts.l0 k3 l0 y250 (wrap64 (x4_1+1)))=some r:=by first | (rw [hy250];with_reducible exact H) | (have H2_:=(Option.bind_some _ _).symm.trans H;rw [hy250];with_reducible exact H2_) | (have H2_:=(Option.bind_some _ _).symm.trans H;with_reducible exact H2_) | with_reducible exact H | (rw [hy250];exact H) | exact H
              have Ny250:=iC.mk hy250
              clear hy250
              have H':=iC.mk H
              clear H
              have p241:0≤(x4_1:Int):=of_decide_eq_true asm_
              have q241:x4_1<(l0.length:Int):=of_decide_eq_true asm_
              obtain ⟨ad241,A241_0,c241_0,e241,hx241_0,hx241_1,hl241_0,hi241_0⟩:=kU HR0.out x4_1 p241 q241
              obtain rfl:ad239=ad241:=(by injection e241)
              replace hx241_0:=(HB.out.cell (World.block_lt_of_cell? w _ hx241_0)).trans hx241_0
              replace hx241_1:=(HB.out.cell (World.block_lt_of_cell? w _ hx241_1)).trans hx241_1
              have HR241_0:=iC.mk hi241_0
              have HC241_0:=iC.mk hl241_0
              clear hi241_0 hl241_0
              replace p241:=eq_true p241
              replace q241:=eq_true q241
              have hcz25_0:wr.cell? ⟨gb240,0,none⟩=some (u241000):=(iG BK240.out 0).trans rfl
              have hcz25_1:wr.cell? ⟨gb240,1,none⟩=some (.int .i64 ((iR l0 x4_1).f1)):=(iG BK240.out 1).trans rfl
              have hfz25_0:=iE BK240.out 0
              have hfz25_1:=iE BK240.out 1
              obtain ⟨Ao27,co27,eo27⟩:=Kd.R_slice HO_241000.out
              subst eo27
              go_wp2_with (first | ((with_reducible refine rX (b:=.append) (xs:=#[.tmp 52,.tmp 54]) rfl ?_);at_builtin;refine Kd.S_append k149 (w0:=w) w.heap.size rfl (.tmp 52) (.tmp 54) 48 149 (.agg #[(.slice none 0 0),(.int .i64 0)]) 32 rfl Tryz.underlying48 XG rfl (by decide) (by omega) u3 x3_1 (⟨x241000_3,((iR l0 x4_1).f1)⟩:S149) [.slice Ao27 x241000_3.length co27,.int .i64 ((iR l0 x4_1).f1)] (fun k_=>k_≠gb240) (fun k_=>some k_=(.slice Ao27 x241000_3.length co27:Value).ownBlock) rfl rfl ?aP (fun k_ hk_=>((Kd.R_mono (ok':=fun k_=>((fun k_=>k_≠gb240)) k_∧some k_≠(u3:Value).ownBlock) (Kd.R_types (Kd.R_apart' (HO_241000.out) (Kd.S_typed HO_3.out) (by decide)) BK240.out (by decide)) (fun k_ hk=>⟨hk.2,hk.1.2⟩))).1 k_ hk_.symm) ?aF ?aO ?aB ?aS ?aL ?_;(case aP=>exact zK _ _ _ (⟨x241000_3,((iR l0 x4_1).f1)⟩:S149) (Kd.R_mono (Kd.R_tight rfl (Kd.R_mono (ok':=fun k_=>((fun k_=>k_≠gb240)) k_∧some k_≠(u3:Value).ownBlock) (Kd.R_types (Kd.R_apart' (HO_241000.out) (Kd.S_typed HO_3.out) (by decide)) BK240.out (by decide)) (fun k_ hk=>⟨hk.2,hk.1.2⟩))) (fun _ h_=>h_)));(case aB=>exact (by repeat (first | (with_reducible first | exact HB.out | apply iD | apply iF | apply iQ | refine iL ?_ GE240.out) | exact HB.out)));(case aF=>exact (fun k_ hk=>Kd.freshB (g:=gb240) (o:=.cells #[.slice Ao27 x241000_3.length co27,.int .i64 ((iR l0 x4_1).f1)] 149 (0,0)) (bk_ BK240.out) k_ hk));(case aO=>exact (by (with_reducible repeat (first | apply Kd.S_alloc | apply Kd.S_drewN | apply Kd.S_drew));exact Kd.S_mono HO_3.out (fun k_ hk=>⟨hk.2,fun e_=>hk.1 e_⟩)));(case aS=>exact (iT (by repeat (first | (with_reducible first | exact HB.out | apply iD | apply iF | apply iQ | refine iL ?_ GE240.out) | exact HB.out))));(case aL=>have:=LMc24.out;omega);intro v251 w26 ho hb hg hat;rw [← Ny250.out] at ho;have n0_:=iC.mk (qQ (g:=gb240) (o:=.cells #[.slice Ao27 x241000_3.length co27,.int .i64 ((iR l0 x4_1).f1)] 149 (0,0)) (bk_ BK240.out) hg (Kd.S_away HO_3.out (fun _ hk=>hk.2)));have n1_:=iC.mk (hb);have n2_:=iC.mk (ho);clear BK240;clear HB;clear HO_3;clear HO_241000;have BK240:=n0_;have HB:=n1_;have HO252:=n2_;clear n0_ n1_ n2_;clear ho hb hg hat))
              go_roundg k3
              case measure=>have:=HK1.out;have:=HJ1.out;have:=HK3.out;omega
              case rel=>exact ⟨(y250),(wrap64 (x4_1+1)),(by first | rfl | (simp;done) | (simp [*];done)),H',⟨by have:=HK1.out;have:=HJ1.out;have:=HK3.out;omega⟩,⟨by (with_reducible repeat (first | apply Kd.S_alloc | apply Kd.S_drewN | apply Kd.S_drew));exact Kd.S_mono HO252.out (fun _ hk=>trivial)⟩,⟨by repeat (first | (with_reducible first | exact HB.out | apply iD | apply iF | apply iQ | refine iL ?_ GE240.out) | exact HB.out)⟩⟩
             ·rw [if_neg c24] at H
              exact absurd H (by simp)
           ·rw [if_neg c10] at H
            exact absurd H (by simp)
          ·rw [if_neg c9] at H
           exact absurd H (by simp)
       ·rw [if_neg c6] at H
        exact absurd H (by simp)
      ·rw [if_neg c5] at H
       exact absurd H (by simp)
     ·replace c4:=Bool.eq_false_iff.mpr c4
      subst c4
      have H1:(some x3_1)=some r:=by rw [if_neg (show ¬ (false=true) by decide)] at H;exact H
      clear H
      have H:=H1
      clear H1
      obtain rfl:=Option.some.inj H
      go_wp2
      go_ret
      exact ⟨_,by first | rfl | (simp [jF,jG] <;> rfl) | (simp [*,jF,jG] <;> rfl),by (with_reducible repeat (first | apply Kd.S_alloc | apply Kd.S_drewN | apply Kd.S_drew));exact HO_3.out,hb_⟩
theorem stratumlaw07_Facts.calls (k:Nat) (A0:Option Addr) (c0:Nat) (l0:List (S149)) (r:List (S149)) (w:World) (hr0:Kd.C k149 w A0 l0.length l0) (hc0:l0.length≤c0) (h:stratumlaw07_Facts.f k l0=some r) :
  Calls Tryz.prog 70 #[.slice A0 l0.length c0] w fun e w'=>∃ v0_:Value,e=.returned (v0_)∧Kd.R k149 149 w' w.heap.size (fun _=>True) v0_ r∧Below w.heap.size w w' :=
 (stratumlaw07_Facts.callsS k A0 c0 l0 r w hr0 hc0 h).mono fun _ _ ⟨v,he,hs,hb⟩=>⟨v,he,Kd.S_R hs,hb⟩
end Go.Proofs.YtgfkgppomaapiaaGreatDoor.K
end
namespace Go.Proofs.YtgfkgppomaapiaaGreatDoor.K
open RowKit YtgfkgppomaapiaaGreatDoorW.PrintWords YtgfkgppomaapiaaGreatDoorW.PrintLast YtgfkgppomaapiaaGreatDoorW.PrintMore My
section
theorem TB {α:Type} (d:α) (l:List α) (i:Int) (h:i.toNat<l.length) (h0:0≤i):l.drop i.toNat=l.getD i.toNat d :: l.drop (i+1).toNat:=by
 rw [List.drop_eq_getElem_cons h,show (i+1).toNat=i.toNat+1 by omega]
 congr 1
 rw [List.getD_eq_getElem?_getD,List.getElem?_eq_getElem h]
 rfl
def capV (v:Int):Int:=(mx v 0) % 10000
def X0 (f:jQ):jQ:=⟨(f.f0.take 4).map capV,f.f1⟩
def uP (l:List jQ):List jQ:=(l.take 60).map X0
theorem j6_ (l:List jQ) (i:Int) (h0:0≤i) (hlt:i<l.length) (hn:l.length≤9223372036854775807) (out:List jQ) (ho:out.length<4398046511104) (v:Int) (R:List jQ)
  (hR:∀ key:List Int,Ev (fun k=>stratumlaw07_Facts.l0 k l (out ++ [⟨key,v⟩]) (i+1)) (out ++ ⟨key,v⟩ :: R)) (d:Nat):∀ (j:Int) (acc:List Int),0≤j→j≤4→4 - j=d→(acc.length:Int)≤j →
  Ev (fun k=>stratumlaw07_Facts.l1 k l out i j acc v) (out ++ ⟨acc ++ (((iR l i).f0.take 4).drop j.toNat).map capV,v⟩ :: R):=by
 induction d with
 | zero =>
  intro j acc g0 g1 hd ha
  rw [List.drop_of_length_le (by rw [List.length_take];omega),List.map_nil,List.append_nil]
  by_cases hj:j<((iR l i).f0.length:Int)
  ·exact Ev.step (fun k=>by simp only [stratumlaw07_Facts.l1];rw [if_pos h0,if_pos hlt,if_pos hj,if_neg (by omega),if_pos ho,show wrap64 (i+1)=i+1 from by unfold wrap64;omega]) (hR acc)
  ·exact Ev.step (fun k=>by simp only [stratumlaw07_Facts.l1];rw [if_pos h0,if_pos hlt,if_neg hj,if_pos ho,show wrap64 (i+1)=i+1 from by unfold wrap64;omega]) (hR acc)
 | succ d ih =>
  intro j acc g0 g1 hd ha
  by_cases hj:j<((iR l i).f0.length:Int)
  ·have hjt:j.toNat<((iR l i).f0.take 4).length:=by rw [List.length_take];omega
   rw [TB 0 _ j hjt g0,List.map_cons,List.append_cons acc]
   have e:((iR l i).f0.take 4).getD j.toNat 0=rd (iR l i).f0 j:=by
    unfold rd
    rw [List.getD_eq_getElem?_getD,List.getD_eq_getElem?_getD,List.getElem?_take,if_pos (by omega)]
   rw [e]
   refine Ev.step (f:=fun k=>stratumlaw07_Facts.l1 k l out i (j+1) (acc ++ [capV (rd (iR l i).f0 j)]) v) (fun k=>by simp only [stratumlaw07_Facts.l1];rw [if_pos h0,if_pos hlt,if_pos hj,if_pos (by omega),if_pos g0,if_pos (by omega),show wrap64 (j+1)=j+1 from by unfold wrap64;omega];rfl) ?_
   have:=ih (j+1) (acc ++ [capV (rd (iR l i).f0 j)]) (by omega) (by omega) (by omega) (by rw [List.length_append];simp;omega)
   exact this
  ·rw [List.drop_of_length_le (by rw [List.length_take];omega),List.map_nil,List.append_nil]
   exact Ev.step (fun k=>by simp only [stratumlaw07_Facts.l1];rw [if_pos h0,if_pos hlt,if_neg hj,if_pos ho,show wrap64 (i+1)=i+1 from by unfold wrap64;omega]) (hR acc)
theorem VT (l:List jQ) (hn:l.length≤9223372036854775807) (d:Nat):∀ (i:Int) (out:List jQ),0≤i→i≤60→60 - i=d→(out.length:Int)≤i→Ev (fun k=>stratumlaw07_Facts.l0 k l out i) (out ++ ((l.take 60).drop i.toNat).map X0):=by
 induction d with
 | zero =>
  intro i out h0 h1 hd ho
  rw [List.drop_of_length_le (by rw [List.length_take];omega),List.map_nil,List.append_nil]
  by_cases hlt:i<(l.length:Int)
  ·exact Ev.step (fun k=>by simp only [stratumlaw07_Facts.l0];rw [if_pos hlt]) (Ev.step (f:=fun _=>some out) (fun k=>by simp only [stratumlaw07_Facts.j1];rw [if_neg (by simp;omega)]) (Ev.now _))
  ·exact Ev.step (fun k=>by simp only [stratumlaw07_Facts.l0];rw [if_neg hlt]) (Ev.step (f:=fun _=>some out) (fun k=>by simp only [stratumlaw07_Facts.j1];rw [if_neg (by decide)]) (Ev.now _))
 | succ d ih =>
  intro i out h0 h1 hd ho
  by_cases hlt:i<(l.length:Int)
  ·have hit:i.toNat<(l.take 60).length:=by rw [List.length_take];omega
   have e:(l.take 60).getD i.toNat z149=iR l i:=by
    unfold iR
    rw [List.getD_eq_getElem?_getD,List.getD_eq_getElem?_getD,List.getElem?_take,if_pos (by omega)]
   rw [TB z149 _ i hit h0,List.map_cons,e]
   refine Ev.step (fun k=>by simp only [stratumlaw07_Facts.l0];rw [if_pos hlt]) (Ev.step (f:=fun k=>stratumlaw07_Facts.l1 k l out i 0 [] (iR l i).f1) (fun k=>by simp only [stratumlaw07_Facts.j1];rw [if_pos (by simp;omega),if_pos h0,if_pos hlt]) ?_)
   have h2:=j6_ l i h0 hlt hn out (by omega) (iR l i).f1 (((l.take 60).drop (i+1).toNat).map X0) (fun key=>by
    have:=ih (i+1) (out ++ [⟨key,(iR l i).f1⟩]) (by omega) (by omega) (by omega) (by rw [List.length_append];simp;omega)
    rw [List.append_assoc] at this
    exact this) 4 0 [] (by omega) (by omega) (by omega) (by simp)
   rw [List.nil_append] at h2
   exact h2
  ·rw [List.drop_of_length_le (by rw [List.length_take];omega),List.map_nil,List.append_nil]
   exact Ev.step (fun k=>by simp only [stratumlaw07_Facts.l0];rw [if_neg hlt]) (Ev.step (f:=fun _=>some out) (fun k=>by simp only [stratumlaw07_Facts.j1];rw [if_neg (by decide)]) (Ev.now _))
theorem JM (l:List jQ) (hn:l.length≤9223372036854775807):Ev (fun k=>stratumlaw07_Facts.f k l) (uP l):=by
 have:=VT l hn 60 0 [] (by omega) (by omega) (by omega) (by simp)
 rw [List.nil_append] at this
 exact this
def entM (last:Int):List jJ→List jJ
 | []=>[]
 | e :: l=>⟨(last+(1+Int.tmod e.f0 1000)) % 4294967296,uP e.f1⟩ :: entM ((last+(1+Int.tmod e.f0 1000)) % 4294967296) l
end
end Go.Proofs.YtgfkgppomaapiaaGreatDoor.K
namespace Go.Proofs.YtgfkgppomaapiaaGreatDoor.K
open Go.RowKit Go.Proofs.YtgfkgppomaapiaaGreatDoorW.PrintWords Go.Proofs.YtgfkgppomaapiaaGreatDoorW.PrintLast Go.Proofs.YtgfkgppomaapiaaGreatDoorW.PrintMore
section
attribute [local go_sem] kL kH kZ lC
def stratumref07_SameInts.l0:Nat→List Int→List Int→Int→Option (Bool)
 | 0,_,_,_=>none
 | k+1,x0,x1,x5=>if x5<(x0.length:Int) then (if 0≤x5 then (if x5<(x1.length:Int) then (if (rd x0 x5)=(rd x1 x5) then (stratumref07_SameInts.l0 k x0 x1 (wrap64 (x5+1))) else (some false)) else (none)) else (none)) else (some true)
def stratumref07_SameInts.f (k:Nat) (l0:List Int) (l1:List Int):Option (Bool):=if (l0.length:Int)=(l1.length:Int) then (stratumref07_SameInts.l0 k l0 l1 0) else (some false)
set_option maxHeartbeats 8000000 in
set_option maxRecDepth 100000 in
theorem stratumref07_SameInts.calls (k:Nat) (A0:Option Addr) (c0:Nat) (l0:List Int) (A1:Option Addr) (c1:Nat) (l1:List Int) (r:Bool) (w:World) (hr0:Kd.C (Kd.int .i64) w A0 l0.length l0) (hc0:l0.length≤c0) (hr1:Kd.C (Kd.int .i64) w A1 l1.length l1) (hc1:l1.length≤c1) (h:stratumref07_SameInts.f k l0 l1=some r) :
  Calls Tryz.prog 55 #[.slice A0 l0.length c0,.slice A1 l1.length c1] w fun e w'=>e=.returned (.bool r)∧jD w w':=by
 have HR0:=iC.mk hr0
 have HC0:=iC.mk hc0
 clear hr0 hc0
 have HR1:=iC.mk hr1
 have HC1:=iC.mk hc1
 clear hr1 hc1
 have H:(if (l0.length:Int)=(l1.length:Int) then (stratumref07_SameInts.l0 k l0 l1 0) else (some false))=some r:=h
 clear h
 by_cases c3:(l0.length:Int)=(l1.length:Int)
 ·rw [if_pos c3] at H
  have c3b0:((l0.length:Int) == (l1.length:Int))=true:=beq_iff_eq.mpr c3
  have c3b1:((l0.length:Int) != (l1.length:Int))=false:=bne_eq_false_iff_eq.mpr c3
  have c3b2:(l0.length == l1.length)=true:=by first | simpa using c3 | (simp at c3 ⊢;omega)
  clear c3
  have H':=iC.mk H
  clear H
  go_enter Tryz.func55,Tryz.ntmps55
  go_wp2
  repeat (go_quiet (fail);try go_wp2)
  go_loopg [5] k (fun kq v5 w'=>∃ (x5_1:Int),v5=.int .i64 x5_1∧iC (stratumref07_SameInts.l0 kq l0 l1 x5_1=some r)∧iC (kq≤k)∧jD w w')
  case atStart=>exact ⟨(0),(by first | rfl | (simp;done) | (simp [*];done)),H',⟨Nat.le_refl _⟩,by repeat (first | exact jD.refl _ | apply jD.step)⟩
  case round =>
   clear H'
   try clear c1
   try clear p2
   try clear c3
   try clear c3b0
   try clear c3b1
   try clear c3b2
   obtain ⟨x5_1,rfl,HA,HK1,⟨m1,rfl⟩⟩:=hrel
   cases gk with
   | zero=>exact absurd HA.out (by simp [stratumref07_SameInts.l0])
   | succ k1 =>
    have H:=HA.out
    clear HA
    simp only [stratumref07_SameInts.l0] at H
    by_cases c4:x5_1<(l0.length:Int)
    ·rw [if_pos c4] at H
     have c4b0:decide (x5_1<(l0.length:Int))=true:=decide_eq_true c4
     clear c4
     by_cases c5:0≤x5_1
     ·rw [if_pos c5] at H
      have c5b0:decide (0≤x5_1)=true:=decide_eq_true c5
      clear c5
      by_cases c6:x5_1<(l1.length:Int)
      ·rw [if_pos c6] at H
       have c6b0:decide (x5_1<(l1.length:Int))=true:=decide_eq_true c6
       clear c6
       by_cases c7:(rd l0 x5_1)=(rd l1 x5_1)
       ·rw [if_pos c7] at H
        have c7b0:((rd l0 x5_1) == (rd l1 x5_1))=true:=beq_iff_eq.mpr c7
        have c7b1:((rd l0 x5_1) != (rd l1 x5_1))=false:=bne_eq_false_iff_eq.mpr c7
        clear c7
        have H':=iC.mk H
        clear H
        have p212:0≤(x5_1:Int):=of_decide_eq_true asm_
        have q212:x5_1<(l0.length:Int):=of_decide_eq_true asm_
        obtain ⟨ad212,e212,hx212_0⟩:=Kd.at_int HR0.out x5_1 p212 q212
        cases e212
        replace p212:=eq_true p212
        replace q212:=eq_true q212
        have p213:0≤(x5_1:Int):=of_decide_eq_true asm_
        have q213:x5_1<(l1.length:Int):=of_decide_eq_true asm_
        obtain ⟨ad213,e213,hx213_0⟩:=Kd.at_int HR1.out x5_1 p213 q213
        cases e213
        replace p213:=eq_true p213
        replace q213:=eq_true q213
        go_wp2
        repeat (go_quiet (fail);try go_wp2)
        go_roundg k1
        case measure=>have:=HK1.out;omega
        case rel=>exact ⟨(wrap64 (x5_1+1)),(by first | rfl | (simp;done) | (simp [*];done)),H',⟨by have:=HK1.out;omega⟩,by repeat (first | exact jD.refl _ | apply jD.step)⟩
       ·rw [if_neg c7] at H
        have c7b0:((rd l0 x5_1) == (rd l1 x5_1))=false:=beq_eq_false_iff_ne.mpr c7
        have c7b1:((rd l0 x5_1) != (rd l1 x5_1))=true:=bne_iff_ne.mpr c7
        obtain rfl:=Option.some.inj H
        have p212:0≤(x5_1:Int):=of_decide_eq_true asm_
        have q212:x5_1<(l0.length:Int):=of_decide_eq_true asm_
        obtain ⟨ad212,e212,hx212_0⟩:=Kd.at_int HR0.out x5_1 p212 q212
        cases e212
        replace p212:=eq_true p212
        replace q212:=eq_true q212
        have p213:0≤(x5_1:Int):=of_decide_eq_true asm_
        have q213:x5_1<(l1.length:Int):=of_decide_eq_true asm_
        obtain ⟨ad213,e213,hx213_0⟩:=Kd.at_int HR1.out x5_1 p213 q213
        cases e213
        replace p213:=eq_true p213
        replace q213:=eq_true q213
        go_wp2
        repeat (go_quiet (fail);try go_wp2)
        go_ret
        exact ⟨by first | rfl | (simp;done) | (simp [*];done),by repeat (first | exact jD.refl _ | apply jD.step)⟩
      ·rw [if_neg c6] at H
       exact absurd H (by simp)
     ·rw [if_neg c5] at H
      exact absurd H (by simp)
    ·rw [if_neg c4] at H
     have c4b0:decide (x5_1<(l0.length:Int))=false:=decide_eq_false c4
     clear c4
     obtain rfl:=Option.some.inj H
     go_wp2
     repeat (go_quiet (fail);try go_wp2)
     go_ret
     exact ⟨by first | rfl | (simp;done) | (simp [*];done),by repeat (first | exact jD.refl _ | apply jD.step)⟩
 ·rw [if_neg c3] at H
  have c3b0:((l0.length:Int) == (l1.length:Int))=false:=beq_eq_false_iff_ne.mpr c3
  have c3b1:((l0.length:Int) != (l1.length:Int))=true:=bne_iff_ne.mpr c3
  have c3b2:(l0.length == l1.length)=false:=by first | simpa using c3 | (simp at c3 ⊢;omega)
  obtain rfl:=Option.some.inj H
  go_enter Tryz.func55,Tryz.ntmps55
  go_wp2
  repeat (go_quiet (fail);try go_wp2)
  go_ret
  exact ⟨by first | rfl | (simp;done) | (simp [*];done),by repeat (first | exact jD.refl _ | apply jD.step)⟩
end
section
attribute [local go_sem] kL kH kZ lC
def stratumref07_SameFacts.f (k:Nat) (l0:List (S149)) (l1:List (S149)):Option (Bool):=(stratumref07_Facts.f k ([]:List Int) l0).bind fun t214=>((stratumref07_Facts.f k ([]:List Int) l1).bind fun t217=>(some ((strOfNums t214).toList == (strOfNums t217).toList)))
def stratumref07_SameFacts.T1:Bool × List (List Nat × List Nat):=(true,[([],[]),([0],[0]),([1],[1]),([],[]),([3,1],[3]),([4],[4]),([2,5],[2,5]),([6,4,0,1,2,3,4,5,6],[6])])
def stratumref07_SameFacts.B1:List Nat:=[0,1,3,0,11,27,63,127]
theorem stratumref07_SameFacts.tab1:rtab .any (opsOf Tryz.f56 1)=stratumref07_SameFacts.T1:=by kernel_rfl
theorem stratumref07_SameFacts.bits1:nT stratumref07_SameFacts.T1.2 stratumref07_SameFacts.B1=true:=by kernel_rfl
set_option maxHeartbeats 8000000 in
set_option maxRecDepth 100000 in
theorem stratumref07_SameFacts.calls (k:Nat) (A0:Option Addr) (c0:Nat) (l0:List (S149)) (A1:Option Addr) (c1:Nat) (l1:List (S149)) (r:Bool) (w:World) (hr0:Kd.C k149 w A0 l0.length l0) (hc0:l0.length≤c0) (hr1:Kd.C k149 w A1 l1.length l1) (hc1:l1.length≤c1) (h:stratumref07_SameFacts.f k l0 l1=some r) :
  Calls Tryz.prog 56 #[.slice A0 l0.length c0,.slice A1 l1.length c1] w fun e w'=>e=.returned (.bool r)∧Below w.heap.size w w':=by
 have HR0:=iC.mk hr0
 have HC0:=iC.mk hc0
 clear hr0 hc0
 have HR1:=iC.mk hr1
 have HC1:=iC.mk hc1
 clear hr1 hc1
 have HB:=iC.mk (Below.refl w.heap.size w)
 have H:((stratumref07_Facts.f k ([]:List Int) l0).bind fun t214=>((stratumref07_Facts.f k ([]:List Int) l1).bind fun t217=>(some ((strOfNums t214).toList == (strOfNums t217).toList))))=some r:=h
 clear h
 replace H:=Option.bind_eq_some_iff.mp H
 obtain ⟨t214,A30,H⟩:=H
 replace H:((stratumref07_Facts.f k ([]:List Int) l1).bind fun t217=>(some ((strOfNums t214).toList == (strOfNums t217).toList)))=some r:=H
 have A3:=iC.mk A30
 clear A30
 replace H:=Option.bind_eq_some_iff.mp H
 obtain ⟨t217,A40,H⟩:=H
 replace H:(some ((strOfNums t214).toList == (strOfNums t217).toList))=some r:=H
 have A4:=iC.mk A40
 clear A40
 obtain rfl:=Option.some.inj H
 go_enter Tryz.func56,Tryz.ntmps56
 try go_wp2
 have n0_:=iC.mk (iQ HB.out)
 clear HB
 have HB:=n0_
 clear n0_
 refine qJ (n:=8) (S:=fun w'=>True) (ds:=[]) #[false,false,false,false,false,false,false,false] (by kernel_rfl) rfl rfl trivial (fun hHeld=>?_);refine mM stratumref07_SameFacts.tab1 stratumref07_SameFacts.bits1 (fun HT_ HW_=>?_)
 generalize w.drew=w5 at HB hHeld ⊢
 refine jK (i:=0) (N:=some 5) (v:=?_) (a':=?_) #[true,false,false,false,false,false,false,false] rfl rfl (iZ HT_.out (by kernel_rfl)) (fun _ _ _ h=>h) (Or.inl ⟨by rfl,?_⟩) ?_ ?_
 rotate_left
 ·intro w'
  go_simp
  with_reducible rfl
 rotate_left
 ·simp only [Act.put,sb_,sz_,ss_,iO,jA]
  rfl
 refine jK (i:=3) (N:=some 8) (v:=?_) (a':=?_) #[true,false,false,true,false,false,false,false] rfl rfl (iZ HT_.out (by kernel_rfl)) (fun _ _ _ h=>h) (Or.inl ⟨by rfl,?_⟩) ?_ ?_
 rotate_left
 ·intro w'
  go_simp
  with_reducible rfl
 rotate_left
 ·simp only [Act.put,sb_,sz_,ss_,iO,jA]
  rfl
 refine one_ (i:=1) (N:=some 6) #[true,true,false,true,false,false,false,false] rfl rfl (kY HT_.out (by kernel_rfl)) (by decide) (fun K hK=>?_)
 refine oD Tryz.func74 (by kernel_rfl) rfl #[.slice none 0 0,.slice A0 l0.length c0] (by rfl) rfl rfl (by (try simp only [List.map_toArray,List.map_cons,List.map_nil]);first | done | rfl | (simp only [List.length_drop,List.length_take];rfl)) ?_
 refine (stratumref07_Facts.calls k (fun k_=>some k_=(.slice none 0 0:Value).ownBlock) (.slice none 0 0) ([]:List Int) _ _ l0 t214 w _ ?side1 ?side2 ?side3 ?side4 A3.out).mono ?_
 (case side1=>repeat (first | (with_reducible first | exact HB.out | apply iD | apply iF | apply iQ) | exact HB.out))
 (case side2=>exact Kd.R_nil _ _ _ _ _)
 (case side3=>exact Kd.C_kept_came uJ HR0.out hb_ (fun k_ hs_=>(fun e_=>by simp [Value.ownBlock] at e_) hs_))
 (case side4=>exact HC0.out)
 rintro e w6 ⟨v215,rfl,ho0,hb,hkp⟩
 refine ⟨_,rfl,?_⟩
 have n0_:=iC.mk (Kd.R_mono (ok':=fun k_=>True) ho0 (fun k_ hk_=>trivial))
 have n1_:=iC.mk (hb)
 clear HB
 have HO216:=n0_
 have HB:=n1_
 clear n0_ n1_
 (try clear hb)
 (try clear hkp)
 (try clear ho0)
 refine hK.out _ _ trivial (fun hHeld=>?_)
 clear hK K
 refine lL (a':=?_) ?_ ?_
 rotate_left
 ·show Act.put _ (some 6) _=_
  simp only [Act.put,sb_,sz_,ss_,iO,jA]
  rfl
 refine jm9 (σ:=Value) 2 #[true,true,true,true,true,true,false,false] (fun s_=>[(7,.string (strOfNums t214)),(9,s_),(10,.string (strOfNums t217))]) (fun s_ w'=>(Kd.R (Kd.int .u8) 5 w' w.heap.size (fun k_=>some k_≠(s_:Value).ownBlock) v215 t214)∧(Kd.R (Kd.int .u8) 5 w' w.heap.size (fun k_=>some k_≠(v215:Value).ownBlock) s_ t217)∧(Below w.heap.size w w')) ?_ ?_
 rotate_left
 ·intro hCont
  refine two_ (i:=2) (j:=4) (Ni:=some 7) (Nj:=some 9) #[true,true,true,true,false,false,false,false] #[true,true,false,true,true,false,false,false] rfl rfl rfl rfl (RN HT_.out (by kernel_rfl)) (by decide) (by decide) (fun K hK=>?_) (fun K hK=>?_)
  ·skip
   have hcv7:=lT (P:=Tryz.prog) Tryz.underlying22 Tryz.underlying5 Tryz.underlying9 (Kd.own_of_R HO216.out)
   refine jC (w1:=?_) (v:=?_) (by rfl) rfl ?_ ?_
   rotate_left 2
   ·go_simp
    constructor
    ·rfl
    ·rfl
   clear hcv7
   refine hK.out _ _ trivial (fun hHeld=>?_)
   clear hK K
   refine lL (a':=?_) ?_ ?_
   rotate_left
   ·show Act.put _ (some 7) _=_
    simp only [Act.put,sb_,sz_,ss_,iO,jA]
    rfl
   refine one_ (i:=4) (N:=some 9) #[true,true,true,true,true,false,false,false] rfl rfl (kY HT_.out (by kernel_rfl)) (by decide) (fun K hK=>?_)
   refine oD Tryz.func74 (by kernel_rfl) rfl #[.slice none 0 0,.slice A1 l1.length c1] (by rfl) rfl rfl (by (try simp only [List.map_toArray,List.map_cons,List.map_nil]);first | done | rfl | (simp only [List.length_drop,List.length_take];rfl)) ?_
   refine (stratumref07_Facts.calls k (fun k_=>some k_=(.slice none 0 0:Value).ownBlock) (.slice none 0 0) ([]:List Int) _ _ l1 t217 w _ ?side1 ?side2 ?side3 ?side4 A4.out).mono ?_
   (case side1=>repeat (first | (with_reducible first | exact HB.out | apply iD | apply iF | apply iQ) | exact HB.out))
   (case side2=>exact Kd.R_nil _ _ _ _ _)
   (case side3=>exact Kd.C_kept_came uJ HR1.out hb_ (fun k_ hs_=>(fun e_=>by simp [Value.ownBlock] at e_) hs_))
   (case side4=>exact HC1.out)
   rintro e w8 ⟨v218,rfl,ho0,hb,hkp⟩
   refine ⟨_,rfl,?_⟩
   have n0_:=iC.mk (Kd.R_mono (ok':=fun k_=>some k_≠(v218:Value).ownBlock) (Kd.R_keptB (HO216.out) hkp (fun k_ hk_ hs_=>(fun e_=>by simp [Value.ownBlock] at e_) hs_)) (fun k_ hk_=>fun e_=>Or.elim (ho0.1 k_ e_.symm) (fun hs_=>hk_.2.1 hs_) (fun hn_=>Nat.not_le.2 hk_.2.2 hn_)))
   have n1_:=iC.mk (Kd.R_mono (ok':=fun k_=>some k_≠(v215:Value).ownBlock) ho0 (fun k_ hk_=>Or.elim hk_ (fun hs_=>absurd hs_ (by simp [Value.ownBlock])) (fun hn_=>(Kd.fresh' (Kd.R_lt (by (with_reducible repeat (first | apply Kd.R_alloc | apply Kd.R_drewN | apply Kd.R_drew));exact HO216.out)) k_ hn_))))
   have n2_:=iC.mk (hb)
   clear HO216
   clear HB
   have HO216:=n0_
   have HO219:=n1_
   have HB:=n2_
   clear n0_ n1_ n2_
   (try clear hb)
   (try clear hkp)
   (try clear ho0)
   refine hK.out _ _ trivial (fun hHeld=>?_)
   clear hK K
   refine lL (a':=?_) ?_ ?_
   rotate_left
   ·show Act.put _ (some 9) _=_
    simp only [Act.put,sb_,sz_,ss_,iO,jA]
    rfl
   refine one_ (i:=5) (N:=some 10) #[true,true,true,true,true,true,false,false] rfl rfl (kY HT_.out (by kernel_rfl)) (by decide) (fun K hK=>?_)
   have hcv9:=lT (P:=Tryz.prog) Tryz.underlying22 Tryz.underlying5 Tryz.underlying9 (Kd.own_of_R HO219.out)
   refine jC (w1:=?_) (v:=?_) (by rfl) rfl ?_ ?_
   rotate_left 2
   ·go_simp
    constructor
    ·rfl
    ·rfl
   clear hcv9
   refine hK.out _ _ trivial (fun hHeld=>?_)
   clear hK K
   refine lL (a':=?_) ?_ ?_
   rotate_left
   ·show Act.put _ (some 10) _=_
    simp only [Act.put,sb_,sz_,ss_,iO,jA]
    rfl
   exact lL (by simp only [uC,Act.put,sb_,sz_,ss_]) (hCont (v218) _ ⟨(by (with_reducible repeat (first | apply Kd.R_alloc | apply Kd.R_drewN | apply Kd.R_drew));exact HO216.out),(by (with_reducible repeat (first | apply Kd.R_alloc | apply Kd.R_drewN | apply Kd.R_drew));exact HO219.out),hb_⟩)
  ·skip
   refine oD Tryz.func74 (by kernel_rfl) rfl #[.slice none 0 0,.slice A1 l1.length c1] (by rfl) rfl rfl (by (try simp only [List.map_toArray,List.map_cons,List.map_nil]);first | done | rfl | (simp only [List.length_drop,List.length_take];rfl)) ?_
   refine (stratumref07_Facts.calls k (fun k_=>some k_=(.slice none 0 0:Value).ownBlock) (.slice none 0 0) ([]:List Int) _ _ l1 t217 w _ ?side1 ?side2 ?side3 ?side4 A4.out).mono ?_
   (case side1=>repeat (first | (with_reducible first | exact HB.out | apply iD | apply iF | apply iQ) | exact HB.out))
   (case side2=>exact Kd.R_nil _ _ _ _ _)
   (case side3=>exact Kd.C_kept_came uJ HR1.out hb_ (fun k_ hs_=>(fun e_=>by simp [Value.ownBlock] at e_) hs_))
   (case side4=>exact HC1.out)
   rintro e w7 ⟨v218,rfl,ho0,hb,hkp⟩
   refine ⟨_,rfl,?_⟩
   have n0_:=iC.mk (Kd.R_mono (ok':=fun k_=>some k_≠(v218:Value).ownBlock) (Kd.R_keptB (HO216.out) hkp (fun k_ hk_ hs_=>(fun e_=>by simp [Value.ownBlock] at e_) hs_)) (fun k_ hk_=>fun e_=>Or.elim (ho0.1 k_ e_.symm) (fun hs_=>hk_.2.1 hs_) (fun hn_=>Nat.not_le.2 hk_.2.2 hn_)))
   have n1_:=iC.mk (Kd.R_mono (ok':=fun k_=>some k_≠(v215:Value).ownBlock) ho0 (fun k_ hk_=>Or.elim hk_ (fun hs_=>absurd hs_ (by simp [Value.ownBlock])) (fun hn_=>(Kd.fresh' (Kd.R_lt (by (with_reducible repeat (first | apply Kd.R_alloc | apply Kd.R_drewN | apply Kd.R_drew));exact HO216.out)) k_ hn_))))
   have n2_:=iC.mk (hb)
   clear HO216
   clear HB
   have HO216:=n0_
   have HO219:=n1_
   have HB:=n2_
   clear n0_ n1_ n2_
   (try clear hb)
   (try clear hkp)
   (try clear ho0)
   refine hK.out _ _ trivial (fun hHeld=>?_)
   clear hK K
   refine lL (a':=?_) ?_ ?_
   rotate_left
   ·show Act.put _ (some 9) _=_
    simp only [Act.put,sb_,sz_,ss_,iO,jA]
    rfl
   refine two_ (i:=2) (j:=5) (Ni:=some 7) (Nj:=some 10) #[true,true,true,true,true,false,false,false] #[true,true,false,true,true,true,false,false] rfl rfl rfl rfl (RN HT_.out (by kernel_rfl)) (by decide) (by decide) (fun K hK=>?_) (fun K hK=>?_)
   ·skip
    have hcv8:=lT (P:=Tryz.prog) Tryz.underlying22 Tryz.underlying5 Tryz.underlying9 (Kd.own_of_R HO216.out)
    refine jC (w1:=?_) (v:=?_) (by rfl) rfl ?_ ?_
    rotate_left 2
    ·go_simp
     constructor
     ·rfl
     ·rfl
    clear hcv8
    refine hK.out _ _ trivial (fun hHeld=>?_)
    clear hK K
    refine lL (a':=?_) ?_ ?_
    rotate_left
    ·show Act.put _ (some 7) _=_
     simp only [Act.put,sb_,sz_,ss_,iO,jA]
     rfl
    refine one_ (i:=5) (N:=some 10) #[true,true,true,true,true,true,false,false] rfl rfl (kY HT_.out (by kernel_rfl)) (by decide) (fun K hK=>?_)
    have hcv9:=lT (P:=Tryz.prog) Tryz.underlying22 Tryz.underlying5 Tryz.underlying9 (Kd.own_of_R HO219.out)
    refine jC (w1:=?_) (v:=?_) (by rfl) rfl ?_ ?_
    rotate_left 2
    ·go_simp
     constructor
     ·rfl
     ·rfl
    clear hcv9
    refine hK.out _ _ trivial (fun hHeld=>?_)
    clear hK K
    refine lL (a':=?_) ?_ ?_
    rotate_left
    ·show Act.put _ (some 10) _=_
     simp only [Act.put,sb_,sz_,ss_,iO,jA]
     rfl
    exact lL (by simp only [uC,Act.put,sb_,sz_,ss_]) (hCont (v218) _ ⟨(by (with_reducible repeat (first | apply Kd.R_alloc | apply Kd.R_drewN | apply Kd.R_drew));exact HO216.out),(by (with_reducible repeat (first | apply Kd.R_alloc | apply Kd.R_drewN | apply Kd.R_drew));exact HO219.out),hb_⟩)
   ·skip
    have hcv8:=lT (P:=Tryz.prog) Tryz.underlying22 Tryz.underlying5 Tryz.underlying9 (Kd.own_of_R HO219.out)
    refine jC (w1:=?_) (v:=?_) (by rfl) rfl ?_ ?_
    rotate_left 2
    ·go_simp
     constructor
     ·rfl
     ·rfl
    clear hcv8
    refine hK.out _ _ trivial (fun hHeld=>?_)
    clear hK K
    refine lL (a':=?_) ?_ ?_
    rotate_left
    ·show Act.put _ (some 10) _=_
     simp only [Act.put,sb_,sz_,ss_,iO,jA]
     rfl
    refine one_ (i:=2) (N:=some 7) #[true,true,true,true,true,true,false,false] rfl rfl (kY HT_.out (by kernel_rfl)) (by decide) (fun K hK=>?_)
    have hcv9:=lT (P:=Tryz.prog) Tryz.underlying22 Tryz.underlying5 Tryz.underlying9 (Kd.own_of_R HO216.out)
    refine jC (w1:=?_) (v:=?_) (by rfl) rfl ?_ ?_
    rotate_left 2
    ·go_simp
     constructor
     ·rfl
     ·rfl
    clear hcv9
    refine hK.out _ _ trivial (fun hHeld=>?_)
    clear hK K
    refine lL (a':=?_) ?_ ?_
    rotate_left
    ·show Act.put _ (some 7) _=_
     simp only [Act.put,sb_,sz_,ss_,iO,jA]
     rfl
    exact lL (by simp only [uC,Act.put,sb_,sz_,ss_]) (hCont (v218) _ ⟨(by (with_reducible repeat (first | apply Kd.R_alloc | apply Kd.R_drewN | apply Kd.R_drew));exact HO216.out),(by (with_reducible repeat (first | apply Kd.R_alloc | apply Kd.R_drewN | apply Kd.R_drew));exact HO219.out),hb_⟩)
 rintro v218 w10 ⟨h0_,h1_,h2_⟩
 have n0_:iC (Kd.R (Kd.int .u8) 5 w10 w.heap.size (fun k_=>some k_≠(v218:Value).ownBlock) v215 t214):=⟨h0_⟩
 have n1_:iC (Kd.R (Kd.int .u8) 5 w10 w.heap.size (fun k_=>some k_≠(v215:Value).ownBlock) v218 t217):=⟨h1_⟩
 have n2_:iC (Below w.heap.size w w10):=⟨h2_⟩
 clear HB
 clear h0_ h1_ h2_
 have HO216:=n0_
 have HO219:=n1_
 have HB:=n2_
 clear n0_ n1_ n2_
 have hHeld:=trivial
 refine lL (a':=?_) ?_ ?_
 rotate_left
 ·simp only [uC,Act.put,sb_,sz_,ss_]
  rfl
 refine jK (i:=6) (N:=some 11) (v:=?_) (a':=?_) #[true,true,true,true,true,true,true,false] rfl rfl (iZ HT_.out (by kernel_rfl)) (fun _ _ _ h=>h) (Or.inl ⟨by rfl,?_⟩) ?_ ?_
 rotate_left
 ·intro w'
  go_simp
  with_reducible rfl
 rotate_left
 ·simp only [Act.put,sb_,sz_,ss_,iO,jA]
  rfl
 refine jK (i:=7) (N:=some 4) (v:=?_) (a':=?_) #[true,true,true,true,true,true,true,true] rfl rfl (iZ HT_.out (by kernel_rfl)) (fun _ _ _ h=>h) (Or.inl ⟨by rfl,?_⟩) ?_ ?_
 rotate_left
 ·intro w'
  go_simp
  with_reducible rfl
 rotate_left
 ·simp only [Act.put,sb_,sz_,ss_,iO,jA]
  rfl
 refine zI (pM HT_.out (by kernel_rfl)) ?_
 try go_wp2
 go_ret
 exact ⟨by first | rfl | (simp [jF,jG] <;> rfl) | (simp [*,jF,jG] <;> rfl),hb_⟩
end
section
attribute [local go_sem] kL kH kZ lC
theorem jo4 (d:Nat) (w:World) (x0 y0:Int) (x1 y1:Int) :
  (Op.equalIn (d+2) 122 (.agg #[.int .i64 x0,.int .i64 x1]) (.agg #[.int .i64 y0,.int .i64 y1])).run Tryz.prog w=.ok (x0 == y0 && (x1 == y1)) w:=by
 refine jn0 Tryz.underlying122 (by kernel_rfl) ?_
 refine jc3 (by rfl) (by go_simp;rfl) (by go_simp;rfl) (by go_simp) ?_
 exact jc4 (by rfl) (by go_simp;rfl) (by go_simp;rfl) (by go_simp)
end
end Go.Proofs.YtgfkgppomaapiaaGreatDoor.K
section
namespace Go.Proofs.YtgfkgppomaapiaaGreatDoor.K
open Go.RowKit Go.Proofs.YtgfkgppomaapiaaGreatDoorW.PrintWords Go.Proofs.YtgfkgppomaapiaaGreatDoorW.PrintLast Go.Proofs.YtgfkgppomaapiaaGreatDoorW.PrintMore
attribute [local go_sem] kL kH kZ lC
attribute [local go_sem high] jo4
mutual
def stratumref07_SameMap.j0:Nat→Bool→Int→List (S122)→Int→List (S122)→Option (Bool)
 | 0,_,_,_,_,_=>none
 | k+1,x19,x221000,x221001,x222000,x222001=>if x19=true then (some false) else (stratumref07_SameMap.l0 k 0 x221000 x221001 x222000 x222001)
def stratumref07_SameMap.l0:Nat→Int→Int→List (S122)→Int→List (S122)→Option (Bool)
 | 0,_,_,_,_,_=>none
 | k+1,x5,x221000,x221001,x222000,x222001=>if x5<(x221001.length:Int) then (if 0≤x5 then (if x5<(x222001.length:Int) then (if (!(((jO x221001 x5).f0) == ((jO x222001 x5).f0)) || (!(((jO x221001 x5).f1) == ((jO x222001 x5).f1))))=true then (some false) else (stratumref07_SameMap.l0 k (wrap64 (x5+1)) x221000 x221001 x222000 x222001)) else (none)) else (none)) else (some true)
end
def stratumref07_SameMap.f (k:Nat) (a0_0:Int) (l0_1:List (S122)) (a1_0:Int) (l1_1:List (S122)):Option (Bool):=if a0_0=a1_0 then (stratumref07_SameMap.j0 k ((l0_1.length:Int) != (l1_1.length:Int)) a0_0 l0_1 a1_0 l1_1) else (stratumref07_SameMap.j0 k true a0_0 l0_1 a1_0 l1_1)
set_option maxHeartbeats 8000000 in
set_option maxRecDepth 100000 in
theorem stratumref07_SameMap.calls (k:Nat) (a0_0:Int) (A0_1:Option Addr) (c0_1:Nat) (l0_1:List (S122)) (a1_0:Int) (A1_1:Option Addr) (c1_1:Nat) (l1_1:List (S122)) (r:Bool) (w:World) (hr0_1:Kd.C k122 w A0_1 l0_1.length l0_1) (hc0_1:l0_1.length≤c0_1) (hr1_1:Kd.C k122 w A1_1 l1_1.length l1_1) (hc1_1:l1_1.length≤c1_1) (h:stratumref07_SameMap.f k a0_0 l0_1 a1_0 l1_1=some r) :
  Calls Tryz.prog 57 #[.agg #[.int .u32 a0_0,.slice A0_1 l0_1.length c0_1],.agg #[.int .u32 a1_0,.slice A1_1 l1_1.length c1_1]] w fun e w'=>e=.returned (.bool r)∧Below w.heap.size w w':=by
 have hu51:=Tryz.underlying51
 have hu122:=Tryz.underlying122
 have HR0_1:=iC.mk hr0_1
 have HC0_1:=iC.mk hc0_1
 clear hr0_1 hc0_1
 have HR1_1:=iC.mk hr1_1
 have HC1_1:=iC.mk hc1_1
 clear hr1_1 hc1_1
 have HB:=iC.mk (Below.refl w.heap.size w)
 have H:(if a0_0=a1_0 then (stratumref07_SameMap.j0 k ((l0_1.length:Int) != (l1_1.length:Int)) a0_0 l0_1 a1_0 l1_1) else (stratumref07_SameMap.j0 k true a0_0 l0_1 a1_0 l1_1))=some r:=h
 clear h
 have HC3:=iC.mk H
 clear H
 go_enter Tryz.func57,Tryz.ntmps57
 go_upto_region 1 with (first | ((with_reducible refine kJ (N:=2) rfl ?_);(try (refine kM (by rfl) ?_;dsimp only));refine jW ?hg (N:=2) ?hd (cs:=#[.int .u32 a0_0,.slice A0_1 l0_1.length c0_1]) (t:=51) ?hr ?_;(case hd=>rfl);(case hg=>rfl);(case hr=>first | (go_simp;done) | (go_simp;rfl));intro gb220 hg w4 hbox hb;have n0_:=iC.mk (iH hb_ hb);have n1_:=iC.mk (hbox);have n2_:=iC.mk ((by rw [hg];exact (iT hb_):w.heap.size≤gb220));have n3_:=iC.mk ((by rw [hg];exact (iT hb_):w.heap.size≤gb220));clear HB;have HB:=n0_;have BK220:=n1_;have GW220:=n2_;have GE220:=n3_;clear n0_ n1_ n2_ n3_;clear hb hbox hg) | ((with_reducible refine kJ (N:=3) rfl ?_);(try (refine kM (by rfl) ?_;dsimp only));refine jW ?hg (N:=3) ?hd (cs:=#[.int .u32 a1_0,.slice A1_1 l1_1.length c1_1]) (t:=51) ?hr ?_;(case hd=>rfl);(case hg=>rfl);(case hr=>first | (go_simp;done) | (go_simp;rfl));intro gb221 hg w5 hbox hb;have n0_:=iC.mk (qB (g:=gb220) (o:=.cells #[.int .u32 a0_0,.slice A0_1 l0_1.length c0_1] 51 (0,0)) (bk_ BK220.out) hb);have n1_:=iC.mk (iH (by repeat (first | (with_reducible first | exact HB.out | apply iD | apply iF | apply iQ | refine iL ?_ GE220.out) | exact HB.out)) hb);have n2_:=iC.mk (hbox);have n3_:=iC.mk ((by rw [hg];exact (iT (by repeat (first | (with_reducible first | exact HB.out | apply iD | apply iF | apply iQ | refine iL ?_ GE220.out) | exact HB.out))):w.heap.size≤gb221));have n4_:=iC.mk ((by rw [hg];exact (iT (by repeat (first | (with_reducible first | exact HB.out | apply iD | apply iF | apply iQ | refine iL ?_ GE220.out) | exact HB.out))):w.heap.size≤gb221));have n5_:=iC.mk ((by rw [hg];exact Nat.ne_of_lt (jH (g:=gb220) (o:=.cells #[.int .u32 a0_0,.slice A0_1 l0_1.length c0_1] 51 (0,0)) (bk_ BK220.out)):gb220≠gb221));have n6_:=iC.mk ((by rw [hg];exact Nat.ne_of_gt (jH (g:=gb220) (o:=.cells #[.int .u32 a0_0,.slice A0_1 l0_1.length c0_1] 51 (0,0)) (bk_ BK220.out)):gb221≠gb220));clear BK220;clear HB;have BK220:=n0_;have HB:=n1_;have BK221:=n2_;have GW221:=n3_;have GE221:=n4_;have NB220_221:=n5_;have NB221_220:=n6_;clear n0_ n1_ n2_ n3_ n4_ n5_ n6_;clear hb hbox hg))
 repeat (go_quiet (first | ((with_reducible refine kJ (N:=2) rfl ?_);(try (refine kM (by rfl) ?_;dsimp only));refine jW ?hg (N:=2) ?hd (cs:=#[.int .u32 a0_0,.slice A0_1 l0_1.length c0_1]) (t:=51) ?hr ?_;(case hd=>rfl);(case hg=>rfl);(case hr=>first | (go_simp;done) | (go_simp;rfl));intro gb220 hg w4 hbox hb;have n0_:=iC.mk (iH hb_ hb);have n1_:=iC.mk (hbox);have n2_:=iC.mk ((by rw [hg];exact (iT hb_):w.heap.size≤gb220));have n3_:=iC.mk ((by rw [hg];exact (iT hb_):w.heap.size≤gb220));clear HB;have HB:=n0_;have BK220:=n1_;have GW220:=n2_;have GE220:=n3_;clear n0_ n1_ n2_ n3_;clear hb hbox hg) | ((with_reducible refine kJ (N:=3) rfl ?_);(try (refine kM (by rfl) ?_;dsimp only));refine jW ?hg (N:=3) ?hd (cs:=#[.int .u32 a1_0,.slice A1_1 l1_1.length c1_1]) (t:=51) ?hr ?_;(case hd=>rfl);(case hg=>rfl);(case hr=>first | (go_simp;done) | (go_simp;rfl));intro gb221 hg w5 hbox hb;have n0_:=iC.mk (qB (g:=gb220) (o:=.cells #[.int .u32 a0_0,.slice A0_1 l0_1.length c0_1] 51 (0,0)) (bk_ BK220.out) hb);have n1_:=iC.mk (iH (by repeat (first | (with_reducible first | exact HB.out | apply iD | apply iF | apply iQ | refine iL ?_ GE220.out) | exact HB.out)) hb);have n2_:=iC.mk (hbox);have n3_:=iC.mk ((by rw [hg];exact (iT (by repeat (first | (with_reducible first | exact HB.out | apply iD | apply iF | apply iQ | refine iL ?_ GE220.out) | exact HB.out))):w.heap.size≤gb221));have n4_:=iC.mk ((by rw [hg];exact (iT (by repeat (first | (with_reducible first | exact HB.out | apply iD | apply iF | apply iQ | refine iL ?_ GE220.out) | exact HB.out))):w.heap.size≤gb221));have n5_:=iC.mk ((by rw [hg];exact Nat.ne_of_lt (jH (g:=gb220) (o:=.cells #[.int .u32 a0_0,.slice A0_1 l0_1.length c0_1] 51 (0,0)) (bk_ BK220.out)):gb220≠gb221));have n6_:=iC.mk ((by rw [hg];exact Nat.ne_of_gt (jH (g:=gb220) (o:=.cells #[.int .u32 a0_0,.slice A0_1 l0_1.length c0_1] 51 (0,0)) (bk_ BK220.out)):gb221≠gb220));clear BK220;clear HB;have BK220:=n0_;have HB:=n1_;have BK221:=n2_;have GW221:=n3_;have GE221:=n4_;have NB220_221:=n5_;have NB221_220:=n6_;clear n0_ n1_ n2_ n3_ n4_ n5_ n6_;clear hb hbox hg));go_upto_region 1 with (first | ((with_reducible refine kJ (N:=2) rfl ?_);(try (refine kM (by rfl) ?_;dsimp only));refine jW ?hg (N:=2) ?hd (cs:=#[.int .u32 a0_0,.slice A0_1 l0_1.length c0_1]) (t:=51) ?hr ?_;(case hd=>rfl);(case hg=>rfl);(case hr=>first | (go_simp;done) | (go_simp;rfl));intro gb220 hg w4 hbox hb;have n0_:=iC.mk (iH hb_ hb);have n1_:=iC.mk (hbox);have n2_:=iC.mk ((by rw [hg];exact (iT hb_):w.heap.size≤gb220));have n3_:=iC.mk ((by rw [hg];exact (iT hb_):w.heap.size≤gb220));clear HB;have HB:=n0_;have BK220:=n1_;have GW220:=n2_;have GE220:=n3_;clear n0_ n1_ n2_ n3_;clear hb hbox hg) | ((with_reducible refine kJ (N:=3) rfl ?_);(try (refine kM (by rfl) ?_;dsimp only));refine jW ?hg (N:=3) ?hd (cs:=#[.int .u32 a1_0,.slice A1_1 l1_1.length c1_1]) (t:=51) ?hr ?_;(case hd=>rfl);(case hg=>rfl);(case hr=>first | (go_simp;done) | (go_simp;rfl));intro gb221 hg w5 hbox hb;have n0_:=iC.mk (qB (g:=gb220) (o:=.cells #[.int .u32 a0_0,.slice A0_1 l0_1.length c0_1] 51 (0,0)) (bk_ BK220.out) hb);have n1_:=iC.mk (iH (by repeat (first | (with_reducible first | exact HB.out | apply iD | apply iF | apply iQ | refine iL ?_ GE220.out) | exact HB.out)) hb);have n2_:=iC.mk (hbox);have n3_:=iC.mk ((by rw [hg];exact (iT (by repeat (first | (with_reducible first | exact HB.out | apply iD | apply iF | apply iQ | refine iL ?_ GE220.out) | exact HB.out))):w.heap.size≤gb221));have n4_:=iC.mk ((by rw [hg];exact (iT (by repeat (first | (with_reducible first | exact HB.out | apply iD | apply iF | apply iQ | refine iL ?_ GE220.out) | exact HB.out))):w.heap.size≤gb221));have n5_:=iC.mk ((by rw [hg];exact Nat.ne_of_lt (jH (g:=gb220) (o:=.cells #[.int .u32 a0_0,.slice A0_1 l0_1.length c0_1] 51 (0,0)) (bk_ BK220.out)):gb220≠gb221));have n6_:=iC.mk ((by rw [hg];exact Nat.ne_of_gt (jH (g:=gb220) (o:=.cells #[.int .u32 a0_0,.slice A0_1 l0_1.length c0_1] 51 (0,0)) (bk_ BK220.out)):gb221≠gb220));clear BK220;clear HB;have BK220:=n0_;have HB:=n1_;have BK221:=n2_;have GW221:=n3_;have GE221:=n4_;have NB220_221:=n5_;have NB221_220:=n6_;clear n0_ n1_ n2_ n3_ n4_ n5_ n6_;clear hb hbox hg)))
 (try simp only [Act.put,sb_,sz_,ss_])
 go_cut [19] (fun v19 wc=>∃ (kq:Nat) (x19_2:Bool),v19=.bool x19_2∧iC (stratumref07_SameMap.j0 kq x19_2 a0_0 l0_1 a1_0 l1_1=some r)∧iC (kq≤k)∧iC (wc.heap[gb220]? = some (.cells #[.int .u32 a0_0,(.slice A0_1 l0_1.length c0_1)] 51 (0,0)))∧iC (wc.heap[gb221]? = some (.cells #[.int .u32 a1_0,(.slice A1_1 l1_1.length c1_1)] 51 (0,0)))∧iC (Below w.heap.size w wc))
 case first =>
  have H:=HC3.out
  clear HC3
  by_cases c6:a0_0=a1_0
  ·rw [if_pos c6] at H
   have c6b0:(a0_0 == a1_0)=true:=beq_iff_eq.mpr c6
   have c6b1:(a0_0 != a1_0)=false:=bne_eq_false_iff_eq.mpr c6
   clear c6
   (first | rw [c6b0] | (simp only [iO,jA];rw [c6b0]) | skip)
   have H':=iC.mk H
   clear H
   have hnb7:=NB220_221.out
   have hnc7:=NB221_220.out
   have hcz8_0:w5.cell? ⟨gb220,0,none⟩=some (.int .u32 a0_0):=(iG BK220.out 0).trans rfl
   have hcz8_1:w5.cell? ⟨gb220,1,none⟩=some (.slice A0_1 l0_1.length c0_1):=(iG BK220.out 1).trans rfl
   have hfz8_0:=iE BK220.out 0
   have hfz8_1:=iE BK220.out 1
   have hcz9_0:w5.cell? ⟨gb221,0,none⟩=some (.int .u32 a1_0):=(iG BK221.out 0).trans rfl
   have hcz9_1:w5.cell? ⟨gb221,1,none⟩=some (.slice A1_1 l1_1.length c1_1):=(iG BK221.out 1).trans rfl
   have hfz9_0:=iE BK221.out 0
   have hfz9_1:=iE BK221.out 1
   go_wp2
   repeat (go_quiet (fail);try go_wp2)
   go_meet
   case rel=>exact ⟨_,(((l0_1.length:Int) != (l1_1.length:Int))),(by first | rfl | (simp;done) | (simp [*];done)),H',⟨by first | omega | exact Nat.le_refl _⟩,⟨bk_ BK220.out⟩,⟨bk_ BK221.out⟩,⟨by repeat (first | (with_reducible first | exact HB.out | apply iD | apply iF | apply iQ | refine iL ?_ GE220.out | refine iL ?_ GE221.out) | exact HB.out)⟩⟩
  ·rw [if_neg c6] at H
   have c6b0:(a0_0 == a1_0)=false:=beq_eq_false_iff_ne.mpr c6
   have c6b1:(a0_0 != a1_0)=true:=bne_iff_ne.mpr c6
   (first | rw [c6b0] | (simp only [iO,jA];rw [c6b0]) | skip)
   have H':=iC.mk H
   clear H
   have hnb10:=NB220_221.out
   have hnc10:=NB221_220.out
   have hcz11_0:w5.cell? ⟨gb220,0,none⟩=some (.int .u32 a0_0):=(iG BK220.out 0).trans rfl
   have hcz11_1:w5.cell? ⟨gb220,1,none⟩=some (.slice A0_1 l0_1.length c0_1):=(iG BK220.out 1).trans rfl
   have hfz11_0:=iE BK220.out 0
   have hfz11_1:=iE BK220.out 1
   have hcz12_0:w5.cell? ⟨gb221,0,none⟩=some (.int .u32 a1_0):=(iG BK221.out 0).trans rfl
   have hcz12_1:w5.cell? ⟨gb221,1,none⟩=some (.slice A1_1 l1_1.length c1_1):=(iG BK221.out 1).trans rfl
   have hfz12_0:=iE BK221.out 0
   have hfz12_1:=iE BK221.out 1
   go_wp2
   repeat (go_quiet (fail);try go_wp2)
   go_meet
   case rel=>exact ⟨_,(true),(by first | rfl | (simp;done) | (simp [*];done)),H',⟨by first | omega | exact Nat.le_refl _⟩,⟨bk_ BK220.out⟩,⟨bk_ BK221.out⟩,⟨by repeat (first | (with_reducible first | exact HB.out | apply iD | apply iF | apply iQ | refine iL ?_ GE220.out | refine iL ?_ GE221.out) | exact HB.out)⟩⟩
 case rest =>
  clear HC3
  try clear c1
  try clear p2
  try clear c5
  try clear c6
  try clear c6b0
  try clear c6b1
  try clear c7
  try clear c10
  try clear hcz11_0
  try clear hcz11_1
  try clear hcz12_0
  try clear hcz12_1
  try clear hcz8_0
  try clear hcz8_1
  try clear hcz9_0
  try clear hcz9_1
  try clear hfz11_0
  try clear hfz11_1
  try clear hfz12_0
  try clear hfz12_1
  try clear hfz8_0
  try clear hfz8_1
  try clear hfz9_0
  try clear hfz9_1
  obtain ⟨kq,x19_2,rfl,HA,HJ2,BK220,BK221,HB⟩:=hcut
  cases kq with
  | zero=>exact absurd HA.out (by simp [stratumref07_SameMap.j0])
  | succ kj2 =>
   have H:=HA.out
   clear HA
   simp only [stratumref07_SameMap.j0] at H
   by_cases c13:x19_2=true
   ·subst c13
    have H1:(some false)=some r:=by rw [if_pos rfl] at H;exact H
    clear H
    have H:=H1
    clear H1
    obtain rfl:=Option.some.inj H
    go_wp2
    repeat (go_quiet (fail);try go_wp2)
    go_ret
    exact ⟨by first | rfl | (simp [jF,jG] <;> rfl) | (simp [*,jF,jG] <;> rfl),by repeat (first | (with_reducible first | exact HB.out | apply iD | apply iF | apply iQ | refine iL ?_ GE220.out | refine iL ?_ GE221.out) | exact HB.out)⟩
   ·replace c13:=Bool.eq_false_iff.mpr c13
    subst c13
    have H1:(stratumref07_SameMap.l0 kj2 0 a0_0 l0_1 a1_0 l1_1)=some r:=by rw [if_neg (show ¬ (false=true) by decide)] at H;exact H
    clear H
    have H:=H1
    clear H1
    have H':=iC.mk H
    clear H
    go_wp2
    repeat (go_quiet (fail);try go_wp2)
    go_loopg [5] kj2 (fun kq v5 w'=>∃ (x5_2:Int),v5=.int .i64 x5_2∧iC (stratumref07_SameMap.l0 kq x5_2 a0_0 l0_1 a1_0 l1_1=some r)∧iC (kq≤kj2)∧iC (w'.heap[gb220]? = some (.cells #[.int .u32 a0_0,(.slice A0_1 l0_1.length c0_1)] 51 (0,0)))∧iC (w'.heap[gb221]? = some (.cells #[.int .u32 a1_0,(.slice A1_1 l1_1.length c1_1)] 51 (0,0)))∧iC (Below w.heap.size w w'))
    case atStart=>exact ⟨(0),(by first | rfl | (simp;done) | (simp [*];done)),H',⟨Nat.le_refl _⟩,⟨bk_ BK220.out⟩,⟨bk_ BK221.out⟩,⟨by repeat (first | (with_reducible first | exact HB.out | apply iD | apply iF | apply iQ | refine iL ?_ GE220.out | refine iL ?_ GE221.out) | exact HB.out)⟩⟩
    case round =>
     clear H'
     try clear c1
     try clear p2
     try clear c5
     try clear c6
     try clear c6b0
     try clear c6b1
     try clear c7
     try clear c10
     try clear c13
     try clear hcz11_0
     try clear hcz11_1
     try clear hcz12_0
     try clear hcz12_1
     try clear hcz8_0
     try clear hcz8_1
     try clear hcz9_0
     try clear hcz9_1
     try clear hfz11_0
     try clear hfz11_1
     try clear hfz12_0
     try clear hfz12_1
     try clear hfz8_0
     try clear hfz8_1
     try clear hfz9_0
     try clear hfz9_1
     try clear p2
     obtain ⟨x5_2,rfl,HA,HK2,BK220,BK221,HB⟩:=hrel
     cases gk with
     | zero=>exact absurd HA.out (by simp [stratumref07_SameMap.l0])
     | succ k2 =>
      have H:=HA.out
      clear HA
      simp only [stratumref07_SameMap.l0] at H
      by_cases c14:x5_2<(l0_1.length:Int)
      ·rw [if_pos c14] at H
       have c14b0:decide (x5_2<(l0_1.length:Int))=true:=decide_eq_true c14
       clear c14
       by_cases c15:0≤x5_2
       ·rw [if_pos c15] at H
        have c15b0:decide (0≤x5_2)=true:=decide_eq_true c15
        clear c15
        by_cases c16:x5_2<(l1_1.length:Int)
        ·rw [if_pos c16] at H
         have c16b0:decide (x5_2<(l1_1.length:Int))=true:=decide_eq_true c16
         clear c16
         by_cases c17:(!(((jO l0_1 x5_2).f0) == ((jO l1_1 x5_2).f0)) || (!(((jO l0_1 x5_2).f1) == ((jO l1_1 x5_2).f1))))=true
         ·rw [if_pos c17] at H
          have c17b0:(!(((jO l0_1 x5_2).f0) == ((jO l1_1 x5_2).f0)) || (!(((jO l0_1 x5_2).f1) == ((jO l1_1 x5_2).f1))))=true:=c17
          clear c17
          obtain rfl:=Option.some.inj H
          have hnb18:=NB220_221.out
          have hnc18:=NB221_220.out
          have hcz19_0:wr.cell? ⟨gb220,0,none⟩=some (.int .u32 a0_0):=(iG BK220.out 0).trans rfl
          have hcz19_1:wr.cell? ⟨gb220,1,none⟩=some (.slice A0_1 l0_1.length c0_1):=(iG BK220.out 1).trans rfl
          have hfz19_0:=iE BK220.out 0
          have hfz19_1:=iE BK220.out 1
          have p222:0≤(x5_2:Int):=of_decide_eq_true asm_
          have q222:x5_2<(l0_1.length:Int):=of_decide_eq_true asm_
          obtain ⟨ad222,e222,hx222_0,hx222_1⟩:=lQ HR0_1.out x5_2 p222 q222
          cases e222
          replace hx222_0:=(HB.out.cell (World.block_lt_of_cell? w _ hx222_0)).trans hx222_0
          replace hx222_1:=(HB.out.cell (World.block_lt_of_cell? w _ hx222_1)).trans hx222_1
          replace p222:=eq_true p222
          replace q222:=eq_true q222
          have hcz20_0:wr.cell? ⟨gb221,0,none⟩=some (.int .u32 a1_0):=(iG BK221.out 0).trans rfl
          have hcz20_1:wr.cell? ⟨gb221,1,none⟩=some (.slice A1_1 l1_1.length c1_1):=(iG BK221.out 1).trans rfl
          have hfz20_0:=iE BK221.out 0
          have hfz20_1:=iE BK221.out 1
          have p223:0≤(x5_2:Int):=of_decide_eq_true asm_
          have q223:x5_2<(l1_1.length:Int):=of_decide_eq_true asm_
          obtain ⟨ad223,e223,hx223_0,hx223_1⟩:=lQ HR1_1.out x5_2 p223 q223
          cases e223
          replace hx223_0:=(HB.out.cell (World.block_lt_of_cell? w _ hx223_0)).trans hx223_0
          replace hx223_1:=(HB.out.cell (World.block_lt_of_cell? w _ hx223_1)).trans hx223_1
          replace p223:=eq_true p223
          replace q223:=eq_true q223
          go_wp2
          repeat (go_quiet (fail);try go_wp2)
          go_ret
          exact ⟨by first | rfl | (simp [jF,jG] <;> rfl) | (simp [*,jF,jG] <;> rfl),by repeat (first | (with_reducible first | exact HB.out | apply iD | apply iF | apply iQ | refine iL ?_ GE220.out | refine iL ?_ GE221.out) | exact HB.out)⟩
         ·rw [if_neg c17] at H
          have c17b0:(!(((jO l0_1 x5_2).f0) == ((jO l1_1 x5_2).f0)) || (!(((jO l0_1 x5_2).f1) == ((jO l1_1 x5_2).f1))))=false:=by simpa using c17
          clear c17
          have H':=iC.mk H
          clear H
          have hnb21:=NB220_221.out
          have hnc21:=NB221_220.out
          have hcz22_0:wr.cell? ⟨gb220,0,none⟩=some (.int .u32 a0_0):=(iG BK220.out 0).trans rfl
          have hcz22_1:wr.cell? ⟨gb220,1,none⟩=some (.slice A0_1 l0_1.length c0_1):=(iG BK220.out 1).trans rfl
          have hfz22_0:=iE BK220.out 0
          have hfz22_1:=iE BK220.out 1
          have p222:0≤(x5_2:Int):=of_decide_eq_true asm_
          have q222:x5_2<(l0_1.length:Int):=of_decide_eq_true asm_
          obtain ⟨ad222,e222,hx222_0,hx222_1⟩:=lQ HR0_1.out x5_2 p222 q222
          cases e222
          replace hx222_0:=(HB.out.cell (World.block_lt_of_cell? w _ hx222_0)).trans hx222_0
          replace hx222_1:=(HB.out.cell (World.block_lt_of_cell? w _ hx222_1)).trans hx222_1
          replace p222:=eq_true p222
          replace q222:=eq_true q222
          have hcz23_0:wr.cell? ⟨gb221,0,none⟩=some (.int .u32 a1_0):=(iG BK221.out 0).trans rfl
          have hcz23_1:wr.cell? ⟨gb221,1,none⟩=some (.slice A1_1 l1_1.length c1_1):=(iG BK221.out 1).trans rfl
          have hfz23_0:=iE BK221.out 0
          have hfz23_1:=iE BK221.out 1
          have p223:0≤(x5_2:Int):=of_decide_eq_true asm_
          have q223:x5_2<(l1_1.length:Int):=of_decide_eq_true asm_
          obtain ⟨ad223,e223,hx223_0,hx223_1⟩:=lQ HR1_1.out x5_2 p223 q223
          cases e223
          replace hx223_0:=(HB.out.cell (World.block_lt_of_cell? w _ hx223_0)).trans hx223_0
          replace hx223_1:=(HB.out.cell (World.block_lt_of_cell? w _ hx223_1)).trans hx223_1
          replace p223:=eq_true p223
          replace q223:=eq_true q223
          go_wp2
          repeat (go_quiet (fail);try go_wp2)
          go_roundg k2
          case measure=>have:=HJ2.out;have:=HK2.out;omega
          case rel=>exact ⟨(wrap64 (x5_2+1)),(by first | rfl | (simp;done) | (simp [*];done)),H',⟨by have:=HJ2.out;have:=HK2.out;omega⟩,⟨bk_ BK220.out⟩,⟨bk_ BK221.out⟩,⟨by repeat (first | (with_reducible first | exact HB.out | apply iD | apply iF | apply iQ | refine iL ?_ GE220.out | refine iL ?_ GE221.out) | exact HB.out)⟩⟩
        ·rw [if_neg c16] at H
         exact absurd H (by simp)
       ·rw [if_neg c15] at H
        exact absurd H (by simp)
      ·rw [if_neg c14] at H
       have c14b0:decide (x5_2<(l0_1.length:Int))=false:=decide_eq_false c14
       clear c14
       obtain rfl:=Option.some.inj H
       have hnb24:=NB220_221.out
       have hnc24:=NB221_220.out
       have hcz25_0:wr.cell? ⟨gb220,0,none⟩=some (.int .u32 a0_0):=(iG BK220.out 0).trans rfl
       have hcz25_1:wr.cell? ⟨gb220,1,none⟩=some (.slice A0_1 l0_1.length c0_1):=(iG BK220.out 1).trans rfl
       have hfz25_0:=iE BK220.out 0
       have hfz25_1:=iE BK220.out 1
       go_wp2
       repeat (go_quiet (fail);try go_wp2)
       go_ret
       exact ⟨by first | rfl | (simp [jF,jG] <;> rfl) | (simp [*,jF,jG] <;> rfl),by repeat (first | (with_reducible first | exact HB.out | apply iD | apply iF | apply iQ | refine iL ?_ GE220.out | refine iL ?_ GE221.out) | exact HB.out)⟩
end Go.Proofs.YtgfkgppomaapiaaGreatDoor.K
end
namespace Go.Proofs.YtgfkgppomaapiaaGreatDoor.K
open Go.RowKit Go.Proofs.YtgfkgppomaapiaaGreatDoorW.PrintWords Go.Proofs.YtgfkgppomaapiaaGreatDoorW.PrintLast Go.Proofs.YtgfkgppomaapiaaGreatDoorW.PrintMore
section
attribute [local go_sem] kL kH kZ lC
def stratumref07_SameEntries.f (l0:List (S114)) (l1:List (S114)):Option (Bool):=(stratumref07_Entries.f ([]:List Int) l0).bind fun t224=>((stratumref07_Entries.f ([]:List Int) l1).bind fun t227=>(some ((strOfNums t224).toList == (strOfNums t227).toList)))
def stratumref07_SameEntries.T1:Bool × List (List Nat × List Nat):=(true,[([],[]),([0],[0]),([1],[1]),([],[]),([3,1],[3]),([4],[4]),([2,5],[2,5]),([6,4,0,1,2,3,4,5,6],[6])])
def stratumref07_SameEntries.B1:List Nat:=[0,1,3,0,11,27,63,127]
theorem stratumref07_SameEntries.tab1:rtab .any (opsOf Tryz.f58 1)=stratumref07_SameEntries.T1:=by kernel_rfl
theorem stratumref07_SameEntries.bits1:nT stratumref07_SameEntries.T1.2 stratumref07_SameEntries.B1=true:=by kernel_rfl
set_option maxHeartbeats 8000000 in
set_option maxRecDepth 100000 in
theorem stratumref07_SameEntries.calls (A0:Option Addr) (c0:Nat) (l0:List (S114)) (A1:Option Addr) (c1:Nat) (l1:List (S114)) (r:Bool) (w:World) (hr0:Kd.C k114 w A0 l0.length l0) (hc0:l0.length≤c0) (hr1:Kd.C k114 w A1 l1.length l1) (hc1:l1.length≤c1) (h:stratumref07_SameEntries.f l0 l1=some r) :
  Calls Tryz.prog 58 #[.slice A0 l0.length c0,.slice A1 l1.length c1] w fun e w'=>e=.returned (.bool r)∧Below w.heap.size w w':=by
 have HR0:=iC.mk hr0
 have HC0:=iC.mk hc0
 clear hr0 hc0
 have HR1:=iC.mk hr1
 have HC1:=iC.mk hc1
 clear hr1 hc1
 have HB:=iC.mk (Below.refl w.heap.size w)
 have H:((stratumref07_Entries.f ([]:List Int) l0).bind fun t224=>((stratumref07_Entries.f ([]:List Int) l1).bind fun t227=>(some ((strOfNums t224).toList == (strOfNums t227).toList))))=some r:=h
 clear h
 replace H:=Option.bind_eq_some_iff.mp H
 obtain ⟨t224,A30,H⟩:=H
 replace H:((stratumref07_Entries.f ([]:List Int) l1).bind fun t227=>(some ((strOfNums t224).toList == (strOfNums t227).toList)))=some r:=H
 have A3:=iC.mk A30
 clear A30
 replace H:=Option.bind_eq_some_iff.mp H
 obtain ⟨t227,A40,H⟩:=H
 replace H:(some ((strOfNums t224).toList == (strOfNums t227).toList))=some r:=H
 have A4:=iC.mk A40
 clear A40
 obtain rfl:=Option.some.inj H
 go_enter Tryz.func58,Tryz.ntmps58
 try go_wp2
 have n0_:=iC.mk (iQ HB.out)
 clear HB
 have HB:=n0_
 clear n0_
 refine qJ (n:=8) (S:=fun w'=>True) (ds:=[]) #[false,false,false,false,false,false,false,false] (by kernel_rfl) rfl rfl trivial (fun hHeld=>?_);refine mM stratumref07_SameEntries.tab1 stratumref07_SameEntries.bits1 (fun HT_ HW_=>?_)
 generalize w.drew=w5 at HB hHeld ⊢
 refine jK (i:=0) (N:=some 5) (v:=?_) (a':=?_) #[true,false,false,false,false,false,false,false] rfl rfl (iZ HT_.out (by kernel_rfl)) (fun _ _ _ h=>h) (Or.inl ⟨by rfl,?_⟩) ?_ ?_
 rotate_left
 ·intro w'
  go_simp
  with_reducible rfl
 rotate_left
 ·simp only [Act.put,sb_,sz_,ss_,iO,jA]
  rfl
 refine jK (i:=3) (N:=some 8) (v:=?_) (a':=?_) #[true,false,false,true,false,false,false,false] rfl rfl (iZ HT_.out (by kernel_rfl)) (fun _ _ _ h=>h) (Or.inl ⟨by rfl,?_⟩) ?_ ?_
 rotate_left
 ·intro w'
  go_simp
  with_reducible rfl
 rotate_left
 ·simp only [Act.put,sb_,sz_,ss_,iO,jA]
  rfl
 refine one_ (i:=1) (N:=some 6) #[true,true,false,true,false,false,false,false] rfl rfl (kY HT_.out (by kernel_rfl)) (by decide) (fun K hK=>?_)
 refine oD Tryz.func75 (by kernel_rfl) rfl #[.slice none 0 0,.slice A0 l0.length c0] (by rfl) rfl rfl (by (try simp only [List.map_toArray,List.map_cons,List.map_nil]);first | done | rfl | (simp only [List.length_drop,List.length_take];rfl)) ?_
 refine (stratumref07_Entries.calls0 _ _ l0 t224 _ ?side1 ?side2 ?side3 ?side4 A3.out).mono ?_
 (case side1=>exact Kd.C_nil _ _)
 (case side2=>exact Nat.le_refl _)
 (case side3=>repeat (first | exact (Kd.C_below HR0.out HB.out) | (with_reducible refine Kd.C_alloc ?_ _) | (with_reducible refine Kd.C_drewN ?_ _) | (with_reducible refine Kd.C_drew ?_)))
 (case side4=>exact HC0.out)
 rintro e w6 ⟨v225,rfl,ho0,hb⟩
 refine ⟨_,rfl,?_⟩
 have n0_:=iC.mk (Kd.R_lower ho0 (iT hb_))
 have n1_:=iC.mk (iH hb_ hb)
 clear HB
 have HO226:=n0_
 have HB:=n1_
 clear n0_ n1_
 (try clear hb)
 (try clear hb2)
 (try clear hk)
 (try clear hi)
 (try clear ho0)
 refine hK.out _ _ trivial (fun hHeld=>?_)
 clear hK K
 refine lL (a':=?_) ?_ ?_
 rotate_left
 ·show Act.put _ (some 6) _=_
  simp only [Act.put,sb_,sz_,ss_,iO,jA]
  rfl
 refine jm9 (σ:=Value) 2 #[true,true,true,true,true,true,false,false] (fun s_=>[(7,.string (strOfNums t224)),(9,s_),(10,.string (strOfNums t227))]) (fun s_ w'=>(Kd.R (Kd.int .u8) 5 w' w.heap.size (fun k_=>some k_≠(s_:Value).ownBlock) v225 t224)∧(Kd.R (Kd.int .u8) 5 w' w.heap.size (fun k_=>some k_≠(v225:Value).ownBlock) s_ t227)∧(Below w.heap.size w w')) ?_ ?_
 rotate_left
 ·intro hCont
  refine two_ (i:=2) (j:=4) (Ni:=some 7) (Nj:=some 9) #[true,true,true,true,false,false,false,false] #[true,true,false,true,true,false,false,false] rfl rfl rfl rfl (RN HT_.out (by kernel_rfl)) (by decide) (by decide) (fun K hK=>?_) (fun K hK=>?_)
  ·skip
   have hcv7:=lT (P:=Tryz.prog) Tryz.underlying22 Tryz.underlying5 Tryz.underlying9 (Kd.own_of_R HO226.out)
   refine jC (w1:=?_) (v:=?_) (by rfl) rfl ?_ ?_
   rotate_left 2
   ·go_simp
    constructor
    ·rfl
    ·rfl
   clear hcv7
   refine hK.out _ _ trivial (fun hHeld=>?_)
   clear hK K
   refine lL (a':=?_) ?_ ?_
   rotate_left
   ·show Act.put _ (some 7) _=_
    simp only [Act.put,sb_,sz_,ss_,iO,jA]
    rfl
   refine one_ (i:=4) (N:=some 9) #[true,true,true,true,true,false,false,false] rfl rfl (kY HT_.out (by kernel_rfl)) (by decide) (fun K hK=>?_)
   refine oD Tryz.func75 (by kernel_rfl) rfl #[.slice none 0 0,.slice A1 l1.length c1] (by rfl) rfl rfl (by (try simp only [List.map_toArray,List.map_cons,List.map_nil]);first | done | rfl | (simp only [List.length_drop,List.length_take];rfl)) ?_
   refine (stratumref07_Entries.calls0 _ _ l1 t227 _ ?side1 ?side2 ?side3 ?side4 A4.out).mono ?_
   (case side1=>exact Kd.C_nil _ _)
   (case side2=>exact Nat.le_refl _)
   (case side3=>repeat (first | exact (Kd.C_below HR1.out HB.out) | (with_reducible refine Kd.C_alloc ?_ _) | (with_reducible refine Kd.C_drewN ?_ _) | (with_reducible refine Kd.C_drew ?_)))
   (case side4=>exact HC1.out)
   rintro e w8 ⟨v228,rfl,ho0,hb⟩
   refine ⟨_,rfl,?_⟩
   have n0_:=iC.mk (Kd.R_elder' (by (with_reducible repeat (first | apply Kd.R_alloc | apply Kd.R_drewN | apply Kd.R_drew));exact HO226.out) (Kd.R_base ho0) hb)
   have n1_:=iC.mk (Kd.R_lower (Kd.R_new' ho0 (Kd.R_lt (by (with_reducible repeat (first | apply Kd.R_alloc | apply Kd.R_drewN | apply Kd.R_drew));exact HO226.out))) (iT hb_))
   have n2_:=iC.mk (iH hb_ hb)
   clear HO226
   clear HB
   have HO226:=n0_
   have HO229:=n1_
   have HB:=n2_
   clear n0_ n1_ n2_
   (try clear hb)
   (try clear hb2)
   (try clear hk)
   (try clear hi)
   (try clear ho0)
   refine hK.out _ _ trivial (fun hHeld=>?_)
   clear hK K
   refine lL (a':=?_) ?_ ?_
   rotate_left
   ·show Act.put _ (some 9) _=_
    simp only [Act.put,sb_,sz_,ss_,iO,jA]
    rfl
   refine one_ (i:=5) (N:=some 10) #[true,true,true,true,true,true,false,false] rfl rfl (kY HT_.out (by kernel_rfl)) (by decide) (fun K hK=>?_)
   have hcv9:=lT (P:=Tryz.prog) Tryz.underlying22 Tryz.underlying5 Tryz.underlying9 (Kd.own_of_R HO229.out)
   refine jC (w1:=?_) (v:=?_) (by rfl) rfl ?_ ?_
   rotate_left 2
   ·go_simp
    constructor
    ·rfl
    ·rfl
   clear hcv9
   refine hK.out _ _ trivial (fun hHeld=>?_)
   clear hK K
   refine lL (a':=?_) ?_ ?_
   rotate_left
   ·show Act.put _ (some 10) _=_
    simp only [Act.put,sb_,sz_,ss_,iO,jA]
    rfl
   exact lL (by simp only [uC,Act.put,sb_,sz_,ss_]) (hCont (v228) _ ⟨(by (with_reducible repeat (first | apply Kd.R_alloc | apply Kd.R_drewN | apply Kd.R_drew));exact Kd.R_mono HO226.out (fun _ hk=>hk.2)),(by (with_reducible repeat (first | apply Kd.R_alloc | apply Kd.R_drewN | apply Kd.R_drew));exact Kd.R_mono HO229.out (fun _ hk=>hk.2)),hb_⟩)
  ·skip
   refine oD Tryz.func75 (by kernel_rfl) rfl #[.slice none 0 0,.slice A1 l1.length c1] (by rfl) rfl rfl (by (try simp only [List.map_toArray,List.map_cons,List.map_nil]);first | done | rfl | (simp only [List.length_drop,List.length_take];rfl)) ?_
   refine (stratumref07_Entries.calls0 _ _ l1 t227 _ ?side1 ?side2 ?side3 ?side4 A4.out).mono ?_
   (case side1=>exact Kd.C_nil _ _)
   (case side2=>exact Nat.le_refl _)
   (case side3=>repeat (first | exact (Kd.C_below HR1.out HB.out) | (with_reducible refine Kd.C_alloc ?_ _) | (with_reducible refine Kd.C_drewN ?_ _) | (with_reducible refine Kd.C_drew ?_)))
   (case side4=>exact HC1.out)
   rintro e w7 ⟨v228,rfl,ho0,hb⟩
   refine ⟨_,rfl,?_⟩
   have n0_:=iC.mk (Kd.R_elder' (by (with_reducible repeat (first | apply Kd.R_alloc | apply Kd.R_drewN | apply Kd.R_drew));exact HO226.out) (Kd.R_base ho0) hb)
   have n1_:=iC.mk (Kd.R_lower (Kd.R_new' ho0 (Kd.R_lt (by (with_reducible repeat (first | apply Kd.R_alloc | apply Kd.R_drewN | apply Kd.R_drew));exact HO226.out))) (iT hb_))
   have n2_:=iC.mk (iH hb_ hb)
   clear HO226
   clear HB
   have HO226:=n0_
   have HO229:=n1_
   have HB:=n2_
   clear n0_ n1_ n2_
   (try clear hb)
   (try clear hb2)
   (try clear hk)
   (try clear hi)
   (try clear ho0)
   refine hK.out _ _ trivial (fun hHeld=>?_)
   clear hK K
   refine lL (a':=?_) ?_ ?_
   rotate_left
   ·show Act.put _ (some 9) _=_
    simp only [Act.put,sb_,sz_,ss_,iO,jA]
    rfl
   refine two_ (i:=2) (j:=5) (Ni:=some 7) (Nj:=some 10) #[true,true,true,true,true,false,false,false] #[true,true,false,true,true,true,false,false] rfl rfl rfl rfl (RN HT_.out (by kernel_rfl)) (by decide) (by decide) (fun K hK=>?_) (fun K hK=>?_)
   ·skip
    have hcv8:=lT (P:=Tryz.prog) Tryz.underlying22 Tryz.underlying5 Tryz.underlying9 (Kd.own_of_R HO226.out)
    refine jC (w1:=?_) (v:=?_) (by rfl) rfl ?_ ?_
    rotate_left 2
    ·go_simp
     constructor
     ·rfl
     ·rfl
    clear hcv8
    refine hK.out _ _ trivial (fun hHeld=>?_)
    clear hK K
    refine lL (a':=?_) ?_ ?_
    rotate_left
    ·show Act.put _ (some 7) _=_
     simp only [Act.put,sb_,sz_,ss_,iO,jA]
     rfl
    refine one_ (i:=5) (N:=some 10) #[true,true,true,true,true,true,false,false] rfl rfl (kY HT_.out (by kernel_rfl)) (by decide) (fun K hK=>?_)
    have hcv9:=lT (P:=Tryz.prog) Tryz.underlying22 Tryz.underlying5 Tryz.underlying9 (Kd.own_of_R HO229.out)
    refine jC (w1:=?_) (v:=?_) (by rfl) rfl ?_ ?_
    rotate_left 2
    ·go_simp
     constructor
     ·rfl
     ·rfl
    clear hcv9
    refine hK.out _ _ trivial (fun hHeld=>?_)
    clear hK K
    refine lL (a':=?_) ?_ ?_
    rotate_left
    ·show Act.put _ (some 10) _=_
     simp only [Act.put,sb_,sz_,ss_,iO,jA]
     rfl
    exact lL (by simp only [uC,Act.put,sb_,sz_,ss_]) (hCont (v228) _ ⟨(by (with_reducible repeat (first | apply Kd.R_alloc | apply Kd.R_drewN | apply Kd.R_drew));exact Kd.R_mono HO226.out (fun _ hk=>hk.2)),(by (with_reducible repeat (first | apply Kd.R_alloc | apply Kd.R_drewN | apply Kd.R_drew));exact Kd.R_mono HO229.out (fun _ hk=>hk.2)),hb_⟩)
   ·skip
    have hcv8:=lT (P:=Tryz.prog) Tryz.underlying22 Tryz.underlying5 Tryz.underlying9 (Kd.own_of_R HO229.out)
    refine jC (w1:=?_) (v:=?_) (by rfl) rfl ?_ ?_
    rotate_left 2
    ·go_simp
     constructor
     ·rfl
     ·rfl
    clear hcv8
    refine hK.out _ _ trivial (fun hHeld=>?_)
    clear hK K
    refine lL (a':=?_) ?_ ?_
    rotate_left
    ·show Act.put _ (some 10) _=_
     simp only [Act.put,sb_,sz_,ss_,iO,jA]
     rfl
    refine one_ (i:=2) (N:=some 7) #[true,true,true,true,true,true,false,false] rfl rfl (kY HT_.out (by kernel_rfl)) (by decide) (fun K hK=>?_)
    have hcv9:=lT (P:=Tryz.prog) Tryz.underlying22 Tryz.underlying5 Tryz.underlying9 (Kd.own_of_R HO226.out)
    refine jC (w1:=?_) (v:=?_) (by rfl) rfl ?_ ?_
    rotate_left 2
    ·go_simp
     constructor
     ·rfl
     ·rfl
    clear hcv9
    refine hK.out _ _ trivial (fun hHeld=>?_)
    clear hK K
    refine lL (a':=?_) ?_ ?_
    rotate_left
    ·show Act.put _ (some 7) _=_
     simp only [Act.put,sb_,sz_,ss_,iO,jA]
     rfl
    exact lL (by simp only [uC,Act.put,sb_,sz_,ss_]) (hCont (v228) _ ⟨(by (with_reducible repeat (first | apply Kd.R_alloc | apply Kd.R_drewN | apply Kd.R_drew));exact Kd.R_mono HO226.out (fun _ hk=>hk.2)),(by (with_reducible repeat (first | apply Kd.R_alloc | apply Kd.R_drewN | apply Kd.R_drew));exact Kd.R_mono HO229.out (fun _ hk=>hk.2)),hb_⟩)
 rintro v228 w10 ⟨h0_,h1_,h2_⟩
 have n0_:iC (Kd.R (Kd.int .u8) 5 w10 w.heap.size (fun k_=>some k_≠(v228:Value).ownBlock) v225 t224):=⟨h0_⟩
 have n1_:iC (Kd.R (Kd.int .u8) 5 w10 w.heap.size (fun k_=>some k_≠(v225:Value).ownBlock) v228 t227):=⟨h1_⟩
 have n2_:iC (Below w.heap.size w w10):=⟨h2_⟩
 clear HB
 clear h0_ h1_ h2_
 have HO226:=n0_
 have HO229:=n1_
 have HB:=n2_
 clear n0_ n1_ n2_
 have hHeld:=trivial
 refine lL (a':=?_) ?_ ?_
 rotate_left
 ·simp only [uC,Act.put,sb_,sz_,ss_]
  rfl
 refine jK (i:=6) (N:=some 11) (v:=?_) (a':=?_) #[true,true,true,true,true,true,true,false] rfl rfl (iZ HT_.out (by kernel_rfl)) (fun _ _ _ h=>h) (Or.inl ⟨by rfl,?_⟩) ?_ ?_
 rotate_left
 ·intro w'
  go_simp
  with_reducible rfl
 rotate_left
 ·simp only [Act.put,sb_,sz_,ss_,iO,jA]
  rfl
 refine jK (i:=7) (N:=some 4) (v:=?_) (a':=?_) #[true,true,true,true,true,true,true,true] rfl rfl (iZ HT_.out (by kernel_rfl)) (fun _ _ _ h=>h) (Or.inl ⟨by rfl,?_⟩) ?_ ?_
 rotate_left
 ·intro w'
  go_simp
  with_reducible rfl
 rotate_left
 ·simp only [Act.put,sb_,sz_,ss_,iO,jA]
  rfl
 refine zI (pM HT_.out (by kernel_rfl)) ?_
 try go_wp2
 go_ret
 exact ⟨by first | rfl | (simp [jF,jG] <;> rfl) | (simp [*,jF,jG] <;> rfl),hb_⟩
end
end Go.Proofs.YtgfkgppomaapiaaGreatDoor.K
namespace Go.Proofs.YtgfkgppomaapiaaGreatDoor.K
open RowKit YtgfkgppomaapiaaGreatDoorW.PrintWords YtgfkgppomaapiaaGreatDoorW.PrintLast YtgfkgppomaapiaaGreatDoorW.PrintMore My
section
theorem jl4 (l m:List Int) (h:l.length=m.length) (k:Nat) (hk:∀ i:Nat,i<k→l.getD i 0=m.getD i 0) (hl:l.length≤k):l=m:=by
 apply List.ext_getElem h
 intro i h1 h2
 have:=hk i (by omega)
 rw [List.getD_eq_getElem?_getD,List.getD_eq_getElem?_getD,List.getElem?_eq_getElem h1,List.getElem?_eq_getElem h2] at this
 exact this
theorem O3 (l m:List Int) (h:l.length=m.length) (hn:l.length≤9223372036854775807) (d:Nat):∀ i:Int,0≤i→i≤l.length→(l.length:Int) - i=d→(∀ j:Nat,j<i.toNat→l.getD j 0=m.getD j 0)→∃ b,Ev (fun k=>stratumref07_SameInts.l0 k l m i) b∧(b=true↔l=m):=by
 induction d with
 | zero =>
  intro i h0 h1 hd hp
  exact ⟨true,Ev.step (f:=fun _=>some true) (fun k=>by simp only [stratumref07_SameInts.l0];rw [if_neg (by omega)]) (Ev.now _),by
   simp only [true_iff]
   exact jl4 l m h l.length (fun j hj=>hp j (by omega)) (Nat.le_refl _)⟩
 | succ d ih =>
  intro i h0 h1 hd hp
  have hlt:i<(l.length:Int):=by omega
  by_cases c:rd l i=rd m i
  ·obtain ⟨b,h2,h3⟩:=ih (i+1) (by omega) (by omega) (by omega) (fun j hj=>by
    rcases Nat.lt_or_ge j i.toNat with h | h
    ·exact hp j h
    ·obtain rfl:j=i.toNat:=by omega
     exact c)
   exact ⟨b,Ev.step (fun k=>by simp only [stratumref07_SameInts.l0];rw [if_pos hlt,if_pos h0,if_pos (by omega),if_pos c,oK h0 hlt hn]) h2,h3⟩
  ·refine ⟨false,Ev.step (f:=fun _=>some false) (fun k=>by simp only [stratumref07_SameInts.l0];rw [if_pos hlt,if_pos h0,if_pos (by omega),if_neg c]) (Ev.now _),?_⟩
   simp only [Bool.false_eq_true,false_iff]
   intro e
   rw [e] at c
   exact c rfl
theorem QH (l m:List Int) (hn:l.length≤9223372036854775807):∃ b,Ev (fun k=>stratumref07_SameInts.f k l m) b∧(b=true↔l=m):=by
 by_cases h:(l.length:Int)=(m.length:Int)
 ·obtain ⟨b,h1,h2⟩:=O3 l m (by omega) hn l.length 0 (by omega) (by omega) (by omega) (fun j hj=>by simp at hj)
  exact ⟨b,Ev.congr (fun k=>by unfold stratumref07_SameInts.f;rw [if_pos h]) h1,h2⟩
 ·refine ⟨false,Ev.congr (f:=fun _=>some false) (fun k=>by unfold stratumref07_SameInts.f;rw [if_neg h]) (Ev.now _),?_⟩
  simp only [Bool.false_eq_true,false_iff]
  intro e
  exact h (by rw [e])
theorem j09 (l m:List kC) (h:l.length=m.length) (hk:∀ i:Nat,i<l.length→(l.getD i z122).f0=(m.getD i z122).f0∧(l.getD i z122).f1=(m.getD i z122).f1):l=m:=by
 apply List.ext_getElem h
 intro i h1 h2
 have:=hk i h1
 rw [List.getD_eq_getElem?_getD,List.getD_eq_getElem?_getD,List.getElem?_eq_getElem h1,List.getElem?_eq_getElem h2] at this
 simp only [Option.getD_some] at this
 cases hx:l[i]
 cases hy:m[i]
 rw [hx,hy] at this
 simp only at this
 rw [this.1,this.2]
theorem Q8 (a b:Int) (l m:List kC) (h:l.length=m.length) (hn:l.length≤9223372036854775807) (d:Nat):∀ i:Int,0≤i→i≤l.length→(l.length:Int) - i=d→(∀ j:Nat,j<i.toNat→(l.getD j z122).f0=(m.getD j z122).f0∧(l.getD j z122).f1=(m.getD j z122).f1)→∃ t,Ev (fun k=>stratumref07_SameMap.l0 k i a l b m) t∧(t=true↔l=m):=by
 induction d with
 | zero =>
  intro i h0 h1 hd hp
  exact ⟨true,Ev.step (f:=fun _=>some true) (fun k=>by simp only [stratumref07_SameMap.l0];rw [if_neg (by omega)]) (Ev.now _),by
   simp only [true_iff]
   exact j09 l m h (fun j hj=>hp j (by omega))⟩
 | succ d ih =>
  intro i h0 h1 hd hp
  have hlt:i<(l.length:Int):=by omega
  by_cases c:(jO l i).f0=(jO m i).f0∧(jO l i).f1=(jO m i).f1
  ·obtain ⟨b,h2,h3⟩:=ih (i+1) (by omega) (by omega) (by omega) (fun j hj=>by
    rcases Nat.lt_or_ge j i.toNat with h | h
    ·exact hp j h
    ·obtain rfl:j=i.toNat:=by omega
     exact c)
   exact ⟨b,Ev.step (fun k=>by simp only [stratumref07_SameMap.l0];rw [if_pos hlt,if_pos h0,if_pos (by omega),if_neg (by simp [c.1,c.2]),oK h0 hlt hn]) h2,h3⟩
  ·refine ⟨false,Ev.step (f:=fun _=>some false) (fun k=>by simp only [stratumref07_SameMap.l0];rw [if_pos hlt,if_pos h0,if_pos (by omega),if_pos (by simp;exact Classical.not_and_iff_not_or_not.mp c)]) (Ev.now _),?_⟩
   simp only [Bool.false_eq_true,false_iff]
   intro e
   rw [e] at c
   exact c ⟨rfl,rfl⟩
theorem UO (a b:Int) (l m:List kC) (hn:l.length≤9223372036854775807):∃ t,Ev (fun k=>stratumref07_SameMap.f k a l b m) t∧(t=true↔(a=b∧l=m)):=by
 have hno:∀ (x:Bool),x=true→Ev (fun k=>stratumref07_SameMap.j0 k x a l b m) false:=fun x hx=>Ev.step (f:=fun _=>some false) (fun k=>by simp only [stratumref07_SameMap.j0];rw [if_pos hx]) (Ev.now _)
 by_cases hab:a=b
 ·by_cases h:(l.length:Int)=(m.length:Int)
  ·obtain ⟨t,h1,h2⟩:=Q8 a b l m (by omega) hn l.length 0 (by omega) (by omega) (by omega) (fun j hj=>by simp at hj)
   refine ⟨t,Ev.congr (fun k=>by unfold stratumref07_SameMap.f;rw [if_pos hab]) (Ev.step (fun k=>by simp only [stratumref07_SameMap.j0];rw [if_neg (by simp [h])]) h1),?_⟩
   rw [h2];exact ⟨fun e=>⟨hab,e⟩,fun e=>e.2⟩
  ·refine ⟨false,Ev.congr (fun k=>by unfold stratumref07_SameMap.f;rw [if_pos hab]) (hno _ (by simpa [bne] using h)),?_⟩
   simp only [Bool.false_eq_true,false_iff]
   intro e
   exact h (by rw [e.2])
 ·refine ⟨false,Ev.congr (fun k=>by unfold stratumref07_SameMap.f;rw [if_neg hab]) (hno true rfl),?_⟩
  simp only [Bool.false_eq_true,false_iff]
  exact fun e=>hab e.1
structure SLen (x:SRec):Prop where
 n3:x.f3.length≤9223372036854775807
 n4:(kP x.f4).length≤140737488355328
 n6:x.f5.f1.length≤9223372036854775807
 n9:(jZ x.f8).length≤140737488355328
theorem OE (l m:List jQ) (hl:(kP l).length≤140737488355328) (hm:(kP m).length≤140737488355328):∃ t,Ev (fun k=>stratumref07_SameFacts.f k l m) t∧(t=true↔kP l=kP m):=by
 have e1:=IJ l [] (by simpa using hl)
 have e2:=IJ m [] (by simpa using hm)
 rw [List.nil_append] at e1 e2
 refine ⟨decide (kP l=kP m),?_,by simp⟩
 unfold stratumref07_SameFacts.f
 refine Ev.bind e1 (Ev.bind e2 ?_)
 rw [uZ]
 exact Ev.now _
theorem J8 (l m:List jJ) (hl:(jZ l).length≤140737488355328) (hm:(jZ m).length≤140737488355328):stratumref07_SameEntries.f l m=some (decide (jZ l=jZ m)):=by
 unfold stratumref07_SameEntries.f stratumref07_Entries.f
 rw [if_pos ⟨rfl,hl⟩,if_pos ⟨rfl,hm⟩]
 simp only [Option.bind_some]
 rw [uZ]
end
section
theorem QL (r:SRec) (h:jR r=true) :
  (r.f0=1∧nK (-1) r.f3=true∧mO r.f4=true∧r.f2=0∧r.f5.f0=0∧r.f5.f1=[]∧r.f6=0∧r.f7=0∧r.f8=[]) ∨
  (r.f0=2∧nK (-1) r.f3=true∧r.f4=[]∧r.f5.f0=0∧r.f5.f1=[]∧r.f6=0∧r.f7=0∧r.f8=[]) ∨
  ((r.f0=3∨r.f0=4∨r.f0=5)∧r.f2=0∧r.f3=[]∧r.f4=[]∧r.f5.f0=0∧r.f5.f1=[]∧r.f6=0∧r.f7=0∧r.f8=[]) ∨
  (r.f0=6∧r.f1=0∧r.f5.f1.length≤40∧(∀ s∈r.f5.f1,mZ s=true)∧r.f2=0∧r.f3=[]∧r.f4=[]∧r.f6=0∧r.f7=0∧r.f8=[]) ∨
  (r.f0=7∧oN r.f8=true∧r.f8.length≤5000∧(0≤r.f6∧r.f6≤10000)∧(0≤r.f7∧r.f7≤10000)∧r.f2=0∧r.f3=[]∧r.f4=[]∧r.f5.f0=0∧r.f5.f1=[]):=by
 unfold jR at h
 by_cases h1:r.f0=1
 ·rw [if_pos h1] at h
  simp only [Bool.and_eq_true,beq_iff_eq] at h
  obtain ⟨⟨⟨⟨⟨⟨⟨ha,hb⟩,hc⟩,hd⟩,he⟩,hf⟩,hg⟩,hi⟩:=h
  exact .inl ⟨h1,ha,hb,hc,hd,lN he,hf,hg,lN hi⟩
 rw [if_neg h1] at h
 by_cases h2:r.f0=2
 ·rw [if_pos h2] at h
  simp only [Bool.and_eq_true,beq_iff_eq] at h
  obtain ⟨⟨⟨⟨⟨⟨ha,hb⟩,hc⟩,hd⟩,he⟩,hf⟩,hg⟩:=h
  exact .inr (.inl ⟨h2,ha,lN hb,hc,lN hd,he,hf,lN hg⟩)
 rw [if_neg h2] at h
 by_cases h3:(decide (r.f0=3) || decide (r.f0=4) || decide (r.f0=5))=true
 ·rw [if_pos h3] at h
  have h3':r.f0=3∨r.f0=4∨r.f0=5:=by
   simp only [Bool.or_eq_true,decide_eq_true_eq] at h3
   omega
  simp only [Bool.and_eq_true,beq_iff_eq] at h
  obtain ⟨⟨⟨⟨⟨⟨⟨ha,hb⟩,hc⟩,hd⟩,he⟩,hf⟩,hg⟩,hi⟩:=h
  exact .inr (.inr (.inl ⟨h3',ha,lN hb,lN hc,hd,lN he,hf,hg,lN hi⟩))
 rw [if_neg h3] at h
 by_cases h6:r.f0=6
 ·rw [if_pos h6] at h
  simp only [Bool.and_eq_true,beq_iff_eq,decide_eq_true_eq,List.all_eq_true] at h
  obtain ⟨⟨⟨⟨⟨⟨⟨⟨ha,hb⟩,hc⟩,hd⟩,he⟩,hf⟩,hg⟩,hi⟩,hj⟩:=h
  exact .inr (.inr (.inr (.inl ⟨h6,ha,hb,hc,hd,lN he,lN hf,hg,hi,lN hj⟩)))
 rw [if_neg h6] at h
 by_cases h7:r.f0=7
 ·rw [if_pos h7] at h
  simp only [Bool.and_eq_true,beq_iff_eq,decide_eq_true_eq] at h
  obtain ⟨⟨⟨⟨⟨⟨⟨⟨⟨⟨ha,hb⟩,hc⟩,hd⟩,he⟩,hf⟩,hg⟩,hi⟩,hj⟩,hk⟩,hl⟩:=h
  exact .inr (.inr (.inr (.inr ⟨h7,ha,hb,⟨hc,hd⟩,⟨he,hf⟩,hg,lN hi,lN hj,hk,lN hl⟩)))
 rw [if_neg h7] at h
 cases h
theorem xH:(kP []).length≤140737488355328:=by decide
theorem rU:(jZ []).length≤140737488355328:=by decide
theorem VI (r:SRec) (h:jR r=true):SLen r:=by
 rcases QL r h with ⟨_,h3,h4,_,_,h6,_,_,h9⟩ | ⟨_,h3,h4,_,h6,_,_,h9⟩ | ⟨_,_,h3,h4,_,h6,_,_,h9⟩ | ⟨_,_,h6,_,_,h3,h4,_,_,h9⟩ | ⟨_,h9,h95,_,_,_,h3,h4,_,h6⟩
 ·exact ⟨by have:=rC _ h3;omega,by have:=xY _ h4;omega,by rw [h6];decide,by rw [h9];exact rU⟩
 ·exact ⟨by have:=rC _ h3;omega,by rw [h4];exact xH,by rw [h6];decide,by rw [h9];exact rU⟩
 ·exact ⟨by rw [h3];decide,by rw [h4];exact xH,by rw [h6];decide,by rw [h9];exact rU⟩
 ·exact ⟨by rw [h3];decide,by rw [h4];exact xH,by omega,by rw [h9];exact rU⟩
 ·exact ⟨by rw [h3];decide,by rw [h4];exact xH,by rw [h6];decide,by have:=vX _ h9 h95;omega⟩
end
section
structure Lies (w:World) (r:SRec) (A3:Option Addr) (a3:Nat) (A4:Option Addr) (a4:Nat) (A6:Option Addr) (a6:Nat) (A9:Option Addr) (a9:Nat):Prop where
 h3:Kd.C (Kd.int .i64) w A3 r.f3.length r.f3
 d3:r.f3.length≤a3
 h4:Kd.C k149 w A4 r.f4.length r.f4
 d4:r.f4.length≤a4
 h6:Kd.C k122 w A6 r.f5.f1.length r.f5.f1
 d6:r.f5.f1.length≤a6
 h9:Kd.C k114 w A9 r.f8.length r.f8
 d9:r.f8.length≤a9
theorem Lies.below {w w':World} {r:SRec} {A3 A4 A6 A9:Option Addr} {a3 a4 a6 a9:Nat} (h:Lies w r A3 a3 A4 a4 A6 a6 A9 a9) (hb:Below w.heap.size w w'):Lies w' r A3 a3 A4 a4 A6 a6 A9 a9 :=
 ⟨Kd.C_below h.h3 hb,h.d3,Kd.C_below h.h4 hb,h.d4,Kd.C_below h.h6 hb,h.d6,Kd.C_below h.h9 hb,h.d9⟩
theorem VH {w:World} {r:SRec} {A3 A4 A6 A9:Option Addr} {a3 a4 a6 a9:Nat} (h:Lies w r A3 a3 A4 a4 A6 a6 A9 a9):∃ v:Int,Calls Tryz.prog 40 #[.agg #[.int .u8 r.f0,.int .u32 r.f1,.int .u32 r.f2,.slice A3 r.f3.length a3,.slice A4 r.f4.length a4,.int .u32 r.f5.f0,.slice A6 r.f5.f1.length a6,.int .i64 r.f6,.int .i64 r.f7,.slice A9 r.f8.length a9]] w fun e w'=>e=.returned (.int .i64 v)∧Below w.heap.size w w' :=
 YM _ _ _ _ _ _ _ _ _ _ _ _ _ _ _ _ _ _ _ h.h3 h.d3 h.h4 h.d4 h.h6 h.d6 h.h9 h.d9
theorem PM {w:World} {r:SRec} {A3 A4 A6 A9:Option Addr} {a3 a4 a6 a9:Nat} (h:Lies w r A3 a3 A4 a4 A6 a6 A9 a9) {E1:List Int} {E2:Int} (hE:encR r=(E1,E2)):Calls Tryz.prog 41 #[.agg #[.int .u8 r.f0,.int .u32 r.f1,.int .u32 r.f2,.slice A3 r.f3.length a3,.slice A4 r.f4.length a4,.int .u32 r.f5.f0,.slice A6 r.f5.f1.length a6,.int .i64 r.f6,.int .i64 r.f7,.slice A9 r.f8.length a9]] w fun e w'=>∃ v0_:Value,e=.returned (.tuple #[v0_,.int .u16 E2])∧Kd.R (Kd.int .u8) 5 w' w.heap.size (fun _=>True) v0_ E1∧Below w.heap.size w w' :=
 code_Encode.calls r.f0 r.f1 r.f2 A3 a3 r.f3 A4 a4 r.f4 r.f5.f0 A6 a6 r.f5.f1 r.f6 r.f7 A9 a9 r.f8 E1 E2 w h.h3 h.d3 h.h4 h.d4 h.h6 h.d6 h.h9 h.d9 (congrArg some hE)
end
end Go.Proofs.YtgfkgppomaapiaaGreatDoor.K
section
namespace Go.Proofs.YtgfkgppomaapiaaGreatDoor.K
open RowKit YtgfkgppomaapiaaGreatDoorW.PrintWords YtgfkgppomaapiaaGreatDoorW.PrintLast YtgfkgppomaapiaaGreatDoorW.PrintMore My
structure Owns (base:Nat) (w:World) (x:SRec) (A3:Option Addr) (a3:Nat) (A4:Option Addr) (a4:Nat) (A6:Option Addr) (a6:Nat) (A9:Option Addr) (a9:Nat):Prop where
 r3:Kd.R (Kd.int .i64) 3 w base (fun _=>True) (.slice A3 x.f3.length a3) x.f3
 r4:Kd.R k149 149 w base (fun _=>True) (.slice A4 x.f4.length a4) x.f4
 r6:Kd.R k122 122 w base (fun _=>True) (.slice A6 x.f5.f1.length a6) x.f5.f1
 r9:Kd.R k114 114 w base (fun _=>True) (.slice A9 x.f8.length a9) x.f8
section
variable {base:Nat} {w w':World} {x:SRec} {A3 A4 A6 A9:Option Addr} {a3 a4 a6 a9:Nat}
theorem Owns.lies (h:Owns base w x A3 a3 A4 a4 A6 a6 A9 a9):Lies w x A3 a3 A4 a4 A6 a6 A9 a9:=by
 obtain ⟨_,q3,C3⟩:=Kd.R_reads' h.r3
 obtain ⟨_,q4,C4⟩:=Kd.R_reads' h.r4
 obtain ⟨_,q6,C6⟩:=Kd.R_reads' h.r6
 obtain ⟨_,q9,C9⟩:=Kd.R_reads' h.r9
 exact ⟨C3,q3,C4,q4,C6,q6,C9,q9⟩
theorem Owns.below (h:Owns base w x A3 a3 A4 a4 A6 a6 A9 a9) (hb:Below w.heap.size w w'):Owns base w' x A3 a3 A4 a4 A6 a6 A9 a9:=⟨Kd.R_below h.r3 hb,Kd.R_below h.r4 hb,Kd.R_below h.r6 hb,Kd.R_below h.r9 hb⟩
theorem Owns.keep (h:Owns base w x A3 a3 A4 a4 A6 a6 A9 a9) {g:Nat} (hG:w.grownBy w' (some g)) (hlt:g<base):Owns base w' x A3 a3 A4 a4 A6 a6 A9 a9:=⟨jT h.r3 hG hlt,jT h.r4 hG hlt,jT h.r6 hG hlt,jT h.r9 hG hlt⟩
theorem Owns.lower {base':Nat} (h:Owns base w x A3 a3 A4 a4 A6 a6 A9 a9) (hb:base'≤base):Owns base' w x A3 a3 A4 a4 A6 a6 A9 a9:=⟨Kd.R_lower h.r3 hb,Kd.R_lower h.r4 hb,Kd.R_lower h.r6 hb,Kd.R_lower h.r9 hb⟩
end
end Go.Proofs.YtgfkgppomaapiaaGreatDoor.K
end
namespace Go.Proofs.YtgfkgppomaapiaaGreatDoor.K
open RowKit YtgfkgppomaapiaaGreatDoorW.PrintWords YtgfkgppomaapiaaGreatDoorW.PrintLast YtgfkgppomaapiaaGreatDoorW.PrintMore My
section
def kR:Kd SRec:=Kd.iso (Kd.pair (Kd.int .u8) (Kd.pair (Kd.int .u32) (Kd.pair (Kd.int .u32) (Kd.pair (Kd.slice 3 (Kd.int .i64)) (Kd.pair (Kd.slice 149 k149) (Kd.pair (Kd.int .u32) (Kd.pair (Kd.slice 122 k122) (Kd.pair (Kd.int .i64) (Kd.pair (Kd.int .i64) (Kd.slice 114 k114)))))))))) (fun x:SRec=>(x.f0,x.f1,x.f2,x.f3,x.f4,x.f5.f0,x.f5.f1,x.f6,x.f7,x.f8))
theorem PH {w:World} {x:SRec} {cs:List Value} (h:kR.K w x cs):∃ A3 a3 A4 a4 A6 a6 A9 a9,cs=[.int .u8 x.f0,.int .u32 x.f1,.int .u32 x.f2,.slice A3 x.f3.length a3,.slice A4 x.f4.length a4,.int .u32 x.f5.f0,.slice A6 x.f5.f1.length a6,.int .i64 x.f6,.int .i64 x.f7,.slice A9 x.f8.length a9]∧Lies w x A3 a3 A4 a4 A6 a6 A9 a9:=by
 obtain ⟨_,_,rfl,rfl,_,_,rfl,rfl,_,_,rfl,rfl,_,_,rfl,⟨A3,c3,rfl,l3,g3⟩,_,_,rfl,⟨A4,c4,rfl,l4,g4⟩,_,_,rfl,rfl,_,_,rfl,⟨A6,c6,rfl,l6,g6⟩,_,_,rfl,rfl,_,_,rfl,rfl,⟨A9,c9,rfl,l9,g9⟩⟩:=h
 exact ⟨A3,c3,A4,c4,A6,c6,A9,c9,rfl,g3,l3,g4,l4,g6,l6,g9,l9⟩
theorem kR_K {w:World} {x:SRec} {A3 A4 A6 A9:Option Addr} {a3 a4 a6 a9:Nat} (h:Lies w x A3 a3 A4 a4 A6 a6 A9 a9):kR.K w x [.int .u8 x.f0,.int .u32 x.f1,.int .u32 x.f2,.slice A3 x.f3.length a3,.slice A4 x.f4.length a4,.int .u32 x.f5.f0,.slice A6 x.f5.f1.length a6,.int .i64 x.f6,.int .i64 x.f7,.slice A9 x.f8.length a9] :=
 ⟨[.int .u8 x.f0],_,rfl,rfl,[.int .u32 x.f1],_,rfl,rfl,[.int .u32 x.f2],_,rfl,rfl,[.slice A3 x.f3.length a3],_,rfl,⟨A3,a3,rfl,h.d3,h.h3⟩,[.slice A4 x.f4.length a4],_,rfl,⟨A4,a4,rfl,h.d4,h.h4⟩,[.int .u32 x.f5.f0],_,rfl,rfl,[.slice A6 x.f5.f1.length a6],_,rfl,⟨A6,a6,rfl,h.d6,h.h6⟩,[.int .i64 x.f6],_,rfl,rfl,[.int .i64 x.f7],_,rfl,rfl,⟨A9,a9,rfl,h.d9,h.h9⟩⟩
theorem kR_M {base:Nat} {w:World} {x:SRec} {A3 A4 A6 A9:Option Addr} {a3 a4 a6 a9:Nat} (h:Owns base w x A3 a3 A4 a4 A6 a6 A9 a9):kR.M w base (fun _=>True) x [.int .u8 x.f0,.int .u32 x.f1,.int .u32 x.f2,.slice A3 x.f3.length a3,.slice A4 x.f4.length a4,.int .u32 x.f5.f0,.slice A6 x.f5.f1.length a6,.int .i64 x.f6,.int .i64 x.f7,.slice A9 x.f8.length a9] :=
 ⟨[.int .u8 x.f0],_,rfl,rfl,[.int .u32 x.f1],_,rfl,rfl,[.int .u32 x.f2],_,rfl,rfl,[.slice A3 x.f3.length a3],_,rfl,⟨_,rfl,h.r3⟩,[.slice A4 x.f4.length a4],_,rfl,⟨_,rfl,h.r4⟩,[.int .u32 x.f5.f0],_,rfl,rfl,[.slice A6 x.f5.f1.length a6],_,rfl,⟨_,rfl,h.r6⟩,[.int .i64 x.f6],_,rfl,rfl,[.int .i64 x.f7],_,rfl,rfl,⟨_,rfl,h.r9⟩⟩
theorem kR_E:∀ q∈kR.E,q≠54:=by decide
theorem j3_ {base:Nat} {w:World} {x:SRec} {cs:List Value} {v:Value} {n s:Nat} {xs:List Value} {b0:Nat} (h:kR.M w base (fun _=>True) x cs) (hv:w.ownsRow b0 54 s v n xs):kR.M w base (fun k=>some k≠v.ownBlock) x cs :=
 kR.M_mono (fun k hk e=>by
  obtain ⟨_,_,_,q,hq,cells,hc⟩:=hk
  obtain ⟨cells',hc'⟩:=pJ hv k e.symm
  rw [hc] at hc'
  injection hc' with hc'
  injection hc' with _ hc'
  exact kR_E q hq hc') (kR.M_bound h)
def RRs (w:World) (base:Nat) (v:Value) (l:List SRec):Prop:=kR.R 54 w base (fun _=>True) v l
theorem OH {base:Nat} {w:World} {x:SRec} {cs:List Value} {v:Value} {l:List SRec} {b0:Nat} (h:kR.M w base (fun _=>True) x cs) (hv:RRs w b0 v l):kR.M w base (fun k=>some k≠v.ownBlock) x cs:=by
 obtain ⟨_,inner,ho,_⟩:=hv
 exact j3_ h ho
theorem TC:(Tryz.prog.info? 54).map (fun i=>(i.zero,i.size,i.bytes))=some (some (.agg #[.int .u8 0,.int .u32 0,.int .u32 0,.slice none 0 0,.slice none 0 0,.int .u32 0,.slice none 0 0,.int .i64 0,.int .i64 0,.slice none 0 0]),kR.sz,136):=by kernel_rfl
theorem RRs.below {w w':World} {base:Nat} {v:Value} {l:List SRec} (h:RRs w base v l) (hb:Below w.heap.size w w'):RRs w' base v l:=Kd.R_below h hb
theorem RRs.lower {w:World} {base base':Nat} {v:Value} {l:List SRec} (h:RRs w base v l) (hb:base'≤base):RRs w base' v l:=Kd.R_lower h hb
theorem OJ {base:Nat} {x:SRec} {v:Value} {w:World} (h:RecV base x v w):∃ A3 a3 A4 a4 A6 a6 A9 a9,v=.agg #[.int .u8 x.f0,.int .u32 x.f1,.int .u32 x.f2,.slice A3 x.f3.length a3,.slice A4 x.f4.length a4,.int .u32 x.f5.f0,.slice A6 x.f5.f1.length a6,.int .i64 x.f6,.int .i64 x.f7,.slice A9 x.f8.length a9]∧Owns base w x A3 a3 A4 a4 A6 a6 A9 a9:=by
 obtain ⟨v3,v4,v6,v9,rfl,g3,g4,g6,g9⟩:=h
 obtain ⟨B3,b3,rfl⟩:=Kd.R_slice g3
 obtain ⟨B4,b4,rfl⟩:=Kd.R_slice g4
 obtain ⟨B6,b6,rfl⟩:=Kd.R_slice g6
 obtain ⟨B9,b9,rfl⟩:=Kd.R_slice g9
 exact ⟨B3,b3,B4,b4,B6,b6,B9,b9,rfl,g3,Kd.R_mono g4 (fun _ _=>trivial),g6,Kd.R_mono g9 (fun _ _=>trivial)⟩
def okL (ls:List (List UInt8)):List (List UInt8):=ls.takeWhile fun x=>(decR x).2 == 0
def nY (ls:List (List UInt8)):List SRec:=(okL ls).map fun x=>(decR x).1
end
end Go.Proofs.YtgfkgppomaapiaaGreatDoor.K
namespace Go.Proofs.YtgfkgppomaapiaaGreatDoor.My
section
def vJ (s:Nat × Nat) (c:UInt8):Nat × Nat:=((s.1+c.toNat) % 65521,(s.2+(s.1+c.toNat) % 65521) % 65521)
def adl (s:Nat × Nat) (l:List UInt8):Nat × Nat:=l.foldl vJ s
def adls (s:Nat × Nat) (l:List (List UInt8)):Nat × Nat:=l.foldl adl s
def sumOf (s:Nat × Nat):Nat:=s.2 * 65536+s.1
def sumN (l:List (List UInt8)):Nat:=sumOf (adls (1,0) l)
def Fine (s:Nat × Nat):Prop:=s.1<65521∧s.2<65521
theorem yM:Fine (1,0):=by unfold Fine;decide
theorem NY {s:Nat × Nat} (c:UInt8):Fine (vJ s c):=⟨Nat.mod_lt _ (by decide),Nat.mod_lt _ (by decide)⟩
theorem RX {s:Nat × Nat} (h:Fine s) (l:List UInt8):Fine (adl s l):=by
 induction l generalizing s with
 | nil=>exact h
 | cons c l ih=>exact ih (NY c)
theorem OD {s:Nat × Nat} (h:Fine s) (l:List (List UInt8)):Fine (adls s l):=by
 induction l generalizing s with
 | nil=>exact h
 | cons c l ih=>exact ih (RX h c)
theorem JY (s:Nat × Nat) (a b:List UInt8):adl s (a ++ b)=adl (adl s a) b:=List.foldl_append
theorem TF (s:Nat × Nat) (a:List UInt8) (c:UInt8):adl s (a ++ [c])=vJ (adl s a) c:=by rw [JY];rfl
theorem NI (s:Nat × Nat) (a:List (List UInt8)) (c:List UInt8):adls s (a ++ [c])=adl (adls s a) c:=by unfold adls;rw [List.foldl_append];rfl
theorem NQ (s:Nat × Nat) (l:List (List UInt8)):adls s l=adl s l.flatten:=by
 induction l generalizing s with
 | nil=>rfl
 | cons a l ih=>rw [List.flatten_cons,JY];exact ih _
theorem YD (l:List (List UInt8)):sumN l=sumN [l.flatten]:=by unfold sumN;rw [NQ,NQ];simp
end
end Go.Proofs.YtgfkgppomaapiaaGreatDoor.My
namespace Go.Proofs.YtgfkgppomaapiaaGreatDoor.My
open Go Go.RowKit Go.Proofs.YtgfkgppomaapiaaGreatDoorW.PrintWords
section
def zF (w:World) (b:Nat) (s:Nat × Nat):Prop:=w.heap[b]? = some (.cells #[.int .u32 (s.1:Int),.int .u32 (s.2:Int)] 159 (0,0))
set_option maxHeartbeats 1000000 in
theorem jk2 (b:Nat) (l h c:Int) (w:World) (hl0:0≤l) (hl:l<65521) (hh0:0≤h) (hh:h<65521) (hc0:0≤c) (hc:c<256)
  (hb:w.heap[b]? = some (.cells #[.int .u32 l,.int .u32 h] 159 (0,0))) :
  Calls Tryz.prog 100 #[.pointer (some ⟨b,0,none⟩),.int .u8 c] w fun e w'=>e=.returned (.tuple #[]) ∧
   w'.heap[b]? = some (.cells #[.int .u32 ((l+c) % 65521),.int .u32 ((h+(l+c) % 65521) % 65521)] 159 (0,0))∧Only b w w':=by
 have c0:w.cell? ⟨b,0,none⟩=some (.int .u32 l):=by simp [World.cell?,hb]
 have c1:w.cell? ⟨b,1,none⟩=some (.int .u32 h):=by simp [World.cell?,hb]
 have f0:w.frozen? ⟨b,0,none⟩=false:=by simp [World.frozen?,hb]
 have f1:w.frozen? ⟨b,1,none⟩=false:=by simp [World.frozen?,hb]
 have HB:=Lib.hid hb
 clear hb
 go_enter Tryz.func100,Tryz.ntmps100
 go_wp2
 all_goals (go_region;go_wp2)
 all_goals go_end0
 all_goals
  refine ⟨rfl,?_,?_⟩
  ·have hb:=HB.out
   simp only [World.drew,World.setCell,Array.getElem?_modify,hb]
   simp
   refine ⟨?_,?_⟩ <;> omega
  ·repeat (first | exact Only.refl _ _ | apply Only.drew | apply Only.set)
theorem add_any (b:Nat) (s:Nat × Nat) (c:UInt8) (w:World) (hf:Fine s) (hb:zF w b s) :
  Calls Tryz.prog 100 #[.pointer (some ⟨b,0,none⟩),.int .u8 (c.toNat:Int)] w fun e w'=>e=.returned (.tuple #[])∧zF w' b (vJ s c)∧Only b w w':=by
 have hc:=c.toNat_lt
 refine (jk2 b s.1 s.2 c.toNat w (by omega) (by have:=hf.1;omega) (by omega) (by have:=hf.2;omega) (by omega) (by omega) hb).mono ?_
 rintro e w' ⟨he,h,ho⟩
 refine ⟨he,?_,ho⟩
 unfold zF vJ
 simp only
 rw [h]
 have e1:((s.1:Int)+c.toNat) % 65521=(((s.1+c.toNat) % 65521:Nat):Int):=by omega
 rw [e1]
 have e2:((s.2:Int)+(((s.1+c.toNat) % 65521:Nat):Int)) % 65521=(((s.2+(s.1+c.toNat) % 65521) % 65521:Nat):Int):=by omega
 rw [e2]
theorem jm3 (s:Nat × Nat) (h:Fine s):bits .or .u32 ((s.2:Int) * 65536 % 4294967296) (s.1:Int)=(sumOf s:Int):=by
 obtain ⟨h1,h2⟩:=h
 have e:(s.2:Int) * 65536 % 4294967296=((s.2 * 65536:Nat):Int):=by omega
 rw [e,u32_or_nat _ _ (by omega) (by omega)]
 have:=Nat.shiftLeft_add_eq_or_of_lt (b:=s.1) (i:=16) (by omega) s.2
 rw [Nat.shiftLeft_eq] at this
 unfold sumOf
 rw [← this]
theorem ja7 (w:World):zF (w.alloc (.cells #[.int .u32 1,.int .u32 0] 159)) w.heap.size (adls (1,0) (List.take 0 [])):=by
 show (w.heap.push _)[w.heap.size]? = _
 simp [adls]
theorem pair_cells {w:World} {b:Nat} {s:Nat × Nat} (h:zF w b s):w.cell? ⟨b,0,none⟩=some (.int .u32 (s.1:Int))∧w.cell? ⟨b,1,none⟩=some (.int .u32 (s.2:Int)):=by
 unfold zF at h
 exact ⟨by simp [World.cell?,h],by simp [World.cell?,h]⟩
set_option maxHeartbeats 1000000 in
theorem sum_any (A:Option Addr) (c:Nat) (l:List (List UInt8)) (w:World) (hr:(Kd.slice 5 kb).C w A l.length l) :
  Calls Tryz.prog 69 #[.slice A l.length c] w fun e w'=>e=.returned (.int .u32 (sumN l:Int))∧Below w.heap.size w w':=by
 have hm:=lD hr
 have HR:=iC.mk hr
 clear hr
 go_enter Tryz.func69,Tryz.ntmps69
 go_wp2
 go_loopw [13] (fun i wr=>∃ k:Nat,k≤l.length∧i=.int .i64 k∧iC (zF wr w.heap.size (adls (1,0) (l.take k)))∧iC (Below w.heap.size w wr)) (fun i _=>l.length - (intOf i).toNat)
 case atStart=>exact ⟨0,Nat.zero_le _,rfl,⟨ja7 w⟩,⟨iD (Below.refl _ _) _⟩⟩
 case round =>
  obtain ⟨k,hk,rfl,HP,HB⟩:=hrel
  by_cases hlt:k<l.length
  ·obtain ⟨ad,A',c',rfl,hx,hxl,hxc⟩:=VN HR.out k hlt
   have hx':=vI HB.out hx
   clear hx hxl
   have hts:=iC.mk (kW [] l k hlt)
   have hxm:=lD hxc
   have HX:=iC.mk hxc
   clear hxc
   obtain ⟨x,hxe⟩:∃ x,x=l.getD k []:=⟨_,rfl⟩
   rw [← hxe] at hx' HX hts hxm
   clear hxe
   obtain ⟨wo,rfl⟩:∃ wo:World,wo=wr:=⟨_,rfl⟩
   go_wp2
   go_loopw [19] (fun j wi=>∃ m:Nat,m≤x.length∧j=.int .i64 m∧iC (zF wi w.heap.size (adl (adls (1,0) (l.take k)) (x.take m)))∧iC (Below w.heap.size w wi)) (fun j _=>x.length - (intOf j).toNat)
   case atStart=>exact ⟨0,Nat.zero_le _,rfl,HP,HB⟩
   case round =>
    obtain ⟨m,hmx,rfl,HPm,HBm⟩:=hrel
    by_cases hml:m<x.length
    ·obtain ⟨ad2,rfl,hb0⟩:=C_at HX.out m hml
     have hb1:=vI HBm.out hb0
     clear hb0
     have hts2:=iC.mk (kW 0 x m hml)
     have hfine:=iC.mk (RX (OD yM (l.take k)) (x.take m))
     generalize x.getD m 0=cb at hb1 hts2
     go_wp2_with (go_at_call 100;refine (add_any _ _ cb _ hfine.out HPm.out).mono ?_;rintro e w1 ⟨rfl,hp1,ho1⟩;have HP1:=iC.mk hp1;have HO1:=iC.mk ho1;clear hp1 ho1)
     go_roundw
     case rel=>exact ⟨m+1,by omega,by go_num,⟨by rw [hts2.out,TF];exact HP1.out⟩,⟨HO1.out.below (Nat.le_refl _) HBm.out⟩⟩
     case measure=>simp [intOf];omega
    ·obtain rfl:m=x.length:=by omega
     have HPx:=HPm.out
     rw [List.take_length] at HPx
     have HPx':=iC.mk HPx
     clear HPx
     go_wp2
     go_roundw
     case rel=>exact ⟨k+1,by omega,by go_num,⟨by rw [hts.out,NI];exact HPx'.out⟩,HBm⟩
     case measure=>simp [intOf];omega
  ·obtain rfl:k=l.length:=by omega
   obtain ⟨hp0,hp1⟩:=pair_cells HP.out
   go_wp2
   go_ret
   refine ⟨?_,HB.out⟩
   rw [jm3 _ (OD yM l)]
   rfl
theorem YH {b e:Nat} {fz:Nat × Nat} {cells:Array Value} {W:World} {n c:Nat} (ls:List (List UInt8)) (hb:W.heap[b]? = some (.cells cells e fz)) (hn:n=ls.length) (hm:ls.length≤9223372036854775807) (hc:Cs W cells.toList ls) :
  Calls Tryz.prog 69 #[.slice (some ⟨b,0,none⟩) n c] W fun e w'=>e=.returned (.int .u32 (sumN ls:Int))∧Below W.heap.size W w':=by
 subst hn
 exact sum_any _ _ ls W (ZN hb rfl hm hc)
end
end Go.Proofs.YtgfkgppomaapiaaGreatDoor.My
namespace Go.Proofs.YtgfkgppomaapiaaGreatDoor.My
section
def be4 (n:Nat):List UInt8:=[UInt8.ofNat (n / 16777216),UInt8.ofNat (n / 65536),UInt8.ofNat (n / 256),UInt8.ofNat n]
def mF (n size:Nat):List UInt8:=(be4 n).drop (4 - size)
def headB (n:Nat):List UInt8:=mF n 3
def qL (l:List UInt8):List UInt8:=mF (sumN [l]) 4
def kT (l:List UInt8):List UInt8:=headB l.length ++ l ++ qL (headB l.length ++ l)
theorem rV (n:Nat):(headB n).length=3:=rfl
theorem LU (l:List UInt8):(qL l).length=4:=rfl
theorem qH (l:List UInt8):(kT l).length=l.length+7:=by
 unfold kT
 rw [List.length_append,List.length_append,rV,LU]
 omega
def num3 (b:List UInt8):Nat:=(b.getD 0 0).toNat * 65536+(b.getD 1 0).toNat * 256+(b.getD 2 0).toNat
theorem X5 (n:Nat) (h:n<16777216) (r:List UInt8):num3 (headB n ++ r)=n:=by
 simp only [num3,headB,mF,be4,List.drop,List.cons_append,List.nil_append,List.getD_cons_zero,List.getD_cons_succ,UInt8.toNat_ofNat']
 omega
def lK (b:List UInt8):Option (List UInt8) :=
 if b.length<7 then none
 else if num3 b > 60000∨num3 b > b.length - 7 then none
 else if qL (b.take (3+num3 b))=(b.drop (3+num3 b)).take 4 then some ((b.drop 3).take (num3 b)) else none
theorem RU:∀ b:List UInt8,3≤b.length→headB (num3 b)=b.take 3
 | b0 :: b1 :: b2 :: r,_=>by
  have e0:=b0.toNat_lt
  have e1:=b1.toNat_lt
  have e2:=b2.toNat_lt
  show [UInt8.ofNat (num3 (b0 :: b1 :: b2 :: r) / 65536),UInt8.ofNat (num3 (b0 :: b1 :: b2 :: r) / 256),UInt8.ofNat (num3 (b0 :: b1 :: b2 :: r))]=[b0,b1,b2]
  have hn:num3 (b0 :: b1 :: b2 :: r)=b0.toNat * 65536+b1.toNat * 256+b2.toNat:=rfl
  rw [hn]
  simp only [List.cons.injEq,and_true,← UInt8.toNat_inj,UInt8.toNat_ofNat']
  omega
 | [],h=>by simp at h
 | [_],h=>by simp at h
 | [_,_],h=>by simp at h
theorem first_some {b x:List UInt8} (h:lK b=some x):x.length≤60000∧b=kT x ++ b.drop (x.length+7)∧x.length+7≤b.length:=by
 unfold lK at h
 split at h
 ·cases h
 ·rename_i h7
  split at h
  ·cases h
  ·rename_i hn
   split at h
   ·rename_i ht
    simp only [Option.some.injEq] at h
    have hxl:x.length=num3 b:=by rw [← h,List.length_take,List.length_drop];omega
    have hhead:headB x.length=b.take 3:=by rw [hxl];exact RU b (by omega)
    have hb3:b.take 3 ++ x=b.take (3+num3 b):=by rw [← h,List.take_add]
    refine ⟨by omega,?_,by omega⟩
    unfold kT
    rw [hhead,hb3,ht,hxl]
    rw [← List.take_add,show 3+num3 b+4=num3 b+7 from by omega,List.take_append_drop]
   ·cases h
theorem QP (b:List UInt8) (h7:7≤b.length) (h1:num3 b≤60000) (h2:num3 b≤b.length - 7) :
  lK b=if kT ((b.take (3+num3 b)).drop 3)=b.take (num3 b+7) then some ((b.take (3+num3 b)).drop 3) else none:=by
 have hd:(b.take (3+num3 b)).drop 3=(b.drop 3).take (num3 b):=by
  rw [List.drop_take]
  congr 1
  omega
 have hxl:((b.drop 3).take (num3 b)).length=num3 b:=by rw [List.length_take,List.length_drop];omega
 have hb3:b.take 3 ++ (b.drop 3).take (num3 b)=b.take (3+num3 b):=by rw [List.take_add]
 have hw:kT ((b.drop 3).take (num3 b))=b.take (3+num3 b) ++ qL (b.take (3+num3 b)):=by
  unfold kT
  rw [hxl,RU b (by omega),hb3]
 have ht:b.take (num3 b+7)=b.take (3+num3 b) ++ (b.drop (3+num3 b)).take 4:=by
  rw [← List.take_add]
  congr 1
  omega
 rw [hd,hw,ht]
 unfold lK
 rw [if_neg (by omega),if_neg (by omega)]
 by_cases h:qL (b.take (3+num3 b))=(b.drop (3+num3 b)).take 4
 ·rw [if_pos h,if_pos (by rw [h])]
 ·rw [if_neg h,if_neg (fun e=>h (List.append_cancel_left e))]
theorem UR (x r:List UInt8) (h:x.length≤60000):lK (kT x ++ r)=some x:=by
 have hw:=qH x
 have hn:num3 (kT x ++ r)=x.length:=by
  unfold kT
  rw [List.append_assoc,List.append_assoc]
  exact X5 _ (by omega) _
 have hl:(kT x ++ r).length=x.length+7+r.length:=by rw [List.length_append,hw]
 unfold lK
 rw [if_neg (by omega),if_neg (by omega),hn]
 have e1:(kT x ++ r).take (3+x.length)=headB x.length ++ x:=by
  unfold kT
  rw [List.append_assoc,List.take_append_of_le_length (by rw [List.length_append,rV];omega),List.take_of_length_le (by rw [List.length_append,rV];omega)]
 have e2:((kT x ++ r).drop (3+x.length)).take 4=qL (headB x.length ++ x):=by
  unfold kT
  rw [List.append_assoc,List.drop_append_of_le_length (by rw [List.length_append,rV];omega),List.drop_of_length_le (by rw [List.length_append,rV];omega),List.nil_append,List.take_append_of_le_length (by rw [LU];omega),List.take_of_length_le (by rw [LU];omega)]
 have e3:((kT x ++ r).drop 3).take x.length=x:=by
  unfold kT
  rw [List.append_assoc,List.append_assoc,List.drop_append_of_le_length (by rw [rV];omega),List.drop_of_length_le (by rw [rV];omega),List.nil_append,List.take_append_of_le_length (by omega),List.take_of_length_le (by omega)]
 rw [e1,e2,e3,if_pos rfl]
def OG:Nat→List UInt8→List (List UInt8)
 | 0,_=>[]
 | k+1,b=>match lK b with
  | none=>[]
  | some x=>x :: OG k (b.drop (x.length+7))
def kX (b:List UInt8):List (List UInt8):=OG b.length b
def endB (l:List (List UInt8)):Nat:=(l.map fun x=>x.length+7).sum
theorem U3:∀ (k:Nat) (b:List UInt8),b.length≤k→OG k b=OG b.length b:=by
 intro k
 induction k using Nat.strongRecOn with
 | _ k ih =>
  intro b hb
  rcases Nat.eq_zero_or_pos k with h0 | hk
  ·subst h0
   rw [show b.length=0 from by omega]
  ·obtain ⟨k,rfl⟩:∃ m,k=m+1:=⟨k - 1,by omega⟩
   rcases Nat.eq_zero_or_pos b.length with h0 | hb0
   ·have:b=[]:=List.length_eq_zero_iff.1 h0
    subst this
    simp [OG,lK]
   ·obtain ⟨m,hm⟩:∃ m,b.length=m+1:=⟨b.length - 1,by omega⟩
    rw [hm]
    unfold OG
    cases hf:lK b with
    | none=>rfl
    | some x =>
     simp only
     have hl:=(first_some hf).2.2
     have hd:(b.drop (x.length+7)).length≤m:=by rw [List.length_drop];omega
     rw [ih k (by omega) _ (by omega),← ih m (by omega) _ hd]
theorem lS {b:List UInt8} (h:lK b=none):kX b=[]:=by
 unfold kX
 cases b.length <;> simp [OG,h]
theorem qY {b x:List UInt8} (h:lK b=some x):kX b=x :: kX (b.drop (x.length+7)):=by
 have hl:=(first_some h).2.2
 unfold kX
 obtain ⟨m,hm⟩:∃ m,b.length=m+1:=⟨b.length - 1,by omega⟩
 rw [hm]
 conv=>lhs;unfold OG
 rw [h]
 simp only
 rw [U3 m _ (by rw [List.length_drop];omega)]
theorem uG (x:List UInt8) (l:List (List UInt8)):endB (x :: l)=x.length+7+endB l:=by simp [endB]
theorem rQ (a b:List (List UInt8)):endB (a ++ b)=endB a+endB b:=by simp [endB]
def NH (l:List (List UInt8)):List UInt8:=(l.map kT).flatten
theorem yR (x:List UInt8) (l:List (List UInt8)):NH (x :: l)=kT x ++ NH l:=by simp [NH]
theorem NV (l:List (List UInt8)):(NH l).length=endB l:=by
 induction l with
 | nil=>rfl
 | cons x l ih=>rw [yR,List.length_append,qH,ih,uG]
theorem WX (l:List (List UInt8)) (r:List UInt8) (h:∀ x∈l,x.length≤60000):kX (NH l ++ r)=l ++ kX r:=by
 induction l with
 | nil=>rfl
 | cons x l ih =>
  rw [yR,List.append_assoc,qY (UR x _ (h x List.mem_cons_self)),List.cons_append]
  congr 1
  rw [List.drop_append_of_le_length (by rw [qH];omega),List.drop_of_length_le (by rw [qH];omega),List.nil_append]
  exact ih (fun y hy=>h y (List.mem_cons_of_mem _ hy))
theorem QI (b:List UInt8):∃ r,b=NH (kX b) ++ r∧lK r=none∧∀ x∈kX b,x.length≤60000:=by
 generalize hk:b.length=k
 induction k using Nat.strongRecOn generalizing b with
 | _ k ih =>
  cases hf:lK b with
  | none=>exact ⟨b,by rw [lS hf];rfl,hf,fun x hx=>by rw [lS hf] at hx;cases hx⟩
  | some x =>
   obtain ⟨h1,h2,h3⟩:=first_some hf
   obtain ⟨r,e1,e2,e3⟩:=ih (b.drop (x.length+7)).length (by rw [List.length_drop];omega) _ rfl
   refine ⟨r,?_,e2,?_⟩
   ·rw [qY hf,yR,List.append_assoc,← e1]
    exact h2
   ·rw [qY hf]
    intro y hy
    rcases List.mem_cons.1 hy with rfl | hy
    ·exact h1
    ·exact e3 y hy
theorem YO (b:List UInt8):endB (kX b)≤b.length:=by
 obtain ⟨r,h,_⟩:=QI b
 conv=>rhs;rw [h]
 rw [List.length_append,NV]
 omega
end
end Go.Proofs.YtgfkgppomaapiaaGreatDoor.My
namespace Go.Proofs.YtgfkgppomaapiaaGreatDoor.My
open Go Go.RowKit Go.Proofs.YtgfkgppomaapiaaGreatDoorW.PrintWords Go.Proofs.YtgfkgppomaapiaaGreatDoorW.PrintMore
section
theorem add_plain' (g o j:Nat):(⟨g,o,none⟩:Addr).add j=⟨g,o+j,none⟩:=by unfold Addr.add;split <;> simp_all
theorem jm6 {W:World} {b e off n:Nat} {fz:Nat × Nat} {cells:Array Value} {l:List UInt8} (hb:W.heap[b]? = some (.cells cells e fz)) (hn:n=l.length) (hm:l.length≤9223372036854775807)
  (hc:∀ j p,l[j]? = some p→cells[off+j]? = some (.int .u8 (p.toNat:Int))):kb.C W (some ⟨b,off,none⟩) n l:=by
 subst hn
 refine ⟨rfl,hm,fun _=>⟨_,rfl,fun j p hj=>⟨[.int .u8 (p.toNat:Int)],rfl,rfl,fun i u hi=>?_⟩⟩⟩
 have hi0:i=0:=by
  rcases i with _ | i
  ·rfl
  ·simp at hi
 subst hi0
 have hu:u=.int .u8 (p.toNat:Int):=by simpa using hi.symm
 subst hu
 rw [add_plain',show kb.sz=1 from rfl,Nat.mul_one,Nat.add_zero]
 simp [World.cell?,hb,hc j p hj]
theorem zQ (n k:Nat):((UInt8.ofNat (n / k)).toNat:Int)=(n:Int) / k % 256:=by rw [UInt8.toNat_ofNat'];omega
theorem TE (n:Nat):((UInt8.ofNat n).toNat:Int)=(n:Int) % 256:=by rw [UInt8.toNat_ofNat'];omega
theorem je9 (n:Nat):∀ (j:Nat) (p:UInt8),(be4 n)[j]? = some p→#[Value.int .u8 ((n:Int) / 16777216 % 256),Value.int .u8 ((n:Int) / 65536 % 256),Value.int .u8 ((n:Int) / 256 % 256),Value.int .u8 ((n:Int) % 256)][j]? = some (Value.int .u8 (p.toNat:Int)):=by
 intro j p hj
 have b1:=zQ n 16777216
 have b2:=zQ n 65536
 have b3:=zQ n 256
 have b4:=TE n
 rcases j with _ | _ | _ | _ | j
 ·obtain rfl:UInt8.ofNat (n / 16777216)=p:=by simpa [be4] using hj
  rw [b1];rfl
 ·obtain rfl:UInt8.ofNat (n / 65536)=p:=by simpa [be4] using hj
  rw [b2];rfl
 ·obtain rfl:UInt8.ofNat (n / 256)=p:=by simpa [be4] using hj
  rw [b3];rfl
 ·obtain rfl:UInt8.ofNat n=p:=by simpa [be4] using hj
  rw [b4];rfl
 ·simp [be4] at hj
set_option maxHeartbeats 1000000 in
theorem jd8 (n:Nat) (w:World) :
  Calls Tryz.prog 67 #[.int .u32 (n:Int),.int .i64 4] w fun e w'=>∃ v,e=.returned v∧OB w' w.heap.size v (mF n 4)∧Below w.heap.size w w':=by
 go_enter Tryz.func67,Tryz.ntmps67
 go_wp2_with fail
 refine (JB _ _ (mF n 4) _ (jm6 (iP rfl) rfl (by show 4≤_;omega) (fun j p hj=>by rw [Nat.zero_add];exact je9 n j p hj)) (Nat.le_refl _) (by show 4≤_;omega)).mono ?_
 rintro e w1 ⟨v,rfl,ho,hb⟩
 go_wp2
 go_ret
 exact ⟨_,rfl,ho.lower (by simp),iH (by (repeat (first | exact Below.refl _ _ | apply iD | apply iW | apply iF | apply below_bytesWorld | (refine iL ?_ (by first | assumption | omega)) | refine iH ?_ (by assumption)))) hb⟩
set_option maxHeartbeats 1000000 in
theorem jn6 (n:Nat) (w:World) :
  Calls Tryz.prog 67 #[.int .u32 (n:Int),.int .i64 3] w fun e w'=>∃ v,e=.returned v∧OB w' w.heap.size v (mF n 3)∧Below w.heap.size w w':=by
 go_enter Tryz.func67,Tryz.ntmps67
 go_wp2_with fail
 refine (JB _ _ (mF n 3) _ (jm6 (iP rfl) rfl (by show 3≤_;omega) (fun j p hj=>by rw [Nat.add_comm];exact je9 n (j+1) p (by simpa [mF,be4] using hj))) (Nat.le_refl _) (by show 3≤_;omega)).mono ?_
 rintro e w1 ⟨v,rfl,ho,hb⟩
 go_wp2
 go_ret
 exact ⟨_,rfl,ho.lower (by simp),iH (by (repeat (first | exact Below.refl _ _ | apply iD | apply iW | apply iF | apply below_bytesWorld | (refine iL ?_ (by first | assumption | omega)) | refine iH ?_ (by assumption)))) hb⟩
theorem xZ (a b c:List UInt8):([a,b,c]:List (List UInt8)).flatten=a ++ b ++ c:=by simp
set_option maxHeartbeats 1000000 in
theorem wrap_any (A:Option Addr) (c:Nat) (l:List UInt8) (w:World) (hr:kb.C w A l.length l) (hc:l.length≤c) (hs:l.length≤60000) :
  Calls Tryz.prog 42 #[.slice A l.length c] w fun e w'=>∃ v,e=.returned (.tuple #[v,.int .u16 0])∧OB w' w.heap.size v (kT l)∧Below w.heap.size w w':=by
 have HL:=iC.mk hr
 clear hr
 have hs1:(l.length:Int)≤60000:=by omega
 go_enter Tryz.func42,Tryz.ntmps42
 go_wp2_with fail
 refine (jn6 l.length _).mono ?_
 rintro e w1 ⟨v1,rfl,ho1,hb1⟩
 obtain ⟨A1,c1,rfl,hc1,hC1⟩:=ho1.reads
 have HC1:=iC.mk hC1
 clear hC1 ho1
 go_wp2_with fail
 refine (YH [headB l.length,l] (by (repeat (first | (refine iP ?_;simp;done) | apply heap_drew' | apply jI | refine iI (by assumption) ?_))) rfl (by simp) (Cs.cons (n:=(mF l.length 3).length) (Kd.C_below HC1.out (by (repeat (first | exact Below.refl _ _ | apply iD | apply iW | apply iF | apply below_bytesWorld | (refine iL ?_ (by first | assumption | omega)) | refine iH ?_ (by assumption))))) hc1 (Cs.cons (Kd.C_below HL.out (by (repeat (first | exact Below.refl _ _ | apply iD | apply iW | apply iF | apply below_bytesWorld | (refine iL ?_ (by first | assumption | omega)) | refine iH ?_ (by assumption))))) hc (Cs.nil _)))).mono ?_
 rintro e w2 ⟨rfl,hb2⟩
 go_wp2_with fail
 have hsum:sumN [headB l.length,l]=sumN [headB l.length ++ l]:=by rw [YD];simp
 rw [hsum]
 have HSUM:=iC.mk hsum
 clear hsum
 refine (jd8 _ _).mono ?_
 rintro e w3 ⟨v3,rfl,ho3,hb3⟩
 obtain ⟨A3,c3,rfl,hc3,hC3⟩:=ho3.reads
 have HC3:=iC.mk hC3
 clear hC3 ho3
 go_wp2_with fail
 refine (QY _ _ [headB l.length,l,qL (headB l.length ++ l)] _ (ZN (by (repeat (first | (refine iP ?_;simp;done) | apply heap_drew' | apply jI | refine iI (by assumption) ?_))) rfl (by simp) (Cs.cons (n:=(mF l.length 3).length) (Kd.C_below HC1.out (by (repeat (first | exact Below.refl _ _ | apply iD | apply iW | apply iF | apply below_bytesWorld | (refine iL ?_ (by first | assumption | omega)) | refine iH ?_ (by assumption))))) hc1 (Cs.cons (Kd.C_below HL.out (by (repeat (first | exact Below.refl _ _ | apply iD | apply iW | apply iF | apply below_bytesWorld | (refine iL ?_ (by first | assumption | omega)) | refine iH ?_ (by assumption))))) hc (Cs.cons (n:=(mF (sumN [headB l.length ++ l]) 4).length) (Kd.C_below HC3.out (by (repeat (first | exact Below.refl _ _ | apply iD | apply iW | apply iF | apply below_bytesWorld | (refine iL ?_ (by first | assumption | omega)) | refine iH ?_ (by assumption))))) hc3 (Cs.nil _))))) (by rw [xZ];have:=qH l;unfold kT at this;omega)).mono ?_
 rintro e w4 ⟨v4,rfl,ho4,hb4⟩
 rw [xZ] at ho4
 have HO4:=iC.mk ho4
 clear ho4
 go_wp2
 go_ret2
 exact ⟨_,rfl,HO4.out.lower (iT (by (repeat (first | exact Below.refl _ _ | apply iD | apply iW | apply iF | apply below_bytesWorld | (refine iL ?_ (by first | assumption | omega)) | refine iH ?_ (by assumption))))),by (repeat (first | exact Below.refl _ _ | apply iD | apply iW | apply iF | apply below_bytesWorld | (refine iL ?_ (by first | assumption | omega)) | refine iH ?_ (by assumption)))⟩
theorem uS (n size k:Nat) (hs:size≤4) (hk:k<size):(mF n size).take (size - k)=(mF n size).take (size - (k+1)) ++ [UInt8.ofNat (n / 256 ^ k)]:=by
 have h:size=0∨size=1∨size=2∨size=3∨size=4:=by omega
 have h':k=0∨k=1∨k=2∨k=3:=by omega
 rcases h with rfl | rfl | rfl | rfl | rfl <;> rcases h' with rfl | rfl | rfl | rfl <;> first | omega | simp [mF,be4]
theorem OB.one {W:World} {b:Nat} {n k:Nat} (hb:b=W.heap.size) (e:Nat):kb.C (W.alloc (.cells #[.int .u8 ((n:Int) / k % 256)] e)) (some ⟨b,0,none⟩) 1 [UInt8.ofNat (n / k)] :=
 jl1 hb rfl (by simp) (by rw [List.map_cons,List.map_nil,zQ])
theorem OB.one0 {W:World} {b:Nat} {n:Nat} (hb:b=W.heap.size) (e:Nat):kb.C (W.alloc (.cells #[.int .u8 ((n:Int) % 256)] e)) (some ⟨b,0,none⟩) 1 [UInt8.ofNat n] :=
 jl1 hb rfl (by simp) (by rw [List.map_cons,List.map_nil,TE])
end
end Go.Proofs.YtgfkgppomaapiaaGreatDoor.My
namespace Go.Proofs.YtgfkgppomaapiaaGreatDoor.My
open Go Go.RowKit Go.Proofs.YtgfkgppomaapiaaGreatDoorW.PrintWords Go.Proofs.YtgfkgppomaapiaaGreatDoorW.PrintMore Go.Proofs.YtgfkgppomaapiaaGreatDoorW.PrintLast
section
theorem TZ (l:List UInt8) (x0 x1 x2:UInt8) (h0:x0=l.getD 0 0) (h1:x1=l.getD 1 0) (h2:x2=l.getD 2 0) :
  (x0.toNat:Int) * 65536+(x1.toNat:Int) * 256+(x2.toNat:Int)=(num3 l:Int):=by
 subst h0;subst h1;subst h2
 unfold num3
 omega
theorem jh6 (a b:List UInt8):(a == b)=decide (a=b):=by rw [Bool.eq_iff_iff];simp
def OBB (w:World) (base:Nat) (v:Value) (ls:List (List UInt8)):Prop:=(Kd.slice 5 kb).R 22 w base (fun _=>True) v ls
theorem OBB.below {w w':World} {base:Nat} {v:Value} {l:List (List UInt8)} (h:OBB w base v l) (hb:Below w.heap.size w w'):OBB w' base v l:=Kd.R_below h hb
theorem OBB.reads {w:World} {base:Nat} {v:Value} {l:List (List UInt8)} (h:OBB w base v l):∃ A c,v=.slice A l.length c∧l.length≤c∧(Kd.slice 5 kb).C w A l.length l:=Kd.R_reads h
theorem OBB.nil (w:World) (base:Nat):OBB w base (.slice none 0 0) []:=Kd.R_nil _ _ _ _ _
theorem OBB.lower {w:World} {base base':Nat} {v:Value} {l:List (List UInt8)} (h:OBB w base v l) (hb:base'≤base):OBB w base' v l:=Kd.R_lower h hb
theorem XM:(Tryz.prog.info? 22).map (fun i=>(i.zero,i.size,i.bytes))=some (some (.slice none 0 0),(Kd.slice 5 kb).sz,24):=by kernel_rfl
theorem RV {w:World} {base:Nat} {v x:Value} {ls:List (List UInt8)} {l:List UInt8} (h:OBB w base v ls) (hx:OB w base x l):(Kd.slice 5 kb).M w base (fun k=>some k≠v.ownBlock) l [x]:=by
 refine ⟨x,rfl,?_⟩
 cases hv:v.ownBlock with
 | none=>exact Kd.R_mono hx (fun k _=>by simp)
 | some g =>
  obtain ⟨inner,ho⟩:=Kd.R_own h
  obtain ⟨cells,hc⟩:=pJ ho g hv
  exact Kd.R_mono (Kd.R_types hx hc (by decide)) (fun k hk e=>hk.2 (by injection e))
end
section
def je4 {α:Type} (F:Fence) (n:Nat) (P:Program) (g:Nat) (lb:Array Value) (encs:α→Array Value) (Kp:World→World→Prop) (G:α→World→Prop) (S:List α→Prop) (N:Nat) (w:World):Prop :=
 ∀ (l:Nat) (J:List α→World→Prop) (W:World),Below w.heap.size w W→(∀ s A B,J s A→Below A.heap.size A B→J s B) →
  (∀ pre x W1,J pre W1→G x W1→pre.length<N→YieldAt F (n - 1) P l (encs x) W1 fun e W'=>e=.returned (.bool true)∧J (pre ++ [x]) W'∧Kp W1 W')→J [] W →
  CallsIn F n P g (#[.func (.yield l) #[] #[]] ++ lb) W fun e W'=>(∃ v,e=.returned v)∧∃ xs,S xs∧J xs W'
theorem jh2 {F:Fence} {n:Nat} {P:Program} {α:Type} {g:Operand} {ps:Array Tmp} {assign body:Code} {Q:Exit→Act→World→Prop} {a:Act} {w:World}
  (hro:F.round=none) (h1:1≤n) {gf:Nat} {lb:Array Value} (hg:a.eval g=.func (.func gf) #[] lb) (hFg:F.fn gf) (eg:∀ args w,(callFunc gf args).run P w=.ok (.enter gf args) w)
  {encs:α→Array Value} {Kp:World→World→Prop} {G:α→World→Prop} {S:List α→Prop} {N:Nat} {w0:World} (hseq:je4 F (n - 1) P gf lb encs Kp G S N w0)
  (hKt:∀ {A B C:World},Kp A B→Kp B C→Kp A C) (hKb:∀ (W:World) (l:Nat) (r:Loop) (o':Obj),w.heap.size≤l→W.heap[l]? = some (.loop r)→Kp W (W.putObj l o')) (hb0:Below w0.heap.size w0 w) (hps:∀ x,(encs x).size=ps.size)
  (I:List α→World→Prop) (hIb:∀ s A B,I s A→Below A.heap.size A B→I s B) (hIp:∀ s A l r o',I s A→w.heap.size≤l→A.heap[l]? = some (.loop r)→I s (A.putObj l o'))
  (hGp:∀ x A l r o',G x A→w.heap.size≤l→A.heap[l]? = some (.loop r)→G x (A.putObj l o')) (h0:I [] w) (a₁:α→Act)
  (hassign:∀ (l:Nat) (x:α) (W:World) (K:Act→World→Prop),K (a₁ x) W →
   assign.wpIn (F.inRound l) (n - 1 - 1) P (Exit.then K (fun _ _ _=>False)) { tmps:=(ps.zip (encs x)).foldl (fun t (p,v)=>t.setIfInBounds p v) a.tmps,defers:=[] } W)
  (hbody:∀ (l:Nat) (pre:List α) (x:α) (W:World),w.heap.size≤l→I pre W→G x W→pre.length<N→body.wpIn (F.inRound l) (n - 1 - 1) P (fun e _ W'=>e=.normal∧KeepsFrom w.heap.size W W'∧Kp W W'∧I (pre ++ [x]) W') (a₁ x) W)
  (hdone:∀ (D:Nat) (xs:List α) (W:World),w.heap.size≤D→S xs→I xs W→W.heap[D]? = some (.deferred (some []))→Q .normal { a with defers:={ target:=.collected D,args:=#[] } :: a.defers } W) :
  (Code.rangeFunc g ps assign body).wpIn F n P Q a w:=by
 refine wpIn_rangeFunc ?_
 intro fn hfn
 rw [hro]
 obtain ⟨rc,hrc⟩:∃ rc:LoopState→Option Code→Loop,rc=fun st pe=>{ state:=st,pending:=pe,fn,tmps:=a.tmps,params:=ps,assign,body,defers:=w.heap.size }:=⟨_,rfl⟩
 obtain ⟨W1,hW1⟩:∃ W1,(w.alloc (.deferred (some []))).alloc (.loop (rc .ready none))=W1:=⟨_,rfl⟩
 have hbW:Below w.heap.size w W1:=by rw [← hW1];exact iD (iD (Below.refl _ _) _) _
 have hL1:W1.heap[w.heap.size+1]? = some (.loop (rc .ready none)):=by rw [← hW1];exact iP (by simp)
 have hK1:W1.heap[w.heap.size]? = some (.deferred (some [])):=by rw [← hW1];exact jI (iP rfl)
 refine ⟨w.heap.size+1,[{ target:=.collected w.heap.size,args:=#[] }],W1,{ target:=.fn (.func gf) lb,args:=#[.func (.yield (w.heap.size+1)) #[] #[]] },W1,gf,#[.func (.yield (w.heap.size+1)) #[] #[]] ++ lb,W1,?_,?_,?_,?_,fun _=>h1,?_⟩
 ·rw [← hW1,hrc];exact run_enterLoop_outer _ _ _ _ _
 ·simp only [resolve,hg]
  simp [go_sem]
 ·intro f' hf';simp [Target.leads] at hf';subst hf';exact hFg
 ·simp [invoke,go_sem,eg]
 ·refine (hseq (w.heap.size+1)
   (fun pre W=>I pre W∧W.heap[w.heap.size+1]? = some (.loop (rc .ready none))∧W.heap[w.heap.size]? = some (.deferred (some [])))
   W1 (hb0.trans (hbW.mono hb0.size)) (fun s A B hs hb=>⟨hIb s A B hs.1 hb,iI hb hs.2.1,iI hb hs.2.2⟩) ?_ ⟨hIb _ _ _ h0 hbW,hL1,hK1⟩).mono ?_
  ·rintro pre x W ⟨hi,hl,hk⟩ hG hlen
   have hlt:w.heap.size+1<W.heap.size:=jH hl
   have hy:=run_yield (P:=P) (args:=encs x) hl (by rw [hrc];exact hps x)
   rw [hrc] at hy
   refine ⟨fn,_,assign,body,hy,roundIn_of_wpIn hfn (hassign _ x W _ ⟨_,run_beginRound hl (by rw [hrc]),?_⟩)⟩
   have hl2:(W.putObj (w.heap.size+1) (.loop { rc .ready none with state:=.busy })).heap[w.heap.size+1]? = some (.loop { rc .ready none with state:=.busy }):=World.putObj_heap_same hlt
   have hk2:(W.putObj (w.heap.size+1) (.loop { rc .ready none with state:=.busy })).heap[w.heap.size]? = some (.deferred (some [])):=(World.putObj_heap_other (by omega)).trans hk
   refine wpIn_mono (hbody _ pre x _ (by omega) (hIp _ _ _ _ _ hi (by omega) hl) (hGp _ _ _ _ _ hG (by omega) hl) hlen) ?_
   rintro e a3 W3 ⟨rfl,hk3,hkp3,hi3⟩
   have hl3:=hk3.same _ _ (by omega) hl2 rfl
   have hr:=run_endRound (P:=P) none hl3
   refine ⟨_,_,hr,rfl,⟨hIp _ _ _ _ _ hi3 (by omega) hl3,?_,?_⟩,hKt (hKt (hKb _ _ _ _ (by omega) hl) hkp3) (hKb _ _ _ _ (by omega) hl3)⟩
   ·rw [hrc];exact World.putObj_heap_same (jH hl3)
   ·exact (World.putObj_heap_other (by omega)).trans (hk3.same _ _ (Nat.le_refl _) hk2 rfl)
  ·rintro e W2 ⟨⟨v,rfl⟩,xs,hS,hi,hl,hk⟩
   have hend:=run_endLoop (P:=P) hl (by rw [hrc];simp)
   refine ⟨_,_,hend,?_⟩
   have hp:(rc .ready none).pending=none:=by rw [hrc]
   rw [hp]
   exact hdone _ xs _ (Nat.le_refl _) hS (hIp _ _ _ _ _ hi (by omega) hl) ((World.putObj_heap_other (by omega)).trans hk)
end
end Go.Proofs.YtgfkgppomaapiaaGreatDoor.My
