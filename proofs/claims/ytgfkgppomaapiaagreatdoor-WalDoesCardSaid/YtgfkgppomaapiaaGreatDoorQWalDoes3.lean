/- Parts of the proof, one behind the other: K65, K66, CodeB, K15, K20, K21, CodeR, CodeS, RefB, RefS, Buf. -/
import Derived.Test.YtgfkgppomaapiaaGreatDoorQWalDoes2
import Derived.Shelf.Abstract
set_option linter.unusedVariables false
set_option linter.unusedSimpArgs false
namespace Go.Proofs.YtgfkgppomaapiaaGreatDoor.K
open Go.RowKit Go.Proofs.YtgfkgppomaapiaaGreatDoorW.PrintWords Go.Proofs.YtgfkgppomaapiaaGreatDoorW.PrintLast Go.Proofs.YtgfkgppomaapiaaGreatDoorW.PrintMore
section
attribute [local go_sem] kL kH kZ lC
def stratumref07_spans.l0:Nat→List (S122)→Int→Option (Bool)
 | 0,_,_=>none
 | k+1,x0,x3=>if x3<(x0.length:Int) then (if 0≤x3 then (if ((jO x0 x3).f0)<0 then (some false) else (if ((jO x0 x3).f0) > 9999 then (some false) else (if ((jO x0 x3).f1)<0 then (some false) else (if ((jO x0 x3).f1) > 5 then (some false) else (stratumref07_spans.l0 k x0 (wrap64 (x3+1))))))) else (none)) else (some (decide ((x0.length:Int)≤40)))
def stratumref07_spans.f (k:Nat) (l0:List (S122)):Option (Bool):=stratumref07_spans.l0 k l0 0
set_option maxHeartbeats 8000000 in
set_option maxRecDepth 100000 in
theorem stratumref07_spans.calls (k:Nat) (A0:Option Addr) (c0:Nat) (l0:List (S122)) (r:Bool) (w:World) (hr0:Kd.C k122 w A0 l0.length l0) (hc0:l0.length≤c0) (h:stratumref07_spans.f k l0=some r) :
  Calls Tryz.prog 104 #[.slice A0 l0.length c0] w fun e w'=>e=.returned (.bool r)∧jD w w':=by
 have HR0:=iC.mk hr0
 have HC0:=iC.mk hc0
 clear hr0 hc0
 have H:(stratumref07_spans.l0 k l0 0)=some r:=h
 clear h
 have H':=iC.mk H
 clear H
 go_enter Tryz.func104,Tryz.ntmps104
 go_wp2
 go_loopg [3] k (fun kq v3 w'=>∃ (x3_1:Int),v3=.int .i64 x3_1∧iC (stratumref07_spans.l0 kq l0 x3_1=some r)∧iC (kq≤k)∧jD w w')
 case atStart=>exact ⟨(0),(by first | rfl | (simp;done) | (simp [*];done)),H',⟨Nat.le_refl _⟩,by repeat (first | exact jD.refl _ | apply jD.step)⟩
 case round =>
  clear H'
  try clear c1
  obtain ⟨x3_1,rfl,HA,HK1,⟨m1,rfl⟩⟩:=hrel
  cases gk with
  | zero=>exact absurd HA.out (by simp [stratumref07_spans.l0])
  | succ k1 =>
   have H:=HA.out
   clear HA
   simp only [stratumref07_spans.l0] at H
   by_cases c2:x3_1<(l0.length:Int)
   ·rw [if_pos c2] at H
    have c2b0:decide (x3_1<(l0.length:Int))=true:=decide_eq_true c2
    clear c2
    by_cases c3:0≤x3_1
    ·rw [if_pos c3] at H
     have c3b0:decide (0≤x3_1)=true:=decide_eq_true c3
     clear c3
     by_cases c4:((jO l0 x3_1).f0)<0
     ·rw [if_pos c4] at H
      have c4b0:decide (((jO l0 x3_1).f0)<0)=true:=decide_eq_true c4
      clear c4
      obtain rfl:=Option.some.inj H
      have p155:0≤(x3_1:Int):=of_decide_eq_true asm_
      have q155:x3_1<(l0.length:Int):=of_decide_eq_true asm_
      obtain ⟨ad155,e155,hx155_0,hx155_1⟩:=lQ HR0.out x3_1 p155 q155
      cases e155
      replace p155:=eq_true p155
      replace q155:=eq_true q155
      go_wp2
      go_ret
      exact ⟨by first | rfl | (simp;done) | (simp [*];done),by repeat (first | exact jD.refl _ | apply jD.step)⟩
     ·rw [if_neg c4] at H
      have c4b0:decide (((jO l0 x3_1).f0)<0)=false:=decide_eq_false c4
      clear c4
      by_cases c5:((jO l0 x3_1).f0) > 9999
      ·rw [if_pos c5] at H
       have c5b0:decide (9999<((jO l0 x3_1).f0))=true:=decide_eq_true c5
       clear c5
       obtain rfl:=Option.some.inj H
       have p155:0≤(x3_1:Int):=of_decide_eq_true asm_
       have q155:x3_1<(l0.length:Int):=of_decide_eq_true asm_
       obtain ⟨ad155,e155,hx155_0,hx155_1⟩:=lQ HR0.out x3_1 p155 q155
       cases e155
       replace p155:=eq_true p155
       replace q155:=eq_true q155
       have p156:0≤(x3_1:Int):=of_decide_eq_true asm_
       have q156:x3_1<(l0.length:Int):=of_decide_eq_true asm_
       obtain ⟨ad156,e156,hx156_0,hx156_1⟩:=lQ HR0.out x3_1 p156 q156
       obtain rfl:ad155=ad156:=(by injection e156)
       replace p156:=eq_true p156
       replace q156:=eq_true q156
       go_wp2
       go_ret
       exact ⟨by first | rfl | (simp;done) | (simp [*];done),by repeat (first | exact jD.refl _ | apply jD.step)⟩
      ·rw [if_neg c5] at H
       have c5b0:decide (9999<((jO l0 x3_1).f0))=false:=decide_eq_false c5
       clear c5
       by_cases c6:((jO l0 x3_1).f1)<0
       ·rw [if_pos c6] at H
        have c6b0:decide (((jO l0 x3_1).f1)<0)=true:=decide_eq_true c6
        clear c6
        obtain rfl:=Option.some.inj H
        have p155:0≤(x3_1:Int):=of_decide_eq_true asm_
        have q155:x3_1<(l0.length:Int):=of_decide_eq_true asm_
        obtain ⟨ad155,e155,hx155_0,hx155_1⟩:=lQ HR0.out x3_1 p155 q155
        cases e155
        replace p155:=eq_true p155
        replace q155:=eq_true q155
        have p156:0≤(x3_1:Int):=of_decide_eq_true asm_
        have q156:x3_1<(l0.length:Int):=of_decide_eq_true asm_
        obtain ⟨ad156,e156,hx156_0,hx156_1⟩:=lQ HR0.out x3_1 p156 q156
        obtain rfl:ad155=ad156:=(by injection e156)
        replace p156:=eq_true p156
        replace q156:=eq_true q156
        have p157:0≤(x3_1:Int):=of_decide_eq_true asm_
        have q157:x3_1<(l0.length:Int):=of_decide_eq_true asm_
        obtain ⟨ad157,e157,hx157_0,hx157_1⟩:=lQ HR0.out x3_1 p157 q157
        obtain rfl:ad155=ad157:=(by injection e157)
        replace p157:=eq_true p157
        replace q157:=eq_true q157
        go_wp2
        go_ret
        exact ⟨by first | rfl | (simp;done) | (simp [*];done),by repeat (first | exact jD.refl _ | apply jD.step)⟩
       ·rw [if_neg c6] at H
        have c6b0:decide (((jO l0 x3_1).f1)<0)=false:=decide_eq_false c6
        clear c6
        by_cases c7:((jO l0 x3_1).f1) > 5
        ·rw [if_pos c7] at H
         have c7b0:decide (5<((jO l0 x3_1).f1))=true:=decide_eq_true c7
         clear c7
         obtain rfl:=Option.some.inj H
         have p155:0≤(x3_1:Int):=of_decide_eq_true asm_
         have q155:x3_1<(l0.length:Int):=of_decide_eq_true asm_
         obtain ⟨ad155,e155,hx155_0,hx155_1⟩:=lQ HR0.out x3_1 p155 q155
         cases e155
         replace p155:=eq_true p155
         replace q155:=eq_true q155
         have p156:0≤(x3_1:Int):=of_decide_eq_true asm_
         have q156:x3_1<(l0.length:Int):=of_decide_eq_true asm_
         obtain ⟨ad156,e156,hx156_0,hx156_1⟩:=lQ HR0.out x3_1 p156 q156
         obtain rfl:ad155=ad156:=(by injection e156)
         replace p156:=eq_true p156
         replace q156:=eq_true q156
         have p157:0≤(x3_1:Int):=of_decide_eq_true asm_
         have q157:x3_1<(l0.length:Int):=of_decide_eq_true asm_
         obtain ⟨ad157,e157,hx157_0,hx157_1⟩:=lQ HR0.out x3_1 p157 q157
         obtain rfl:ad155=ad157:=(by injection e157)
         replace p157:=eq_true p157
         replace q157:=eq_true q157
         have p158:0≤(x3_1:Int):=of_decide_eq_true asm_
         have q158:x3_1<(l0.length:Int):=of_decide_eq_true asm_
         obtain ⟨ad158,e158,hx158_0,hx158_1⟩:=lQ HR0.out x3_1 p158 q158
         obtain rfl:ad155=ad158:=(by injection e158)
         replace p158:=eq_true p158
         replace q158:=eq_true q158
         go_wp2
         go_ret
         exact ⟨by first | rfl | (simp;done) | (simp [*];done),by repeat (first | exact jD.refl _ | apply jD.step)⟩
        ·rw [if_neg c7] at H
         have c7b0:decide (5<((jO l0 x3_1).f1))=false:=decide_eq_false c7
         clear c7
         have H':=iC.mk H
         clear H
         have p155:0≤(x3_1:Int):=of_decide_eq_true asm_
         have q155:x3_1<(l0.length:Int):=of_decide_eq_true asm_
         obtain ⟨ad155,e155,hx155_0,hx155_1⟩:=lQ HR0.out x3_1 p155 q155
         cases e155
         replace p155:=eq_true p155
         replace q155:=eq_true q155
         have p156:0≤(x3_1:Int):=of_decide_eq_true asm_
         have q156:x3_1<(l0.length:Int):=of_decide_eq_true asm_
         obtain ⟨ad156,e156,hx156_0,hx156_1⟩:=lQ HR0.out x3_1 p156 q156
         obtain rfl:ad155=ad156:=(by injection e156)
         replace p156:=eq_true p156
         replace q156:=eq_true q156
         have p157:0≤(x3_1:Int):=of_decide_eq_true asm_
         have q157:x3_1<(l0.length:Int):=of_decide_eq_true asm_
         obtain ⟨ad157,e157,hx157_0,hx157_1⟩:=lQ HR0.out x3_1 p157 q157
         obtain rfl:ad155=ad157:=(by injection e157)
         replace p157:=eq_true p157
         replace q157:=eq_true q157
         have p158:0≤(x3_1:Int):=of_decide_eq_true asm_
         have q158:x3_1<(l0.length:Int):=of_decide_eq_true asm_
         obtain ⟨ad158,e158,hx158_0,hx158_1⟩:=lQ HR0.out x3_1 p158 q158
         obtain rfl:ad155=ad158:=(by injection e158)
         replace p158:=eq_true p158
         replace q158:=eq_true q158
         go_wp2
         go_roundg k1
         case measure=>have:=HK1.out;omega
         case rel=>exact ⟨(wrap64 (x3_1+1)),(by first | rfl | (simp;done) | (simp [*];done)),H',⟨by have:=HK1.out;omega⟩,by repeat (first | exact jD.refl _ | apply jD.step)⟩
    ·rw [if_neg c3] at H
     exact absurd H (by simp)
   ·rw [if_neg c2] at H
    have c2b0:decide (x3_1<(l0.length:Int))=false:=decide_eq_false c2
    clear c2
    obtain rfl:=Option.some.inj H
    go_wp2
    go_ret
    exact ⟨by first | rfl | (simp;done) | (simp [*];done),by repeat (first | exact jD.refl _ | apply jD.step)⟩
end
section
attribute [local go_sem] kL kH kZ lC
def stratumref07_SoundEntries.l0:Nat→List (S114)→Int→Option (Bool)
 | 0,_,_=>none
 | k+1,x0,x3=>if x3<(x0.length:Int) then (if 0≤x3 then ((stratumref07_SoundFacts.f k ((iK x0 x3).f1)).bind fun t160=>(if t160=true then (if x3 > 0 then (if 0≤(wrap64 (x3 - 1)) then (if (wrap64 (x3 - 1))<(x0.length:Int) then (if ((iK x0 x3).f0)≤((iK x0 (wrap64 (x3 - 1))).f0) then (some false) else (stratumref07_SoundEntries.l0 k x0 (wrap64 (x3+1)))) else (none)) else (none)) else (stratumref07_SoundEntries.l0 k x0 (wrap64 (x3+1)))) else (some false))) else (none)) else (some (decide ((x0.length:Int)≤5000)))
def stratumref07_SoundEntries.f (k:Nat) (l0:List (S114)):Option (Bool):=stratumref07_SoundEntries.l0 k l0 0
set_option maxHeartbeats 8000000 in
set_option maxRecDepth 100000 in
theorem stratumref07_SoundEntries.calls (k:Nat) (A0:Option Addr) (c0:Nat) (l0:List (S114)) (r:Bool) (w:World) (hr0:Kd.C k114 w A0 l0.length l0) (hc0:l0.length≤c0) (h:stratumref07_SoundEntries.f k l0=some r) :
  Calls Tryz.prog 105 #[.slice A0 l0.length c0] w fun e w'=>e=.returned (.bool r)∧jD w w':=by
 have HR0:=iC.mk hr0
 have HC0:=iC.mk hc0
 clear hr0 hc0
 have H:(stratumref07_SoundEntries.l0 k l0 0)=some r:=h
 clear h
 have H':=iC.mk H
 clear H
 go_enter Tryz.func105,Tryz.ntmps105
 go_wp2
 repeat (go_quiet (fail);try go_wp2)
 go_loopg [3] k (fun kq v3 w'=>∃ (x3_1:Int),v3=.int .i64 x3_1∧iC (stratumref07_SoundEntries.l0 kq l0 x3_1=some r)∧iC (kq≤k)∧jD w w')
 case atStart=>exact ⟨(0),(by first | rfl | (simp;done) | (simp [*];done)),H',⟨Nat.le_refl _⟩,by repeat (first | exact jD.refl _ | apply jD.step)⟩
 case round =>
  clear H'
  try clear c1
  obtain ⟨x3_1,rfl,HA,HK1,⟨m1,rfl⟩⟩:=hrel
  cases gk with
  | zero=>exact absurd HA.out (by simp [stratumref07_SoundEntries.l0])
  | succ k1 =>
   have H:=HA.out
   clear HA
   simp only [stratumref07_SoundEntries.l0] at H
   by_cases c2:x3_1<(l0.length:Int)
   ·rw [if_pos c2] at H
    have c2b0:decide (x3_1<(l0.length:Int))=true:=decide_eq_true c2
    clear c2
    by_cases c3:0≤x3_1
    ·rw [if_pos c3] at H
     have c3b0:decide (0≤x3_1)=true:=decide_eq_true c3
     clear c3
     replace H:=Option.bind_eq_some_iff.mp H
     obtain ⟨t160,A40,H⟩:=H
     replace H:(if t160=true then (if x3_1 > 0 then (if 0≤(wrap64 (x3_1 - 1)) then (if (wrap64 (x3_1 - 1))<(l0.length:Int) then (if ((iK l0 x3_1).f0)≤((iK l0 (wrap64 (x3_1 - 1))).f0) then (some false) else (stratumref07_SoundEntries.l0 k1 l0 (wrap64 (x3_1+1)))) else (none)) else (none)) else (stratumref07_SoundEntries.l0 k1 l0 (wrap64 (x3_1+1)))) else (some false))=some r:=H
     have A4:=iC.mk A40
     clear A40
     by_cases c5:t160=true
     ·subst c5
      have H1:(if x3_1 > 0 then (if 0≤(wrap64 (x3_1 - 1)) then (if (wrap64 (x3_1 - 1))<(l0.length:Int) then (if ((iK l0 x3_1).f0)≤((iK l0 (wrap64 (x3_1 - 1))).f0) then (some false) else (stratumref07_SoundEntries.l0 k1 l0 (wrap64 (x3_1+1)))) else (none)) else (none)) else (stratumref07_SoundEntries.l0 k1 l0 (wrap64 (x3_1+1))))=some r:=by rw [if_pos rfl] at H;exact H
      clear H
      have H:=H1
      clear H1
      by_cases c6:x3_1 > 0
      ·rw [if_pos c6] at H
       have c6b0:decide (0<x3_1)=true:=decide_eq_true c6
       clear c6
       obtain ⟨ji7,hji7⟩:∃ j_:Int,(wrap64 (x3_1 - 1))=j_:=⟨_,rfl⟩
       replace H:(if 0≤(ji7) then (if (ji7)<(l0.length:Int) then (if ((iK l0 x3_1).f0)≤((iK l0 (ji7)).f0) then (some false) else (stratumref07_SoundEntries.l0 k1 l0 (wrap64 (x3_1+1)))) else (none)) else (none))=some r:=by first | (rw [hji7] at H;exact H) | (simp only [hji7] at H ⊢;exact H)
       (try rw [hji7] at A4)
       have hji7w:(IntKind.i64.wrap (x3_1 - 1))=ji7:=(iO _).trans hji7
       by_cases c8:0≤(ji7)
       ·rw [if_pos c8] at H
        have c8b0:decide (0≤(ji7))=true:=decide_eq_true c8
        clear c8
        by_cases c9:(ji7)<(l0.length:Int)
        ·rw [if_pos c9] at H
         have c9b0:decide ((ji7)<(l0.length:Int))=true:=decide_eq_true c9
         clear c9
         by_cases c10:((iK l0 x3_1).f0)≤((iK l0 (ji7)).f0)
         ·rw [if_pos c10] at H
          have c10b0:decide (((iK l0 x3_1).f0)≤((iK l0 (ji7)).f0))=true:=decide_eq_true c10
          clear c10
          obtain rfl:=Option.some.inj H
          have p159:0≤(x3_1:Int):=of_decide_eq_true asm_
          have q159:x3_1<(l0.length:Int):=of_decide_eq_true asm_
          obtain ⟨ad159,A159_1,c159_1,e159,hx159_0,hx159_1,hl159_1,hi159_1⟩:=kN HR0.out x3_1 p159 q159
          cases e159
          have HR159_1:=iC.mk hi159_1
          have HC159_1:=iC.mk hl159_1
          clear hi159_1 hl159_1
          replace p159:=eq_true p159
          replace q159:=eq_true q159
          go_wp2_with (first | (go_at_call 103;(with_reducible refine (stratumref07_SoundFacts.calls k1 _ _ ((iK l0 x3_1).f1) true _ ?side1 ?side2 A4.out).mono ?_);(case side1=>repeat (first | exact HR159_1.out | (with_reducible refine Kd.C_alloc ?_ _) | (with_reducible refine Kd.C_drewN ?_ _) | (with_reducible refine Kd.C_drew ?_)));(case side2=>exact HC159_1.out);rintro e w' ⟨rfl,⟨nd,rfl⟩⟩;(try first | exact ⟨rfl,_,World.drewN_drewN _ _ _⟩ | exact ⟨rfl,_,Eq.trans (World.drewN_drewN _ _ _) (congrArg (World.drewN _) (Nat.add_assoc _ _ _))⟩);have p161:0≤(x3_1:Int):=of_decide_eq_true asm_;have q161:x3_1<(l0.length:Int):=of_decide_eq_true asm_;obtain ⟨ad161,A161_1,c161_1,e161,hx161_0,hx161_1,hl161_1,hi161_1⟩:=kN HR0.out x3_1 p161 q161;obtain rfl:ad159=ad161:=(by injection e161);have HR161_1:=iC.mk hi161_1;have HC161_1:=iC.mk hl161_1;clear hi161_1 hl161_1;replace p161:=eq_true p161;replace q161:=eq_true q161;have ea_:=Option.some.inj (hx159_1.symm.trans hx161_1);injection ea_ with ea_ en_ ec_;subst ea_;subst ec_;clear en_;have p162:0≤((ji7):Int):=of_decide_eq_true asm_;have q162:(ji7)<(l0.length:Int):=of_decide_eq_true asm_;obtain ⟨ad162,A162_1,c162_1,e162,hx162_0,hx162_1,hl162_1,hi162_1⟩:=kN HR0.out (ji7) p162 q162;obtain rfl:ad159=ad162:=(by injection e162);have HR162_1:=iC.mk hi162_1;have HC162_1:=iC.mk hl162_1;clear hi162_1 hl162_1;replace p162:=eq_true p162;replace q162:=eq_true q162))
          repeat (go_quiet (first | (go_at_call 103;(with_reducible refine (stratumref07_SoundFacts.calls k1 _ _ ((iK l0 x3_1).f1) true _ ?side1 ?side2 A4.out).mono ?_);(case side1=>repeat (first | exact HR159_1.out | (with_reducible refine Kd.C_alloc ?_ _) | (with_reducible refine Kd.C_drewN ?_ _) | (with_reducible refine Kd.C_drew ?_)));(case side2=>exact HC159_1.out);rintro e w' ⟨rfl,⟨nd,rfl⟩⟩;(try first | exact ⟨rfl,_,World.drewN_drewN _ _ _⟩ | exact ⟨rfl,_,Eq.trans (World.drewN_drewN _ _ _) (congrArg (World.drewN _) (Nat.add_assoc _ _ _))⟩);have p161:0≤(x3_1:Int):=of_decide_eq_true asm_;have q161:x3_1<(l0.length:Int):=of_decide_eq_true asm_;obtain ⟨ad161,A161_1,c161_1,e161,hx161_0,hx161_1,hl161_1,hi161_1⟩:=kN HR0.out x3_1 p161 q161;obtain rfl:ad159=ad161:=(by injection e161);have HR161_1:=iC.mk hi161_1;have HC161_1:=iC.mk hl161_1;clear hi161_1 hl161_1;replace p161:=eq_true p161;replace q161:=eq_true q161;have ea_:=Option.some.inj (hx159_1.symm.trans hx161_1);injection ea_ with ea_ en_ ec_;subst ea_;subst ec_;clear en_;have p162:0≤((ji7):Int):=of_decide_eq_true asm_;have q162:(ji7)<(l0.length:Int):=of_decide_eq_true asm_;obtain ⟨ad162,A162_1,c162_1,e162,hx162_0,hx162_1,hl162_1,hi162_1⟩:=kN HR0.out (ji7) p162 q162;obtain rfl:ad159=ad162:=(by injection e162);have HR162_1:=iC.mk hi162_1;have HC162_1:=iC.mk hl162_1;clear hi162_1 hl162_1;replace p162:=eq_true p162;replace q162:=eq_true q162));try go_wp2_with (first | (go_at_call 103;(with_reducible refine (stratumref07_SoundFacts.calls k1 _ _ ((iK l0 x3_1).f1) true _ ?side1 ?side2 A4.out).mono ?_);(case side1=>repeat (first | exact HR159_1.out | (with_reducible refine Kd.C_alloc ?_ _) | (with_reducible refine Kd.C_drewN ?_ _) | (with_reducible refine Kd.C_drew ?_)));(case side2=>exact HC159_1.out);rintro e w' ⟨rfl,⟨nd,rfl⟩⟩;(try first | exact ⟨rfl,_,World.drewN_drewN _ _ _⟩ | exact ⟨rfl,_,Eq.trans (World.drewN_drewN _ _ _) (congrArg (World.drewN _) (Nat.add_assoc _ _ _))⟩);have p161:0≤(x3_1:Int):=of_decide_eq_true asm_;have q161:x3_1<(l0.length:Int):=of_decide_eq_true asm_;obtain ⟨ad161,A161_1,c161_1,e161,hx161_0,hx161_1,hl161_1,hi161_1⟩:=kN HR0.out x3_1 p161 q161;obtain rfl:ad159=ad161:=(by injection e161);have HR161_1:=iC.mk hi161_1;have HC161_1:=iC.mk hl161_1;clear hi161_1 hl161_1;replace p161:=eq_true p161;replace q161:=eq_true q161;have ea_:=Option.some.inj (hx159_1.symm.trans hx161_1);injection ea_ with ea_ en_ ec_;subst ea_;subst ec_;clear en_;have p162:0≤((ji7):Int):=of_decide_eq_true asm_;have q162:(ji7)<(l0.length:Int):=of_decide_eq_true asm_;obtain ⟨ad162,A162_1,c162_1,e162,hx162_0,hx162_1,hl162_1,hi162_1⟩:=kN HR0.out (ji7) p162 q162;obtain rfl:ad159=ad162:=(by injection e162);have HR162_1:=iC.mk hi162_1;have HC162_1:=iC.mk hl162_1;clear hi162_1 hl162_1;replace p162:=eq_true p162;replace q162:=eq_true q162)))
          go_ret
          exact ⟨by first | rfl | (simp;done) | (simp only [← hji7] <;> (first | rfl | simp)) | (simp [*];done),by repeat (first | exact jD.refl _ | apply jD.step)⟩
         ·rw [if_neg c10] at H
          have c10b0:decide (((iK l0 x3_1).f0)≤((iK l0 (ji7)).f0))=false:=decide_eq_false c10
          clear c10
          have H':=iC.mk H
          clear H
          have p159:0≤(x3_1:Int):=of_decide_eq_true asm_
          have q159:x3_1<(l0.length:Int):=of_decide_eq_true asm_
          obtain ⟨ad159,A159_1,c159_1,e159,hx159_0,hx159_1,hl159_1,hi159_1⟩:=kN HR0.out x3_1 p159 q159
          cases e159
          have HR159_1:=iC.mk hi159_1
          have HC159_1:=iC.mk hl159_1
          clear hi159_1 hl159_1
          replace p159:=eq_true p159
          replace q159:=eq_true q159
          go_wp2_with (first | (go_at_call 103;(with_reducible refine (stratumref07_SoundFacts.calls k1 _ _ ((iK l0 x3_1).f1) true _ ?side1 ?side2 A4.out).mono ?_);(case side1=>repeat (first | exact HR159_1.out | (with_reducible refine Kd.C_alloc ?_ _) | (with_reducible refine Kd.C_drewN ?_ _) | (with_reducible refine Kd.C_drew ?_)));(case side2=>exact HC159_1.out);rintro e w' ⟨rfl,⟨nd,rfl⟩⟩;(try first | exact ⟨rfl,_,World.drewN_drewN _ _ _⟩ | exact ⟨rfl,_,Eq.trans (World.drewN_drewN _ _ _) (congrArg (World.drewN _) (Nat.add_assoc _ _ _))⟩);have p161:0≤(x3_1:Int):=of_decide_eq_true asm_;have q161:x3_1<(l0.length:Int):=of_decide_eq_true asm_;obtain ⟨ad161,A161_1,c161_1,e161,hx161_0,hx161_1,hl161_1,hi161_1⟩:=kN HR0.out x3_1 p161 q161;obtain rfl:ad159=ad161:=(by injection e161);have HR161_1:=iC.mk hi161_1;have HC161_1:=iC.mk hl161_1;clear hi161_1 hl161_1;replace p161:=eq_true p161;replace q161:=eq_true q161;have ea_:=Option.some.inj (hx159_1.symm.trans hx161_1);injection ea_ with ea_ en_ ec_;subst ea_;subst ec_;clear en_;have p162:0≤((ji7):Int):=of_decide_eq_true asm_;have q162:(ji7)<(l0.length:Int):=of_decide_eq_true asm_;obtain ⟨ad162,A162_1,c162_1,e162,hx162_0,hx162_1,hl162_1,hi162_1⟩:=kN HR0.out (ji7) p162 q162;obtain rfl:ad159=ad162:=(by injection e162);have HR162_1:=iC.mk hi162_1;have HC162_1:=iC.mk hl162_1;clear hi162_1 hl162_1;replace p162:=eq_true p162;replace q162:=eq_true q162))
          repeat (go_quiet (first | (go_at_call 103;(with_reducible refine (stratumref07_SoundFacts.calls k1 _ _ ((iK l0 x3_1).f1) true _ ?side1 ?side2 A4.out).mono ?_);(case side1=>repeat (first | exact HR159_1.out | (with_reducible refine Kd.C_alloc ?_ _) | (with_reducible refine Kd.C_drewN ?_ _) | (with_reducible refine Kd.C_drew ?_)));(case side2=>exact HC159_1.out);rintro e w' ⟨rfl,⟨nd,rfl⟩⟩;(try first | exact ⟨rfl,_,World.drewN_drewN _ _ _⟩ | exact ⟨rfl,_,Eq.trans (World.drewN_drewN _ _ _) (congrArg (World.drewN _) (Nat.add_assoc _ _ _))⟩);have p161:0≤(x3_1:Int):=of_decide_eq_true asm_;have q161:x3_1<(l0.length:Int):=of_decide_eq_true asm_;obtain ⟨ad161,A161_1,c161_1,e161,hx161_0,hx161_1,hl161_1,hi161_1⟩:=kN HR0.out x3_1 p161 q161;obtain rfl:ad159=ad161:=(by injection e161);have HR161_1:=iC.mk hi161_1;have HC161_1:=iC.mk hl161_1;clear hi161_1 hl161_1;replace p161:=eq_true p161;replace q161:=eq_true q161;have ea_:=Option.some.inj (hx159_1.symm.trans hx161_1);injection ea_ with ea_ en_ ec_;subst ea_;subst ec_;clear en_;have p162:0≤((ji7):Int):=of_decide_eq_true asm_;have q162:(ji7)<(l0.length:Int):=of_decide_eq_true asm_;obtain ⟨ad162,A162_1,c162_1,e162,hx162_0,hx162_1,hl162_1,hi162_1⟩:=kN HR0.out (ji7) p162 q162;obtain rfl:ad159=ad162:=(by injection e162);have HR162_1:=iC.mk hi162_1;have HC162_1:=iC.mk hl162_1;clear hi162_1 hl162_1;replace p162:=eq_true p162;replace q162:=eq_true q162));try go_wp2_with (first | (go_at_call 103;(with_reducible refine (stratumref07_SoundFacts.calls k1 _ _ ((iK l0 x3_1).f1) true _ ?side1 ?side2 A4.out).mono ?_);(case side1=>repeat (first | exact HR159_1.out | (with_reducible refine Kd.C_alloc ?_ _) | (with_reducible refine Kd.C_drewN ?_ _) | (with_reducible refine Kd.C_drew ?_)));(case side2=>exact HC159_1.out);rintro e w' ⟨rfl,⟨nd,rfl⟩⟩;(try first | exact ⟨rfl,_,World.drewN_drewN _ _ _⟩ | exact ⟨rfl,_,Eq.trans (World.drewN_drewN _ _ _) (congrArg (World.drewN _) (Nat.add_assoc _ _ _))⟩);have p161:0≤(x3_1:Int):=of_decide_eq_true asm_;have q161:x3_1<(l0.length:Int):=of_decide_eq_true asm_;obtain ⟨ad161,A161_1,c161_1,e161,hx161_0,hx161_1,hl161_1,hi161_1⟩:=kN HR0.out x3_1 p161 q161;obtain rfl:ad159=ad161:=(by injection e161);have HR161_1:=iC.mk hi161_1;have HC161_1:=iC.mk hl161_1;clear hi161_1 hl161_1;replace p161:=eq_true p161;replace q161:=eq_true q161;have ea_:=Option.some.inj (hx159_1.symm.trans hx161_1);injection ea_ with ea_ en_ ec_;subst ea_;subst ec_;clear en_;have p162:0≤((ji7):Int):=of_decide_eq_true asm_;have q162:(ji7)<(l0.length:Int):=of_decide_eq_true asm_;obtain ⟨ad162,A162_1,c162_1,e162,hx162_0,hx162_1,hl162_1,hi162_1⟩:=kN HR0.out (ji7) p162 q162;obtain rfl:ad159=ad162:=(by injection e162);have HR162_1:=iC.mk hi162_1;have HC162_1:=iC.mk hl162_1;clear hi162_1 hl162_1;replace p162:=eq_true p162;replace q162:=eq_true q162)))
          go_roundg k1
          case measure=>have:=HK1.out;omega
          case rel=>exact ⟨(wrap64 (x3_1+1)),(by first | rfl | (simp;done) | (simp [*];done)),H',⟨by have:=HK1.out;omega⟩,by repeat (first | exact jD.refl _ | apply jD.step)⟩
        ·rw [if_neg c9] at H
         exact absurd H (by simp)
       ·rw [if_neg c8] at H
        exact absurd H (by simp)
      ·rw [if_neg c6] at H
       have c6b0:decide (0<x3_1)=false:=decide_eq_false c6
       clear c6
       have H':=iC.mk H
       clear H
       have p159:0≤(x3_1:Int):=of_decide_eq_true asm_
       have q159:x3_1<(l0.length:Int):=of_decide_eq_true asm_
       obtain ⟨ad159,A159_1,c159_1,e159,hx159_0,hx159_1,hl159_1,hi159_1⟩:=kN HR0.out x3_1 p159 q159
       cases e159
       have HR159_1:=iC.mk hi159_1
       have HC159_1:=iC.mk hl159_1
       clear hi159_1 hl159_1
       replace p159:=eq_true p159
       replace q159:=eq_true q159
       go_wp2_with (first | (go_at_call 103;(with_reducible refine (stratumref07_SoundFacts.calls k1 _ _ ((iK l0 x3_1).f1) true _ ?side1 ?side2 A4.out).mono ?_);(case side1=>repeat (first | exact HR159_1.out | (with_reducible refine Kd.C_alloc ?_ _) | (with_reducible refine Kd.C_drewN ?_ _) | (with_reducible refine Kd.C_drew ?_)));(case side2=>exact HC159_1.out);rintro e w' ⟨rfl,⟨nd,rfl⟩⟩;(try first | exact ⟨rfl,_,World.drewN_drewN _ _ _⟩ | exact ⟨rfl,_,Eq.trans (World.drewN_drewN _ _ _) (congrArg (World.drewN _) (Nat.add_assoc _ _ _))⟩)))
       repeat (go_quiet (first | (go_at_call 103;(with_reducible refine (stratumref07_SoundFacts.calls k1 _ _ ((iK l0 x3_1).f1) true _ ?side1 ?side2 A4.out).mono ?_);(case side1=>repeat (first | exact HR159_1.out | (with_reducible refine Kd.C_alloc ?_ _) | (with_reducible refine Kd.C_drewN ?_ _) | (with_reducible refine Kd.C_drew ?_)));(case side2=>exact HC159_1.out);rintro e w' ⟨rfl,⟨nd,rfl⟩⟩;(try first | exact ⟨rfl,_,World.drewN_drewN _ _ _⟩ | exact ⟨rfl,_,Eq.trans (World.drewN_drewN _ _ _) (congrArg (World.drewN _) (Nat.add_assoc _ _ _))⟩)));try go_wp2_with (first | (go_at_call 103;(with_reducible refine (stratumref07_SoundFacts.calls k1 _ _ ((iK l0 x3_1).f1) true _ ?side1 ?side2 A4.out).mono ?_);(case side1=>repeat (first | exact HR159_1.out | (with_reducible refine Kd.C_alloc ?_ _) | (with_reducible refine Kd.C_drewN ?_ _) | (with_reducible refine Kd.C_drew ?_)));(case side2=>exact HC159_1.out);rintro e w' ⟨rfl,⟨nd,rfl⟩⟩;(try first | exact ⟨rfl,_,World.drewN_drewN _ _ _⟩ | exact ⟨rfl,_,Eq.trans (World.drewN_drewN _ _ _) (congrArg (World.drewN _) (Nat.add_assoc _ _ _))⟩))))
       go_roundg k1
       case measure=>have:=HK1.out;omega
       case rel=>exact ⟨(wrap64 (x3_1+1)),(by first | rfl | (simp;done) | (simp [*];done)),H',⟨by have:=HK1.out;omega⟩,by repeat (first | exact jD.refl _ | apply jD.step)⟩
     ·replace c5:=Bool.eq_false_iff.mpr c5
      subst c5
      have H1:(some false)=some r:=by rw [if_neg (show ¬ (false=true) by decide)] at H;exact H
      clear H
      have H:=H1
      clear H1
      obtain rfl:=Option.some.inj H
      have p159:0≤(x3_1:Int):=of_decide_eq_true asm_
      have q159:x3_1<(l0.length:Int):=of_decide_eq_true asm_
      obtain ⟨ad159,A159_1,c159_1,e159,hx159_0,hx159_1,hl159_1,hi159_1⟩:=kN HR0.out x3_1 p159 q159
      cases e159
      have HR159_1:=iC.mk hi159_1
      have HC159_1:=iC.mk hl159_1
      clear hi159_1 hl159_1
      replace p159:=eq_true p159
      replace q159:=eq_true q159
      go_wp2_with (first | (go_at_call 103;(with_reducible refine (stratumref07_SoundFacts.calls k1 _ _ ((iK l0 x3_1).f1) false _ ?side1 ?side2 A4.out).mono ?_);(case side1=>repeat (first | exact HR159_1.out | (with_reducible refine Kd.C_alloc ?_ _) | (with_reducible refine Kd.C_drewN ?_ _) | (with_reducible refine Kd.C_drew ?_)));(case side2=>exact HC159_1.out);rintro e w' ⟨rfl,⟨nd,rfl⟩⟩;(try first | exact ⟨rfl,_,World.drewN_drewN _ _ _⟩ | exact ⟨rfl,_,Eq.trans (World.drewN_drewN _ _ _) (congrArg (World.drewN _) (Nat.add_assoc _ _ _))⟩)))
      repeat (go_quiet (first | (go_at_call 103;(with_reducible refine (stratumref07_SoundFacts.calls k1 _ _ ((iK l0 x3_1).f1) false _ ?side1 ?side2 A4.out).mono ?_);(case side1=>repeat (first | exact HR159_1.out | (with_reducible refine Kd.C_alloc ?_ _) | (with_reducible refine Kd.C_drewN ?_ _) | (with_reducible refine Kd.C_drew ?_)));(case side2=>exact HC159_1.out);rintro e w' ⟨rfl,⟨nd,rfl⟩⟩;(try first | exact ⟨rfl,_,World.drewN_drewN _ _ _⟩ | exact ⟨rfl,_,Eq.trans (World.drewN_drewN _ _ _) (congrArg (World.drewN _) (Nat.add_assoc _ _ _))⟩)));try go_wp2_with (first | (go_at_call 103;(with_reducible refine (stratumref07_SoundFacts.calls k1 _ _ ((iK l0 x3_1).f1) false _ ?side1 ?side2 A4.out).mono ?_);(case side1=>repeat (first | exact HR159_1.out | (with_reducible refine Kd.C_alloc ?_ _) | (with_reducible refine Kd.C_drewN ?_ _) | (with_reducible refine Kd.C_drew ?_)));(case side2=>exact HC159_1.out);rintro e w' ⟨rfl,⟨nd,rfl⟩⟩;(try first | exact ⟨rfl,_,World.drewN_drewN _ _ _⟩ | exact ⟨rfl,_,Eq.trans (World.drewN_drewN _ _ _) (congrArg (World.drewN _) (Nat.add_assoc _ _ _))⟩))))
      go_ret
      exact ⟨by first | rfl | (simp;done) | (simp [*];done),by repeat (first | exact jD.refl _ | apply jD.step)⟩
    ·rw [if_neg c3] at H
     exact absurd H (by simp)
   ·rw [if_neg c2] at H
    have c2b0:decide (x3_1<(l0.length:Int))=false:=decide_eq_false c2
    clear c2
    obtain rfl:=Option.some.inj H
    go_wp2
    repeat (go_quiet (fail);try go_wp2)
    go_ret
    exact ⟨by first | rfl | (simp;done) | (simp [*];done),by repeat (first | exact jD.refl _ | apply jD.step)⟩
end
end Go.Proofs.YtgfkgppomaapiaaGreatDoor.K
namespace Go.Proofs.YtgfkgppomaapiaaGreatDoor.K
open RowKit YtgfkgppomaapiaaGreatDoorW.PrintWords YtgfkgppomaapiaaGreatDoorW.PrintLast YtgfkgppomaapiaaGreatDoorW.PrintMore My
section
def PX (b:Bool) (w:World) (e:Ending) (w':World):Prop:=∃ r:Int,e=.returned (.int .i64 r)∧decide (0≤r)=b∧Below w.heap.size w w'
theorem any_take_succ {α:Type} (p:α→Bool) (z:α) (l:List α) (k:Nat) (h:k<l.length):(l.take (k+1)).any p=((l.take k).any p || p (l.getD k z)):=by
 rw [kW z l k h,List.any_append]
 simp
theorem PE {α:Type} (p:α→Bool) (z:α) (l:List α) (k:Nat) (h:k<l.length) (hp:p (l.getD k z)=true):l.any p=true:=by
 rw [List.any_eq_true]
 refine ⟨l.getD k z,?_,hp⟩
 rw [List.getD_eq_getElem?_getD,List.getElem?_eq_getElem h]
 exact List.getElem_mem h
theorem ND {α:Type} (p:α→Bool) (l:List α) (h:(l.take l.length).any p=false):l.any p=false:=by rwa [List.take_length] at h
def badV (v:Int):Bool:=decide (v<0) || decide (9999<v)
set_option maxHeartbeats 400000 in
theorem RY (v:Int) (w:World):Calls Tryz.prog 121 #[.int .i64 v] w fun e w'=>e=.returned (.bool (badV v))∧w=w':=by
 by_cases h0:v<0
 ·have e:badV v=true:=by unfold badV;rw [decide_eq_true h0];rfl
  rw [e]
  clear e
  go_enter Tryz.func121,Tryz.ntmps121
  go_wp2
  go_ret
  exact ⟨rfl,rfl⟩
 ·by_cases h1:9999<v
  ·have e:badV v=true:=by unfold badV;rw [decide_eq_true h1];simp
   rw [e]
   clear e
   go_enter Tryz.func121,Tryz.ntmps121
   go_wp2
   go_ret
   exact ⟨rfl,rfl⟩
  ·have e:badV v=false:=by unfold badV;rw [decide_eq_false h0,decide_eq_false h1];rfl
   rw [e]
   clear e
   go_enter Tryz.func121,Tryz.ntmps121
   go_wp2
   go_ret
   exact ⟨rfl,rfl⟩
set_option maxHeartbeats 1000000 in
theorem VO (A:Option Addr) (c:Nat) (l:List Int) (w:World) (hr:Kd.C (Kd.int .i64) w A l.length l) :
  Calls Tryz.prog 123 #[.slice A l.length c,.func (.func 121) #[] #[]] w (PX (l.any badV) w):=by
 have hm:=lD hr
 have HR:=iC.mk hr
 clear hr
 go_enter Tryz.func123,Tryz.ntmps123
 go_wp2
 go_loopg [5,8] l.length (fun gg _ s8 wr=>∃ k:Nat,k≤l.length∧l.length - k≤gg∧s8=.int .i64 k∧iC (w=wr)∧iC ((l.take k).any badV=false))
 case atStart=>exact ⟨0,Nat.zero_le _,by omega,rfl,⟨rfl⟩,⟨rfl⟩⟩
 case round =>
  obtain ⟨k,hk,hg,rfl,HW,HA⟩:=hrel
  obtain rfl:=HW.out
  by_cases hlt:k<l.length
  ·obtain ⟨ad,rfl,hx⟩:=Kd.at_int HR.out (k:Int) (by omega) (by omega)
   have hsn:=any_take_succ badV 0 l k hlt
   have hgd:rd l (k:Int)=l.getD k 0:=by unfold rd;rw [Int.toNat_natCast]
   rw [hgd,Int.toNat_natCast] at hx
   clear hgd
   obtain ⟨v,hv⟩:∃ v,v=l.getD k 0:=⟨_,rfl⟩
   rw [← hv] at hx hsn
   cases hq:badV v with
   | true =>
    have HH:=iC.mk (PE badV 0 l k hlt (by rw [← hv];exact hq))
    have hcall:=RY v w
    rw [hq] at hcall
    clear hv hsn hq
    go_wp2_with (go_at_call 121;refine hcall.mono ?_;rintro e w' ⟨rfl,rfl⟩)
    go_ret
    exact ⟨k,rfl,by rw [HH.out];simp,Below.refl _ _⟩
   | false =>
    have HN:=iC.mk (show (l.take (k+1)).any badV=false by rw [hsn,HA.out,hq];rfl)
    have hcall:=RY v w
    rw [hq] at hcall
    clear hv hsn hq
    go_wp2_with (go_at_call 121;refine hcall.mono ?_;rintro e w' ⟨rfl,rfl⟩)
    go_roundg (l.length - (k+1))
    case measure=>omega
    case rel=>exact ⟨k+1,by omega,by omega,by go_num,⟨rfl⟩,HN⟩
  ·have:k=l.length:=by omega
   subst this
   go_wp2
   go_ret
   exact ⟨-1,rfl,by rw [ND _ _ HA.out];rfl,Below.refl _ _⟩
set_option maxHeartbeats 400000 in
theorem UT (A:Option Addr) (c:Nat) (l:List Int) (w:World) (hr:Kd.C (Kd.int .i64) w A l.length l) :
  Calls Tryz.prog 120 #[.slice A l.length c,.func (.func 121) #[] #[]] w fun e w'=>e=.returned (.bool (l.any badV))∧Below w.heap.size w w':=by
 have hcall:=VO A c l w hr
 clear hr
 generalize l.any badV=b at hcall
 go_enter Tryz.func120,Tryz.ntmps120
 go_wp2_with (go_at_call 123;refine hcall.mono ?_;rintro e w' ⟨r,rfl,hr,hb⟩;have HR:=iC.mk hr;clear hr)
 go_ret
 exact ⟨by rw [← HR.out];rfl,hb⟩
theorem j0_ (f:jQ):pU f=(decide ((f.f0.length:Int)≤4) && !f.f0.any badV):=by
 unfold pU
 congr 1
 ·rw [decide_eq_decide];omega
 ·rw [List.any_eq_not_all_not,Bool.not_not]
  congr 1
  funext v
  unfold badV
  rw [Bool.eq_iff_iff]
  simp
set_option maxHeartbeats 1000000 in
theorem jc0 (A:Option Addr) (c:Nat) (f:jQ) (w:World) (hr:Kd.C (Kd.int .i64) w A f.f0.length f.f0) :
  Calls Tryz.prog 112 #[.agg #[.slice A f.f0.length c,.int .i64 f.f1]] w fun e w'=>e=.returned (.bool (pU f))∧Below w.heap.size w w':=by
 have hcall:=UT A c f.f0 (w.alloc (.cells #[.slice A f.f0.length c,.int .i64 f.f1] 149)) (Kd.C_below hr (iD (Below.refl _ _) _))
 clear hr
 rw [j0_]
 by_cases h4:(f.f0.length:Int)≤4
 ·rw [decide_eq_true h4,Bool.true_and]
  generalize f.f0.any badV=b at hcall
  go_enter Tryz.func112,Tryz.ntmps112
  go_wp2_with (go_at_call 120;refine hcall.mono ?_;rintro e w' ⟨rfl,hb⟩)
  go_ret
  exact ⟨rfl,iH (iD (Below.refl _ _) _) hb⟩
 ·rw [decide_eq_false h4,Bool.false_and]
  clear hcall
  go_enter Tryz.func112,Tryz.ntmps112
  go_wp2
  go_ret
  exact ⟨rfl,iD (Below.refl _ _) _⟩
set_option maxHeartbeats 400000 in
theorem PI (A:Option Addr) (c:Nat) (f:jQ) (w:World) (hr:Kd.C (Kd.int .i64) w A f.f0.length f.f0) :
  Calls Tryz.prog 111 #[.agg #[.slice A f.f0.length c,.int .i64 f.f1]] w fun e w'=>e=.returned (.bool (!pU f))∧Below w.heap.size w w':=by
 have hcall:=jc0 A c f (w.alloc (.cells #[.slice A f.f0.length c,.int .i64 f.f1] 149)) (Kd.C_below hr (iD (Below.refl _ _) _))
 clear hr
 generalize pU f=b at hcall
 go_enter Tryz.func111,Tryz.ntmps111
 go_wp2_with (go_at_call 112;refine hcall.mono ?_;rintro e w' ⟨rfl,hb⟩)
 go_ret
 exact ⟨rfl,iH (iD (Below.refl _ _) _) hb⟩
def Y9:jQ:=z149
set_option maxHeartbeats 1000000 in
theorem Q5 (A:Option Addr) (c:Nat) (l:List jQ) (w:World) (hr:Kd.C k149 w A l.length l) :
  Calls Tryz.prog 119 #[.slice A l.length c,.func (.func 111) #[] #[]] w (PX (l.any fun f=>!pU f) w):=by
 have hm:=lD hr
 have HR:=iC.mk hr
 clear hr
 go_enter Tryz.func119,Tryz.ntmps119
 go_wp2
 go_loopg [5,8] l.length (fun gg _ s8 wr=>∃ k:Nat,k≤l.length∧l.length - k≤gg∧s8=.int .i64 k∧iC (Below w.heap.size w wr)∧iC ((l.take k).any (fun f=>!pU f)=false))
 case atStart=>exact ⟨0,Nat.zero_le _,by omega,rfl,⟨Below.refl _ _⟩,⟨rfl⟩⟩
 case round =>
  obtain ⟨k,hk,hg,rfl,HW,HA⟩:=hrel
  by_cases hlt:k<l.length
  ·obtain ⟨ad,A1,c1,rfl,hx0,hx1,hl1,hC1⟩:=kU (Kd.C_below HR.out HW.out) (k:Int) (by omega) (by omega)
   have hsn:=any_take_succ (fun f=>!pU f) Y9 l k hlt
   have hgd:iR l (k:Int)=l.getD k Y9:=by unfold iR Y9;rw [Int.toNat_natCast]
   rw [hgd] at hx0 hx1 hl1 hC1
   rw [Int.toNat_natCast] at hx0 hx1
   clear hgd
   obtain ⟨f,hf⟩:∃ v,v=l.getD k Y9:=⟨_,rfl⟩
   rw [← hf] at hx0 hx1 hsn hl1 hC1
   have hcall:=PI A1 c1 f wr hC1
   cases hq:(!pU f) with
   | true =>
    have HH:=iC.mk (PE (fun f=>!pU f) Y9 l k hlt (by rw [← hf];exact hq))
    rw [hq] at hcall
    clear hf hsn hq hC1 hl1
    go_wp2_with (go_at_call 111;refine hcall.mono ?_;rintro e w' ⟨rfl,hb⟩)
    go_ret
    exact ⟨k,rfl,by rw [HH.out];simp,iH HW.out hb⟩
   | false =>
    have HN:=iC.mk (show (l.take (k+1)).any (fun f=>!pU f)=false by rw [hsn,HA.out,hq];rfl)
    rw [hq] at hcall
    clear hf hsn hq hC1 hl1
    go_wp2_with (go_at_call 111;refine hcall.mono ?_;rintro e w' ⟨rfl,hb⟩)
    go_roundg (l.length - (k+1))
    case measure=>omega
    case rel=>exact ⟨k+1,by omega,by omega,by go_num,⟨iH HW.out hb⟩,HN⟩
  ·have:k=l.length:=by omega
   subst this
   go_wp2
   go_ret
   exact ⟨-1,rfl,by rw [ND _ _ HA.out];rfl,HW.out⟩
set_option maxHeartbeats 400000 in
theorem QQ (A:Option Addr) (c:Nat) (l:List jQ) (w:World) (hr:Kd.C k149 w A l.length l) :
  Calls Tryz.prog 110 #[.slice A l.length c,.func (.func 111) #[] #[]] w fun e w'=>e=.returned (.bool (l.any fun f=>!pU f))∧Below w.heap.size w w':=by
 have hcall:=Q5 A c l w hr
 clear hr
 generalize (l.any fun f=>!pU f)=b at hcall
 go_enter Tryz.func110,Tryz.ntmps110
 go_wp2_with (go_at_call 119;refine hcall.mono ?_;rintro e w' ⟨r,rfl,hr,hb⟩;have HR:=iC.mk hr;clear hr)
 go_ret
 exact ⟨by rw [← HR.out];rfl,hb⟩
theorem YI (l:List jQ):mO l=(decide ((l.length:Int)≤200) && !l.any fun f=>!pU f):=by
 unfold mO
 congr 1
 ·rw [decide_eq_decide];omega
 ·rw [List.any_eq_not_all_not,Bool.not_not]
  congr 1
  funext v
  simp
def code_batch.f (l0:List jQ):Option Bool:=some (mO l0)
set_option maxHeartbeats 1000000 in
theorem code_batch.calls (A0:Option Addr) (c0:Nat) (l0:List jQ) (r:Bool) (w:World) (hr0:Kd.C k149 w A0 l0.length l0) (hc0:l0.length≤c0) (h:code_batch.f l0=some r) :
  Calls Tryz.prog 90 #[.slice A0 l0.length c0] w fun e w'=>e=.returned (.bool r)∧Below w.heap.size w w':=by
 obtain rfl:=Option.some.inj h
 have hm:=lD hr0
 have hcall:=QQ A0 c0 l0 w hr0
 clear hr0 h
 rw [YI]
 by_cases h4:(l0.length:Int)≤200
 ·rw [decide_eq_true h4,Bool.true_and]
  generalize (l0.any fun f=>!pU f)=b at hcall
  go_enter Tryz.func90,Tryz.ntmps90
  go_wp2_with (go_at_call 110;refine hcall.mono ?_;rintro e w' ⟨rfl,hb⟩)
  go_ret
  exact ⟨rfl,hb⟩
 ·rw [decide_eq_false h4,Bool.false_and]
  clear hcall
  go_enter Tryz.func90,Tryz.ntmps90
  go_wp2
  go_ret
  exact ⟨rfl,Below.refl _ _⟩
end
end Go.Proofs.YtgfkgppomaapiaaGreatDoor.K
namespace Go.Proofs.YtgfkgppomaapiaaGreatDoor.K
open Go.RowKit Go.Proofs.YtgfkgppomaapiaaGreatDoorW.PrintWords Go.Proofs.YtgfkgppomaapiaaGreatDoorW.PrintLast Go.Proofs.YtgfkgppomaapiaaGreatDoorW.PrintMore
section
attribute [local go_sem] kL kH kZ lC
def code_rises.l0:Nat→Int→List Int→Int→Int→Option (Bool)
 | 0,_,_,_,_=>none
 | k+1,x3,x6,x7,x8=>if x8<x7 then (if 0≤x8 then (if x8<(x6.length:Int) then (if (rd x6 x8)≤x3 then (some false) else (if (rd x6 x8) ≥ 6 then (some false) else (code_rises.l0 k (rd x6 x8) x6 x7 (wrap64 (x8+1))))) else (none)) else (none)) else (some true)
def code_rises.f (k:Nat) (l0:List Int):Option (Bool):=code_rises.l0 k (-1) l0 (l0.length:Int) 0
set_option maxHeartbeats 8000000 in
set_option maxRecDepth 100000 in
theorem code_rises.calls (k:Nat) (A0:Option Addr) (c0:Nat) (l0:List Int) (r:Bool) (w:World) (hr0:Kd.C (Kd.int .i64) w A0 l0.length l0) (hc0:l0.length≤c0) (h:code_rises.f k l0=some r) :
  Calls Tryz.prog 89 #[.slice A0 l0.length c0] w fun e w'=>e=.returned (.bool r)∧jD w w':=by
 have HR0:=iC.mk hr0
 have HC0:=iC.mk hc0
 clear hr0 hc0
 have H:(code_rises.l0 k (-1) l0 (l0.length:Int) 0)=some r:=h
 clear h
 have H':=iC.mk H
 clear H
 go_enter Tryz.func89,Tryz.ntmps89
 go_wp2
 go_loopg [3,8] k (fun kq v3 v8 w'=>∃ (x3_1:Int) (x8_1:Int),v3=.int .i64 x3_1∧v8=.int .i64 x8_1∧iC (code_rises.l0 kq x3_1 l0 (l0.length:Int) x8_1=some r)∧iC (kq≤k)∧jD w w')
 case atStart=>exact ⟨((-1)),(0),(by first | rfl | (simp;done) | (simp [*];done)),(by first | rfl | (simp;done) | (simp [*];done)),H',⟨Nat.le_refl _⟩,by repeat (first | exact jD.refl _ | apply jD.step)⟩
 case round =>
  clear H'
  obtain ⟨x3_1,x8_1,rfl,rfl,HA,HK1,⟨m1,rfl⟩⟩:=hrel
  cases gk with
  | zero=>exact absurd HA.out (by simp [code_rises.l0])
  | succ k1 =>
   have H:=HA.out
   clear HA
   simp only [code_rises.l0] at H
   by_cases c2:x8_1<(l0.length:Int)
   ·rw [if_pos c2] at H
    have c2b0:decide (x8_1<(l0.length:Int))=true:=decide_eq_true c2
    clear c2
    by_cases c3:0≤x8_1
    ·rw [if_pos c3] at H
     have c3b0:decide (0≤x8_1)=true:=decide_eq_true c3
     clear c3
     by_cases c4:x8_1<(l0.length:Int)
     ·rw [if_pos c4] at H
      have c4b0:decide (x8_1<(l0.length:Int))=true:=decide_eq_true c4
      clear c4
      by_cases c5:(rd l0 x8_1)≤x3_1
      ·rw [if_pos c5] at H
       have c5b0:decide ((rd l0 x8_1)≤x3_1)=true:=decide_eq_true c5
       clear c5
       obtain rfl:=Option.some.inj H
       have p103:0≤(x8_1:Int):=of_decide_eq_true asm_
       have q103:x8_1<(l0.length:Int):=of_decide_eq_true asm_
       obtain ⟨ad103,e103,hx103_0⟩:=Kd.at_int HR0.out x8_1 p103 q103
       cases e103
       replace p103:=eq_true p103
       replace q103:=eq_true q103
       go_wp2
       go_ret
       exact ⟨by first | rfl | (simp;done) | (simp [*];done),by repeat (first | exact jD.refl _ | apply jD.step)⟩
      ·rw [if_neg c5] at H
       have c5b0:decide ((rd l0 x8_1)≤x3_1)=false:=decide_eq_false c5
       clear c5
       by_cases c6:(rd l0 x8_1) ≥ 6
       ·rw [if_pos c6] at H
        have c6b0:decide (6≤(rd l0 x8_1))=true:=decide_eq_true c6
        clear c6
        obtain rfl:=Option.some.inj H
        have p103:0≤(x8_1:Int):=of_decide_eq_true asm_
        have q103:x8_1<(l0.length:Int):=of_decide_eq_true asm_
        obtain ⟨ad103,e103,hx103_0⟩:=Kd.at_int HR0.out x8_1 p103 q103
        cases e103
        replace p103:=eq_true p103
        replace q103:=eq_true q103
        go_wp2
        go_ret
        exact ⟨by first | rfl | (simp;done) | (simp [*];done),by repeat (first | exact jD.refl _ | apply jD.step)⟩
       ·rw [if_neg c6] at H
        have c6b0:decide (6≤(rd l0 x8_1))=false:=decide_eq_false c6
        clear c6
        have H':=iC.mk H
        clear H
        have p103:0≤(x8_1:Int):=of_decide_eq_true asm_
        have q103:x8_1<(l0.length:Int):=of_decide_eq_true asm_
        obtain ⟨ad103,e103,hx103_0⟩:=Kd.at_int HR0.out x8_1 p103 q103
        cases e103
        replace p103:=eq_true p103
        replace q103:=eq_true q103
        go_wp2
        go_roundg k1
        case measure=>have:=HK1.out;omega
        case rel=>exact ⟨(rd l0 x8_1),(wrap64 (x8_1+1)),(by first | rfl | (simp;done) | (simp [*];done)),(by first | rfl | (simp;done) | (simp [*];done)),H',⟨by have:=HK1.out;omega⟩,by repeat (first | exact jD.refl _ | apply jD.step)⟩
     ·rw [if_neg c4] at H
      exact absurd H (by simp)
    ·rw [if_neg c3] at H
     exact absurd H (by simp)
   ·rw [if_neg c2] at H
    have c2b0:decide (x8_1<(l0.length:Int))=false:=decide_eq_false c2
    clear c2
    obtain rfl:=Option.some.inj H
    go_wp2
    go_ret
    exact ⟨by first | rfl | (simp;done) | (simp [*];done),by repeat (first | exact jD.refl _ | apply jD.step)⟩
end
section
attribute [local go_sem] kL kH kZ lC
def code_history.l0:Nat→List (S114)→List (S114)→Int→Int→Option (Bool)
 | 0,_,_,_,_=>none
 | k+1,x0,x5,x6,x7=>if x7<x6 then (if 0≤x7 then (if x7<(x5.length:Int) then ((code_batch.f ((iK x5 x7).f1)).bind fun t106=>(if t106=true then (if x7 > 0 then (if 0≤(wrap64 (x7 - 1)) then (if (wrap64 (x7 - 1))<(x0.length:Int) then (if ((iK x5 x7).f0)≤((iK x0 (wrap64 (x7 - 1))).f0) then (some false) else (code_history.l0 k x0 x5 x6 (wrap64 (x7+1)))) else (none)) else (none)) else (code_history.l0 k x0 x5 x6 (wrap64 (x7+1)))) else (some false))) else (none)) else (none)) else (some (decide ((x0.length:Int)≤5000)))
def code_history.f (k:Nat) (l0:List (S114)):Option (Bool):=code_history.l0 k l0 l0 (l0.length:Int) 0
def code_history.T4:Bool × List (List Nat × List Nat):=(true,[([],[]),([0],[0]),([1],[1]),([2],[2]),([3,2],[3]),([4],[4]),([5,4],[4,5]),([6,4,4],[4,6]),([7],[7]),([8,7],[7,8]),([7],[7]),([7],[7]),([11,7],[7,11]),([10,12,7],[7,10,12]),([13,7],[7,13]),([14,7],[7,14]),([9,15,7],[7,9,15]),([7,16,4],[4,7,16]),([4,17],[4,17])])
def code_history.B4:List Nat:=[0,1,3,7,15,31,63,127,255,511,255,255,2303,7423,15615,31999,65535,131071,262143]
theorem code_history.tab4:rtab .any (opsOf Tryz.f94 4)=code_history.T4:=by kernel_rfl
theorem code_history.bits4:nT code_history.T4.2 code_history.B4=true:=by kernel_rfl
set_option maxHeartbeats 8000000 in
set_option maxRecDepth 100000 in
theorem code_history.calls (k:Nat) (A0:Option Addr) (c0:Nat) (l0:List (S114)) (r:Bool) (w:World) (hr0:Kd.C k114 w A0 l0.length l0) (hc0:l0.length≤c0) (h:code_history.f k l0=some r) :
  Calls Tryz.prog 94 #[.slice A0 l0.length c0] w fun e w'=>e=.returned (.bool r)∧Below w.heap.size w w':=by
 have hu114:=Tryz.underlying114
 have HR0:=iC.mk hr0
 have HC0:=iC.mk hc0
 clear hr0 hc0
 have HB:=iC.mk (Below.refl w.heap.size w)
 have H:(code_history.l0 k l0 l0 (l0.length:Int) 0)=some r:=h
 clear h
 have H':=iC.mk H
 clear H
 go_enter Tryz.func94,Tryz.ntmps94
 go_wp2
 go_loopg [7] k (fun kq v7 w'=>∃ (x7_1:Int),v7=.int .i64 x7_1∧iC (code_history.l0 kq l0 l0 (l0.length:Int) x7_1=some r)∧iC (kq≤k)∧iC (Below w.heap.size w w'))
 case atStart=>exact ⟨(0),(by first | rfl | (simp;done) | (simp [*];done)),H',⟨Nat.le_refl _⟩,⟨hb_⟩⟩
 case round =>
  clear H'
  obtain ⟨x7_1,rfl,HA,HK1,HB⟩:=hrel
  cases gk with
  | zero=>exact absurd HA.out (by simp [code_history.l0])
  | succ k1 =>
   have H:=HA.out
   clear HA
   simp only [code_history.l0] at H
   by_cases c2:x7_1<(l0.length:Int)
   ·rw [if_pos c2] at H
    have c2b0:decide (x7_1<(l0.length:Int))=true:=decide_eq_true c2
    clear c2
    by_cases c3:0≤x7_1
    ·rw [if_pos c3] at H
     have c3b0:decide (0≤x7_1)=true:=decide_eq_true c3
     clear c3
     by_cases c4:x7_1<(l0.length:Int)
     ·rw [if_pos c4] at H
      have c4b0:decide (x7_1<(l0.length:Int))=true:=decide_eq_true c4
      clear c4
      replace H:=Option.bind_eq_some_iff.mp H
      obtain ⟨t106,A50,H⟩:=H
      replace H:(if t106=true then (if x7_1 > 0 then (if 0≤(wrap64 (x7_1 - 1)) then (if (wrap64 (x7_1 - 1))<(l0.length:Int) then (if ((iK l0 x7_1).f0)≤((iK l0 (wrap64 (x7_1 - 1))).f0) then (some false) else (code_history.l0 k1 l0 l0 (l0.length:Int) (wrap64 (x7_1+1)))) else (none)) else (none)) else (code_history.l0 k1 l0 l0 (l0.length:Int) (wrap64 (x7_1+1)))) else (some false))=some r:=H
      have A5:=iC.mk A50
      clear A50
      by_cases c6:t106=true
      ·subst c6
       have H1:(if x7_1 > 0 then (if 0≤(wrap64 (x7_1 - 1)) then (if (wrap64 (x7_1 - 1))<(l0.length:Int) then (if ((iK l0 x7_1).f0)≤((iK l0 (wrap64 (x7_1 - 1))).f0) then (some false) else (code_history.l0 k1 l0 l0 (l0.length:Int) (wrap64 (x7_1+1)))) else (none)) else (none)) else (code_history.l0 k1 l0 l0 (l0.length:Int) (wrap64 (x7_1+1))))=some r:=by rw [if_pos rfl] at H;exact H
       clear H
       have H:=H1
       clear H1
       by_cases c7:x7_1 > 0
       ·rw [if_pos c7] at H
        have c7b0:decide (0<x7_1)=true:=decide_eq_true c7
        clear c7
        obtain ⟨ji8,hji8⟩:∃ j_:Int,(wrap64 (x7_1 - 1))=j_:=⟨_,rfl⟩
        replace H:(if 0≤(ji8) then (if (ji8)<(l0.length:Int) then (if ((iK l0 x7_1).f0)≤((iK l0 (ji8)).f0) then (some false) else (code_history.l0 k1 l0 l0 (l0.length:Int) (wrap64 (x7_1+1)))) else (none)) else (none))=some r:=by first | (rw [hji8] at H;exact H) | (simp only [hji8] at H ⊢;exact H)
        (try rw [hji8] at A5)
        have hji8w:(IntKind.i64.wrap (x7_1 - 1))=ji8:=(iO _).trans hji8
        by_cases c9:0≤(ji8)
        ·rw [if_pos c9] at H
         have c9b0:decide (0≤(ji8))=true:=decide_eq_true c9
         clear c9
         by_cases c10:(ji8)<(l0.length:Int)
         ·rw [if_pos c10] at H
          have c10b0:decide ((ji8)<(l0.length:Int))=true:=decide_eq_true c10
          clear c10
          by_cases c11:((iK l0 x7_1).f0)≤((iK l0 (ji8)).f0)
          ·rw [if_pos c11] at H
           have c11b0:decide (((iK l0 x7_1).f0)≤((iK l0 (ji8)).f0))=true:=decide_eq_true c11
           clear c11
           obtain rfl:=Option.some.inj H
           have p104:0≤(x7_1:Int):=of_decide_eq_true asm_
           have q104:x7_1<(l0.length:Int):=of_decide_eq_true asm_
           obtain ⟨ad104,A104_1,c104_1,e104,hx104_0,hx104_1,hl104_1,hi104_1⟩:=kN HR0.out x7_1 p104 q104
           cases e104
           replace hx104_0:=(HB.out.cell (World.block_lt_of_cell? w _ hx104_0)).trans hx104_0
           replace hx104_1:=(HB.out.cell (World.block_lt_of_cell? w _ hx104_1)).trans hx104_1
           have HR104_1:=iC.mk hi104_1
           have HC104_1:=iC.mk hl104_1
           clear hi104_1 hl104_1
           replace p104:=eq_true p104
           replace q104:=eq_true q104
           try go_wp2_with (first | ((with_reducible refine kJ (N:=4) rfl ?_);refine jW ?hg (N:=4) ?hd (cs:=#[.int .u32 0,.slice none 0 0]) (t:=114) ?hr ?_;(case hd=>rfl);(case hg=>rfl);(case hr=>first | (go_simp;done) | (go_simp;rfl));intro gb105 hg w12 hbox hb;have n0_:=iC.mk (iH hb_ hb);have n1_:=iC.mk (hbox);have n2_:=iC.mk ((by rw [hg];exact (iT hb_):w.heap.size≤gb105));have n3_:=iC.mk ((by rw [hg];exact (iT hb_):w.heap.size≤gb105));clear HB;have HB:=n0_;have BK105:=n1_;have GW105:=n2_;have GE105:=n3_;clear n0_ n1_ n2_ n3_;clear hb hbox hg;have hcz13_0:w12.cell? ⟨gb105,0,none⟩=some (.int .u32 0):=(iG BK105.out 0).trans rfl;have hcz13_1:w12.cell? ⟨gb105,1,none⟩=some (.slice none 0 0):=(iG BK105.out 1).trans rfl;have hfz13_0:=iE BK105.out 0;have hfz13_1:=iE BK105.out 1))
           have n0_:iC (((w12.setCell ⟨gb105,0,none⟩ (.int .u32 ((iK l0 x7_1).f0))).setCell ⟨gb105,1,none⟩ (.slice A104_1 ((iK l0 x7_1).f1).length c104_1)).heap[gb105]? = some (.cells #[.int .u32 ((iK l0 x7_1).f0),.slice A104_1 ((iK l0 x7_1).f1).length c104_1] 114 (0,0))):=⟨by (with_reducible repeat (first | refine kQ ?_ _ | refine kK ?_ | refine kD ?_ _));refine jU (cs:=#[.int .u32 ((iK l0 x7_1).f0),.slice none 0 0]) ?_ 1 _ rfl;(with_reducible repeat (first | refine kQ ?_ _ | refine kK ?_ | refine kD ?_ _));refine jU (cs:=#[.int .u32 0,.slice none 0 0]) ?_ 0 _ rfl;(with_reducible repeat (first | refine kQ ?_ _ | refine kK ?_ | refine kD ?_ _));exact BK105.out⟩
           have n1_:iC (Below w.heap.size w ((w12.setCell ⟨gb105,0,none⟩ (.int .u32 ((iK l0 x7_1).f0))).setCell ⟨gb105,1,none⟩ (.slice A104_1 ((iK l0 x7_1).f1).length c104_1))):=⟨by repeat (first | (with_reducible first | exact HB.out | apply iD | apply iF | apply iQ | refine iL ?_ GE105.out) | exact HB.out)⟩
           (try clear BK105)
           (try clear HB)
           generalize ((w12.setCell ⟨gb105,0,none⟩ (.int .u32 ((iK l0 x7_1).f0))).setCell ⟨gb105,1,none⟩ (.slice A104_1 ((iK l0 x7_1).f1).length c104_1))=w14 at n0_ n1_ ⊢
           have BK105:=n0_
           have HB:=n1_
           clear n0_ n1_
           have n0_:=iC.mk (kK BK105.out)
           have n1_:=iC.mk (iQ HB.out)
           clear BK105
           clear HB
           have BK105:=n0_
           have HB:=n1_
           clear n0_ n1_
           have p107:0≤((ji8):Int):=of_decide_eq_true asm_
           have q107:(ji8)<(l0.length:Int):=of_decide_eq_true asm_
           obtain ⟨ad107,A107_1,c107_1,e107,hx107_0,hx107_1,hl107_1,hi107_1⟩:=kN HR0.out (ji8) p107 q107
           have hw107_1:=hx107_1
           have hw107_0:=hx107_0
           obtain rfl:ad104=ad107:=(by injection e107)
           replace hx107_0:=(HB.out.cell (World.block_lt_of_cell? w _ hx107_0)).trans hx107_0
           replace hx107_1:=(HB.out.cell (World.block_lt_of_cell? w _ hx107_1)).trans hx107_1
           have HR107_1:=iC.mk hi107_1
           have HC107_1:=iC.mk hl107_1
           clear hi107_1 hl107_1
           replace p107:=eq_true p107
           replace q107:=eq_true q107
           refine qJ (n:=19) (S:=fun w'=>w'.cell? ⟨gb105,0,none⟩=some (.int .u32 ((iK l0 x7_1).f0))∧w'.cell? ⟨gb105,1,none⟩=some (.slice A104_1 ((iK l0 x7_1).f1).length c104_1)∧w'.cell? (ad104.add (((ji8)).toNat * 2))=some (.int .u32 ((iK l0 (ji8)).f0))∧w'.cell? ⟨(ad104.add (((ji8)).toNat * 2)).block,(ad104.add (((ji8)).toNat * 2)).off+1,none⟩=some (.slice A107_1 ((iK l0 (ji8)).f1).length c107_1)) (ds:=[]) #[false,false,false,false,false,false,false,false,false,false,false,false,false,false,false,false,false,false,false] (by kernel_rfl) rfl rfl ⟨(iG BK105.out 0).trans rfl,(iG BK105.out 1).trans rfl,((HB.out.cell (World.block_lt_of_cell? w _ hw107_0)).trans hw107_0),((HB.out.cell (World.block_lt_of_cell? w _ hw107_1)).trans hw107_1)⟩ (fun hHeld=>?_);refine mM code_history.tab4 code_history.bits4 (fun HT_ HW_=>?_)
           generalize w14.drew=w15 at BK105 HB HR107_1 hx107_0 hx107_1 hHeld ⊢
           refine jK (i:=0) (N:=some 12) (v:=?_) (a':=?_) #[true,false,false,false,false,false,false,false,false,false,false,false,false,false,false,false,false,false,false] rfl rfl (iZ HT_.out (by kernel_rfl)) (fun _ _ _ h=>h) (Or.inl ⟨by rfl,?_⟩) ?_ ?_
           rotate_left
           ·intro w'
            go_simp
            with_reducible rfl
           rotate_left
           ·simp only [Act.put,sb_,sz_,ss_,iO,jA]
            rfl
           refine qP (i:=1) (N:=some 13) (v:=?_) (a':=?_) #[true,true,false,false,false,false,false,false,false,false,false,false,false,false,false,false,false,false,false] rfl rfl (lF HT_.out HW_.out (by kernel_rfl)) (fun _ _ _ h=>h) (Or.inl ⟨by rfl,?_⟩) hHeld ?_ ?_
           rotate_left
           ·rintro w' ⟨s0,s1,s2,s3⟩
            go_simp
            with_reducible rfl
           rotate_left
           ·simp only [Act.put,sb_,sz_,ss_,iO,jA]
            rfl
           refine one_ (i:=2) (N:=some 14) #[true,true,true,false,false,false,false,false,false,false,false,false,false,false,false,false,false,false,false] rfl rfl (kY HT_.out (by kernel_rfl)) (by decide) (fun K hK=>?_)
           refine oD Tryz.func90 (by kernel_rfl) rfl #[.slice A104_1 ((iK l0 x7_1).f1).length c104_1] (by rfl) rfl rfl (by (try simp only [List.map_toArray,List.map_cons,List.map_nil]);first | done | rfl | (simp only [List.length_drop,List.length_take];rfl)) ?_
           with_reducible refine (code_batch.calls _ _ ((iK l0 x7_1).f1) true _ ?side1 ?side2 A5.out).mono ?_
           (case side1=>repeat (first | exact (Kd.C_below HR104_1.out HB.out) | (with_reducible refine Kd.C_alloc ?_ _) | (with_reducible refine Kd.C_drewN ?_ _) | (with_reducible refine Kd.C_drew ?_)))
           (case side2=>exact HC104_1.out)
           rintro e w16 ⟨rfl,hb⟩
           refine ⟨_,rfl,?_⟩
           have n0_:=iC.mk (qB (g:=gb105) (o:=.cells #[.int .u32 ((iK l0 x7_1).f0),.slice A104_1 ((iK l0 x7_1).f1).length c104_1] 114 (0,0)) (bk_ BK105.out) hb)
           have n1_:=iC.mk (iH (by repeat (first | (with_reducible first | exact HB.out | apply iD | apply iF | apply iQ | refine iL ?_ GE105.out) | exact HB.out)) hb)
           clear BK105
           clear HB
           have BK105:=n0_
           have HB:=n1_
           clear n0_ n1_
           (try clear hb)
           (try clear hb2)
           (try clear hk)
           (try clear hi)
           refine hK.out _ _ ⟨(iG BK105.out 0).trans rfl,(iG BK105.out 1).trans rfl,((HB.out.cell (World.block_lt_of_cell? w _ hw107_0)).trans hw107_0),((HB.out.cell (World.block_lt_of_cell? w _ hw107_1)).trans hw107_1)⟩ (fun hHeld=>?_)
           clear hK K
           refine lL (a':=?_) ?_ ?_
           rotate_left
           ·show Act.put _ (some 14) _=_
            simp only [Act.put,sb_,sz_,ss_,iO,jA]
            rfl
           refine jK (i:=3) (N:=some 15) (v:=?_) (a':=?_) #[true,true,true,true,false,false,false,false,false,false,false,false,false,false,false,false,false,false,false] rfl rfl (iZ HT_.out (by kernel_rfl)) (fun _ _ _ h=>h) (Or.inl ⟨by rfl,?_⟩) ?_ ?_
           rotate_left
           ·intro w'
            go_simp
            with_reducible rfl
           rotate_left
           ·simp only [Act.put,sb_,sz_,ss_,iO,jA]
            rfl
           refine jK (i:=4) (N:=some 16) (v:=?_) (a':=?_) #[true,true,true,true,true,false,false,false,false,false,false,false,false,false,false,false,false,false,false] rfl rfl (iZ HT_.out (by kernel_rfl)) (fun _ _ _ h=>h) (Or.inl ⟨by rfl,?_⟩) ?_ ?_
           rotate_left
           ·intro w'
            go_simp
            with_reducible rfl
           rotate_left
           ·simp only [Act.put,sb_,sz_,ss_,iO,jA]
            rfl
           refine jK (i:=5) (N:=some 17) (v:=?_) (a':=?_) #[true,true,true,true,true,true,false,false,false,false,false,false,false,false,false,false,false,false,false] rfl rfl (iZ HT_.out (by kernel_rfl)) (fun _ _ _ h=>h) (Or.inl ⟨by rfl,?_⟩) ?_ ?_
           rotate_left
           ·intro w'
            go_simp
            with_reducible rfl
           rotate_left
           ·simp only [Act.put,sb_,sz_,ss_,iO,jA]
            rfl
           refine jK (i:=6) (N:=some 18) (v:=?_) (a':=?_) #[true,true,true,true,true,true,true,false,false,false,false,false,false,false,false,false,false,false,false] rfl rfl (iZ HT_.out (by kernel_rfl)) (fun _ _ _ h=>h) (Or.inl ⟨by rfl,?_⟩) ?_ ?_
           rotate_left
           ·intro w'
            go_simp
            with_reducible rfl
           rotate_left
           ·simp only [Act.put,sb_,sz_,ss_,iO,jA]
            rfl
           refine jK (i:=7) (N:=some 19) (v:=?_) (a':=?_) #[true,true,true,true,true,true,true,true,false,false,false,false,false,false,false,false,false,false,false] rfl rfl (iZ HT_.out (by kernel_rfl)) (fun _ _ _ h=>h) (Or.inl ⟨by rfl,?_⟩) ?_ ?_
           rotate_left
           ·intro w'
            go_simp
            with_reducible rfl
           rotate_left
           ·simp only [Act.put,sb_,sz_,ss_,iO,jA]
            rfl
           refine jK (i:=8) (N:=some 20) (v:=?_) (a':=?_) #[true,true,true,true,true,true,true,true,true,false,false,false,false,false,false,false,false,false,false] rfl rfl (iZ HT_.out (by kernel_rfl)) (fun _ _ _ h=>h) (Or.inl ⟨by rfl,?_⟩) ?_ ?_
           rotate_left
           ·intro w'
            go_simp
            with_reducible rfl
           rotate_left
           ·simp only [Act.put,sb_,sz_,ss_,iO,jA]
            rfl
           refine jK (i:=10) (N:=some 22) (v:=?_) (a':=?_) #[true,true,true,true,true,true,true,true,true,false,true,false,false,false,false,false,false,false,false] rfl rfl (iZ HT_.out (by kernel_rfl)) (fun _ _ _ h=>h) (Or.inl ⟨by rfl,?_⟩) ?_ ?_
           rotate_left
           ·intro w'
            go_simp
            with_reducible rfl
           rotate_left
           ·simp only [Act.put,sb_,sz_,ss_,iO,jA]
            rfl
           refine jK (i:=11) (N:=some 23) (v:=?_) (a':=?_) #[true,true,true,true,true,true,true,true,true,false,true,true,false,false,false,false,false,false,false] rfl rfl (iZ HT_.out (by kernel_rfl)) (fun _ _ _ h=>h) (Or.inl ⟨by rfl,?_⟩) ?_ ?_
           rotate_left
           ·intro w'
            go_simp
            with_reducible rfl
           rotate_left
           ·simp only [Act.put,sb_,sz_,ss_,iO,jA]
            rfl
           refine jK (i:=12) (N:=some 24) (v:=?_) (a':=?_) #[true,true,true,true,true,true,true,true,true,false,true,true,true,false,false,false,false,false,false] rfl rfl (iZ HT_.out (by kernel_rfl)) (fun _ _ _ h=>h) (Or.inl ⟨by rfl,?_⟩) ?_ ?_
           rotate_left
           ·intro w'
            go_simp
            with_reducible rfl
           rotate_left
           ·simp only [Act.put,sb_,sz_,ss_,iO,jA]
            rfl
           refine jK (i:=13) (N:=some 25) (v:=?_) (a':=?_) #[true,true,true,true,true,true,true,true,true,false,true,true,true,true,false,false,false,false,false] rfl rfl (iZ HT_.out (by kernel_rfl)) (fun _ _ _ h=>h) (Or.inl ⟨by rfl,?_⟩) ?_ ?_
           rotate_left
           ·intro w'
            go_simp
            with_reducible rfl
           rotate_left
           ·simp only [Act.put,sb_,sz_,ss_,iO,jA]
            rfl
           refine jK (i:=14) (N:=some 26) (v:=?_) (a':=?_) #[true,true,true,true,true,true,true,true,true,false,true,true,true,true,true,false,false,false,false] rfl rfl (iZ HT_.out (by kernel_rfl)) (fun _ _ _ h=>h) (Or.inl ⟨by rfl,?_⟩) ?_ ?_
           rotate_left
           ·intro w'
            go_simp
            with_reducible rfl
           rotate_left
           ·simp only [Act.put,sb_,sz_,ss_,iO,jA]
            rfl
           refine qP (i:=9) (N:=some 21) (v:=?_) (a':=?_) #[true,true,true,true,true,true,true,true,true,true,true,true,true,true,true,false,false,false,false] rfl rfl (lF HT_.out HW_.out (by kernel_rfl)) (fun _ _ _ h=>h) (Or.inl ⟨by rfl,?_⟩) hHeld ?_ ?_
           rotate_left
           ·rintro w' ⟨s0,s1,s2,s3⟩
            go_simp
            with_reducible rfl
           rotate_left
           ·simp only [Act.put,sb_,sz_,ss_,iO,jA]
            rfl
           refine qP (i:=15) (N:=some 27) (v:=?_) (a':=?_) #[true,true,true,true,true,true,true,true,true,true,true,true,true,true,true,true,false,false,false] rfl rfl (lF HT_.out HW_.out (by kernel_rfl)) (fun _ _ _ h=>h) (Or.inl ⟨by rfl,?_⟩) hHeld ?_ ?_
           rotate_left
           ·rintro w' ⟨s0,s1,s2,s3⟩
            go_simp
            with_reducible rfl
           rotate_left
           ·simp only [Act.put,sb_,sz_,ss_,iO,jA]
            rfl
           refine jK (i:=16) (N:=some 28) (v:=?_) (a':=?_) #[true,true,true,true,true,true,true,true,true,true,true,true,true,true,true,true,true,false,false] rfl rfl (iZ HT_.out (by kernel_rfl)) (fun _ _ _ h=>h) (Or.inl ⟨by rfl,?_⟩) ?_ ?_
           rotate_left
           ·intro w'
            go_simp
            with_reducible rfl
           rotate_left
           ·simp only [Act.put,sb_,sz_,ss_,iO,jA]
            rfl
           refine jK (i:=17) (N:=some 29) (v:=?_) (a':=?_) #[true,true,true,true,true,true,true,true,true,true,true,true,true,true,true,true,true,true,false] rfl rfl (iZ HT_.out (by kernel_rfl)) (fun _ _ _ h=>h) (Or.inl ⟨by rfl,?_⟩) ?_ ?_
           rotate_left
           ·intro w'
            go_simp
            with_reducible rfl
           rotate_left
           ·simp only [Act.put,sb_,sz_,ss_,iO,jA]
            rfl
           refine jK (i:=18) (N:=some 30) (v:=?_) (a':=?_) #[true,true,true,true,true,true,true,true,true,true,true,true,true,true,true,true,true,true,true] rfl rfl (iZ HT_.out (by kernel_rfl)) (fun _ _ _ h=>h) (Or.inl ⟨by rfl,?_⟩) ?_ ?_
           rotate_left
           ·intro w'
            go_simp
            with_reducible rfl
           rotate_left
           ·simp only [Act.put,sb_,sz_,ss_,iO,jA]
            rfl
           refine zI (pM HT_.out (by kernel_rfl)) ?_
           try go_wp2
           go_ret
           exact ⟨by first | rfl | (simp [jF,jG] <;> rfl) | (simp only [← hji8];first | rfl | (simp [jF,jG] <;> rfl)) | (simp [*,jF,jG] <;> rfl),by repeat (first | (with_reducible first | exact HB.out | apply iD | apply iF | apply iQ | refine iL ?_ GE105.out) | exact HB.out)⟩
          ·rw [if_neg c11] at H
           have c11b0:decide (((iK l0 x7_1).f0)≤((iK l0 (ji8)).f0))=false:=decide_eq_false c11
           clear c11
           have H':=iC.mk H
           clear H
           have p104:0≤(x7_1:Int):=of_decide_eq_true asm_
           have q104:x7_1<(l0.length:Int):=of_decide_eq_true asm_
           obtain ⟨ad104,A104_1,c104_1,e104,hx104_0,hx104_1,hl104_1,hi104_1⟩:=kN HR0.out x7_1 p104 q104
           cases e104
           replace hx104_0:=(HB.out.cell (World.block_lt_of_cell? w _ hx104_0)).trans hx104_0
           replace hx104_1:=(HB.out.cell (World.block_lt_of_cell? w _ hx104_1)).trans hx104_1
           have HR104_1:=iC.mk hi104_1
           have HC104_1:=iC.mk hl104_1
           clear hi104_1 hl104_1
           replace p104:=eq_true p104
           replace q104:=eq_true q104
           try go_wp2_with (first | ((with_reducible refine kJ (N:=4) rfl ?_);refine jW ?hg (N:=4) ?hd (cs:=#[.int .u32 0,.slice none 0 0]) (t:=114) ?hr ?_;(case hd=>rfl);(case hg=>rfl);(case hr=>first | (go_simp;done) | (go_simp;rfl));intro gb105 hg w17 hbox hb;have n0_:=iC.mk (iH hb_ hb);have n1_:=iC.mk (hbox);have n2_:=iC.mk ((by rw [hg];exact (iT hb_):w.heap.size≤gb105));have n3_:=iC.mk ((by rw [hg];exact (iT hb_):w.heap.size≤gb105));clear HB;have HB:=n0_;have BK105:=n1_;have GW105:=n2_;have GE105:=n3_;clear n0_ n1_ n2_ n3_;clear hb hbox hg;have hcz18_0:w17.cell? ⟨gb105,0,none⟩=some (.int .u32 0):=(iG BK105.out 0).trans rfl;have hcz18_1:w17.cell? ⟨gb105,1,none⟩=some (.slice none 0 0):=(iG BK105.out 1).trans rfl;have hfz18_0:=iE BK105.out 0;have hfz18_1:=iE BK105.out 1))
           have n0_:iC (((w17.setCell ⟨gb105,0,none⟩ (.int .u32 ((iK l0 x7_1).f0))).setCell ⟨gb105,1,none⟩ (.slice A104_1 ((iK l0 x7_1).f1).length c104_1)).heap[gb105]? = some (.cells #[.int .u32 ((iK l0 x7_1).f0),.slice A104_1 ((iK l0 x7_1).f1).length c104_1] 114 (0,0))):=⟨by (with_reducible repeat (first | refine kQ ?_ _ | refine kK ?_ | refine kD ?_ _));refine jU (cs:=#[.int .u32 ((iK l0 x7_1).f0),.slice none 0 0]) ?_ 1 _ rfl;(with_reducible repeat (first | refine kQ ?_ _ | refine kK ?_ | refine kD ?_ _));refine jU (cs:=#[.int .u32 0,.slice none 0 0]) ?_ 0 _ rfl;(with_reducible repeat (first | refine kQ ?_ _ | refine kK ?_ | refine kD ?_ _));exact BK105.out⟩
           have n1_:iC (Below w.heap.size w ((w17.setCell ⟨gb105,0,none⟩ (.int .u32 ((iK l0 x7_1).f0))).setCell ⟨gb105,1,none⟩ (.slice A104_1 ((iK l0 x7_1).f1).length c104_1))):=⟨by repeat (first | (with_reducible first | exact HB.out | apply iD | apply iF | apply iQ | refine iL ?_ GE105.out) | exact HB.out)⟩
           (try clear BK105)
           (try clear HB)
           generalize ((w17.setCell ⟨gb105,0,none⟩ (.int .u32 ((iK l0 x7_1).f0))).setCell ⟨gb105,1,none⟩ (.slice A104_1 ((iK l0 x7_1).f1).length c104_1))=w19 at n0_ n1_ ⊢
           have BK105:=n0_
           have HB:=n1_
           clear n0_ n1_
           have n0_:=iC.mk (kK BK105.out)
           have n1_:=iC.mk (iQ HB.out)
           clear BK105
           clear HB
           have BK105:=n0_
           have HB:=n1_
           clear n0_ n1_
           have p107:0≤((ji8):Int):=of_decide_eq_true asm_
           have q107:(ji8)<(l0.length:Int):=of_decide_eq_true asm_
           obtain ⟨ad107,A107_1,c107_1,e107,hx107_0,hx107_1,hl107_1,hi107_1⟩:=kN HR0.out (ji8) p107 q107
           have hw107_1:=hx107_1
           have hw107_0:=hx107_0
           obtain rfl:ad104=ad107:=(by injection e107)
           replace hx107_0:=(HB.out.cell (World.block_lt_of_cell? w _ hx107_0)).trans hx107_0
           replace hx107_1:=(HB.out.cell (World.block_lt_of_cell? w _ hx107_1)).trans hx107_1
           have HR107_1:=iC.mk hi107_1
           have HC107_1:=iC.mk hl107_1
           clear hi107_1 hl107_1
           replace p107:=eq_true p107
           replace q107:=eq_true q107
           refine qJ (n:=19) (S:=fun w'=>w'.cell? ⟨gb105,0,none⟩=some (.int .u32 ((iK l0 x7_1).f0))∧w'.cell? ⟨gb105,1,none⟩=some (.slice A104_1 ((iK l0 x7_1).f1).length c104_1)∧w'.cell? (ad104.add (((ji8)).toNat * 2))=some (.int .u32 ((iK l0 (ji8)).f0))∧w'.cell? ⟨(ad104.add (((ji8)).toNat * 2)).block,(ad104.add (((ji8)).toNat * 2)).off+1,none⟩=some (.slice A107_1 ((iK l0 (ji8)).f1).length c107_1)) (ds:=[]) #[false,false,false,false,false,false,false,false,false,false,false,false,false,false,false,false,false,false,false] (by kernel_rfl) rfl rfl ⟨(iG BK105.out 0).trans rfl,(iG BK105.out 1).trans rfl,((HB.out.cell (World.block_lt_of_cell? w _ hw107_0)).trans hw107_0),((HB.out.cell (World.block_lt_of_cell? w _ hw107_1)).trans hw107_1)⟩ (fun hHeld=>?_);refine mM code_history.tab4 code_history.bits4 (fun HT_ HW_=>?_)
           generalize w19.drew=w20 at BK105 HB HR107_1 hx107_0 hx107_1 hHeld ⊢
           refine jK (i:=0) (N:=some 12) (v:=?_) (a':=?_) #[true,false,false,false,false,false,false,false,false,false,false,false,false,false,false,false,false,false,false] rfl rfl (iZ HT_.out (by kernel_rfl)) (fun _ _ _ h=>h) (Or.inl ⟨by rfl,?_⟩) ?_ ?_
           rotate_left
           ·intro w'
            go_simp
            with_reducible rfl
           rotate_left
           ·simp only [Act.put,sb_,sz_,ss_,iO,jA]
            rfl
           refine qP (i:=1) (N:=some 13) (v:=?_) (a':=?_) #[true,true,false,false,false,false,false,false,false,false,false,false,false,false,false,false,false,false,false] rfl rfl (lF HT_.out HW_.out (by kernel_rfl)) (fun _ _ _ h=>h) (Or.inl ⟨by rfl,?_⟩) hHeld ?_ ?_
           rotate_left
           ·rintro w' ⟨s0,s1,s2,s3⟩
            go_simp
            with_reducible rfl
           rotate_left
           ·simp only [Act.put,sb_,sz_,ss_,iO,jA]
            rfl
           refine one_ (i:=2) (N:=some 14) #[true,true,true,false,false,false,false,false,false,false,false,false,false,false,false,false,false,false,false] rfl rfl (kY HT_.out (by kernel_rfl)) (by decide) (fun K hK=>?_)
           refine oD Tryz.func90 (by kernel_rfl) rfl #[.slice A104_1 ((iK l0 x7_1).f1).length c104_1] (by rfl) rfl rfl (by (try simp only [List.map_toArray,List.map_cons,List.map_nil]);first | done | rfl | (simp only [List.length_drop,List.length_take];rfl)) ?_
           with_reducible refine (code_batch.calls _ _ ((iK l0 x7_1).f1) true _ ?side1 ?side2 A5.out).mono ?_
           (case side1=>repeat (first | exact (Kd.C_below HR104_1.out HB.out) | (with_reducible refine Kd.C_alloc ?_ _) | (with_reducible refine Kd.C_drewN ?_ _) | (with_reducible refine Kd.C_drew ?_)))
           (case side2=>exact HC104_1.out)
           rintro e w21 ⟨rfl,hb⟩
           refine ⟨_,rfl,?_⟩
           have n0_:=iC.mk (qB (g:=gb105) (o:=.cells #[.int .u32 ((iK l0 x7_1).f0),.slice A104_1 ((iK l0 x7_1).f1).length c104_1] 114 (0,0)) (bk_ BK105.out) hb)
           have n1_:=iC.mk (iH (by repeat (first | (with_reducible first | exact HB.out | apply iD | apply iF | apply iQ | refine iL ?_ GE105.out) | exact HB.out)) hb)
           clear BK105
           clear HB
           have BK105:=n0_
           have HB:=n1_
           clear n0_ n1_
           (try clear hb)
           (try clear hb2)
           (try clear hk)
           (try clear hi)
           refine hK.out _ _ ⟨(iG BK105.out 0).trans rfl,(iG BK105.out 1).trans rfl,((HB.out.cell (World.block_lt_of_cell? w _ hw107_0)).trans hw107_0),((HB.out.cell (World.block_lt_of_cell? w _ hw107_1)).trans hw107_1)⟩ (fun hHeld=>?_)
           clear hK K
           refine lL (a':=?_) ?_ ?_
           rotate_left
           ·show Act.put _ (some 14) _=_
            simp only [Act.put,sb_,sz_,ss_,iO,jA]
            rfl
           refine jK (i:=3) (N:=some 15) (v:=?_) (a':=?_) #[true,true,true,true,false,false,false,false,false,false,false,false,false,false,false,false,false,false,false] rfl rfl (iZ HT_.out (by kernel_rfl)) (fun _ _ _ h=>h) (Or.inl ⟨by rfl,?_⟩) ?_ ?_
           rotate_left
           ·intro w'
            go_simp
            with_reducible rfl
           rotate_left
           ·simp only [Act.put,sb_,sz_,ss_,iO,jA]
            rfl
           refine jK (i:=4) (N:=some 16) (v:=?_) (a':=?_) #[true,true,true,true,true,false,false,false,false,false,false,false,false,false,false,false,false,false,false] rfl rfl (iZ HT_.out (by kernel_rfl)) (fun _ _ _ h=>h) (Or.inl ⟨by rfl,?_⟩) ?_ ?_
           rotate_left
           ·intro w'
            go_simp
            with_reducible rfl
           rotate_left
           ·simp only [Act.put,sb_,sz_,ss_,iO,jA]
            rfl
           refine jK (i:=5) (N:=some 17) (v:=?_) (a':=?_) #[true,true,true,true,true,true,false,false,false,false,false,false,false,false,false,false,false,false,false] rfl rfl (iZ HT_.out (by kernel_rfl)) (fun _ _ _ h=>h) (Or.inl ⟨by rfl,?_⟩) ?_ ?_
           rotate_left
           ·intro w'
            go_simp
            with_reducible rfl
           rotate_left
           ·simp only [Act.put,sb_,sz_,ss_,iO,jA]
            rfl
           refine jK (i:=6) (N:=some 18) (v:=?_) (a':=?_) #[true,true,true,true,true,true,true,false,false,false,false,false,false,false,false,false,false,false,false] rfl rfl (iZ HT_.out (by kernel_rfl)) (fun _ _ _ h=>h) (Or.inl ⟨by rfl,?_⟩) ?_ ?_
           rotate_left
           ·intro w'
            go_simp
            with_reducible rfl
           rotate_left
           ·simp only [Act.put,sb_,sz_,ss_,iO,jA]
            rfl
           refine jK (i:=7) (N:=some 19) (v:=?_) (a':=?_) #[true,true,true,true,true,true,true,true,false,false,false,false,false,false,false,false,false,false,false] rfl rfl (iZ HT_.out (by kernel_rfl)) (fun _ _ _ h=>h) (Or.inl ⟨by rfl,?_⟩) ?_ ?_
           rotate_left
           ·intro w'
            go_simp
            with_reducible rfl
           rotate_left
           ·simp only [Act.put,sb_,sz_,ss_,iO,jA]
            rfl
           refine jK (i:=8) (N:=some 20) (v:=?_) (a':=?_) #[true,true,true,true,true,true,true,true,true,false,false,false,false,false,false,false,false,false,false] rfl rfl (iZ HT_.out (by kernel_rfl)) (fun _ _ _ h=>h) (Or.inl ⟨by rfl,?_⟩) ?_ ?_
           rotate_left
           ·intro w'
            go_simp
            with_reducible rfl
           rotate_left
           ·simp only [Act.put,sb_,sz_,ss_,iO,jA]
            rfl
           refine jK (i:=10) (N:=some 22) (v:=?_) (a':=?_) #[true,true,true,true,true,true,true,true,true,false,true,false,false,false,false,false,false,false,false] rfl rfl (iZ HT_.out (by kernel_rfl)) (fun _ _ _ h=>h) (Or.inl ⟨by rfl,?_⟩) ?_ ?_
           rotate_left
           ·intro w'
            go_simp
            with_reducible rfl
           rotate_left
           ·simp only [Act.put,sb_,sz_,ss_,iO,jA]
            rfl
           refine jK (i:=11) (N:=some 23) (v:=?_) (a':=?_) #[true,true,true,true,true,true,true,true,true,false,true,true,false,false,false,false,false,false,false] rfl rfl (iZ HT_.out (by kernel_rfl)) (fun _ _ _ h=>h) (Or.inl ⟨by rfl,?_⟩) ?_ ?_
           rotate_left
           ·intro w'
            go_simp
            with_reducible rfl
           rotate_left
           ·simp only [Act.put,sb_,sz_,ss_,iO,jA]
            rfl
           refine jK (i:=12) (N:=some 24) (v:=?_) (a':=?_) #[true,true,true,true,true,true,true,true,true,false,true,true,true,false,false,false,false,false,false] rfl rfl (iZ HT_.out (by kernel_rfl)) (fun _ _ _ h=>h) (Or.inl ⟨by rfl,?_⟩) ?_ ?_
           rotate_left
           ·intro w'
            go_simp
            with_reducible rfl
           rotate_left
           ·simp only [Act.put,sb_,sz_,ss_,iO,jA]
            rfl
           refine jK (i:=13) (N:=some 25) (v:=?_) (a':=?_) #[true,true,true,true,true,true,true,true,true,false,true,true,true,true,false,false,false,false,false] rfl rfl (iZ HT_.out (by kernel_rfl)) (fun _ _ _ h=>h) (Or.inl ⟨by rfl,?_⟩) ?_ ?_
           rotate_left
           ·intro w'
            go_simp
            with_reducible rfl
           rotate_left
           ·simp only [Act.put,sb_,sz_,ss_,iO,jA]
            rfl
           refine jK (i:=14) (N:=some 26) (v:=?_) (a':=?_) #[true,true,true,true,true,true,true,true,true,false,true,true,true,true,true,false,false,false,false] rfl rfl (iZ HT_.out (by kernel_rfl)) (fun _ _ _ h=>h) (Or.inl ⟨by rfl,?_⟩) ?_ ?_
           rotate_left
           ·intro w'
            go_simp
            with_reducible rfl
           rotate_left
           ·simp only [Act.put,sb_,sz_,ss_,iO,jA]
            rfl
           refine qP (i:=9) (N:=some 21) (v:=?_) (a':=?_) #[true,true,true,true,true,true,true,true,true,true,true,true,true,true,true,false,false,false,false] rfl rfl (lF HT_.out HW_.out (by kernel_rfl)) (fun _ _ _ h=>h) (Or.inl ⟨by rfl,?_⟩) hHeld ?_ ?_
           rotate_left
           ·rintro w' ⟨s0,s1,s2,s3⟩
            go_simp
            with_reducible rfl
           rotate_left
           ·simp only [Act.put,sb_,sz_,ss_,iO,jA]
            rfl
           refine qP (i:=15) (N:=some 27) (v:=?_) (a':=?_) #[true,true,true,true,true,true,true,true,true,true,true,true,true,true,true,true,false,false,false] rfl rfl (lF HT_.out HW_.out (by kernel_rfl)) (fun _ _ _ h=>h) (Or.inl ⟨by rfl,?_⟩) hHeld ?_ ?_
           rotate_left
           ·rintro w' ⟨s0,s1,s2,s3⟩
            go_simp
            with_reducible rfl
           rotate_left
           ·simp only [Act.put,sb_,sz_,ss_,iO,jA]
            rfl
           refine jK (i:=16) (N:=some 28) (v:=?_) (a':=?_) #[true,true,true,true,true,true,true,true,true,true,true,true,true,true,true,true,true,false,false] rfl rfl (iZ HT_.out (by kernel_rfl)) (fun _ _ _ h=>h) (Or.inl ⟨by rfl,?_⟩) ?_ ?_
           rotate_left
           ·intro w'
            go_simp
            with_reducible rfl
           rotate_left
           ·simp only [Act.put,sb_,sz_,ss_,iO,jA]
            rfl
           refine jK (i:=17) (N:=some 29) (v:=?_) (a':=?_) #[true,true,true,true,true,true,true,true,true,true,true,true,true,true,true,true,true,true,false] rfl rfl (iZ HT_.out (by kernel_rfl)) (fun _ _ _ h=>h) (Or.inl ⟨by rfl,?_⟩) ?_ ?_
           rotate_left
           ·intro w'
            go_simp
            with_reducible rfl
           rotate_left
           ·simp only [Act.put,sb_,sz_,ss_,iO,jA]
            rfl
           refine jK (i:=18) (N:=some 30) (v:=?_) (a':=?_) #[true,true,true,true,true,true,true,true,true,true,true,true,true,true,true,true,true,true,true] rfl rfl (iZ HT_.out (by kernel_rfl)) (fun _ _ _ h=>h) (Or.inl ⟨by rfl,?_⟩) ?_ ?_
           rotate_left
           ·intro w'
            go_simp
            with_reducible rfl
           rotate_left
           ·simp only [Act.put,sb_,sz_,ss_,iO,jA]
            rfl
           refine zI (pM HT_.out (by kernel_rfl)) ?_
           try go_wp2
           go_roundg k1
           case measure=>have:=HK1.out;omega
           case rel=>exact ⟨(wrap64 (x7_1+1)),(by first | rfl | (simp;done) | (simp [*];done)),H',⟨by have:=HK1.out;omega⟩,⟨by repeat (first | (with_reducible first | exact HB.out | apply iD | apply iF | apply iQ | refine iL ?_ GE105.out) | exact HB.out)⟩⟩
         ·rw [if_neg c10] at H
          exact absurd H (by simp)
        ·rw [if_neg c9] at H
         exact absurd H (by simp)
       ·rw [if_neg c7] at H
        have c7b0:decide (0<x7_1)=false:=decide_eq_false c7
        clear c7
        have H':=iC.mk H
        clear H
        have p104:0≤(x7_1:Int):=of_decide_eq_true asm_
        have q104:x7_1<(l0.length:Int):=of_decide_eq_true asm_
        obtain ⟨ad104,A104_1,c104_1,e104,hx104_0,hx104_1,hl104_1,hi104_1⟩:=kN HR0.out x7_1 p104 q104
        cases e104
        replace hx104_0:=(HB.out.cell (World.block_lt_of_cell? w _ hx104_0)).trans hx104_0
        replace hx104_1:=(HB.out.cell (World.block_lt_of_cell? w _ hx104_1)).trans hx104_1
        have HR104_1:=iC.mk hi104_1
        have HC104_1:=iC.mk hl104_1
        clear hi104_1 hl104_1
        replace p104:=eq_true p104
        replace q104:=eq_true q104
        try go_wp2_with (first | ((with_reducible refine kJ (N:=4) rfl ?_);refine jW ?hg (N:=4) ?hd (cs:=#[.int .u32 0,.slice none 0 0]) (t:=114) ?hr ?_;(case hd=>rfl);(case hg=>rfl);(case hr=>first | (go_simp;done) | (go_simp;rfl));intro gb105 hg w22 hbox hb;have n0_:=iC.mk (iH hb_ hb);have n1_:=iC.mk (hbox);have n2_:=iC.mk ((by rw [hg];exact (iT hb_):w.heap.size≤gb105));have n3_:=iC.mk ((by rw [hg];exact (iT hb_):w.heap.size≤gb105));clear HB;have HB:=n0_;have BK105:=n1_;have GW105:=n2_;have GE105:=n3_;clear n0_ n1_ n2_ n3_;clear hb hbox hg;have hcz23_0:w22.cell? ⟨gb105,0,none⟩=some (.int .u32 0):=(iG BK105.out 0).trans rfl;have hcz23_1:w22.cell? ⟨gb105,1,none⟩=some (.slice none 0 0):=(iG BK105.out 1).trans rfl;have hfz23_0:=iE BK105.out 0;have hfz23_1:=iE BK105.out 1))
        have n0_:iC (((w22.setCell ⟨gb105,0,none⟩ (.int .u32 ((iK l0 x7_1).f0))).setCell ⟨gb105,1,none⟩ (.slice A104_1 ((iK l0 x7_1).f1).length c104_1)).heap[gb105]? = some (.cells #[.int .u32 ((iK l0 x7_1).f0),.slice A104_1 ((iK l0 x7_1).f1).length c104_1] 114 (0,0))):=⟨by (with_reducible repeat (first | refine kQ ?_ _ | refine kK ?_ | refine kD ?_ _));refine jU (cs:=#[.int .u32 ((iK l0 x7_1).f0),.slice none 0 0]) ?_ 1 _ rfl;(with_reducible repeat (first | refine kQ ?_ _ | refine kK ?_ | refine kD ?_ _));refine jU (cs:=#[.int .u32 0,.slice none 0 0]) ?_ 0 _ rfl;(with_reducible repeat (first | refine kQ ?_ _ | refine kK ?_ | refine kD ?_ _));exact BK105.out⟩
        have n1_:iC (Below w.heap.size w ((w22.setCell ⟨gb105,0,none⟩ (.int .u32 ((iK l0 x7_1).f0))).setCell ⟨gb105,1,none⟩ (.slice A104_1 ((iK l0 x7_1).f1).length c104_1))):=⟨by repeat (first | (with_reducible first | exact HB.out | apply iD | apply iF | apply iQ | refine iL ?_ GE105.out) | exact HB.out)⟩
        (try clear BK105)
        (try clear HB)
        generalize ((w22.setCell ⟨gb105,0,none⟩ (.int .u32 ((iK l0 x7_1).f0))).setCell ⟨gb105,1,none⟩ (.slice A104_1 ((iK l0 x7_1).f1).length c104_1))=w24 at n0_ n1_ ⊢
        have BK105:=n0_
        have HB:=n1_
        clear n0_ n1_
        have n0_:=iC.mk (kK BK105.out)
        have n1_:=iC.mk (iQ HB.out)
        clear BK105
        clear HB
        have BK105:=n0_
        have HB:=n1_
        clear n0_ n1_
        refine qJ (n:=19) (S:=fun w'=>w'.cell? ⟨gb105,0,none⟩=some (.int .u32 ((iK l0 x7_1).f0))∧w'.cell? ⟨gb105,1,none⟩=some (.slice A104_1 ((iK l0 x7_1).f1).length c104_1)) (ds:=[]) #[false,false,false,false,false,false,false,false,false,false,false,false,false,false,false,false,false,false,false] (by kernel_rfl) rfl rfl ⟨(iG BK105.out 0).trans rfl,(iG BK105.out 1).trans rfl⟩ (fun hHeld=>?_);refine mM code_history.tab4 code_history.bits4 (fun HT_ HW_=>?_)
        generalize w24.drew=w25 at BK105 HB hHeld ⊢
        refine jK (i:=0) (N:=some 12) (v:=?_) (a':=?_) #[true,false,false,false,false,false,false,false,false,false,false,false,false,false,false,false,false,false,false] rfl rfl (iZ HT_.out (by kernel_rfl)) (fun _ _ _ h=>h) (Or.inl ⟨by rfl,?_⟩) ?_ ?_
        rotate_left
        ·intro w'
         go_simp
         with_reducible rfl
        rotate_left
        ·simp only [Act.put,sb_,sz_,ss_,iO,jA]
         rfl
        refine qP (i:=1) (N:=some 13) (v:=?_) (a':=?_) #[true,true,false,false,false,false,false,false,false,false,false,false,false,false,false,false,false,false,false] rfl rfl (lF HT_.out HW_.out (by kernel_rfl)) (fun _ _ _ h=>h) (Or.inl ⟨by rfl,?_⟩) hHeld ?_ ?_
        rotate_left
        ·rintro w' ⟨s0,s1⟩
         go_simp
         with_reducible rfl
        rotate_left
        ·simp only [Act.put,sb_,sz_,ss_,iO,jA]
         rfl
        refine one_ (i:=2) (N:=some 14) #[true,true,true,false,false,false,false,false,false,false,false,false,false,false,false,false,false,false,false] rfl rfl (kY HT_.out (by kernel_rfl)) (by decide) (fun K hK=>?_)
        refine oD Tryz.func90 (by kernel_rfl) rfl #[.slice A104_1 ((iK l0 x7_1).f1).length c104_1] (by rfl) rfl rfl (by (try simp only [List.map_toArray,List.map_cons,List.map_nil]);first | done | rfl | (simp only [List.length_drop,List.length_take];rfl)) ?_
        with_reducible refine (code_batch.calls _ _ ((iK l0 x7_1).f1) true _ ?side1 ?side2 A5.out).mono ?_
        (case side1=>repeat (first | exact (Kd.C_below HR104_1.out HB.out) | (with_reducible refine Kd.C_alloc ?_ _) | (with_reducible refine Kd.C_drewN ?_ _) | (with_reducible refine Kd.C_drew ?_)))
        (case side2=>exact HC104_1.out)
        rintro e w26 ⟨rfl,hb⟩
        refine ⟨_,rfl,?_⟩
        have n0_:=iC.mk (qB (g:=gb105) (o:=.cells #[.int .u32 ((iK l0 x7_1).f0),.slice A104_1 ((iK l0 x7_1).f1).length c104_1] 114 (0,0)) (bk_ BK105.out) hb)
        have n1_:=iC.mk (iH (by repeat (first | (with_reducible first | exact HB.out | apply iD | apply iF | apply iQ | refine iL ?_ GE105.out) | exact HB.out)) hb)
        clear BK105
        clear HB
        have BK105:=n0_
        have HB:=n1_
        clear n0_ n1_
        (try clear hb)
        (try clear hb2)
        (try clear hk)
        (try clear hi)
        refine hK.out _ _ ⟨(iG BK105.out 0).trans rfl,(iG BK105.out 1).trans rfl⟩ (fun hHeld=>?_)
        clear hK K
        refine lL (a':=?_) ?_ ?_
        rotate_left
        ·show Act.put _ (some 14) _=_
         simp only [Act.put,sb_,sz_,ss_,iO,jA]
         rfl
        refine jK (i:=3) (N:=some 15) (v:=?_) (a':=?_) #[true,true,true,true,false,false,false,false,false,false,false,false,false,false,false,false,false,false,false] rfl rfl (iZ HT_.out (by kernel_rfl)) (fun _ _ _ h=>h) (Or.inl ⟨by rfl,?_⟩) ?_ ?_
        rotate_left
        ·intro w'
         go_simp
         with_reducible rfl
        rotate_left
        ·simp only [Act.put,sb_,sz_,ss_,iO,jA]
         rfl
        refine jK (i:=4) (N:=some 16) (v:=?_) (a':=?_) #[true,true,true,true,true,false,false,false,false,false,false,false,false,false,false,false,false,false,false] rfl rfl (iZ HT_.out (by kernel_rfl)) (fun _ _ _ h=>h) (Or.inl ⟨by rfl,?_⟩) ?_ ?_
        rotate_left
        ·intro w'
         go_simp
         with_reducible rfl
        rotate_left
        ·simp only [Act.put,sb_,sz_,ss_,iO,jA]
         rfl
        refine jK (i:=5) (N:=some 17) (v:=?_) (a':=?_) #[true,true,true,true,true,true,false,false,false,false,false,false,false,false,false,false,false,false,false] rfl rfl (iZ HT_.out (by kernel_rfl)) (fun _ _ _ h=>h) (Or.inl ⟨by rfl,?_⟩) ?_ ?_
        rotate_left
        ·intro w'
         go_simp
         with_reducible rfl
        rotate_left
        ·simp only [Act.put,sb_,sz_,ss_,iO,jA]
         rfl
        refine jK (i:=6) (N:=some 18) (v:=?_) (a':=?_) #[true,true,true,true,true,true,true,false,false,false,false,false,false,false,false,false,false,false,false] rfl rfl (iZ HT_.out (by kernel_rfl)) (fun _ _ _ h=>h) (Or.inl ⟨by rfl,?_⟩) ?_ ?_
        rotate_left
        ·intro w'
         go_simp
         with_reducible rfl
        rotate_left
        ·simp only [Act.put,sb_,sz_,ss_,iO,jA]
         rfl
        refine jK (i:=7) (N:=some 19) (v:=?_) (a':=?_) #[true,true,true,true,true,true,true,true,false,false,false,false,false,false,false,false,false,false,false] rfl rfl (iZ HT_.out (by kernel_rfl)) (fun _ _ _ h=>h) (Or.inl ⟨by rfl,?_⟩) ?_ ?_
        rotate_left
        ·intro w'
         go_simp
         with_reducible rfl
        rotate_left
        ·simp only [Act.put,sb_,sz_,ss_,iO,jA]
         rfl
        refine jK (i:=8) (N:=some 20) (v:=undef) (a':=?_) #[true,true,true,true,true,true,true,true,true,false,false,false,false,false,false,false,false,false,false] rfl rfl (iZ HT_.out (by kernel_rfl)) (fun _ _ _ h=>h) (Or.inr ⟨by rfl,rfl⟩) ?_ ?_
        rotate_left
        ·simp only [Act.put,sb_,sz_,ss_,iO,jA]
         rfl
        refine jK (i:=9) (N:=some 21) (v:=undef) (a':=?_) #[true,true,true,true,true,true,true,true,true,true,false,false,false,false,false,false,false,false,false] rfl rfl (iZ HT_.out (by kernel_rfl)) (fun _ _ _ h=>h) (Or.inr ⟨by rfl,rfl⟩) ?_ ?_
        rotate_left
        ·simp only [Act.put,sb_,sz_,ss_,iO,jA]
         rfl
        refine jK (i:=10) (N:=some 22) (v:=undef) (a':=?_) #[true,true,true,true,true,true,true,true,true,true,true,false,false,false,false,false,false,false,false] rfl rfl (iZ HT_.out (by kernel_rfl)) (fun _ _ _ h=>h) (Or.inr ⟨by rfl,rfl⟩) ?_ ?_
        rotate_left
        ·simp only [Act.put,sb_,sz_,ss_,iO,jA]
         rfl
        refine jK (i:=11) (N:=some 23) (v:=undef) (a':=?_) #[true,true,true,true,true,true,true,true,true,true,true,true,false,false,false,false,false,false,false] rfl rfl (iZ HT_.out (by kernel_rfl)) (fun _ _ _ h=>h) (Or.inr ⟨by rfl,rfl⟩) ?_ ?_
        rotate_left
        ·simp only [Act.put,sb_,sz_,ss_,iO,jA]
         rfl
        refine jK (i:=12) (N:=some 24) (v:=undef) (a':=?_) #[true,true,true,true,true,true,true,true,true,true,true,true,true,false,false,false,false,false,false] rfl rfl (iZ HT_.out (by kernel_rfl)) (fun _ _ _ h=>h) (Or.inr ⟨by rfl,rfl⟩) ?_ ?_
        rotate_left
        ·simp only [Act.put,sb_,sz_,ss_,iO,jA]
         rfl
        refine jK (i:=13) (N:=some 25) (v:=undef) (a':=?_) #[true,true,true,true,true,true,true,true,true,true,true,true,true,true,false,false,false,false,false] rfl rfl (iZ HT_.out (by kernel_rfl)) (fun _ _ _ h=>h) (Or.inr ⟨by rfl,rfl⟩) ?_ ?_
        rotate_left
        ·simp only [Act.put,sb_,sz_,ss_,iO,jA]
         rfl
        refine jK (i:=14) (N:=some 26) (v:=undef) (a':=?_) #[true,true,true,true,true,true,true,true,true,true,true,true,true,true,true,false,false,false,false] rfl rfl (iZ HT_.out (by kernel_rfl)) (fun _ _ _ h=>h) (Or.inr ⟨by rfl,rfl⟩) ?_ ?_
        rotate_left
        ·simp only [Act.put,sb_,sz_,ss_,iO,jA]
         rfl
        refine jK (i:=15) (N:=some 27) (v:=undef) (a':=?_) #[true,true,true,true,true,true,true,true,true,true,true,true,true,true,true,true,false,false,false] rfl rfl (iZ HT_.out (by kernel_rfl)) (fun _ _ _ h=>h) (Or.inr ⟨by rfl,rfl⟩) ?_ ?_
        rotate_left
        ·simp only [Act.put,sb_,sz_,ss_,iO,jA]
         rfl
        refine jK (i:=16) (N:=some 28) (v:=undef) (a':=?_) #[true,true,true,true,true,true,true,true,true,true,true,true,true,true,true,true,true,false,false] rfl rfl (iZ HT_.out (by kernel_rfl)) (fun _ _ _ h=>h) (Or.inr ⟨by rfl,rfl⟩) ?_ ?_
        rotate_left
        ·simp only [Act.put,sb_,sz_,ss_,iO,jA]
         rfl
        refine jK (i:=17) (N:=some 29) (v:=?_) (a':=?_) #[true,true,true,true,true,true,true,true,true,true,true,true,true,true,true,true,true,true,false] rfl rfl (iZ HT_.out (by kernel_rfl)) (fun _ _ _ h=>h) (Or.inl ⟨by rfl,?_⟩) ?_ ?_
        rotate_left
        ·intro w'
         go_simp
         with_reducible rfl
        rotate_left
        ·simp only [Act.put,sb_,sz_,ss_,iO,jA]
         rfl
        refine jK (i:=18) (N:=some 30) (v:=?_) (a':=?_) #[true,true,true,true,true,true,true,true,true,true,true,true,true,true,true,true,true,true,true] rfl rfl (iZ HT_.out (by kernel_rfl)) (fun _ _ _ h=>h) (Or.inl ⟨by rfl,?_⟩) ?_ ?_
        rotate_left
        ·intro w'
         go_simp
         with_reducible rfl
        rotate_left
        ·simp only [Act.put,sb_,sz_,ss_,iO,jA]
         rfl
        refine zI (pM HT_.out (by kernel_rfl)) ?_
        try go_wp2
        go_roundg k1
        case measure=>have:=HK1.out;omega
        case rel=>exact ⟨(wrap64 (x7_1+1)),(by first | rfl | (simp;done) | (simp [*];done)),H',⟨by have:=HK1.out;omega⟩,⟨by repeat (first | (with_reducible first | exact HB.out | apply iD | apply iF | apply iQ | refine iL ?_ GE105.out) | exact HB.out)⟩⟩
      ·replace c6:=Bool.eq_false_iff.mpr c6
       subst c6
       have H1:(some false)=some r:=by rw [if_neg (show ¬ (false=true) by decide)] at H;exact H
       clear H
       have H:=H1
       clear H1
       obtain rfl:=Option.some.inj H
       have p104:0≤(x7_1:Int):=of_decide_eq_true asm_
       have q104:x7_1<(l0.length:Int):=of_decide_eq_true asm_
       obtain ⟨ad104,A104_1,c104_1,e104,hx104_0,hx104_1,hl104_1,hi104_1⟩:=kN HR0.out x7_1 p104 q104
       cases e104
       replace hx104_0:=(HB.out.cell (World.block_lt_of_cell? w _ hx104_0)).trans hx104_0
       replace hx104_1:=(HB.out.cell (World.block_lt_of_cell? w _ hx104_1)).trans hx104_1
       have HR104_1:=iC.mk hi104_1
       have HC104_1:=iC.mk hl104_1
       clear hi104_1 hl104_1
       replace p104:=eq_true p104
       replace q104:=eq_true q104
       try go_wp2_with (first | ((with_reducible refine kJ (N:=4) rfl ?_);refine jW ?hg (N:=4) ?hd (cs:=#[.int .u32 0,.slice none 0 0]) (t:=114) ?hr ?_;(case hd=>rfl);(case hg=>rfl);(case hr=>first | (go_simp;done) | (go_simp;rfl));intro gb105 hg w27 hbox hb;have n0_:=iC.mk (iH hb_ hb);have n1_:=iC.mk (hbox);have n2_:=iC.mk ((by rw [hg];exact (iT hb_):w.heap.size≤gb105));have n3_:=iC.mk ((by rw [hg];exact (iT hb_):w.heap.size≤gb105));clear HB;have HB:=n0_;have BK105:=n1_;have GW105:=n2_;have GE105:=n3_;clear n0_ n1_ n2_ n3_;clear hb hbox hg;have hcz28_0:w27.cell? ⟨gb105,0,none⟩=some (.int .u32 0):=(iG BK105.out 0).trans rfl;have hcz28_1:w27.cell? ⟨gb105,1,none⟩=some (.slice none 0 0):=(iG BK105.out 1).trans rfl;have hfz28_0:=iE BK105.out 0;have hfz28_1:=iE BK105.out 1))
       have n0_:iC (((w27.setCell ⟨gb105,0,none⟩ (.int .u32 ((iK l0 x7_1).f0))).setCell ⟨gb105,1,none⟩ (.slice A104_1 ((iK l0 x7_1).f1).length c104_1)).heap[gb105]? = some (.cells #[.int .u32 ((iK l0 x7_1).f0),.slice A104_1 ((iK l0 x7_1).f1).length c104_1] 114 (0,0))):=⟨by (with_reducible repeat (first | refine kQ ?_ _ | refine kK ?_ | refine kD ?_ _));refine jU (cs:=#[.int .u32 ((iK l0 x7_1).f0),.slice none 0 0]) ?_ 1 _ rfl;(with_reducible repeat (first | refine kQ ?_ _ | refine kK ?_ | refine kD ?_ _));refine jU (cs:=#[.int .u32 0,.slice none 0 0]) ?_ 0 _ rfl;(with_reducible repeat (first | refine kQ ?_ _ | refine kK ?_ | refine kD ?_ _));exact BK105.out⟩
       have n1_:iC (Below w.heap.size w ((w27.setCell ⟨gb105,0,none⟩ (.int .u32 ((iK l0 x7_1).f0))).setCell ⟨gb105,1,none⟩ (.slice A104_1 ((iK l0 x7_1).f1).length c104_1))):=⟨by repeat (first | (with_reducible first | exact HB.out | apply iD | apply iF | apply iQ | refine iL ?_ GE105.out) | exact HB.out)⟩
       (try clear BK105)
       (try clear HB)
       generalize ((w27.setCell ⟨gb105,0,none⟩ (.int .u32 ((iK l0 x7_1).f0))).setCell ⟨gb105,1,none⟩ (.slice A104_1 ((iK l0 x7_1).f1).length c104_1))=w29 at n0_ n1_ ⊢
       have BK105:=n0_
       have HB:=n1_
       clear n0_ n1_
       have n0_:=iC.mk (kK BK105.out)
       have n1_:=iC.mk (iQ HB.out)
       clear BK105
       clear HB
       have BK105:=n0_
       have HB:=n1_
       clear n0_ n1_
       refine qJ (n:=19) (S:=fun w'=>w'.cell? ⟨gb105,0,none⟩=some (.int .u32 ((iK l0 x7_1).f0))∧w'.cell? ⟨gb105,1,none⟩=some (.slice A104_1 ((iK l0 x7_1).f1).length c104_1)) (ds:=[]) #[false,false,false,false,false,false,false,false,false,false,false,false,false,false,false,false,false,false,false] (by kernel_rfl) rfl rfl ⟨(iG BK105.out 0).trans rfl,(iG BK105.out 1).trans rfl⟩ (fun hHeld=>?_);refine mM code_history.tab4 code_history.bits4 (fun HT_ HW_=>?_)
       generalize w29.drew=w30 at BK105 HB hHeld ⊢
       refine jK (i:=0) (N:=some 12) (v:=?_) (a':=?_) #[true,false,false,false,false,false,false,false,false,false,false,false,false,false,false,false,false,false,false] rfl rfl (iZ HT_.out (by kernel_rfl)) (fun _ _ _ h=>h) (Or.inl ⟨by rfl,?_⟩) ?_ ?_
       rotate_left
       ·intro w'
        go_simp
        with_reducible rfl
       rotate_left
       ·simp only [Act.put,sb_,sz_,ss_,iO,jA]
        rfl
       refine qP (i:=1) (N:=some 13) (v:=?_) (a':=?_) #[true,true,false,false,false,false,false,false,false,false,false,false,false,false,false,false,false,false,false] rfl rfl (lF HT_.out HW_.out (by kernel_rfl)) (fun _ _ _ h=>h) (Or.inl ⟨by rfl,?_⟩) hHeld ?_ ?_
       rotate_left
       ·rintro w' ⟨s0,s1⟩
        go_simp
        with_reducible rfl
       rotate_left
       ·simp only [Act.put,sb_,sz_,ss_,iO,jA]
        rfl
       refine one_ (i:=2) (N:=some 14) #[true,true,true,false,false,false,false,false,false,false,false,false,false,false,false,false,false,false,false] rfl rfl (kY HT_.out (by kernel_rfl)) (by decide) (fun K hK=>?_)
       refine oD Tryz.func90 (by kernel_rfl) rfl #[.slice A104_1 ((iK l0 x7_1).f1).length c104_1] (by rfl) rfl rfl (by (try simp only [List.map_toArray,List.map_cons,List.map_nil]);first | done | rfl | (simp only [List.length_drop,List.length_take];rfl)) ?_
       with_reducible refine (code_batch.calls _ _ ((iK l0 x7_1).f1) false _ ?side1 ?side2 A5.out).mono ?_
       (case side1=>repeat (first | exact (Kd.C_below HR104_1.out HB.out) | (with_reducible refine Kd.C_alloc ?_ _) | (with_reducible refine Kd.C_drewN ?_ _) | (with_reducible refine Kd.C_drew ?_)))
       (case side2=>exact HC104_1.out)
       rintro e w31 ⟨rfl,hb⟩
       refine ⟨_,rfl,?_⟩
       have n0_:=iC.mk (qB (g:=gb105) (o:=.cells #[.int .u32 ((iK l0 x7_1).f0),.slice A104_1 ((iK l0 x7_1).f1).length c104_1] 114 (0,0)) (bk_ BK105.out) hb)
       have n1_:=iC.mk (iH (by repeat (first | (with_reducible first | exact HB.out | apply iD | apply iF | apply iQ | refine iL ?_ GE105.out) | exact HB.out)) hb)
       clear BK105
       clear HB
       have BK105:=n0_
       have HB:=n1_
       clear n0_ n1_
       (try clear hb)
       (try clear hb2)
       (try clear hk)
       (try clear hi)
       refine hK.out _ _ ⟨(iG BK105.out 0).trans rfl,(iG BK105.out 1).trans rfl⟩ (fun hHeld=>?_)
       clear hK K
       refine lL (a':=?_) ?_ ?_
       rotate_left
       ·show Act.put _ (some 14) _=_
        simp only [Act.put,sb_,sz_,ss_,iO,jA]
        rfl
       refine jK (i:=3) (N:=some 15) (v:=?_) (a':=?_) #[true,true,true,true,false,false,false,false,false,false,false,false,false,false,false,false,false,false,false] rfl rfl (iZ HT_.out (by kernel_rfl)) (fun _ _ _ h=>h) (Or.inl ⟨by rfl,?_⟩) ?_ ?_
       rotate_left
       ·intro w'
        go_simp
        with_reducible rfl
       rotate_left
       ·simp only [Act.put,sb_,sz_,ss_,iO,jA]
        rfl
       refine jK (i:=4) (N:=some 16) (v:=?_) (a':=?_) #[true,true,true,true,true,false,false,false,false,false,false,false,false,false,false,false,false,false,false] rfl rfl (iZ HT_.out (by kernel_rfl)) (fun _ _ _ h=>h) (Or.inl ⟨by rfl,?_⟩) ?_ ?_
       rotate_left
       ·intro w'
        go_simp
        with_reducible rfl
       rotate_left
       ·simp only [Act.put,sb_,sz_,ss_,iO,jA]
        rfl
       refine jK (i:=5) (N:=some 17) (v:=undef) (a':=?_) #[true,true,true,true,true,true,false,false,false,false,false,false,false,false,false,false,false,false,false] rfl rfl (iZ HT_.out (by kernel_rfl)) (fun _ _ _ h=>h) (Or.inr ⟨by rfl,rfl⟩) ?_ ?_
       rotate_left
       ·simp only [Act.put,sb_,sz_,ss_,iO,jA]
        rfl
       refine jK (i:=6) (N:=some 18) (v:=undef) (a':=?_) #[true,true,true,true,true,true,true,false,false,false,false,false,false,false,false,false,false,false,false] rfl rfl (iZ HT_.out (by kernel_rfl)) (fun _ _ _ h=>h) (Or.inr ⟨by rfl,rfl⟩) ?_ ?_
       rotate_left
       ·simp only [Act.put,sb_,sz_,ss_,iO,jA]
        rfl
       refine jK (i:=7) (N:=some 19) (v:=undef) (a':=?_) #[true,true,true,true,true,true,true,true,false,false,false,false,false,false,false,false,false,false,false] rfl rfl (iZ HT_.out (by kernel_rfl)) (fun _ _ _ h=>h) (Or.inr ⟨by rfl,rfl⟩) ?_ ?_
       rotate_left
       ·simp only [Act.put,sb_,sz_,ss_,iO,jA]
        rfl
       refine jK (i:=8) (N:=some 20) (v:=undef) (a':=?_) #[true,true,true,true,true,true,true,true,true,false,false,false,false,false,false,false,false,false,false] rfl rfl (iZ HT_.out (by kernel_rfl)) (fun _ _ _ h=>h) (Or.inr ⟨by rfl,rfl⟩) ?_ ?_
       rotate_left
       ·simp only [Act.put,sb_,sz_,ss_,iO,jA]
        rfl
       refine jK (i:=9) (N:=some 21) (v:=undef) (a':=?_) #[true,true,true,true,true,true,true,true,true,true,false,false,false,false,false,false,false,false,false] rfl rfl (iZ HT_.out (by kernel_rfl)) (fun _ _ _ h=>h) (Or.inr ⟨by rfl,rfl⟩) ?_ ?_
       rotate_left
       ·simp only [Act.put,sb_,sz_,ss_,iO,jA]
        rfl
       refine jK (i:=10) (N:=some 22) (v:=undef) (a':=?_) #[true,true,true,true,true,true,true,true,true,true,true,false,false,false,false,false,false,false,false] rfl rfl (iZ HT_.out (by kernel_rfl)) (fun _ _ _ h=>h) (Or.inr ⟨by rfl,rfl⟩) ?_ ?_
       rotate_left
       ·simp only [Act.put,sb_,sz_,ss_,iO,jA]
        rfl
       refine jK (i:=11) (N:=some 23) (v:=undef) (a':=?_) #[true,true,true,true,true,true,true,true,true,true,true,true,false,false,false,false,false,false,false] rfl rfl (iZ HT_.out (by kernel_rfl)) (fun _ _ _ h=>h) (Or.inr ⟨by rfl,rfl⟩) ?_ ?_
       rotate_left
       ·simp only [Act.put,sb_,sz_,ss_,iO,jA]
        rfl
       refine jK (i:=12) (N:=some 24) (v:=undef) (a':=?_) #[true,true,true,true,true,true,true,true,true,true,true,true,true,false,false,false,false,false,false] rfl rfl (iZ HT_.out (by kernel_rfl)) (fun _ _ _ h=>h) (Or.inr ⟨by rfl,rfl⟩) ?_ ?_
       rotate_left
       ·simp only [Act.put,sb_,sz_,ss_,iO,jA]
        rfl
       refine jK (i:=13) (N:=some 25) (v:=undef) (a':=?_) #[true,true,true,true,true,true,true,true,true,true,true,true,true,true,false,false,false,false,false] rfl rfl (iZ HT_.out (by kernel_rfl)) (fun _ _ _ h=>h) (Or.inr ⟨by rfl,rfl⟩) ?_ ?_
       rotate_left
       ·simp only [Act.put,sb_,sz_,ss_,iO,jA]
        rfl
       refine jK (i:=14) (N:=some 26) (v:=undef) (a':=?_) #[true,true,true,true,true,true,true,true,true,true,true,true,true,true,true,false,false,false,false] rfl rfl (iZ HT_.out (by kernel_rfl)) (fun _ _ _ h=>h) (Or.inr ⟨by rfl,rfl⟩) ?_ ?_
       rotate_left
       ·simp only [Act.put,sb_,sz_,ss_,iO,jA]
        rfl
       refine jK (i:=15) (N:=some 27) (v:=undef) (a':=?_) #[true,true,true,true,true,true,true,true,true,true,true,true,true,true,true,true,false,false,false] rfl rfl (iZ HT_.out (by kernel_rfl)) (fun _ _ _ h=>h) (Or.inr ⟨by rfl,rfl⟩) ?_ ?_
       rotate_left
       ·simp only [Act.put,sb_,sz_,ss_,iO,jA]
        rfl
       refine jK (i:=16) (N:=some 28) (v:=undef) (a':=?_) #[true,true,true,true,true,true,true,true,true,true,true,true,true,true,true,true,true,false,false] rfl rfl (iZ HT_.out (by kernel_rfl)) (fun _ _ _ h=>h) (Or.inr ⟨by rfl,rfl⟩) ?_ ?_
       rotate_left
       ·simp only [Act.put,sb_,sz_,ss_,iO,jA]
        rfl
       refine jK (i:=17) (N:=some 29) (v:=undef) (a':=?_) #[true,true,true,true,true,true,true,true,true,true,true,true,true,true,true,true,true,true,false] rfl rfl (iZ HT_.out (by kernel_rfl)) (fun _ _ _ h=>h) (Or.inr ⟨by rfl,rfl⟩) ?_ ?_
       rotate_left
       ·simp only [Act.put,sb_,sz_,ss_,iO,jA]
        rfl
       refine jK (i:=18) (N:=some 30) (v:=?_) (a':=?_) #[true,true,true,true,true,true,true,true,true,true,true,true,true,true,true,true,true,true,true] rfl rfl (iZ HT_.out (by kernel_rfl)) (fun _ _ _ h=>h) (Or.inl ⟨by rfl,?_⟩) ?_ ?_
       rotate_left
       ·intro w'
        go_simp
        with_reducible rfl
       rotate_left
       ·simp only [Act.put,sb_,sz_,ss_,iO,jA]
        rfl
       refine zI (pM HT_.out (by kernel_rfl)) ?_
       try go_wp2
       go_ret
       exact ⟨by first | rfl | (simp [jF,jG] <;> rfl) | (simp [*,jF,jG] <;> rfl),by repeat (first | (with_reducible first | exact HB.out | apply iD | apply iF | apply iQ | refine iL ?_ GE105.out) | exact HB.out)⟩
     ·rw [if_neg c4] at H
      exact absurd H (by simp)
    ·rw [if_neg c3] at H
     exact absurd H (by simp)
   ·rw [if_neg c2] at H
    have c2b0:decide (x7_1<(l0.length:Int))=false:=decide_eq_false c2
    clear c2
    obtain rfl:=Option.some.inj H
    go_wp2
    go_ret
    exact ⟨by first | rfl | (simp [jF,jG] <;> rfl) | (simp [*,jF,jG] <;> rfl),hb_⟩
end
section
attribute [local go_sem] kL kH kZ lC
def code_plain.f (a0_0:Int) (a0_1:Int) (a0_2:Int) (l0_3:List Int) (l0_4:List (S149)) (a0_5:Int) (l0_6:List (S122)) (a0_7:Int) (a0_8:Int) (l0_9:List (S114)):Option (Bool):=if a0_0=0 then (if a0_1=0 then (if a0_2=0 then (if (l0_3.length:Int)=0 then (if (l0_4.length:Int)=0 then (if a0_5=0 then (if (l0_6.length:Int)=0 then (if a0_7=0 then (if a0_8=0 then (some ((l0_9.length:Int) == 0)) else (some false)) else (some false)) else (some false)) else (some false)) else (some false)) else (some false)) else (some false)) else (some false)) else (some false)
set_option maxHeartbeats 8000000 in
set_option maxRecDepth 100000 in
theorem code_plain.calls (a0_0:Int) (a0_1:Int) (a0_2:Int) (A0_3:Option Addr) (c0_3:Nat) (l0_3:List Int) (A0_4:Option Addr) (c0_4:Nat) (l0_4:List (S149)) (a0_5:Int) (A0_6:Option Addr) (c0_6:Nat) (l0_6:List (S122)) (a0_7:Int) (a0_8:Int) (A0_9:Option Addr) (c0_9:Nat) (l0_9:List (S114)) (r:Bool) (w:World) (hr0_3:Kd.C (Kd.int .i64) w A0_3 l0_3.length l0_3) (hc0_3:l0_3.length≤c0_3) (hr0_4:Kd.C k149 w A0_4 l0_4.length l0_4) (hc0_4:l0_4.length≤c0_4) (hr0_6:Kd.C k122 w A0_6 l0_6.length l0_6) (hc0_6:l0_6.length≤c0_6) (hr0_9:Kd.C k114 w A0_9 l0_9.length l0_9) (hc0_9:l0_9.length≤c0_9) (h:code_plain.f a0_0 a0_1 a0_2 l0_3 l0_4 a0_5 l0_6 a0_7 a0_8 l0_9=some r) :
  Calls Tryz.prog 95 #[.agg #[.int .u8 a0_0,.int .u32 a0_1,.int .u32 a0_2,.slice A0_3 l0_3.length c0_3,.slice A0_4 l0_4.length c0_4,.int .u32 a0_5,.slice A0_6 l0_6.length c0_6,.int .i64 a0_7,.int .i64 a0_8,.slice A0_9 l0_9.length c0_9]] w fun e w'=>e=.returned (.bool r)∧Below w.heap.size w w':=by
 have hu54:=Tryz.underlying54
 have HR0_3:=iC.mk hr0_3
 have HC0_3:=iC.mk hc0_3
 clear hr0_3 hc0_3
 have HR0_4:=iC.mk hr0_4
 have HC0_4:=iC.mk hc0_4
 clear hr0_4 hc0_4
 have HR0_6:=iC.mk hr0_6
 have HC0_6:=iC.mk hc0_6
 clear hr0_6 hc0_6
 have HR0_9:=iC.mk hr0_9
 have HC0_9:=iC.mk hc0_9
 clear hr0_9 hc0_9
 have HB:=iC.mk (Below.refl w.heap.size w)
 have H:(if a0_0=0 then (if a0_1=0 then (if a0_2=0 then (if (l0_3.length:Int)=0 then (if (l0_4.length:Int)=0 then (if a0_5=0 then (if (l0_6.length:Int)=0 then (if a0_7=0 then (if a0_8=0 then (some ((l0_9.length:Int) == 0)) else (some false)) else (some false)) else (some false)) else (some false)) else (some false)) else (some false)) else (some false)) else (some false)) else (some false))=some r:=h
 clear h
 by_cases c2:a0_0=0
 ·rw [if_pos c2] at H
  have c2b0:(a0_0 == 0)=true:=beq_iff_eq.mpr c2
  have c2b1:(a0_0 != 0)=false:=bne_eq_false_iff_eq.mpr c2
  clear c2
  by_cases c3:a0_1=0
  ·rw [if_pos c3] at H
   have c3b0:(a0_1 == 0)=true:=beq_iff_eq.mpr c3
   have c3b1:(a0_1 != 0)=false:=bne_eq_false_iff_eq.mpr c3
   clear c3
   by_cases c4:a0_2=0
   ·rw [if_pos c4] at H
    have c4b0:(a0_2 == 0)=true:=beq_iff_eq.mpr c4
    have c4b1:(a0_2 != 0)=false:=bne_eq_false_iff_eq.mpr c4
    clear c4
    by_cases c5:(l0_3.length:Int)=0
    ·rw [if_pos c5] at H
     have c5b0:((l0_3.length:Int) == 0)=true:=beq_iff_eq.mpr c5
     have c5b1:((l0_3.length:Int) != 0)=false:=bne_eq_false_iff_eq.mpr c5
     clear c5
     by_cases c6:(l0_4.length:Int)=0
     ·rw [if_pos c6] at H
      have c6b0:((l0_4.length:Int) == 0)=true:=beq_iff_eq.mpr c6
      have c6b1:((l0_4.length:Int) != 0)=false:=bne_eq_false_iff_eq.mpr c6
      clear c6
      by_cases c7:a0_5=0
      ·rw [if_pos c7] at H
       have c7b0:(a0_5 == 0)=true:=beq_iff_eq.mpr c7
       have c7b1:(a0_5 != 0)=false:=bne_eq_false_iff_eq.mpr c7
       clear c7
       by_cases c8:(l0_6.length:Int)=0
       ·rw [if_pos c8] at H
        have c8b0:((l0_6.length:Int) == 0)=true:=beq_iff_eq.mpr c8
        have c8b1:((l0_6.length:Int) != 0)=false:=bne_eq_false_iff_eq.mpr c8
        clear c8
        by_cases c9:a0_7=0
        ·rw [if_pos c9] at H
         have c9b0:(a0_7 == 0)=true:=beq_iff_eq.mpr c9
         have c9b1:(a0_7 != 0)=false:=bne_eq_false_iff_eq.mpr c9
         clear c9
         by_cases c10:a0_8=0
         ·rw [if_pos c10] at H
          have c10b0:(a0_8 == 0)=true:=beq_iff_eq.mpr c10
          have c10b1:(a0_8 != 0)=false:=bne_eq_false_iff_eq.mpr c10
          clear c10
          obtain rfl:=Option.some.inj H
          go_enter Tryz.func95,Tryz.ntmps95
          go_wp2_with (first | ((with_reducible refine kJ (N:=1) rfl ?_);(try (refine kM (by rfl) ?_;dsimp only));refine jW ?hg (N:=1) ?hd (cs:=#[.int .u8 a0_0,.int .u32 a0_1,.int .u32 a0_2,.slice A0_3 l0_3.length c0_3,.slice A0_4 l0_4.length c0_4,.int .u32 a0_5,.slice A0_6 l0_6.length c0_6,.int .i64 a0_7,.int .i64 a0_8,.slice A0_9 l0_9.length c0_9]) (t:=54) ?hr ?_;(case hd=>rfl);(case hg=>rfl);(case hr=>first | (go_simp;done) | (go_simp;rfl));intro gb108 hg w11 hbox hb;have n0_:=iC.mk (iH hb_ hb);have n1_:=iC.mk (hbox);have n2_:=iC.mk ((by rw [hg];exact (iT hb_):w.heap.size≤gb108));have n3_:=iC.mk ((by rw [hg];exact (iT hb_):w.heap.size≤gb108));clear HB;have HB:=n0_;have BK108:=n1_;have GW108:=n2_;have GE108:=n3_;clear n0_ n1_ n2_ n3_;clear hb hbox hg;have hcz12_0:w11.cell? ⟨gb108,0,none⟩=some (.int .u8 a0_0):=(iG BK108.out 0).trans rfl;have hcz12_1:w11.cell? ⟨gb108,1,none⟩=some (.int .u32 a0_1):=(iG BK108.out 1).trans rfl;have hcz12_2:w11.cell? ⟨gb108,2,none⟩=some (.int .u32 a0_2):=(iG BK108.out 2).trans rfl;have hcz12_3:w11.cell? ⟨gb108,3,none⟩=some (.slice A0_3 l0_3.length c0_3):=(iG BK108.out 3).trans rfl;have hcz12_4:w11.cell? ⟨gb108,4,none⟩=some (.slice A0_4 l0_4.length c0_4):=(iG BK108.out 4).trans rfl;have hcz12_5:w11.cell? ⟨gb108,5,none⟩=some (.int .u32 a0_5):=(iG BK108.out 5).trans rfl;have hcz12_6:w11.cell? ⟨gb108,6,none⟩=some (.slice A0_6 l0_6.length c0_6):=(iG BK108.out 6).trans rfl;have hcz12_7:w11.cell? ⟨gb108,7,none⟩=some (.int .i64 a0_7):=(iG BK108.out 7).trans rfl;have hcz12_8:w11.cell? ⟨gb108,8,none⟩=some (.int .i64 a0_8):=(iG BK108.out 8).trans rfl;have hcz12_9:w11.cell? ⟨gb108,9,none⟩=some (.slice A0_9 l0_9.length c0_9):=(iG BK108.out 9).trans rfl;have hfz12_0:=iE BK108.out 0;have hfz12_1:=iE BK108.out 1;have hfz12_2:=iE BK108.out 2;have hfz12_3:=iE BK108.out 3;have hfz12_4:=iE BK108.out 4;have hfz12_5:=iE BK108.out 5;have hfz12_6:=iE BK108.out 6;have hfz12_7:=iE BK108.out 7;have hfz12_8:=iE BK108.out 8;have hfz12_9:=iE BK108.out 9))
          go_ret
          exact ⟨by first | rfl | (simp [jF,jG] <;> rfl) | (simp [*,jF,jG] <;> rfl),by repeat (first | (with_reducible first | exact HB.out | apply iD | apply iF | apply iQ | refine iL ?_ GE108.out) | exact HB.out)⟩
         ·rw [if_neg c10] at H
          have c10b0:(a0_8 == 0)=false:=beq_eq_false_iff_ne.mpr c10
          have c10b1:(a0_8 != 0)=true:=bne_iff_ne.mpr c10
          obtain rfl:=Option.some.inj H
          go_enter Tryz.func95,Tryz.ntmps95
          go_wp2_with (first | ((with_reducible refine kJ (N:=1) rfl ?_);(try (refine kM (by rfl) ?_;dsimp only));refine jW ?hg (N:=1) ?hd (cs:=#[.int .u8 a0_0,.int .u32 a0_1,.int .u32 a0_2,.slice A0_3 l0_3.length c0_3,.slice A0_4 l0_4.length c0_4,.int .u32 a0_5,.slice A0_6 l0_6.length c0_6,.int .i64 a0_7,.int .i64 a0_8,.slice A0_9 l0_9.length c0_9]) (t:=54) ?hr ?_;(case hd=>rfl);(case hg=>rfl);(case hr=>first | (go_simp;done) | (go_simp;rfl));intro gb108 hg w13 hbox hb;have n0_:=iC.mk (iH hb_ hb);have n1_:=iC.mk (hbox);have n2_:=iC.mk ((by rw [hg];exact (iT hb_):w.heap.size≤gb108));have n3_:=iC.mk ((by rw [hg];exact (iT hb_):w.heap.size≤gb108));clear HB;have HB:=n0_;have BK108:=n1_;have GW108:=n2_;have GE108:=n3_;clear n0_ n1_ n2_ n3_;clear hb hbox hg;have hcz14_0:w13.cell? ⟨gb108,0,none⟩=some (.int .u8 a0_0):=(iG BK108.out 0).trans rfl;have hcz14_1:w13.cell? ⟨gb108,1,none⟩=some (.int .u32 a0_1):=(iG BK108.out 1).trans rfl;have hcz14_2:w13.cell? ⟨gb108,2,none⟩=some (.int .u32 a0_2):=(iG BK108.out 2).trans rfl;have hcz14_3:w13.cell? ⟨gb108,3,none⟩=some (.slice A0_3 l0_3.length c0_3):=(iG BK108.out 3).trans rfl;have hcz14_4:w13.cell? ⟨gb108,4,none⟩=some (.slice A0_4 l0_4.length c0_4):=(iG BK108.out 4).trans rfl;have hcz14_5:w13.cell? ⟨gb108,5,none⟩=some (.int .u32 a0_5):=(iG BK108.out 5).trans rfl;have hcz14_6:w13.cell? ⟨gb108,6,none⟩=some (.slice A0_6 l0_6.length c0_6):=(iG BK108.out 6).trans rfl;have hcz14_7:w13.cell? ⟨gb108,7,none⟩=some (.int .i64 a0_7):=(iG BK108.out 7).trans rfl;have hcz14_8:w13.cell? ⟨gb108,8,none⟩=some (.int .i64 a0_8):=(iG BK108.out 8).trans rfl;have hcz14_9:w13.cell? ⟨gb108,9,none⟩=some (.slice A0_9 l0_9.length c0_9):=(iG BK108.out 9).trans rfl;have hfz14_0:=iE BK108.out 0;have hfz14_1:=iE BK108.out 1;have hfz14_2:=iE BK108.out 2;have hfz14_3:=iE BK108.out 3;have hfz14_4:=iE BK108.out 4;have hfz14_5:=iE BK108.out 5;have hfz14_6:=iE BK108.out 6;have hfz14_7:=iE BK108.out 7;have hfz14_8:=iE BK108.out 8;have hfz14_9:=iE BK108.out 9))
          go_ret
          exact ⟨by first | rfl | (simp [jF,jG] <;> rfl) | (simp [*,jF,jG] <;> rfl),by repeat (first | (with_reducible first | exact HB.out | apply iD | apply iF | apply iQ | refine iL ?_ GE108.out) | exact HB.out)⟩
        ·rw [if_neg c9] at H
         have c9b0:(a0_7 == 0)=false:=beq_eq_false_iff_ne.mpr c9
         have c9b1:(a0_7 != 0)=true:=bne_iff_ne.mpr c9
         obtain rfl:=Option.some.inj H
         go_enter Tryz.func95,Tryz.ntmps95
         go_wp2_with (first | ((with_reducible refine kJ (N:=1) rfl ?_);(try (refine kM (by rfl) ?_;dsimp only));refine jW ?hg (N:=1) ?hd (cs:=#[.int .u8 a0_0,.int .u32 a0_1,.int .u32 a0_2,.slice A0_3 l0_3.length c0_3,.slice A0_4 l0_4.length c0_4,.int .u32 a0_5,.slice A0_6 l0_6.length c0_6,.int .i64 a0_7,.int .i64 a0_8,.slice A0_9 l0_9.length c0_9]) (t:=54) ?hr ?_;(case hd=>rfl);(case hg=>rfl);(case hr=>first | (go_simp;done) | (go_simp;rfl));intro gb108 hg w15 hbox hb;have n0_:=iC.mk (iH hb_ hb);have n1_:=iC.mk (hbox);have n2_:=iC.mk ((by rw [hg];exact (iT hb_):w.heap.size≤gb108));have n3_:=iC.mk ((by rw [hg];exact (iT hb_):w.heap.size≤gb108));clear HB;have HB:=n0_;have BK108:=n1_;have GW108:=n2_;have GE108:=n3_;clear n0_ n1_ n2_ n3_;clear hb hbox hg;have hcz16_0:w15.cell? ⟨gb108,0,none⟩=some (.int .u8 a0_0):=(iG BK108.out 0).trans rfl;have hcz16_1:w15.cell? ⟨gb108,1,none⟩=some (.int .u32 a0_1):=(iG BK108.out 1).trans rfl;have hcz16_2:w15.cell? ⟨gb108,2,none⟩=some (.int .u32 a0_2):=(iG BK108.out 2).trans rfl;have hcz16_3:w15.cell? ⟨gb108,3,none⟩=some (.slice A0_3 l0_3.length c0_3):=(iG BK108.out 3).trans rfl;have hcz16_4:w15.cell? ⟨gb108,4,none⟩=some (.slice A0_4 l0_4.length c0_4):=(iG BK108.out 4).trans rfl;have hcz16_5:w15.cell? ⟨gb108,5,none⟩=some (.int .u32 a0_5):=(iG BK108.out 5).trans rfl;have hcz16_6:w15.cell? ⟨gb108,6,none⟩=some (.slice A0_6 l0_6.length c0_6):=(iG BK108.out 6).trans rfl;have hcz16_7:w15.cell? ⟨gb108,7,none⟩=some (.int .i64 a0_7):=(iG BK108.out 7).trans rfl;have hcz16_8:w15.cell? ⟨gb108,8,none⟩=some (.int .i64 a0_8):=(iG BK108.out 8).trans rfl;have hcz16_9:w15.cell? ⟨gb108,9,none⟩=some (.slice A0_9 l0_9.length c0_9):=(iG BK108.out 9).trans rfl;have hfz16_0:=iE BK108.out 0;have hfz16_1:=iE BK108.out 1;have hfz16_2:=iE BK108.out 2;have hfz16_3:=iE BK108.out 3;have hfz16_4:=iE BK108.out 4;have hfz16_5:=iE BK108.out 5;have hfz16_6:=iE BK108.out 6;have hfz16_7:=iE BK108.out 7;have hfz16_8:=iE BK108.out 8;have hfz16_9:=iE BK108.out 9))
         go_ret
         exact ⟨by first | rfl | (simp [jF,jG] <;> rfl) | (simp [*,jF,jG] <;> rfl),by repeat (first | (with_reducible first | exact HB.out | apply iD | apply iF | apply iQ | refine iL ?_ GE108.out) | exact HB.out)⟩
       ·rw [if_neg c8] at H
        have c8b0:((l0_6.length:Int) == 0)=false:=beq_eq_false_iff_ne.mpr c8
        have c8b1:((l0_6.length:Int) != 0)=true:=bne_iff_ne.mpr c8
        have c8b2:¬ (l0_6=[]):=fun h_=>c8 (by rw [h_];rfl)
        obtain rfl:=Option.some.inj H
        go_enter Tryz.func95,Tryz.ntmps95
        go_wp2_with (first | ((with_reducible refine kJ (N:=1) rfl ?_);(try (refine kM (by rfl) ?_;dsimp only));refine jW ?hg (N:=1) ?hd (cs:=#[.int .u8 a0_0,.int .u32 a0_1,.int .u32 a0_2,.slice A0_3 l0_3.length c0_3,.slice A0_4 l0_4.length c0_4,.int .u32 a0_5,.slice A0_6 l0_6.length c0_6,.int .i64 a0_7,.int .i64 a0_8,.slice A0_9 l0_9.length c0_9]) (t:=54) ?hr ?_;(case hd=>rfl);(case hg=>rfl);(case hr=>first | (go_simp;done) | (go_simp;rfl));intro gb108 hg w17 hbox hb;have n0_:=iC.mk (iH hb_ hb);have n1_:=iC.mk (hbox);have n2_:=iC.mk ((by rw [hg];exact (iT hb_):w.heap.size≤gb108));have n3_:=iC.mk ((by rw [hg];exact (iT hb_):w.heap.size≤gb108));clear HB;have HB:=n0_;have BK108:=n1_;have GW108:=n2_;have GE108:=n3_;clear n0_ n1_ n2_ n3_;clear hb hbox hg;have hcz18_0:w17.cell? ⟨gb108,0,none⟩=some (.int .u8 a0_0):=(iG BK108.out 0).trans rfl;have hcz18_1:w17.cell? ⟨gb108,1,none⟩=some (.int .u32 a0_1):=(iG BK108.out 1).trans rfl;have hcz18_2:w17.cell? ⟨gb108,2,none⟩=some (.int .u32 a0_2):=(iG BK108.out 2).trans rfl;have hcz18_3:w17.cell? ⟨gb108,3,none⟩=some (.slice A0_3 l0_3.length c0_3):=(iG BK108.out 3).trans rfl;have hcz18_4:w17.cell? ⟨gb108,4,none⟩=some (.slice A0_4 l0_4.length c0_4):=(iG BK108.out 4).trans rfl;have hcz18_5:w17.cell? ⟨gb108,5,none⟩=some (.int .u32 a0_5):=(iG BK108.out 5).trans rfl;have hcz18_6:w17.cell? ⟨gb108,6,none⟩=some (.slice A0_6 l0_6.length c0_6):=(iG BK108.out 6).trans rfl;have hcz18_7:w17.cell? ⟨gb108,7,none⟩=some (.int .i64 a0_7):=(iG BK108.out 7).trans rfl;have hcz18_8:w17.cell? ⟨gb108,8,none⟩=some (.int .i64 a0_8):=(iG BK108.out 8).trans rfl;have hcz18_9:w17.cell? ⟨gb108,9,none⟩=some (.slice A0_9 l0_9.length c0_9):=(iG BK108.out 9).trans rfl;have hfz18_0:=iE BK108.out 0;have hfz18_1:=iE BK108.out 1;have hfz18_2:=iE BK108.out 2;have hfz18_3:=iE BK108.out 3;have hfz18_4:=iE BK108.out 4;have hfz18_5:=iE BK108.out 5;have hfz18_6:=iE BK108.out 6;have hfz18_7:=iE BK108.out 7;have hfz18_8:=iE BK108.out 8;have hfz18_9:=iE BK108.out 9))
        go_ret
        exact ⟨by first | rfl | (simp [jF,jG] <;> rfl) | (simp [*,jF,jG] <;> rfl),by repeat (first | (with_reducible first | exact HB.out | apply iD | apply iF | apply iQ | refine iL ?_ GE108.out) | exact HB.out)⟩
      ·rw [if_neg c7] at H
       have c7b0:(a0_5 == 0)=false:=beq_eq_false_iff_ne.mpr c7
       have c7b1:(a0_5 != 0)=true:=bne_iff_ne.mpr c7
       obtain rfl:=Option.some.inj H
       go_enter Tryz.func95,Tryz.ntmps95
       go_wp2_with (first | ((with_reducible refine kJ (N:=1) rfl ?_);(try (refine kM (by rfl) ?_;dsimp only));refine jW ?hg (N:=1) ?hd (cs:=#[.int .u8 a0_0,.int .u32 a0_1,.int .u32 a0_2,.slice A0_3 l0_3.length c0_3,.slice A0_4 l0_4.length c0_4,.int .u32 a0_5,.slice A0_6 l0_6.length c0_6,.int .i64 a0_7,.int .i64 a0_8,.slice A0_9 l0_9.length c0_9]) (t:=54) ?hr ?_;(case hd=>rfl);(case hg=>rfl);(case hr=>first | (go_simp;done) | (go_simp;rfl));intro gb108 hg w19 hbox hb;have n0_:=iC.mk (iH hb_ hb);have n1_:=iC.mk (hbox);have n2_:=iC.mk ((by rw [hg];exact (iT hb_):w.heap.size≤gb108));have n3_:=iC.mk ((by rw [hg];exact (iT hb_):w.heap.size≤gb108));clear HB;have HB:=n0_;have BK108:=n1_;have GW108:=n2_;have GE108:=n3_;clear n0_ n1_ n2_ n3_;clear hb hbox hg;have hcz20_0:w19.cell? ⟨gb108,0,none⟩=some (.int .u8 a0_0):=(iG BK108.out 0).trans rfl;have hcz20_1:w19.cell? ⟨gb108,1,none⟩=some (.int .u32 a0_1):=(iG BK108.out 1).trans rfl;have hcz20_2:w19.cell? ⟨gb108,2,none⟩=some (.int .u32 a0_2):=(iG BK108.out 2).trans rfl;have hcz20_3:w19.cell? ⟨gb108,3,none⟩=some (.slice A0_3 l0_3.length c0_3):=(iG BK108.out 3).trans rfl;have hcz20_4:w19.cell? ⟨gb108,4,none⟩=some (.slice A0_4 l0_4.length c0_4):=(iG BK108.out 4).trans rfl;have hcz20_5:w19.cell? ⟨gb108,5,none⟩=some (.int .u32 a0_5):=(iG BK108.out 5).trans rfl;have hcz20_6:w19.cell? ⟨gb108,6,none⟩=some (.slice A0_6 l0_6.length c0_6):=(iG BK108.out 6).trans rfl;have hcz20_7:w19.cell? ⟨gb108,7,none⟩=some (.int .i64 a0_7):=(iG BK108.out 7).trans rfl;have hcz20_8:w19.cell? ⟨gb108,8,none⟩=some (.int .i64 a0_8):=(iG BK108.out 8).trans rfl;have hcz20_9:w19.cell? ⟨gb108,9,none⟩=some (.slice A0_9 l0_9.length c0_9):=(iG BK108.out 9).trans rfl;have hfz20_0:=iE BK108.out 0;have hfz20_1:=iE BK108.out 1;have hfz20_2:=iE BK108.out 2;have hfz20_3:=iE BK108.out 3;have hfz20_4:=iE BK108.out 4;have hfz20_5:=iE BK108.out 5;have hfz20_6:=iE BK108.out 6;have hfz20_7:=iE BK108.out 7;have hfz20_8:=iE BK108.out 8;have hfz20_9:=iE BK108.out 9))
       go_ret
       exact ⟨by first | rfl | (simp [jF,jG] <;> rfl) | (simp [*,jF,jG] <;> rfl),by repeat (first | (with_reducible first | exact HB.out | apply iD | apply iF | apply iQ | refine iL ?_ GE108.out) | exact HB.out)⟩
     ·rw [if_neg c6] at H
      have c6b0:((l0_4.length:Int) == 0)=false:=beq_eq_false_iff_ne.mpr c6
      have c6b1:((l0_4.length:Int) != 0)=true:=bne_iff_ne.mpr c6
      have c6b2:¬ (l0_4=[]):=fun h_=>c6 (by rw [h_];rfl)
      obtain rfl:=Option.some.inj H
      go_enter Tryz.func95,Tryz.ntmps95
      go_wp2_with (first | ((with_reducible refine kJ (N:=1) rfl ?_);(try (refine kM (by rfl) ?_;dsimp only));refine jW ?hg (N:=1) ?hd (cs:=#[.int .u8 a0_0,.int .u32 a0_1,.int .u32 a0_2,.slice A0_3 l0_3.length c0_3,.slice A0_4 l0_4.length c0_4,.int .u32 a0_5,.slice A0_6 l0_6.length c0_6,.int .i64 a0_7,.int .i64 a0_8,.slice A0_9 l0_9.length c0_9]) (t:=54) ?hr ?_;(case hd=>rfl);(case hg=>rfl);(case hr=>first | (go_simp;done) | (go_simp;rfl));intro gb108 hg w21 hbox hb;have n0_:=iC.mk (iH hb_ hb);have n1_:=iC.mk (hbox);have n2_:=iC.mk ((by rw [hg];exact (iT hb_):w.heap.size≤gb108));have n3_:=iC.mk ((by rw [hg];exact (iT hb_):w.heap.size≤gb108));clear HB;have HB:=n0_;have BK108:=n1_;have GW108:=n2_;have GE108:=n3_;clear n0_ n1_ n2_ n3_;clear hb hbox hg;have hcz22_0:w21.cell? ⟨gb108,0,none⟩=some (.int .u8 a0_0):=(iG BK108.out 0).trans rfl;have hcz22_1:w21.cell? ⟨gb108,1,none⟩=some (.int .u32 a0_1):=(iG BK108.out 1).trans rfl;have hcz22_2:w21.cell? ⟨gb108,2,none⟩=some (.int .u32 a0_2):=(iG BK108.out 2).trans rfl;have hcz22_3:w21.cell? ⟨gb108,3,none⟩=some (.slice A0_3 l0_3.length c0_3):=(iG BK108.out 3).trans rfl;have hcz22_4:w21.cell? ⟨gb108,4,none⟩=some (.slice A0_4 l0_4.length c0_4):=(iG BK108.out 4).trans rfl;have hcz22_5:w21.cell? ⟨gb108,5,none⟩=some (.int .u32 a0_5):=(iG BK108.out 5).trans rfl;have hcz22_6:w21.cell? ⟨gb108,6,none⟩=some (.slice A0_6 l0_6.length c0_6):=(iG BK108.out 6).trans rfl;have hcz22_7:w21.cell? ⟨gb108,7,none⟩=some (.int .i64 a0_7):=(iG BK108.out 7).trans rfl;have hcz22_8:w21.cell? ⟨gb108,8,none⟩=some (.int .i64 a0_8):=(iG BK108.out 8).trans rfl;have hcz22_9:w21.cell? ⟨gb108,9,none⟩=some (.slice A0_9 l0_9.length c0_9):=(iG BK108.out 9).trans rfl;have hfz22_0:=iE BK108.out 0;have hfz22_1:=iE BK108.out 1;have hfz22_2:=iE BK108.out 2;have hfz22_3:=iE BK108.out 3;have hfz22_4:=iE BK108.out 4;have hfz22_5:=iE BK108.out 5;have hfz22_6:=iE BK108.out 6;have hfz22_7:=iE BK108.out 7;have hfz22_8:=iE BK108.out 8;have hfz22_9:=iE BK108.out 9))
      go_ret
      exact ⟨by first | rfl | (simp [jF,jG] <;> rfl) | (simp [*,jF,jG] <;> rfl),by repeat (first | (with_reducible first | exact HB.out | apply iD | apply iF | apply iQ | refine iL ?_ GE108.out) | exact HB.out)⟩
    ·rw [if_neg c5] at H
     have c5b0:((l0_3.length:Int) == 0)=false:=beq_eq_false_iff_ne.mpr c5
     have c5b1:((l0_3.length:Int) != 0)=true:=bne_iff_ne.mpr c5
     have c5b2:¬ (l0_3=[]):=fun h_=>c5 (by rw [h_];rfl)
     obtain rfl:=Option.some.inj H
     go_enter Tryz.func95,Tryz.ntmps95
     go_wp2_with (first | ((with_reducible refine kJ (N:=1) rfl ?_);(try (refine kM (by rfl) ?_;dsimp only));refine jW ?hg (N:=1) ?hd (cs:=#[.int .u8 a0_0,.int .u32 a0_1,.int .u32 a0_2,.slice A0_3 l0_3.length c0_3,.slice A0_4 l0_4.length c0_4,.int .u32 a0_5,.slice A0_6 l0_6.length c0_6,.int .i64 a0_7,.int .i64 a0_8,.slice A0_9 l0_9.length c0_9]) (t:=54) ?hr ?_;(case hd=>rfl);(case hg=>rfl);(case hr=>first | (go_simp;done) | (go_simp;rfl));intro gb108 hg w23 hbox hb;have n0_:=iC.mk (iH hb_ hb);have n1_:=iC.mk (hbox);have n2_:=iC.mk ((by rw [hg];exact (iT hb_):w.heap.size≤gb108));have n3_:=iC.mk ((by rw [hg];exact (iT hb_):w.heap.size≤gb108));clear HB;have HB:=n0_;have BK108:=n1_;have GW108:=n2_;have GE108:=n3_;clear n0_ n1_ n2_ n3_;clear hb hbox hg;have hcz24_0:w23.cell? ⟨gb108,0,none⟩=some (.int .u8 a0_0):=(iG BK108.out 0).trans rfl;have hcz24_1:w23.cell? ⟨gb108,1,none⟩=some (.int .u32 a0_1):=(iG BK108.out 1).trans rfl;have hcz24_2:w23.cell? ⟨gb108,2,none⟩=some (.int .u32 a0_2):=(iG BK108.out 2).trans rfl;have hcz24_3:w23.cell? ⟨gb108,3,none⟩=some (.slice A0_3 l0_3.length c0_3):=(iG BK108.out 3).trans rfl;have hcz24_4:w23.cell? ⟨gb108,4,none⟩=some (.slice A0_4 l0_4.length c0_4):=(iG BK108.out 4).trans rfl;have hcz24_5:w23.cell? ⟨gb108,5,none⟩=some (.int .u32 a0_5):=(iG BK108.out 5).trans rfl;have hcz24_6:w23.cell? ⟨gb108,6,none⟩=some (.slice A0_6 l0_6.length c0_6):=(iG BK108.out 6).trans rfl;have hcz24_7:w23.cell? ⟨gb108,7,none⟩=some (.int .i64 a0_7):=(iG BK108.out 7).trans rfl;have hcz24_8:w23.cell? ⟨gb108,8,none⟩=some (.int .i64 a0_8):=(iG BK108.out 8).trans rfl;have hcz24_9:w23.cell? ⟨gb108,9,none⟩=some (.slice A0_9 l0_9.length c0_9):=(iG BK108.out 9).trans rfl;have hfz24_0:=iE BK108.out 0;have hfz24_1:=iE BK108.out 1;have hfz24_2:=iE BK108.out 2;have hfz24_3:=iE BK108.out 3;have hfz24_4:=iE BK108.out 4;have hfz24_5:=iE BK108.out 5;have hfz24_6:=iE BK108.out 6;have hfz24_7:=iE BK108.out 7;have hfz24_8:=iE BK108.out 8;have hfz24_9:=iE BK108.out 9))
     go_ret
     exact ⟨by first | rfl | (simp [jF,jG] <;> rfl) | (simp [*,jF,jG] <;> rfl),by repeat (first | (with_reducible first | exact HB.out | apply iD | apply iF | apply iQ | refine iL ?_ GE108.out) | exact HB.out)⟩
   ·rw [if_neg c4] at H
    have c4b0:(a0_2 == 0)=false:=beq_eq_false_iff_ne.mpr c4
    have c4b1:(a0_2 != 0)=true:=bne_iff_ne.mpr c4
    obtain rfl:=Option.some.inj H
    go_enter Tryz.func95,Tryz.ntmps95
    go_wp2_with (first | ((with_reducible refine kJ (N:=1) rfl ?_);(try (refine kM (by rfl) ?_;dsimp only));refine jW ?hg (N:=1) ?hd (cs:=#[.int .u8 a0_0,.int .u32 a0_1,.int .u32 a0_2,.slice A0_3 l0_3.length c0_3,.slice A0_4 l0_4.length c0_4,.int .u32 a0_5,.slice A0_6 l0_6.length c0_6,.int .i64 a0_7,.int .i64 a0_8,.slice A0_9 l0_9.length c0_9]) (t:=54) ?hr ?_;(case hd=>rfl);(case hg=>rfl);(case hr=>first | (go_simp;done) | (go_simp;rfl));intro gb108 hg w25 hbox hb;have n0_:=iC.mk (iH hb_ hb);have n1_:=iC.mk (hbox);have n2_:=iC.mk ((by rw [hg];exact (iT hb_):w.heap.size≤gb108));have n3_:=iC.mk ((by rw [hg];exact (iT hb_):w.heap.size≤gb108));clear HB;have HB:=n0_;have BK108:=n1_;have GW108:=n2_;have GE108:=n3_;clear n0_ n1_ n2_ n3_;clear hb hbox hg;have hcz26_0:w25.cell? ⟨gb108,0,none⟩=some (.int .u8 a0_0):=(iG BK108.out 0).trans rfl;have hcz26_1:w25.cell? ⟨gb108,1,none⟩=some (.int .u32 a0_1):=(iG BK108.out 1).trans rfl;have hcz26_2:w25.cell? ⟨gb108,2,none⟩=some (.int .u32 a0_2):=(iG BK108.out 2).trans rfl;have hcz26_3:w25.cell? ⟨gb108,3,none⟩=some (.slice A0_3 l0_3.length c0_3):=(iG BK108.out 3).trans rfl;have hcz26_4:w25.cell? ⟨gb108,4,none⟩=some (.slice A0_4 l0_4.length c0_4):=(iG BK108.out 4).trans rfl;have hcz26_5:w25.cell? ⟨gb108,5,none⟩=some (.int .u32 a0_5):=(iG BK108.out 5).trans rfl;have hcz26_6:w25.cell? ⟨gb108,6,none⟩=some (.slice A0_6 l0_6.length c0_6):=(iG BK108.out 6).trans rfl;have hcz26_7:w25.cell? ⟨gb108,7,none⟩=some (.int .i64 a0_7):=(iG BK108.out 7).trans rfl;have hcz26_8:w25.cell? ⟨gb108,8,none⟩=some (.int .i64 a0_8):=(iG BK108.out 8).trans rfl;have hcz26_9:w25.cell? ⟨gb108,9,none⟩=some (.slice A0_9 l0_9.length c0_9):=(iG BK108.out 9).trans rfl;have hfz26_0:=iE BK108.out 0;have hfz26_1:=iE BK108.out 1;have hfz26_2:=iE BK108.out 2;have hfz26_3:=iE BK108.out 3;have hfz26_4:=iE BK108.out 4;have hfz26_5:=iE BK108.out 5;have hfz26_6:=iE BK108.out 6;have hfz26_7:=iE BK108.out 7;have hfz26_8:=iE BK108.out 8;have hfz26_9:=iE BK108.out 9))
    go_ret
    exact ⟨by first | rfl | (simp [jF,jG] <;> rfl) | (simp [*,jF,jG] <;> rfl),by repeat (first | (with_reducible first | exact HB.out | apply iD | apply iF | apply iQ | refine iL ?_ GE108.out) | exact HB.out)⟩
  ·rw [if_neg c3] at H
   have c3b0:(a0_1 == 0)=false:=beq_eq_false_iff_ne.mpr c3
   have c3b1:(a0_1 != 0)=true:=bne_iff_ne.mpr c3
   obtain rfl:=Option.some.inj H
   go_enter Tryz.func95,Tryz.ntmps95
   go_wp2_with (first | ((with_reducible refine kJ (N:=1) rfl ?_);(try (refine kM (by rfl) ?_;dsimp only));refine jW ?hg (N:=1) ?hd (cs:=#[.int .u8 a0_0,.int .u32 a0_1,.int .u32 a0_2,.slice A0_3 l0_3.length c0_3,.slice A0_4 l0_4.length c0_4,.int .u32 a0_5,.slice A0_6 l0_6.length c0_6,.int .i64 a0_7,.int .i64 a0_8,.slice A0_9 l0_9.length c0_9]) (t:=54) ?hr ?_;(case hd=>rfl);(case hg=>rfl);(case hr=>first | (go_simp;done) | (go_simp;rfl));intro gb108 hg w27 hbox hb;have n0_:=iC.mk (iH hb_ hb);have n1_:=iC.mk (hbox);have n2_:=iC.mk ((by rw [hg];exact (iT hb_):w.heap.size≤gb108));have n3_:=iC.mk ((by rw [hg];exact (iT hb_):w.heap.size≤gb108));clear HB;have HB:=n0_;have BK108:=n1_;have GW108:=n2_;have GE108:=n3_;clear n0_ n1_ n2_ n3_;clear hb hbox hg;have hcz28_0:w27.cell? ⟨gb108,0,none⟩=some (.int .u8 a0_0):=(iG BK108.out 0).trans rfl;have hcz28_1:w27.cell? ⟨gb108,1,none⟩=some (.int .u32 a0_1):=(iG BK108.out 1).trans rfl;have hcz28_2:w27.cell? ⟨gb108,2,none⟩=some (.int .u32 a0_2):=(iG BK108.out 2).trans rfl;have hcz28_3:w27.cell? ⟨gb108,3,none⟩=some (.slice A0_3 l0_3.length c0_3):=(iG BK108.out 3).trans rfl;have hcz28_4:w27.cell? ⟨gb108,4,none⟩=some (.slice A0_4 l0_4.length c0_4):=(iG BK108.out 4).trans rfl;have hcz28_5:w27.cell? ⟨gb108,5,none⟩=some (.int .u32 a0_5):=(iG BK108.out 5).trans rfl;have hcz28_6:w27.cell? ⟨gb108,6,none⟩=some (.slice A0_6 l0_6.length c0_6):=(iG BK108.out 6).trans rfl;have hcz28_7:w27.cell? ⟨gb108,7,none⟩=some (.int .i64 a0_7):=(iG BK108.out 7).trans rfl;have hcz28_8:w27.cell? ⟨gb108,8,none⟩=some (.int .i64 a0_8):=(iG BK108.out 8).trans rfl;have hcz28_9:w27.cell? ⟨gb108,9,none⟩=some (.slice A0_9 l0_9.length c0_9):=(iG BK108.out 9).trans rfl;have hfz28_0:=iE BK108.out 0;have hfz28_1:=iE BK108.out 1;have hfz28_2:=iE BK108.out 2;have hfz28_3:=iE BK108.out 3;have hfz28_4:=iE BK108.out 4;have hfz28_5:=iE BK108.out 5;have hfz28_6:=iE BK108.out 6;have hfz28_7:=iE BK108.out 7;have hfz28_8:=iE BK108.out 8;have hfz28_9:=iE BK108.out 9))
   go_ret
   exact ⟨by first | rfl | (simp [jF,jG] <;> rfl) | (simp [*,jF,jG] <;> rfl),by repeat (first | (with_reducible first | exact HB.out | apply iD | apply iF | apply iQ | refine iL ?_ GE108.out) | exact HB.out)⟩
 ·rw [if_neg c2] at H
  have c2b0:(a0_0 == 0)=false:=beq_eq_false_iff_ne.mpr c2
  have c2b1:(a0_0 != 0)=true:=bne_iff_ne.mpr c2
  obtain rfl:=Option.some.inj H
  go_enter Tryz.func95,Tryz.ntmps95
  go_wp2_with (first | ((with_reducible refine kJ (N:=1) rfl ?_);(try (refine kM (by rfl) ?_;dsimp only));refine jW ?hg (N:=1) ?hd (cs:=#[.int .u8 a0_0,.int .u32 a0_1,.int .u32 a0_2,.slice A0_3 l0_3.length c0_3,.slice A0_4 l0_4.length c0_4,.int .u32 a0_5,.slice A0_6 l0_6.length c0_6,.int .i64 a0_7,.int .i64 a0_8,.slice A0_9 l0_9.length c0_9]) (t:=54) ?hr ?_;(case hd=>rfl);(case hg=>rfl);(case hr=>first | (go_simp;done) | (go_simp;rfl));intro gb108 hg w29 hbox hb;have n0_:=iC.mk (iH hb_ hb);have n1_:=iC.mk (hbox);have n2_:=iC.mk ((by rw [hg];exact (iT hb_):w.heap.size≤gb108));have n3_:=iC.mk ((by rw [hg];exact (iT hb_):w.heap.size≤gb108));clear HB;have HB:=n0_;have BK108:=n1_;have GW108:=n2_;have GE108:=n3_;clear n0_ n1_ n2_ n3_;clear hb hbox hg;have hcz30_0:w29.cell? ⟨gb108,0,none⟩=some (.int .u8 a0_0):=(iG BK108.out 0).trans rfl;have hcz30_1:w29.cell? ⟨gb108,1,none⟩=some (.int .u32 a0_1):=(iG BK108.out 1).trans rfl;have hcz30_2:w29.cell? ⟨gb108,2,none⟩=some (.int .u32 a0_2):=(iG BK108.out 2).trans rfl;have hcz30_3:w29.cell? ⟨gb108,3,none⟩=some (.slice A0_3 l0_3.length c0_3):=(iG BK108.out 3).trans rfl;have hcz30_4:w29.cell? ⟨gb108,4,none⟩=some (.slice A0_4 l0_4.length c0_4):=(iG BK108.out 4).trans rfl;have hcz30_5:w29.cell? ⟨gb108,5,none⟩=some (.int .u32 a0_5):=(iG BK108.out 5).trans rfl;have hcz30_6:w29.cell? ⟨gb108,6,none⟩=some (.slice A0_6 l0_6.length c0_6):=(iG BK108.out 6).trans rfl;have hcz30_7:w29.cell? ⟨gb108,7,none⟩=some (.int .i64 a0_7):=(iG BK108.out 7).trans rfl;have hcz30_8:w29.cell? ⟨gb108,8,none⟩=some (.int .i64 a0_8):=(iG BK108.out 8).trans rfl;have hcz30_9:w29.cell? ⟨gb108,9,none⟩=some (.slice A0_9 l0_9.length c0_9):=(iG BK108.out 9).trans rfl;have hfz30_0:=iE BK108.out 0;have hfz30_1:=iE BK108.out 1;have hfz30_2:=iE BK108.out 2;have hfz30_3:=iE BK108.out 3;have hfz30_4:=iE BK108.out 4;have hfz30_5:=iE BK108.out 5;have hfz30_6:=iE BK108.out 6;have hfz30_7:=iE BK108.out 7;have hfz30_8:=iE BK108.out 8;have hfz30_9:=iE BK108.out 9))
  go_ret
  exact ⟨by first | rfl | (simp [jF,jG] <;> rfl) | (simp [*,jF,jG] <;> rfl),by repeat (first | (with_reducible first | exact HB.out | apply iD | apply iF | apply iQ | refine iL ?_ GE108.out) | exact HB.out)⟩
end
end Go.Proofs.YtgfkgppomaapiaaGreatDoor.K
namespace Go.Proofs.YtgfkgppomaapiaaGreatDoor.K
open RowKit YtgfkgppomaapiaaGreatDoorW.PrintWords YtgfkgppomaapiaaGreatDoorW.PrintLast YtgfkgppomaapiaaGreatDoorW.PrintMore My
section
theorem QR {w w':World} (h:jD w w'):Below w.heap.size w w':=by
 obtain ⟨n,rfl⟩:=h
 exact iF (Below.refl _ _) n
theorem oK {i:Int} {n:Nat} (h0:0≤i) (h:i<(n:Int)) (hn:n≤9223372036854775807):wrap64 (i+1)=i+1:=by unfold wrap64;omega
theorem jd2 (l:List Int) (hn:l.length≤9223372036854775807) (d:Nat):∀ (k:Nat) (last i:Int),0≤i→i≤l.length→(l.length:Int) - i=d→d<k→code_rises.l0 k last l (l.length:Int) i=some (nK last (l.drop i.toNat)):=by
 induction d with
 | zero =>
  intro k last i h0 h1 hd hk
  obtain ⟨k,rfl⟩:∃ m,k=m+1:=⟨k - 1,by omega⟩
  simp only [code_rises.l0]
  rw [if_neg (by omega),List.drop_of_length_le (by omega)]
  rfl
 | succ d ih =>
  intro k last i h0 h1 hd hk
  obtain ⟨k,rfl⟩:∃ m,k=m+1:=⟨k - 1,by omega⟩
  have hlt:i<(l.length:Int):=by omega
  have hnat:i.toNat<l.length:=by omega
  have hdrop:l.drop i.toNat=rd l i :: l.drop (i+1).toNat:=by
   rw [List.drop_eq_getElem_cons hnat,show (i+1).toNat=i.toNat+1 by omega]
   congr 1
   unfold rd
   rw [List.getD_eq_getElem?_getD,List.getElem?_eq_getElem hnat]
   rfl
  simp only [code_rises.l0]
  rw [if_pos hlt,if_pos h0,if_pos hlt,hdrop,nK]
  by_cases c1:rd l i≤last
  ·rw [if_pos c1,decide_eq_false (by omega:¬ last<rd l i)]
   rfl
  ·rw [if_neg c1,decide_eq_true (by omega:last<rd l i)]
   by_cases c2:rd l i ≥ 6
   ·rw [if_pos c2,decide_eq_false (by omega:¬ rd l i<6)]
    rfl
   ·rw [if_neg c2,decide_eq_true (by omega:rd l i<6),oK h0 hlt hn]
    exact ih k _ (i+1) (by omega) (by omega) (by omega) (by omega)
theorem uA (A:Option Addr) (c:Nat) (l:List Int) (w:World) (hr:Kd.C (Kd.int .i64) w A l.length l) (hc:l.length≤c) :
  Calls Tryz.prog 89 #[.slice A l.length c] w fun e w'=>e=.returned (.bool (nK (-1) l))∧Below w.heap.size w w' :=
 (code_rises.calls (l.length+1) A c l _ w hr hc (by unfold code_rises.f;rw [jd2 l (lD hr) l.length (l.length+1) (-1) 0 (by omega) (by omega) (by omega) (by omega)];rfl)).mono fun _ _ ⟨he,hd⟩=>⟨he,QR hd⟩
def gapB (p:Option Int) (a:Int):Bool:=match p with | none=>true | some q=>decide (q<a)
theorem xK (p:Option Int) (e:jJ) (l:List jJ):pR p (e :: l)=(mO e.f1 && gapB p e.f0 && pR (some e.f0) l):=by
 cases p <;> rfl
def vK (l:List jJ) (i:Int):Option Int:=if 0<i then some (iK l (i - 1)).f0 else none
theorem UU (l:List jJ) (hn:l.length≤9223372036854775807) (d:Nat):∀ (k:Nat) (i:Int),0≤i→i≤l.length→(l.length:Int) - i=d→d<k →
  code_history.l0 k l l (l.length:Int) i=some (pR (vK l i) (l.drop i.toNat) && decide ((l.length:Int)≤5000)):=by
 induction d with
 | zero =>
  intro k i h0 h1 hd hk
  obtain ⟨k,rfl⟩:∃ m,k=m+1:=⟨k - 1,by omega⟩
  simp only [code_history.l0]
  rw [if_neg (by omega),List.drop_of_length_le (by omega)]
  rfl
 | succ d ih =>
  intro k i h0 h1 hd hk
  obtain ⟨k,rfl⟩:∃ m,k=m+1:=⟨k - 1,by omega⟩
  have hlt:i<(l.length:Int):=by omega
  have hnat:i.toNat<l.length:=by omega
  have hdrop:l.drop i.toNat=iK l i :: l.drop (i+1).toNat:=by
   rw [List.drop_eq_getElem_cons hnat,show (i+1).toNat=i.toNat+1 by omega]
   congr 1
   unfold iK
   rw [List.getD_eq_getElem?_getD,List.getElem?_eq_getElem hnat]
   rfl
  have hnext:vK l (i+1)=some (iK l i).f0:=by
   unfold vK
   rw [if_pos (by omega),show i+1 - 1=i by omega]
  have hih:=ih k (i+1) (by omega) (by omega) (by omega) (by omega)
  rw [hnext] at hih
  simp only [code_history.l0]
  rw [if_pos hlt,if_pos h0,if_pos hlt,hdrop,xK]
  simp only [code_batch.f,Option.bind_some]
  rw [oK h0 hlt hn,hih]
  cases mO (iK l i).f1 with
  | false=>rfl
  | true =>
   rw [if_pos rfl]
   by_cases hi:i > 0
   ·have hw:wrap64 (i - 1)=i - 1:=by unfold wrap64;omega
    rw [if_pos hi,hw,if_pos (by omega),if_pos (by omega)]
    unfold vK gapB
    rw [if_pos hi]
    simp only [Bool.true_and]
    by_cases c1:(iK l i).f0≤(iK l (i - 1)).f0
    ·rw [if_pos c1,decide_eq_false (show ¬ (iK l (i - 1)).f0<(iK l i).f0 by omega)]
     rfl
    ·rw [if_neg c1,decide_eq_true (show (iK l (i - 1)).f0<(iK l i).f0 by omega)]
     rfl
   ·rw [if_neg hi]
    unfold vK gapB
    rw [if_neg hi]
    rfl
theorem oZ (A:Option Addr) (c:Nat) (l:List jJ) (w:World) (hr:Kd.C k114 w A l.length l) (hc:l.length≤c) :
  Calls Tryz.prog 94 #[.slice A l.length c] w fun e w'=>e=.returned (.bool (oN l && decide ((l.length:Int)≤5000)))∧Below w.heap.size w w' :=
 code_history.calls (l.length+1) A c l _ w hr hc (by unfold code_history.f;rw [UU l (lD hr) l.length (l.length+1) 0 (by omega) (by omega) (by omega) (by omega)];rfl)
def mV (a0 a1 a2:Int) (l3:List Int) (l4:List jQ) (a5:Int) (l6:List kC) (a7 a8:Int) (l9:List jJ):Bool :=
 a0 == 0 && a1 == 0 && a2 == 0 && l3.isEmpty && l4.isEmpty && a5 == 0 && l6.isEmpty && a7 == 0 && a8 == 0 && l9.isEmpty
theorem TU {α:Type} (l:List α):((l.length:Int)=0)=(l.isEmpty=true):=by
 cases l with
 | nil=>simp
 | cons x l=>simp;omega
theorem ja0 (a0 a1 a2:Int) (l3:List Int) (l4:List jQ) (a5:Int) (l6:List kC) (a7 a8:Int) (l9:List jJ):code_plain.f a0 a1 a2 l3 l4 a5 l6 a7 a8 l9=some (mV a0 a1 a2 l3 l4 a5 l6 a7 a8 l9):=by
 unfold code_plain.f mV
 have e9:((l9.length:Int) == 0)=l9.isEmpty:=by
  rw [Bool.eq_iff_iff,beq_iff_eq,TU]
 rw [e9]
 simp only [TU]
 by_cases h0:a0=0
 ·by_cases h1:a1=0
  ·by_cases h2:a2=0
   ·cases h3:l3.isEmpty
    ·simp [h0,h1,h2]
    ·cases h4:l4.isEmpty
     ·simp [h0,h1,h2]
     ·by_cases h5:a5=0
      ·cases h6:l6.isEmpty
       ·simp [h0,h1,h2,h5]
       ·by_cases h7:a7=0
        ·by_cases h8:a8=0
         ·simp [h0,h1,h2,h5,h7,h8]
         ·simp [h0,h1,h2,h5,h7,h8]
        ·simp [h0,h1,h2,h5,h7]
      ·simp [h0,h1,h2,h5]
   ·simp [h0,h1,h2]
  ·simp [h0,h1]
 ·simp [h0]
theorem j07 (s:kC):mZ s=(decide (0≤s.f0) && decide (s.f0≤9999) && decide (0≤s.f1) && decide (s.f1<6)):=rfl
set_option maxHeartbeats 1000000 in
theorem ZR (s:kC) (w:World) :
  Calls Tryz.prog 93 #[.agg #[.int .i64 s.f0,.int .i64 s.f1]] w fun e w'=>e=.returned (.bool (mZ s))∧Below w.heap.size w w':=by
 rw [j07]
 by_cases h0:0≤s.f0
 ·by_cases h1:s.f0≤9999
  ·by_cases h2:0≤s.f1
   ·by_cases h3:s.f1<6
    ·rw [decide_eq_true h0,decide_eq_true h1,decide_eq_true h2,decide_eq_true h3]
     go_enter Tryz.func93,Tryz.ntmps93
     go_wp2
     go_ret
     exact ⟨rfl,iD (Below.refl _ _) _⟩
    ·rw [decide_eq_true h0,decide_eq_true h1,decide_eq_true h2,decide_eq_false h3]
     go_enter Tryz.func93,Tryz.ntmps93
     go_wp2
     go_ret
     exact ⟨rfl,iD (Below.refl _ _) _⟩
   ·rw [decide_eq_true h0,decide_eq_true h1,decide_eq_false h2,Bool.and_false,Bool.false_and]
    go_enter Tryz.func93,Tryz.ntmps93
    go_wp2
    go_ret
    exact ⟨rfl,iD (Below.refl _ _) _⟩
  ·rw [decide_eq_true h0,decide_eq_false h1,Bool.and_false,Bool.false_and,Bool.false_and]
   go_enter Tryz.func93,Tryz.ntmps93
   go_wp2
   go_ret
   exact ⟨rfl,iD (Below.refl _ _) _⟩
 ·rw [decide_eq_false h0,Bool.false_and,Bool.false_and,Bool.false_and]
  go_enter Tryz.func93,Tryz.ntmps93
  go_wp2
  go_ret
  exact ⟨rfl,iD (Below.refl _ _) _⟩
set_option maxHeartbeats 400000 in
theorem Q9 (s:kC) (w:World) :
  Calls Tryz.prog 92 #[.agg #[.int .i64 s.f0,.int .i64 s.f1]] w fun e w'=>e=.returned (.bool (!mZ s))∧Below w.heap.size w w':=by
 have hcall:=ZR s (w.alloc (.cells #[.int .i64 s.f0,.int .i64 s.f1] 122))
 generalize mZ s=b at hcall
 go_enter Tryz.func92,Tryz.ntmps92
 go_wp2_with (go_at_call 93;refine hcall.mono ?_;rintro e w' ⟨rfl,hb⟩)
 go_ret
 exact ⟨rfl,iH (iD (Below.refl _ _) _) hb⟩
def I5:kC:=z122
set_option maxHeartbeats 1000000 in
theorem PO (A:Option Addr) (c:Nat) (l:List kC) (w:World) (hr:Kd.C k122 w A l.length l) :
  Calls Tryz.prog 113 #[.slice A l.length c,.func (.func 92) #[] #[]] w (PX (l.any fun f=>!mZ f) w):=by
 have hm:=lD hr
 have HR:=iC.mk hr
 clear hr
 go_enter Tryz.func113,Tryz.ntmps113
 go_wp2
 go_loopg [5,8] l.length (fun gg _ s8 wr=>∃ k:Nat,k≤l.length∧l.length - k≤gg∧s8=.int .i64 k∧iC (Below w.heap.size w wr)∧iC ((l.take k).any (fun f=>!mZ f)=false))
 case atStart=>exact ⟨0,Nat.zero_le _,by omega,rfl,⟨Below.refl _ _⟩,⟨rfl⟩⟩
 case round =>
  obtain ⟨k,hk,hg,rfl,HW,HA⟩:=hrel
  by_cases hlt:k<l.length
  ·obtain ⟨ad,rfl,hx0,hx1⟩:=lQ (Kd.C_below HR.out HW.out) (k:Int) (by omega) (by omega)
   have hsn:=any_take_succ (fun f=>!mZ f) I5 l k hlt
   have hgd:jO l (k:Int)=l.getD k I5:=by unfold jO I5;rw [Int.toNat_natCast]
   rw [hgd] at hx0 hx1
   rw [Int.toNat_natCast] at hx0 hx1
   clear hgd
   obtain ⟨f,hf⟩:∃ v,v=l.getD k I5:=⟨_,rfl⟩
   rw [← hf] at hx0 hx1 hsn
   have hcall:=Q9 f wr
   cases hq:(!mZ f) with
   | true =>
    have HH:=iC.mk (PE (fun f=>!mZ f) I5 l k hlt (by rw [← hf];exact hq))
    rw [hq] at hcall
    clear hf hsn hq
    go_wp2_with (go_at_call 92;refine hcall.mono ?_;rintro e w' ⟨rfl,hb⟩)
    go_ret
    exact ⟨k,rfl,by rw [HH.out];simp,iH HW.out hb⟩
   | false =>
    have HN:=iC.mk (show (l.take (k+1)).any (fun f=>!mZ f)=false by rw [hsn,HA.out,hq];rfl)
    rw [hq] at hcall
    clear hf hsn hq
    go_wp2_with (go_at_call 92;refine hcall.mono ?_;rintro e w' ⟨rfl,hb⟩)
    go_roundg (l.length - (k+1))
    case measure=>omega
    case rel=>exact ⟨k+1,by omega,by omega,by go_num,⟨iH HW.out hb⟩,HN⟩
  ·have:k=l.length:=by omega
   subst this
   go_wp2
   go_ret
   exact ⟨-1,rfl,by rw [ND _ _ HA.out];rfl,HW.out⟩
set_option maxHeartbeats 400000 in
theorem IU (A:Option Addr) (c:Nat) (l:List kC) (w:World) (hr:Kd.C k122 w A l.length l) :
  Calls Tryz.prog 91 #[.slice A l.length c,.func (.func 92) #[] #[]] w fun e w'=>e=.returned (.bool (l.any fun f=>!mZ f))∧Below w.heap.size w w':=by
 have hcall:=PO A c l w hr
 clear hr
 generalize (l.any fun f=>!mZ f)=b at hcall
 go_enter Tryz.func91,Tryz.ntmps91
 go_wp2_with (go_at_call 113;refine hcall.mono ?_;rintro e w' ⟨r,rfl,hr,hb⟩;have HR:=iC.mk hr;clear hr)
 go_ret
 exact ⟨by rw [← HR.out];rfl,hb⟩
end
end Go.Proofs.YtgfkgppomaapiaaGreatDoor.K
section
namespace Go.Proofs.YtgfkgppomaapiaaGreatDoor.K
open RowKit YtgfkgppomaapiaaGreatDoorW.PrintWords YtgfkgppomaapiaaGreatDoorW.PrintLast YtgfkgppomaapiaaGreatDoorW.PrintMore My
theorem ten {w:World} {b t:Nat} {v0 v1 v2 v3 v4 v5 v6 v7 v8 v9:Value} (h:w.heap[b]? = some (.cells #[v0,v1,v2,v3,v4,v5,v6,v7,v8,v9] t (0,0))) :
  w.cell? ⟨b,0,none⟩=some v0∧w.cell? ⟨b,1,none⟩=some v1∧w.cell? ⟨b,2,none⟩=some v2∧w.cell? ⟨b,3,none⟩=some v3∧w.cell? ⟨b,4,none⟩=some v4∧w.cell? ⟨b,5,none⟩=some v5∧w.cell? ⟨b,6,none⟩=some v6∧w.cell? ⟨b,7,none⟩=some v7∧w.cell? ⟨b,8,none⟩=some v8∧w.cell? ⟨b,9,none⟩=some v9 ∧
  w.frozen? ⟨b,0,none⟩=false∧w.frozen? ⟨b,1,none⟩=false∧w.frozen? ⟨b,2,none⟩=false∧w.frozen? ⟨b,3,none⟩=false∧w.frozen? ⟨b,4,none⟩=false∧w.frozen? ⟨b,5,none⟩=false∧w.frozen? ⟨b,6,none⟩=false∧w.frozen? ⟨b,7,none⟩=false∧w.frozen? ⟨b,8,none⟩=false∧w.frozen? ⟨b,9,none⟩=false :=
 ⟨(iG h 0).trans rfl,(iG h 1).trans rfl,(iG h 2).trans rfl,(iG h 3).trans rfl,(iG h 4).trans rfl,(iG h 5).trans rfl,(iG h 6).trans rfl,(iG h 7).trans rfl,(iG h 8).trans rfl,(iG h 9).trans rfl,
  iE h 0,iE h 1,iE h 2,iE h 3,iE h 4,iE h 5,iE h 6,iE h 7,iE h 8,iE h 9⟩
theorem pI (a0 a1 a2:Int) (A3:Option Addr) (c3:Nat) (l3:List Int) (A4:Option Addr) (c4:Nat) (l4:List jQ) (a5:Int) (A6:Option Addr) (c6:Nat) (l6:List kC) (a7 a8:Int) (A9:Option Addr) (c9:Nat) (l9:List jJ) (w:World)
  (h3:Kd.C (Kd.int .i64) w A3 l3.length l3) (d3:l3.length≤c3) (h4:Kd.C k149 w A4 l4.length l4) (d4:l4.length≤c4) (h6:Kd.C k122 w A6 l6.length l6) (d6:l6.length≤c6) (h9:Kd.C k114 w A9 l9.length l9) (d9:l9.length≤c9) :
  Calls Tryz.prog 95 #[.agg #[.int .u8 a0,.int .u32 a1,.int .u32 a2,.slice A3 l3.length c3,.slice A4 l4.length c4,.int .u32 a5,.slice A6 l6.length c6,.int .i64 a7,.int .i64 a8,.slice A9 l9.length c9]] w fun e w'=>e=.returned (.bool (mV a0 a1 a2 l3 l4 a5 l6 a7 a8 l9))∧Below w.heap.size w w' :=
 code_plain.calls a0 a1 a2 A3 c3 l3 A4 c4 l4 a5 A6 c6 l6 a7 a8 A9 c9 l9 _ w h3 d3 h4 d4 h6 d6 h9 d9 (ja0 _ _ _ _ _ _ _ _ _ _)
def code_Sound.f (a0_0:Int) (a0_1:Int) (a0_2:Int) (l0_3:List Int) (l0_4:List jQ) (a0_5:Int) (l0_6:List kC) (a0_7:Int) (a0_8:Int) (l0_9:List jJ):Option Bool :=
 some (jR ⟨a0_0,a0_1,a0_2,l0_3,l0_4,⟨a0_5,l0_6⟩,a0_7,a0_8,l0_9⟩)
theorem WF (a1 a2:Int) (l3:List Int) (l4:List jQ) (a5:Int) (l6:List kC) (a7 a8:Int) (l9:List jJ):jR ⟨1,a1,a2,l3,l4,⟨a5,l6⟩,a7,a8,l9⟩=(nK (-1) l3 && mO l4 && mV 0 0 a2 [] [] a5 l6 a7 a8 l9):=by
 simp [jR,mV,Bool.and_assoc]
theorem XE (a1 a2:Int) (l3:List Int) (l4:List jQ) (a5:Int) (l6:List kC) (a7 a8:Int) (l9:List jJ):jR ⟨2,a1,a2,l3,l4,⟨a5,l6⟩,a7,a8,l9⟩=(nK (-1) l3 && mV 0 0 0 [] l4 a5 l6 a7 a8 l9):=by
 simp [jR,mV,Bool.and_assoc]
theorem MJ (a0 a1 a2:Int) (l3:List Int) (l4:List jQ) (a5:Int) (l6:List kC) (a7 a8:Int) (l9:List jJ) (h:a0=3∨a0=4∨a0=5):jR ⟨a0,a1,a2,l3,l4,⟨a5,l6⟩,a7,a8,l9⟩=mV 0 0 a2 l3 l4 a5 l6 a7 a8 l9:=by
 rcases h with rfl | rfl | rfl <;> simp [jR,mV,Bool.and_assoc]
theorem X7 (a1 a2:Int) (l3:List Int) (l4:List jQ) (a5:Int) (l6:List kC) (a7 a8:Int) (l9:List jJ):jR ⟨6,a1,a2,l3,l4,⟨a5,l6⟩,a7,a8,l9⟩=(decide (a1=0) && decide ((l6.length:Int)≤40) && !(l6.any fun s=>!mZ s) && mV 0 0 a2 l3 l4 0 [] a7 a8 l9):=by
 have e1:l6.all mZ = !(l6.any fun s=>!mZ s):=by rw [List.any_eq_not_all_not,Bool.not_not];congr 1;funext v;simp
 have e2:decide (l6.length≤40)=decide ((l6.length:Int)≤40):=by rw [decide_eq_decide];omega
 have e3:(a1 == 0)=decide (a1=0):=by rw [Bool.eq_iff_iff];simp
 rw [← e1,← e2,← e3]
 simp [jR,mV,Bool.and_assoc]
theorem Z4 (a1 a2:Int) (l3:List Int) (l4:List jQ) (a5:Int) (l6:List kC) (a7 a8:Int) (l9:List jJ):jR ⟨7,a1,a2,l3,l4,⟨a5,l6⟩,a7,a8,l9⟩=((oN l9 && decide ((l9.length:Int)≤5000)) && decide (0≤a7) && decide (a7≤10000) && decide (0≤a8) && decide (a8≤10000) && mV 0 0 a2 l3 l4 a5 l6 0 0 []):=by
 have e2:decide (l9.length≤5000)=decide ((l9.length:Int)≤5000):=by rw [decide_eq_decide];omega
 rw [← e2]
 simp [jR,mV,Bool.and_assoc]
theorem Z9 (a0 a1 a2:Int) (l3:List Int) (l4:List jQ) (a5:Int) (l6:List kC) (a7 a8:Int) (l9:List jJ) (h:a0<1∨7<a0):jR ⟨a0,a1,a2,l3,l4,⟨a5,l6⟩,a7,a8,l9⟩=false:=by
 unfold jR
 simp only
 rw [if_neg (by omega),if_neg (by omega),if_neg (by simp;omega),if_neg (by omega),if_neg (by omega)]
section
variable (a0 a1 a2:Int) (A3:Option Addr) (c3:Nat) (l3:List Int) (A4:Option Addr) (c4:Nat) (l4:List jQ) (a5:Int) (A6:Option Addr) (c6:Nat) (l6:List kC) (a7 a8:Int) (A9:Option Addr) (c9:Nat) (l9:List jJ) (w:World)
 (h3:Kd.C (Kd.int .i64) w A3 l3.length l3) (d3:l3.length≤c3) (h4:Kd.C k149 w A4 l4.length l4) (d4:l4.length≤c4) (h6:Kd.C k122 w A6 l6.length l6) (d6:l6.length≤c6) (h9:Kd.C k114 w A9 l9.length l9) (d9:l9.length≤c9)
include h3 d3 h4 d4 h6 d6 h9 d9
set_option maxHeartbeats 4000000 in
set_option maxRecDepth 20000 in
theorem UX:Calls Tryz.prog 60 #[.agg #[.int .u8 1,.int .u32 a1,.int .u32 a2,.slice A3 l3.length c3,.slice A4 l4.length c4,.int .u32 a5,.slice A6 l6.length c6,.int .i64 a7,.int .i64 a8,.slice A9 l9.length c9]] w fun e w'=>e=.returned (.bool (jR ⟨1,a1,a2,l3,l4,⟨a5,l6⟩,a7,a8,l9⟩))∧Below w.heap.size w w':=by
 have H3:=iC.mk h3;have H4:=iC.mk h4;have H6:=iC.mk h6;have H9:=iC.mk h9
 clear h3 h4 h6 h9
 rw [WF]
 cases hr:nK (-1) l3 with
 | false =>
  have HQ:=iC.mk hr
  clear hr
  rw [Bool.false_and,Bool.false_and]
  go_enter Tryz.func60,Tryz.ntmps60
  go_wp2_with (go_at_call 89;refine (uA _ _ l3 _ (Kd.C_below H3.out bel_) d3).mono ?_;rintro e w1 ⟨rfl,hb1⟩;rw [HQ.out];have hbk:=ten (iI hb1 (iP rfl));obtain ⟨z0,z1,z2,z3,z4,z5,z6,z7,z8,z9,y0,y1,y2,y3,y4,y5,y6,y7,y8,y9⟩:=hbk)
  go_ret
  exact ⟨rfl,bel_⟩
 | true =>
  have HQ:=iC.mk hr
  clear hr
  rw [Bool.true_and]
  cases hb:mO l4 with
  | false =>
   have HQ2:=iC.mk hb
   clear hb
   rw [Bool.false_and]
   go_enter Tryz.func60,Tryz.ntmps60
   go_wp2_with (first | (go_at_call 89;refine (uA _ _ l3 _ (Kd.C_below H3.out bel_) d3).mono ?_;rintro e w1 ⟨rfl,hb1⟩;rw [HQ.out];have hbk:=ten (iI hb1 (iP rfl));obtain ⟨z0,z1,z2,z3,z4,z5,z6,z7,z8,z9,y0,y1,y2,y3,y4,y5,y6,y7,y8,y9⟩:=hbk) | (go_at_call 90;refine (code_batch.calls _ _ l4 _ _ (Kd.C_below H4.out bel_) d4 rfl).mono ?_;rintro e w2 ⟨rfl,hb2⟩;rw [HQ2.out];have hbk1:=iI hb2 (iI hb1 (iP rfl));clear z0 z1 z2 z3 z4 z5 z6 z7 z8 z9 y0 y1 y2 y3 y4 y5 y6 y7 y8 y9;obtain ⟨z0,z1,z2,z3,z4,z5,z6,z7,z8,z9,y0,y1,y2,y3,y4,y5,y6,y7,y8,y9⟩:=ten hbk1;clear hbk1))
   go_ret
   exact ⟨rfl,bel_⟩
  | true =>
   have HQ2:=iC.mk hb
   clear hb
   rw [Bool.true_and]
   generalize hp:mV 0 0 a2 [] [] a5 l6 a7 a8 l9=P
   have HP:=iC.mk hp
   clear hp
   go_enter Tryz.func60,Tryz.ntmps60
   go_wp2_with (first | (go_at_call 89;refine (uA _ _ l3 _ (Kd.C_below H3.out bel_) d3).mono ?_;rintro e w1 ⟨rfl,hb1⟩;rw [HQ.out];have hbk:=ten (iI hb1 (iP rfl));obtain ⟨z0,z1,z2,z3,z4,z5,z6,z7,z8,z9,y0,y1,y2,y3,y4,y5,y6,y7,y8,y9⟩:=hbk) | (go_at_call 90;refine (code_batch.calls _ _ l4 _ _ (Kd.C_below H4.out bel_) d4 rfl).mono ?_;rintro e w2 ⟨rfl,hb2⟩;rw [HQ2.out];have hbk1:=iI hb2 (iI hb1 (iP rfl));clear z0 z1 z2 z3 z4 z5 z6 z7 z8 z9 y0 y1 y2 y3 y4 y5 y6 y7 y8 y9;obtain ⟨z0,z1,z2,z3,z4,z5,z6,z7,z8,z9,y0,y1,y2,y3,y4,y5,y6,y7,y8,y9⟩:=ten hbk1;clear hbk1) | (go_at_call 95;refine (pI 0 0 a2 none 0 ([]:List Int) none 0 ([]:List jQ) a5 A6 c6 l6 a7 a8 A9 c9 l9 _ (Kd.C_nil _ _) (Nat.le_refl _) (Kd.C_nil _ _) (Nat.le_refl _) (Kd.C_below H6.out bel_) d6 (Kd.C_below H9.out bel_) d9).mono ?_;rintro e w9 ⟨rfl,hb9⟩))
   go_ret
   exact ⟨by rw [← HP.out];rfl,bel_⟩
set_option maxHeartbeats 4000000 in
set_option maxRecDepth 20000 in
theorem VV:Calls Tryz.prog 60 #[.agg #[.int .u8 2,.int .u32 a1,.int .u32 a2,.slice A3 l3.length c3,.slice A4 l4.length c4,.int .u32 a5,.slice A6 l6.length c6,.int .i64 a7,.int .i64 a8,.slice A9 l9.length c9]] w fun e w'=>e=.returned (.bool (jR ⟨2,a1,a2,l3,l4,⟨a5,l6⟩,a7,a8,l9⟩))∧Below w.heap.size w w':=by
 have H3:=iC.mk h3;have H4:=iC.mk h4;have H6:=iC.mk h6;have H9:=iC.mk h9
 clear h3 h4 h6 h9
 rw [XE]
 cases hr:nK (-1) l3 with
 | false =>
  have HQ:=iC.mk hr
  clear hr
  rw [Bool.false_and]
  go_enter Tryz.func60,Tryz.ntmps60
  go_wp2_with (go_at_call 89;refine (uA _ _ l3 _ (Kd.C_below H3.out bel_) d3).mono ?_;rintro e w1 ⟨rfl,hb1⟩;rw [HQ.out];have hbk:=ten (iI hb1 (iP rfl));obtain ⟨z0,z1,z2,z3,z4,z5,z6,z7,z8,z9,y0,y1,y2,y3,y4,y5,y6,y7,y8,y9⟩:=hbk)
  go_ret
  exact ⟨rfl,bel_⟩
 | true =>
  have HQ:=iC.mk hr
  clear hr
  rw [Bool.true_and]
  generalize hp:mV 0 0 0 [] l4 a5 l6 a7 a8 l9=P
  have HP:=iC.mk hp
  clear hp
  go_enter Tryz.func60,Tryz.ntmps60
  go_wp2_with (first | (go_at_call 89;refine (uA _ _ l3 _ (Kd.C_below H3.out bel_) d3).mono ?_;rintro e w1 ⟨rfl,hb1⟩;rw [HQ.out];have hbk:=ten (iI hb1 (iP rfl));obtain ⟨z0,z1,z2,z3,z4,z5,z6,z7,z8,z9,y0,y1,y2,y3,y4,y5,y6,y7,y8,y9⟩:=hbk) | (go_at_call 95;refine (pI 0 0 0 none 0 ([]:List Int) A4 c4 l4 a5 A6 c6 l6 a7 a8 A9 c9 l9 _ (Kd.C_nil _ _) (Nat.le_refl _) (Kd.C_below H4.out bel_) d4 (Kd.C_below H6.out bel_) d6 (Kd.C_below H9.out bel_) d9).mono ?_;rintro e w9 ⟨rfl,hb9⟩))
  go_ret
  exact ⟨by rw [← HP.out];rfl,bel_⟩
set_option maxHeartbeats 4000000 in
set_option maxRecDepth 20000 in
theorem O0 (ha:a0=3∨a0=4∨a0=5):Calls Tryz.prog 60 #[.agg #[.int .u8 a0,.int .u32 a1,.int .u32 a2,.slice A3 l3.length c3,.slice A4 l4.length c4,.int .u32 a5,.slice A6 l6.length c6,.int .i64 a7,.int .i64 a8,.slice A9 l9.length c9]] w fun e w'=>e=.returned (.bool (jR ⟨a0,a1,a2,l3,l4,⟨a5,l6⟩,a7,a8,l9⟩))∧Below w.heap.size w w':=by
 have H3:=iC.mk h3;have H4:=iC.mk h4;have H6:=iC.mk h6;have H9:=iC.mk h9
 clear h3 h4 h6 h9
 rcases ha with rfl | rfl | rfl
 ·
  rw [MJ _ _ _ _ _ _ _ _ _ _ (by omega)]
  generalize hp:mV 0 0 a2 l3 l4 a5 l6 a7 a8 l9=P
  have HP:=iC.mk hp
  clear hp
  go_enter Tryz.func60,Tryz.ntmps60
  go_wp2_with (go_at_call 95;refine (pI 0 0 a2 A3 c3 l3 A4 c4 l4 a5 A6 c6 l6 a7 a8 A9 c9 l9 _ (Kd.C_below H3.out bel_) d3 (Kd.C_below H4.out bel_) d4 (Kd.C_below H6.out bel_) d6 (Kd.C_below H9.out bel_) d9).mono ?_;rintro e w9 ⟨rfl,hb9⟩)
  go_ret
  exact ⟨by rw [← HP.out];rfl,bel_⟩
 ·
  rw [MJ _ _ _ _ _ _ _ _ _ _ (by omega)]
  generalize hp:mV 0 0 a2 l3 l4 a5 l6 a7 a8 l9=P
  have HP:=iC.mk hp
  clear hp
  go_enter Tryz.func60,Tryz.ntmps60
  go_wp2_with (go_at_call 95;refine (pI 0 0 a2 A3 c3 l3 A4 c4 l4 a5 A6 c6 l6 a7 a8 A9 c9 l9 _ (Kd.C_below H3.out bel_) d3 (Kd.C_below H4.out bel_) d4 (Kd.C_below H6.out bel_) d6 (Kd.C_below H9.out bel_) d9).mono ?_;rintro e w9 ⟨rfl,hb9⟩)
  go_ret
  exact ⟨by rw [← HP.out];rfl,bel_⟩
 ·
  rw [MJ _ _ _ _ _ _ _ _ _ _ (by omega)]
  generalize hp:mV 0 0 a2 l3 l4 a5 l6 a7 a8 l9=P
  have HP:=iC.mk hp
  clear hp
  go_enter Tryz.func60,Tryz.ntmps60
  go_wp2_with (go_at_call 95;refine (pI 0 0 a2 A3 c3 l3 A4 c4 l4 a5 A6 c6 l6 a7 a8 A9 c9 l9 _ (Kd.C_below H3.out bel_) d3 (Kd.C_below H4.out bel_) d4 (Kd.C_below H6.out bel_) d6 (Kd.C_below H9.out bel_) d9).mono ?_;rintro e w9 ⟨rfl,hb9⟩)
  go_ret
  exact ⟨by rw [← HP.out];rfl,bel_⟩
set_option maxHeartbeats 4000000 in
set_option maxRecDepth 20000 in
theorem U6:Calls Tryz.prog 60 #[.agg #[.int .u8 6,.int .u32 a1,.int .u32 a2,.slice A3 l3.length c3,.slice A4 l4.length c4,.int .u32 a5,.slice A6 l6.length c6,.int .i64 a7,.int .i64 a8,.slice A9 l9.length c9]] w fun e w'=>e=.returned (.bool (jR ⟨6,a1,a2,l3,l4,⟨a5,l6⟩,a7,a8,l9⟩))∧Below w.heap.size w w':=by
 have _:=d6
 have H3:=iC.mk h3;have H4:=iC.mk h4;have H6:=iC.mk h6;have H9:=iC.mk h9
 clear h3 h4 h6 h9
 rw [X7]
 by_cases q1:a1=0
 ·subst q1
  by_cases q2:(l6.length:Int)≤40
  ·rw [decide_eq_true (rfl:(0:Int)=0),decide_eq_true q2]
   cases hr:(l6.any fun s=>!mZ s) with
   | true =>
    have HQ:=iC.mk hr
    clear hr
    go_enter Tryz.func60,Tryz.ntmps60
    go_wp2_with (first | (go_at_call 91;refine (IU _ _ l6 _ (Kd.C_below H6.out bel_)).mono ?_;rintro e w1 ⟨rfl,hb1⟩;rw [HQ.out];have hbk:=ten (iI hb1 (iP rfl));obtain ⟨z0,z1,z2,z3,z4,z5,z6,z7,z8,z9,y0,y1,y2,y3,y4,y5,y6,y7,y8,y9⟩:=hbk) | (go_at_call 95;refine (pI 0 0 a2 A3 c3 l3 A4 c4 l4 0 none 0 ([]:List kC) a7 a8 A9 c9 l9 _ (Kd.C_below H3.out bel_) d3 (Kd.C_below H4.out bel_) d4 (Kd.C_nil _ _) (Nat.le_refl _) (Kd.C_below H9.out bel_) d9).mono ?_;rintro e w9 ⟨rfl,hb9⟩))
    go_ret
    exact ⟨rfl,bel_⟩
   | false =>
    have HQ:=iC.mk hr
    clear hr
    rw [show (true && true && !false && mV 0 0 a2 l3 l4 0 [] a7 a8 l9)=mV 0 0 a2 l3 l4 0 [] a7 a8 l9 by simp]
    generalize hp:mV 0 0 a2 l3 l4 0 [] a7 a8 l9=P
    have HP:=iC.mk hp
    clear hp
    go_enter Tryz.func60,Tryz.ntmps60
    go_wp2_with (first | (go_at_call 91;refine (IU _ _ l6 _ (Kd.C_below H6.out bel_)).mono ?_;rintro e w1 ⟨rfl,hb1⟩;rw [HQ.out];have hbk:=ten (iI hb1 (iP rfl));obtain ⟨z0,z1,z2,z3,z4,z5,z6,z7,z8,z9,y0,y1,y2,y3,y4,y5,y6,y7,y8,y9⟩:=hbk) | (go_at_call 95;refine (pI 0 0 a2 A3 c3 l3 A4 c4 l4 0 none 0 ([]:List kC) a7 a8 A9 c9 l9 _ (Kd.C_below H3.out bel_) d3 (Kd.C_below H4.out bel_) d4 (Kd.C_nil _ _) (Nat.le_refl _) (Kd.C_below H9.out bel_) d9).mono ?_;rintro e w9 ⟨rfl,hb9⟩))
    go_ret
    exact ⟨by rw [← HP.out];rfl,bel_⟩
  ·rw [decide_eq_true (rfl:(0:Int)=0),decide_eq_false q2]
   go_enter Tryz.func60,Tryz.ntmps60
   go_wp2_with fail
   go_ret
   exact ⟨rfl,bel_⟩
 ·rw [decide_eq_false q1,Bool.false_and,Bool.false_and,Bool.false_and]
  have q1':(a1 == 0)=false:=beq_eq_false_iff_ne.mpr q1
  go_enter Tryz.func60,Tryz.ntmps60
  go_wp2_with fail
  go_ret
  exact ⟨rfl,bel_⟩
set_option maxHeartbeats 4000000 in
set_option maxRecDepth 20000 in
theorem UY:Calls Tryz.prog 60 #[.agg #[.int .u8 7,.int .u32 a1,.int .u32 a2,.slice A3 l3.length c3,.slice A4 l4.length c4,.int .u32 a5,.slice A6 l6.length c6,.int .i64 a7,.int .i64 a8,.slice A9 l9.length c9]] w fun e w'=>e=.returned (.bool (jR ⟨7,a1,a2,l3,l4,⟨a5,l6⟩,a7,a8,l9⟩))∧Below w.heap.size w w':=by
 have H3:=iC.mk h3;have H4:=iC.mk h4;have H6:=iC.mk h6;have H9:=iC.mk h9
 clear h3 h4 h6 h9
 rw [Z4]
 cases hr:(oN l9 && decide ((l9.length:Int)≤5000)) with
 | false =>
  have HQ:=iC.mk hr
  clear hr
  rw [Bool.false_and,Bool.false_and,Bool.false_and,Bool.false_and,Bool.false_and]
  go_enter Tryz.func60,Tryz.ntmps60
  go_wp2_with (go_at_call 94;refine (oZ _ _ l9 _ (Kd.C_below H9.out bel_) d9).mono ?_;rintro e w1 ⟨rfl,hb1⟩;rw [HQ.out];have hbk:=ten (iI hb1 (iP rfl));obtain ⟨z0,z1,z2,z3,z4,z5,z6,z7,z8,z9,y0,y1,y2,y3,y4,y5,y6,y7,y8,y9⟩:=hbk)
  go_ret
  exact ⟨rfl,bel_⟩
 | true =>
  have HQ:=iC.mk hr
  clear hr
  by_cases q1:0≤a7
  ·by_cases q2:a7≤10000
   ·by_cases q3:0≤a8
    ·by_cases q4:a8≤10000
     ·rw [decide_eq_true q1,decide_eq_true q2,decide_eq_true q3,decide_eq_true q4]
      rw [show (true && true && true && true && true && mV 0 0 a2 l3 l4 a5 l6 0 0 [])=mV 0 0 a2 l3 l4 a5 l6 0 0 [] by simp]
      generalize hp:mV 0 0 a2 l3 l4 a5 l6 0 0 []=P
      have HP:=iC.mk hp
      clear hp
      go_enter Tryz.func60,Tryz.ntmps60
      go_wp2_with (first | (go_at_call 94;refine (oZ _ _ l9 _ (Kd.C_below H9.out bel_) d9).mono ?_;rintro e w1 ⟨rfl,hb1⟩;rw [HQ.out];have hbk:=ten (iI hb1 (iP rfl));obtain ⟨z0,z1,z2,z3,z4,z5,z6,z7,z8,z9,y0,y1,y2,y3,y4,y5,y6,y7,y8,y9⟩:=hbk) | (go_at_call 95;refine (pI 0 0 a2 A3 c3 l3 A4 c4 l4 a5 A6 c6 l6 0 0 none 0 ([]:List jJ) _ (Kd.C_below H3.out bel_) d3 (Kd.C_below H4.out bel_) d4 (Kd.C_below H6.out bel_) d6 (Kd.C_nil _ _) (Nat.le_refl _)).mono ?_;rintro e w9 ⟨rfl,hb9⟩))
      go_ret
      exact ⟨by rw [← HP.out];rfl,bel_⟩
     ·rw [decide_eq_false q4,Bool.and_false,Bool.false_and]
      go_enter Tryz.func60,Tryz.ntmps60
      go_wp2_with (go_at_call 94;refine (oZ _ _ l9 _ (Kd.C_below H9.out bel_) d9).mono ?_;rintro e w1 ⟨rfl,hb1⟩;rw [HQ.out];have hbk:=ten (iI hb1 (iP rfl));obtain ⟨z0,z1,z2,z3,z4,z5,z6,z7,z8,z9,y0,y1,y2,y3,y4,y5,y6,y7,y8,y9⟩:=hbk)
      go_ret
      exact ⟨rfl,bel_⟩
    ·rw [decide_eq_false q3,Bool.and_false,Bool.false_and,Bool.false_and]
     go_enter Tryz.func60,Tryz.ntmps60
     go_wp2_with (go_at_call 94;refine (oZ _ _ l9 _ (Kd.C_below H9.out bel_) d9).mono ?_;rintro e w1 ⟨rfl,hb1⟩;rw [HQ.out];have hbk:=ten (iI hb1 (iP rfl));obtain ⟨z0,z1,z2,z3,z4,z5,z6,z7,z8,z9,y0,y1,y2,y3,y4,y5,y6,y7,y8,y9⟩:=hbk)
     go_ret
     exact ⟨rfl,bel_⟩
   ·rw [decide_eq_false q2,Bool.and_false,Bool.false_and,Bool.false_and,Bool.false_and]
    go_enter Tryz.func60,Tryz.ntmps60
    go_wp2_with (go_at_call 94;refine (oZ _ _ l9 _ (Kd.C_below H9.out bel_) d9).mono ?_;rintro e w1 ⟨rfl,hb1⟩;rw [HQ.out];have hbk:=ten (iI hb1 (iP rfl));obtain ⟨z0,z1,z2,z3,z4,z5,z6,z7,z8,z9,y0,y1,y2,y3,y4,y5,y6,y7,y8,y9⟩:=hbk)
    go_ret
    exact ⟨rfl,bel_⟩
  ·rw [decide_eq_false q1,Bool.and_false,Bool.false_and,Bool.false_and,Bool.false_and,Bool.false_and]
   go_enter Tryz.func60,Tryz.ntmps60
   go_wp2_with (go_at_call 94;refine (oZ _ _ l9 _ (Kd.C_below H9.out bel_) d9).mono ?_;rintro e w1 ⟨rfl,hb1⟩;rw [HQ.out];have hbk:=ten (iI hb1 (iP rfl));obtain ⟨z0,z1,z2,z3,z4,z5,z6,z7,z8,z9,y0,y1,y2,y3,y4,y5,y6,y7,y8,y9⟩:=hbk)
   go_ret
   exact ⟨rfl,bel_⟩
set_option maxHeartbeats 4000000 in
set_option maxRecDepth 20000 in
theorem UE (ha:a0<1∨7<a0):Calls Tryz.prog 60 #[.agg #[.int .u8 a0,.int .u32 a1,.int .u32 a2,.slice A3 l3.length c3,.slice A4 l4.length c4,.int .u32 a5,.slice A6 l6.length c6,.int .i64 a7,.int .i64 a8,.slice A9 l9.length c9]] w fun e w'=>e=.returned (.bool (jR ⟨a0,a1,a2,l3,l4,⟨a5,l6⟩,a7,a8,l9⟩))∧Below w.heap.size w w':=by
 have _:=d3;have _:=d4;have _:=d6;have _:=d9
 have H3:=iC.mk h3;have H4:=iC.mk h4;have H6:=iC.mk h6;have H9:=iC.mk h9
 clear h3 h4 h6 h9
 rw [Z9 _ _ _ _ _ _ _ _ _ _ ha]
 have q1:(a0 == 1)=false:=beq_eq_false_iff_ne.mpr (by omega)
 have q2:(a0 == 2)=false:=beq_eq_false_iff_ne.mpr (by omega)
 have q3:(a0 == 3)=false:=beq_eq_false_iff_ne.mpr (by omega)
 have q4:(a0 == 4)=false:=beq_eq_false_iff_ne.mpr (by omega)
 have q5:(a0 == 5)=false:=beq_eq_false_iff_ne.mpr (by omega)
 have q6:(a0 == 6)=false:=beq_eq_false_iff_ne.mpr (by omega)
 have q7:(a0 == 7)=false:=beq_eq_false_iff_ne.mpr (by omega)
 clear ha
 go_enter Tryz.func60,Tryz.ntmps60
 go_wp2
 go_ret
 exact ⟨rfl,bel_⟩
end
theorem code_Sound.calls (a0_0:Int) (a0_1:Int) (a0_2:Int) (A0_3:Option Addr) (c0_3:Nat) (l0_3:List Int) (A0_4:Option Addr) (c0_4:Nat) (l0_4:List jQ) (a0_5:Int) (A0_6:Option Addr) (c0_6:Nat) (l0_6:List kC) (a0_7:Int) (a0_8:Int) (A0_9:Option Addr) (c0_9:Nat) (l0_9:List jJ) (r:Bool) (w:World) (hr0_3:Kd.C (Kd.int .i64) w A0_3 l0_3.length l0_3) (hc0_3:l0_3.length≤c0_3) (hr0_4:Kd.C k149 w A0_4 l0_4.length l0_4) (hc0_4:l0_4.length≤c0_4) (hr0_6:Kd.C k122 w A0_6 l0_6.length l0_6) (hc0_6:l0_6.length≤c0_6) (hr0_9:Kd.C k114 w A0_9 l0_9.length l0_9) (hc0_9:l0_9.length≤c0_9) (h:code_Sound.f a0_0 a0_1 a0_2 l0_3 l0_4 a0_5 l0_6 a0_7 a0_8 l0_9=some r) :
  Calls Tryz.prog 60 #[.agg #[.int .u8 a0_0,.int .u32 a0_1,.int .u32 a0_2,.slice A0_3 l0_3.length c0_3,.slice A0_4 l0_4.length c0_4,.int .u32 a0_5,.slice A0_6 l0_6.length c0_6,.int .i64 a0_7,.int .i64 a0_8,.slice A0_9 l0_9.length c0_9]] w fun e w'=>e=.returned (.bool r)∧Below w.heap.size w w':=by
 obtain rfl:=Option.some.inj h
 clear h
 by_cases h0:a0_0<1∨7<a0_0
 ·exact UE a0_0 a0_1 a0_2 A0_3 c0_3 l0_3 A0_4 c0_4 l0_4 a0_5 A0_6 c0_6 l0_6 a0_7 a0_8 A0_9 c0_9 l0_9 w hr0_3 hc0_3 hr0_4 hc0_4 hr0_6 hc0_6 hr0_9 hc0_9 h0
 have h7:a0_0=1∨a0_0=2∨(a0_0=3∨a0_0=4∨a0_0=5)∨a0_0=6∨a0_0=7:=by omega
 rcases h7 with rfl | rfl | h3 | rfl | rfl
 ·exact UX a0_1 a0_2 A0_3 c0_3 l0_3 A0_4 c0_4 l0_4 a0_5 A0_6 c0_6 l0_6 a0_7 a0_8 A0_9 c0_9 l0_9 w hr0_3 hc0_3 hr0_4 hc0_4 hr0_6 hc0_6 hr0_9 hc0_9
 ·exact VV a0_1 a0_2 A0_3 c0_3 l0_3 A0_4 c0_4 l0_4 a0_5 A0_6 c0_6 l0_6 a0_7 a0_8 A0_9 c0_9 l0_9 w hr0_3 hc0_3 hr0_4 hc0_4 hr0_6 hc0_6 hr0_9 hc0_9
 ·exact O0 a0_0 a0_1 a0_2 A0_3 c0_3 l0_3 A0_4 c0_4 l0_4 a0_5 A0_6 c0_6 l0_6 a0_7 a0_8 A0_9 c0_9 l0_9 w hr0_3 hc0_3 hr0_4 hc0_4 hr0_6 hc0_6 hr0_9 hc0_9 h3
 ·exact U6 a0_1 a0_2 A0_3 c0_3 l0_3 A0_4 c0_4 l0_4 a0_5 A0_6 c0_6 l0_6 a0_7 a0_8 A0_9 c0_9 l0_9 w hr0_3 hc0_3 hr0_4 hc0_4 hr0_6 hc0_6 hr0_9 hc0_9
 ·exact UY a0_1 a0_2 A0_3 c0_3 l0_3 A0_4 c0_4 l0_4 a0_5 A0_6 c0_6 l0_6 a0_7 a0_8 A0_9 c0_9 l0_9 w hr0_3 hc0_3 hr0_4 hc0_4 hr0_6 hc0_6 hr0_9 hc0_9
end Go.Proofs.YtgfkgppomaapiaaGreatDoor.K
end
namespace Go.Proofs.YtgfkgppomaapiaaGreatDoor.K
open RowKit YtgfkgppomaapiaaGreatDoorW.PrintWords YtgfkgppomaapiaaGreatDoorW.PrintLast YtgfkgppomaapiaaGreatDoorW.PrintMore My
section
def flag (b:Bool) (c:Nat) (s:List UInt8):Bool:=b || s.any fun x=>x.toNat == c
theorem qW (b:Bool) (c:Nat) (s:List UInt8):flag b c (s.take 0)=b:=by simp [flag]
theorem qZ (b:Bool) (c:Nat) (s:ByteArray) (k:Nat) (h:k<s.size):flag b c (s.data.toList.take (k+1))=(flag b c (s.data.toList.take k) || (((s[k]'h).toNat:Int) == (c:Int))):=by
 have e:s.data.toList.take (k+1)=s.data.toList.take k ++ [s[k]'h]:=by
  rw [List.take_succ_eq_append_getElem (by simpa using h)];rfl
 rw [e]
 unfold flag
 rw [List.any_append,← Bool.or_assoc]
 congr 1
 simp only [List.any_cons,List.any_nil,Bool.or_false]
 rw [Bool.eq_iff_iff]
 simp only [beq_iff_eq]
 omega
set_option maxRecDepth 20000 in
set_option maxHeartbeats 4000000 in
theorem j08 (a0 a1 a2:Int) (A3:Option Addr) (c3 n3:Nat) (A4:Option Addr) (c4 n4:Nat) (a5:Int) (A6:Option Addr) (c6 n6:Nat) (a7 a8:Int) (A9:Option Addr) (c9 n9:Nat) (s:ByteArray) (w:World) (r:Bool) (hs:(s.size:Int)≤9223372036854775807)
  (HR:iC (r=(flag (a1 == 0) 73 s.data.toList && flag (a2 == 0) 65 s.data.toList && flag ((n3:Int) == 0) 78 s.data.toList && flag ((n4:Int) == 0) 70 s.data.toList && flag ((a5 == 0) && ((n6:Int) == 0)) 77 s.data.toList && flag ((a7 == 0) && (a8 == 0) && ((n9:Int) == 0)) 82 s.data.toList))) :
  Calls Tryz.prog 101 #[.agg #[.int .u8 a0,.int .u32 a1,.int .u32 a2,.slice A3 n3 c3,.slice A4 n4 c4,.int .u32 a5,.slice A6 n6 c6,.int .i64 a7,.int .i64 a8,.slice A9 n9 c9],.string s] w fun e w'=>e=.returned (.bool r)∧Below w.heap.size w w':=by
 go_enter Tryz.func101,Tryz.ntmps101
 go_upto_region 5 with fail
 go_cut [9] (fun s9 wx=>s9=.bool ((a5 == 0) && ((n6:Int) == 0))∧wx=w.alloc (.cells #[.int .u8 a0,.int .u32 a1,.int .u32 a2,.slice A3 n3 c3,.slice A4 n4 c4,.int .u32 a5,.slice A6 n6 c6,.int .i64 a7,.int .i64 a8,.slice A9 n9 c9] 54))
 case first =>
  by_cases h5:a5=0
  ·subst h5
   go_wp2_with fail
   go_meet
   exact ⟨by simp,rfl⟩
  ·have h5':(a5 == 0)=false:=by simpa using h5
   go_wp2_with fail
   go_meet
   exact ⟨by simp [h5'],rfl⟩
 case rest =>
  obtain ⟨rfl,rfl⟩:=hcut
  go_upto_region 6 with fail
  go_cut [10] (fun s10 wx=>s10=.bool ((a7 == 0) && (a8 == 0) && ((n9:Int) == 0))∧wx=w.alloc (.cells #[.int .u8 a0,.int .u32 a1,.int .u32 a2,.slice A3 n3 c3,.slice A4 n4 c4,.int .u32 a5,.slice A6 n6 c6,.int .i64 a7,.int .i64 a8,.slice A9 n9 c9] 54))
  case first =>
   by_cases h7:a7=0
   ·subst h7
    by_cases h8:a8=0
    ·subst h8
     go_wp2_with fail
     go_meet
     exact ⟨by simp,rfl⟩
    ·have h8':(a8 == 0)=false:=by simpa using h8
     go_wp2_with fail
     go_meet
     exact ⟨by simp [h8'],rfl⟩
   ·have h7':(a7 == 0)=false:=by simpa using h7
    go_wp2_with fail
    go_meet
    exact ⟨by simp [h7'],rfl⟩
  case rest =>
   obtain ⟨rfl,rfl⟩:=hcut
   generalize ((a5 == 0) && ((n6:Int) == 0))=i9 at HR ⊢
   generalize ((a7 == 0) && (a8 == 0) && ((n9:Int) == 0))=i10 at HR ⊢
   generalize (a1 == 0)=i5 at HR ⊢
   generalize (a2 == 0)=i6 at HR ⊢
   generalize ((n3:Int) == 0)=i7 at HR ⊢
   generalize ((n4:Int) == 0)=i8 at HR ⊢
   have HW:=iC.mk (show Below w.heap.size w (w.alloc (.cells #[.int .u8 a0,.int .u32 a1,.int .u32 a2,.slice A3 n3 c3,.slice A4 n4 c4,.int .u32 a5,.slice A6 n6 c6,.int .i64 a7,.int .i64 a8,.slice A9 n9 c9] 54)) from iD (Below.refl _ _) _)
   generalize w.alloc (.cells #[.int .u8 a0,.int .u32 a1,.int .u32 a2,.slice A3 n3 c3,.slice A4 n4 c4,.int .u32 a5,.slice A6 n6 c6,.int .i64 a7,.int .i64 a8,.slice A9 n9 c9] 54)=wb at HW ⊢
   go_wp2_with fail
   go_loopg [5,6,7,8,9,10,11] s.size (fun gg s5 s6 s7 s8 s9 s10 s11 wr=>∃ k:Nat,k≤s.size∧s.size - k≤gg∧s5=.bool (flag i5 73 (s.data.toList.take k))∧s6=.bool (flag i6 65 (s.data.toList.take k))∧s7=.bool (flag i7 78 (s.data.toList.take k))∧s8=.bool (flag i8 70 (s.data.toList.take k))∧s9=.bool (flag i9 77 (s.data.toList.take k))∧s10=.bool (flag i10 82 (s.data.toList.take k))∧s11=.int .i64 k∧wb=wr)
   case atStart=>exact ⟨0,Nat.zero_le _,by omega,by rw [qW],by rw [qW],by rw [qW],by rw [qW],by rw [qW],by rw [qW],rfl,rfl⟩
   case round =>
    obtain ⟨k,hk,hg,rfl,rfl,rfl,rfl,rfl,rfl,rfl,rfl⟩:=hrel
    by_cases hks:k<s.size
    ·have HS:=iC.mk (And.intro (qZ i5 73 s k hks) (And.intro (qZ i6 65 s k hks) (And.intro (qZ i7 78 s k hks) (And.intro (qZ i8 70 s k hks) (And.intro (qZ i9 77 s k hks) (qZ i10 82 s k hks))))))
     clear HR
     have hsu:wrap64 ((k:Int)+1)=k+1:=by unfold wrap64;omega
     generalize flag i5 73 (s.data.toList.take k)=f5 at HS ⊢
     generalize flag i6 65 (s.data.toList.take k)=f6 at HS ⊢
     generalize flag i7 78 (s.data.toList.take k)=f7 at HS ⊢
     generalize flag i8 70 (s.data.toList.take k)=f8 at HS ⊢
     generalize flag i9 77 (s.data.toList.take k)=f9 at HS ⊢
     generalize flag i10 82 (s.data.toList.take k)=f10 at HS ⊢
     go_upto_region 10 with fail
     go_cut [5] (fun x wx=>x=.bool (f5 || (((s[k]'hks).toNat:Int) == 73))∧wb=wx)
     case first =>
      clear HS
      cases f5
      all_goals (go_wp2_with fail;go_meet;exact ⟨by simp,rfl⟩)
     case rest =>
     obtain ⟨rfl,rfl⟩:=hcut
     generalize (f5 || (((s[k]'hks).toNat:Int) == 73))=g5 at HS ⊢
     go_upto_region 11 with fail
     go_cut [6] (fun x wx=>x=.bool (f6 || (((s[k]'hks).toNat:Int) == 65))∧wb=wx)
     case first =>
      clear HS
      cases f6
      all_goals (go_wp2_with fail;go_meet;exact ⟨by simp,rfl⟩)
     case rest =>
     obtain ⟨rfl,rfl⟩:=hcut
     generalize (f6 || (((s[k]'hks).toNat:Int) == 65))=g6 at HS ⊢
     go_upto_region 12 with fail
     go_cut [7] (fun x wx=>x=.bool (f7 || (((s[k]'hks).toNat:Int) == 78))∧wb=wx)
     case first =>
      clear HS
      cases f7
      all_goals (go_wp2_with fail;go_meet;exact ⟨by simp,rfl⟩)
     case rest =>
     obtain ⟨rfl,rfl⟩:=hcut
     generalize (f7 || (((s[k]'hks).toNat:Int) == 78))=g7 at HS ⊢
     go_upto_region 13 with fail
     go_cut [8] (fun x wx=>x=.bool (f8 || (((s[k]'hks).toNat:Int) == 70))∧wb=wx)
     case first =>
      clear HS
      cases f8
      all_goals (go_wp2_with fail;go_meet;exact ⟨by simp,rfl⟩)
     case rest =>
     obtain ⟨rfl,rfl⟩:=hcut
     generalize (f8 || (((s[k]'hks).toNat:Int) == 70))=g8 at HS ⊢
     go_upto_region 14 with fail
     go_cut [9] (fun x wx=>x=.bool (f9 || (((s[k]'hks).toNat:Int) == 77))∧wb=wx)
     case first =>
      clear HS
      cases f9
      all_goals (go_wp2_with fail;go_meet;exact ⟨by simp,rfl⟩)
     case rest =>
     obtain ⟨rfl,rfl⟩:=hcut
     generalize (f9 || (((s[k]'hks).toNat:Int) == 77))=g9 at HS ⊢
     cases f10
     all_goals
      go_wp2_with fail
      go_roundg (s.size - (k+1))
      case measure=>omega
      case rel=>exact ⟨k+1,by omega,by omega,by rw [HS.out.1],by rw [HS.out.2.1],by rw [HS.out.2.2.1],by rw [HS.out.2.2.2.1],by rw [HS.out.2.2.2.2.1],by rw [HS.out.2.2.2.2.2];simp,by go_num,rfl⟩
    ·have:k=s.size:=by omega
     subst this
     have ht:s.data.toList.take s.size=s.data.toList:=List.take_of_length_le (Nat.le_refl _)
     rw [ht]
     clear ht
     generalize flag i5 73 s.data.toList=f5 at HR ⊢
     generalize flag i6 65 s.data.toList=f6 at HR ⊢
     generalize flag i7 78 s.data.toList=f7 at HR ⊢
     generalize flag i8 70 s.data.toList=f8 at HR ⊢
     generalize flag i9 77 s.data.toList=f9 at HR ⊢
     generalize flag i10 82 s.data.toList=f10 at HR ⊢
     go_wp2_with fail
     all_goals (go_ret;exact ⟨by rw [HR.out];simp [*],HW.out⟩)
def zJ (a1 a2:Int) (l3:List Int) (l4:List jQ) (a5:Int) (l6:List kC) (a7 a8:Int) (l9:List jJ) (s:List UInt8):Bool :=
 flag (a1 == 0) 73 s && flag (a2 == 0) 65 s && flag ((l3.length:Int) == 0) 78 s && flag ((l4.length:Int) == 0) 70 s && flag ((a5 == 0) && ((l6.length:Int) == 0)) 77 s && flag ((a7 == 0) && (a8 == 0) && ((l9.length:Int) == 0)) 82 s
def stratumref07_bare.f (a0_0:Int) (a0_1:Int) (a0_2:Int) (l0_3:List Int) (l0_4:List jQ) (a0_5:Int) (l0_6:List kC) (a0_7:Int) (a0_8:Int) (l0_9:List jJ) (a1:ByteArray):Option Bool :=
 if (a1.size:Int)≤9223372036854775807 then some (zJ a0_1 a0_2 l0_3 l0_4 a0_5 l0_6 a0_7 a0_8 l0_9 a1.data.toList) else none
theorem stratumref07_bare.calls (a0_0:Int) (a0_1:Int) (a0_2:Int) (A0_3:Option Addr) (c0_3:Nat) (l0_3:List Int) (A0_4:Option Addr) (c0_4:Nat) (l0_4:List jQ) (a0_5:Int) (A0_6:Option Addr) (c0_6:Nat) (l0_6:List kC) (a0_7:Int) (a0_8:Int) (A0_9:Option Addr) (c0_9:Nat) (l0_9:List jJ) (a1:ByteArray) (r:Bool) (w:World) (hr0_3:Kd.C (Kd.int .i64) w A0_3 l0_3.length l0_3) (hc0_3:l0_3.length≤c0_3) (hr0_4:Kd.C k149 w A0_4 l0_4.length l0_4) (hc0_4:l0_4.length≤c0_4) (hr0_6:Kd.C k122 w A0_6 l0_6.length l0_6) (hc0_6:l0_6.length≤c0_6) (hr0_9:Kd.C k114 w A0_9 l0_9.length l0_9) (hc0_9:l0_9.length≤c0_9) (h:stratumref07_bare.f a0_0 a0_1 a0_2 l0_3 l0_4 a0_5 l0_6 a0_7 a0_8 l0_9 a1=some r) :
  Calls Tryz.prog 101 #[.agg #[.int .u8 a0_0,.int .u32 a0_1,.int .u32 a0_2,.slice A0_3 l0_3.length c0_3,.slice A0_4 l0_4.length c0_4,.int .u32 a0_5,.slice A0_6 l0_6.length c0_6,.int .i64 a0_7,.int .i64 a0_8,.slice A0_9 l0_9.length c0_9],.string a1] w fun e w'=>e=.returned (.bool r)∧Below w.heap.size w w':=by
 unfold stratumref07_bare.f at h
 split at h
 case isFalse=>cases h
 rename_i hs
 exact j08 _ _ _ _ _ _ _ _ _ _ _ _ _ _ _ _ _ _ _ w r hs ⟨(Option.some.inj h).symm⟩
end
section
theorem uN {α:Type} (d:α) (l:List α) (i:Int) (h:i.toNat<l.length) (h0:0≤i):l.drop i.toNat=l.getD i.toNat d :: l.drop (i+1).toNat:=by
 rw [List.drop_eq_getElem_cons h,show (i+1).toNat=i.toNat+1 by omega]
 congr 1
 rw [List.getD_eq_getElem?_getD,List.getElem?_eq_getElem h]
 rfl
theorem drop_end {α:Type} (l:List α) (i:Int) (h:¬ i<(l.length:Int)):l.drop i.toNat=[]:=List.drop_of_length_le (by omega)
def J5 (l:List Int) (i:Int):Int:=if 0<i then rd l (i - 1) else -1
theorem Y2 (l:List Int) (hn:l.length≤9223372036854775807) (d:Nat):∀ i:Int,0≤i→i≤l.length→(l.length:Int) - i=d→-1≤J5 l i→Ev (fun k=>stratumref07_SoundNodes.l0 k l i) (nK (J5 l i) (l.drop i.toNat)):=by
 induction d with
 | zero =>
  intro i h0 h1 hd hp
  refine Ev.step (f:=fun _=>some true) (fun k=>by simp only [stratumref07_SoundNodes.l0];rw [if_neg (by omega)]) ?_
  rw [drop_end l i (by omega)]
  exact Ev.now _
 | succ d ih =>
  intro i h0 h1 hd hp
  have hlt:i<(l.length:Int):=by omega
  have hnext:J5 l (i+1)=rd l i:=by unfold J5;rw [if_pos (by omega),show i+1 - 1=i by omega]
  rw [uN 0 l i (by omega) h0,nK,show l.getD i.toNat 0=rd l i from rfl]
  by_cases c1:rd l i<0
  ·refine Ev.step (f:=fun _=>some false) (fun k=>by simp only [stratumref07_SoundNodes.l0];rw [if_pos hlt,if_pos h0,if_pos c1]) ?_
   rw [decide_eq_false (show ¬ J5 l i<rd l i by omega)]
   exact Ev.now _
  by_cases c2:rd l i > 5
  ·refine Ev.step (f:=fun _=>some false) (fun k=>by simp only [stratumref07_SoundNodes.l0];rw [if_pos hlt,if_pos h0,if_neg c1,if_pos c2]) ?_
   rw [decide_eq_false (show ¬ rd l i<6 by omega),Bool.and_false]
   exact Ev.now _
  rw [decide_eq_true (show rd l i<6 by omega),Bool.and_true]
  have hih:=ih (i+1) (by omega) (by omega) (by omega) (by rw [hnext];omega)
  rw [hnext] at hih
  have hw:=oK h0 hlt hn
  by_cases c3:0<i
  ·have hw2:wrap64 (i - 1)=i - 1:=by unfold wrap64;omega
   have hpi:J5 l i=rd l (i - 1):=by unfold J5;rw [if_pos c3]
   rw [hpi]
   by_cases c4:rd l i≤rd l (i - 1)
   ·refine Ev.step (f:=fun _=>some false) (fun k=>by simp only [stratumref07_SoundNodes.l0];rw [if_pos hlt,if_pos h0,if_neg c1,if_neg c2,if_pos c3,hw2,if_pos (by omega),if_pos (by omega),if_pos c4]) ?_
    rw [decide_eq_false (show ¬ rd l (i - 1)<rd l i by omega)]
    exact Ev.now _
   ·refine Ev.step (f:=fun k=>stratumref07_SoundNodes.l0 k l (i+1)) (fun k=>by simp only [stratumref07_SoundNodes.l0];rw [if_pos hlt,if_pos h0,if_neg c1,if_neg c2,if_pos c3,hw2,if_pos (by omega),if_pos (by omega),if_neg c4,hw]) ?_
    rw [decide_eq_true (show rd l (i - 1)<rd l i by omega),Bool.true_and]
    exact hih
  ·refine Ev.step (f:=fun k=>stratumref07_SoundNodes.l0 k l (i+1)) (fun k=>by simp only [stratumref07_SoundNodes.l0];rw [if_pos hlt,if_pos h0,if_neg c1,if_neg c2,if_neg c3,hw]) ?_
   have hpi:J5 l i = -1:=by unfold J5;rw [if_neg c3]
   rw [hpi,decide_eq_true (show (-1:Int)<rd l i by omega),Bool.true_and]
   exact hih
theorem LZ (l:List Int) (hn:l.length≤9223372036854775807):Ev (fun k=>stratumref07_SoundNodes.f k l) (nK (-1) l) :=
 Y2 l hn l.length 0 (by omega) (by omega) (by omega) (by unfold J5;rw [if_neg (by omega)];omega)
def okV (v:Int):Bool:=decide (0≤v) && decide (v≤9999)
theorem WT (f:jQ):pU f=(f.f0.all okV && decide ((f.f0.length:Int)≤4)):=by
 unfold pU
 rw [show decide (f.f0.length≤4)=decide ((f.f0.length:Int)≤4) from by rw [decide_eq_decide];omega,Bool.and_comm]
 rfl
theorem jf4 (l:List jQ) (i:Int) (h0:0≤i) (hlt:i<l.length) (hn:l.length≤9223372036854775807) (hk:(iR l i).f0.length≤9223372036854775807) (R:Bool) (hR:Ev (fun k=>stratumref07_SoundFacts.l0 k l (i+1)) R) (d:Nat):∀ j:Int,0≤j→j≤(iR l i).f0.length→((iR l i).f0.length:Int) - j=d →
  Ev (fun k=>stratumref07_SoundFacts.l1 k l i j) (((iR l i).f0.drop j.toNat).all okV && decide (((iR l i).f0.length:Int)≤4) && R):=by
 induction d with
 | zero =>
  intro j g0 g1 hd
  rw [drop_end _ j (by omega),List.all_nil,Bool.true_and]
  by_cases c1:((iR l i).f0.length:Int) > 4
  ·refine Ev.step (f:=fun _=>some false) (fun k=>by simp only [stratumref07_SoundFacts.l1];rw [if_pos h0,if_pos hlt,if_neg (by omega),if_pos c1]) ?_
   rw [decide_eq_false (by omega)]
   exact Ev.now _
  ·refine Ev.step (f:=fun k=>stratumref07_SoundFacts.l0 k l (i+1)) (fun k=>by simp only [stratumref07_SoundFacts.l1];rw [if_pos h0,if_pos hlt,if_neg (by omega),if_neg c1,oK h0 hlt hn]) ?_
   rw [decide_eq_true (by omega),Bool.true_and]
   exact hR
 | succ d ih =>
  intro j g0 g1 hd
  have hj:j<((iR l i).f0.length:Int):=by omega
  rw [uN 0 _ j (by omega) g0,List.all_cons,show (iR l i).f0.getD j.toNat 0=rd (iR l i).f0 j from rfl]
  by_cases c1:rd (iR l i).f0 j<0
  ·refine Ev.step (f:=fun _=>some false) (fun k=>by simp only [stratumref07_SoundFacts.l1];rw [if_pos h0,if_pos hlt,if_pos hj,if_pos g0,if_pos c1]) ?_
   unfold okV
   rw [decide_eq_false (by omega)]
   exact Ev.now _
  by_cases c2:rd (iR l i).f0 j > 9999
  ·refine Ev.step (f:=fun _=>some false) (fun k=>by simp only [stratumref07_SoundFacts.l1];rw [if_pos h0,if_pos hlt,if_pos hj,if_pos g0,if_neg c1,if_pos c2]) ?_
   unfold okV
   rw [decide_eq_false (show ¬ rd (iR l i).f0 j≤9999 by omega),Bool.and_false]
   exact Ev.now _
  refine Ev.step (f:=fun k=>stratumref07_SoundFacts.l1 k l i (j+1)) (fun k=>by simp only [stratumref07_SoundFacts.l1];rw [if_pos h0,if_pos hlt,if_pos hj,if_pos g0,if_neg c1,if_neg c2,oK g0 hj hk]) ?_
  rw [show okV (rd (iR l i).f0 j)=true from by unfold okV;simp;omega,Bool.true_and]
  exact ih (j+1) (by omega) (by omega) (by omega)
theorem YW (l:List jQ) (hn:l.length≤9223372036854775807) (hk:∀ f∈l,f.f0.length≤9223372036854775807) (d:Nat):∀ i:Int,0≤i→i≤l.length→(l.length:Int) - i=d →
  Ev (fun k=>stratumref07_SoundFacts.l0 k l i) ((l.drop i.toNat).all pU && decide ((l.length:Int)≤200)):=by
 induction d with
 | zero =>
  intro i h0 h1 hd
  rw [drop_end _ i (by omega),List.all_nil,Bool.true_and]
  exact Ev.step (f:=fun _=>some (decide ((l.length:Int)≤200))) (fun k=>by simp only [stratumref07_SoundFacts.l0];rw [if_neg (by omega)]) (Ev.now _)
 | succ d ih =>
  intro i h0 h1 hd
  have hlt:i<(l.length:Int):=by omega
  refine Ev.step (f:=fun k=>stratumref07_SoundFacts.l1 k l i 0) (fun k=>by simp only [stratumref07_SoundFacts.l0];rw [if_pos hlt]) ?_
  have hm:iR l i∈l:=by
   unfold iR
   rw [List.getD_eq_getElem?_getD,List.getElem?_eq_getElem (show i.toNat<l.length by omega)]
   exact List.getElem_mem _
  have:=jf4 l i h0 hlt hn (hk _ hm) _ (ih (i+1) (by omega) (by omega) (by omega)) (iR l i).f0.length 0 (by omega) (by omega) (by omega)
  rw [uN z149 l i (by omega) h0,List.all_cons,show l.getD i.toNat z149=iR l i from rfl,WT]
  rw [Bool.and_assoc]
  exact this
theorem UN (l:List jQ):mO l=(l.all pU && decide ((l.length:Int)≤200)):=by
 unfold mO
 rw [show decide (l.length≤200)=decide ((l.length:Int)≤200) from by rw [decide_eq_decide];omega,Bool.and_comm]
theorem xP (l:List jQ) (hn:l.length≤9223372036854775807) (hk:∀ f∈l,f.f0.length≤9223372036854775807):Ev (fun k=>stratumref07_SoundFacts.f k l) (mO l):=by
 rw [UN]
 exact YW l hn hk l.length 0 (by omega) (by omega) (by omega)
theorem XY (l:List kC) (hn:l.length≤9223372036854775807) (d:Nat):∀ i:Int,0≤i→i≤l.length→(l.length:Int) - i=d →
  Ev (fun k=>stratumref07_spans.l0 k l i) ((l.drop i.toNat).all mZ && decide ((l.length:Int)≤40)):=by
 induction d with
 | zero =>
  intro i h0 h1 hd
  rw [drop_end _ i (by omega),List.all_nil,Bool.true_and]
  exact Ev.step (f:=fun _=>some (decide ((l.length:Int)≤40))) (fun k=>by simp only [stratumref07_spans.l0];rw [if_neg (by omega)]) (Ev.now _)
 | succ d ih =>
  intro i h0 h1 hd
  have hlt:i<(l.length:Int):=by omega
  rw [uN z122 l i (by omega) h0,List.all_cons,show l.getD i.toNat z122=jO l i from rfl]
  by_cases c1:(jO l i).f0<0
  ·refine Ev.step (f:=fun _=>some false) (fun k=>by simp only [stratumref07_spans.l0];rw [if_pos hlt,if_pos h0,if_pos c1]) ?_
   rw [show mZ (jO l i)=false from by unfold mZ;simp;omega]
   exact Ev.now _
  by_cases c2:(jO l i).f0 > 9999
  ·refine Ev.step (f:=fun _=>some false) (fun k=>by simp only [stratumref07_spans.l0];rw [if_pos hlt,if_pos h0,if_neg c1,if_pos c2]) ?_
   rw [show mZ (jO l i)=false from by unfold mZ;simp;omega]
   exact Ev.now _
  by_cases c3:(jO l i).f1<0
  ·refine Ev.step (f:=fun _=>some false) (fun k=>by simp only [stratumref07_spans.l0];rw [if_pos hlt,if_pos h0,if_neg c1,if_neg c2,if_pos c3]) ?_
   rw [show mZ (jO l i)=false from by unfold mZ;simp;omega]
   exact Ev.now _
  by_cases c4:(jO l i).f1 > 5
  ·refine Ev.step (f:=fun _=>some false) (fun k=>by simp only [stratumref07_spans.l0];rw [if_pos hlt,if_pos h0,if_neg c1,if_neg c2,if_neg c3,if_pos c4]) ?_
   rw [show mZ (jO l i)=false from by unfold mZ;simp;omega]
   exact Ev.now _
  refine Ev.step (f:=fun k=>stratumref07_spans.l0 k l (i+1)) (fun k=>by simp only [stratumref07_spans.l0];rw [if_pos hlt,if_pos h0,if_neg c1,if_neg c2,if_neg c3,if_neg c4,oK h0 hlt hn]) ?_
  rw [show mZ (jO l i)=true from by unfold mZ;simp;omega,Bool.true_and]
  exact ih (i+1) (by omega) (by omega) (by omega)
theorem VX (l:List kC) (hn:l.length≤9223372036854775807):Ev (fun k=>stratumref07_spans.f k l) (l.all mZ && decide ((l.length:Int)≤40)):=XY l hn l.length 0 (by omega) (by omega) (by omega)
theorem Q7 (l:List jJ) (hn:l.length≤9223372036854775807) (hk:∀ e∈l,e.f1.length≤9223372036854775807∧∀ f∈e.f1,f.f0.length≤9223372036854775807) (d:Nat):∀ i:Int,0≤i→i≤l.length→(l.length:Int) - i=d →
  Ev (fun k=>stratumref07_SoundEntries.l0 k l i) (pR (vK l i) (l.drop i.toNat) && decide ((l.length:Int)≤5000)):=by
 induction d with
 | zero =>
  intro i h0 h1 hd
  rw [drop_end _ i (by omega),pR,Bool.true_and]
  exact Ev.step (f:=fun _=>some (decide ((l.length:Int)≤5000))) (fun k=>by simp only [stratumref07_SoundEntries.l0];rw [if_neg (by omega)]) (Ev.now _)
 | succ d ih =>
  intro i h0 h1 hd
  have hlt:i<(l.length:Int):=by omega
  have hm:iK l i∈l:=by
   unfold iK
   rw [List.getD_eq_getElem?_getD,List.getElem?_eq_getElem (show i.toNat<l.length by omega)]
   exact List.getElem_mem _
  have hnext:vK l (i+1)=some (iK l i).f0:=by unfold vK;rw [if_pos (by omega),show i+1 - 1=i by omega]
  have hih:=ih (i+1) (by omega) (by omega) (by omega)
  rw [hnext] at hih
  have hw:=oK h0 hlt hn
  rw [uN z114 l i (by omega) h0,show l.getD i.toNat z114=iK l i from rfl,xK]
  refine Ev.step (f:=fun k=>(stratumref07_SoundFacts.f k (iK l i).f1).bind _) (fun k=>by simp only [stratumref07_SoundEntries.l0];rw [if_pos hlt,if_pos h0]) ?_
  refine Ev.bind (xP _ (hk _ hm).1 (hk _ hm).2) ?_
  cases mO (iK l i).f1 with
  | false=>exact Ev.now _
  | true =>
   simp only [if_true,Bool.true_and]
   rw [hw]
   by_cases c3:i > 0
   ·have hw2:wrap64 (i - 1)=i - 1:=by unfold wrap64;omega
    unfold vK gapB
    rw [if_pos (show 0<i from c3)]
    simp only
    by_cases c4:(iK l i).f0≤(iK l (i - 1)).f0
    ·refine Ev.congr (f:=fun _=>some false) (fun k=>by rw [if_pos c3,hw2,if_pos (show 0≤i - 1 by omega),if_pos (show i - 1<(l.length:Int) by omega),if_pos c4]) ?_
     rw [decide_eq_false (show ¬ (iK l (i - 1)).f0<(iK l i).f0 by omega)]
     exact Ev.now _
    ·refine Ev.congr (f:=fun k=>stratumref07_SoundEntries.l0 k l (i+1)) (fun k=>by rw [if_pos c3,hw2,if_pos (show 0≤i - 1 by omega),if_pos (show i - 1<(l.length:Int) by omega),if_neg c4]) ?_
     rw [decide_eq_true (show (iK l (i - 1)).f0<(iK l i).f0 by omega),Bool.true_and]
     exact hih
   ·refine Ev.congr (f:=fun k=>stratumref07_SoundEntries.l0 k l (i+1)) (fun k=>by rw [if_neg c3]) ?_
    unfold vK gapB
    rw [if_neg (show ¬ 0<i from c3)]
    simp only [Bool.true_and]
    exact hih
theorem zY (l:List jJ) (hn:l.length≤9223372036854775807) (hk:∀ e∈l,e.f1.length≤9223372036854775807∧∀ f∈e.f1,f.f0.length≤9223372036854775807):Ev (fun k=>stratumref07_SoundEntries.f k l) (oN l && decide ((l.length:Int)≤5000)) :=
 Q7 l hn hk l.length 0 (by omega) (by omega) (by omega)
structure jd9 (l3:List Int) (l4:List jQ) (l6:List kC) (l9:List jJ):Prop where
 n3:l3.length≤9223372036854775807
 n4:l4.length≤9223372036854775807
 f4:∀ f∈l4,f.f0.length≤9223372036854775807
 n6:l6.length≤9223372036854775807
 n9:l9.length≤9223372036854775807
 f9:∀ e∈l9,e.f1.length≤9223372036854775807∧∀ f∈e.f1,f.f0.length≤9223372036854775807
theorem uK (a0 a1 a2:Int) (l3:List Int) (l4:List jQ) (a5:Int) (l6:List kC) (a7 a8:Int) (l9:List jJ) (s:List UInt8) (hs:s.length<100):stratumref07_bare.f a0 a1 a2 l3 l4 a5 l6 a7 a8 l9 (⟨s.toArray⟩:ByteArray)=some (zJ a1 a2 l3 l4 a5 l6 a7 a8 l9 s):=by
 unfold stratumref07_bare.f
 rw [if_pos (show (((⟨s.toArray⟩:ByteArray).size:Nat):Int)≤9223372036854775807 from by show ((s.toArray.size:Nat):Int)≤_;simp;omega)]
theorem lenb {α:Type} (l:List α):((l.length:Int) == 0)=l.isEmpty:=by
 cases l with
 | nil=>rfl
 | cons x l=>simp;omega
end
end Go.Proofs.YtgfkgppomaapiaaGreatDoor.K
namespace Go.Proofs
open Go.Shelf
section
def Tryz.laysM181_ren:Go.Shelf.Ren:=⟨fun | 181=>26 | n=>n,fun | 130=>97 | 3=>3 | 0=>0 | 93=>65 | 37=>22 | 91=>63 | 5=>5 | n=>n,fun | n=>n⟩
theorem Tryz.laysM181:Go.Proofs.LaysM.n181 Tryz.prog Tryz.laysM181_ren:={
 mixed:=by kernel_rfl
 f181:=Tryz.func26.trans (congrArg some (by kernel_rfl))
 t0:=Tryz.underlying0
 a0:=Tryz.isAgg0
 z0:=Tryz.sizeOf0
 v0:=Tryz.zeroValue0
 t3:=Tryz.underlying3
 a3:=Tryz.isAgg3
 z3:=Tryz.sizeOf3
 v3:=Tryz.zeroValue3
 t37:=Tryz.underlying22
 a37:=Tryz.isAgg22
 z37:=Tryz.sizeOf22
 v37:=Tryz.zeroValue22
 t93:=Tryz.underlying65
 a93:=Tryz.isAgg65
 z93:=Tryz.sizeOf65
 v93:=Tryz.zeroValue65
 t130:=Tryz.underlying97
 a130:=Tryz.isAgg97
 z130:=Tryz.sizeOf97
 v130:=Tryz.zeroValue97
 t5:=Tryz.underlying5
 a5:=Tryz.isAgg5
 z5:=Tryz.sizeOf5
 v5:=Tryz.zeroValue5
 t91:=Tryz.underlying63
 a91:=Tryz.isAgg63
 z91:=Tryz.sizeOf63
 v91:=Tryz.zeroValue63
 i0:=by kernel_rfl
 i3:=by kernel_rfl
 i5:=by kernel_rfl
 i37:=by kernel_rfl
 i91:=by kernel_rfl
 i93:=by kernel_rfl
 i130:=by kernel_rfl }
open Go.RowKit in
theorem Tryz.Buffer_Len (B b:Nat) (bs:List Value) (w:World) (h:Lib.IsBuffer 65 5 B b bs w) :
  Calls Tryz.prog 26 #[.pointer (some ⟨b,0,none⟩)] w fun e w'=>e=.returned (.int .i64 bs.length)∧∃ n,w'=w.drewN n:=Any.Buffer_Len Tryz.laysM181 B b bs w h
def Tryz.laysM183_ren:Go.Shelf.Ren:=⟨fun | 183=>39 | n=>n,fun | 130=>97 | 37=>22 | 0=>0 | 93=>65 | 3=>3 | 5=>5 | 91=>63 | n=>n,fun | n=>n⟩
theorem Tryz.laysM183:Go.Proofs.LaysM.n183 Tryz.prog Tryz.laysM183_ren:={
 mixed:=by kernel_rfl
 f183:=Tryz.func39.trans (congrArg some (by kernel_rfl))
 t0:=Tryz.underlying0
 a0:=Tryz.isAgg0
 z0:=Tryz.sizeOf0
 v0:=Tryz.zeroValue0
 t3:=Tryz.underlying3
 a3:=Tryz.isAgg3
 z3:=Tryz.sizeOf3
 v3:=Tryz.zeroValue3
 t37:=Tryz.underlying22
 a37:=Tryz.isAgg22
 z37:=Tryz.sizeOf22
 v37:=Tryz.zeroValue22
 t93:=Tryz.underlying65
 a93:=Tryz.isAgg65
 z93:=Tryz.sizeOf65
 v93:=Tryz.zeroValue65
 t130:=Tryz.underlying97
 a130:=Tryz.isAgg97
 z130:=Tryz.sizeOf97
 v130:=Tryz.zeroValue97
 t5:=Tryz.underlying5
 a5:=Tryz.isAgg5
 z5:=Tryz.sizeOf5
 v5:=Tryz.zeroValue5
 t91:=Tryz.underlying63
 a91:=Tryz.isAgg63
 z91:=Tryz.sizeOf63
 v91:=Tryz.zeroValue63
 i0:=by kernel_rfl
 i3:=by kernel_rfl
 i5:=by kernel_rfl
 i37:=by kernel_rfl
 i91:=by kernel_rfl
 i93:=by kernel_rfl
 i130:=by kernel_rfl }
open Go.RowKit in
theorem Tryz.Buffer_Bytes (B b:Nat) (bs:List Value) (w:World) (h:Lib.IsBuffer 65 5 B b bs w) :
  Calls Tryz.prog 39 #[.pointer (some ⟨b,0,none⟩)] w fun e w'=>∃ v,e=.returned v∧w'.ownsRow B 5 1 v bs.length bs∧∃ n,w'=w.drewN n:=Any.Buffer_Bytes Tryz.laysM183 B b bs w h
def Tryz.laysM179_ren:Go.Shelf.Ren:=⟨fun | 179=>96 | 251=>47 | 252=>48 | 181=>26 | 184=>79 | 290=>80 | 324=>106 | n=>n,fun | 130=>97 | 5=>5 | 75=>71 | 0=>0 | 93=>65 | 91=>63 | 3=>3 | 131=>98 | 4=>4 | 37=>22 | 20=>20 | 80=>179 | 9=>9 | n=>n,fun | 14=>0 | n=>n⟩
theorem Tryz.laysM179:Go.Proofs.LaysM.n179 Tryz.prog Tryz.laysM179_ren:={
 mixed:=by kernel_rfl
 f179:=Tryz.func96.trans (congrArg some (by kernel_rfl))
 f181:=Tryz.func26.trans (congrArg some (by kernel_rfl))
 f184:=Tryz.func79.trans (congrArg some (by kernel_rfl))
 f251:=Tryz.func47.trans (congrArg some (by kernel_rfl))
 f252:=Tryz.func48.trans (congrArg some (by kernel_rfl))
 f290:=Tryz.func80.trans (congrArg some (by kernel_rfl))
 f324:=Tryz.func106.trans (congrArg some (by kernel_rfl))
 t0:=Tryz.underlying0
 a0:=Tryz.isAgg0
 z0:=Tryz.sizeOf0
 v0:=Tryz.zeroValue0
 t3:=Tryz.underlying3
 a3:=Tryz.isAgg3
 z3:=Tryz.sizeOf3
 v3:=Tryz.zeroValue3
 t4:=Tryz.underlying4
 a4:=Tryz.isAgg4
 z4:=Tryz.sizeOf4
 v4:=Tryz.zeroValue4
 t5:=Tryz.underlying5
 a5:=Tryz.isAgg5
 z5:=Tryz.sizeOf5
 v5:=Tryz.zeroValue5
 t20:=Tryz.underlying20
 a20:=Tryz.isAgg20
 z20:=Tryz.sizeOf20
 v20:=Tryz.zeroValue20
 t37:=Tryz.underlying22
 a37:=Tryz.isAgg22
 z37:=Tryz.sizeOf22
 v37:=Tryz.zeroValue22
 t75:=Tryz.underlying71
 a75:=Tryz.isAgg71
 z75:=Tryz.sizeOf71
 v75:=Tryz.zeroValue71
 t91:=Tryz.underlying63
 a91:=Tryz.isAgg63
 z91:=Tryz.sizeOf63
 v91:=Tryz.zeroValue63
 t93:=Tryz.underlying65
 a93:=Tryz.isAgg65
 z93:=Tryz.sizeOf65
 v93:=Tryz.zeroValue65
 t130:=Tryz.underlying97
 a130:=Tryz.isAgg97
 z130:=Tryz.sizeOf97
 v130:=Tryz.zeroValue97
 t131:=Tryz.underlying98
 a131:=Tryz.isAgg98
 z131:=Tryz.sizeOf98
 v131:=Tryz.zeroValue98
 g14:=by kernel_rfl
 t9:=Tryz.underlying9
 a9:=Tryz.isAgg9
 z9:=Tryz.sizeOf9
 v9:=Tryz.zeroValue9
 t80:=Tryz.underlying179
 a80:=Tryz.isAgg179
 z80:=Tryz.sizeOf179
 v80:=Tryz.zeroValue179
 i0:=by kernel_rfl
 i3:=by kernel_rfl
 i4:=by kernel_rfl
 i5:=by kernel_rfl
 i9:=by kernel_rfl
 i20:=by kernel_rfl
 i37:=by kernel_rfl
 i75:=by kernel_rfl
 i80:=by kernel_rfl
 i91:=by kernel_rfl
 i93:=by kernel_rfl
 i130:=by kernel_rfl
 i131:=by kernel_rfl
 m14:=by kernel_rfl }
open Go.RowKit in
theorem Tryz.Buffer_WriteByte_kept (B b:Nat) (bs:List Value) (c:Int) (w:World) (h:Lib.IsBuffer 65 5 B b bs w) (hBw:B≤w.heap.size) (h1:∀ v∈bs,v.oneCell'=true) (hlim:bs.length+1≤140737488355328) :
  Calls Tryz.prog 96 #[.pointer (some ⟨b,0,none⟩),.int .u8 c] w fun e w'=>e=.returned .nilIface∧Lib.IsBuffer 65 5 B b (bs ++ [.int .u8 c]) w'∧Below B w w'∧Lib.OthersKept 5 (some b) w w':=Any.Buffer_WriteByte_kept Tryz.laysM179 B b bs c w h hBw h1 hlim
end
end Go.Proofs
