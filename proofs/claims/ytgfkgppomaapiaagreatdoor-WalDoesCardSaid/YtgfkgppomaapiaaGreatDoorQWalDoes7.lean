/- Parts of the proof, one behind the other: Each, Scan, IntsK, WalA, DiskM0, WalB, DiskM, SumM, FrameR, FrameS, RefG, RefH, RefK, RefL, RefM, RefN2, RefO0. -/
import Derived.Test.YtgfkgppomaapiaaGreatDoorQWalDoes6
set_option linter.unusedVariables false
set_option linter.unusedSimpArgs false
namespace Go.Proofs.YtgfkgppomaapiaaGreatDoor.My
open Go Go.RowKit Go.Proofs.YtgfkgppomaapiaaGreatDoorW.PrintWords Go.Proofs.YtgfkgppomaapiaaGreatDoorW.PrintMore Go.Proofs.YtgfkgppomaapiaaGreatDoorW.PrintLast
section
attribute [local go_sem] Oper.semAt_some
def imin (x y:Int):Int:=if y<x then y else x
theorem jk0 {n x y:Int} (h1:n≤x) (h2:n≤y):n≤imin x y:=by unfold imin;split <;> assumption
theorem Y5 {n x y:Int} (h:x<n∨y<n):imin x y<n:=by unfold imin;split <;> omega
theorem jm_ (k k':IntKind) (x y:Int):Builtin.min2 (.int k x) (.int k' y)=pure (.int k (imin x y)):=kH k k' x y
attribute [local go_sem] jm_ lC
abbrev Fr:=Nat × Value × List UInt8
def frs (xs:List Fr):List (List UInt8):=xs.map fun x=>x.2.2
def yE (xs:List Fr):Nat:=(xs.getLast?.map fun x=>x.1).getD 0
theorem MO (xs:List Fr) (x:Fr):frs (xs ++ [x])=frs xs ++ [x.2.2]:=by simp [frs]
theorem JP (xs:List Fr) (x:Fr):yE (xs ++ [x])=x.1:=by simp [yE]
theorem jm4 (xs:List Fr):xs.length≤endB (frs xs):=by
 induction xs with
 | nil=>simp
 | cons x xs ih =>
  rw [show frs (x :: xs)=x.2.2 :: frs xs from rfl,uG,List.length_cons]
  omega
def encF (x:Fr):Array Value:=#[.int .i64 (x.1:Int),x.2.1]
def KpF (n0 B:Nat) (W W':World):Prop:=Below n0 W W'∧W'.heap[B]? = W.heap[B]?
def GF (n0:Nat) (x:Fr) (W:World):Prop:=OB W n0 x.2.1 x.2.2
theorem jn5 (x0 x1 x2:UInt8):bits .or .i64 (bits .or .i64 ((x0.toNat:Int) * 65536) ((x1.toNat:Int) * 256)) (x2.toNat:Int)=(x0.toNat:Int) * 65536+(x1.toNat:Int) * 256+(x2.toNat:Int):=by
 have b0:=x0.toNat_lt
 have b1:=x1.toNat_lt
 have b2:=x2.toNat_lt
 have hw:∀ n:Int,0≤n→n<2 ^ 24→IntKind.i64.wrap n=n:=fun n h1 h2=>by rw [iO];unfold Go.RowKit.wrap64;omega
 have h1:bits .or .i64 ((x0.toNat:Int) * 65536) ((x1.toNat:Int) * 256)=(x0.toNat:Int) * 65536+(x1.toNat:Int) * 256:=bits_join .i64 24 (by decide) hw 16 _ _ (by omega) (by omega) (by omega) (by omega) (by omega) (by omega)
 rw [h1]
 exact bits_join .i64 24 (by decide) hw 8 _ _ (by omega) (by omega) (by omega) (by omega) (by omega) (by omega)
def RSl (l:List UInt8):Value→World→Prop:=fun v w=>∃ A c,v=.slice A l.length c∧l.length≤c∧kb.C w A l.length l
theorem Rm_sl (l:List UInt8):Rm (RSl l):=fun _ _ _ ⟨A,c,h1,h2,h3⟩ hb=>⟨A,c,h1,h2,Kd.C_below h3 hb⟩
theorem jl0 (A:Option Addr) (n c hi:Nat) (hiI:Int) (e1:hiI=hi) (h1:hi≤n) (hc:n≤c) :
  ∀ W:World,(Instr.slice 22 (.slice A n c) none (some (.int .i64 hiI)) (some (.int .i64 hiI))).run Tryz.prog W=.ok (.slice A hi hi) W:=by
 subst e1
 intro W
 obtain ⟨i,hi0,hsz⟩:=Option.map_eq_some_iff.1 vC
 have hel:Tryz.prog.elem 22=5:=by simp [Program.elem,Tryz.underlying22]
 have hu:Tryz.prog.underlying 22=some (.slice (Tryz.prog.elem 22)):=by rw [hel];exact Tryz.underlying22
 rw [run_slice_hm W 22 A n c hu .i64 .i64 (hi:Int) (hi:Int) (Int.natCast_nonneg _) (Int.le_refl _) (by omega),hel]
 simp [sizeOf,typeInfo,hi0,hsz,sliced,Result.andThen]
 intro _
 cases A with
 | none=>rfl
 | some a=>simp [Addr.add]
theorem VA (b:List UInt8) (h7:7≤b.length) (h1:num3 b≤60000) (h2:num3 b≤b.length - 7) :
  lK b=if (qL (b.take (3+num3 b)) == (b.take (3+num3 b+4)).drop (3+num3 b))=true then some ((b.take (3+num3 b)).drop 3) else none:=by
 unfold lK
 rw [if_neg (by omega),if_neg (by omega)]
 have e1:(b.take (3+num3 b+4)).drop (3+num3 b)=(b.drop (3+num3 b)).take 4:=by rw [List.drop_take];congr 1;omega
 have e2:(b.take (3+num3 b)).drop 3=(b.drop 3).take (num3 b):=by rw [List.drop_take];congr 1;omega
 rw [e1,e2]
 simp only [beq_iff_eq]
set_option maxRecDepth 20000 in
set_option maxHeartbeats 2000000 in
theorem V9 (n B e:Nat) (fz:Nat × Nat) (A:Option Addr) (c:Nat) (l:List UInt8) (wS w0:World) (hr:kb.C wS A l.length l) (hc:l.length≤c) (hs:(l.length:Int)≤1000000) (hwS:Below wS.heap.size wS w0)
  (hB:w0.heap[B]? = some (.cells #[.slice A l.length c] e fz)) :
  je4 Fence.wide n Tryz.prog 107 #[.pointer (some ⟨B,0,none⟩)] encF (KpF wS.heap.size B) (GF w0.heap.size) (fun xs=>frs xs=kX l∧yE xs=endB (kX l)) (l.length+1) w0:=by
 intro lp J W hW hJb hY h0
 have HL:=iC.mk hr
 clear hr
 have hBW:=iI hW hB
 refine callsIn_of_wp Tryz.func107 rfl trivial ?_ rfl
 simp only [Tryz.ntmps107,List.size_toArray,List.length_cons,List.length_nil,Nat.reduceAdd,Nat.reduceSub,Array.replicate_succ,Array.replicate_zero,List.push_toArray,List.append_toArray,List.nil_append,List.cons_append]
 gi_wp2
 gi_loopw [3] (fun p wr=>∃ (k:Nat) (xs:List Fr),p=.int .i64 (k:Int)∧k≤l.length∧iC (kX l=frs xs ++ kX (l.drop k))∧iC (endB (frs xs)=k)∧iC (yE xs=k)∧iC (J xs wr)∧iC (Below wS.heap.size wS wr)∧w0.heap.size≤wr.heap.size∧wr.heap[B]? = some (.cells #[.slice A l.length c] e fz)) (fun p _=>l.length - (intOf p).toNat)
 case atStart=>exact ⟨0,[],rfl,Nat.zero_le _,⟨rfl⟩,⟨rfl⟩,⟨rfl⟩,⟨h0⟩,⟨hwS.trans (hW.mono hwS.size)⟩,hW.size,hBW⟩
 case round =>
  obtain ⟨k,xs,rfl,hk,HS,HE,HK,HJ,HB,hszr,hBr⟩:=hrel
  have hcell:wr.cell? ⟨B,0,none⟩=some (.slice A l.length c):=by simp [World.cell?,hBr]
  have hk1:(k:Int)≤(l.length:Int):=by omega
  obtain ⟨A',hrun,hC⟩:=jc6 (Kd.C_below HL.out HB.out) hc k (k:Int) rfl hk
  obtain ⟨l',hl'⟩:∃ z,z=l.drop k:=⟨_,rfl⟩
  have hll:l'.length=l.length - k:=by rw [hl',List.length_drop]
  have hlI:(l'.length:Int)=(l.length:Int) - (k:Int):=by omega
  rw [← hl'] at hC
  rw [← hll] at hrun hC
  have HLI:=iC.mk hlI
  have HLL:=iC.mk hll
  have HL':=iC.mk hl'
  clear hl' hll hlI
  rw [← HL'.out] at HS
  have hcc:l'.length≤c - k:=by have:=HLL.out;omega
  by_cases h7:(7:Int)≤(l.length:Int) - (k:Int)
  ·have h7':(7:Int)≤(l'.length:Int):=by have:=HLI.out;omega
   obtain ⟨ad,hA,hx0⟩:=C_at hC 0 (by omega)
   obtain ⟨ad',hA',hx1⟩:=C_at hC 1 (by omega)
   obtain ⟨ad'',hA'',hx2⟩:=C_at hC 2 (by omega)
   subst hA
   obtain rfl:ad=ad':=by injection hA'
   obtain rfl:ad=ad'':=by injection hA''
   clear hA' hA''
   obtain ⟨x0,e0⟩:∃ x,x=l'.getD 0 0:=⟨_,rfl⟩
   obtain ⟨x1,e1⟩:∃ x,x=l'.getD 1 0:=⟨_,rfl⟩
   obtain ⟨x2,e2⟩:∃ x,x=l'.getD 2 0:=⟨_,rfl⟩
   rw [← e0] at hx0
   rw [← e1] at hx1
   rw [← e2] at hx2
   have HN:=iC.mk (TZ l' x0 x1 x2 e0 e1 e2)
   have HSH:=iC.mk (jn5 x0 x1 x2)
   have b0:=x0.toNat_lt
   have b1:=x1.toNat_lt
   have b2:=x2.toNat_lt
   clear e0 e1 e2
   have HC:=iC.mk hC
   clear hC
   have hm':(l'.length:Int)≤1000000:=by have:=HLI.out;omega
   have hne:¬ (l'=[]):=fun h=>by subst h;simp at h7'
   have hi0:(0:Int)<(l'.length:Int):=by omega
   have hi1:(1:Int)<(l'.length:Int):=by omega
   have hi2:(2:Int)<(l'.length:Int):=by omega
   have hs0:(x0.toNat:Int) * 65536≤16711680:=by omega
   have hs1:(x1.toNat:Int) * 256≤65280:=by omega
   gi_wp2
   refine wpIn_wide.2 ?_
   refine vT [15,16,17,18,19,20,21,22,23,24,25,26,27,28,29,30,5] [fun v _=>v=(.slice (some ad) l'.length (c - k)),fun v _=>v=(.pointer (some (ad.add 0))),fun v _=>v=(.int .u8 (x0.toNat:Int)),fun v _=>v=(.int .i64 (x0.toNat:Int)),fun v _=>v=(.int .i64 ((x0.toNat:Int) * 65536)),fun v _=>v=(.slice (some ad) l'.length (c - k)),fun v _=>v=(.pointer (some (ad.add 1))),fun v _=>v=(.int .u8 (x1.toNat:Int)),fun v _=>v=(.int .i64 (x1.toNat:Int)),fun v _=>v=(.int .i64 ((x1.toNat:Int) * 256)),fun v _=>v=(.int .i64 (bits .or .i64 ((x0.toNat:Int) * 65536) ((x1.toNat:Int) * 256))),fun v _=>v=(.slice (some ad) l'.length (c - k)),fun v _=>v=(.pointer (some (ad.add 2))),fun v _=>v=(.int .u8 (x2.toNat:Int)),fun v _=>v=(.int .i64 (x2.toNat:Int)),fun v _=>v=(.int .i64 (bits .or .i64 (bits .or .i64 ((x0.toNat:Int) * 65536) ((x1.toNat:Int) * 256)) (x2.toNat:Int))),fun v _=>v=(.int .i64 (bits .or .i64 (bits .or .i64 ((x0.toNat:Int) * 65536) ((x1.toNat:Int) * 256)) (x2.toNat:Int)))] [0,1,2,3,4,5,6,7,8,9,10,11,12,13,14,15,16] (true,[([],[]),([0],[0]),([1],[1]),([2],[2]),([3],[3]),([],[]),([5],[5]),([6],[6]),([7],[7]),([8],[8]),([4,9],[4,9]),([],[]),([11],[11]),([12],[12]),([13],[13]),([10,14],[10,14]),([15,0,1,2,3,4,5,6,7,8,9,10,11,12,13,14,15],[15])]) [0,1,3,7,15,0,32,96,224,480,1023,0,2048,6144,14336,32767,65535] (by kernel_rfl) (by kernel_rfl) (by kernel_rfl) (by kernel_rfl) (by kernel_rfl) (by kernel_rfl) (by kernel_rfl) (by rfl) (by kernel_rfl) ?_ ?_ ?_
   ·exact (iU (jS _) (iU (jS _) (iU (jS _) (iU (jS _) (iU (jS _) (iU (jS _) (iU (jS _) (iU (jS _) (iU (jS _) (iU (jS _) (iU (jS _) (iU (jS _) (iU (jS _) (iU (jS _) (iU (jS _) (iU (jS _) (iU (jS _) vS)))))))))))))))))
   ·refine iJ ?_ ?_
    ·intro a w' vs hB hel hd
     have e4:a.tmps[4]? = some (.slice (some ad) l'.length (c - k)):=(hel 4 (by kernel_rfl)).trans (by rfl)
     refine ⟨_,rfl,rfl,fun K hK=>?_⟩
     refine jC (w1:=w') (v:=.slice (some ad) l'.length (c - k)) (by rfl) rfl ?_ (hK _ _ (by exact rfl) (Below.refl _ _))
     ·go_simp
      (try simp only [iO,iY])
      (try rfl)
      (try (unfold Go.RowKit.wrap64;omega))
    refine iJ ?_ ?_
    ·intro a w' vs hB hel hd
     obtain ⟨f15,r15⟩:=hd 0 (by kernel_rfl)
     have e15:a.tmps[15]? = some (.slice (some ad) l'.length (c - k)):=f15.trans (congrArg some (r15:vs 0=(.slice (some ad) l'.length (c - k))))
     refine ⟨_,rfl,rfl,fun K hK=>?_⟩
     refine jC (w1:=w') (v:=.pointer (some (ad.add 0))) (by rfl) rfl ?_ (hK _ _ (by exact rfl) (Below.refl _ _))
     ·go_simp
      (try simp only [iO,iY])
      (try rfl)
      (try (unfold Go.RowKit.wrap64;omega))
    refine iJ ?_ ?_
    ·intro a w' vs hB hel hd
     obtain ⟨f16,r16⟩:=hd 1 (by kernel_rfl)
     have e16:a.tmps[16]? = some (.pointer (some (ad.add 0))):=f16.trans (congrArg some (r16:vs 1=(.pointer (some (ad.add 0)))))
     have hy0:=vI hB hx0
     rw [OV] at hy0
     refine ⟨_,rfl,rfl,fun K hK=>?_⟩
     refine jC (w1:=w') (v:=.int .u8 (x0.toNat:Int)) (by rfl) rfl ?_ (hK _ _ (by exact rfl) (Below.refl _ _))
     ·go_simp
      (try simp only [iO,iY])
      (try rfl)
      (try (unfold Go.RowKit.wrap64;omega))
    refine iJ ?_ ?_
    ·intro a w' vs hB hel hd
     obtain ⟨f17,r17⟩:=hd 2 (by kernel_rfl)
     have e17:a.tmps[17]? = some (.int .u8 (x0.toNat:Int)):=f17.trans (congrArg some (r17:vs 2=(.int .u8 (x0.toNat:Int))))
     refine ⟨_,rfl,rfl,fun K hK=>?_⟩
     refine jC (w1:=w') (v:=.int .i64 (x0.toNat:Int)) (by rfl) rfl ?_ (hK _ _ (by exact rfl) (Below.refl _ _))
     ·go_simp
      (try simp only [iO,iY])
      (try rfl)
      (try (unfold Go.RowKit.wrap64;omega))
    refine iJ ?_ ?_
    ·intro a w' vs hB hel hd
     obtain ⟨f18,r18⟩:=hd 3 (by kernel_rfl)
     have e18:a.tmps[18]? = some (.int .i64 (x0.toNat:Int)):=f18.trans (congrArg some (r18:vs 3=(.int .i64 (x0.toNat:Int))))
     refine ⟨_,rfl,rfl,fun K hK=>?_⟩
     refine jC (w1:=w') (v:=.int .i64 ((x0.toNat:Int) * 65536)) (by rfl) rfl ?_ (hK _ _ (by exact rfl) (Below.refl _ _))
     ·go_simp
      (try simp only [iO,iY])
      (try rfl)
      (try (unfold Go.RowKit.wrap64;omega))
    refine iJ ?_ ?_
    ·intro a w' vs hB hel hd
     have e4:a.tmps[4]? = some (.slice (some ad) l'.length (c - k)):=(hel 4 (by kernel_rfl)).trans (by rfl)
     refine ⟨_,rfl,rfl,fun K hK=>?_⟩
     refine jC (w1:=w') (v:=.slice (some ad) l'.length (c - k)) (by rfl) rfl ?_ (hK _ _ (by exact rfl) (Below.refl _ _))
     ·go_simp
      (try simp only [iO,iY])
      (try rfl)
      (try (unfold Go.RowKit.wrap64;omega))
    refine iJ ?_ ?_
    ·intro a w' vs hB hel hd
     obtain ⟨f20,r20⟩:=hd 5 (by kernel_rfl)
     have e20:a.tmps[20]? = some (.slice (some ad) l'.length (c - k)):=f20.trans (congrArg some (r20:vs 5=(.slice (some ad) l'.length (c - k))))
     refine ⟨_,rfl,rfl,fun K hK=>?_⟩
     refine jC (w1:=w') (v:=.pointer (some (ad.add 1))) (by rfl) rfl ?_ (hK _ _ (by exact rfl) (Below.refl _ _))
     ·go_simp
      (try simp only [iO,iY])
      (try rfl)
      (try (unfold Go.RowKit.wrap64;omega))
    refine iJ ?_ ?_
    ·intro a w' vs hB hel hd
     obtain ⟨f21,r21⟩:=hd 6 (by kernel_rfl)
     have e21:a.tmps[21]? = some (.pointer (some (ad.add 1))):=f21.trans (congrArg some (r21:vs 6=(.pointer (some (ad.add 1)))))
     have hy0:=vI hB hx1
     rw [zM _ _ (by omega)] at hy0
     refine ⟨_,rfl,rfl,fun K hK=>?_⟩
     refine jC (w1:=w') (v:=.int .u8 (x1.toNat:Int)) (by rfl) rfl ?_ (hK _ _ (by exact rfl) (Below.refl _ _))
     ·go_simp
      (try simp only [iO,iY])
      (try rfl)
      (try (unfold Go.RowKit.wrap64;omega))
    refine iJ ?_ ?_
    ·intro a w' vs hB hel hd
     obtain ⟨f22,r22⟩:=hd 7 (by kernel_rfl)
     have e22:a.tmps[22]? = some (.int .u8 (x1.toNat:Int)):=f22.trans (congrArg some (r22:vs 7=(.int .u8 (x1.toNat:Int))))
     refine ⟨_,rfl,rfl,fun K hK=>?_⟩
     refine jC (w1:=w') (v:=.int .i64 (x1.toNat:Int)) (by rfl) rfl ?_ (hK _ _ (by exact rfl) (Below.refl _ _))
     ·go_simp
      (try simp only [iO,iY])
      (try rfl)
      (try (unfold Go.RowKit.wrap64;omega))
    refine iJ ?_ ?_
    ·intro a w' vs hB hel hd
     obtain ⟨f23,r23⟩:=hd 8 (by kernel_rfl)
     have e23:a.tmps[23]? = some (.int .i64 (x1.toNat:Int)):=f23.trans (congrArg some (r23:vs 8=(.int .i64 (x1.toNat:Int))))
     refine ⟨_,rfl,rfl,fun K hK=>?_⟩
     refine jC (w1:=w') (v:=.int .i64 ((x1.toNat:Int) * 256)) (by rfl) rfl ?_ (hK _ _ (by exact rfl) (Below.refl _ _))
     ·go_simp
      (try simp only [iO,iY])
      (try rfl)
      (try (unfold Go.RowKit.wrap64;omega))
    refine iJ ?_ ?_
    ·intro a w' vs hB hel hd
     obtain ⟨f19,r19⟩:=hd 4 (by kernel_rfl)
     have e19:a.tmps[19]? = some (.int .i64 ((x0.toNat:Int) * 65536)):=f19.trans (congrArg some (r19:vs 4=(.int .i64 ((x0.toNat:Int) * 65536))))
     obtain ⟨f24,r24⟩:=hd 9 (by kernel_rfl)
     have e24:a.tmps[24]? = some (.int .i64 ((x1.toNat:Int) * 256)):=f24.trans (congrArg some (r24:vs 9=(.int .i64 ((x1.toNat:Int) * 256))))
     refine ⟨_,rfl,rfl,fun K hK=>?_⟩
     refine jC (w1:=w') (v:=.int .i64 (bits .or .i64 ((x0.toNat:Int) * 65536) ((x1.toNat:Int) * 256))) (by rfl) rfl ?_ (hK _ _ (by exact rfl) (Below.refl _ _))
     ·go_simp
      (try simp only [iO,iY])
      (try rfl)
      (try (unfold Go.RowKit.wrap64;omega))
    refine iJ ?_ ?_
    ·intro a w' vs hB hel hd
     have e4:a.tmps[4]? = some (.slice (some ad) l'.length (c - k)):=(hel 4 (by kernel_rfl)).trans (by rfl)
     refine ⟨_,rfl,rfl,fun K hK=>?_⟩
     refine jC (w1:=w') (v:=.slice (some ad) l'.length (c - k)) (by rfl) rfl ?_ (hK _ _ (by exact rfl) (Below.refl _ _))
     ·go_simp
      (try simp only [iO,iY])
      (try rfl)
      (try (unfold Go.RowKit.wrap64;omega))
    refine iJ ?_ ?_
    ·intro a w' vs hB hel hd
     obtain ⟨f26,r26⟩:=hd 11 (by kernel_rfl)
     have e26:a.tmps[26]? = some (.slice (some ad) l'.length (c - k)):=f26.trans (congrArg some (r26:vs 11=(.slice (some ad) l'.length (c - k))))
     refine ⟨_,rfl,rfl,fun K hK=>?_⟩
     refine jC (w1:=w') (v:=.pointer (some (ad.add 2))) (by rfl) rfl ?_ (hK _ _ (by exact rfl) (Below.refl _ _))
     ·go_simp
      (try simp only [iO,iY])
      (try rfl)
      (try (unfold Go.RowKit.wrap64;omega))
    refine iJ ?_ ?_
    ·intro a w' vs hB hel hd
     obtain ⟨f27,r27⟩:=hd 12 (by kernel_rfl)
     have e27:a.tmps[27]? = some (.pointer (some (ad.add 2))):=f27.trans (congrArg some (r27:vs 12=(.pointer (some (ad.add 2)))))
     have hy0:=vI hB hx2
     rw [zM _ _ (by omega)] at hy0
     refine ⟨_,rfl,rfl,fun K hK=>?_⟩
     refine jC (w1:=w') (v:=.int .u8 (x2.toNat:Int)) (by rfl) rfl ?_ (hK _ _ (by exact rfl) (Below.refl _ _))
     ·go_simp
      (try simp only [iO,iY])
      (try rfl)
      (try (unfold Go.RowKit.wrap64;omega))
    refine iJ ?_ ?_
    ·intro a w' vs hB hel hd
     obtain ⟨f28,r28⟩:=hd 13 (by kernel_rfl)
     have e28:a.tmps[28]? = some (.int .u8 (x2.toNat:Int)):=f28.trans (congrArg some (r28:vs 13=(.int .u8 (x2.toNat:Int))))
     refine ⟨_,rfl,rfl,fun K hK=>?_⟩
     refine jC (w1:=w') (v:=.int .i64 (x2.toNat:Int)) (by rfl) rfl ?_ (hK _ _ (by exact rfl) (Below.refl _ _))
     ·go_simp
      (try simp only [iO,iY])
      (try rfl)
      (try (unfold Go.RowKit.wrap64;omega))
    refine iJ ?_ ?_
    ·intro a w' vs hB hel hd
     obtain ⟨f25,r25⟩:=hd 10 (by kernel_rfl)
     have e25:a.tmps[25]? = some (.int .i64 (bits .or .i64 ((x0.toNat:Int) * 65536) ((x1.toNat:Int) * 256))):=f25.trans (congrArg some (r25:vs 10=(.int .i64 (bits .or .i64 ((x0.toNat:Int) * 65536) ((x1.toNat:Int) * 256)))))
     obtain ⟨f29,r29⟩:=hd 14 (by kernel_rfl)
     have e29:a.tmps[29]? = some (.int .i64 (x2.toNat:Int)):=f29.trans (congrArg some (r29:vs 14=(.int .i64 (x2.toNat:Int))))
     refine ⟨_,rfl,rfl,fun K hK=>?_⟩
     refine jC (w1:=w') (v:=.int .i64 (bits .or .i64 (bits .or .i64 ((x0.toNat:Int) * 65536) ((x1.toNat:Int) * 256)) (x2.toNat:Int))) (by rfl) rfl ?_ (hK _ _ (by exact rfl) (Below.refl _ _))
     ·go_simp
      (try simp only [iO,iY])
      (try rfl)
      (try (unfold Go.RowKit.wrap64;omega))
    refine iJ ?_ ?_
    ·intro a w' vs hB hel hd
     obtain ⟨f30,r30⟩:=hd 15 (by kernel_rfl)
     have e30:a.tmps[30]? = some (.int .i64 (bits .or .i64 (bits .or .i64 ((x0.toNat:Int) * 65536) ((x1.toNat:Int) * 256)) (x2.toNat:Int))):=f30.trans (congrArg some (r30:vs 15=(.int .i64 (bits .or .i64 (bits .or .i64 ((x0.toNat:Int) * 65536) ((x1.toNat:Int) * 256)) (x2.toNat:Int)))))
     refine ⟨_,rfl,rfl,fun K hK=>?_⟩
     refine jC (w1:=w') (v:=.int .i64 (bits .or .i64 (bits .or .i64 ((x0.toNat:Int) * 65536) ((x1.toNat:Int) * 256)) (x2.toNat:Int))) (by rfl) rfl ?_ (hK _ _ (by exact rfl) (Below.refl _ _))
     ·go_simp
      (try simp only [iO,iY])
      (try rfl)
      (try (unfold Go.RowKit.wrap64;omega))
    exact oV
   ·intro vs w' hB hR
    have hv0_:vs 0=(.slice (some ad) l'.length (c - k)):=hR 0 (by kernel_rfl)
    have hv1_:vs 1=(.pointer (some (ad.add 0))):=hR 1 (by kernel_rfl)
    have hv2_:vs 2=(.int .u8 (x0.toNat:Int)):=hR 2 (by kernel_rfl)
    have hv3_:vs 3=(.int .i64 (x0.toNat:Int)):=hR 3 (by kernel_rfl)
    have hv4_:vs 4=(.int .i64 ((x0.toNat:Int) * 65536)):=hR 4 (by kernel_rfl)
    have hv5_:vs 5=(.slice (some ad) l'.length (c - k)):=hR 5 (by kernel_rfl)
    have hv6_:vs 6=(.pointer (some (ad.add 1))):=hR 6 (by kernel_rfl)
    have hv7_:vs 7=(.int .u8 (x1.toNat:Int)):=hR 7 (by kernel_rfl)
    have hv8_:vs 8=(.int .i64 (x1.toNat:Int)):=hR 8 (by kernel_rfl)
    have hv9_:vs 9=(.int .i64 ((x1.toNat:Int) * 256)):=hR 9 (by kernel_rfl)
    have hv10_:vs 10=(.int .i64 (bits .or .i64 ((x0.toNat:Int) * 65536) ((x1.toNat:Int) * 256))):=hR 10 (by kernel_rfl)
    have hv11_:vs 11=(.slice (some ad) l'.length (c - k)):=hR 11 (by kernel_rfl)
    have hv12_:vs 12=(.pointer (some (ad.add 2))):=hR 12 (by kernel_rfl)
    have hv13_:vs 13=(.int .u8 (x2.toNat:Int)):=hR 13 (by kernel_rfl)
    have hv14_:vs 14=(.int .i64 (x2.toNat:Int)):=hR 14 (by kernel_rfl)
    have hv15_:vs 15=(.int .i64 (bits .or .i64 (bits .or .i64 ((x0.toNat:Int) * 65536) ((x1.toNat:Int) * 256)) (x2.toNat:Int))):=hR 15 (by kernel_rfl)
    have hv16_:vs 16=(.int .i64 (bits .or .i64 (bits .or .i64 ((x0.toNat:Int) * 65536) ((x1.toNat:Int) * 256)) (x2.toNat:Int))):=hR 16 (by kernel_rfl)
    rw [show entries [15,16,17,18,19,20,21,22,23,24,25,26,27,28,29,30,5] vs=[(0,15,vs 0),(1,16,vs 1),(2,17,vs 2),(3,18,vs 3),(4,19,vs 4),(5,20,vs 5),(6,21,vs 6),(7,22,vs 7),(8,23,vs 8),(9,24,vs 9),(10,25,vs 10),(11,26,vs 11),(12,27,vs 12),(13,28,vs 13),(14,29,vs 14),(15,30,vs 15),(16,5,vs 16)] from rfl]
    simp only [jX,if_true,Act.put,sb_,sz_,ss_,hv0_,hv1_,hv2_,hv3_,hv4_,hv5_,hv6_,hv7_,hv8_,hv9_,hv10_,hv11_,hv12_,hv13_,hv14_,hv15_,hv16_]
    clear hR hv0_ hv1_ hv2_ hv3_ hv4_ hv5_ hv6_ hv7_ hv8_ hv9_ hv10_ hv11_ hv12_ hv13_ hv14_ hv15_ hv16_
    rw [HSH.out,HN.out]
    obtain ⟨n,hne1⟩:∃ n,n=num3 l':=⟨_,rfl⟩
    rw [← hne1]
    have HNE:=iC.mk hne1
    clear hne1 HSH
    have hB3:Below wr.heap.size wr w':=hB
    clear hB
    by_cases h60:(60000:Int)<(n:Int)
    ·have HF:=iC.mk (show lK l'=none from by unfold lK;rw [if_neg (by omega),if_pos (by rw [← HNE.out];omega)])
     have hmn:imin 60000 ((l'.length:Int) - 3 - 4)<(n:Int):=Y5 (.inl h60)
     gi_wp2
     refine bodyPost_ret (results_none rfl _ _ _) rfl ?_
     exact ⟨⟨_,rfl⟩,xs,⟨by rw [HS.out,lS HF.out,List.append_nil],by rw [HK.out,HS.out,lS HF.out,List.append_nil,HE.out]⟩,hJb _ _ _ HJ.out hB3⟩
    ·by_cases hln:(l'.length:Int) - 7<(n:Int)
     ·have HF:=iC.mk (show lK l'=none from by unfold lK;rw [if_neg (by omega),if_pos (by rw [← HNE.out];omega)])
      have hmn:imin 60000 ((l'.length:Int) - 3 - 4)<(n:Int):=Y5 (.inr (by omega))
      gi_wp2
      refine bodyPost_ret (results_none rfl _ _ _) rfl ?_
      exact ⟨⟨_,rfl⟩,xs,⟨by rw [HS.out,lS HF.out,List.append_nil],by rw [HK.out,HS.out,lS HF.out,List.append_nil,HE.out]⟩,hJb _ _ _ HJ.out hB3⟩
     ·have hn1:(n:Int)≤(l'.length:Int) - 7:=by omega
      have hnn:n+7≤l'.length:=by omega
      have hr3:=jl0 (some ad) l'.length (c - k) (3+n) (3+(n:Int)) (by omega) (by omega) hcc
      have hC3:=iC.mk (TI HC.out (3+n) (by omega))
      obtain ⟨A4,hr4,hC4⟩:=XD HC.out hcc (3+n) (3+n+4) (3+(n:Int)) (3+(n:Int)+4) (by omega) (by omega) (by omega) (by omega)
      obtain ⟨l4,hl4⟩:∃ z,z=(l'.take (3+n+4)).drop (3+n):=⟨_,rfl⟩
      have hll4:l4.length=3+n+4 - (3+n):=by rw [hl4,List.length_drop,List.length_take];omega
      rw [← hl4,← hll4] at hC4
      rw [← hll4] at hr4
      obtain ⟨A1,hr1,hC1⟩:=XD HC.out hcc 3 (3+n) (3:Int) (3+(n:Int)) rfl (by omega) (by omega) (by omega)
      obtain ⟨x,hx⟩:∃ z,z=(l'.take (3+n)).drop 3:=⟨_,rfl⟩
      have hxl:x.length=3+n - 3:=by rw [hx,List.length_drop,List.length_take];omega
      rw [← hx,← hxl] at hC1
      rw [← hxl] at hr1
      have HC4:=iC.mk hC4
      have HC1:=iC.mk hC1
      have HL4:=iC.mk hl4
      have HXX:=iC.mk hx
      have HXL:=iC.mk hxl
      have hx60:x.length≤140737488355327:=by omega
      have hxc:x.length≤c - k - 3:=by omega
      clear hC4 hC1 hl4 hx hll4 hxl
      have hmn:(n:Int)≤imin 60000 ((l'.length:Int) - 3 - 4):=jk0 (by omega) (by omega)
      gi_wp2
      refine wpIn_wide.2 ?_
      refine vT [40,41,42,43,44,45,46,47,48,49,50,51,52,53] [fun v _=>v=(.slice (some ad) l'.length (c - k)),fun v _=>v=(.int .i64 (3+(n:Int))),fun v _=>v=(.int .i64 (3+(n:Int))),fun v _=>v=(.slice (some ad) (3+n) (3+n)),RLit 1 #[.slice (some ad) (3+n) (3+n)] 22,fun v _=>v=(.int .u32 (sumN [l'.take (3+n)]:Int)),RSl (qL (l'.take (3+n))),fun v _=>v=(.slice (some ad) l'.length (c - k)),fun v _=>v=(.int .i64 (3+(n:Int))),fun v _=>v=(.int .i64 (3+(n:Int))),fun v _=>v=(.int .i64 (3+(n:Int)+4)),fun v _=>v=(.slice A4 l4.length (c - k - (3+n))),fun v _=>v=(.bool (qL (l'.take (3+n)) == l4)),fun v _=>v=(.bool (!(qL (l'.take (3+n)) == l4)))] [0,1,2,3,4,5,6,7,8,9,10,11,12,13] (true,[([],[]),([],[]),([],[]),([0,1,2],[0,1,2]),([3],[3]),([4],[4]),([5,5],[5]),([],[]),([],[]),([],[]),([9],[9]),([7,8,10],[7,8,10]),([6,11,6],[6,11]),([12],[12])]) [0,0,0,7,15,31,63,0,0,0,512,1920,4095,8191] (by kernel_rfl) (by kernel_rfl) (by kernel_rfl) (by kernel_rfl) (by kernel_rfl) (by kernel_rfl) (by kernel_rfl) (by rfl) (by kernel_rfl) ?_ ?_ ?_
      ·exact (iU (jS _) (iU (jS _) (iU (jS _) (iU (jS _) (iU (jm2 _ _ _) (iU (jS _) (iU (Rm_sl _) (iU (jS _) (iU (jS _) (iU (jS _) (iU (jS _) (iU (jS _) (iU (jS _) (iU (jS _) vS))))))))))))))
      ·refine iJ ?_ ?_
       ·intro a w' vs hB hel hd
        have e4:a.tmps[4]? = some (.slice (some ad) l'.length (c - k)):=(hel 4 (by kernel_rfl)).trans (by rfl)
        refine ⟨_,rfl,rfl,fun K hK=>?_⟩
        refine jC (w1:=w') (v:=.slice (some ad) l'.length (c - k)) (by rfl) rfl ?_ (hK _ _ (by exact rfl) (Below.refl _ _))
        ·go_simp
         (try simp only [iO,iY])
         (try rfl)
         (try (unfold Go.RowKit.wrap64;omega))
       refine iJ ?_ ?_
       ·intro a w' vs hB hel hd
        have e6:a.tmps[6]? = some (.int .i64 (3+(n:Int))):=(hel 6 (by kernel_rfl)).trans (by rfl)
        refine ⟨_,rfl,rfl,fun K hK=>?_⟩
        refine jC (w1:=w') (v:=.int .i64 (3+(n:Int))) (by rfl) rfl ?_ (hK _ _ (by exact rfl) (Below.refl _ _))
        ·go_simp
         (try simp only [iO,iY])
         (try rfl)
         (try (unfold Go.RowKit.wrap64;omega))
       refine iJ ?_ ?_
       ·intro a w' vs hB hel hd
        have e6:a.tmps[6]? = some (.int .i64 (3+(n:Int))):=(hel 6 (by kernel_rfl)).trans (by rfl)
        refine ⟨_,rfl,rfl,fun K hK=>?_⟩
        refine jC (w1:=w') (v:=.int .i64 (3+(n:Int))) (by rfl) rfl ?_ (hK _ _ (by exact rfl) (Below.refl _ _))
        ·go_simp
         (try simp only [iO,iY])
         (try rfl)
         (try (unfold Go.RowKit.wrap64;omega))
       refine iJ ?_ ?_
       ·intro a w' vs hB hel hd
        obtain ⟨f40,r40⟩:=hd 0 (by kernel_rfl)
        have e40:a.tmps[40]? = some (.slice (some ad) l'.length (c - k)):=f40.trans (congrArg some (r40:vs 0=(.slice (some ad) l'.length (c - k))))
        obtain ⟨f41,r41⟩:=hd 1 (by kernel_rfl)
        have e41:a.tmps[41]? = some (.int .i64 (3+(n:Int))):=f41.trans (congrArg some (r41:vs 1=(.int .i64 (3+(n:Int)))))
        obtain ⟨f42,r42⟩:=hd 2 (by kernel_rfl)
        have e42:a.tmps[42]? = some (.int .i64 (3+(n:Int))):=f42.trans (congrArg some (r42:vs 2=(.int .i64 (3+(n:Int)))))
        refine ⟨_,rfl,rfl,fun K hK=>?_⟩
        refine jC (w1:=w') (v:=.slice (some ad) (3+n) (3+n)) (by rfl) rfl ?_ (hK _ _ (by exact rfl) (Below.refl _ _))
        ·go_simp
         (try simp only [iO,iY])
         (try rfl)
         (try (unfold Go.RowKit.wrap64;omega))
       refine iJ ?_ ?_
       ·intro a w' vs hB hel hd
        obtain ⟨f43,r43⟩:=hd 3 (by kernel_rfl)
        have e43:a.tmps[43]? = some (.slice (some ad) (3+n) (3+n)):=f43.trans (congrArg some (r43:vs 3=(.slice (some ad) (3+n) (3+n))))
        refine ⟨_,rfl,rfl,fun K hK=>?_⟩
        refine jC (w1:=w'.alloc (.cells #[.slice (some ad) (3+n) (3+n)] 22)) (v:=.slice (some ⟨w'.heap.size,0,none⟩) 1 1) (by rfl) rfl ?_ (hK _ _ (by exact ⟨w'.heap.size,rfl,iP rfl⟩) (iD (Below.refl _ _) _))
        ·go_simp
         (try rfl)
       refine iJ ?_ ?_
       ·intro a w' vs hB hel hd
        obtain ⟨f44,r44⟩:=hd 4 (by kernel_rfl)
        obtain ⟨b4_,hv4_,hb4_⟩:=(r44:(RLit 1 #[.slice (some ad) (3+n) (3+n)] 22) (vs 4) w')
        have e44:a.tmps[44]? = some (.slice (some ⟨b4_,0,none⟩) 1 1):=f44.trans (congrArg some hv4_)
        refine ⟨_,rfl,rfl,fun K hK=>?_⟩
        refine oD Tryz.func69 (by kernel_rfl) rfl #[.slice (some ⟨b4_,0,none⟩) 1 1] (by rfl) rfl rfl (by first | (simp only [List.map_toArray,List.map_cons,List.map_nil,Act.eval,Array.getD_eq_getD_getElem?,Option.getD_some,e44];done) | (simp only [List.map_toArray,List.map_cons,List.map_nil,Act.eval,Array.getD_eq_getD_getElem?,Option.getD_some,e44];rfl)) ?_
        refine (YH [l'.take (3+n)] hb4_ rfl (by simp) (Cs.cons (Kd.C_below hC3.out (by (repeat (first | exact Below.refl _ _ | apply iD | apply iW | apply iF | apply below_bytesWorld | (refine iL ?_ (by first | assumption | omega)) | refine iH ?_ (by assumption))))) (Nat.le_refl _) (Cs.nil _))).mono ?_
        rintro e_ w2_ ⟨rfl,hb2_⟩
        exact ⟨_,rfl,hK _ _ (by exact rfl) hb2_⟩
       refine iJ ?_ ?_
       ·intro a w' vs hB hel hd
        obtain ⟨f45,r45⟩:=hd 5 (by kernel_rfl)
        have e45:a.tmps[45]? = some (.int .u32 (sumN [l'.take (3+n)]:Int)):=f45.trans (congrArg some (r45:vs 5=(.int .u32 (sumN [l'.take (3+n)]:Int))))
        refine ⟨_,rfl,rfl,fun K hK=>?_⟩
        refine oD Tryz.func67 (by kernel_rfl) rfl #[.int .u32 (sumN [l'.take (3+n)]:Int),(Value.int IntKind.i64 4)] (by rfl) rfl rfl (by first | (simp only [List.map_toArray,List.map_cons,List.map_nil,Act.eval,Array.getD_eq_getD_getElem?,Option.getD_some,e45];done) | (simp only [List.map_toArray,List.map_cons,List.map_nil,Act.eval,Array.getD_eq_getD_getElem?,Option.getD_some,e45];rfl)) ?_
        refine (jd8 _ _).mono ?_
        rintro e_ w2_ ⟨v_,rfl,ho_,hb2_⟩
        exact ⟨_,rfl,hK _ _ (OB.reads ho_) hb2_⟩
       refine iJ ?_ ?_
       ·intro a w' vs hB hel hd
        have e4:a.tmps[4]? = some (.slice (some ad) l'.length (c - k)):=(hel 4 (by kernel_rfl)).trans (by rfl)
        refine ⟨_,rfl,rfl,fun K hK=>?_⟩
        refine jC (w1:=w') (v:=.slice (some ad) l'.length (c - k)) (by rfl) rfl ?_ (hK _ _ (by exact rfl) (Below.refl _ _))
        ·go_simp
         (try simp only [iO,iY])
         (try rfl)
         (try (unfold Go.RowKit.wrap64;omega))
       refine iJ ?_ ?_
       ·intro a w' vs hB hel hd
        have e6:a.tmps[6]? = some (.int .i64 (3+(n:Int))):=(hel 6 (by kernel_rfl)).trans (by rfl)
        refine ⟨_,rfl,rfl,fun K hK=>?_⟩
        refine jC (w1:=w') (v:=.int .i64 (3+(n:Int))) (by rfl) rfl ?_ (hK _ _ (by exact rfl) (Below.refl _ _))
        ·go_simp
         (try simp only [iO,iY])
         (try rfl)
         (try (unfold Go.RowKit.wrap64;omega))
       refine iJ ?_ ?_
       ·intro a w' vs hB hel hd
        have e6:a.tmps[6]? = some (.int .i64 (3+(n:Int))):=(hel 6 (by kernel_rfl)).trans (by rfl)
        refine ⟨_,rfl,rfl,fun K hK=>?_⟩
        refine jC (w1:=w') (v:=.int .i64 (3+(n:Int))) (by rfl) rfl ?_ (hK _ _ (by exact rfl) (Below.refl _ _))
        ·go_simp
         (try simp only [iO,iY])
         (try rfl)
         (try (unfold Go.RowKit.wrap64;omega))
       refine iJ ?_ ?_
       ·intro a w' vs hB hel hd
        obtain ⟨f49,r49⟩:=hd 9 (by kernel_rfl)
        have e49:a.tmps[49]? = some (.int .i64 (3+(n:Int))):=f49.trans (congrArg some (r49:vs 9=(.int .i64 (3+(n:Int)))))
        refine ⟨_,rfl,rfl,fun K hK=>?_⟩
        refine jC (w1:=w') (v:=.int .i64 (3+(n:Int)+4)) (by rfl) rfl ?_ (hK _ _ (by exact rfl) (Below.refl _ _))
        ·go_simp
         (try simp only [iO,iY])
         (try rfl)
         (try (unfold Go.RowKit.wrap64;omega))
       refine iJ ?_ ?_
       ·intro a w' vs hB hel hd
        obtain ⟨f47,r47⟩:=hd 7 (by kernel_rfl)
        have e47:a.tmps[47]? = some (.slice (some ad) l'.length (c - k)):=f47.trans (congrArg some (r47:vs 7=(.slice (some ad) l'.length (c - k))))
        obtain ⟨f48,r48⟩:=hd 8 (by kernel_rfl)
        have e48:a.tmps[48]? = some (.int .i64 (3+(n:Int))):=f48.trans (congrArg some (r48:vs 8=(.int .i64 (3+(n:Int)))))
        obtain ⟨f50,r50⟩:=hd 10 (by kernel_rfl)
        have e50:a.tmps[50]? = some (.int .i64 (3+(n:Int)+4)):=f50.trans (congrArg some (r50:vs 10=(.int .i64 (3+(n:Int)+4))))
        refine ⟨_,rfl,rfl,fun K hK=>?_⟩
        refine jC (w1:=w') (v:=.slice A4 l4.length (c - k - (3+n))) (by rfl) rfl ?_ (hK _ _ (by exact rfl) (Below.refl _ _))
        ·go_simp
         (try simp only [iO,iY])
         (try rfl)
         (try (unfold Go.RowKit.wrap64;omega))
       refine iJ ?_ ?_
       ·intro a w' vs hB hel hd
        obtain ⟨f46,r46⟩:=hd 6 (by kernel_rfl)
        obtain ⟨A6_,c6_,hv6_,hc6_,hC6_⟩:=(r46:(RSl (qL (l'.take (3+n)))) (vs 6) w')
        have e46:a.tmps[46]? = some (.slice A6_ (qL (l'.take (3+n))).length c6_):=f46.trans (congrArg some hv6_)
        obtain ⟨f51,r51⟩:=hd 11 (by kernel_rfl)
        have e51:a.tmps[51]? = some (.slice A4 l4.length (c - k - (3+n))):=f51.trans (congrArg some (r51:vs 11=(.slice A4 l4.length (c - k - (3+n)))))
        refine ⟨_,rfl,rfl,fun K hK=>?_⟩
        refine oD Tryz.func83 (by kernel_rfl) rfl #[.slice A6_ (qL (l'.take (3+n))).length c6_,.slice A4 l4.length (c - k - (3+n))] (by rfl) rfl rfl (by first | (simp only [List.map_toArray,List.map_cons,List.map_nil,Act.eval,Array.getD_eq_getD_getElem?,Option.getD_some,e46,e51];done) | (simp only [List.map_toArray,List.map_cons,List.map_nil,Act.eval,Array.getD_eq_getD_getElem?,Option.getD_some,e46,e51];rfl)) ?_
        refine (UW A6_ A4 c6_ (c - k - (3+n)) _ _ _ _ w' hC6_ (Kd.C_below HC4.out (by (repeat (first | exact Below.refl _ _ | apply iD | apply iW | apply iF | apply below_bytesWorld | (refine iL ?_ (by first | assumption | omega)) | refine iH ?_ (by assumption)))))).mono ?_
        rintro e_ w2_ ⟨rfl,rfl⟩
        exact ⟨_,rfl,hK _ _ (by exact rfl) (Below.refl _ _)⟩
       refine iJ ?_ ?_
       ·intro a w' vs hB hel hd
        obtain ⟨f52,r52⟩:=hd 12 (by kernel_rfl)
        have e52:a.tmps[52]? = some (.bool (qL (l'.take (3+n)) == l4)):=f52.trans (congrArg some (r52:vs 12=(.bool (qL (l'.take (3+n)) == l4))))
        refine ⟨_,rfl,rfl,fun K hK=>?_⟩
        refine jC (w1:=w') (v:=.bool (!(qL (l'.take (3+n)) == l4))) (by rfl) rfl ?_ (hK _ _ (by exact rfl) (Below.refl _ _))
        ·go_simp
         (try simp only [iO,iY])
         (try rfl)
         (try (unfold Go.RowKit.wrap64;omega))
       exact oV
      ·intro vs w' hB hR
       have hv0_:vs 0=(.slice (some ad) l'.length (c - k)):=hR 0 (by kernel_rfl)
       have hv1_:vs 1=(.int .i64 (3+(n:Int))):=hR 1 (by kernel_rfl)
       have hv2_:vs 2=(.int .i64 (3+(n:Int))):=hR 2 (by kernel_rfl)
       have hv3_:vs 3=(.slice (some ad) (3+n) (3+n)):=hR 3 (by kernel_rfl)
       obtain ⟨b4_,hv4_,hb4_⟩:=(hR 4 (by kernel_rfl):(RLit 1 #[.slice (some ad) (3+n) (3+n)] 22) (vs 4) w')
       have hv5_:vs 5=(.int .u32 (sumN [l'.take (3+n)]:Int)):=hR 5 (by kernel_rfl)
       obtain ⟨A6_,c6_,hv6_,hc6_,hC6_⟩:=(hR 6 (by kernel_rfl):(RSl (qL (l'.take (3+n)))) (vs 6) w')
       have hv7_:vs 7=(.slice (some ad) l'.length (c - k)):=hR 7 (by kernel_rfl)
       have hv8_:vs 8=(.int .i64 (3+(n:Int))):=hR 8 (by kernel_rfl)
       have hv9_:vs 9=(.int .i64 (3+(n:Int))):=hR 9 (by kernel_rfl)
       have hv10_:vs 10=(.int .i64 (3+(n:Int)+4)):=hR 10 (by kernel_rfl)
       have hv11_:vs 11=(.slice A4 l4.length (c - k - (3+n))):=hR 11 (by kernel_rfl)
       have hv12_:vs 12=(.bool (qL (l'.take (3+n)) == l4)):=hR 12 (by kernel_rfl)
       have hv13_:vs 13=(.bool (!(qL (l'.take (3+n)) == l4))):=hR 13 (by kernel_rfl)
       rw [show entries [40,41,42,43,44,45,46,47,48,49,50,51,52,53] vs=[(0,40,vs 0),(1,41,vs 1),(2,42,vs 2),(3,43,vs 3),(4,44,vs 4),(5,45,vs 5),(6,46,vs 6),(7,47,vs 7),(8,48,vs 8),(9,49,vs 9),(10,50,vs 10),(11,51,vs 11),(12,52,vs 12),(13,53,vs 13)] from rfl]
       simp only [jX,if_true,Act.put,sb_,sz_,ss_,hv0_,hv1_,hv2_,hv3_,hv4_,hv5_,hv6_,hv7_,hv8_,hv9_,hv10_,hv11_,hv12_,hv13_]
       clear hR hv0_ hv1_ hv2_ hv3_ hv5_ hv7_ hv8_ hv9_ hv10_ hv11_ hv12_ hv13_
       have hB6:Below wr.heap.size wr w':=by (repeat (first | exact Below.refl _ _ | apply iD | apply iW | apply iF | apply below_bytesWorld | (refine iL ?_ (by first | assumption | omega)) | refine iH ?_ (by assumption)))
       have hfa:=VA l' (by omega) (by rw [← HNE.out];omega) (by rw [← HNE.out];omega)
       rw [← HNE.out,← HL4.out,← HXX.out] at hfa
       obtain ⟨q,hq⟩:∃ q,q=(qL (l'.take (3+n)) == l4):=⟨_,rfl⟩
       rw [← hq] at hfa ⊢
       have HFA:=iC.mk hfa
       clear hfa hq
       cases q with
       | false =>
        have HF:=iC.mk (show lK l'=none from HFA.out)
        gi_wp2
        refine bodyPost_ret (results_none rfl _ _ _) rfl ?_
        exact ⟨⟨_,rfl⟩,xs,⟨by rw [HS.out,lS HF.out,List.append_nil],by rw [HK.out,HS.out,lS HF.out,List.append_nil,HE.out]⟩,hJb _ _ _ HJ.out hB6⟩
       | true =>
        have HF:=iC.mk (show lK l'=some x from HFA.out)
        gi_wp2
        refine ⟨trivial,(fun h=>by cases h),?_⟩
        refine (callsIn_wide.2 (JF A1 (c - k - 3) x w' (Kd.C_below HC1.out hB6) hxc hx60)).mono ?_
        rintro e_ w5 ⟨v5,rfl,ho5,hb5⟩
        obtain ⟨A5,c5,rfl,hc5,hC5⟩:=ho5.reads
        clear hC5
        have hB7:Below wr.heap.size wr w5:=iH hB6 hb5
        have hlow:w0.heap.size≤w'.heap.size:=Nat.le_trans hszr hB6.size
        have hszt:w0.heap.size≤w5.heap.size:=Nat.le_trans hszr hB7.size
        have hcast:((k+(3+n+4):Nat):Int)=(k:Int)+(3+(n:Int)+4):=by omega
        obtain ⟨fn,tmps,assign,body,hy,hR⟩:=hY xs (k+(3+n+4),.slice A5 x.length c5,x) w5 (hJb _ _ _ HJ.out hB7) (ho5.lower hlow) (by have:=jm4 xs;rw [HE.out] at this;omega)
        simp only [encF,hcast] at hy
        clear ho5 hcast
        gi_wp2
        refine ⟨(fun h=>by cases h),hR.mono ?_⟩
        rintro e_ W6 ⟨rfl,hJ6,hk6,hk6'⟩
        have HJ6:=iC.mk hJ6
        have hlast:kX l=frs xs ++ x :: kX (l.drop (k+(3+n+4))):=by
         have hxl:=HXL.out
         rw [HS.out,qY HF.out,HL'.out,List.drop_drop,show x.length+7=3+n+4 from by omega]
        have HLAST:=iC.mk hlast
        have hBt:W6.heap[B]? = some (.cells #[.slice A l.length c] e fz):=hk6'.trans (iI hB7 hBr)
        have hBW6:=iC.mk ((HB.out.trans (hB7.mono HB.out.size)).trans hk6)
        have hszu:w0.heap.size≤W6.heap.size:=Nat.le_trans hszt hk6.size
        clear hJ6 hlast hk6 hk6'
        gi_wp2
        go_roundw
        case rel=>exact ⟨k+(3+n+4),xs ++ [(k+(3+n+4),.slice A5 x.length c5,x)],by go_num,by have:=HLL.out;omega,⟨by rw [MO,HLAST.out,List.append_assoc];rfl⟩,⟨by rw [MO,rQ,HE.out,uG];show k+(x.length+7+0)=_;have:=HXL.out;omega⟩,⟨JP _ _⟩,HJ6,hBW6,hszu,hBt⟩
        case measure=>simp [intOf];try omega
  ·have h7':l'.length<7:=by have:=HLI.out;omega
   have hf:lK l'=none:=by unfold lK;rw [if_pos h7']
   have HF:=iC.mk hf
   clear hf h7'
   gi_wp2
   go_end0
   exact ⟨⟨_,rfl⟩,xs,⟨by rw [HS.out,lS HF.out,List.append_nil],by rw [HK.out,HS.out,lS HF.out,List.append_nil,HE.out]⟩,HJ.out⟩
end
section
attribute [local go_sem] Oper.semAt_some
theorem VP {F:Fence} {n:Nat} {P:Program} {ops:Array Oper} {rest:List Oper} {o:Oper} {a:Act} {Q:Exit→Act→World→Prop} {α:Type} (d:Kd α) {w0 W:World} (base:Nat) (hgd:o.guard=none) (s x:Operand) (t e:TypeId) (z:Value) (bytes:Nat)
  (ho:o.op=.call { callee:=.builtin .append,args:=#[s,x],argTypes:=#[t,t] })
  (ht:P.underlying t=some (.slice e)) (hinfo:(P.info? e).map (fun i=>(i.zero,i.size,i.bytes))=some (some z,d.sz,bytes)) (hz:z.cells.size=d.sz) (hs0:0<d.sz) (hb0:0<bytes)
  (v:Value) (xs:List α) (p:α) (cs:List Value) (ok okp:Nat→Prop) (hs:a.eval s=v) (hx:a.eval x=.slice (some ⟨W.heap.size,0,none⟩) 1 1) (hp:d.M W base okp p cs) (hokp:∀ k,okp k→ok k∧some k≠v.ownBlock) (hfresh:∀ k,W.heap.size≤k→ok k)
  (HO:d.R e W base ok v xs) (HB:Below base w0 W) (hbase:base≤W.heap.size) (hl:(xs.length+1) * bytes≤140737488355328)
  (h:∀ v1 w1,d.R e w1 base ok v1 (xs ++ [p])→Below base w0 w1→W.grownBy w1 v.ownBlock→wpListIn F n P ops Q rest (a.put o.dst v1) w1) :
  wpListIn F n P ops Q (o :: rest) a (W.alloc (.cells cs.toArray e)):=by
 obtain ⟨h0,inner,hown,hr⟩:=HO
 obtain ⟨i0,hi,hzz⟩:=Option.map_eq_some_iff.1 hinfo
 simp only [Prod.mk.injEq] at hzz
 obtain ⟨hz0,hz1,hz2⟩:=hzz
 have hlen:xs.length+1≤140737488355328:=Nat.le_trans (Nat.le_mul_of_pos_right _ hb0) hl
 have hys:=d.K_len (d.K_of_M hp)
 refine wpListIn_plain hgd fun K hK'=>?_
 obtain ⟨v',w',hrun,hown',hg,_,hat⟩:=run_append_own_at (P:=P) (W.alloc (.cells cs.toArray e)) base t o.type e i0 z d.sz bytes ht hi hz0 hz1 hz2 hz hs0 v xs.length inner (hown.alloc _) ⟨W.heap.size,0,none⟩ 1 1 cs (by rw [hys];simp)
  (by simpa using World.news_of_block (cs:=cs.toArray) (t:=e) (fr:=(0,0)) (heap_alloc_new W (.cells cs.toArray e))) (d.K_one (d.K_of_M hp)) (by simp only [maxLen];omega) hl (by simp;omega)
 unfold Oper.wpIn
 refine ⟨?_,?_⟩
 ·simp [Oper.about,ho,resolve,Target.leads,Sem.run_pure]
 ·rw [Oper.semAt_plain F _ _ (by rw [ho];intro c hc';cases hc')]
  simp [execOp,ho,resolve,invoke,builtin,hs,hx,hrun,Result.andThen]
  have hg':W.grownBy w' v.ownBlock:=World.grownBy.trans (World.grownBy_alloc W _ _) hg
  refine hK' _ _ (h v' w' (Kd.R_appended h0 hr hp hokp hfresh hown' hg' ?_) ((HB.alloc hbase _).grown hg (by simp;omega) (own_base hown)) hg')
  rcases hat with hat | hat
  ·exact .inl hat
  ·exact .inr ⟨_,hat,by simp⟩
theorem MQ {α:Type} {d:Kd α} {e:Nat} {w:World} {base l:Nat} {ok:Nat→Prop} {v:Value} {xs:List α} {o:Obj} (h:d.R e w base ok v xs) (hl:w.heap[l]? = some o) (ho:o.isCells=false) (o':Obj):d.R e (w.putObj l o') base ok v xs :=
 Kd.R_mono (Kd.R_move (Kd.R_bound h) (fun k hk=>by
  obtain ⟨_,_,_,q,hq,cells,hc⟩:=hk
  exact World.putObj_heap_other (fun e=>by subst e;rw [hl] at hc;cases hc;cases ho))) (fun _ hk=>hk.1)
theorem yZ {w:World} {B l:Nat} {t:TypeId} {v:Value} {r:Loop} (h:Boxed w B t v) (hl:w.heap[l]? = some (.loop r)) (o':Obj):Boxed (w.putObj l o') B t v :=
 (World.putObj_heap_other (fun e=>by subst e;have h2:=(show w.heap[B]? = _ from h).symm.trans hl;cases h2)).trans h
theorem jd7 (n:Nat) (s:Value) (w:World) (hs:∃ A m c,s=.slice A m c):CallsIn Fence.wide n Tryz.prog 81 #[s] w fun e w'=>e=.returned (.func (.func 107) #[] #[.pointer (some ⟨w.heap.size,0,none⟩)])∧w'=w.alloc (.cells #[s] 22):=by
 obtain ⟨A,m,c,rfl⟩:=hs
 refine callsIn_of_wp Tryz.func81 rfl trivial ?_ rfl
 simp only [Tryz.ntmps81,List.size_toArray,List.length_cons,List.length_nil,Nat.reduceAdd,Nat.reduceSub,Array.replicate_succ,Array.replicate_zero,List.push_toArray,List.append_toArray,List.nil_append,List.cons_append]
 gi_wp2
 go_ret
 exact ⟨rfl,rfl⟩
theorem U8 {B b1 b2 t1 t2:Nat} {W w1:World} {v x1 x2:Value} (u1 u2:Value) (hg:W.grownBy w1 v.ownBlock) (ht:∀ k,v.ownBlock=some k→∃ cells e,W.heap[k]? = some (.cells cells e (0,0))) (h1:Boxed W b1 t1 x1) (h2:Boxed W b2 t2 x2) :
  KeepsFrom B W ((w1.setCell ⟨b1,0,none⟩ u1).setCell ⟨b2,0,none⟩ u2):=by
 refine ⟨by simp [World.setCell];exact hg.size,fun k o _ hk ho=>?_⟩
 have n1:k≠b1:=fun e=>by subst e;have h3:=hk.symm.trans h1;cases h3;cases ho
 have n2:k≠b2:=fun e=>by subst e;have h3:=hk.symm.trans h2;cases h3;cases ho
 rw [Below.heap_setCell _ _ _ _ n2,Below.heap_setCell _ _ _ _ n1,hg.block k (jH hk) (fun e=>by
  obtain ⟨cells,q,hc⟩:=ht k e.symm
  have h3:=hk.symm.trans hc
  cases h3;cases ho)]
 exact hk
def IS (w0:World) (nb B1 B2:Nat) (pre:List Fr) (W:World):Prop :=
 (∃ v,Boxed W B1 80 v∧OBB W nb v (frs pre))∧Boxed W B2 3 (.int .i64 (yE pre:Int))∧Below w0.heap.size w0 W∧nb≤W.heap.size
set_option maxRecDepth 20000 in
set_option maxHeartbeats 2000000 in
theorem ja5 (A:Option Addr) (c:Nat) (l:List UInt8) (w0:World) (hr:kb.C w0 A l.length l) (hc:l.length≤c) (hs:(l.length:Int)≤1000000) :
  Calls Tryz.prog 49 #[.slice A l.length c] w0 fun e w'=>∃ v,e=.returned (.tuple #[v,.int .i64 (endB (kX l):Nat)])∧OBB w' w0.heap.size v (kX l)∧Below w0.heap.size w0 w':=by
 have HL:=iC.mk hr
 clear hr
 refine (callsIn_wide (n:=5)).1 ?_
 refine callsIn_of_wp_marks Tryz.func49 rfl trivial ?_ rfl
 simp only [Tryz.ntmps49,List.size_toArray,List.length_cons,List.length_nil,Nat.reduceAdd,Nat.reduceSub,Array.replicate_succ,Array.replicate_zero,List.push_toArray,List.append_toArray,List.nil_append,List.cons_append]
 gi_wp2
 refine ⟨trivial,?_⟩
 refine (jd7 _ _ _ ⟨_,_,_,rfl⟩).mono ?_
 rintro e w1 ⟨rfl,rfl⟩
 obtain ⟨W0,hW0⟩:∃ W0,W0=((w0.alloc (.cells #[.slice none 0 0] 80)).alloc (.cells #[.int .i64 0] 3)).alloc (.cells #[.slice A l.length c] 22):=⟨_,rfl⟩
 have hsz:W0.heap.size=w0.heap.size+3:=by rw [hW0];simp
 have hB0:Below w0.heap.size w0 W0:=by rw [hW0];(repeat (first | exact Below.refl _ _ | apply iD | apply iW | apply iF | apply below_bytesWorld | (refine iL ?_ (by first | assumption | omega)) | refine iH ?_ (by assumption)))
 have hx1:Boxed W0 w0.heap.size 80 (.slice none 0 0):=by rw [hW0];exact jI (jI (iP rfl))
 have hx2:Boxed W0 (w0.heap.size+1) 3 (.int .i64 0):=by rw [hW0];exact jI (iP (by simp))
 have hx3:W0.heap[w0.heap.size+1+1]? = some (.cells #[.slice A l.length c] 22 (0,0)):=by rw [hW0];exact iP (by simp)
 gi_wp2
 rw [← hW0]
 clear hW0
 refine jh2 (F:=Fence.wide) rfl (by decide) (gf:=107) (lb:=#[.pointer (some ⟨w0.heap.size+1+1,0,none⟩)]) rfl trivial (enters_of Tryz.func107 (by kernel_rfl) rfl)
  (V9 (5 - 1) (w0.heap.size+1+1) 22 (0,0) A c l w0 W0 HL.out hc hs hB0 hx3)
  (fun h k=>⟨h.1.trans k.1,k.2.trans h.2⟩)
  (fun W q r o' hle hl=>⟨belowK_b (w:=W0) (by omega) W q _ o' hle hl rfl rfl,World.putObj_heap_other (by omega)⟩)
  (Below.refl _ _) (fun _=>rfl) (IS w0 W0.heap.size w0.heap.size (w0.heap.size+1))
  (fun s X Y h hb=>by
   obtain ⟨⟨v,h1,h2⟩,h3,h4,h5⟩:=h
   exact ⟨⟨v,iI hb h1,h2.below hb⟩,iI hb h3,iH h4 hb,Nat.le_trans h5 hb.size⟩)
  (fun s X q r o' h hle hl=>by
   obtain ⟨⟨v,h1,h2⟩,h3,h4,h5⟩:=h
   exact ⟨⟨v,yZ h1 hl o',MQ h2 hl rfl o'⟩,yZ h3 hl o',h4.trans (belowK_b (w:=W0) (by omega) X q _ o' hle hl rfl rfl),by simpa [World.putObj] using h5⟩)
  (fun x X q r o' h hle hl=>MQ h hl rfl o')
  ⟨⟨_,hx1,OBB.nil _ _⟩,hx2,hB0,Nat.le_refl _⟩
  (fun x=>{ tmps:=#[.slice A l.length c,undef,.slice none 0 0,.int .i64 0,.pointer (some ⟨w0.heap.size,0,none⟩),.pointer (some ⟨w0.heap.size+1,0,none⟩),.int .i64 (x.1:Int),x.2.1,.slice A l.length c,.func (.func 107) #[] #[.pointer (some ⟨w0.heap.size+1+1,0,none⟩)],.int .i64 (x.1:Int),x.2.1,undef,undef,undef,undef,undef,undef,undef],defers:=[] }) ?assign ?body ?done
 case assign =>
  intro lp x W K hK
  simp only [encF]
  gi_wp2
  exact hK
 case body =>
  rintro lp pre ⟨k,xv,bl⟩ W hlp ⟨⟨v,hv,hO⟩,hv2,hB,hsW⟩ hG hlen
  have hG':OB W W0.heap.size xv bl:=hG
  clear hG
  obtain ⟨Ax,cx,rfl,hcx,hCx⟩:=hG'.reads
  obtain ⟨Av,cv,rfl,hcv,hCv⟩:=hO.reads
  clear hCx hCv
  obtain ⟨inner,hown⟩:=Kd.R_own hO
  have hne1:some w0.heap.size≠(Value.slice Av (frs pre).length cv).ownBlock:=fun e=>by have:=own_base hown _ e.symm;omega
  have hne2:some (w0.heap.size+1)≠(Value.slice Av (frs pre).length cv).ownBlock:=fun e=>by have:=own_base hown _ e.symm;omega
  have hne3:some (w0.heap.size+1+1)≠(Value.slice Av (frs pre).length cv).ownBlock:=fun e=>by have:=own_base hown _ e.symm;omega
  have htyp:∀ k,(Value.slice Av (frs pre).length cv).ownBlock=some k→∃ cells e,W.heap[k]? = some (.cells cells e (0,0)):=fun k hk=>by
   obtain ⟨cells,hc⟩:=pJ hown k hk
   exact ⟨cells,_,hc⟩
  have hlow:∀ k,(Value.slice Av (frs pre).length cv).ownBlock=some k→w0.heap.size≤k:=fun k hk=>by have:=own_base hown _ hk;omega
  have hc1:=hv.cell
  have hf1:=hv.frozen
  have hc2:=hv2.cell
  have hf2:=hv2.frozen
  have hlp:(frs pre).length≤1000000:=by simp only [frs,List.length_map];omega
  have hWW:w0.heap.size≤W.heap.size:=by omega
  have hB3:w0.heap.size+1+1<W.heap.size:=by omega
  clear hown hsz
  simp only
  gi_wp2_with (gi_at_builtin;refine VP (Kd.slice 5 kb) (w0:=W) W0.heap.size rfl (.tmp 12) (.tmp 14) 80 22 (.slice none 0 0) 24 rfl Tryz.underlying80 XM rfl (by decide) (by omega) (.slice Av (frs pre).length cv) (frs pre) bl [.slice Ax bl.length cx] (fun _=>True) (fun k=>some k≠Value.ownBlock (.slice Av (frs pre).length cv)) rfl rfl (RV hO hG') (fun _ h=>⟨trivial,h⟩) (fun _ _=>trivial) hO (Below.refl _ _) hsW (by omega) ?_;intro v1 w1 ho1 hb1 hg1;obtain ⟨A1,c1,rfl,hc1',hC1'⟩:=OBB.reads ho1;clear hC1';have hv1:=hv.kept hg1 hne1;have hv3:=hv2.kept hg1 hne2;have hc3:=hv1.cell;have hf3:=hv1.frozen;have hc4:=hv3.cell;have hf4:=hv3.frozen)
  have HBW:Below w0.heap.size W w1:=(Below.refl w0.heap.size W).grown hg1 hWW hlow
  refine ⟨U8 _ _ hg1 htyp hv hv2,⟨?_,?_⟩,⟨.slice A1 ((frs pre).length+1) c1,?_,?_⟩,?_,?_,?_⟩
  ·exact (HBW.setCell (p:=⟨w0.heap.size,0,none⟩) (Nat.le_refl _) _).setCell (p:=⟨w0.heap.size+1,0,none⟩) (Nat.le_succ _) _
  ·rw [Below.heap_setCell _ _ _ _ (by show _≠w0.heap.size+1;omega),Below.heap_setCell _ _ _ _ (by show _≠w0.heap.size;omega)]
   exact hg1.block _ hB3 hne3
  ·exact (hv1.set _).other (by omega) _
  ·rw [MO]
   have h1:=Kd.R_set ho1 (show w1.heap[w0.heap.size]? = some (.cells #[_] _ (0,0)) from hv1) (by decide) 0 (.slice A1 ((frs pre).length+1) c1)
   have h2:=Kd.R_set h1 (show (w1.setCell ⟨w0.heap.size,0,none⟩ _).heap[w0.heap.size+1]? = some (.cells #[_] _ (0,0)) from hv3.other (by omega) _) (by decide) 0 (.int .i64 (k:Int))
   rw [List.length_append] at h2
   exact h2
  ·rw [JP]
   exact (hv3.other (by omega) _).set _
  ·exact hB.trans ((HBW.setCell (p:=⟨w0.heap.size,0,none⟩) (Nat.le_refl _) _).setCell (p:=⟨w0.heap.size+1,0,none⟩) (Nat.le_succ _) _)
  ·simpa [World.setCell] using Nat.le_trans hsW hg1.size
 case done =>
  rintro D xs W hD ⟨hS1,hS2⟩ ⟨⟨v,hv,hO⟩,hv2,hB,hsW⟩ hK
  obtain ⟨Av,cv,rfl,hcv,hCv⟩:=hO.reads
  clear hCv
  have hc1:=hv.cell
  have hc2:=hv2.cell
  have HB0:=iC.mk hB
  have hlow:w0.heap.size≤W0.heap.size:=by omega
  have hDl:w0.heap.size≤D:=by omega
  clear hsz
  gi_wp2
  refine wpIn_wide.2 ?_
  refine vT [17,18,2,3] [fun v _=>v=(.slice Av (frs xs).length cv),fun v _=>v=(.int .i64 (yE xs:Int)),fun v _=>v=(.slice Av (frs xs).length cv),fun v _=>v=(.int .i64 (yE xs:Int))] [0,1,2,3] (true,[([],[]),([],[]),([0,0],[0]),([1,2,0,1,2],[1])]) [0,0,1,7] (by kernel_rfl) (by kernel_rfl) (by kernel_rfl) (by kernel_rfl) (by kernel_rfl) (by kernel_rfl) (by kernel_rfl) (by rfl) (by kernel_rfl) ?_ ?_ ?_
  ·exact (iU (jS _) (iU (jS _) (iU (jS _) (iU (jS _) vS))))
  ·refine iJ ?_ ?_
   ·intro a w' vs hB hel hd
    have e4:a.tmps[4]? = some (.pointer (some ⟨w0.heap.size,0,none⟩)):=(hel 4 (by kernel_rfl)).trans (by rfl)
    have hy0:=vI hB hc1
    refine ⟨_,rfl,rfl,fun K hK=>?_⟩
    refine jC (w1:=w') (v:=.slice Av (frs xs).length cv) (by rfl) rfl ?_ (hK _ _ (by exact rfl) (Below.refl _ _))
    ·go_simp
     (try simp only [iO,iY])
     (try rfl)
     (try (unfold Go.RowKit.wrap64;omega))
   refine iJ ?_ ?_
   ·intro a w' vs hB hel hd
    have e5:a.tmps[5]? = some (.pointer (some ⟨w0.heap.size+1,0,none⟩)):=(hel 5 (by kernel_rfl)).trans (by rfl)
    have hy0:=vI hB hc2
    refine ⟨_,rfl,rfl,fun K hK=>?_⟩
    refine jC (w1:=w') (v:=.int .i64 (yE xs:Int)) (by rfl) rfl ?_ (hK _ _ (by exact rfl) (Below.refl _ _))
    ·go_simp
     (try simp only [iO,iY])
     (try rfl)
     (try (unfold Go.RowKit.wrap64;omega))
   refine iJ ?_ ?_
   ·intro a w' vs hB hel hd
    obtain ⟨f17,r17⟩:=hd 0 (by kernel_rfl)
    have e17:a.tmps[17]? = some (.slice Av (frs xs).length cv):=f17.trans (congrArg some (r17:vs 0=(.slice Av (frs xs).length cv)))
    refine ⟨_,rfl,rfl,fun K hK=>?_⟩
    refine jC (w1:=w') (v:=.slice Av (frs xs).length cv) (by rfl) rfl ?_ (hK _ _ (by exact rfl) (Below.refl _ _))
    ·go_simp
     (try simp only [iO,iY])
     (try rfl)
     (try (unfold Go.RowKit.wrap64;omega))
   refine iJ ?_ ?_
   ·intro a w' vs hB hel hd
    obtain ⟨f18,r18⟩:=hd 1 (by kernel_rfl)
    have e18:a.tmps[18]? = some (.int .i64 (yE xs:Int)):=f18.trans (congrArg some (r18:vs 1=(.int .i64 (yE xs:Int))))
    refine ⟨_,rfl,rfl,fun K hK=>?_⟩
    refine jC (w1:=w') (v:=.int .i64 (yE xs:Int)) (by rfl) rfl ?_ (hK _ _ (by exact rfl) (Below.refl _ _))
    ·go_simp
     (try simp only [iO,iY])
     (try rfl)
     (try (unfold Go.RowKit.wrap64;omega))
   exact oV
  ·intro vs w' hB hR
   have hv0_:vs 0=(.slice Av (frs xs).length cv):=hR 0 (by kernel_rfl)
   have hv1_:vs 1=(.int .i64 (yE xs:Int)):=hR 1 (by kernel_rfl)
   have hv2_:vs 2=(.slice Av (frs xs).length cv):=hR 2 (by kernel_rfl)
   have hv3_:vs 3=(.int .i64 (yE xs:Int)):=hR 3 (by kernel_rfl)
   rw [show entries [17,18,2,3] vs=[(0,17,vs 0),(1,18,vs 1),(2,2,vs 2),(3,3,vs 3)] from rfl]
   simp only [jX,if_true,Act.put,sb_,sz_,ss_,hv0_,hv1_,hv2_,hv3_]
   clear hR hv0_ hv1_ hv2_ hv3_
   have hB0':=iH HB0.out hB
   have hK2:w'.heap[D]? = some (.deferred (some [])):=iI hB hK
   gi_wp2
   refine ⟨by simp,.inl ⟨_,_,rfl,run_takeDeferred hK2,?_⟩⟩
   refine ⟨_,results_tmp2 rfl _ _ _,.slice Av (frs xs).length cv,?_,?_,?_⟩
   ·rw [← hS2];rfl
   ·rw [← hS1]
    exact MQ (OBB.lower (OBB.below hO hB) hlow) hK2 rfl _
   ·exact (hB0'.trans (belowK_b (w:=w0) (Nat.le_refl _) w' D _ _ hDl hK2 rfl rfl))
end
end Go.Proofs.YtgfkgppomaapiaaGreatDoor.My
namespace Go.Proofs.YtgfkgppomaapiaaGreatDoor.K
open RowKit YtgfkgppomaapiaaGreatDoorW.PrintWords YtgfkgppomaapiaaGreatDoorW.PrintLast YtgfkgppomaapiaaGreatDoorW.PrintMore My
section
theorem uQ {w:World} {A:Option Addr} {n:Nat} {l:List UInt8} (h:kb.C w A n l):(Kd.int .u8).C w A n (nums l):=by
 refine ⟨by rw [jM];exact h.1,h.2.1,fun hn=>?_⟩
 obtain ⟨ad,e,hc⟩:=h.2.2 hn
 refine ⟨ad,e,fun j p hj=>?_⟩
 unfold nums at hj
 rw [List.getElem?_map] at hj
 obtain ⟨b,hb,rfl⟩:=Option.map_eq_some_iff.1 hj
 exact hc j b hb
end
section
def endK (ls:List (List UInt8)) (k:Nat):Nat:=endB (ls.take k)
theorem NU (ls:List (List UInt8)) (k:Nat) (h:k<ls.length):endK ls (k+1)=endK ls k+((ls.getD k []).length+7):=by
 unfold endK
 rw [List.take_add_one,rQ]
 have:ls[k]?.toList=[ls.getD k []]:=by rw [List.getElem?_eq_getElem h];simp [List.getD_eq_getElem?_getD,List.getElem?_eq_getElem h]
 rw [this]
 simp [endB]
theorem YZ (ls:List (List UInt8)) (k:Nat):endK ls k≤endB ls:=by
 unfold endK
 conv=>rhs;rw [← List.take_append_drop k ls]
 rw [rQ]
 omega
def decK (ls:List (List UInt8)) (k:Nat):List SRec:=(ls.take k).map fun x=>(decR x).1
theorem NT (ls:List (List UInt8)) (k:Nat) (h:k<ls.length):decK ls (k+1)=decK ls k ++ [(decR (ls.getD k [])).1]:=by
 unfold decK
 rw [List.take_add_one,List.map_append]
 have:ls[k]?.toList=[ls.getD k []]:=by rw [List.getElem?_eq_getElem h];simp [List.getD_eq_getElem?_getD,List.getElem?_eq_getElem h]
 rw [this]
 rfl
def okK (ls:List (List UInt8)) (k:Nat):Prop:=okL ls=ls.take k ++ okL (ls.drop k)
theorem TN (ls:List (List UInt8)):okK ls 0:=by unfold okK;simp
theorem OC (ls:List (List UInt8)) (k:Nat) (h:k<ls.length):ls.drop k=ls.getD k [] :: ls.drop (k+1):=by
 rw [List.drop_eq_getElem_cons h]
 simp [List.getD_eq_getElem?_getD,List.getElem?_eq_getElem h]
theorem TL {ls:List (List UInt8)} {k:Nat} (h:okK ls k) (hk:k<ls.length) (hd:(decR (ls.getD k [])).2=0):okK ls (k+1):=by
 unfold okK at h ⊢
 rw [h,OC ls k hk]
 have h1:okL (ls.getD k [] :: ls.drop (k+1))=ls.getD k [] :: okL (ls.drop (k+1)):=by
  show List.takeWhile _ (_ :: _)=_
  rw [List.takeWhile_cons_of_pos (p:=fun x=>(decR x).2 == 0) (beq_iff_eq.2 hd)]
  rfl
 rw [h1,List.take_add_one,List.append_assoc]
 have:ls[k]?.toList=[ls.getD k []]:=by rw [List.getElem?_eq_getElem hk];simp [List.getD_eq_getElem?_getD,List.getElem?_eq_getElem hk]
 rw [this]
 rfl
theorem TD {ls:List (List UInt8)} {k:Nat} (h:okK ls k) (hk:k<ls.length) (hd:(decR (ls.getD k [])).2≠0):okL ls=ls.take k:=by
 unfold okK at h
 rw [h,OC ls k hk]
 have h1:okL (ls.getD k [] :: ls.drop (k+1))=[]:=by
  show List.takeWhile _ (_ :: _)=_
  rw [List.takeWhile_cons_of_neg (p:=fun x=>(decR x).2 == 0) (fun h=>hd (beq_iff_eq.1 h))]
 rw [h1,List.append_nil]
theorem XU {ls:List (List UInt8)} (h:okK ls ls.length):okL ls=ls:=by
 unfold okK at h
 rw [h,List.take_length,List.drop_length]
 simp [okL]
attribute [-go_sem] Instr.build Instr.storeAt
set_option maxRecDepth 20000 in
set_option maxHeartbeats 8000000 in
theorem P6 (A:Option Addr) (c:Nat) (l:List UInt8) (w0:World) (hr:kb.C w0 A l.length l) (hc:l.length≤c) (hs:(l.length:Int)≤1000000) :
  Calls Tryz.prog 29 #[.slice A l.length c] w0 fun e w'=>∃ v,e=.returned (.tuple #[v,.int .i64 (endB (okL (kX l)):Nat)])∧RRs w' w0.heap.size v (nY (kX l))∧Below w0.heap.size w0 w':=by
 have hcall:=ja5 A c l w0 hr hc hs
 have hend:endB (kX l)≤1000000:=by have:=YO l;omega
 have hlen:(kX l).length≤endB (kX l):=by
  unfold endB
  generalize kX l=q
  induction q with
  | nil=>simp
  | cons x q ih=>simp only [List.map_cons,List.sum_cons,List.length_cons];omega
 have HSM:=iC.mk (fun x hx=>(QI l).elim fun r h=>h.2.2 x hx:∀ x∈kX l,x.length≤60000)
 obtain ⟨ls,hls⟩:∃ ls,kX l=ls:=⟨_,rfl⟩
 rw [hls] at hcall hend hlen HSM ⊢
 have hlI:(ls.length:Int)≤1000000:=by omega
 have hEI:(endB ls:Int)≤1000000:=by omega
 have HEN:=iC.mk hend
 clear hls hr hc hs hend hlen
 go_enter Tryz.func29,Tryz.ntmps29
 go_wp2_with fail
 go_at_call 49
 refine hcall.mono ?_
 rintro e w1 ⟨v,rfl,hO,hb1⟩
 obtain ⟨Aa,ca,rfl,hca,hC⟩:=hO.reads
 have HC:=iC.mk hC
 have HB1:=iC.mk hb1
 clear hcall hO hC hb1
 go_wp2
 go_loopw [6,7,21] (fun o s i wr=>∃ k:Nat,k≤ls.length∧i=.int .i64 k∧s=.int .i64 (endK ls k:Int)∧iC (okK ls k)∧iC (RRs wr w1.heap.size o (decK ls k))∧iC (Below w1.heap.size w1 wr)) (fun _ _ i _=>ls.length - (intOf i).toNat)
 case atStart=>exact ⟨0,Nat.zero_le _,rfl,rfl,⟨TN _⟩,⟨Kd.R_nil _ _ _ _ _⟩,⟨Below.refl _ _⟩⟩
 case round =>
  obtain ⟨k,hk,rfl,rfl,HOK,HR,HB⟩:=hrel
  obtain ⟨Ao,co,rfl⟩:=Kd.R_slice HR.out
  by_cases hlt:k<ls.length
  ·obtain ⟨ad,A3,c3,rfl,hx,hxc,hxC⟩:=VN (Kd.C_below HC.out HB.out) k hlt
   have hsu:=NU ls k hlt
   have hle:=YZ ls (k+1)
   have hmem:ls.getD k []∈ls:=by
    rw [List.getD_eq_getElem?_getD,List.getElem?_eq_getElem hlt]
    exact List.getElem_mem hlt
   have h6:=HSM.out _ hmem
   have hdec:=decode_any A3 c3 (ls.getD k []) wr (uQ hxC) hxc
   have HDK:=iC.mk (NT ls k hlt)
   have hn1:=fun h=>TL HOK.out hlt h
   have hn2:=fun h=>TD HOK.out hlt h
   have HLT:=iC.mk hlt
   generalize ls.getD k []=x at hx hxc hxC hsu h6 hdec HDK hn1 hn2
   have HSU:=iC.mk (show (endK ls k:Int)+((x.length:Int)+7)=(endK ls (k+1):Int) from by omega)
   have hb2:(endK ls k:Int)+((x.length:Int)+7)≤1000000:=by omega
   have hk1:(k:Int)<(ls.length:Int):=by omega
   obtain ⟨⟨X,E⟩,hD⟩:∃ D,decR x=D:=⟨_,rfl⟩
   rw [hD] at hdec HDK hn1 hn2
   have HXC:=iC.mk hxC
   have HN1:=iC.mk hn1
   have HN2:=iC.mk hn2
   have hxm:=lD hxC
   have hwl:=qH x
   clear hsu hle hmem hxC hn1 hn2 hD hlt
   obtain ⟨wo,rfl⟩:∃ x:World,x=wr:=⟨_,rfl⟩
   go_wp2_with fail
   go_at_call 50
   refine hdec.mono ?_
   rintro e w2 ⟨v,rfl,hv,hb2'⟩
   obtain ⟨B3,b3,B4,b4,B6,b6,B9,b9,rfl,hO⟩:=OJ hv
   dsimp only at hO
   dsimp only
   have hsx:=fun (_:True)=>run_storeAt_new (P:=Tryz.prog) w2 54 #[.int .u8 0,.int .u32 0,.int .u32 0,.slice none 0 0,.slice none 0 0,.int .u32 0,.slice none 0 0,.int .i64 0,.int .i64 0,.slice none 0 0] #[.int .u8 X.f0,.int .u32 X.f1,.int .u32 X.f2,.slice B3 X.f3.length b3,.slice B4 X.f4.length b4,.int .u32 X.f5.f0,.slice B6 X.f5.f1.length b6,.int .i64 X.f6,.int .i64 X.f7,.slice B9 X.f8.length b9] (by kernel_rfl) rfl (by simp [Value.oneCell'])
   obtain ⟨W2,hW2⟩:∃ W,W=w2.alloc (.cells #[.int .u8 X.f0,.int .u32 X.f1,.int .u32 X.f2,.slice B3 X.f3.length b3,.slice B4 X.f4.length b4,.int .u32 X.f5.f0,.slice B6 X.f5.f1.length b6,.int .i64 X.f6,.int .i64 X.f7,.slice B9 X.f8.length b9] 54):=⟨_,rfl⟩
   have hbw:Below w2.heap.size w2 W2:=by rw [hW2];exact iD (Below.refl _ _) _
   have hbb:Below wo.heap.size wo W2:=iH hb2' hbw
   have HX2:=iC.mk (show W2.heap[w2.heap.size]? = some (.cells #[.int .u8 X.f0,.int .u32 X.f1,.int .u32 X.f2,.slice B3 X.f3.length b3,.slice B4 X.f4.length b4,.int .u32 X.f5.f0,.slice B6 X.f5.f1.length b6,.int .i64 X.f6,.int .i64 X.f7,.slice B9 X.f8.length b9] 54 (0,0)) from by rw [hW2];exact iP rfl)
   have HO2:=iC.mk ((hO.below hbw).lower HB.out.size)
   have HR2:=iC.mk (HR.out.below hbb)
   have HB2:=iC.mk (iH HB.out hbb)
   have HXC2:=iC.mk (Kd.C_below HXC.out hbb)
   have HW2:=iC.mk hW2
   clear hdec hv hO hb2' hbw hbb hW2 HR HB HXC
   go_upto_region 8 with fail
   rw [← HW2.out]
   clear hsx HW2
   by_cases hE:E=0
   ·subst hE
    have HOK2:=iC.mk (HN1.out rfl)
    have hwrap:=wrap_any A3 c3 x W2 HXC2.out hxc h6
    clear HOK HN1 HN2
    go_wp2_with fail
    go_at_call 42
    refine hwrap.mono ?_
    rintro e w3 ⟨vw,rfl,hOw,hb3⟩
    obtain ⟨Aw,cw,rfl,hcw,hCw⟩:=hOw.reads
    have HX3:=iC.mk (iI hb3 HX2.out)
    have HO3:=iC.mk (HO2.out.below hb3)
    have HR3:=iC.mk (HR2.out.below hb3)
    have HB3:=iC.mk (iH HB2.out hb3)
    rw [hwl]
    clear hwrap hOw hCw hb3 hcw HX2 HO2 HR2 HB2 HXC2 hwl
    obtain ⟨wz0,wz1,wz2,wz3,wz4,wz5,wz6,wz7,wz8,wz9,wy0,wy1,wy2,wy3,wy4,wy5,wy6,wy7,wy8,wy9⟩:=ten (HX3.out)
    clear wy0 wy1 wy2 wy3 wy4 wy5 wy6 wy7 wy8 wy9
    have HLK:=iC.mk (show (decK ls k).length=k from by unfold decK;rw [List.length_map,List.length_take];have:=HLT.out;omega)
    go_wp2_with (at_builtin;go_loud (refine Kd.R_append kR (w0:=w3) w1.heap.size rfl (.tmp 41) (.tmp 43) 33 54 (.agg #[.int .u8 0,.int .u32 0,.int .u32 0,.slice none 0 0,.slice none 0 0,.int .u32 0,.slice none 0 0,.int .i64 0,.int .i64 0,.slice none 0 0]) 136 rfl Tryz.underlying33 TC rfl (by decide) (by omega) (.slice Ao (decK ls k).length co) (decK ls k) X [.int .u8 X.f0,.int .u32 X.f1,.int .u32 X.f2,.slice B3 X.f3.length b3,.slice B4 X.f4.length b4,.int .u32 X.f5.f0,.slice B6 X.f5.f1.length b6,.int .i64 X.f6,.int .i64 X.f7,.slice B9 X.f8.length b9] (fun _=>True) (fun j=>some j≠(Value.slice Ao (decK ls k).length co).ownBlock) rfl rfl ?aP ?aK ?aF ?aO (Below.refl _ _) ?aB ?aL ?_;(case aP=>exact OH (kR_M HO3.out) HR3.out);(case aK=>exact fun _ h=>⟨trivial,h⟩);(case aF=>exact fun _ _=>trivial);(case aO=>exact HR3.out);(case aB=>exact HB3.out.size);(case aL=>(rw [HLK.out];omega));intro v5 w5 ho hb5 hg5 hat;have HR5:=iC.mk (show RRs w5 w1.heap.size v5 (decK ls (k+1)) from by rw [HDK.out];exact ho);have HB5:=iC.mk (HB3.out.trans hb5);clear ho hb5 hg5 hat))
    go_roundw
    case rel=>exact ⟨k+1,by omega,by go_num,by rw [← HSU.out],HOK2,HR5,HB5⟩
    case measure=>simp [intOf];omega
   ·have HOK2:=iC.mk (HN2.out hE)
    clear HOK HN1 HN2 h6 hwl hb2 hEI hlI
    go_wp2
    go_ret2
    rw [show endB (okL ls)=endK ls k from by rw [HOK2.out];rfl,show nY ls=decK ls k from by unfold nY;rw [HOK2.out];rfl]
    exact ⟨.slice Ao (decK ls k).length co,rfl,HR2.out.lower HB1.out.size,iH HB1.out HB2.out⟩
  ·obtain rfl:k=ls.length:=by omega
   have HOK2:=iC.mk (XU HOK.out)
   go_wp2
   go_ret2
   rw [show endB (okL ls)=endK ls ls.length from by rw [HOK2.out];unfold endK;rw [List.take_length],show nY ls=decK ls ls.length from by unfold nY decK;rw [HOK2.out,List.take_length]]
   exact ⟨.slice Ao (decK ls ls.length).length co,rfl,HR.out.lower HB1.out.size,iH HB1.out HB.out⟩
end
end Go.Proofs.YtgfkgppomaapiaaGreatDoor.K
section
namespace Go.Proofs.YtgfkgppomaapiaaGreatDoor.K
open RowKit YtgfkgppomaapiaaGreatDoorW.PrintWords YtgfkgppomaapiaaGreatDoorW.PrintLast YtgfkgppomaapiaaGreatDoorW.PrintMore My
structure DM where
 bs:List UInt8
 lasts:Nat
 room:Nat
 left:Int
structure DM.ok (d:DM):Prop where
 fit:d.bs.length≤d.room
 las:d.lasts≤d.bs.length
 room:d.room≤1048576
 lef:d.left≤9223372036854775807
def DM.new (room:Nat):DM:=⟨[],0,room,-1⟩
def DM.full (d:DM) (l:List UInt8):Prop:=(d.room:Int) - d.bs.length<l.length
instance (d:DM) (l:List UInt8):Decidable (d.full l):=by unfold DM.full;infer_instance
def DM.app (d:DM) (l:List UInt8):DM:=if d.left=0 then d else if d.full l then { d with left:=dec d.left } else { d with bs:=d.bs ++ l,left:=dec d.left }
def DM.appE (d:DM) (l:List UInt8):Int:=if d.left=0 then 100 else if d.full l then 100 else 0
def DM.sync (d:DM):DM:=if d.left=0 then d else { d with lasts:=d.bs.length,left:=dec d.left }
def DM.syncE (d:DM):Int:=if d.left=0 then 100 else 0
def DM.out (d:DM) (n:Int):Prop:=n<0∨(d.bs.length:Int)<n
instance (d:DM) (n:Int):Decidable (d.out n):=by unfold DM.out;infer_instance
def DM.cut (d:DM) (n:Int):DM:=if d.left=0 then d else if d.out n then { d with left:=dec d.left } else { d with bs:=d.bs.take n.toNat,lasts:=min d.lasts n.toNat,left:=dec d.left }
def DM.cutE (d:DM) (n:Int):Int:=if d.left=0 then 100 else if d.out n then 1 else 0
def DM.kept (d:DM) (keep:Int):Nat:=d.lasts+min keep.toNat (d.bs.length - d.lasts)
def DM.crash (d:DM) (keep:Int):DM:={ d with bs:=d.bs.take (d.kept keep),lasts:=d.kept keep,left:=-1 }
def DM.halt (d:DM) (n:Int):DM:={ d with left:=max n (-1) }
theorem OZ {x:Int} (h:x≤9223372036854775807):dec x≤9223372036854775807:=by unfold dec;split <;> omega
theorem DM.new_ok {room:Nat} (h:room≤1048576):(DM.new room).ok:=⟨Nat.zero_le _,Nat.zero_le _,h,by show (-1:Int)≤_;omega⟩
theorem DM.app_ok {d:DM} (h:d.ok) (l:List UInt8):(d.app l).ok:=by
 unfold DM.app
 split
 ·exact h
 ·split
  ·exact ⟨h.fit,h.las,h.room,OZ h.lef⟩
  ·rename_i h1
   unfold DM.full at h1
   refine ⟨?_,?_,h.room,OZ h.lef⟩
   ·show (d.bs ++ l).length≤d.room
    rw [List.length_append]
    omega
   ·show d.lasts≤(d.bs ++ l).length
    have:=h.las
    rw [List.length_append]
    omega
theorem DM.sync_ok {d:DM} (h:d.ok):d.sync.ok:=by
 unfold DM.sync
 split
 ·exact h
 ·exact ⟨h.fit,Nat.le_refl _,h.room,OZ h.lef⟩
theorem DM.cut_ok {d:DM} (h:d.ok) (n:Int):(d.cut n).ok:=by
 unfold DM.cut
 split
 ·exact h
 ·split
  ·exact ⟨h.fit,h.las,h.room,OZ h.lef⟩
  ·have h1:=h.fit
   have h2:=h.las
   refine ⟨?_,?_,h.room,OZ h.lef⟩
   ·show (d.bs.take n.toNat).length≤d.room
    rw [List.length_take]
    omega
   ·show min d.lasts n.toNat≤(d.bs.take n.toNat).length
    rw [List.length_take]
    omega
theorem DM.kept_le {d:DM} (h:d.ok) (keep:Int):d.kept keep≤d.bs.length:=by
 have:=h.las
 unfold DM.kept
 omega
theorem DM.crash_ok {d:DM} (h:d.ok) (keep:Int):(d.crash keep).ok:=by
 have h1:=h.fit
 have h2:=DM.kept_le h keep
 refine ⟨?_,?_,h.room,by show (-1:Int)≤_;omega⟩
 ·show (d.bs.take (d.kept keep)).length≤d.room
  rw [List.length_take]
  omega
 ·show d.kept keep≤(d.bs.take (d.kept keep)).length
  rw [List.length_take]
  omega
theorem DM.halt_ok {d:DM} (h:d.ok) {n:Int} (hn:n≤9223372036854775807):(d.halt n).ok:=⟨h.fit,h.las,h.room,by show max n (-1)≤_;omega⟩
def DD (w:World) (b:Nat) (row:Option Nat) (d:DM):Prop:=Dk w b row d.bs d.lasts d.room d.left∧d.ok
def DP (v:Value) (w:World) (b:Nat) (row:Option Nat) (d:DM) (e:Ending) (w':World):Prop:=e=.returned v∧∃ row',DD w' b row' d∧Nw w row row'∧Kb b row w w'
theorem DD.below {w w':World} {b:Nat} {row:Option Nat} {d:DM} (h:DD w b row d) (hb:Below w.heap.size w w'):DD w' b row d:=⟨h.1.below hb,h.2⟩
theorem mn_eq {lasts:Nat} {n:Int} (h:0≤n):mn (lasts:Int) n=((min lasts n.toNat:Nat):Int):=by unfold mn;split <;> omega
theorem YP {lasts len:Nat} {keep:Int} (h:lasts≤len):((lasts+min keep.toNat (len - lasts):Nat):Int)=lasts+mn (mx keep 0) ((len:Int) - lasts):=by unfold mn mx;split <;> split <;> omega
section
variable {w:World} {b:Nat} {row:Option Nat} {d:DM}
theorem jf9 {w:World} {b:Nat} {row:Option Nat} {n n':Int} {bs:List UInt8} {lasts room left:Int} {d':DM} {e:Ending} {w':World} (h:EQ (DQ w b row n bs lasts room left) e w') (hn:n=n') (hd:bs=d'.bs∧lasts=d'.lasts∧room=d'.room∧left=d'.left) (hok:d'.ok):DP (.int .u16 n') w b row d' e w':=by
 obtain ⟨m,rfl,rfl,row',h1,h2,h3⟩:=h
 obtain ⟨rfl,rfl,rfl,rfl⟩:=hd
 subst hn
 exact ⟨rfl,row',⟨h1,hok⟩,h2,h3⟩
theorem TA (d:DM) (l:List UInt8):(if d.left=0 then 100 else apE d.bs l d.room)=d.appE l∧(if d.left=0 then d.bs else apB d.bs l d.room)=(d.app l).bs∧(d.lasts:Int)=(d.app l).lasts∧(d.room:Int)=(d.app l).room∧dec d.left=(d.app l).left:=by
 unfold DM.appE DM.app apE apB DM.full
 by_cases h0:d.left=0
 ·simp [h0,dec]
 ·by_cases h1:(d.room:Int) - d.bs.length<l.length <;> simp [h0,h1]
theorem N9 (d:DM):(if d.left=0 then 100 else 0:Int)=d.syncE∧d.bs=d.sync.bs∧(if d.left=0 then (d.lasts:Int) else d.bs.length)=d.sync.lasts∧(d.room:Int)=d.sync.room∧dec d.left=d.sync.left:=by
 unfold DM.syncE DM.sync
 by_cases h0:d.left=0 <;> simp [h0,dec]
theorem U2 (d:DM) (n:Int):(if d.left=0 then 100 else ctE d.bs n)=d.cutE n∧(if d.left=0 then d.bs else ctB d.bs n)=(d.cut n).bs∧(if d.left=0 then (d.lasts:Int) else ctL d.bs d.lasts n)=(d.cut n).lasts∧(d.room:Int)=(d.cut n).room∧dec d.left=(d.cut n).left:=by
 unfold DM.cutE DM.cut ctE ctB ctL DM.out
 by_cases h0:d.left=0
 ·simp [h0,dec]
 ·by_cases h1:n<0∨(d.bs.length:Int)<n
  ·simp [h0,h1]
  ·simp only [h0,h1,if_false]
   exact ⟨trivial,trivial,mn_eq (by omega),trivial,trivial⟩
theorem jd3 {l:List UInt8} {A:Option Addr} {c:Nat} (h:DD w b row d) (hC:kb.C w A l.length l) (hab:∀ a,A=some a→0<l.length→a.block≠b) (hl:l.length≤140737480000000) :
  Calls Tryz.prog 8 #[.pointer (some ⟨b,0,none⟩),.slice A l.length c] w (DP (.int .u16 (d.appE l)) w b row (d.app l)) :=
 (PQ h.1 hC hab (by have:=h.2.fit;omega) (by have:=h.2.room;omega) hl h.2.lef).mono fun _ _ hq=>jf9 hq (TA d l).1 (TA d l).2 (DM.app_ok h.2 l)
theorem X4 (h:DD w b row d):Calls Tryz.prog 31 #[.pointer (some ⟨b,0,none⟩)] w (DP (.int .u16 d.syncE) w b row d.sync) :=
 (XF h.1 (by have:=h.2.fit;have:=h.2.room;omega) h.2.lef).mono fun _ _ hq=>jf9 hq (N9 d).1 (N9 d).2 (DM.sync_ok h.2)
theorem jl8 (n:Int) (h:DD w b row d):Calls Tryz.prog 30 #[.pointer (some ⟨b,0,none⟩),.int .i64 n] w (DP (.int .u16 (d.cutE n)) w b row (d.cut n)) :=
 (ZW n h.1 (by have:=h.2.fit;have:=h.2.room;omega) h.2.lef).mono fun _ _ hq=>jf9 hq (U2 d n).1 (U2 d n).2 (DM.cut_ok h.2 n)
theorem VY (keep:Int) (h:DD w b row d):Calls Tryz.prog 22 #[.pointer (some ⟨b,0,none⟩),.int .i64 keep] w (DP (.tuple #[]) w b row (d.crash keep)) :=
 (UF (k:=d.kept keep) keep h.1 (by have:=h.2.fit;have:=h.2.room;omega) (Int.natCast_nonneg _) (by have:=h.2.las;omega) (YP h.2.las)).mono fun _ _ ⟨he,h1,h2⟩=>⟨he,row,⟨h1,DM.crash_ok h.2 keep⟩,fun k e=>.inl e,Kb.of_grown h2⟩
theorem jf0 (n:Int):mx n (-1)=max n (-1):=by unfold mx;split <;> omega
theorem jm0 (n:Int) (hn:n≤9223372036854775807) (h:DD w b row d):Calls Tryz.prog 20 #[.pointer (some ⟨b,0,none⟩),.int .i64 n] w (DP (.tuple #[]) w b row (d.halt n)) :=
 (XX n h.1).mono fun _ _ ⟨he,h1,h2⟩=>⟨he,row,⟨by rw [jf0] at h1;exact h1,DM.halt_ok h.2 hn⟩,fun k e=>.inl e,Kb.of_grown h2⟩
theorem YT (h:DD w b row d):Calls Tryz.prog 13 #[.pointer (some ⟨b,0,none⟩)] w fun e w'=>∃ v,e=.returned v∧OB w' w.heap.size v d.bs∧Below w.heap.size w w':=XA h.1 (by have:=h.2.fit;have:=h.2.room;omega)
theorem jl_ (room:Nat) (w:World) (h:room≤1048576):Calls Tryz.prog 6 #[.int .i64 room] w fun e w'=>e=.returned (.pointer (some ⟨w.heap.size,0,none⟩))∧DD w' w.heap.size none (DM.new room)∧Below w.heap.size w w' :=
 (WO room w (Int.natCast_nonneg _) (by omega)).mono fun _ _ ⟨h1,h2,h3⟩=>⟨h1,⟨h2,DM.new_ok h⟩,h3⟩
end
structure One (w0 w:World) (b:Nat) (row:Option Nat) (d:DM):Prop where
 dd:DD w b row d
 blk:w0.heap.size≤b
 row:∀ k,row=some k→w0.heap.size≤k
 bel:Below w0.heap.size w0 w
theorem One.step {w0 w w':World} {b:Nat} {row row':Option Nat} {d d':DM} (h:One w0 w b row d) (hd:DD w' b row' d') (hn:Nw w row row') (hk:Kb b row w w'):One w0 w' b row' d':=by
 refine ⟨hd,h.blk,fun k e=>(hn k e).elim (fun e'=>h.row k e') (fun h'=>Nat.le_trans h.bel.size h'),?_⟩
 have:=h.bel.trans (hk.below (B:=w0.heap.size) h.bel.size h.blk h.row)
 exact this
theorem One.new {w0 w w':World} {room:Nat} (h0:Below w0.heap.size w0 w) (h:DD w' w.heap.size none (DM.new room)) (hb:Below w.heap.size w w'):One w0 w' w.heap.size none (DM.new room) :=
 ⟨h,h0.size,(fun _ e=>by cases e),h0.trans (hb.mono h0.size)⟩
theorem Rw.kb {w w':World} {b:Nat} {row:Option Nat} {r:Nat} {ao:Option Addr} {rr:Option Nat} {cap:Nat} {bs:List UInt8} (h:Rw w r ao rr cap bs) (hk:Kb b row w w') (h1:∀ k,rr=some k→k≠b∧some k≠row):Rw w' r ao rr cap bs:=by
 rcases h with h | ⟨g,cur,e1,e2,h3,h4,h5⟩
 ·exact .inl h
 ·exact .inr ⟨g,cur,e1,e2,h3,(hk.block g (jH h4) (h1 g e2).1 (h1 g e2).2).trans h4,h5⟩
theorem DD.kb {w w':World} {b:Nat} {row:Option Nat} {r:Nat} {rr:Option Nat} {d:DM} (h:DD w r rr d) (hk:Kb b row w w') (hr:r≠b) (hr2:some r≠row) (h1:∀ k,rr=some k→k≠b∧some k≠row):DD w' r rr d:=by
 obtain ⟨⟨ao,cap,lr,hD,hR⟩,hok⟩:=h
 exact ⟨⟨ao,cap,lr,(hk.block r hD.lt hr hr2).trans hD,hR.kb hk h1⟩,hok⟩
theorem Rw.row_lt {w:World} {b:Nat} {ao:Option Addr} {row:Option Nat} {cap:Nat} {bs:List UInt8} (h:Rw w b ao row cap bs) (k:Nat) (e:row=some k):k<w.heap.size∧k≠b:=by
 rcases h with ⟨_,h,_⟩ | ⟨g,cur,_,e2,h3,h4,_⟩
 ·rw [h] at e;cases e
 ·rw [e2] at e;cases e;exact ⟨jH h4,h3⟩
theorem DD.row_lt {w:World} {b:Nat} {row:Option Nat} {d:DM} (h:DD w b row d) (k:Nat) (e:row=some k):k<w.heap.size∧k≠b:=by
 obtain ⟨⟨ao,cap,lr,hD,hR⟩,hok⟩:=h
 exact hR.row_lt k e
end Go.Proofs.YtgfkgppomaapiaaGreatDoor.K
end
section
namespace Go.Proofs.YtgfkgppomaapiaaGreatDoor.K
open RowKit YtgfkgppomaapiaaGreatDoorW.PrintWords YtgfkgppomaapiaaGreatDoorW.PrintLast YtgfkgppomaapiaaGreatDoorW.PrintMore My
section
variable {w w':World} {b:Nat} {row:Option Nat} {d:DM}
theorem DD.blk (h:DD w b row d):∃ cs,w.heap[b]? = some (.cells cs 67 (0,0)):=by
 obtain ⟨⟨_,_,_,hD,_⟩,_⟩:=h
 exact ⟨_,hD⟩
theorem DD.rowt (h:DD w b row d) (k:Nat) (e:row=some k):∃ cs,w.heap[k]? = some (.cells cs 5 (0,0)):=by
 obtain ⟨⟨_,_,_,_,hR⟩,_⟩:=h
 rcases hR with ⟨_,h2,_⟩ | ⟨g,cur,_,h2,_,h3,_⟩
 ·rw [h2] at e;cases e
 ·rw [h2] at e;injection e with e;subst e;exact ⟨cur,h3⟩
theorem DD.stays (h:DD w b row d) (hk:Kb b row w w') {g t:Nat} {cells:Array Value} (hg:w.heap[g]? = some (.cells cells t (0,0))) (h1:t≠67) (h2:t≠5):w'.heap[g]? = some (.cells cells t (0,0)):=by
 refine (hk.block g (jH hg) (fun e=>?_) (fun e=>?_)).trans hg
 ·subst e
  obtain ⟨cs,hc⟩:=h.blk
  rw [hg] at hc
  injection hc with hc
  injection hc with _ hc
  exact h1 hc
 ·obtain ⟨cs,hc⟩:=h.rowt g e.symm
  rw [hg] at hc
  injection hc with hc
  injection hc with _ hc
  exact h2 hc
theorem R_kb {α:Type} {kd:Kd α} {e base:Nat} {v:Value} {xs:List α} (hr:kd.R e w base (fun _=>True) v xs) (h:DD w b row d) (hk:Kb b row w w') (hE:∀ q∈e :: kd.E,q≠67∧q≠5):kd.R e w' base (fun _=>True) v xs :=
 Kd.R_mono (Kd.R_move (Kd.R_bound hr) (fun k hq=>by
  obtain ⟨_,_,_,q,hq,cells,hc⟩:=hq
  rw [hc]
  exact h.stays hk hc (hE q hq).1 (hE q hq).2)) (fun _ _=>trivial)
theorem jo9:∀ q∈54 :: kR.E,q≠67∧q≠5:=by decide
theorem RRs.kb {base:Nat} {v:Value} {l:List SRec} (hr:RRs w base v l) (h:DD w b row d) (hk:Kb b row w w'):RRs w' base v l:=R_kb hr h hk jo9
def Lg (w:World) (g b:Nat):Prop:=w.heap[g]? = some (.cells #[.pointer (some ⟨b,0,none⟩)] 79 (0,0))
theorem Lg.kb {g:Nat} (hl:Lg w g b) (h:DD w b row d) (hk:Kb b row w w'):Lg w' g b:=h.stays hk hl (by decide) (by decide)
theorem Lg.below {g:Nat} (hl:Lg w g b) (hb:Below w.heap.size w w'):Lg w' g b:=iI hb hl
end
def walN (d:DM):Nat:=endB (okL (kX d.bs))
theorem jl9 (ls:List (List UInt8)):endB (okL ls)≤endB ls:=by
 unfold okL
 induction ls with
 | nil=>simp
 | cons x t ih =>
  rw [List.takeWhile_cons]
  split
  ·rw [uG,uG];omega
  ·simp [endB]
theorem PW (d:DM):walN d≤d.bs.length:=Nat.le_trans (jl9 _) (YO _)
def cutD (d:DM):DM:=if walN d<d.bs.length then d.cut (walN d) else d
def cutO (d:DM):Int:=if walN d<d.bs.length then d.cutE (walN d) else 0
def nM (d:DM):DM:=if cutO d=0 then (cutD d).sync else cutD d
def nO (d:DM):Int:=if cutO d=0 then (cutD d).syncE else cutO d
def ji6 (w:World) (b:Nat) (row:Option Nat) (d:DM) (e:Ending) (w':World):Prop :=
 ∃ row',DD w' b row' (nM d)∧Nw w row row'∧Kb b row w w' ∧
  ((nO d=0∧∃ g v,e=.returned (.tuple #[.pointer (some ⟨g,0,none⟩),v,.int .u16 0])∧w.heap.size≤g∧Lg w' g b∧RRs w' w.heap.size v (nY (kX d.bs))) ∨
   (nO d≠0∧e=.returned (.tuple #[.pointer none,.slice none 0 0,.int .u16 (nO d)])))
theorem Nw.trans {w w1:World} {row row1 row2:Option Nat} (h:Nw w row row1) (hs:w.heap.size≤w1.heap.size) (k:Nw w1 row1 row2):Nw w row row2:=fun j e=>(k j e).elim (fun e1=>h j e1) (fun h1=>.inr (by omega))
theorem Nw.refl (w:World) (row:Option Nat):Nw w row row:=fun _ e=>.inl e
theorem Nw.older {w w1:World} {row row1:Option Nat} (h:Nw w1 row row1) (hs:w.heap.size≤w1.heap.size):Nw w row row1:=fun j e=>(h j e).imp id (fun h1=>by omega)
theorem Kb.then {w w1 w2:World} {b:Nat} {row row1:Option Nat} (h:Kb b row w w1) (k:Kb b row1 w1 w2) (hn:Nw w row row1):Kb b row w w2:=h.trans hn k
theorem lZ (d:DM) (n:Int):(d.cutE n=0∨d.cutE n=1∨d.cutE n=100)∧(d.syncE=0∨d.syncE=100):=by
 unfold DM.cutE DM.syncE
 (repeat' split) <;> simp
set_option maxHeartbeats 8000000 in
theorem open_any {w:World} {b:Nat} {row:Option Nat} {d:DM} (h:DD w b row d) (hbig:(d.bs.length:Int)≤1000000):Calls Tryz.prog 10 #[.pointer (some ⟨b,0,none⟩)] w (ji6 w b row d):=by
 have HD:=iC.mk h
 have hcall:=YT h
 have hwI:(walN d:Int)≤(d.bs.length:Int):=by have:=PW d;omega
 clear h
 go_enter Tryz.func10,Tryz.ntmps10
 go_wp2_with fail
 go_at_call 13
 refine hcall.mono ?_
 rintro e w1 ⟨v1,rfl,ho1,hb1⟩
 obtain ⟨A1,c1,rfl,hc1,hC1⟩:=ho1.reads
 have HD1:=iC.mk (HD.out.below hb1)
 have HB1:=iC.mk hb1
 clear hcall ho1 hb1 HD
 have hcall:=P6 A1 c1 d.bs w1 hC1 hc1 hbig
 clear hC1 hc1
 go_wp2_with fail
 go_at_call 29
 refine hcall.mono ?_
 rintro e w2 ⟨v2,rfl,hr2,hb2⟩
 rw [show (endB (okL (kX d.bs)):Nat)=walN d from rfl]
 obtain ⟨A2,c2,rfl⟩:=Kd.R_slice hr2
 have HD2:=iC.mk (HD1.out.below hb2)
 have HR2:=iC.mk (show RRs w2 w.heap.size _ _ from Kd.R_lower hr2 HB1.out.size)
 have hB2:=iH HB1.out hb2
 have HK2:=iC.mk (Kb.of_below (b:=b) (row:=row) hB2)
 have HS2:=iC.mk hB2.size
 clear hcall hr2 hb2 HD1 HB1 hB2
 obtain ⟨rs,hrs⟩:∃ rs,rs=nY (kX d.bs):=⟨_,rfl⟩
 rw [← hrs] at HR2
 have HRS:=iC.mk hrs
 rw [← hrs]
 clear hrs
 by_cases hlt:(walN d:Int)<(d.bs.length:Int)
 ·have HCD:=iC.mk (show cutD d=d.cut (walN d) from by unfold cutD;rw [if_pos (by omega)])
  have HCO:=iC.mk (show cutO d=d.cutE (walN d) from by unfold cutO;rw [if_pos (by omega)])
  have hcut:=jl8 (walN d:Int) HD2.out
  have hE:=(lZ d (walN d)).1
  have hS:=(lZ (d.cut (walN d)) 0).2
  obtain ⟨E,hEE⟩:∃ E,E=d.cutE (walN d):=⟨_,rfl⟩
  rw [← hEE] at hcut hE HCO
  clear hEE
  go_wp2_with fail
  go_at_call 30
  refine hcut.mono ?_
  rintro e w3 ⟨rfl,row3,hD3,hn3,hk3⟩
  have HN3:=iC.mk (hn3.older HS2.out)
  have HK3:=iC.mk (HK2.out.then hk3 (Nw.refl _ _))
  have HR3:=iC.mk (HR2.out.kb HD2.out hk3)
  have HS3:=iC.mk (Nat.le_trans HS2.out hk3.size)
  have HD3:=iC.mk hD3
  clear hcut hn3 hk3 hD3 HD2 HR2 HK2 HS2
  by_cases hE0:E=0
  ·subst hE0
   have hsync:=X4 HD3.out
   have HOD:=iC.mk (show nM d=(d.cut (walN d)).sync from by unfold nM;rw [HCO.out,if_pos rfl,HCD.out])
   have HOE:=iC.mk (show nO d=(d.cut (walN d)).syncE from by unfold nO;rw [HCO.out,if_pos rfl,HCD.out])
   obtain ⟨S,hSE⟩:∃ S,S=(d.cut (walN d)).syncE:=⟨_,rfl⟩
   rw [← hSE] at hsync hS HOE
   clear hSE hE
   go_wp2_with fail
   go_at_call 31
   refine hsync.mono ?_
   rintro e w4 ⟨rfl,row4,hD4,hn4,hk4⟩
   have HN4:=iC.mk (HN3.out.trans HS3.out hn4)
   have HK4:=iC.mk (HK3.out.then hk4 HN3.out)
   have HR4:=iC.mk (HR3.out.kb HD3.out hk4)
   have HS4:=iC.mk (Nat.le_trans HS3.out hk4.size)
   have HD4:=iC.mk hD4
   clear hsync hn4 hk4 hD4 HD3 HR3 HK3 HS3 HN3
   by_cases hS0:S=0
   ·subst hS0
    clear hS
    go_wp2
    go_ret3
    have hb5:Below w4.heap.size w4 (w4.alloc (.cells #[.pointer (some ⟨b,0,none⟩)] 79)):=iD (Below.refl _ _) _
    refine ⟨row4,by rw [HOD.out];exact HD4.out.below hb5,HN4.out,HK4.out.then (Kb.of_below hb5) HN4.out,.inl ⟨HOE.out,w4.heap.size,_,rfl,HS4.out,iP rfl,?_⟩⟩
    rw [← HRS.out]
    exact HR4.out.below hb5
   ·obtain rfl:=hS.resolve_left hS0
    clear hS hS0
    go_wp2
    go_ret3
    exact ⟨row4,by rw [HOD.out];exact HD4.out,HN4.out,HK4.out,.inr ⟨by rw [HOE.out];decide,by rw [HOE.out];rfl⟩⟩
  ·have HOD:=iC.mk (show nM d=d.cut (walN d) from by unfold nM;rw [HCO.out,if_neg hE0,HCD.out])
   have HOE:=iC.mk (show nO d=E from by unfold nO;rw [HCO.out,if_neg hE0])
   have hE1:E=1∨E=100:=hE.resolve_left hE0
   clear hE hS
   rcases hE1 with rfl | rfl
   ·go_wp2
    go_ret3
    exact ⟨row3,by rw [HOD.out];exact HD3.out,HN3.out,HK3.out,.inr ⟨by rw [HOE.out];decide,by rw [HOE.out];rfl⟩⟩
   ·go_wp2
    go_ret3
    exact ⟨row3,by rw [HOD.out];exact HD3.out,HN3.out,HK3.out,.inr ⟨by rw [HOE.out];decide,by rw [HOE.out];rfl⟩⟩
 ·have HCO:=iC.mk (show cutO d=0 from by unfold cutO;rw [if_neg (by omega)])
  have HCD:=iC.mk (show cutD d=d from by unfold cutD;rw [if_neg (by omega)])
  have hsync:=X4 HD2.out
  have hS:=(lZ d 0).2
  have HOD:=iC.mk (show nM d=d.sync from by unfold nM;rw [HCO.out,if_pos rfl,HCD.out])
  have HOE:=iC.mk (show nO d=d.syncE from by unfold nO;rw [HCO.out,if_pos rfl,HCD.out])
  obtain ⟨S,hSE⟩:∃ S,S=d.syncE:=⟨_,rfl⟩
  rw [← hSE] at hsync hS HOE
  clear hSE
  go_wp2_with fail
  go_at_call 31
  refine hsync.mono ?_
  rintro e w4 ⟨rfl,row4,hD4,hn4,hk4⟩
  have HN4:=iC.mk (hn4.older HS2.out)
  have HK4:=iC.mk (HK2.out.then hk4 (Nw.refl _ _))
  have HR4:=iC.mk (HR2.out.kb HD2.out hk4)
  have HS4:=iC.mk (Nat.le_trans HS2.out hk4.size)
  have HD4:=iC.mk hD4
  clear hsync hn4 hk4 hD4 HD2 HR2 HK2 HS2
  by_cases hS0:S=0
  ·subst hS0
   clear hS
   go_wp2
   go_ret3
   have hb5:Below w4.heap.size w4 (w4.alloc (.cells #[.pointer (some ⟨b,0,none⟩)] 79)):=iD (Below.refl _ _) _
   refine ⟨row4,by rw [HOD.out];exact HD4.out.below hb5,HN4.out,HK4.out.then (Kb.of_below hb5) HN4.out,.inl ⟨HOE.out,w4.heap.size,_,rfl,HS4.out,iP rfl,?_⟩⟩
   rw [← HRS.out]
   exact HR4.out.below hb5
  ·obtain rfl:=hS.resolve_left hS0
   clear hS hS0
   go_wp2
   go_ret3
   exact ⟨row4,by rw [HOD.out];exact HD4.out,HN4.out,HK4.out,.inr ⟨by rw [HOE.out];decide,by rw [HOE.out];rfl⟩⟩
end Go.Proofs.YtgfkgppomaapiaaGreatDoor.K
end
section
namespace Go.Proofs.YtgfkgppomaapiaaGreatDoor.K
open RowKit YtgfkgppomaapiaaGreatDoorW.PrintWords YtgfkgppomaapiaaGreatDoorW.PrintLast YtgfkgppomaapiaaGreatDoorW.PrintMore My
section
variable {w:World} {b:Nat} {row:Option Nat} {d:DM}
def RR (w:World) (b:Nat) (row:Option Nat) (d:DM):Prop:=Rk w b row d.bs d.lasts d.room d.left∧d.ok
def RKP (v:Value) (w:World) (b:Nat) (row:Option Nat) (d:DM) (e:Ending) (w':World):Prop:=e=.returned v∧∃ row',RR w' b row' d∧Nw w row row'∧Kb b row w w'
theorem RR.below {w w':World} {b:Nat} {row:Option Nat} {d:DM} (h:RR w b row d) (hb:Below w.heap.size w w'):RR w' b row d:=⟨h.1.below hb,h.2⟩
theorem jj6 {w:World} {b:Nat} {row:Option Nat} {n n':Int} {bs:List UInt8} {lasts room left:Int} {d':DM} {e:Ending} {w':World} (h:RQ w b row n bs lasts room left e w') (hn:n=n') (hd:bs=d'.bs∧lasts=d'.lasts∧room=d'.room∧left=d'.left) (hok:d'.ok):RKP (.int .i64 n') w b row d' e w':=by
 obtain ⟨rfl,row',h1,h2,h3⟩:=h
 obtain ⟨rfl,rfl,rfl,rfl⟩:=hd
 subst hn
 exact ⟨rfl,row',⟨h1,hok⟩,h2,h3⟩
theorem jc_ {l:List UInt8} {A:Option Addr} {c:Nat} (h:RR w b row d) (hC:kb.C w A l.length l) (hab:∀ a,A=some a→0<l.length→a.block≠b) (hl:l.length≤140737480000000) :
  Calls Tryz.prog 9 #[.pointer (some ⟨b,0,none⟩),.slice A l.length c] w (RKP (.int .i64 (d.appE l)) w b row (d.app l)) :=
 (QV h.1 hC hab (by have:=h.2.fit;omega) (by have:=h.2.room;omega) hl h.2.lef).mono fun _ _ hq=>jj6 hq (TA d l).1 (TA d l).2 (DM.app_ok h.2 l)
theorem NE (h:RR w b row d):Calls Tryz.prog 36 #[.pointer (some ⟨b,0,none⟩)] w (RKP (.int .i64 d.syncE) w b row d.sync) :=
 (XH h.1 h.2.lef).mono fun _ _ hq=>jj6 hq (N9 d).1 (N9 d).2 (DM.sync_ok h.2)
theorem jk8 (n:Int) (h:RR w b row d):Calls Tryz.prog 35 #[.pointer (some ⟨b,0,none⟩),.int .i64 n] w (RKP (.int .i64 (d.cutE n)) w b row (d.cut n)) :=
 (jd5 n h.1 h.2.lef).mono fun _ _ hq=>jj6 hq (U2 d n).1 (U2 d n).2 (DM.cut_ok h.2 n)
theorem jf3 (keep:Int) (h:RR w b row d):Calls Tryz.prog 23 #[.pointer (some ⟨b,0,none⟩),.int .i64 keep] w (RKP (.tuple #[]) w b row (d.crash keep)) :=
 (V5 (k:=d.kept keep) keep h.1 (by have:=h.2.fit;have:=h.2.room;omega) (Int.natCast_nonneg _) (by have:=h.2.las;omega) (YP h.2.las)).mono fun _ _ ⟨he,h1,h2⟩=>⟨he,row,⟨h1,DM.crash_ok h.2 keep⟩,fun k e=>.inl e,h2⟩
theorem jl2 (n:Int) (hn:n≤9223372036854775807) (h:RR w b row d):Calls Tryz.prog 21 #[.pointer (some ⟨b,0,none⟩),.int .i64 n] w (RKP (.tuple #[]) w b row (d.halt n)) :=
 (WU n h.1).mono fun _ _ ⟨he,h1,h2⟩=>⟨he,row,⟨by rw [jf0] at h1;exact h1,DM.halt_ok h.2 hn⟩,fun k e=>.inl e,Kb.of_grown h2⟩
theorem r_new (room:Nat) (w:World) (h:room≤1048576):Calls Tryz.prog 7 #[.int .i64 room] w fun e w'=>e=.returned (.pointer (some ⟨w.heap.size,0,none⟩))∧RR w' w.heap.size none (DM.new room)∧Below w.heap.size w w' :=
 (XK room w (Int.natCast_nonneg _) (by omega)).mono fun _ _ ⟨h1,h2,h3⟩=>⟨h1,⟨h2,DM.new_ok h⟩,h3⟩
end
theorem RR.kb {w w':World} {b:Nat} {row:Option Nat} {r:Nat} {rr:Option Nat} {d:DM} (h:RR w r rr d) (hk:Kb b row w w') (hr:r≠b) (hr2:some r≠row) (h1:∀ k,rr=some k→k≠b∧some k≠row):RR w' r rr d:=by
 obtain ⟨⟨ao,cap,hD,hR⟩,hok⟩:=h
 exact ⟨⟨ao,cap,(hk.block r hD.lt hr hr2).trans hD,hR.kb hk h1⟩,hok⟩
theorem RR.row_lt {w:World} {b:Nat} {row:Option Nat} {d:DM} (h:RR w b row d) (k:Nat) (e:row=some k):k<w.heap.size∧k≠b:=by
 obtain ⟨⟨ao,cap,hD,hR⟩,hok⟩:=h
 exact hR.row_lt k e
theorem RR.lt {w:World} {b:Nat} {row:Option Nat} {d:DM} (h:RR w b row d):b<w.heap.size:=h.1.lt
end Go.Proofs.YtgfkgppomaapiaaGreatDoor.K
end
namespace Go.Proofs.YtgfkgppomaapiaaGreatDoor.My
open Go Go.RowKit Go.Proofs.YtgfkgppomaapiaaGreatDoorW.PrintWords Go.Proofs.YtgfkgppomaapiaaGreatDoorW.PrintMore Go.Proofs.YtgfkgppomaapiaaGreatDoorW.PrintLast
section
attribute [local go_sem] kL kH kZ lC
theorem jb_ (s:Nat × Nat) (c:UInt8) (h:Fine s):((s.1:Int)+c.toNat) % 4294967296 % 65521=((vJ s c).1:Int)∧((s.2:Int)+((vJ s c).1:Int)) % 4294967296 % 65521=((vJ s c).2:Int):=by
 obtain ⟨h1,h2⟩:=h
 have hc:=c.toNat_lt
 unfold vJ
 simp only
 omega
set_option maxHeartbeats 1000000 in
theorem UL (A:Option Addr) (c:Nat) (l:List (List UInt8)) (w:World) (hr:(Kd.slice 5 kb).C w A l.length l) :
  Calls Tryz.prog 77 #[.slice A l.length c] w fun e w'=>e=.returned (.int .u32 (sumN l:Int))∧w'=w:=by
 have hm:=lD hr
 have HR:=iC.mk hr
 clear hr
 go_enter Tryz.func77,Tryz.ntmps77
 go_wp2
 go_loop [3,4,5] (fun a b i=>∃ (k:Nat) (s:Nat × Nat),k≤l.length∧i=.int .i64 k∧a=.int .u32 (s.1:Int)∧b=.int .u32 (s.2:Int)∧iC (s=adls (1,0) (l.take k))∧iC (Fine s)) (fun _ _ i=>l.length - (intOf i).toNat)
 case atStart=>exact ⟨0,(1,0),Nat.zero_le _,rfl,rfl,rfl,⟨rfl⟩,⟨yM⟩⟩
 case round =>
  obtain ⟨k,s,hk,rfl,rfl,rfl,HS,HF⟩:=hrel
  by_cases hlt:k<l.length
  ·obtain ⟨ad,A',c',rfl,hx,hxl,hxc⟩:=VN HR.out k hlt
   clear hxl
   have hts:=iC.mk (kW [] l k hlt)
   have hxm:=lD hxc
   have HX:=iC.mk hxc
   clear hxc
   obtain ⟨x,hxe⟩:∃ x,x=l.getD k []:=⟨_,rfl⟩
   rw [← hxe] at hx HX hts hxm
   clear hxe
   go_wp2
   go_loop [3,4,6] (fun a b j=>∃ (m:Nat) (t:Nat × Nat),m≤x.length∧j=.int .i64 m∧a=.int .u32 (t.1:Int)∧b=.int .u32 (t.2:Int)∧iC (t=adl s (x.take m))∧iC (Fine t)) (fun _ _ j=>x.length - (intOf j).toNat)
   case atStart=>exact ⟨0,s,Nat.zero_le _,rfl,rfl,rfl,⟨rfl⟩,HF⟩
   case round =>
    obtain ⟨m,t,hmx,rfl,rfl,rfl,HT,HFT⟩:=hrel
    by_cases hml:m<x.length
    ·obtain ⟨ad2,rfl,hb0⟩:=C_at HX.out m hml
     have hts2:=iC.mk (kW 0 x m hml)
     generalize x.getD m 0=cb at hb0 hts2
     have hst:=jb_ t cb HFT.out
     have h1:=hst.1
     have h2:=hst.2
     clear hst
     go_wp2
     go_round
     case rel=>exact ⟨m+1,vJ t cb,by omega,by go_num,(by first | rfl | rw [h1]),(by first | rfl | rw [h2]),⟨by rw [hts2.out,TF,HT.out]⟩,⟨NY cb⟩⟩
     case measure=>simp [intOf];omega
    ·obtain rfl:m=x.length:=by omega
     have HTx:=HT.out
     rw [List.take_length] at HTx
     have HTx':=iC.mk HTx
     clear HTx
     go_wp2
     go_round
     case rel=>exact ⟨k+1,t,by omega,by go_num,rfl,rfl,⟨by rw [hts.out,NI,HTx'.out,HS.out]⟩,HFT⟩
     case measure=>simp [intOf];omega
  ·obtain rfl:k=l.length:=by omega
   have HSx:=HS.out
   rw [List.take_length] at HSx
   have HSx':=iC.mk HSx
   clear HSx
   have hend:((s.2:Int) * 65536 % 4294967296+(s.1:Int)) % 4294967296=(sumN l:Int):=by
    have:=HF.out
    obtain ⟨h1,h2⟩:=this
    unfold sumN
    rw [← HSx'.out]
    unfold sumOf
    omega
   go_wp2
   go_ret
   exact ⟨rfl,rfl⟩
end
section
set_option maxRecDepth 20000 in
set_option maxHeartbeats 2000000 in
theorem put_any (v:Value) (xs:List UInt8) (n size:Nat) (w0 w:World) (ho:OB w w0.heap.size v xs) (hB:Below w0.heap.size w0 w) (hsz:size≤4) (hx:xs.length≤140737488355000) :
  Calls Tryz.prog 76 #[v,.int .u32 (n:Int),.int .i64 (size:Int)] w fun e w'=>∃ v',e=.returned v'∧OB w' w0.heap.size v' (xs ++ mF n size)∧Below w0.heap.size w0 w':=by
 have HO0:=iC.mk ho
 have HB0:=iC.mk hB
 clear ho hB
 have hsz':(size:Int)≤4:=by omega
 go_enter Tryz.func76,Tryz.ntmps76
 go_wp2
 go_loopw [0,7] (fun v i wr=>∃ k:Nat,k≤size∧i=.int .i64 ((k:Int) - 1)∧iC (OB wr w0.heap.size v (xs ++ (mF n size).take (size - k)))∧iC (Below w0.heap.size w0 wr)) (fun _ i _=>(intOf i+1).toNat)
 case atStart=>exact ⟨size,Nat.le_refl _,rfl,⟨by rw [Nat.sub_self,List.take_zero,List.append_nil];exact HO0.out⟩,HB0⟩
 case round =>
  obtain ⟨k,hk,rfl,HO,HB⟩:=hrel
  have hlen:(xs ++ (mF n size).take (size - k)).length≤140737488355100:=by
   rw [List.length_append,List.length_take];omega
  rcases Nat.eq_zero_or_pos k with h0 | hkp
  ·subst h0
   go_wp2
   go_ret
   refine ⟨_,rfl,?_,HB.out⟩
   have:=HO.out
   rw [Nat.sub_zero,List.take_of_length_le (by simp [mF,be4];omega)] at this
   exact this
  ·obtain ⟨k,rfl⟩:∃ m,k=m+1:=⟨k - 1,by omega⟩
   have h':k=0∨k=1∨k=2∨k=3:=by omega
   rcases h' with rfl | rfl | rfl | rfl
   ·have hsn':=iC.mk (show (mF n size).take (size - 0)=(mF n size).take (size - (0+1)) ++ [UInt8.ofNat n] from by have:=uS n size 0 hsz (by omega);simpa using this)
    have hB:=HB.out
    go_wp2_with (at_builtin;refine Kd.R_append_rows kb (w0:=w0) w0.heap.size rfl (.tmp 14) (.tmp 21) 22 5 (.int .u8 0) 1 rfl Tryz.underlying22 nR rfl (by decide) (by omega) _ _ [UInt8.ofNat n] _ _ _ (fun _=>True) (fun _=>False) rfl rfl (Kd.R_below HO.out (iD (Below.refl _ _) _)) (OB.one0 rfl _) (fun _ _ h=>h) (fun _ h=>h.elim) (fun _ _=>trivial) ?aB ?aS ?aL ?_;(case aB=>(repeat (first | exact Below.refl _ _ | apply iD | apply iW | apply iF | apply below_bytesWorld | (refine iL ?_ (by first | assumption | omega)) | refine iH ?_ (by assumption))));(case aS=>exact iT (by (repeat (first | exact Below.refl _ _ | apply iD | apply iW | apply iF | apply below_bytesWorld | (refine iL ?_ (by first | assumption | omega)) | refine iH ?_ (by assumption)))));(case aL=>(try simp only [List.length_cons,List.length_nil]);omega);intro v1 w2 HO1 HB1 hg hat;have HO1':=iC.mk HO1;have HB1':=iC.mk HB1;clear HO1 HB1 hg hat)
    clear hB
    go_roundw
    case rel=>exact ⟨0,by omega,by go_num,⟨by rw [hsn'.out,← List.append_assoc];exact HO1'.out⟩,HB1'⟩
    case measure=>simp [intOf];try omega
   ·have hsn':=iC.mk (show (mF n size).take (size - 1)=(mF n size).take (size - (1+1)) ++ [UInt8.ofNat (n / 256)] from by have:=uS n size 1 hsz (by omega);simpa using this)
    have hB:=HB.out
    go_wp2_with (at_builtin;refine Kd.R_append_rows kb (w0:=w0) w0.heap.size rfl (.tmp 14) (.tmp 21) 22 5 (.int .u8 0) 1 rfl Tryz.underlying22 nR rfl (by decide) (by omega) _ _ [UInt8.ofNat (n / 256)] _ _ _ (fun _=>True) (fun _=>False) rfl rfl (Kd.R_below HO.out (iD (Below.refl _ _) _)) (OB.one rfl _) (fun _ _ h=>h) (fun _ h=>h.elim) (fun _ _=>trivial) ?aB ?aS ?aL ?_;(case aB=>(repeat (first | exact Below.refl _ _ | apply iD | apply iW | apply iF | apply below_bytesWorld | (refine iL ?_ (by first | assumption | omega)) | refine iH ?_ (by assumption))));(case aS=>exact iT (by (repeat (first | exact Below.refl _ _ | apply iD | apply iW | apply iF | apply below_bytesWorld | (refine iL ?_ (by first | assumption | omega)) | refine iH ?_ (by assumption)))));(case aL=>(try simp only [List.length_cons,List.length_nil]);omega);intro v1 w2 HO1 HB1 hg hat;have HO1':=iC.mk HO1;have HB1':=iC.mk HB1;clear HO1 HB1 hg hat)
    clear hB
    go_roundw
    case rel=>exact ⟨1,by omega,by go_num,⟨by rw [hsn'.out,← List.append_assoc];exact HO1'.out⟩,HB1'⟩
    case measure=>simp [intOf];try omega
   ·have hsn':=iC.mk (show (mF n size).take (size - 2)=(mF n size).take (size - (2+1)) ++ [UInt8.ofNat (n / 65536)] from by have:=uS n size 2 hsz (by omega);simpa using this)
    have hB:=HB.out
    go_wp2_with (at_builtin;refine Kd.R_append_rows kb (w0:=w0) w0.heap.size rfl (.tmp 14) (.tmp 21) 22 5 (.int .u8 0) 1 rfl Tryz.underlying22 nR rfl (by decide) (by omega) _ _ [UInt8.ofNat (n / 65536)] _ _ _ (fun _=>True) (fun _=>False) rfl rfl (Kd.R_below HO.out (iD (Below.refl _ _) _)) (OB.one rfl _) (fun _ _ h=>h) (fun _ h=>h.elim) (fun _ _=>trivial) ?aB ?aS ?aL ?_;(case aB=>(repeat (first | exact Below.refl _ _ | apply iD | apply iW | apply iF | apply below_bytesWorld | (refine iL ?_ (by first | assumption | omega)) | refine iH ?_ (by assumption))));(case aS=>exact iT (by (repeat (first | exact Below.refl _ _ | apply iD | apply iW | apply iF | apply below_bytesWorld | (refine iL ?_ (by first | assumption | omega)) | refine iH ?_ (by assumption)))));(case aL=>(try simp only [List.length_cons,List.length_nil]);omega);intro v1 w2 HO1 HB1 hg hat;have HO1':=iC.mk HO1;have HB1':=iC.mk HB1;clear HO1 HB1 hg hat)
    clear hB
    go_roundw
    case rel=>exact ⟨2,by omega,by go_num,⟨by rw [hsn'.out,← List.append_assoc];exact HO1'.out⟩,HB1'⟩
    case measure=>simp [intOf];try omega
   ·have hsn':=iC.mk (show (mF n size).take (size - 3)=(mF n size).take (size - (3+1)) ++ [UInt8.ofNat (n / 16777216)] from by have:=uS n size 3 hsz (by omega);simpa using this)
    have hB:=HB.out
    go_wp2_with (at_builtin;refine Kd.R_append_rows kb (w0:=w0) w0.heap.size rfl (.tmp 14) (.tmp 21) 22 5 (.int .u8 0) 1 rfl Tryz.underlying22 nR rfl (by decide) (by omega) _ _ [UInt8.ofNat (n / 16777216)] _ _ _ (fun _=>True) (fun _=>False) rfl rfl (Kd.R_below HO.out (iD (Below.refl _ _) _)) (OB.one rfl _) (fun _ _ h=>h) (fun _ h=>h.elim) (fun _ _=>trivial) ?aB ?aS ?aL ?_;(case aB=>(repeat (first | exact Below.refl _ _ | apply iD | apply iW | apply iF | apply below_bytesWorld | (refine iL ?_ (by first | assumption | omega)) | refine iH ?_ (by assumption))));(case aS=>exact iT (by (repeat (first | exact Below.refl _ _ | apply iD | apply iW | apply iF | apply below_bytesWorld | (refine iL ?_ (by first | assumption | omega)) | refine iH ?_ (by assumption)))));(case aL=>(try simp only [List.length_cons,List.length_nil]);omega);intro v1 w2 HO1 HB1 hg hat;have HO1':=iC.mk HO1;have HB1':=iC.mk HB1;clear HO1 HB1 hg hat)
    clear hB
    go_roundw
    case rel=>exact ⟨3,by omega,by go_num,⟨by rw [hsn'.out,← List.append_assoc];exact HO1'.out⟩,HB1'⟩
    case measure=>simp [intOf];try omega
set_option maxRecDepth 20000 in
set_option maxHeartbeats 2000000 in
theorem II (A:Option Addr) (c:Nat) (l:List UInt8) (w0:World) (hr:kb.C w0 A l.length l) (hc:l.length≤c) (hs:l.length≤60000) :
  Calls Tryz.prog 45 #[.slice A l.length c] w0 fun e w'=>∃ v,e=.returned (.tuple #[v,.int .i64 0])∧OB w' w0.heap.size v (kT l)∧Below w0.heap.size w0 w':=by
 have HL:=iC.mk hr
 clear hr
 have hs1:(l.length:Int)≤60000:=by omega
 have hh3:(headB l.length).length=3:=rfl
 go_enter Tryz.func45,Tryz.ntmps45
 go_wp2_with fail
 refine (put_any (.slice none 0 0) [] l.length 3 w0 _ (OB.nil _ _) (Below.refl _ _) (by omega) (by simp)).mono ?_
 rintro e w1 ⟨v1,rfl,ho1,hb1⟩
 rw [List.nil_append] at ho1
 have HO1:=iC.mk ho1
 clear ho1
 go_wp2_with (first | (at_builtin;refine Kd.R_append_rows kb (w0:=w0) w0.heap.size rfl (.tmp 13) (.tmp 14) 22 5 (.int .u8 0) 1 rfl Tryz.underlying22 nR rfl (by decide) (by omega) _ (headB l.length) l _ _ _ (fun _=>True) (fun _=>False) rfl rfl HO1.out (Kd.C_below HL.out hb1) (fun _ _ h=>h) (fun _ h=>h.elim) (fun _ _=>trivial) ?aB ?aS ?aL ?_;(case aB=>(repeat (first | exact Below.refl _ _ | apply iD | apply iW | apply iF | apply below_bytesWorld | (refine iL ?_ (by first | assumption | omega)) | refine iH ?_ (by assumption))));(case aS=>exact iT (by (repeat (first | exact Below.refl _ _ | apply iD | apply iW | apply iF | apply below_bytesWorld | (refine iL ?_ (by first | assumption | omega)) | refine iH ?_ (by assumption)))));(case aL=>(try simp only [List.length_cons,List.length_nil]);omega);intro v1 w2 HO1 HB1 hg hat;obtain ⟨hl,hcat⟩:∃ z,z=(headB l.length) ++ l:=⟨_,rfl⟩;rw [← hcat] at HO1;have HCAT:=iC.mk hcat;clear hcat;have HO1':=iC.mk HO1;have HB1':=iC.mk HB1;clear HO1 HB1 hg hat;obtain ⟨A2,c2,rfl,hc2,hC2⟩:=OB.reads HO1'.out;have HC2:=iC.mk hC2;clear hC2) | fail)
 have HO2:=HO1'
 have hlen2:hl.length≤60003:=by rw [HCAT.out,List.length_append,hh3];omega
 have HB2:=HB1'.out
 clear HB1' HO1'
 clear hh3 HO1
 go_wp2_with fail
 refine (UL _ _ [hl] _ (ZN (by (repeat (first | (refine iP ?_;simp;done) | apply heap_drew' | apply jI | refine iI (by assumption) ?_))) rfl (by simp) (Cs.cons (Kd.C_below HC2.out (by (repeat (first | exact Below.refl _ _ | apply iD | apply iW | apply iF | apply below_bytesWorld | (refine iL ?_ (by first | assumption | omega)) | refine iH ?_ (by assumption))))) hc2 (Cs.nil _)))).mono ?_
 rintro e w3 ⟨rfl,rfl⟩
 go_wp2_with fail
 refine (put_any _ hl (sumN [hl]) 4 w0 _ (OB.below HO2.out (by (repeat (first | exact Below.refl _ _ | apply iD | apply iW | apply iF | apply below_bytesWorld | (refine iL ?_ (by first | assumption | omega)) | refine iH ?_ (by assumption))))) (by (repeat (first | exact Below.refl _ _ | apply iD | apply iW | apply iF | apply below_bytesWorld | (refine iL ?_ (by first | assumption | omega)) | refine iH ?_ (by assumption)))) (by omega) (by omega)).mono ?_
 rintro e w4 ⟨v4,rfl,ho4,hb4⟩
 have HO4:=iC.mk ho4
 clear ho4
 go_wp2
 go_ret2
 refine ⟨_,rfl,?_,hb4⟩
 have:=HO4.out
 rw [HCAT.out] at this
 exact this
def FR (o:Option (List UInt8)) (base:Nat) (e:Ending) (w':World):Prop :=
 match o with
 | none=>∃ v,e=.returned (.tuple #[v,.bool false])
 | some x=>∃ v,e=.returned (.tuple #[v,.bool true])∧OB w' base v x
theorem PG {o:Option (List UInt8)} {base:Nat} {w':World} (v:Value) (h:o=none):FR o base (.returned (.tuple #[v,.bool false])) w':=by subst h;exact ⟨_,rfl⟩
theorem FR_if {o:Option (List UInt8)} {p:Prop} [Decidable p] {x:List UInt8} {base:Nat} {w':World} {v:Value} {b:Bool} (h:o=if p then some x else none) (hv:OB w' base v x) (hb:b=decide p):FR o base (.returned (.tuple #[v,.bool b])) w':=by
 subst h;subst hb
 by_cases h:p
 ·rw [if_pos h,decide_eq_true h]
  exact ⟨_,rfl,hv⟩
 ·rw [if_neg h,decide_eq_false h]
  exact ⟨_,rfl⟩
set_option maxRecDepth 20000 in
set_option maxHeartbeats 2000000 in
theorem zD (A:Option Addr) (c:Nat) (l:List UInt8) (w0:World) (hr:kb.C w0 A l.length l) (hc:l.length≤c) :
  Calls Tryz.prog 53 #[.slice A l.length c] w0 fun e w'=>FR (lK l) w0.heap.size e w'∧Below w0.heap.size w0 w':=by
 by_cases h7:(l.length:Int)<7
 ·have hf:lK l=none:=by unfold lK;rw [if_pos (by omega)]
  have HF:=iC.mk hf
  clear hf
  go_enter Tryz.func53,Tryz.ntmps53
  go_wp2
  go_ret2
  exact ⟨PG _ HF.out,Below.refl _ _⟩
 ·obtain ⟨ad,hA,hx0⟩:=C_at hr 0 (by omega)
  obtain ⟨ad',hA',hx1⟩:=C_at hr 1 (by omega)
  obtain ⟨ad'',hA'',hx2⟩:=C_at hr 2 (by omega)
  subst hA
  obtain rfl:ad=ad':=by injection hA'
  obtain rfl:ad=ad'':=by injection hA''
  clear hA' hA''
  obtain ⟨x0,e0⟩:∃ x,x=l.getD 0 0:=⟨_,rfl⟩
  obtain ⟨x1,e1⟩:∃ x,x=l.getD 1 0:=⟨_,rfl⟩
  obtain ⟨x2,e2⟩:∃ x,x=l.getD 2 0:=⟨_,rfl⟩
  rw [← e0] at hx0
  rw [← e1] at hx1
  rw [← e2] at hx2
  have HN:=iC.mk (TZ l x0 x1 x2 e0 e1 e2)
  have b0:=x0.toNat_lt
  have b1:=x1.toNat_lt
  have b2:=x2.toNat_lt
  clear e0 e1 e2
  have hmax:(l.length:Int)≤9223372036854775807:=by have:=hr.2.1;omega
  have HL:=iC.mk hr
  clear hr
  have hi0:(0:Int)<(l.length:Int):=by omega
  have hi1:(1:Int)<(l.length:Int):=by omega
  have hi2:(2:Int)<(l.length:Int):=by omega
  have h7':(7:Int)≤(l.length:Int):=by omega
  clear h7
  go_enter Tryz.func53,Tryz.ntmps53
  go_wp2_with fail
  have hne:¬ (l=[]):=fun h=>by subst h;simp at hi0
  have hs0:(x0.toNat:Int) * 65536≤16711680:=by omega
  have hs1:(x1.toNat:Int) * 256≤65280:=by omega
  refine vT [11,12,13,14,15,16,17,18,19,20,21,22,23,24,25,26,4] [fun v _=>v=(.slice (some ad) l.length c),fun v _=>v=(.pointer (some (ad.add 0))),fun v _=>v=(.int .u8 (x0.toNat:Int)),fun v _=>v=(.int .i64 (x0.toNat:Int)),fun v _=>v=(.int .i64 ((x0.toNat:Int) * 65536)),fun v _=>v=(.slice (some ad) l.length c),fun v _=>v=(.pointer (some (ad.add 1))),fun v _=>v=(.int .u8 (x1.toNat:Int)),fun v _=>v=(.int .i64 (x1.toNat:Int)),fun v _=>v=(.int .i64 ((x1.toNat:Int) * 256)),fun v _=>v=(.int .i64 ((x0.toNat:Int) * 65536+(x1.toNat:Int) * 256)),fun v _=>v=(.slice (some ad) l.length c),fun v _=>v=(.pointer (some (ad.add 2))),fun v _=>v=(.int .u8 (x2.toNat:Int)),fun v _=>v=(.int .i64 (x2.toNat:Int)),fun v _=>v=(.int .i64 ((x0.toNat:Int) * 65536+(x1.toNat:Int) * 256+(x2.toNat:Int))),fun v _=>v=(.int .i64 ((x0.toNat:Int) * 65536+(x1.toNat:Int) * 256+(x2.toNat:Int)))] [0,1,2,3,4,5,6,7,8,9,10,11,12,13,14,15,16] (true,[([],[]),([0],[0]),([1],[1]),([2],[2]),([3],[3]),([],[]),([5],[5]),([6],[6]),([7],[7]),([8],[8]),([4,9],[4,9]),([],[]),([11],[11]),([12],[12]),([13],[13]),([10,14],[10,14]),([15,0,1,2,3,4,5,6,7,8,9,10,11,12,13,14,15],[15])]) [0,1,3,7,15,0,32,96,224,480,1023,0,2048,6144,14336,32767,65535] (by kernel_rfl) (by kernel_rfl) (by kernel_rfl) (by kernel_rfl) (by kernel_rfl) (by kernel_rfl) (by kernel_rfl) (by rfl) (by kernel_rfl) ?_ ?_ ?_
  ·exact (iU (jS _) (iU (jS _) (iU (jS _) (iU (jS _) (iU (jS _) (iU (jS _) (iU (jS _) (iU (jS _) (iU (jS _) (iU (jS _) (iU (jS _) (iU (jS _) (iU (jS _) (iU (jS _) (iU (jS _) (iU (jS _) (iU (jS _) vS)))))))))))))))))
  ·refine iJ ?_ ?_
   ·intro a w' vs hB hel hd
    have e0:a.tmps[0]? = some (.slice (some ad) l.length c):=(hel 0 (by kernel_rfl)).trans (by rfl)
    refine ⟨_,rfl,rfl,fun K hK=>?_⟩
    refine jC (w1:=w') (v:=.slice (some ad) l.length c) (by rfl) rfl ?_ (hK _ _ (by exact rfl) (Below.refl _ _))
    ·go_simp
     (try simp only [iO,iY])
     (try rfl)
     (try (unfold Go.RowKit.wrap64;omega))
   refine iJ ?_ ?_
   ·intro a w' vs hB hel hd
    obtain ⟨f11,r11⟩:=hd 0 (by kernel_rfl)
    have e11:a.tmps[11]? = some (.slice (some ad) l.length c):=f11.trans (congrArg some (r11:vs 0=(.slice (some ad) l.length c)))
    refine ⟨_,rfl,rfl,fun K hK=>?_⟩
    refine jC (w1:=w') (v:=.pointer (some (ad.add 0))) (by rfl) rfl ?_ (hK _ _ (by exact rfl) (Below.refl _ _))
    ·go_simp
     (try simp only [iO,iY])
     (try rfl)
     (try (unfold Go.RowKit.wrap64;omega))
   refine iJ ?_ ?_
   ·intro a w' vs hB hel hd
    obtain ⟨f12,r12⟩:=hd 1 (by kernel_rfl)
    have e12:a.tmps[12]? = some (.pointer (some (ad.add 0))):=f12.trans (congrArg some (r12:vs 1=(.pointer (some (ad.add 0)))))
    have hy0:=vI hB hx0
    rw [OV] at hy0
    refine ⟨_,rfl,rfl,fun K hK=>?_⟩
    refine jC (w1:=w') (v:=.int .u8 (x0.toNat:Int)) (by rfl) rfl ?_ (hK _ _ (by exact rfl) (Below.refl _ _))
    ·go_simp
     (try simp only [iO,iY])
     (try rfl)
     (try (unfold Go.RowKit.wrap64;omega))
   refine iJ ?_ ?_
   ·intro a w' vs hB hel hd
    obtain ⟨f13,r13⟩:=hd 2 (by kernel_rfl)
    have e13:a.tmps[13]? = some (.int .u8 (x0.toNat:Int)):=f13.trans (congrArg some (r13:vs 2=(.int .u8 (x0.toNat:Int))))
    refine ⟨_,rfl,rfl,fun K hK=>?_⟩
    refine jC (w1:=w') (v:=.int .i64 (x0.toNat:Int)) (by rfl) rfl ?_ (hK _ _ (by exact rfl) (Below.refl _ _))
    ·go_simp
     (try simp only [iO,iY])
     (try rfl)
     (try (unfold Go.RowKit.wrap64;omega))
   refine iJ ?_ ?_
   ·intro a w' vs hB hel hd
    obtain ⟨f14,r14⟩:=hd 3 (by kernel_rfl)
    have e14:a.tmps[14]? = some (.int .i64 (x0.toNat:Int)):=f14.trans (congrArg some (r14:vs 3=(.int .i64 (x0.toNat:Int))))
    refine ⟨_,rfl,rfl,fun K hK=>?_⟩
    refine jC (w1:=w') (v:=.int .i64 ((x0.toNat:Int) * 65536)) (by rfl) rfl ?_ (hK _ _ (by exact rfl) (Below.refl _ _))
    ·go_simp
     (try simp only [iO,iY])
     (try rfl)
     (try (unfold Go.RowKit.wrap64;omega))
   refine iJ ?_ ?_
   ·intro a w' vs hB hel hd
    have e0:a.tmps[0]? = some (.slice (some ad) l.length c):=(hel 0 (by kernel_rfl)).trans (by rfl)
    refine ⟨_,rfl,rfl,fun K hK=>?_⟩
    refine jC (w1:=w') (v:=.slice (some ad) l.length c) (by rfl) rfl ?_ (hK _ _ (by exact rfl) (Below.refl _ _))
    ·go_simp
     (try simp only [iO,iY])
     (try rfl)
     (try (unfold Go.RowKit.wrap64;omega))
   refine iJ ?_ ?_
   ·intro a w' vs hB hel hd
    obtain ⟨f16,r16⟩:=hd 5 (by kernel_rfl)
    have e16:a.tmps[16]? = some (.slice (some ad) l.length c):=f16.trans (congrArg some (r16:vs 5=(.slice (some ad) l.length c)))
    refine ⟨_,rfl,rfl,fun K hK=>?_⟩
    refine jC (w1:=w') (v:=.pointer (some (ad.add 1))) (by rfl) rfl ?_ (hK _ _ (by exact rfl) (Below.refl _ _))
    ·go_simp
     (try simp only [iO,iY])
     (try rfl)
     (try (unfold Go.RowKit.wrap64;omega))
   refine iJ ?_ ?_
   ·intro a w' vs hB hel hd
    obtain ⟨f17,r17⟩:=hd 6 (by kernel_rfl)
    have e17:a.tmps[17]? = some (.pointer (some (ad.add 1))):=f17.trans (congrArg some (r17:vs 6=(.pointer (some (ad.add 1)))))
    have hy0:=vI hB hx1
    rw [zM _ _ (by omega)] at hy0
    refine ⟨_,rfl,rfl,fun K hK=>?_⟩
    refine jC (w1:=w') (v:=.int .u8 (x1.toNat:Int)) (by rfl) rfl ?_ (hK _ _ (by exact rfl) (Below.refl _ _))
    ·go_simp
     (try simp only [iO,iY])
     (try rfl)
     (try (unfold Go.RowKit.wrap64;omega))
   refine iJ ?_ ?_
   ·intro a w' vs hB hel hd
    obtain ⟨f18,r18⟩:=hd 7 (by kernel_rfl)
    have e18:a.tmps[18]? = some (.int .u8 (x1.toNat:Int)):=f18.trans (congrArg some (r18:vs 7=(.int .u8 (x1.toNat:Int))))
    refine ⟨_,rfl,rfl,fun K hK=>?_⟩
    refine jC (w1:=w') (v:=.int .i64 (x1.toNat:Int)) (by rfl) rfl ?_ (hK _ _ (by exact rfl) (Below.refl _ _))
    ·go_simp
     (try simp only [iO,iY])
     (try rfl)
     (try (unfold Go.RowKit.wrap64;omega))
   refine iJ ?_ ?_
   ·intro a w' vs hB hel hd
    obtain ⟨f19,r19⟩:=hd 8 (by kernel_rfl)
    have e19:a.tmps[19]? = some (.int .i64 (x1.toNat:Int)):=f19.trans (congrArg some (r19:vs 8=(.int .i64 (x1.toNat:Int))))
    refine ⟨_,rfl,rfl,fun K hK=>?_⟩
    refine jC (w1:=w') (v:=.int .i64 ((x1.toNat:Int) * 256)) (by rfl) rfl ?_ (hK _ _ (by exact rfl) (Below.refl _ _))
    ·go_simp
     (try simp only [iO,iY])
     (try rfl)
     (try (unfold Go.RowKit.wrap64;omega))
   refine iJ ?_ ?_
   ·intro a w' vs hB hel hd
    obtain ⟨f15,r15⟩:=hd 4 (by kernel_rfl)
    have e15:a.tmps[15]? = some (.int .i64 ((x0.toNat:Int) * 65536)):=f15.trans (congrArg some (r15:vs 4=(.int .i64 ((x0.toNat:Int) * 65536))))
    obtain ⟨f20,r20⟩:=hd 9 (by kernel_rfl)
    have e20:a.tmps[20]? = some (.int .i64 ((x1.toNat:Int) * 256)):=f20.trans (congrArg some (r20:vs 9=(.int .i64 ((x1.toNat:Int) * 256))))
    refine ⟨_,rfl,rfl,fun K hK=>?_⟩
    refine jC (w1:=w') (v:=.int .i64 ((x0.toNat:Int) * 65536+(x1.toNat:Int) * 256)) (by rfl) rfl ?_ (hK _ _ (by exact rfl) (Below.refl _ _))
    ·go_simp
     (try simp only [iO,iY])
     (try rfl)
     (try (unfold Go.RowKit.wrap64;omega))
   refine iJ ?_ ?_
   ·intro a w' vs hB hel hd
    have e0:a.tmps[0]? = some (.slice (some ad) l.length c):=(hel 0 (by kernel_rfl)).trans (by rfl)
    refine ⟨_,rfl,rfl,fun K hK=>?_⟩
    refine jC (w1:=w') (v:=.slice (some ad) l.length c) (by rfl) rfl ?_ (hK _ _ (by exact rfl) (Below.refl _ _))
    ·go_simp
     (try simp only [iO,iY])
     (try rfl)
     (try (unfold Go.RowKit.wrap64;omega))
   refine iJ ?_ ?_
   ·intro a w' vs hB hel hd
    obtain ⟨f22,r22⟩:=hd 11 (by kernel_rfl)
    have e22:a.tmps[22]? = some (.slice (some ad) l.length c):=f22.trans (congrArg some (r22:vs 11=(.slice (some ad) l.length c)))
    refine ⟨_,rfl,rfl,fun K hK=>?_⟩
    refine jC (w1:=w') (v:=.pointer (some (ad.add 2))) (by rfl) rfl ?_ (hK _ _ (by exact rfl) (Below.refl _ _))
    ·go_simp
     (try simp only [iO,iY])
     (try rfl)
     (try (unfold Go.RowKit.wrap64;omega))
   refine iJ ?_ ?_
   ·intro a w' vs hB hel hd
    obtain ⟨f23,r23⟩:=hd 12 (by kernel_rfl)
    have e23:a.tmps[23]? = some (.pointer (some (ad.add 2))):=f23.trans (congrArg some (r23:vs 12=(.pointer (some (ad.add 2)))))
    have hy0:=vI hB hx2
    rw [zM _ _ (by omega)] at hy0
    refine ⟨_,rfl,rfl,fun K hK=>?_⟩
    refine jC (w1:=w') (v:=.int .u8 (x2.toNat:Int)) (by rfl) rfl ?_ (hK _ _ (by exact rfl) (Below.refl _ _))
    ·go_simp
     (try simp only [iO,iY])
     (try rfl)
     (try (unfold Go.RowKit.wrap64;omega))
   refine iJ ?_ ?_
   ·intro a w' vs hB hel hd
    obtain ⟨f24,r24⟩:=hd 13 (by kernel_rfl)
    have e24:a.tmps[24]? = some (.int .u8 (x2.toNat:Int)):=f24.trans (congrArg some (r24:vs 13=(.int .u8 (x2.toNat:Int))))
    refine ⟨_,rfl,rfl,fun K hK=>?_⟩
    refine jC (w1:=w') (v:=.int .i64 (x2.toNat:Int)) (by rfl) rfl ?_ (hK _ _ (by exact rfl) (Below.refl _ _))
    ·go_simp
     (try simp only [iO,iY])
     (try rfl)
     (try (unfold Go.RowKit.wrap64;omega))
   refine iJ ?_ ?_
   ·intro a w' vs hB hel hd
    obtain ⟨f21,r21⟩:=hd 10 (by kernel_rfl)
    have e21:a.tmps[21]? = some (.int .i64 ((x0.toNat:Int) * 65536+(x1.toNat:Int) * 256)):=f21.trans (congrArg some (r21:vs 10=(.int .i64 ((x0.toNat:Int) * 65536+(x1.toNat:Int) * 256))))
    obtain ⟨f25,r25⟩:=hd 14 (by kernel_rfl)
    have e25:a.tmps[25]? = some (.int .i64 (x2.toNat:Int)):=f25.trans (congrArg some (r25:vs 14=(.int .i64 (x2.toNat:Int))))
    refine ⟨_,rfl,rfl,fun K hK=>?_⟩
    refine jC (w1:=w') (v:=.int .i64 ((x0.toNat:Int) * 65536+(x1.toNat:Int) * 256+(x2.toNat:Int))) (by rfl) rfl ?_ (hK _ _ (by exact rfl) (Below.refl _ _))
    ·go_simp
     (try simp only [iO,iY])
     (try rfl)
     (try (unfold Go.RowKit.wrap64;omega))
   refine iJ ?_ ?_
   ·intro a w' vs hB hel hd
    obtain ⟨f26,r26⟩:=hd 15 (by kernel_rfl)
    have e26:a.tmps[26]? = some (.int .i64 ((x0.toNat:Int) * 65536+(x1.toNat:Int) * 256+(x2.toNat:Int))):=f26.trans (congrArg some (r26:vs 15=(.int .i64 ((x0.toNat:Int) * 65536+(x1.toNat:Int) * 256+(x2.toNat:Int)))))
    refine ⟨_,rfl,rfl,fun K hK=>?_⟩
    refine jC (w1:=w') (v:=.int .i64 ((x0.toNat:Int) * 65536+(x1.toNat:Int) * 256+(x2.toNat:Int))) (by rfl) rfl ?_ (hK _ _ (by exact rfl) (Below.refl _ _))
    ·go_simp
     (try simp only [iO,iY])
     (try rfl)
     (try (unfold Go.RowKit.wrap64;omega))
   exact oV
  ·intro vs w' hB hR
   have hv0_:vs 0=(.slice (some ad) l.length c):=hR 0 (by kernel_rfl)
   have hv1_:vs 1=(.pointer (some (ad.add 0))):=hR 1 (by kernel_rfl)
   have hv2_:vs 2=(.int .u8 (x0.toNat:Int)):=hR 2 (by kernel_rfl)
   have hv3_:vs 3=(.int .i64 (x0.toNat:Int)):=hR 3 (by kernel_rfl)
   have hv4_:vs 4=(.int .i64 ((x0.toNat:Int) * 65536)):=hR 4 (by kernel_rfl)
   have hv5_:vs 5=(.slice (some ad) l.length c):=hR 5 (by kernel_rfl)
   have hv6_:vs 6=(.pointer (some (ad.add 1))):=hR 6 (by kernel_rfl)
   have hv7_:vs 7=(.int .u8 (x1.toNat:Int)):=hR 7 (by kernel_rfl)
   have hv8_:vs 8=(.int .i64 (x1.toNat:Int)):=hR 8 (by kernel_rfl)
   have hv9_:vs 9=(.int .i64 ((x1.toNat:Int) * 256)):=hR 9 (by kernel_rfl)
   have hv10_:vs 10=(.int .i64 ((x0.toNat:Int) * 65536+(x1.toNat:Int) * 256)):=hR 10 (by kernel_rfl)
   have hv11_:vs 11=(.slice (some ad) l.length c):=hR 11 (by kernel_rfl)
   have hv12_:vs 12=(.pointer (some (ad.add 2))):=hR 12 (by kernel_rfl)
   have hv13_:vs 13=(.int .u8 (x2.toNat:Int)):=hR 13 (by kernel_rfl)
   have hv14_:vs 14=(.int .i64 (x2.toNat:Int)):=hR 14 (by kernel_rfl)
   have hv15_:vs 15=(.int .i64 ((x0.toNat:Int) * 65536+(x1.toNat:Int) * 256+(x2.toNat:Int))):=hR 15 (by kernel_rfl)
   have hv16_:vs 16=(.int .i64 ((x0.toNat:Int) * 65536+(x1.toNat:Int) * 256+(x2.toNat:Int))):=hR 16 (by kernel_rfl)
   rw [show entries [11,12,13,14,15,16,17,18,19,20,21,22,23,24,25,26,4] vs=[(0,11,vs 0),(1,12,vs 1),(2,13,vs 2),(3,14,vs 3),(4,15,vs 4),(5,16,vs 5),(6,17,vs 6),(7,18,vs 7),(8,19,vs 8),(9,20,vs 9),(10,21,vs 10),(11,22,vs 11),(12,23,vs 12),(13,24,vs 13),(14,25,vs 14),(15,26,vs 15),(16,4,vs 16)] from rfl]
   simp only [jX,if_true,Act.put,sb_,sz_,ss_,hv0_,hv1_,hv2_,hv3_,hv4_,hv5_,hv6_,hv7_,hv8_,hv9_,hv10_,hv11_,hv12_,hv13_,hv14_,hv15_,hv16_]
   clear hR hv0_ hv1_ hv2_ hv3_ hv4_ hv5_ hv6_ hv7_ hv8_ hv9_ hv10_ hv11_ hv12_ hv13_ hv14_ hv15_ hv16_
   rw [HN.out]
   obtain ⟨n,hne1⟩:∃ n,n=num3 l:=⟨_,rfl⟩
   rw [← hne1]
   have HNE:=iC.mk hne1
   clear hne1
   by_cases h60:(60000:Int)<(n:Int)
   ·have hf:lK l=none:=by unfold lK;rw [if_neg (by omega),if_pos (by rw [← HNE.out];omega)]
    have HF:=iC.mk hf
    clear hf
    go_wp2
    go_ret2
    exact ⟨PG _ HF.out,by (repeat (first | exact Below.refl _ _ | apply iD | apply iW | apply iF | apply below_bytesWorld | (refine iL ?_ (by first | assumption | omega)) | refine iH ?_ (by assumption)))⟩
   ·by_cases hln:(l.length:Int) - 7<(n:Int)
    ·have hf:lK l=none:=by unfold lK;rw [if_neg (by omega),if_pos (by rw [← HNE.out];omega)]
     have HF:=iC.mk hf
     clear hf
     go_wp2
     go_ret2
     exact ⟨PG _ HF.out,by (repeat (first | exact Below.refl _ _ | apply iD | apply iW | apply iF | apply below_bytesWorld | (refine iL ?_ (by first | assumption | omega)) | refine iH ?_ (by assumption)))⟩
    ·have hfa:=QP l (by omega) (by rw [← HNE.out];omega) (by rw [← HNE.out];omega)
     rw [← HNE.out] at hfa
     obtain ⟨A1,hr1,hC1⟩:=XD HL.out hc 3 (3+n) (3:Int) (3+(n:Int)) rfl (by omega) (by omega) (by omega)
     have hr2:=jc9 (some ad) l.length c (n+7) ((n:Int)+7) (by omega) (by omega) hc
     have hC2:=iC.mk (TI HL.out (n+7) (by omega))
     obtain ⟨x,hx⟩:∃ x,x=(l.take (3+n)).drop 3:=⟨_,rfl⟩
     rw [← hx] at hC1 hfa
     have hxl:x.length=n:=by rw [hx,List.length_drop,List.length_take];omega
     rw [show 3+n - 3=x.length from by omega] at hr1 hC1
     have HC1:=iC.mk hC1
     have HX:=iC.mk hx
     have HXL:=iC.mk hxl
     have HFA:=iC.mk hfa
     have hc3:x.length≤c - 3:=by omega
     have hx60:x.length≤60000:=by omega
     clear hC1 hx hxl hfa HN hx0 hx1 hx2 b0 b1 b2 hs0 hs1
     have hB0:Below w0.heap.size w0 w':=hB
     go_wp2_with (at_builtin;refine Kd.R_append_rows kb (w0:=w0) w0.heap.size rfl (.tmp 36) (.tmp 40) 22 5 (.int .u8 0) 1 rfl Tryz.underlying22 nR rfl (by decide) (by omega) (.slice none 0 0) [] x _ _ _ (fun _=>True) (fun _=>False) rfl rfl (OB.nil _ _) (Kd.C_below HC1.out hB0) (fun _ _ h=>h) (fun _ h=>h.elim) (fun _ _=>trivial) ?aB ?aS ?aL ?_;(case aB=>(repeat (first | exact Below.refl _ _ | apply iD | apply iW | apply iF | apply below_bytesWorld | (refine iL ?_ (by first | assumption | omega)) | refine iH ?_ (by assumption))));(case aS=>exact iT (by (repeat (first | exact Below.refl _ _ | apply iD | apply iW | apply iF | apply below_bytesWorld | (refine iL ?_ (by first | assumption | omega)) | refine iH ?_ (by assumption)))));(case aL=>(try simp only [List.length_cons,List.length_nil]);omega);intro v1 w2 HO1 HB1 hg hat;obtain ⟨hl,hcat⟩:∃ z,z=[] ++ x:=⟨_,rfl⟩;rw [← hcat] at HO1;have HCAT:=iC.mk hcat;clear hcat;have HO1':=iC.mk HO1;have HB1':=iC.mk HB1;clear HO1 HB1 hg hat;obtain ⟨A2,c2,rfl,hc2,hC2⟩:=OB.reads HO1'.out;have HC2:=iC.mk hC2;clear hC2)
     have hhx:hl=x:=by rw [HCAT.out,List.nil_append]
     have HHX:=iC.mk hhx
     have h60x:hl.length≤60000:=by rw [hhx];exact hx60
     clear HCAT hhx
     have HB1:=HB1'.out
     have hB2:=hB
     clear hB
     go_at_call 45
     refine (II A2 c2 hl _ HC2.out hc2 h60x).mono ?_
     rintro e w3 ⟨v3,rfl,ho3,hb3⟩
     obtain ⟨A3,c3,rfl,hc3',hC3⟩:=ho3.reads
     have HC3:=iC.mk hC3
     clear hC3 ho3
     have hB3:Below w0.heap.size w0 w3:=by (repeat (first | exact Below.refl _ _ | apply iD | apply iW | apply iF | apply below_bytesWorld | (refine iL ?_ (by first | assumption | omega)) | refine iH ?_ (by assumption)))
     have k1:=fun w (h:Below w3.heap.size w3 w)=>oQ (c:=c3) (Kd.C_below HC3.out h)
     have k2:=fun w (h:Below w0.heap.size w0 w)=>oQ (c:=c) (Kd.C_below hC2.out h)
     have ho2:=HO1'.out
     go_wp2_with fail
     refine vT [47,48,49,50,51,52,53,54,55,2,3] [fun v _=>v=(.slice A2 hl.length c2),fun v _=>v=(.slice A3 (kT hl).length c3),fun v _=>v=(.string (bs (kT hl))),fun v _=>v=(.slice (some ad) l.length c),fun v _=>v=(.int .i64 (n:Int)),fun v _=>v=(.int .i64 ((n:Int)+7)),fun v _=>v=(.slice (some ad) (n+7) c),fun v _=>v=(.string (bs (l.take (n+7)))),fun v _=>v=(.bool (kT hl == l.take (n+7))),fun v _=>v=(.slice A2 hl.length c2),fun v _=>v=(.bool (kT hl == l.take (n+7)))] [0,1,2,3,4,5,6,7,8,9,10] (true,[([],[]),([],[]),([1],[1]),([],[]),([],[]),([4],[4]),([3,5],[3,5]),([6],[6]),([2,7],[2,7]),([0,0],[0]),([8,9,0,1,2,3,4,5,6,7,8,9],[8])]) [0,0,2,0,0,16,56,120,254,1,1023] (by kernel_rfl) (by kernel_rfl) (by kernel_rfl) (by kernel_rfl) (by kernel_rfl) (by kernel_rfl) (by kernel_rfl) (by rfl) (by kernel_rfl) ?_ ?_ ?_
     ·exact (iU (jS _) (iU (jS _) (iU (jS _) (iU (jS _) (iU (jS _) (iU (jS _) (iU (jS _) (iU (jS _) (iU (jS _) (iU (jS _) (iU (jS _) vS)))))))))))
     ·refine iJ ?_ ?_
      ·intro a w' vs hB hel hd
       have e5:a.tmps[5]? = some (.slice A2 hl.length c2):=(hel 5 (by kernel_rfl)).trans (by rfl)
       refine ⟨_,rfl,rfl,fun K hK=>?_⟩
       refine jC (w1:=w') (v:=.slice A2 hl.length c2) (by rfl) rfl ?_ (hK _ _ (by exact rfl) (Below.refl _ _))
       ·go_simp
        (try simp only [iO,iY])
        (try rfl)
        (try (unfold Go.RowKit.wrap64;omega))
      refine iJ ?_ ?_
      ·intro a w' vs hB hel hd
       have e6:a.tmps[6]? = some (.slice A3 (kT hl).length c3):=(hel 6 (by kernel_rfl)).trans (by rfl)
       refine ⟨_,rfl,rfl,fun K hK=>?_⟩
       refine jC (w1:=w') (v:=.slice A3 (kT hl).length c3) (by rfl) rfl ?_ (hK _ _ (by exact rfl) (Below.refl _ _))
       ·go_simp
        (try simp only [iO,iY])
        (try rfl)
        (try (unfold Go.RowKit.wrap64;omega))
      refine iJ ?_ ?_
      ·intro a w' vs hB hel hd
       obtain ⟨f48,r48⟩:=hd 1 (by kernel_rfl)
       have e48:a.tmps[48]? = some (.slice A3 (kT hl).length c3):=f48.trans (congrArg some (r48:vs 1=(.slice A3 (kT hl).length c3)))
       have q1:=k1 _ hB
       refine ⟨_,rfl,rfl,fun K hK=>?_⟩
       refine jC (w1:=w') (v:=.string (bs (kT hl))) (by rfl) rfl ?_ (hK _ _ (by exact rfl) (Below.refl _ _))
       ·go_simp
        (try simp only [iO,iY])
        (try rfl)
        (try (unfold Go.RowKit.wrap64;omega))
      refine iJ ?_ ?_
      ·intro a w' vs hB hel hd
       have e0:a.tmps[0]? = some (.slice (some ad) l.length c):=(hel 0 (by kernel_rfl)).trans (by rfl)
       refine ⟨_,rfl,rfl,fun K hK=>?_⟩
       refine jC (w1:=w') (v:=.slice (some ad) l.length c) (by rfl) rfl ?_ (hK _ _ (by exact rfl) (Below.refl _ _))
       ·go_simp
        (try simp only [iO,iY])
        (try rfl)
        (try (unfold Go.RowKit.wrap64;omega))
      refine iJ ?_ ?_
      ·intro a w' vs hB hel hd
       have e4:a.tmps[4]? = some (.int .i64 (n:Int)):=(hel 4 (by kernel_rfl)).trans (by rfl)
       refine ⟨_,rfl,rfl,fun K hK=>?_⟩
       refine jC (w1:=w') (v:=.int .i64 (n:Int)) (by rfl) rfl ?_ (hK _ _ (by exact rfl) (Below.refl _ _))
       ·go_simp
        (try simp only [iO,iY])
        (try rfl)
        (try (unfold Go.RowKit.wrap64;omega))
      refine iJ ?_ ?_
      ·intro a w' vs hB hel hd
       obtain ⟨f51,r51⟩:=hd 4 (by kernel_rfl)
       have e51:a.tmps[51]? = some (.int .i64 (n:Int)):=f51.trans (congrArg some (r51:vs 4=(.int .i64 (n:Int))))
       refine ⟨_,rfl,rfl,fun K hK=>?_⟩
       refine jC (w1:=w') (v:=.int .i64 ((n:Int)+7)) (by rfl) rfl ?_ (hK _ _ (by exact rfl) (Below.refl _ _))
       ·go_simp
        (try simp only [iO,iY])
        (try rfl)
        (try (unfold Go.RowKit.wrap64;omega))
      refine iJ ?_ ?_
      ·intro a w' vs hB hel hd
       obtain ⟨f50,r50⟩:=hd 3 (by kernel_rfl)
       have e50:a.tmps[50]? = some (.slice (some ad) l.length c):=f50.trans (congrArg some (r50:vs 3=(.slice (some ad) l.length c)))
       obtain ⟨f52,r52⟩:=hd 5 (by kernel_rfl)
       have e52:a.tmps[52]? = some (.int .i64 ((n:Int)+7)):=f52.trans (congrArg some (r52:vs 5=(.int .i64 ((n:Int)+7))))
       have q2:=hr2
       refine ⟨_,rfl,rfl,fun K hK=>?_⟩
       refine jC (w1:=w') (v:=.slice (some ad) (n+7) c) (by rfl) rfl ?_ (hK _ _ (by exact rfl) (Below.refl _ _))
       ·go_simp
        (try simp only [iO,iY])
        (try rfl)
        (try (unfold Go.RowKit.wrap64;omega))
      refine iJ ?_ ?_
      ·intro a w' vs hB hel hd
       obtain ⟨f53,r53⟩:=hd 6 (by kernel_rfl)
       have e53:a.tmps[53]? = some (.slice (some ad) (n+7) c):=f53.trans (congrArg some (r53:vs 6=(.slice (some ad) (n+7) c)))
       have q1:=k2 w' (by (repeat (first | exact Below.refl _ _ | apply iD | apply iW | apply iF | apply below_bytesWorld | (refine iL ?_ (by first | assumption | omega)) | refine iH ?_ (by assumption))))
       refine ⟨_,rfl,rfl,fun K hK=>?_⟩
       refine jC (w1:=w') (v:=.string (bs (l.take (n+7)))) (by rfl) rfl ?_ (hK _ _ (by exact rfl) (Below.refl _ _))
       ·go_simp
        (try simp only [iO,iY])
        (try rfl)
        (try (unfold Go.RowKit.wrap64;omega))
      refine iJ ?_ ?_
      ·intro a w' vs hB hel hd
       obtain ⟨f49,r49⟩:=hd 2 (by kernel_rfl)
       have e49:a.tmps[49]? = some (.string (bs (kT hl))):=f49.trans (congrArg some (r49:vs 2=(.string (bs (kT hl)))))
       obtain ⟨f54,r54⟩:=hd 7 (by kernel_rfl)
       have e54:a.tmps[54]? = some (.string (bs (l.take (n+7)))):=f54.trans (congrArg some (r54:vs 7=(.string (bs (l.take (n+7))))))
       refine ⟨_,rfl,rfl,fun K hK=>?_⟩
       refine jC (w1:=w') (v:=.bool (kT hl == l.take (n+7))) (by rfl) rfl ?_ (hK _ _ (by exact rfl) (Below.refl _ _))
       ·go_simp
        (try simp only [iO,iY])
        (try rfl)
        (try (unfold Go.RowKit.wrap64;omega))
      refine iJ ?_ ?_
      ·intro a w' vs hB hel hd
       obtain ⟨f47,r47⟩:=hd 0 (by kernel_rfl)
       have e47:a.tmps[47]? = some (.slice A2 hl.length c2):=f47.trans (congrArg some (r47:vs 0=(.slice A2 hl.length c2)))
       refine ⟨_,rfl,rfl,fun K hK=>?_⟩
       refine jC (w1:=w') (v:=.slice A2 hl.length c2) (by rfl) rfl ?_ (hK _ _ (by exact rfl) (Below.refl _ _))
       ·go_simp
        (try simp only [iO,iY])
        (try rfl)
        (try (unfold Go.RowKit.wrap64;omega))
      refine iJ ?_ ?_
      ·intro a w' vs hB hel hd
       obtain ⟨f55,r55⟩:=hd 8 (by kernel_rfl)
       have e55:a.tmps[55]? = some (.bool (kT hl == l.take (n+7))):=f55.trans (congrArg some (r55:vs 8=(.bool (kT hl == l.take (n+7)))))
       refine ⟨_,rfl,rfl,fun K hK=>?_⟩
       refine jC (w1:=w') (v:=.bool (kT hl == l.take (n+7))) (by rfl) rfl ?_ (hK _ _ (by exact rfl) (Below.refl _ _))
       ·go_simp
        (try simp only [iO,iY])
        (try rfl)
        (try (unfold Go.RowKit.wrap64;omega))
      exact oV
     ·intro vs w' hB hR
      have hv0_:vs 0=(.slice A2 hl.length c2):=hR 0 (by kernel_rfl)
      have hv1_:vs 1=(.slice A3 (kT hl).length c3):=hR 1 (by kernel_rfl)
      have hv2_:vs 2=(.string (bs (kT hl))):=hR 2 (by kernel_rfl)
      have hv3_:vs 3=(.slice (some ad) l.length c):=hR 3 (by kernel_rfl)
      have hv4_:vs 4=(.int .i64 (n:Int)):=hR 4 (by kernel_rfl)
      have hv5_:vs 5=(.int .i64 ((n:Int)+7)):=hR 5 (by kernel_rfl)
      have hv6_:vs 6=(.slice (some ad) (n+7) c):=hR 6 (by kernel_rfl)
      have hv7_:vs 7=(.string (bs (l.take (n+7)))):=hR 7 (by kernel_rfl)
      have hv8_:vs 8=(.bool (kT hl == l.take (n+7))):=hR 8 (by kernel_rfl)
      have hv9_:vs 9=(.slice A2 hl.length c2):=hR 9 (by kernel_rfl)
      have hv10_:vs 10=(.bool (kT hl == l.take (n+7))):=hR 10 (by kernel_rfl)
      rw [show entries [47,48,49,50,51,52,53,54,55,2,3] vs=[(0,47,vs 0),(1,48,vs 1),(2,49,vs 2),(3,50,vs 3),(4,51,vs 4),(5,52,vs 5),(6,53,vs 6),(7,54,vs 7),(8,55,vs 8),(9,2,vs 9),(10,3,vs 10)] from rfl]
      simp only [jX,if_true,Act.put,sb_,sz_,ss_,hv0_,hv1_,hv2_,hv3_,hv4_,hv5_,hv6_,hv7_,hv8_,hv9_,hv10_]
      clear hR hv0_ hv1_ hv2_ hv3_ hv4_ hv5_ hv6_ hv7_ hv8_ hv9_ hv10_
      go_wp2
      go_ret2
      refine ⟨FR_if HFA.out (by rw [← HHX.out];exact OB.below ho2 (iH hb3 hB)) (by rw [HHX.out];exact jh6 _ _),by (repeat (first | exact Below.refl _ _ | apply iD | apply iW | apply iF | apply below_bytesWorld | (refine iL ?_ (by first | assumption | omega)) | refine iH ?_ (by assumption)))⟩
end
section
theorem U5 {base:Nat} {e:Ending} {w:World} (h:FR none base e w):∃ v,e=.returned (.tuple #[v,.bool false]):=h
theorem UJ {base:Nat} {e:Ending} {w:World} {x:List UInt8} (h:FR (some x) base e w):∃ v,e=.returned (.tuple #[v,.bool true])∧OB w base v x:=h
set_option maxRecDepth 20000 in
set_option maxHeartbeats 2000000 in
theorem RF (A:Option Addr) (c:Nat) (l:List UInt8) (w0:World) (hr:kb.C w0 A l.length l) (hc:l.length≤c) (hs:(l.length:Int)≤1000000) :
  Calls Tryz.prog 32 #[.slice A l.length c] w0 fun e w'=>∃ v,e=.returned (.tuple #[v,.int .i64 (endB (kX l):Nat)])∧OBB w' w0.heap.size v (kX l)∧Below w0.heap.size w0 w':=by
 have HL:=iC.mk hr
 clear hr
 go_enter Tryz.func32,Tryz.ntmps32
 go_wp2
 go_loopw [4,5] (fun v i wr=>∃ (k:Nat) (ls:List (List UInt8)),k≤l.length∧i=.int .i64 (k:Int)∧iC (kX l=ls ++ kX (l.drop k))∧iC (endB ls=k)∧ls.length≤k∧iC (OBB wr w0.heap.size v ls)∧iC (Below w0.heap.size w0 wr)) (fun _ i _=>l.length - (intOf i).toNat)
 case atStart=>exact ⟨0,[],by omega,rfl,⟨rfl⟩,⟨rfl⟩,by simp,⟨OBB.nil _ _⟩,⟨Below.refl _ _⟩⟩
 case round =>
  obtain ⟨k,ls,hk,rfl,HS,HE,hll,HO,HB⟩:=hrel
  have hB:=HB.out
  obtain ⟨A',hr,hC⟩:=jc6 HL.out hc k (k:Int) rfl hk
  obtain ⟨l',hl'⟩:∃ z,z=l.drop k:=⟨_,rfl⟩
  have hll':l'.length=l.length - k:=by rw [hl',List.length_drop]
  rw [← hl'] at hC
  rw [← hll'] at hr hC
  have HC:=iC.mk (Kd.C_below hC hB)
  have HL':=iC.mk hl'
  have hcc:l'.length≤c - k:=by omega
  have hk1:(k:Int)≤(l.length:Int):=by omega
  have HLL:=iC.mk hll'
  clear hC hl' hll'
  cases hf:lK l' with
  | none =>
   have HF:=iC.mk hf
   clear hf
   go_wp2_with fail
   refine (zD A' (c - k) l' _ HC.out hcc).mono ?_
   rintro e w1 ⟨hfr,hb1⟩
   rw [HF.out] at hfr
   obtain ⟨v1,rfl⟩:=U5 hfr
   clear hfr
   go_wp2
   go_ret2
   have h1:kX l=ls:=by rw [HS.out,← HL'.out,lS HF.out,List.append_nil]
   rw [h1,HE.out]
   exact ⟨u4,rfl,HO.out.below hb1,iH hB hb1⟩
  | some x =>
   have HF:=iC.mk hf
   have hxl:=(first_some hf).2.2
   have hx60:(x.length:Int)≤60000:=by have:=(first_some hf).1;omega
   have hxk:(k:Int)+((x.length:Int)+7)≤(l.length:Int):=by have:=HLL.out;omega
   have hkx:k+(x.length+7)≤l.length:=by omega
   clear hf
   go_wp2_with fail
   refine (zD A' (c - k) l' _ HC.out hcc).mono ?_
   rintro e w1 ⟨hfr,hb1⟩
   rw [HF.out] at hfr
   obtain ⟨v1,rfl,ho1⟩:=UJ hfr
   obtain ⟨A1,c1,rfl,hc1,hC1⟩:=ho1.reads
   have HO1:=iC.mk (ho1.lower hB.size)
   have HO2:=iC.mk (HO.out.below hb1)
   have hB1:=iH hB hb1
   clear hfr hC1 ho1 hB HB hb1
   go_wp2_with (at_builtin;refine Kd.R_append (Kd.slice 5 kb) (w0:=w0) w0.heap.size rfl (.tmp 19) (.tmp 21) 80 22 (.slice none 0 0) 24 rfl Tryz.underlying80 XM rfl (by decide) (by omega) u4 ls x [(.slice A1 x.length c1)] (fun _=>True) (fun k=>some k≠Value.ownBlock u4) rfl rfl (RV HO2.out HO1.out) (fun _ h=>⟨trivial,h⟩) (fun _ _=>trivial) HO2.out ?aB ?aS ?aL ?_;(case aB=>(repeat (first | exact Below.refl _ _ | apply iD | apply iW | apply iF | apply below_bytesWorld | (refine iL ?_ (by first | assumption | omega)) | refine iH ?_ (by assumption))));(case aS=>exact iT (by (repeat (first | exact Below.refl _ _ | apply iD | apply iW | apply iF | apply below_bytesWorld | (refine iL ?_ (by first | assumption | omega)) | refine iH ?_ (by assumption)))));(case aL=>omega);intro v2 w2 ho1 hb1_ hg hat;have HO1':=iC.mk (show OBB w2 w0.heap.size v2 (ls ++ [x]) from ho1);have HB1':=iC.mk hb1_;clear ho1 hb1_ hg hat)
   go_roundw
   case rel=>exact ⟨k+(x.length+7),ls ++ [x],hkx,by go_num,⟨by rw [HS.out,← HL'.out,qY HF.out,List.append_assoc,HL'.out,List.drop_drop];rfl⟩,⟨by rw [rQ,HE.out];rfl⟩,by rw [List.length_append];simp;omega,HO1',HB1'⟩
   case measure=>simp [intOf];try omega
end
end Go.Proofs.YtgfkgppomaapiaaGreatDoor.My
namespace Go.Proofs.YtgfkgppomaapiaaGreatDoor.K
open RowKit YtgfkgppomaapiaaGreatDoorW.PrintWords YtgfkgppomaapiaaGreatDoorW.PrintLast YtgfkgppomaapiaaGreatDoorW.PrintMore My
section
def RB (w0 w:World) (g:Nat) (l:List UInt8) (b:Bool):Prop:=∃ A c,w.heap[g]? = some (.cells #[.slice A l.length c,.bool b] 106 (0,0))∧l.length≤c∧kb.C w0 A l.length l
theorem RB.grown {w0 w w':World} {g:Nat} {l:List UInt8} {b:Bool} (h:RB w0 w g l b) {row:Option Nat} (hg:w.grownBy w' row) (hne:some g≠row):RB w0 w' g l b:=by
 obtain ⟨A,c,hb,hc,hC⟩:=h
 exact ⟨A,c,(hg.block g (jH hb) hne).trans hb,hc,hC⟩
theorem RB.lt {w0 w:World} {g:Nat} {l:List UInt8} {b:Bool} (h:RB w0 w g l b):g<w.heap.size:=by
 obtain ⟨A,c,hb,_⟩:=h
 exact jH hb
set_option maxHeartbeats 2000000 in
theorem IL (s:Nat) (S:Int) (hS:S=s) (hs8:s≤8) (g:Nat) (l:List UInt8) (w0 w:World) (h:RB w0 w g l false) (hb:Below w0.heap.size w0 w) (hl:s≤l.length) :
  Calls Tryz.prog 84 #[.pointer (some ⟨g,0,none⟩),.int .i64 S] w fun e w'=>e=.returned (.int .u64 (numB (l.take s):Int))∧RB w0 w' g (l.drop s) false∧w.grownBy w' (some g):=by
 subst hS
 obtain ⟨A,c,hblk,hc,hC⟩:=h
 have HBL:=iC.mk hblk
 have HB:=iC.mk hb
 have hm:=lD hC
 have HC:=iC.mk hC
 have z0:w.cell? ⟨g,0,none⟩=some (.slice A l.length c):=(iG hblk 0).trans rfl
 have z1:w.cell? ⟨g,1,none⟩=some (.bool false):=(iG hblk 1).trans rfl
 have f0:w.frozen? ⟨g,0,none⟩=false:=iE hblk 0
 obtain ⟨A2,hcut2,hC2⟩:=jc6 hC hc s (s:Int) rfl hl
 have HC2:=iC.mk hC2
 have hnot:¬ (l.length:Int)<(s:Int):=by omega
 clear hblk hb hC hC2
 go_enter Tryz.func84,Tryz.ntmps84
 go_wp2
 go_loop [5,6] (fun n i=>∃ k:Nat,k≤s∧i=.int .i64 k∧n=.int .u64 (numB (l.take k):Int)) (fun _ i=>s - (intOf i).toNat)
 case atStart=>exact ⟨0,Nat.zero_le _,rfl,rfl⟩
 case round =>
  obtain ⟨k,hk,rfl,rfl⟩:=hrel
  by_cases hlt:k<s
  ·obtain ⟨ad,rfl,hx⟩:=C_at (Kd.C_below HC.out HB.out) k (by omega)
   have hsn:=iC.mk (vM l k (by omega))
   have hn:=yT l k (by omega)
   generalize l.getD k 0=cb at hx hsn
   obtain ⟨n,hnn⟩:∃ n,n=numB (l.take k):=⟨_,rfl⟩
   rw [← hnn] at hn hsn ⊢
   clear hnn
   have hnI:(n:Int)<72057594037927936:=by omega
   clear hn
   have hcb:=cb.toNat_lt
   go_wp2
   go_round
   case rel=>exact ⟨k+1,by omega,by go_num,by rw [hsn.out];go_num⟩
   case measure=>simp [intOf];omega
  ·obtain rfl:k=s:=by omega
   go_wp2
   go_ret
   refine ⟨rfl,⟨A2,c - k,?_,by rw [List.length_drop];omega,?_⟩,jY _ _ _ _⟩
   ·rw [List.length_drop]
    exact (Lib.heap_setCell_same HBL.out _).trans rfl
   ·rw [List.length_drop]
    exact HC2.out
set_option maxHeartbeats 1000000 in
theorem YA (s:Nat) (S:Int) (hS:S=s) (g:Nat) (l:List UInt8) (b:Bool) (w0 w:World) (h:RB w0 w g l b) (hl:b=true∨l.length<s) :
  Calls Tryz.prog 84 #[.pointer (some ⟨g,0,none⟩),.int .i64 S] w fun e w'=>e=.returned (.int .u64 0)∧RB w0 w' g l true∧w.grownBy w' (some g):=by
 subst hS
 obtain ⟨A,c,hblk,hc,hC⟩:=h
 have HBL:=iC.mk hblk
 have hm:=lD hC
 have HC:=iC.mk hC
 have z0:w.cell? ⟨g,0,none⟩=some (.slice A l.length c):=(iG hblk 0).trans rfl
 have z1:w.cell? ⟨g,1,none⟩=some (.bool b):=(iG hblk 1).trans rfl
 have f1:w.frozen? ⟨g,1,none⟩=false:=iE hblk 1
 clear hblk hC
 have fin:RB w0 (w.setCell ⟨g,1,none⟩ (.bool true)) g l true:=⟨A,c,(Lib.heap_setCell_same HBL.out _).trans rfl,hc,HC.out⟩
 have FIN:=iC.mk fin
 clear fin
 cases b with
 | true =>
  clear hl
  go_enter Tryz.func84,Tryz.ntmps84
  go_wp2
  go_ret
  exact ⟨rfl,FIN.out,jY _ _ _ _⟩
 | false =>
  have hyes:(l.length:Int)<(s:Int):=by
   rcases hl with h | h
   ·cases h
   ·omega
  clear hl
  go_enter Tryz.func84,Tryz.ntmps84
  go_wp2
  go_ret
  exact ⟨rfl,FIN.out,jY _ _ _ _⟩
set_option maxHeartbeats 2000000 in
theorem zN (s least:Nat) (S T:Int) (hS:S=s) (hT:T=least) (hs8:s≤8) (h1:1≤least) (g:Nat) (l l':List UInt8) (n:Nat) (w0 w:World) (h:RB w0 w g l false) (hb:Below w0.heap.size w0 w) (hl:many s least l=some (n,l')) :
  Calls Tryz.prog 87 #[.pointer (some ⟨g,0,none⟩),.int .i64 S,.int .i64 T] w fun e w'=>e=.returned (.int .i64 (n:Int))∧RB w0 w' g l' false∧w.grownBy w' (some g):=by
 subst hT
 unfold many at hl
 obtain ⟨⟨m,r⟩,hn,hl⟩:=Option.bind_eq_some_iff.1 hl
 simp only at hl
 split at hl
 ·cases hl
 injection hl with hl
 injection hl with e1 e2
 subst e1;subst e2
 rename_i hle
 obtain ⟨hsl,hm,hr⟩:=nS hn
 have hmd:¬ ((r.length:Int) / (least:Int))<(m:Int):=by
  rw [← Int.natCast_ediv]
  omega
 have hmr:m≤r.length:=Nat.le_trans (Nat.le_of_not_lt hle) (Nat.div_le_self _ _)
 have hcall:=IL s S hS hs8 g l w0 w h hb hsl
 rw [← hm,← hr] at hcall
 clear hn hm hr hle h hb hsl hS
 have hl1:(1:Int)≤(least:Int):=by omega
 go_enter Tryz.func87,Tryz.ntmps87
 go_wp2_with fail
 go_at_call 84
 refine hcall.mono ?_
 rintro e w1 ⟨rfl,⟨A1,c1,hblk,hc1,hC1⟩,hG⟩
 have HBL:=iC.mk hblk
 have HC1:=iC.mk hC1
 have hm1:=lD hC1
 have z0:w1.cell? ⟨g,0,none⟩=some (.slice A1 r.length c1):=(iG hblk 0).trans rfl
 clear hblk hC1 hcall
 obtain ⟨hq1,hq2⟩:=xB r.length least hm1
 have hmI:(m:Int)≤9223372036854775807:=by omega
 go_wp2
 go_ret
 exact ⟨rfl,⟨A1,c1,HBL.out,hc1,HC1.out⟩,hG⟩
set_option maxHeartbeats 2000000 in
theorem uI (s least:Nat) (S T:Int) (hS:S=s) (hT:T=least) (hs8:s≤8) (h1:1≤least) (g:Nat) (l:List UInt8) (b:Bool) (w0 w:World) (h:RB w0 w g l b) (hb:Below w0.heap.size w0 w) (hl:b=true∨many s least l=none) :
  Calls Tryz.prog 87 #[.pointer (some ⟨g,0,none⟩),.int .i64 S,.int .i64 T] w fun e w'=>e=.returned (.int .i64 0)∧(∃ l',l'.length≤l.length∧RB w0 w' g l' true)∧w.grownBy w' (some g):=by
 subst hT
 by_cases hbad:b=true∨l.length<s
 ·have hcall:=YA s S hS g l b w0 w h hbad
  clear hl h hb hbad hS
  have hl1:(1:Int)≤(least:Int):=by omega
  go_enter Tryz.func87,Tryz.ntmps87
  go_wp2_with fail
  go_at_call 84
  refine hcall.mono ?_
  rintro e w1 ⟨rfl,⟨A1,c1,hblk,hc1,hC1⟩,hG⟩
  have HBL:=iC.mk hblk
  have HC1:=iC.mk hC1
  have hm1:=lD hC1
  have z0:w1.cell? ⟨g,0,none⟩=some (.slice A1 l.length c1):=(iG hblk 0).trans rfl
  clear hblk hC1 hcall
  obtain ⟨hq1,hq2⟩:=xB l.length least hm1
  have hmd:¬ ((l.length:Int) / (least:Int))<0:=Int.not_lt.2 (Int.ediv_nonneg (by omega) (by omega))
  go_wp2
  go_ret
  exact ⟨rfl,⟨l,Nat.le_refl _,A1,c1,HBL.out,hc1,HC1.out⟩,hG⟩
 ·have hb0:b=false:=by
   cases b with
   | false=>rfl
   | true=>exact absurd (.inl rfl) hbad
  subst hb0
  have hsl:s≤l.length:=by omega
  have hl:many s least l=none:=by
   rcases hl with h | h
   ·cases h
   ·exact h
  have hn:number s l=some (numB (l.take s),l.drop s):=by unfold number;rw [if_neg (by omega)]
  unfold many at hl
  rw [hn] at hl
  simp only [Option.bind_some] at hl
  split at hl
  ·rename_i hgt
   obtain ⟨m,hm⟩:∃ m,numB (l.take s)=m:=⟨_,rfl⟩
   obtain ⟨r,hr⟩:∃ r,l.drop s=r:=⟨_,rfl⟩
   have hrl:r.length≤l.length:=by rw [← hr,List.length_drop];omega
   have hcall:=IL s S hS hs8 g l w0 w h hb hsl
   rw [hm,hr] at hgt hcall
   have hmd:((r.length:Int) / (least:Int))<(m:Int):=by
    rw [← Int.natCast_ediv]
    omega
   clear hn hm hr hgt h hb hsl hS hl hbad
   have hl1:(1:Int)≤(least:Int):=by omega
   go_enter Tryz.func87,Tryz.ntmps87
   go_wp2_with fail
   go_at_call 84
   refine hcall.mono ?_
   rintro e w1 ⟨rfl,⟨A1,c1,hblk,hc1,hC1⟩,hG⟩
   have HBL:=iC.mk hblk
   have HC1:=iC.mk hC1
   have hm1:=lD hC1
   have z0:w1.cell? ⟨g,0,none⟩=some (.slice A1 r.length c1):=(iG hblk 0).trans rfl
   have z1:w1.cell? ⟨g,1,none⟩=some (.bool false):=(iG hblk 1).trans rfl
   have f1:w1.frozen? ⟨g,1,none⟩=false:=iE hblk 1
   clear hblk hC1 hcall
   obtain ⟨hq1,hq2⟩:=xB r.length least hm1
   go_wp2
   go_ret
   exact ⟨rfl,⟨r,hrl,A1,c1,(Lib.heap_setCell_same HBL.out _).trans rfl,hc1,HC1.out⟩,iV hG (jY _ _ _ _)⟩
  ·cases hl
end
section
def RP {α:Type} (res:Option (α × List UInt8)) (val:α→Value→World→Prop) (w0 w:World) (g len:Nat) (e:Ending) (w':World):Prop :=
 w.grownBy w' (some g)∧∃ x v,e=.returned v∧val x v w'∧((∃ l',res=some (x,l')∧l'.length≤len∧RB w0 w' g l' false)∨(res=none∧∃ l',l'.length≤len∧RB w0 w' g l' true))
theorem uM {w w1 w2:World} {g:Nat} {row:Option Nat} (h:w.grownBy w1 (some g)) (k:w1.grownBy w2 row) (hb:∀ b,row=some b→w.heap.size≤b):w.grownBy w2 (some g) :=
 ⟨k.os.trans h.os,k.tape.trans h.tape,k.output.trans h.output,Nat.le_trans h.size k.size,fun i hi hne=>(k.block i (Nat.lt_of_lt_of_le hi h.size) (fun e=>by have:=hb i e.symm;omega)).trans (h.block i hi hne)⟩
theorem jl5 (w:World) (x:Int):(Kd.int .i64).C (w.alloc (.cells #[.int .i64 x] 3)) (some ⟨w.heap.size,0,none⟩) 1 [x]:=by
 have h:=World.ownsRow_lit (base:=w.heap.size) (e:=3) (size:=1) w #[.int .i64 x] 1 (Nat.le_refl _) (by unfold maxLen;omega) rfl
 have h2:Kd.R (Kd.int .i64) 3 (w.alloc (.cells #[.int .i64 x] 3)) w.heap.size (fun _=>True) (.slice (some ⟨w.heap.size,0,none⟩) 1 1) [x]:=Kd.R_of_own (enc:=Value.int .i64) (h1:=fun _=>rfl) h (fun _ _=>trivial)
 obtain ⟨_,_,C⟩:=Kd.R_reads' h2
 exact C
theorem NS:(Tryz.prog.info? 3).map (fun i=>(i.zero,i.size,i.bytes))=some (some (.int .i64 0),(Kd.int .i64).sz,8):=by kernel_rfl
theorem jb3 {l r0:List UInt8} {n:Nat} (h:many 1 1 l=some (n,r0)):nV l=repP (intP 1) n r0:=by unfold nV;rw [h];rfl
set_option maxRecDepth 20000 in
set_option maxHeartbeats 4000000 in
theorem LK (g:Nat) (l:List UInt8) (b:Bool) (w0 w:World) (h:RB w0 w g l b) (hb:Below w0.heap.size w0 w) (hg:w0.heap.size≤g) (hm:(l.length:Int)≤100000) :
  Calls Tryz.prog 85 #[.pointer (some ⟨g,0,none⟩)] w (RP (if b=true then none else nV l) (fun xs v w'=>RI w' w.heap.size v xs) w0 w g l.length):=by
 have hlt:=h.lt
 by_cases hbad:b=true∨many 1 1 l=none
 ·have hres:(if b=true then none else nV l)=none:=by
   rcases hbad with h | h
   ·rw [if_pos h]
   ·split
    ·rfl
    ·unfold nV;rw [h];rfl
  rw [hres]
  have hcall:=uI 1 1 1 1 rfl rfl (by omega) (by omega) g l b w0 w h hb hbad
  clear hres hbad h hb
  go_enter Tryz.func85,Tryz.ntmps85
  go_wp2_with fail
  go_at_call 87
  refine hcall.mono ?_
  rintro e w1 ⟨rfl,⟨r,hr,hR⟩,hG⟩
  have HR:=iC.mk hR
  have HG:=iC.mk hG
  clear hcall hR hG
  go_wp2
  go_loopw [3,5] (fun v i wr=>v=.slice none 0 0∧i=.int .i64 0∧wr=w1) (fun _ _ _=>0)
  case atStart=>exact ⟨rfl,rfl,rfl⟩
  case round =>
   obtain ⟨rfl,rfl,rfl⟩:=hrel
   go_wp2
   go_ret
   exact ⟨HG.out,[],_,rfl,Kd.R_nil _ _ _ _ _,.inr ⟨rfl,r,hr,HR.out⟩⟩
 ·have hb0:b=false:=by
   cases b with
   | false=>rfl
   | true=>exact absurd (.inl rfl) hbad
  subst hb0
  rw [if_neg (by decide)]
  cases hmy:many 1 1 l with
  | none=>exact absurd (.inr hmy) hbad
  | some x =>
   obtain ⟨n,r0⟩:=x
   have hn:=jb3 hmy
   have hcall:=zN 1 1 1 1 rfl rfl (by omega) (by omega) g l r0 n w0 w h hb hmy
   obtain ⟨hl1,hl2⟩:=mQ hmy (by omega)
   have HN:=iC.mk hn
   have HB:=iC.mk hb
   have hn1:n≤r0.length:=by omega
   have hr1:(r0.length:Int)≤100000:=by omega
   have HRL:=iC.mk (show r0.length≤l.length by omega)
   have HN1:=iC.mk hn1
   have hnI:(n:Int)≤100000:=by omega
   clear hmy hn hl1 hl2 hbad h hb hn1 hm
   go_enter Tryz.func85,Tryz.ntmps85
   go_wp2_with fail
   go_at_call 87
   refine hcall.mono ?_
   rintro e w1 ⟨rfl,hR,hG⟩
   have HR:=iC.mk hR
   have HG:=iC.mk hG
   clear hcall hR hG
   go_wp2
   go_loopw [3,5] (fun v i wr=>∃ (k:Nat) (done:List Int) (r:List UInt8),k≤n∧i=.int .i64 k∧iC (n - k≤r.length∧r.length≤r0.length)∧iC (Left (intP 1) n k r0 r done)∧iC (RB w0 wr g r false)∧iC (RI wr w.heap.size v done)∧iC (w.grownBy wr (some g))) (fun _ i _=>n - (intOf i).toNat)
   case atStart=>exact ⟨0,[],r0,Nat.zero_le _,rfl,⟨by have:=HN1.out;omega,Nat.le_refl _⟩,⟨Left.start _ _ _⟩,HR,⟨Kd.R_nil _ _ _ _ _⟩,HG⟩
   case round =>
    obtain ⟨k,done,r,hk,rfl,HLN,HL,HRd,HOk,HGk⟩:=hrel
    clear HR HG
    obtain ⟨Av,cv,rfl⟩:=Kd.R_slice HOk.out
    have HDL:=iC.mk HL.out.1
    by_cases hkn:k<n
    ·have hr0:1≤r.length:=by have:=HLN.out.1;omega
     cases hp:intP 1 r with
     | none=>exact absurd (lX hp) (by omega)
     | some x =>
      obtain ⟨x,r'⟩:=x
      obtain ⟨hs1,hx,hr'⟩:=oM hp
      have HN2:=iC.mk (Left.next HL.out hkn hp)
      have hcall:=IL 1 1 rfl (by omega) g r w0 wr HRd.out (below_grown HB.out HGk.out hg (Nat.le_refl _)) hs1
      have hsm:=oC r 1 (by omega)
      have HLN2:=iC.mk (show n - (k+1)≤r'.length∧r'.length≤r0.length from by have h1:=HLN.out;rw [hr',List.length_drop];omega)
      rw [← hr'] at hcall
      obtain ⟨m,hm1⟩:∃ m,m=numB (r.take 1):=⟨_,rfl⟩
      rw [← hm1] at hcall hsm hx
      subst hx
      clear hp hr' hm1 hs1
      rw [HDL.out] at HOk ⊢
      go_wp2_with fail
      go_at_call 84
      refine hcall.mono ?_
      rintro e w2 ⟨rfl,hR,hG⟩
      have HO2:=iC.mk (jT HOk.out hG hlt)
      have HR2:=iC.mk hR
      have HG2:=iC.mk (iV HGk.out hG)
      clear hR hG hcall HOk HGk HRd
      go_wp2_with (at_builtin;go_loud (refine Kd.R_append_rows (Kd.int .i64) (w0:=w2.alloc (.cells #[.int .i64 (m:Int)] 3)) w.heap.size rfl (.tmp 13) (.tmp 17) 47 3 (.int .i64 0) 8 rfl Tryz.underlying47 NS rfl (by decide) (by omega) (.slice Av k cv) done [(m:Int)] _ _ _ (fun _=>True) (fun _=>False) rfl rfl (Kd.R_below HO2.out (iD (Below.refl _ _) _)) (jl5 w2 (m:Int)) (fun _ _ h=>h) (fun _ h=>h.elim) (fun _ _=>trivial) (Below.refl _ _) ?aS ?aL ?_;(case aS=>exact Nat.le_trans HG2.out.size (iD (Below.refl w2.heap.size w2) _).size);(case aL=>(rw [HDL.out];omega));intro v3 w3 HO3 HB3 hg3 hat;have HR3:=iC.mk (RB.grown (RB.grown HR2.out (grown_below (row:=none) (iD (Below.refl _ _) (.cells #[.int .i64 (m:Int)] 3))) (by simp)) hg3 (by intro e;have:=Kd.R_base HO2.out g e.symm;omega));have HG3:=iC.mk (uM (iV HG2.out (grown_below (iD (Below.refl _ _) (.cells #[.int .i64 (m:Int)] 3)))) hg3 (fun b e=>Kd.R_base HO2.out b e));have HO3':=iC.mk HO3;clear HO3 HB3 hg3 hat))
      go_roundw
      case rel=>exact ⟨k+1,done ++ [(m:Int)],r',by omega,by go_num,HLN2,HN2,HR3,HO3',HG3⟩
      case measure=>simp [intOf];omega
    ·obtain rfl:k=n:=by omega
     go_wp2
     go_ret
     exact ⟨HGk.out,done,_,rfl,HOk.out,.inl ⟨r,by rw [HN.out];exact Left.done HL.out,by have h1:=HLN.out;have h2:=HRL.out;omega,HRd.out⟩⟩
end
section
theorem j9_ {l r0:List UInt8} {n:Nat} (h:many 4 9 l=some (n,r0)):nC l=repP qF n r0:=by unfold nC;rw [h];rfl
theorem NG (s least:Nat) (S T:Int) (hS:S=s) (hT:T=least) (hs8:s≤8) (h1:1≤least) (g:Nat) (l:List UInt8) (w0 w:World) (h:RB w0 w g l false) (hb:Below w0.heap.size w0 w) :
  Calls Tryz.prog 87 #[.pointer (some ⟨g,0,none⟩),.int .i64 S,.int .i64 T] w fun e w'=>∃ (n:Nat) (l':List UInt8) (b:Bool),e=.returned (.int .i64 (n:Int))∧RB w0 w' g l' b∧w.grownBy w' (some g)∧(l'.length≤l.length∧n * least≤l'.length)∧((b=false→many s least l=some (n,l'))∧(b=true→n=0∧many s least l=none)):=by
 cases hm:many s least l with
 | none =>
  refine (uI s least S T hS hT hs8 h1 g l false w0 w h hb (.inr hm)).mono ?_
  rintro e w1 ⟨rfl,⟨r,hr,hR⟩,hG⟩
  exact ⟨0,r,true,rfl,hR,hG,⟨hr,by omega⟩,fun h=>(by cases h),fun _=>⟨rfl,rfl⟩⟩
 | some x =>
  obtain ⟨n,r⟩:=x
  refine (zN s least S T hS hT hs8 h1 g l r n w0 w h hb hm).mono ?_
  rintro e w1 ⟨rfl,hR,hG⟩
  obtain ⟨h2,h3⟩:=mQ hm h1
  exact ⟨n,r,false,rfl,hR,hG,⟨by omega,h3⟩,fun _=>rfl,fun h=>by cases h⟩
theorem get_any (s:Nat) (S:Int) (hS:S=s) (hs8:s≤8) (g:Nat) (l:List UInt8) (b:Bool) (w0 w:World) (h:RB w0 w g l b) (hb:Below w0.heap.size w0 w) :
  Calls Tryz.prog 84 #[.pointer (some ⟨g,0,none⟩),.int .i64 S] w fun e w'=>∃ (m:Nat) (l':List UInt8) (b':Bool),e=.returned (.int .u64 (m:Int))∧RB w0 w' g l' b'∧w.grownBy w' (some g)∧(l'.length≤l.length∧m<256 ^ s)∧((b'=false→b=false∧number s l=some (m,l'))∧(b'=true→b=true∨number s l=none)):=by
 by_cases hbad:b=true∨l.length<s
 ·refine (YA s S hS g l b w0 w h hbad).mono ?_
  rintro e w1 ⟨rfl,hR,hG⟩
  refine ⟨0,l,true,rfl,hR,hG,⟨Nat.le_refl _,Nat.pow_pos (by decide)⟩,fun h=>(by cases h),fun _=>?_⟩
  rcases hbad with h | h
  ·exact .inl h
  ·exact .inr (by unfold number;rw [if_pos h])
 ·have hb0:b=false:=by
   cases b with
   | false=>rfl
   | true=>exact absurd (.inl rfl) hbad
  subst hb0
  have hsl:s≤l.length:=by omega
  refine (IL s S hS hs8 g l w0 w h hb hsl).mono ?_
  rintro e w1 ⟨rfl,hR,hG⟩
  refine ⟨_,_,false,rfl,hR,hG,⟨by rw [List.length_drop];omega,?_⟩,fun _=>⟨rfl,by unfold number;rw [if_neg (by omega)]⟩,fun h=>by cases h⟩
  have h1:=yD (l.take s)
  rwa [List.length_take,Nat.min_eq_left hsl] at h1
theorem jj2:(Tryz.prog.info? 149).map (fun i=>(i.zero,i.size,i.bytes))=some (some (.agg #[.slice none 0 0,.int .i64 0]),k149.sz,32):=by kernel_rfl
def RFx (w:World) (base:Nat) (v:Value) (xs:List jQ):Prop:=Kd.R k149 149 w base (fun _=>True) v xs
set_option maxRecDepth 20000 in
set_option maxHeartbeats 8000000 in
theorem JR (g:Nat) (l:List UInt8) (b:Bool) (w0 w:World) (h:RB w0 w g l b) (hb:Below w0.heap.size w0 w) (hg:w0.heap.size≤g) (hm:(l.length:Int)≤100000) :
  Calls Tryz.prog 86 #[.pointer (some ⟨g,0,none⟩)] w (RP (if b=true then none else nC l) (fun xs v w'=>RFx w' w.heap.size v xs) w0 w g l.length):=by
 have hlt:=h.lt
 by_cases hbad:b=true∨many 4 9 l=none
 ·have hres:(if b=true then none else nC l)=none:=by
   rcases hbad with h | h
   ·rw [if_pos h]
   ·split
    ·rfl
    ·unfold nC;rw [h];rfl
  rw [hres]
  have hcall:=uI 4 9 4 9 rfl rfl (by omega) (by omega) g l b w0 w h hb hbad
  clear hres hbad h hb
  go_enter Tryz.func86,Tryz.ntmps86
  go_wp2_with fail
  go_at_call 87
  refine hcall.mono ?_
  rintro e w1 ⟨rfl,⟨r,hr,hR⟩,hG⟩
  have HR:=iC.mk hR
  have HG:=iC.mk hG
  clear hcall hR hG
  go_wp2
  go_loopw [3,5] (fun v i wr=>v=.slice none 0 0∧i=.int .i64 0∧wr=w1) (fun _ _ _=>0)
  case atStart=>exact ⟨rfl,rfl,rfl⟩
  case round =>
   obtain ⟨rfl,rfl,rfl⟩:=hrel
   go_wp2
   go_ret
   exact ⟨HG.out,[],_,rfl,Kd.R_nil _ _ _ _ _,.inr ⟨rfl,r,hr,HR.out⟩⟩
 ·have hb0:b=false:=by
   cases b with
   | false=>rfl
   | true=>exact absurd (.inl rfl) hbad
  subst hb0
  rw [if_neg (by decide)]
  cases hmy:many 4 9 l with
  | none=>exact absurd (.inr hmy) hbad
  | some x =>
   obtain ⟨n,r0⟩:=x
   have hn:=j9_ hmy
   have hcall:=zN 4 9 4 9 rfl rfl (by omega) (by omega) g l r0 n w0 w h hb hmy
   obtain ⟨hl1,hl2⟩:=mQ hmy (by omega)
   have HN:=iC.mk hn
   have HB:=iC.mk hb
   have hr1:(r0.length:Int)≤100000:=by omega
   have HRL:=iC.mk (show r0.length≤l.length by omega)
   have hnI:(n:Int)≤100000:=by omega
   clear hmy hn hl1 hl2 hbad h hb hm
   go_enter Tryz.func86,Tryz.ntmps86
   go_wp2_with fail
   go_at_call 87
   refine hcall.mono ?_
   rintro e w1 ⟨rfl,hR,hG⟩
   have HR:=iC.mk hR
   have HG:=iC.mk hG
   clear hcall hR hG
   go_wp2
   go_loopw [3,5] (fun v i wr=>∃ (k:Nat) (done:List jQ) (r:List UInt8) (b:Bool),k≤n∧i=.int .i64 k∧iC (r.length≤r0.length∧done.length=k)∧iC ((b=false→Left qF n k r0 r done)∧(b=true→repP qF n r0=none))∧iC (RB w0 wr g r b)∧iC (RFx wr w.heap.size v done)∧iC (w.grownBy wr (some g))) (fun _ i _=>n - (intOf i).toNat)
   case atStart=>exact ⟨0,[],r0,false,Nat.zero_le _,rfl,⟨Nat.le_refl _,rfl⟩,⟨fun _=>Left.start _ _ _,fun h=>by cases h⟩,HR,⟨Kd.R_nil _ _ _ _ _⟩,HG⟩
   case round =>
    obtain ⟨k,done,r,b,hk,rfl,HLN,HL,HRd,HOk,HGk⟩:=hrel
    clear HR HG
    obtain ⟨Av,cv,rfl⟩:=Kd.R_slice HOk.out
    obtain ⟨A1,c1,hblk,_,_⟩:=HRd.out
    have z1:wr.cell? ⟨g,1,none⟩=some (.bool b):=(iG hblk 1).trans rfl
    clear hblk
    by_cases hkn:k<n
    ·cases b with
     | true =>
      go_wp2
      go_ret
      exact ⟨HGk.out,done,_,rfl,HOk.out,.inr ⟨by rw [HN.out];exact HL.out.2 (by first | rfl | trivial),r,by have h1:=HLN.out;have h2:=HRL.out;omega,HRd.out⟩⟩
     | false =>
      obtain ⟨wo,rfl⟩:∃ x:World,x=wr:=⟨_,rfl⟩
      have hLf:=HL.out.1 rfl
      have HLf:=iC.mk hLf
      obtain ⟨W1,hW1⟩:∃ W1,W1=wo.alloc (.cells #[.slice none 0 0,.int .i64 0] 149):=⟨_,rfl⟩
      have hba:Below wo.heap.size wo W1:=by rw [hW1];exact iD (Below.refl _ _) _
      have BF1:=iC.mk (show W1.heap[wo.heap.size]? = some (.cells #[.slice none 0 0,.int .i64 0] 149 (0,0)) from by rw [hW1];exact iP rfl)
      have HR1:=iC.mk (RB.grown HRd.out (grown_below (row:=none) hba) (by simp))
      have HO1:=iC.mk (Kd.R_below (Kd.R_elderB HOk.out wo.heap.size (Nat.le_refl _)) hba)
      have HG1:=iC.mk (iV HGk.out (grown_below hba))
      have HGE:=iC.mk (show w.heap.size≤wo.heap.size from HGk.out.size)
      have hcall:=NG 1 4 1 4 rfl rfl (by omega) (by omega) g r w0 W1 HR1.out (below_grown HB.out HG1.out hg (Nat.le_refl _))
      have HW1:=iC.mk hW1
      clear hLf hba hW1 HRd HOk HGk HL
      go_wp2_with fail
      rw [← HW1.out]
      clear HW1
      go_at_call 87
      refine hcall.mono ?_
      rintro e w2 ⟨kk,r1,b1,rfl,hR,hG,hlen,hst⟩
      have BF2:=iC.mk ((hG.block wo.heap.size (jH BF1.out) (by intro e;injection e with e;have:=HGE.out;omega)).trans BF1.out)
      have HO2:=iC.mk (Kd.R_mono (ok':=fun k=>some k≠(Value.slice none 0 0).ownBlock∧k≠wo.heap.size) (jT HO1.out hG hlt) (fun k hk=>⟨by simp [Value.ownBlock],hk.2⟩))
      have HR2:=iC.mk hR
      have HG2:=iC.mk (iV HG1.out hG)
      have HLE:=iC.mk hlen
      have HST:=iC.mk hst
      have hkI:(kk:Int)≤100000:=by have:=HLN.out;omega
      clear hcall hR hG hlen hst BF1 HO1 HR1 HG1
      go_wp2
      go_loopw [8] (fun i wi=>∃ (j:Nat) (keys:List Int) (rj:List UInt8) (u:Value),j≤kk∧i=.int .i64 j∧iC (rj.length≤r1.length∧keys.length=j)∧iC (b1=false→Left (intP 4) kk j r1 rj keys∧(kk - j) * 4≤rj.length)∧iC (RB w0 wi g rj b1)∧iC (Kd.R (Kd.int .i64) 3 wi w.heap.size (fun _=>True) u keys)∧iC (Kd.R k149 149 wi w.heap.size (fun k=>some k≠u.ownBlock∧k≠wo.heap.size) (.slice Av done.length cv) done)∧iC (wi.heap[wo.heap.size]? = some (.cells #[u,.int .i64 0] 149 (0,0)))∧iC (w.grownBy wi (some g))) (fun i _=>kk - (intOf i).toNat)
      case atStart=>exact ⟨0,[],r1,.slice none 0 0,Nat.zero_le _,rfl,⟨Nat.le_refl _,rfl⟩,⟨fun _=>⟨Left.start _ _ _,by have:=HLE.out;omega⟩⟩,HR2,⟨Kd.R_nil _ _ _ _ _⟩,HO2,BF2,HG2⟩
      case round =>
       obtain ⟨j,keys,rj,u,hj,rfl,HLJ,HSJ,HRj,HKj,HOj,BFj,HGj⟩:=hrel
       obtain ⟨Au,cu,rfl⟩:=Kd.R_slice HKj.out
       clear HR2 HO2 BF2 HG2
       by_cases hjk:j<kk
       ·have hb1:b1=false:=by
         cases b1 with
         | false=>rfl
         | true=>have:=(HST.out.2 rfl).1;omega
        subst hb1
        obtain ⟨hLj,hl4⟩:=HSJ.out rfl
        cases hp:intP 4 rj with
        | none=>exact absurd (lX hp) (by omega)
        | some x =>
         obtain ⟨x,r'⟩:=x
         obtain ⟨hs1,hx,hr'⟩:=oM hp
         have HN2:=iC.mk (Left.next hLj hjk hp)
         have hsm:=oC rj 4 (by omega)
         have HLJ2:=iC.mk (show (r'.length≤r1.length∧keys.length+1=j+1)∧(kk - (j+1)) * 4≤r'.length from by have h1:=HLJ.out;rw [hr',List.length_drop];omega)
         have hbd:Below wr.heap.size wr wr.drew:=iQ (Below.refl _ _)
         have HRd:=iC.mk (RB.grown HRj.out (grown_below (row:=none) hbd) (by simp))
         have HKd:=iC.mk (Kd.R_drew HKj.out)
         have HOd:=iC.mk (Kd.R_drew HOj.out)
         have BFd:=iC.mk (kK BFj.out)
         have HGd:=iC.mk (iV HGj.out (grown_below hbd))
         have hcall:=IL 4 4 rfl (by omega) g rj w0 wr.drew HRd.out (below_grown HB.out HGd.out hg (Nat.le_refl _)) hs1
         rw [← hr'] at hcall
         obtain ⟨m,hm1⟩:∃ m,m=numB (rj.take 4):=⟨_,rfl⟩
         rw [← hm1] at hcall hsm hx
         subst hx
         have hw64:=vY m (by omega)
         clear hp hr' hm1 hs1 hLj hl4 hbd HRj HKj HOj BFj HGj HRd
         go_wp2
         refine qJ (n:=9) (S:=fun w'=>w'.cell? ⟨wo.heap.size,0,none⟩=some (.slice Au keys.length cu)) (ds:=[8]) #[false,false,false,false,false,false,false,false,false] (by kernel_rfl) rfl rfl ((iG BFd.out 0).trans rfl) (fun hHeld=>?_)
         refine mM (T:=(true,[([],[]),([0],[0]),([],[]),([2],[2]),([3],[3]),([4],[4]),([1,5,3],[1,5]),([0,1,2,3,4,5,6],[]),([7,6,6,0,1,2,3,4,5,6],[6,7])])) (B:=[0,1,0,4,12,28,63,127,255]) (by kernel_rfl) (by kernel_rfl) (fun HT_ HW_=>?_)
         refine jK (i:=0) (N:=some 31) (v:=?_) (a':=?_) #[true,false,false,false,false,false,false,false,false] rfl rfl (iZ HT_.out (by kernel_rfl)) (fun _ _ _ h=>h) (Or.inl ⟨by rfl,?_⟩) ?_ ?_
         rotate_left
         ·intro w'
          go_simp
          with_reducible rfl
         rotate_left
         ·simp only [Act.put,sb_,sz_,ss_,iO,jA]
          rfl
         refine jK (i:=2) (N:=some 33) (v:=?_) (a':=?_) #[true,false,true,false,false,false,false,false,false] rfl rfl (iZ HT_.out (by kernel_rfl)) (fun _ _ _ h=>h) (Or.inl ⟨by rfl,?_⟩) ?_ ?_
         rotate_left
         ·intro w'
          go_simp
          with_reducible rfl
         rotate_left
         ·simp only [Act.put,sb_,sz_,ss_,iO,jA]
          rfl
         refine qP (i:=1) (N:=some 32) (v:=?_) (a':=?_) #[true,true,true,false,false,false,false,false,false] rfl rfl (lF HT_.out HW_.out (by kernel_rfl)) (fun _ _ _ h=>h) (Or.inl ⟨by rfl,?_⟩) hHeld ?_ ?_
         rotate_left
         ·intro w' s0
          go_simp
          with_reducible rfl
         rotate_left
         ·simp only [Act.put,sb_,sz_,ss_,iO,jA]
          rfl
         refine one_ (i:=3) (N:=some 34) #[true,true,true,true,false,false,false,false,false] rfl rfl (kY HT_.out (by kernel_rfl)) (by decide) (fun K hK=>?_)
         refine oD Tryz.func84 (by kernel_rfl) rfl #[.pointer (some ⟨g,0,none⟩),.int .i64 4] (by rfl) rfl rfl (by simp only [List.map_toArray,List.map_cons,List.map_nil];rfl) ?_
         with_reducible refine (hcall).mono ?_
         rintro e w3 ⟨rfl,hR3,hG3⟩
         refine ⟨_,rfl,?_⟩
         have BF3:=iC.mk ((hG3.block wo.heap.size (jH BFd.out) (by intro e;injection e with e;have:=HGE.out;omega)).trans BFd.out)
         have HO3:=iC.mk (jT HOd.out hG3 hlt)
         have HK3:=iC.mk (jT HKd.out hG3 hlt)
         have HR3:=iC.mk hR3
         have HG3:=iC.mk (iV HGd.out hG3)
         clear hR3 hG3
         refine hK.out _ _ ((iG BF3.out 0).trans rfl) (fun hHeld=>?_)
         clear hK K
         refine lL (a':=?_) ?_ ?_
         rotate_left
         ·show Act.put _ (some 34) _=_
          simp only [Act.put,sb_,sz_,ss_,iO,jA]
          rfl
         refine jK (i:=4) (N:=some 35) (v:=?_) (a':=?_) #[true,true,true,true,true,false,false,false,false] rfl rfl (iZ HT_.out (by kernel_rfl)) (fun _ _ _ h=>h) (Or.inl ⟨by rfl,?_⟩) ?_ ?_
         rotate_left
         ·intro w'
          go_simp
          with_reducible rfl
         rotate_left
         ·simp only [Act.put,sb_,sz_,ss_,iO,jA]
          rfl
         refine one_ (i:=5) (N:=some 36) #[true,true,true,true,true,true,false,false,false] rfl rfl (kY HT_.out (by kernel_rfl)) (by decide) (fun K hK=>?_)
         refine jC (w1:=?_) (v:=?_) (by rfl) rfl ?_ ?_
         rotate_left 2
         ·go_simp
          constructor
          ·rfl
          ·rfl
         refine hK.out _ _ ((iG (kD BF3.out _) 0).trans rfl) (fun hHeld=>?_)
         clear hK K
         refine lL (a':=?_) ?_ ?_
         rotate_left
         ·show Act.put _ (some 36) _=_
          simp only [Act.put,sb_,sz_,ss_,iO,jA]
          rfl
         refine one_ (i:=6) (N:=some 37) #[true,true,true,true,true,true,true,false,false] rfl rfl (kY HT_.out (by kernel_rfl)) (by decide) (fun K hK=>?_)
         refine Kd.R_append_step (Kd.int .i64) (w0:=w3) w.heap.size (by rfl) (.tmp 32) (.tmp 36) 47 3 (.int .i64 0) 8 rfl Tryz.underlying47 NS rfl (by decide) (by omega) (.slice Au keys.length cu) keys (m:Int) [.int .i64 (m:Int)] (fun _=>True) (fun _=>False) rfl rfl rfl (fun _ hk=>hk.elim) (fun _ _=>trivial) HK3.out (Below.refl _ _) HG3.out.size (by have:=HLJ.out;omega) ?_
         intro v4 w4 ho hb4 hg4 hat
         obtain ⟨A4,c4,rfl⟩:=Kd.R_slice ho
         have hkl:(keys ++ [(m:Int)]).length=keys.length+1:=by rw [List.length_append];rfl
         rw [hkl] at ho hat ⊢
         clear hkl
         have HK4:=iC.mk ho
         have HO4:=iC.mk (Kd.R_after (ok:=fun k=>k≠wo.heap.size) (Kd.R_mono HO3.out (fun _ hk=>⟨hk.2,hk.1⟩)) hg4 hat)
         have BF4:=iC.mk (qQ (g:=wo.heap.size) BF3.out hg4 (Kd.R_ne HK3.out BF3.out (by decide)))
         have HR4:=iC.mk (RB.grown HR3.out hg4 (by intro e;have:=Kd.R_base HK3.out g e.symm;omega))
         have HG4:=iC.mk (uM HG3.out hg4 (fun b e=>Kd.R_base HK3.out b e))
         have hs4:w4.cell? ⟨wo.heap.size,0,none⟩=some (.slice Au keys.length cu):=(iG BF4.out 0).trans rfl
         have hf4:=iE BF4.out 0
         clear ho hb4 hg4 hat HO3 HR3 HG3
         refine hK.out _ _ ((iG BF4.out 0).trans rfl) (fun hHeld=>?_)
         clear hK K
         refine lL (a':=?_) ?_ ?_
         rotate_left
         ·show Act.put _ (some 37) _=_
          simp only [Act.put,sb_,sz_,ss_,iO,jA]
          rfl
         refine jK (i:=7) (N:=some 38) (v:=?_) (a':=?_) #[true,true,true,true,true,true,true,true,false] rfl rfl (iZ HT_.out (by kernel_rfl)) (fun _ _ _ h=>h) (Or.inl ⟨by rfl,?_⟩) ?_ ?_
         rotate_left
         ·intro w'
          go_simp
          with_reducible rfl
         rotate_left
         ·simp only [Act.put,sb_,sz_,ss_,iO,jA]
          rfl
         refine jd0 (i:=8) (N:=none) #[true,true,true,true,true,true,true,true,true] rfl rfl (kY HT_.out (by kernel_rfl)) (by decide) (fun K hK=>?_)
         refine j2_ (w1:=?_) (by rfl) rfl ?_ ?_
         rotate_left
         ·go_simp
          rfl
         refine hK.out _ _ ?_
         clear hK K
         refine zI (pM HT_.out (by kernel_rfl)) ?_
         go_wp2
         go_roundw
         case rel=>exact ⟨j+1,keys ++ [(m:Int)],r',_,by omega,by go_num,⟨HLJ2.out.1.1,by rw [List.length_append];exact HLJ2.out.1.2⟩,⟨fun _=>⟨HN2.out,HLJ2.out.2⟩⟩,⟨RB.grown HR4.out (jY _ _ _ _) (by intro e;injection e with e;have:=HGE.out;omega)⟩,⟨Kd.R_mono (Kd.R_far (p:=⟨wo.heap.size,0,none⟩) (Kd.R_types HK4.out BF4.out (by decide)) (fun _ hk=>hk.2) _) (fun _ _=>trivial)⟩,⟨Kd.R_mono (Kd.R_far (p:=⟨wo.heap.size,0,none⟩) HO4.out (fun _ hk=>hk.1) _) (fun _ hk=>⟨hk.2,hk.1⟩)⟩,⟨jU (cs:=#[.slice Au keys.length cu,.int .i64 0]) BF4.out 0 _ rfl⟩,⟨kF HG4.out (jY _ _ _ _) HGE.out⟩⟩
         case measure=>simp [intOf];omega
       ·obtain rfl:j=kk:=by omega
        have HPJ:=iC.mk HKj.out.1
        have hcall:=get_any 8 8 rfl (by omega) g rj b1 w0 wr HRj.out (below_grown HB.out HGj.out hg (Nat.le_refl _))
        obtain ⟨wi,rfl⟩:∃ x:World,x=wr:=⟨_,rfl⟩
        go_wp2_with fail
        go_at_call 84
        refine hcall.mono ?_
        rintro e w3 ⟨m,r3,b3,rfl,hR3,hG3,hlen3,hst3⟩
        have BF3:=iC.mk ((hG3.block wo.heap.size (jH BFj.out) (by intro e;injection e with e;have:=HGE.out;omega)).trans BFj.out)
        have HO3:=iC.mk (jT HOj.out hG3 hlt)
        have HK3:=iC.mk (jT HKj.out hG3 hlt)
        have HR3:=iC.mk hR3
        have HG3:=iC.mk (iV HGj.out hG3)
        have hw64:=TY m (by have h8:=hlen3.2;rw [show (256:Nat) ^ 8=18446744073709551616 from by decide] at h8;exact h8)
        have HL3:=iC.mk hlen3.1
        have HS3:=iC.mk hst3
        clear hcall hR3 hG3 hlen3 hst3 HRj HKj HOj BFj HGj HPJ
        obtain ⟨V,hV⟩:∃ V,V=s64 m:=⟨_,rfl⟩
        rw [← hV] at hw64
        have HV:=iC.mk hV
        clear hV
        have hs3:w3.cell? ⟨wo.heap.size,1,none⟩=some (.int .i64 0):=(iG BF3.out 1).trans rfl
        have hf3:=iE BF3.out 1
        have BF4:=iC.mk (show (w3.setCell ⟨wo.heap.size,1,none⟩ (.int .i64 V)).heap[wo.heap.size]? = some (.cells #[.slice Au keys.length cu,.int .i64 V] 149 (0,0)) from jU BF3.out 1 _ rfl)
        have HO4:=iC.mk (Kd.R_far (p:=⟨wo.heap.size,1,none⟩) HO3.out (fun _ hk=>hk.2) (.int .i64 V))
        have HK4:=iC.mk (Kd.R_far (p:=⟨wo.heap.size,1,none⟩) (Kd.R_types HK3.out BF3.out (by decide)) (fun _ hk=>hk.2) (.int .i64 V))
        have HR4:=iC.mk (RB.grown HR3.out (jY w3 wo.heap.size 1 (.int .i64 V)) (by intro e;injection e with e;have:=HGE.out;omega))
        have HG4:=iC.mk (kF HG3.out (jY w3 wo.heap.size 1 (.int .i64 V)) HGE.out)
        have hc0:(w3.setCell ⟨wo.heap.size,1,none⟩ (.int .i64 V)).cell? ⟨wo.heap.size,0,none⟩=some (.slice Au keys.length cu):=(iG BF4.out 0).trans rfl
        have hc1:(w3.setCell ⟨wo.heap.size,1,none⟩ (.int .i64 V)).cell? ⟨wo.heap.size,1,none⟩=some (.int .i64 V):=(iG BF4.out 1).trans rfl
        clear HO3 HK3 HR3 HG3
        go_upto_region 13 with fail
        obtain ⟨w4,hw4⟩:∃ w4,w4=w3.setCell ⟨wo.heap.size,1,none⟩ (.int .i64 V):=⟨_,rfl⟩
        rw [← hw4] at BF4 HO4 HK4 HR4 HG4 hc0 hc1 ⊢
        clear hw4 hs3 hf3 hw64
        go_wp2_with (at_builtin;go_loud (refine Kd.R_append k149 (w0:=w4) w.heap.size rfl (.tmp 43) (.tmp 45) 48 149 (.agg #[.slice none 0 0,.int .i64 0]) 32 rfl Tryz.underlying48 jj2 rfl (by decide) (by omega) (.slice Av done.length cv) done ⟨keys,V⟩ [.slice Au keys.length cu,.int .i64 V] (fun k=>k≠wo.heap.size) (fun k=>some k=(Value.slice Au keys.length cu).ownBlock) rfl rfl ?aP ?aK ?aF ?aO (Below.refl _ _) HG4.out.size ?aL ?_;(case aP=>exact zK _ _ _ (⟨keys,V⟩:jQ) (Kd.R_mono (Kd.R_tight rfl HK4.out) (fun _ h_=>h_)));(case aK=>exact fun k h=>⟨(HK4.out.1 k h.symm).2,fun e=>(HO4.out.1 k e.symm).1 h⟩);(case aF=>exact Kd.freshB BF4.out);(case aO=>exact Kd.R_mono HO4.out (fun _ hk=>hk.2));(case aL=>(have:=HLN.out;omega));intro v5 w5 ho hb5 hg5 hat;have HO5:=iC.mk ho;have HR5:=iC.mk (RB.grown HR4.out hg5 (by intro e;have:=Kd.R_base HO4.out g e.symm;omega));have HG5:=iC.mk (uM HG4.out hg5 (fun b e=>Kd.R_base HO4.out b e));clear ho hb5 hg5 hat))
        go_roundw
        case rel =>
         refine ⟨k+1,done ++ [⟨keys,V⟩],r3,b3,by omega,by go_num,⟨by have h1:=HLN.out;have h2:=HLE.out;have h3:=HL3.out;have h4:=HLJ.out;omega,by rw [List.length_append,HLN.out.2];rfl⟩,⟨fun h=>?_,fun h=>?_⟩,HR5,⟨Kd.R_mono HO5.out (fun _ _=>trivial)⟩,HG5⟩
         ·obtain ⟨e1,e2⟩:=HS3.out.1 h
          have h1:=HST.out.1 e1
          have h2:=Left.done (HSJ.out e1).1
          rw [HV.out]
          exact Left.next HLf.out hkn (JJ h1 h2 e2)
         ·refine Left.fail HLf.out hkn ?_
          cases b1 with
          | true =>
           have h1:=(HST.out.2 rfl).2
           unfold qF
           rw [h1]
           rfl
          | false =>
           have h1:=HST.out.1 rfl
           have h2:=Left.done (HSJ.out rfl).1
           rcases HS3.out.2 h with e | e
           ·cases e
           ·unfold qF
            rw [h1]
            simp only [Option.bind_some]
            rw [h2]
            simp only [Option.bind_some]
            rw [e]
            rfl
        case measure=>simp [intOf];omega
    ·obtain rfl:k=n:=by omega
     go_wp2
     go_ret
     cases b with
     | true=>exact ⟨HGk.out,done,_,rfl,HOk.out,.inr ⟨by rw [HN.out];exact HL.out.2 rfl,r,by have h1:=HLN.out;have h2:=HRL.out;omega,HRd.out⟩⟩
     | false=>exact ⟨HGk.out,done,_,rfl,HOk.out,.inl ⟨r,by rw [HN.out];exact Left.done (HL.out.1 rfl),by have h1:=HLN.out;have h2:=HRL.out;omega,HRd.out⟩⟩
end
section
theorem U9 {l r0:List UInt8} {n:Nat} (h:many 4 8 l=some (n,r0)):lI l=repP mY n r0:=by unfold lI;rw [h];rfl
theorem jf5:(Tryz.prog.info? 114).map (fun i=>(i.zero,i.size,i.bytes))=some (some (.agg #[.int .u32 0,.slice none 0 0]),k114.sz,32):=by kernel_rfl
def REx (w:World) (base:Nat) (v:Value) (xs:List jJ):Prop:=Kd.R k114 114 w base (fun _=>True) v xs
set_option maxRecDepth 20000 in
set_option maxHeartbeats 8000000 in
theorem NL (g:Nat) (l:List UInt8) (b:Bool) (w0 w:World) (h:RB w0 w g l b) (hb:Below w0.heap.size w0 w) (hg:w0.heap.size≤g) (hm:(l.length:Int)≤100000) :
  Calls Tryz.prog 88 #[.pointer (some ⟨g,0,none⟩)] w (RP (if b=true then none else lI l) (fun xs v w'=>REx w' w.heap.size v xs) w0 w g l.length):=by
 have hlt:=h.lt
 by_cases hbad:b=true∨many 4 8 l=none
 ·have hres:(if b=true then none else lI l)=none:=by
   rcases hbad with h | h
   ·rw [if_pos h]
   ·split
    ·rfl
    ·unfold lI;rw [h];rfl
  rw [hres]
  have hcall:=uI 4 8 4 8 rfl rfl (by omega) (by omega) g l b w0 w h hb hbad
  clear hres hbad h hb
  go_enter Tryz.func88,Tryz.ntmps88
  go_wp2_with fail
  go_at_call 87
  refine hcall.mono ?_
  rintro e w1 ⟨rfl,⟨r,hr,hR⟩,hG⟩
  have HR:=iC.mk hR
  have HG:=iC.mk hG
  clear hcall hR hG
  go_wp2
  go_loopw [3,5] (fun v i wr=>v=.slice none 0 0∧i=.int .i64 0∧wr=w1) (fun _ _ _=>0)
  case atStart=>exact ⟨rfl,rfl,rfl⟩
  case round =>
   obtain ⟨rfl,rfl,rfl⟩:=hrel
   go_wp2
   go_ret
   exact ⟨HG.out,[],_,rfl,Kd.R_nil _ _ _ _ _,.inr ⟨rfl,r,hr,HR.out⟩⟩
 ·have hb0:b=false:=by
   cases b with
   | false=>rfl
   | true=>exact absurd (.inl rfl) hbad
  subst hb0
  rw [if_neg (by decide)]
  cases hmy:many 4 8 l with
  | none=>exact absurd (.inr hmy) hbad
  | some x =>
   obtain ⟨n,r0⟩:=x
   have hn:=U9 hmy
   have hcall:=zN 4 8 4 8 rfl rfl (by omega) (by omega) g l r0 n w0 w h hb hmy
   obtain ⟨hl1,hl2⟩:=mQ hmy (by omega)
   have HN:=iC.mk hn
   have HB:=iC.mk hb
   have hr1:(r0.length:Int)≤100000:=by omega
   have HRL:=iC.mk (show r0.length≤l.length by omega)
   have hnI:(n:Int)≤100000:=by omega
   clear hmy hn hl1 hl2 hbad h hb hm
   go_enter Tryz.func88,Tryz.ntmps88
   go_wp2_with fail
   go_at_call 87
   refine hcall.mono ?_
   rintro e w1 ⟨rfl,hR,hG⟩
   have HR:=iC.mk hR
   have HG:=iC.mk hG
   clear hcall hR hG
   go_wp2
   go_loopw [3,5] (fun v i wr=>∃ (k:Nat) (done:List jJ) (r:List UInt8) (b:Bool),k≤n∧i=.int .i64 k∧iC (r.length≤r0.length∧done.length=k)∧iC ((b=false→Left mY n k r0 r done)∧(b=true→repP mY n r0=none))∧iC (RB w0 wr g r b)∧iC (REx wr w.heap.size v done)∧iC (w.grownBy wr (some g))) (fun _ i _=>n - (intOf i).toNat)
   case atStart=>exact ⟨0,[],r0,false,Nat.zero_le _,rfl,⟨Nat.le_refl _,rfl⟩,⟨fun _=>Left.start _ _ _,fun h=>by cases h⟩,HR,⟨Kd.R_nil _ _ _ _ _⟩,HG⟩
   case round =>
    obtain ⟨k,done,r,b,hk,rfl,HLN,HL,HRd,HOk,HGk⟩:=hrel
    clear HR HG
    obtain ⟨Av,cv,rfl⟩:=Kd.R_slice HOk.out
    obtain ⟨A1,c1,hblk,_,_⟩:=HRd.out
    have z1:wr.cell? ⟨g,1,none⟩=some (.bool b):=(iG hblk 1).trans rfl
    clear hblk
    by_cases hkn:k<n
    ·cases b with
     | true =>
      go_wp2
      go_ret
      exact ⟨HGk.out,done,_,rfl,HOk.out,.inr ⟨by rw [HN.out];exact HL.out.2 (by first | rfl | trivial),r,by have h1:=HLN.out;have h2:=HRL.out;omega,HRd.out⟩⟩
     | false =>
      have hLf:=HL.out.1 rfl
      have HLf:=iC.mk hLf
      obtain ⟨wo,rfl⟩:∃ x:World,x=wr:=⟨_,rfl⟩
      obtain ⟨W1,hW1⟩:∃ W1,W1=wo.alloc (.cells #[.int .u32 0,.slice none 0 0] 114):=⟨_,rfl⟩
      have hba:Below wo.heap.size wo W1:=by rw [hW1];exact iD (Below.refl _ _) _
      have BF1:=iC.mk (show W1.heap[wo.heap.size]? = some (.cells #[.int .u32 0,.slice none 0 0] 114 (0,0)) from by rw [hW1];exact iP rfl)
      have HR1:=iC.mk (RB.grown HRd.out (grown_below (row:=none) hba) (by simp))
      have HO1:=iC.mk (Kd.R_below (Kd.R_elderB HOk.out wo.heap.size (Nat.le_refl _)) hba)
      have HG1:=iC.mk (iV HGk.out (grown_below hba))
      have HGE:=iC.mk (show w.heap.size≤wo.heap.size from HGk.out.size)
      have hgw:g≠wo.heap.size:=by have:=HGE.out;omega
      have HGW:=iC.mk hgw
      have hcall:=get_any 4 4 rfl (by omega) g r false w0 W1 HR1.out (below_grown HB.out HG1.out hg (Nat.le_refl _))
      have HW1:=iC.mk hW1
      clear hLf hba hW1 HRd HOk HGk HL hgw
      go_wp2_with fail
      rw [← HW1.out]
      clear HW1
      go_at_call 84
      refine hcall.mono ?_
      rintro e w2 ⟨m,r1,b1,rfl,hR,hG,hlen,hst⟩
      have BF2:=iC.mk ((hG.block wo.heap.size (jH BF1.out) (by intro e;injection e with e;exact HGW.out e.symm)).trans BF1.out)
      have HO2:=iC.mk (jT HO1.out hG hlt)
      have HR2:=iC.mk hR
      have HG2:=iC.mk (iV HG1.out hG)
      have hmb:(m:Int)<4294967296:=by have h8:=hlen.2;rw [show (256:Nat) ^ 4=4294967296 from by decide] at h8;omega
      have hwu:IntKind.u32.wrap (m:Int)=(m:Int):=by rw [show IntKind.u32.wrap (m:Int)=(m:Int) % 4294967296 by simp [IntKind.wrap,IntKind.bits,IntKind.signed]];omega
      have HL1:=iC.mk hlen.1
      have HS1:=iC.mk hst
      have hs2:w2.cell? ⟨wo.heap.size,0,none⟩=some (.int .u32 0):=(iG BF2.out 0).trans rfl
      have hf2:=iE BF2.out 0
      have BF3:=iC.mk (show (w2.setCell ⟨wo.heap.size,0,none⟩ (.int .u32 (m:Int))).heap[wo.heap.size]? = some (.cells #[.int .u32 (m:Int),.slice none 0 0] 114 (0,0)) from jU BF2.out 0 _ rfl)
      have HO3:=iC.mk (Kd.R_far (p:=⟨wo.heap.size,0,none⟩) HO2.out (fun _ hk=>hk.2) (.int .u32 (m:Int)))
      have HR3:=iC.mk (RB.grown HR2.out (jY w2 wo.heap.size 0 (.int .u32 (m:Int))) (by intro e;injection e with e;exact HGW.out e))
      have HG3:=iC.mk (kF HG2.out (jY w2 wo.heap.size 0 (.int .u32 (m:Int))) HGE.out)
      clear hcall hR hG hlen hst BF1 HO1 HR1 HG1
      go_upto_region 8 with fail
      obtain ⟨w3,hw3⟩:∃ w3,w3=w2.setCell ⟨wo.heap.size,0,none⟩ (.int .u32 (m:Int)):=⟨_,rfl⟩
      rw [← hw3] at BF3 HO3 HR3 HG3 ⊢
      clear hw3 hs2 hf2 BF2 HO2 HR2 HG2
      have hcall:=JR g r1 b1 w0 w3 HR3.out (below_grown HB.out HG3.out hg (Nat.le_refl _)) (Nat.le_trans hg (Nat.le_refl _)) (by have h1:=HL1.out;have h2:=HLN.out;omega)
      go_wp2_with fail
      go_at_call 86
      refine hcall.mono ?_
      rintro e w4 ⟨hG,fs,vf,rfl,hF,hres⟩
      have hF:Kd.R k149 149 w4 w3.heap.size (fun _=>True) vf fs:=hF
      have hst4:∃ r2 b2,RB w0 w4 g r2 b2∧r2.length≤r1.length∧(b2=false→mY r=some (⟨(m:Int),fs⟩,r2))∧(b2=true→mY r=none):=by
       rcases hres with ⟨l',h1,h2,h3⟩ | ⟨h1,l',h2,h3⟩
       ·refine ⟨l',false,h3,h2,fun _=>?_,fun h=>by cases h⟩
        cases b1 with
        | true=>rw [if_pos rfl] at h1;cases h1
        | false =>
         rw [if_neg (by decide)] at h1
         have e1:=(HS1.out.1 rfl).2
         unfold mY intP
         rw [e1]
         simp only [Option.bind_some]
         rw [h1]
         rfl
       ·refine ⟨l',true,h3,h2,fun h=>(by cases h),fun _=>?_⟩
        cases b1 with
        | true =>
         rcases HS1.out.2 rfl with e | e
         ·cases e
         ·unfold mY intP
          rw [e]
          rfl
        | false =>
         rw [if_neg (by decide)] at h1
         have e1:=(HS1.out.1 rfl).2
         unfold mY intP
         rw [e1]
         simp only [Option.bind_some]
         rw [h1]
         rfl
      obtain ⟨r2,b2,hR,hlen,hst⟩:=hst4
      have hown:∀ k,w3.heap.size≤k→k≠wo.heap.size∧some k≠(Value.slice Av done.length cv).ownBlock:=fun k hk=>⟨fun e=>by have:=jH BF3.out;omega,fun e=>by have:=((Kd.R_bound HO3.out).1 k e.symm).2.2.1;omega⟩
      have HOW:=iC.mk hown
      have BF4:=iC.mk ((hG.block wo.heap.size (jH BF3.out) (by intro e;injection e with e;exact HGW.out e.symm)).trans BF3.out)
      have HO4:=iC.mk (jT HO3.out hG hlt)
      have HR4:=iC.mk hR
      have HG4:=iC.mk (iV HG3.out hG)
      have HF4:=iC.mk (Kd.R_lower (Kd.R_mono (ok':=fun k=>k≠wo.heap.size∧some k≠(Value.slice Av done.length cv).ownBlock) (Kd.R_bound hF) (fun k hk=>HOW.out k hk.2.1)) HG3.out.size)
      obtain ⟨Af,cf,rfl⟩:=Kd.R_slice hF
      have HL2:=iC.mk hlen
      have HS2:=iC.mk hst
      clear hcall hR hG hlen hst hres hF hown BF3 HO3 HR3 HG3 HOW
      have hs4:w4.cell? ⟨wo.heap.size,1,none⟩=some (.slice none 0 0):=(iG BF4.out 1).trans rfl
      have hf4:=iE BF4.out 1
      have BF5:=iC.mk (show (w4.setCell ⟨wo.heap.size,1,none⟩ (.slice Af fs.length cf)).heap[wo.heap.size]? = some (.cells #[.int .u32 (m:Int),.slice Af fs.length cf] 114 (0,0)) from jU BF4.out 1 _ rfl)
      have HO5:=iC.mk (Kd.R_far (p:=⟨wo.heap.size,1,none⟩) HO4.out (fun _ hk=>hk.2) (.slice Af fs.length cf))
      have HF5:=iC.mk (Kd.R_far (p:=⟨wo.heap.size,1,none⟩) HF4.out (fun _ hk=>hk.1) (.slice Af fs.length cf))
      have HR5:=iC.mk (RB.grown HR4.out (jY w4 wo.heap.size 1 (.slice Af fs.length cf)) (by intro e;injection e with e;exact HGW.out e))
      have HG5:=iC.mk (kF HG4.out (jY w4 wo.heap.size 1 (.slice Af fs.length cf)) HGE.out)
      clear HO4 HF4 HR4 HG4
      go_upto_region 9 with fail
      obtain ⟨w5,hw5⟩:∃ w5,w5=w4.setCell ⟨wo.heap.size,1,none⟩ (.slice Af fs.length cf):=⟨_,rfl⟩
      rw [← hw5] at BF5 HO5 HF5 HR5 HG5 ⊢
      clear hw5 hs4 hf4 BF4
      have hc0:w5.cell? ⟨wo.heap.size,0,none⟩=some (.int .u32 (m:Int)):=(iG BF5.out 0).trans rfl
      have hc1:w5.cell? ⟨wo.heap.size,1,none⟩=some (.slice Af fs.length cf):=(iG BF5.out 1).trans rfl
      go_wp2_with (at_builtin;go_loud (refine Kd.R_append k114 (w0:=w5) w.heap.size rfl (.tmp 29) (.tmp 31) 52 114 (.agg #[.int .u32 0,.slice none 0 0]) 32 rfl Tryz.underlying52 jf5 rfl (by decide) (by omega) (.slice Av done.length cv) done ⟨(m:Int),fs⟩ [.int .u32 (m:Int),.slice Af fs.length cf] (fun _=>True) (fun k=>k≠wo.heap.size∧some k≠(Value.slice Av done.length cv).ownBlock) rfl rfl ?aP (fun _ h=>⟨trivial,h.2⟩) (fun _ _=>trivial) ?aO (Below.refl _ _) HG5.out.size ?aL ?_;(case aP=>exact MB _ _ _ (⟨(m:Int),fs⟩:jJ) HF5.out);(case aO=>exact Kd.R_mono HO5.out (fun _ _=>trivial));(case aL=>(have:=HLN.out;omega));intro v6 w6 ho hb6 hg6 hat;have HO6:=iC.mk ho;have HR6:=iC.mk (RB.grown HR5.out hg6 (by intro e;have:=Kd.R_base HO5.out g e.symm;omega));have HG6:=iC.mk (uM HG5.out hg6 (fun b e=>Kd.R_base HO5.out b e));clear ho hb6 hg6 hat))
      go_roundw
      case rel=>exact ⟨k+1,done ++ [(⟨(m:Int),fs⟩:jJ)],r2,b2,by omega,by go_num,⟨by have h1:=HLN.out;have h2:=HL1.out;have h3:=HL2.out;omega,by rw [List.length_append,HLN.out.2];rfl⟩,⟨fun h=>Left.next HLf.out hkn (HS2.out.1 h),fun h=>Left.fail HLf.out hkn (HS2.out.2 h)⟩,HR6,⟨HO6.out⟩,HG6⟩
      case measure=>simp [intOf];omega
    ·obtain rfl:k=n:=by omega
     go_wp2
     go_ret
     cases b with
     | true=>exact ⟨HGk.out,done,_,rfl,HOk.out,.inr ⟨by rw [HN.out];exact HL.out.2 rfl,r,by have h1:=HLN.out;have h2:=HRL.out;omega,HRd.out⟩⟩
     | false=>exact ⟨HGk.out,done,_,rfl,HOk.out,.inl ⟨r,by rw [HN.out];exact Left.done (HL.out.1 rfl),by have h1:=HLN.out;have h2:=HRL.out;omega,HRd.out⟩⟩
end
end Go.Proofs.YtgfkgppomaapiaaGreatDoor.K
section
namespace Go.Proofs.YtgfkgppomaapiaaGreatDoor.K
open RowKit YtgfkgppomaapiaaGreatDoorW.PrintWords YtgfkgppomaapiaaGreatDoorW.PrintLast YtgfkgppomaapiaaGreatDoorW.PrintMore My
structure nP (w0 w W:World) (g:Nat) (x:SRec) (A3:Option Addr) (a3:Nat) (A4:Option Addr) (a4:Nat) (A6:Option Addr) (a6:Nat) (A9:Option Addr) (a9:Nat) (r:List UInt8) (b:Bool):Prop where
 xb:W.heap[w.heap.size+1]? = some (.cells #[.int .u8 x.f0,.int .u32 x.f1,.int .u32 x.f2,.slice A3 x.f3.length a3,.slice A4 x.f4.length a4,.int .u32 x.f5.f0,.slice A6 x.f5.f1.length a6,.int .i64 x.f6,.int .i64 x.f7,.slice A9 x.f8.length a9] 54 (0,0))
 zb:W.heap[w.heap.size]? = some (.cells #[.int .u8 0,.int .u32 0,.int .u32 0,.slice none 0 0,.slice none 0 0,.int .u32 0,.slice none 0 0,.int .i64 0,.int .i64 0,.slice none 0 0] 54 (0,0))
 r3:Kd.R (Kd.int .i64) 3 W (w.heap.size+2) (fun _=>True) (.slice A3 x.f3.length a3) x.f3
 r4:Kd.R k149 149 W (w.heap.size+2) (fun _=>True) (.slice A4 x.f4.length a4) x.f4
 r6:Kd.R k122 122 W (w.heap.size+2) (fun _=>True) (.slice A6 x.f5.f1.length a6) x.f5.f1
 r9:Kd.R k114 114 W (w.heap.size+2) (fun _=>True) (.slice A9 x.f8.length a9) x.f8
 rb:RB w0 W g r b
 gr:w.grownBy W (some g)
 bl:Below w0.heap.size w0 W
section
variable {w0 w W W':World} {g:Nat} {x x':SRec} {A3 A4 A6 A9 B3 B4 B6 B9:Option Addr} {a3 a4 a6 a9 b3 b4 b6 b9:Nat} {r r':List UInt8} {b b':Bool}
theorem nP.size (h:nP w0 w W g x A3 a3 A4 a4 A6 a6 A9 a9 r b):w.heap.size+2≤W.heap.size:=jH h.xb
theorem nP.step (h:nP w0 w W g x A3 a3 A4 a4 A6 a6 A9 a9 r b) (hg:w0.heap.size≤g) (hlt:g<w.heap.size) (hG:W.grownBy W' (some g)) (hR:RB w0 W' g r' b'):nP w0 w W' g x A3 a3 A4 a4 A6 a6 A9 a9 r' b' :=
 ⟨(hG.block _ (jH h.xb) (by intro e;injection e with e;omega)).trans h.xb,(hG.block _ (jH h.zb) (by intro e;injection e with e;omega)).trans h.zb,
  jT h.r3 hG (by omega),jT h.r4 hG (by omega),jT h.r6 hG (by omega),jT h.r9 hG (by omega),hR,iV h.gr hG,below_grown h.bl hG hg (Nat.le_refl _)⟩
theorem nP.set (h:nP w0 w W g x A3 a3 A4 a4 A6 a6 A9 a9 r b) (h0:w0.heap.size≤w.heap.size) (hlt:g<w.heap.size)
  (r3:Kd.R (Kd.int .i64) 3 W (w.heap.size+2) (fun _=>True) (.slice B3 x'.f3.length b3) x'.f3) (r4:Kd.R k149 149 W (w.heap.size+2) (fun _=>True) (.slice B4 x'.f4.length b4) x'.f4)
  (r6:Kd.R k122 122 W (w.heap.size+2) (fun _=>True) (.slice B6 x'.f5.f1.length b6) x'.f5.f1) (r9:Kd.R k114 114 W (w.heap.size+2) (fun _=>True) (.slice B9 x'.f8.length b9) x'.f8) :
  nP w0 w (W.setRow (w.heap.size+1) #[.int .u8 x'.f0,.int .u32 x'.f1,.int .u32 x'.f2,.slice B3 x'.f3.length b3,.slice B4 x'.f4.length b4,.int .u32 x'.f5.f0,.slice B6 x'.f5.f1.length b6,.int .i64 x'.f6,.int .i64 x'.f7,.slice B9 x'.f8.length b9]) g x' B3 b3 B4 b4 B6 b6 B9 b9 r b :=
 have hG:=jP W (w.heap.size+1) #[.int .u8 x'.f0,.int .u32 x'.f1,.int .u32 x'.f2,.slice B3 x'.f3.length b3,.slice B4 x'.f4.length b4,.int .u32 x'.f5.f0,.slice B6 x'.f5.f1.length b6,.int .i64 x'.f6,.int .i64 x'.f7,.slice B9 x'.f8.length b9]
 ⟨setRow_heap _ _ _ _ _ _ h.xb,(setRow_other W (w.heap.size+1) (w.heap.size) _ (by omega)).trans h.zb,jT r3 hG (by omega),jT r4 hG (by omega),jT r6 hG (by omega),jT r9 hG (by omega),
  RB.grown h.rb hG (by intro e;injection e with e;omega),kF h.gr hG (Nat.le_succ _),below_grown h.bl hG (by omega) (Nat.le_refl _)⟩
theorem nP.start (h:RB w0 w g r b) (hb:Below w0.heap.size w0 w) (hg:w0.heap.size≤g):nP w0 w ((w.alloc (.cells #[.int .u8 0,.int .u32 0,.int .u32 0,.slice none 0 0,.slice none 0 0,.int .u32 0,.slice none 0 0,.int .i64 0,.int .i64 0,.slice none 0 0] 54)).alloc (.cells #[.int .u8 0,.int .u32 0,.int .u32 0,.slice none 0 0,.slice none 0 0,.int .u32 0,.slice none 0 0,.int .i64 0,.int .i64 0,.slice none 0 0] 54)) g ⟨0,0,0,[],[],⟨0,[]⟩,0,0,[]⟩ none 0 none 0 none 0 none 0 r b:=by
 have hbw:Below w.heap.size w ((w.alloc (.cells #[.int .u8 0,.int .u32 0,.int .u32 0,.slice none 0 0,.slice none 0 0,.int .u32 0,.slice none 0 0,.int .i64 0,.int .i64 0,.slice none 0 0] 54)).alloc (.cells #[.int .u8 0,.int .u32 0,.int .u32 0,.slice none 0 0,.slice none 0 0,.int .u32 0,.slice none 0 0,.int .i64 0,.int .i64 0,.slice none 0 0] 54)):=iD (iD (Below.refl _ _) _) _
 exact ⟨iP (by simp),jI (iP rfl),Kd.R_nil _ _ _ _ _,Kd.R_nil _ _ _ _ _,Kd.R_nil _ _ _ _ _,Kd.R_nil _ _ _ _ _,RB.grown h (grown_below (row:=none) hbw) (by simp),grown_below hbw,iH hb hbw⟩
end
end Go.Proofs.YtgfkgppomaapiaaGreatDoor.K
end
section
namespace Go.Proofs.YtgfkgppomaapiaaGreatDoor.K
open RowKit YtgfkgppomaapiaaGreatDoorW.PrintWords YtgfkgppomaapiaaGreatDoorW.PrintLast YtgfkgppomaapiaaGreatDoorW.PrintMore My
section
variable {w:World} {b:Nat} {c0 c1 c2 c3 c4 c5 c6 c7 c8 c9:Value}
theorem str_0 (x:Int) (h:w.heap[b]? = some (.cells #[c0,c1,c2,c3,c4,c5,c6,c7,c8,c9] 54 (0,0))):(Instr.storeAt 5 (.pointer (some ⟨b,0,none⟩)) (.int .u8 x)).run Tryz.prog w=.ok () (w.setRow b #[.int .u8 x,c1,c2,c3,c4,c5,c6,c7,c8,c9]):=by
 have z:w.cell? ⟨b,0,none⟩=some c0:=(iG h 0).trans rfl
 have y:w.frozen? ⟨b,0,none⟩=false:=iE h 0
 rw [show w.setRow b #[.int .u8 x,c1,c2,c3,c4,c5,c6,c7,c8,c9]=w.setCell ⟨b,0,none⟩ (.int .u8 x) from (setCell_eq_setRow w b 0 _ _ _ (.int .u8 x) h).symm]
 simp [go_sem,z,y]
theorem str_1 (x:Int) (h:w.heap[b]? = some (.cells #[c0,c1,c2,c3,c4,c5,c6,c7,c8,c9] 54 (0,0))):(Instr.storeAt 46 (.pointer (some ⟨b,1,none⟩)) (.int .u32 x)).run Tryz.prog w=.ok () (w.setRow b #[c0,.int .u32 x,c2,c3,c4,c5,c6,c7,c8,c9]):=by
 have z:w.cell? ⟨b,1,none⟩=some c1:=(iG h 1).trans rfl
 have y:w.frozen? ⟨b,1,none⟩=false:=iE h 1
 rw [show w.setRow b #[c0,.int .u32 x,c2,c3,c4,c5,c6,c7,c8,c9]=w.setCell ⟨b,1,none⟩ (.int .u32 x) from (setCell_eq_setRow w b 1 _ _ _ (.int .u32 x) h).symm]
 simp [go_sem,z,y]
end
def jg1 (l:List UInt8) (w0 w:World) (g:Nat) (e:Ending) (w':World):Prop:=∃ (x:SRec) (A3:Option Addr) (a3:Nat) (A4:Option Addr) (a4:Nat) (A6:Option Addr) (a6:Nat) (A9:Option Addr) (a9:Nat) (r:List UInt8) (b:Bool),e=.returned (.agg #[.int .u8 x.f0,.int .u32 x.f1,.int .u32 x.f2,.slice A3 x.f3.length a3,.slice A4 x.f4.length a4,.int .u32 x.f5.f0,.slice A6 x.f5.f1.length a6,.int .i64 x.f6,.int .i64 x.f7,.slice A9 x.f8.length a9])∧Owns w.heap.size w' x A3 a3 A4 a4 A6 a6 A9 a9∧RB w0 w' g r b∧w.grownBy w' (some g)∧(b=false→recP l=some (x,r))∧(b=true→recP l=none)
theorem yB {tmps:Array Value} {W:World} {p:Tmp} {b:Nat} {cs:Array Value} (h:Tryz.f54.results = #[.cell p 54]) (hp:tmps.getD p undef=.pointer (some ⟨b,0,none⟩)) (hx:W.heap[b]? = some (.cells cs 54 (0,0))) (hs:cs.size=10) :
  (results Tryz.f54 tmps).run Tryz.prog W=.ok (.agg cs) W:=by
 exact results_cell_row h _ _ _ _ _ _ _ hp hx Tryz.underlying54 rfl (by rw [hs];kernel_rfl)
theorem PV:(Tryz.prog).built 54 (#[]:Array (Nat × Value)).toList=some #[.int .u8 0,.int .u32 0,.int .u32 0,.slice none 0 0,.slice none 0 0,.int .u32 0,.slice none 0 0,.int .i64 0,.int .i64 0,.slice none 0 0]:=by kernel_rfl
theorem TJ (w:World):(Instr.build 54 #[]).run Tryz.prog w=.ok (.agg #[.int .u8 0,.int .u32 0,.int .u32 0,.slice none 0 0,.slice none 0 0,.int .u32 0,.slice none 0 0,.int .i64 0,.int .i64 0,.slice none 0 0]) w:=run_build w _ _ _ PV
theorem RP.split {α:Type} {res:Option (α × List UInt8)} {val:α→Value→World→Prop} {w0 w w':World} {g len:Nat} {e:Ending} {b2:Bool} (h:RP (if b2=true then none else res) val w0 w g len e w') :
  w.grownBy w' (some g)∧∃ x v r3 b3,e=.returned v∧val x v w'∧RB w0 w' g r3 b3∧r3.length≤len∧(b3=false→b2=false∧res=some (x,r3))∧(b3=true→b2=true∨res=none):=by
 obtain ⟨hG,x,v,he,hv,hres⟩:=h
 refine ⟨hG,x,v,?_⟩
 cases b2 with
 | true =>
  rw [if_pos rfl] at hres
  rcases hres with ⟨l',h1,_⟩ | ⟨_,l',h2,h3⟩
  ·cases h1
  ·exact ⟨l',true,he,hv,h3,h2,fun h=>(by cases h),fun _=>.inl rfl⟩
 | false =>
  rw [if_neg (by decide)] at hres
  rcases hres with ⟨l',h1,h2,h3⟩ | ⟨h1,l',h2,h3⟩
  ·exact ⟨l',false,he,hv,h3,h2,fun _=>⟨rfl,h1⟩,fun h=>by cases h⟩
  ·exact ⟨l',true,he,hv,h3,h2,fun h=>(by cases h),fun _=>.inr h1⟩
theorem nP.fin {w0 w W:World} {g:Nat} {x:SRec} {A3 A4 A6 A9:Option Addr} {a3 a4 a6 a9:Nat} {r:List UInt8} {b:Bool} (h:nP w0 w W g x A3 a3 A4 a4 A6 a6 A9 a9 r b) (hlt:g<w.heap.size) (cs:Array Value) :
  Owns w.heap.size (W.setRow w.heap.size cs) x A3 a3 A4 a4 A6 a6 A9 a9∧RB w0 (W.setRow w.heap.size cs) g r b∧w.grownBy (W.setRow w.heap.size cs) (some g):=by
 have hG:=jP W w.heap.size cs
 exact ⟨⟨Kd.R_lower (jT h.r3 hG (by omega)) (by omega),Kd.R_lower (jT h.r4 hG (by omega)) (by omega),Kd.R_lower (jT h.r6 hG (by omega)) (by omega),Kd.R_lower (jT h.r9 hG (by omega)) (by omega)⟩,RB.grown h.rb hG (by intro e;injection e with e;omega),kF h.gr hG (Nat.le_refl _)⟩
end Go.Proofs.YtgfkgppomaapiaaGreatDoor.K
end
section
namespace Go.Proofs.YtgfkgppomaapiaaGreatDoor.K
open RowKit YtgfkgppomaapiaaGreatDoorW.PrintWords YtgfkgppomaapiaaGreatDoorW.PrintLast YtgfkgppomaapiaaGreatDoorW.PrintMore My
theorem XR (s least:Nat) (S T:Int) (hS:S=s) (hT:T=least) (hs8:s≤8) (h1:1≤least) (g:Nat) (l:List UInt8) (b:Bool) (w0 w:World) (h:RB w0 w g l b) (hb:Below w0.heap.size w0 w) :
  Calls Tryz.prog 87 #[.pointer (some ⟨g,0,none⟩),.int .i64 S,.int .i64 T] w fun e w'=>∃ (n:Nat) (l':List UInt8) (b':Bool),e=.returned (.int .i64 (n:Int))∧RB w0 w' g l' b'∧w.grownBy w' (some g)∧(l'.length≤l.length∧n * least≤l'.length)∧((b'=false→b=false∧many s least l=some (n,l'))∧(b'=true→n=0∧(b=true∨many s least l=none))):=by
 cases b with
 | true =>
  refine (uI s least S T hS hT hs8 h1 g l true w0 w h hb (.inl rfl)).mono ?_
  rintro e w1 ⟨rfl,⟨r,hr,hR⟩,hG⟩
  exact ⟨0,r,true,rfl,hR,hG,⟨hr,by omega⟩,fun h=>(by cases h),fun _=>⟨rfl,.inl rfl⟩⟩
 | false =>
  refine (NG s least S T hS hT hs8 h1 g l w0 w h hb).mono ?_
  rintro e w1 ⟨n,l',b',rfl,hR,hG,hl,h2,h3⟩
  exact ⟨n,l',b',rfl,hR,hG,hl,fun h=>⟨rfl,h2 h⟩,fun h=>⟨(h3 h).1,.inr (h3 h).2⟩⟩
theorem X3 {r r' r'':List UInt8} {m n:Nat} (h:number 4 r=some (m,r')) (h1:number 1 r'=some (n,r'')):uO r=some (⟨(m:Int),(n:Int)⟩,r''):=by
 unfold uO intP
 rw [h]
 simp only [Option.bind_some]
 rw [h1]
 rfl
theorem O7 (s:Nat) (l:List UInt8) (h:s≤l.length):number s l=some (numB (l.take s),l.drop s):=by unfold number;rw [if_neg (by omega)]
theorem jg4:(Tryz.prog.info? 122).map (fun i=>(i.zero,i.size,i.bytes))=some (some (.agg #[.int .i64 0,.int .i64 0]),k122.sz,16):=by kernel_rfl
theorem jo2 (w:World):(Instr.storeAt 122 (.pointer (some ⟨w.heap.size,0,none⟩)) (.agg #[.int .i64 0,.int .i64 0])).run Tryz.prog (w.alloc (.cells #[.int .i64 0,.int .i64 0] 122))=.ok () (w.alloc (.cells #[.int .i64 0,.int .i64 0] 122)) :=
 run_storeAt_new (P:=Tryz.prog) w _ #[.int .i64 0,.int .i64 0] #[.int .i64 0,.int .i64 0] (by kernel_rfl) rfl (by simp [Value.oneCell'])
theorem P7:(Tryz.prog).built 122 (#[]:Array (Nat × Value)).toList=some #[.int .i64 0,.int .i64 0]:=by kernel_rfl
theorem jb2 (w:World):(Instr.build 122 #[]).run Tryz.prog w=.ok (.agg #[.int .i64 0,.int .i64 0]) w:=run_build w _ _ _ P7
theorem jm8 {w:World} {b:Nat} {c0 c1:Value} (i:Nat) (hi:i<2) (x:Int) (h:w.heap[b]? = some (.cells #[c0,c1] 122 (0,0))):(Instr.storeAt 3 (.pointer (some ⟨b,i,none⟩)) (.int .i64 x)).run Tryz.prog w=.ok () (w.setCell ⟨b,i,none⟩ (.int .i64 x)):=by
 have y:w.frozen? ⟨b,i,none⟩=false:=iE h i
 obtain ⟨c,z⟩:∃ c,w.cell? ⟨b,i,none⟩=some c:=by
  match i,hi with
  | 0,_=>exact ⟨c0,(iG h 0).trans rfl⟩
  | 1,_=>exact ⟨c1,(iG h 1).trans rfl⟩
 simp [go_sem,z,y]
section
variable {w0 w W W':World} {g q:Nat} {k i m:Int} {ss ss':List kC} {A6 B6:Option Addr} {a6 b6:Nat} {r:List UInt8} {b:Bool}
theorem nP.box (h:nP w0 w W g ⟨k,i,0,[],[],⟨m,ss⟩,0,0,[]⟩ none 0 none 0 A6 a6 none 0 r b) (h0:w0.heap.size≤w.heap.size) (hlt:g<w.heap.size) (hG:W.grownBy W' (some q)) (hq:w.heap.size+2≤q) (hne:some q≠(Value.slice A6 ss.length a6).ownBlock) :
  nP w0 w W' g ⟨k,i,0,[],[],⟨m,ss⟩,0,0,[]⟩ none 0 none 0 A6 a6 none 0 r b :=
 ⟨(hG.block _ (jH h.xb) (by intro e;injection e with e;omega)).trans h.xb,(hG.block _ (jH h.zb) (by intro e;injection e with e;omega)).trans h.zb,
  Kd.R_nil _ _ _ _ _,Kd.R_nil _ _ _ _ _,Kd.R_grown2 h.r6 rfl hG (fun k e=>by injection e with e;rw [← e];exact hne),Kd.R_nil _ _ _ _ _,RB.grown h.rb hG (by intro e;injection e with e;omega),kF h.gr hG (by omega),below_grown h.bl hG (by omega) (Nat.le_refl _)⟩
theorem nP.app6 (h:nP w0 w W g ⟨k,i,0,[],[],⟨m,ss⟩,0,0,[]⟩ none 0 none 0 A6 a6 none 0 r b) (h0:w0.heap.size≤w.heap.size) (hlt:g<w.heap.size) (hG:W.grownBy W' (Value.slice A6 ss.length a6).ownBlock)
  (r6:Kd.R k122 122 W' (w.heap.size+2) (fun _=>True) (.slice B6 ss'.length b6) ss') :
  W'.heap[w.heap.size+1]? = some (.cells #[.int .u8 (⟨k,i,0,[],[],⟨m,ss⟩,0,0,[]⟩:SRec).f0,.int .u32 (⟨k,i,0,[],[],⟨m,ss⟩,0,0,[]⟩:SRec).f1,.int .u32 (⟨k,i,0,[],[],⟨m,ss⟩,0,0,[]⟩:SRec).f2,.slice none (⟨k,i,0,[],[],⟨m,ss⟩,0,0,[]⟩:SRec).f3.length 0,.slice none (⟨k,i,0,[],[],⟨m,ss⟩,0,0,[]⟩:SRec).f4.length 0,.int .u32 (⟨k,i,0,[],[],⟨m,ss⟩,0,0,[]⟩:SRec).f5.f0,.slice A6 (⟨k,i,0,[],[],⟨m,ss⟩,0,0,[]⟩:SRec).f5.f1.length a6,.int .i64 (⟨k,i,0,[],[],⟨m,ss⟩,0,0,[]⟩:SRec).f6,.int .i64 (⟨k,i,0,[],[],⟨m,ss⟩,0,0,[]⟩:SRec).f7,.slice none (⟨k,i,0,[],[],⟨m,ss⟩,0,0,[]⟩:SRec).f8.length 0] 54 (0,0)) ∧
  nP w0 w (W'.setRow (w.heap.size+1) #[.int .u8 (⟨k,i,0,[],[],⟨m,ss'⟩,0,0,[]⟩:SRec).f0,.int .u32 (⟨k,i,0,[],[],⟨m,ss'⟩,0,0,[]⟩:SRec).f1,.int .u32 (⟨k,i,0,[],[],⟨m,ss'⟩,0,0,[]⟩:SRec).f2,.slice none (⟨k,i,0,[],[],⟨m,ss'⟩,0,0,[]⟩:SRec).f3.length 0,.slice none (⟨k,i,0,[],[],⟨m,ss'⟩,0,0,[]⟩:SRec).f4.length 0,.int .u32 (⟨k,i,0,[],[],⟨m,ss'⟩,0,0,[]⟩:SRec).f5.f0,.slice B6 (⟨k,i,0,[],[],⟨m,ss'⟩,0,0,[]⟩:SRec).f5.f1.length b6,.int .i64 (⟨k,i,0,[],[],⟨m,ss'⟩,0,0,[]⟩:SRec).f6,.int .i64 (⟨k,i,0,[],[],⟨m,ss'⟩,0,0,[]⟩:SRec).f7,.slice none (⟨k,i,0,[],[],⟨m,ss'⟩,0,0,[]⟩:SRec).f8.length 0]) g ⟨k,i,0,[],[],⟨m,ss'⟩,0,0,[]⟩ none 0 none 0 B6 b6 none 0 r b:=by
 have hrow:=fun b e=>Kd.R_base h.r6 b e
 have hx:W'.heap[w.heap.size+1]? = _:=(hG.block _ (jH h.xb) (by intro e;have:=hrow _ e.symm;omega)).trans h.xb
 have hz:W'.heap[w.heap.size]? = _:=(hG.block _ (jH h.zb) (by intro e;have:=hrow _ e.symm;omega)).trans h.zb
 have hg2:=jP W' (w.heap.size+1) #[.int .u8 (⟨k,i,0,[],[],⟨m,ss'⟩,0,0,[]⟩:SRec).f0,.int .u32 (⟨k,i,0,[],[],⟨m,ss'⟩,0,0,[]⟩:SRec).f1,.int .u32 (⟨k,i,0,[],[],⟨m,ss'⟩,0,0,[]⟩:SRec).f2,.slice none (⟨k,i,0,[],[],⟨m,ss'⟩,0,0,[]⟩:SRec).f3.length 0,.slice none (⟨k,i,0,[],[],⟨m,ss'⟩,0,0,[]⟩:SRec).f4.length 0,.int .u32 (⟨k,i,0,[],[],⟨m,ss'⟩,0,0,[]⟩:SRec).f5.f0,.slice B6 (⟨k,i,0,[],[],⟨m,ss'⟩,0,0,[]⟩:SRec).f5.f1.length b6,.int .i64 (⟨k,i,0,[],[],⟨m,ss'⟩,0,0,[]⟩:SRec).f6,.int .i64 (⟨k,i,0,[],[],⟨m,ss'⟩,0,0,[]⟩:SRec).f7,.slice none (⟨k,i,0,[],[],⟨m,ss'⟩,0,0,[]⟩:SRec).f8.length 0]
 have hr:RB w0 W' g r b:=RB.grown h.rb hG (by intro e;have:=hrow _ e.symm;omega)
 have hgr:w.grownBy W' (some g):=uM h.gr hG (fun b e=>by have:=hrow b e;omega)
 have hbl:Below w0.heap.size w0 W':=by
  refine ⟨hG.os.trans h.bl.os,hG.tape.trans h.bl.tape,hG.output.trans h.bl.output,Nat.le_trans h.bl.size hG.size,fun k hk=>(hG.block k (Nat.lt_of_lt_of_le hk h.bl.size) (fun e=>by have:=hrow k e.symm;omega)).trans (h.bl.block k hk)⟩
 exact ⟨hx,setRow_heap _ _ _ _ _ _ hx,(setRow_other W' (w.heap.size+1) (w.heap.size) _ (by omega)).trans hz,Kd.R_nil _ _ _ _ _,Kd.R_nil _ _ _ _ _,jT r6 hg2 (by omega),Kd.R_nil _ _ _ _ _,
  RB.grown hr hg2 (by intro e;injection e with e;omega),kF hgr hg2 (Nat.le_succ _),below_grown hbl hg2 (by omega) (Nat.le_refl _)⟩
theorem nP.apart (h:nP w0 w W g ⟨k,i,0,[],[],⟨m,ss⟩,0,0,[]⟩ none 0 none 0 A6 a6 none 0 r b):some W.heap.size≠(Value.slice A6 ss.length a6).ownBlock :=
 fun e=>((Kd.R_elderB h.r6 W.heap.size (Nat.le_refl _)).1 _ e.symm).2 rfl
end
end Go.Proofs.YtgfkgppomaapiaaGreatDoor.K
end
