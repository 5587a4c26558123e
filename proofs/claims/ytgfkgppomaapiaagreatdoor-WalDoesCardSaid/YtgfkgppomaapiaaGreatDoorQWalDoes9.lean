/- Parts of the proof, one behind the other: WalN, WalJ. -/
import Derived.Test.YtgfkgppomaapiaaGreatDoorQWalDoes8
set_option linter.unusedVariables false
set_option linter.unusedSimpArgs false
namespace Go.Proofs.YtgfkgppomaapiaaGreatDoor.K
open RowKit YtgfkgppomaapiaaGreatDoorW.PrintWords YtgfkgppomaapiaaGreatDoorW.PrintLast YtgfkgppomaapiaaGreatDoorW.PrintMore My
section
theorem zL {w:World} {o:SOp} {rr:SRec} {A3 A4 A6 A9:Option Addr} {a3 a4 a6 a9:Nat} (h:Lies w o.r A3 a3 A4 a4 A6 a6 A9 a9) (hn:-9223372036854775808≤o.n∧o.n≤9223372036854775807) (hwh:0≤o.wh∧o.wh<256) (hr:OA o=rr) :
  Calls Tryz.prog 16 #[.agg #[.int .u8 o.k,.int .u8 o.r.f0,.int .u32 o.r.f1,.int .u32 o.r.f2,.slice A3 o.r.f3.length a3,.slice A4 o.r.f4.length a4,.int .u32 o.r.f5.f0,.slice A6 o.r.f5.f1.length a6,.int .i64 o.r.f6,.int .i64 o.r.f7,.slice A9 o.r.f8.length a9,.int .u8 o.wh,.int .i64 o.n]] w (QJ w rr):=by
 rw [← hr]
 exact j05 h hn hwh
theorem tmod9 (x:Int):Int.tmod x 9<9:=Int.tmod_lt_of_pos _ (by decide)
attribute [local go_sem] MP kZ
attribute [-go_sem] Instr.build Instr.storeAt Instr.loadAt
set_option maxRecDepth 20000 in
set_option maxHeartbeats 32000000 in
theorem walDoes_walk (room:Int) (A:Option Addr) (c:Nat) (l:List SOp) (w0:World) (hroom:0≤room∧room<65536) (h:kOp.C w0 A l.length l) (hc:l.length≤c) (hok:∀ o∈l,OpW o) :
  Calls Tryz.prog 4 #[.int .u16 room,.slice A l.length c] w0 fun e w'=>e=.returned (.bool true)∧Below w0.heap.size w0 w':=by
 obtain ⟨hr0,hr1⟩:=hroom
 have hhe:=jj_ A c l w0 h
 have hm:=lD h
 have H:=iC.mk h
 have HOK:=iC.mk hok
 clear h hok
 obtain ⟨R,rfl⟩:∃ R:Nat,room=(R:Int):=⟨room.toNat,by omega⟩
 have hR2:(R:Int)<65536:=by omega
 have hwR:IntKind.i64.wrap (R:Int)=R:=by rw [IntKind.wrap_i64];omega
 have hwR2:wrap64 (R:Int)=R:=by unfold wrap64;omega
 go_enter Tryz.func4,Tryz.ntmps4
 go_wp2_with fail
 go_at_call 14
 refine hhe.mono ?_
 rintro e w1 ⟨B,rfl,h40,hb1⟩
 have HB1:=iC.mk hb1
 clear hhe hb1
 cases B with
 | true =>
  go_wp2_with fail
  go_at_call 5
  refine (XW _).mono ?_
  rintro e w2 ⟨rfl,hb2⟩
  go_wp2
  go_ret
  exact ⟨rfl,iH HB1.out hb2⟩
 | false =>
  have hl40:=h40 rfl
  clear h40
  go_wp2_with fail
  go_at_call 5
  refine (XW _).mono ?_
  rintro e w2 ⟨rfl,hb2⟩
  have HB2:=iC.mk (iH HB1.out hb2)
  clear hb2 HB1
  go_wp2_with fail
  go_at_call 6
  refine (jl_ R w2 (by omega)).mono ?_
  rintro e w3 ⟨rfl,hd3,hb3⟩
  have HD3:=iC.mk hd3
  have HB3:=iC.mk hb3
  obtain ⟨b,hb⟩:∃ b,b=w2.heap.size:=⟨_,rfl⟩
  rw [← hb] at HD3 ⊢
  have HBI:=iC.mk hb
  clear hd3 hb3 hb
  go_wp2_with fail
  go_at_call 7
  refine (r_new R w3 (by omega)).mono ?_
  rintro e w4 ⟨rfl,hd4,hb4⟩
  obtain ⟨r,hr⟩:∃ r,r=w3.heap.size:=⟨_,rfl⟩
  rw [← hr] at hd4 ⊢
  have H4:=iC.mk (show Pr w0 w4 b none (DM.new R) r none (DM.new R) from ⟨HD3.out.below hb4,hd4,iH (iH HB2.out HB3.out) hb4,by rw [HBI.out];exact HB2.out.size,by rw [hr];exact Nat.le_trans HB2.out.size HB3.out.size,fun _ q=>(by cases q),fun _ q=>(by cases q),fun _ q=>(by cases q)⟩)
  clear hd4 hb4 hr HD3 HB3 HBI HB2
  have hOL:=J3 (d:=DM.new R) rfl
  have HOE:=iC.mk hOL.1
  have HDR0:=iC.mk (show (nM (DM.new R)).room=R from by rw [hOL.2];rfl)
  clear hOL
  have hcall:=open_any H4.out.dd (by show ((0:Nat):Int)≤1000000;omega)
  go_wp2_with fail
  go_at_call 10
  refine hcall.mono ?_
  intro e w5 hp
  obtain ⟨row5,g5,v5,h5,rfl,hg5,_,_⟩:=H4.out.open hp HOE.out
  have H5:=iC.mk h5
  have HG5:=iC.mk hg5
  clear hcall hp h5 hg5 H4
  have hcall:=NZ H5.out.rk (by show ((0:Nat):Int)≤1000000;omega)
  go_wp2_with fail
  go_at_call 11
  refine hcall.mono ?_
  intro e w6 hp
  obtain ⟨rr6,f6,v6,h6,rfl,hf6,_,hk6⟩:=H5.out.ropen hp HOE.out
  obtain ⟨D0,hD0⟩:∃ D,nM (DM.new R)=D:=⟨_,rfl⟩
  have HLP:=iC.mk (show PL w0 w6 b r g5 f6 D0 D0 from hD0▸⟨⟨row5,rr6,h6⟩,H5.out.rk.stays hk6 HG5.out (by decide) (by decide),hf6⟩)
  have HDR:=iC.mk (show D0.room=R from hD0▸HDR0.out)
  clear hcall hp h6 hf6 hk6 hD0 H5 HG5 HDR0 HOE
  go_wp2
  go_loopw [7,9,10,13] (fun a e q i wr=>∃ (k g f:Nat) (d:DM),k≤l.length∧i=.int .i64 k∧e=.int .u16 0∧a=.pointer (some ⟨g,0,none⟩)∧q=.pointer (some ⟨f,0,none⟩)∧iC (PL w0 wr b r g f d d)∧iC (d.room=R)) (fun _ _ _ i _=>l.length - (intOf i).toNat)
  case atStart=>exact ⟨0,g5,f6,D0,Nat.zero_le _,rfl,rfl,rfl,rfl,HLP,HDR⟩
  case round =>
   obtain ⟨k,g,f,d,hk,rfl,rfl,rfl,rfl,HP,HR⟩:=hrel
   clear HLP HDR
   obtain ⟨wr0,rfl⟩:∃ x:World,x=wr:=⟨_,rfl⟩
   by_cases hlt:k<l.length
   ·have hmem:l.getD k default∈l:=by rw [List.getD_eq_getElem?_getD,List.getElem?_eq_getElem hlt];exact List.getElem_mem hlt
    have HOP:=iC.mk (HOK.out _ hmem)
    obtain ⟨ad,A3,a3,A4,a4,A6,a6,A9,a9,rfl,hLi,hall⟩:=jl3 H.out k hlt
    obtain ⟨o,ho⟩:∃ o,o=l.getD k default:=⟨_,rfl⟩
    rw [← ho] at hLi hall HOP
    have HLI:=iC.mk hLi
    have HALL:=iC.mk hall
    have hck:=fun (_:True)=>(hall wr0 HP.out.bel).2.2.1
    have hk1:(k:Int)<(l.length:Int):=by omega
    have hok0:=HOP.out.k
    obtain ⟨rr,hrr⟩:∃ rr,OA o=rr:=⟨_,rfl⟩
    have HRR:=iC.mk hrr
    obtain ⟨K,hK⟩:∃ K,o.k % 8=K:=⟨_,rfl⟩
    have hK1:Int.tmod o.k 8=K:=by rw [Int.tmod_eq_emod_of_nonneg hok0.1];exact hK
    have hKr:(K=3∨K=4)∨K=5∨K=6∨K=7∨(K=0∨K=1∨K=2):=by omega
    obtain ⟨kk,hkk⟩:∃ kk,kk=o.k:=⟨_,rfl⟩
    rw [← hkk] at hck hK1 hK
    clear hmem ho hLi hall hlt hrr hok0 hkk
    go_upto_block 2 with fail
    clear hck hK hK1
    go_cut [7,9,10,14] (fun a e q s wx=>∃ (g' f':Nat) (D:DM),a=.pointer (some ⟨g',0,none⟩)∧e=.int .u16 0∧q=.pointer (some ⟨f',0,none⟩)∧s=.bool true∧iC (PL w0 wx b r g' f' D D)∧iC (D.room=R))
    case first =>
     rcases hKr with hKr | rfl | rfl | rfl | hKr
     ·rcases hKr with rfl | rfl
      all_goals
       go_wp2
       have hE:=xO d rr
       have HDR:=iC.mk ((UZ d rr).trans HR.out)
       obtain ⟨E,hEE⟩:∃ E,nX d rr=E:=⟨_,rfl⟩
       have HE:=iC.mk hEE
       rw [hEE] at hE
       obtain ⟨hE0,hE1⟩:=hE
       have hwE:IntKind.i64.wrap E=E:=by rw [IntKind.wrap_i64];omega
       have hwE2:wrap64 E=E:=by unfold wrap64;omega
       clear hEE
       have HPd:=iC.mk (show PL w0 wr0.drew b r g f d d from HP.out.below (iW (Below.refl _ _)))
       refine qJ (n:=17) (S:=fun w'=>(Instr.loadAt 56 (.pointer (some (ad.add (k * 13))))).run Tryz.prog w'=.ok (.agg #[.int .u8 o.k,.int .u8 o.r.f0,.int .u32 o.r.f1,.int .u32 o.r.f2,.slice A3 o.r.f3.length a3,.slice A4 o.r.f4.length a4,.int .u32 o.r.f5.f0,.slice A6 o.r.f5.f1.length a6,.int .i64 o.r.f6,.int .i64 o.r.f7,.slice A9 o.r.f8.length a9,.int .u8 o.wh,.int .i64 o.n]) w') (ds:=[]) #[false,false,false,false,false,false,false,false,false,false,false,false,false,false,false,false,false] (by kernel_rfl) rfl rfl ((HALL.out _ HPd.out.bel).1) (fun hHeld=>?_)
       refine mM (T:=(true,[([],[]),([],[]),([],[]),([1,2],[1,2]),([3],[3]),([4],[4]),([0,5,5],[0,5]),([6],[6]),([],[]),([],[]),([],[]),([9,10],[9,10]),([11],[11]),([12,6],[12]),([8,13,13],[8,13]),([7,14],[7,14]),([15,14,0,1,2,3,4,5,6,7,8,9,10,11,12,13,14,15],[15])])) (B:=[0,0,0,6,14,30,63,127,0,0,0,1536,3584,7807,16255,32767,65535]) (by kernel_rfl) (by kernel_rfl) (fun HT_ HW_=>?_)
       refine jK (i:=0) (N:=some 89) (v:=?_) (a':=?_) #[true,false,false,false,false,false,false,false,false,false,false,false,false,false,false,false,false] rfl rfl (iZ HT_.out (by kernel_rfl)) (fun _ _ _ h=>h) (Or.inl ⟨by rfl,?_⟩) ?_ ?_
       rotate_left
       ·intro w'
        go_simp
        with_reducible rfl
       rotate_left
       ·simp only [Act.put,sb_,sz_,ss_,iO,jA]
        rfl
       refine jK (i:=1) (N:=some 90) (v:=?_) (a':=?_) #[true,true,false,false,false,false,false,false,false,false,false,false,false,false,false,false,false] rfl rfl (iZ HT_.out (by kernel_rfl)) (fun _ _ _ h=>h) (Or.inl ⟨by rfl,?_⟩) ?_ ?_
       rotate_left
       ·intro w'
        go_simp
        with_reducible rfl
       rotate_left
       ·simp only [Act.put,sb_,sz_,ss_,iO,jA]
        rfl
       refine jK (i:=2) (N:=some 91) (v:=?_) (a':=?_) #[true,true,true,false,false,false,false,false,false,false,false,false,false,false,false,false,false] rfl rfl (iZ HT_.out (by kernel_rfl)) (fun _ _ _ h=>h) (Or.inl ⟨by rfl,?_⟩) ?_ ?_
       rotate_left
       ·intro w'
        go_simp
        with_reducible rfl
       rotate_left
       ·simp only [Act.put,sb_,sz_,ss_,iO,jA]
        rfl
       refine jK (i:=3) (N:=some 92) (v:=?_) (a':=?_) #[true,true,true,true,false,false,false,false,false,false,false,false,false,false,false,false,false] rfl rfl (iZ HT_.out (by kernel_rfl)) (fun _ _ _ h=>h) (Or.inl ⟨by rfl,?_⟩) ?_ ?_
       rotate_left
       ·intro w'
        go_simp
        with_reducible rfl
       rotate_left
       ·simp only [Act.put,sb_,sz_,ss_,iO,jA]
        rfl
       refine jK (i:=8) (N:=some 97) (v:=?_) (a':=?_) #[true,true,true,true,false,false,false,false,true,false,false,false,false,false,false,false,false] rfl rfl (iZ HT_.out (by kernel_rfl)) (fun _ _ _ h=>h) (Or.inl ⟨by rfl,?_⟩) ?_ ?_
       rotate_left
       ·intro w'
        go_simp
        with_reducible rfl
       rotate_left
       ·simp only [Act.put,sb_,sz_,ss_,iO,jA]
        rfl
       refine jK (i:=9) (N:=some 98) (v:=?_) (a':=?_) #[true,true,true,true,false,false,false,false,true,true,false,false,false,false,false,false,false] rfl rfl (iZ HT_.out (by kernel_rfl)) (fun _ _ _ h=>h) (Or.inl ⟨by rfl,?_⟩) ?_ ?_
       rotate_left
       ·intro w'
        go_simp
        with_reducible rfl
       rotate_left
       ·simp only [Act.put,sb_,sz_,ss_,iO,jA]
        rfl
       refine jK (i:=10) (N:=some 99) (v:=?_) (a':=?_) #[true,true,true,true,false,false,false,false,true,true,true,false,false,false,false,false,false] rfl rfl (iZ HT_.out (by kernel_rfl)) (fun _ _ _ h=>h) (Or.inl ⟨by rfl,?_⟩) ?_ ?_
       rotate_left
       ·intro w'
        go_simp
        with_reducible rfl
       rotate_left
       ·simp only [Act.put,sb_,sz_,ss_,iO,jA]
        rfl
       refine jK (i:=11) (N:=some 100) (v:=?_) (a':=?_) #[true,true,true,true,false,false,false,false,true,true,true,true,false,false,false,false,false] rfl rfl (iZ HT_.out (by kernel_rfl)) (fun _ _ _ h=>h) (Or.inl ⟨by rfl,?_⟩) ?_ ?_
       rotate_left
       ·intro w'
        go_simp
        with_reducible rfl
       rotate_left
       ·simp only [Act.put,sb_,sz_,ss_,iO,jA]
        rfl
       refine qP (i:=4) (N:=some 93) (v:=?_) (a':=?_) #[true,true,true,true,true,false,false,false,true,true,true,true,false,false,false,false,false] rfl rfl (lF HT_.out HW_.out (by kernel_rfl)) (fun _ _ _ h=>h) (Or.inl ⟨by rfl,?_⟩) hHeld ?_ ?_
       rotate_left
       ·intro w' s0
        go_simp
        with_reducible rfl
       rotate_left
       ·simp only [Act.put,sb_,sz_,ss_,iO,jA]
        rfl
       refine qP (i:=12) (N:=some 101) (v:=?_) (a':=?_) #[true,true,true,true,true,false,false,false,true,true,true,true,true,false,false,false,false] rfl rfl (lF HT_.out HW_.out (by kernel_rfl)) (fun _ _ _ h=>h) (Or.inl ⟨by rfl,?_⟩) hHeld ?_ ?_
       rotate_left
       ·intro w' s0
        go_simp
        with_reducible rfl
       rotate_left
       ·simp only [Act.put,sb_,sz_,ss_,iO,jA]
        rfl
       refine one_ (i:=5) (N:=some 94) #[true,true,true,true,true,true,false,false,true,true,true,true,true,false,false,false,false] rfl rfl (kY HT_.out (by kernel_rfl)) (by decide) (fun K hK=>?_)
       refine oD Tryz.func16 (by kernel_rfl) rfl #[.agg #[.int .u8 o.k,.int .u8 o.r.f0,.int .u32 o.r.f1,.int .u32 o.r.f2,.slice A3 o.r.f3.length a3,.slice A4 o.r.f4.length a4,.int .u32 o.r.f5.f0,.slice A6 o.r.f5.f1.length a6,.int .i64 o.r.f6,.int .i64 o.r.f7,.slice A9 o.r.f8.length a9,.int .u8 o.wh,.int .i64 o.n]] (by rfl) rfl rfl (by simp only [List.map_toArray,List.map_cons,List.map_nil];rfl) ?_
       with_reducible refine (zL (HLI.out.below HPd.out.bel) HOP.out.n HOP.out.wh HRR.out).mono ?_
       rintro e w2 ⟨B3,b3,B4,b4,B6,b6,B9,b9,rfl,hO2,hb2⟩
       refine ⟨_,rfl,?_⟩
       have H2:=iC.mk (HPd.out.below hb2)
       have L2:=iC.mk hO2.lies
       clear hO2 hb2
       refine hK.out _ _ ((HALL.out _ H2.out.bel).1) (fun hHeld=>?_)
       clear hK K
       refine lL (a':=?_) ?_ ?_
       rotate_left
       ·show Act.put _ (some 94) _=_
        simp only [Act.put,sb_,sz_,ss_,iO,jA]
        rfl
       refine one_ (i:=6) (N:=some 95) #[true,true,true,true,true,true,true,false,true,true,true,true,true,false,false,false,false] rfl rfl (kY HT_.out (by kernel_rfl)) (by decide) (fun K hK=>?_)
       refine oD Tryz.func15 (by kernel_rfl) rfl #[.pointer (some ⟨g,0,none⟩),.agg #[.int .u8 rr.f0,.int .u32 rr.f1,.int .u32 rr.f2,.slice B3 rr.f3.length b3,.slice B4 rr.f4.length b4,.int .u32 rr.f5.f0,.slice B6 rr.f5.f1.length b6,.int .i64 rr.f6,.int .i64 rr.f7,.slice B9 rr.f8.length b9]] (by rfl) rfl rfl (by simp only [List.map_toArray,List.map_cons,List.map_nil];rfl) ?_
       with_reducible refine (H2.out.lazy L2.out HE.out).mono ?_
       rintro e w3 ⟨rfl,h3⟩
       refine ⟨_,rfl,?_⟩
       have H3:=iC.mk h3
       clear h3
       refine hK.out _ _ ((HALL.out _ H3.out.bel).1) (fun hHeld=>?_)
       clear hK K
       refine lL (a':=?_) ?_ ?_
       rotate_left
       ·show Act.put _ (some 95) _=_
        simp only [Act.put,sb_,sz_,ss_,iO,jA]
        rfl
       refine jK (i:=7) (N:=some 96) (v:=?_) (a':=?_) #[true,true,true,true,true,true,true,true,true,true,true,true,true,false,false,false,false] rfl rfl (iZ HT_.out (by kernel_rfl)) (fun _ _ _ h=>h) (Or.inl ⟨by rfl,?_⟩) ?_ ?_
       rotate_left
       ·intro w'
        go_simp
        with_reducible rfl
       rotate_left
       ·simp only [Act.put,sb_,sz_,ss_,iO,jA]
        rfl
       refine one_ (i:=13) (N:=some 102) #[true,true,true,true,true,true,true,true,true,true,true,true,true,true,false,false,false] rfl rfl (kY HT_.out (by kernel_rfl)) (by decide) (fun K hK=>?_)
       refine oD Tryz.func16 (by kernel_rfl) rfl #[.agg #[.int .u8 o.k,.int .u8 o.r.f0,.int .u32 o.r.f1,.int .u32 o.r.f2,.slice A3 o.r.f3.length a3,.slice A4 o.r.f4.length a4,.int .u32 o.r.f5.f0,.slice A6 o.r.f5.f1.length a6,.int .i64 o.r.f6,.int .i64 o.r.f7,.slice A9 o.r.f8.length a9,.int .u8 o.wh,.int .i64 o.n]] (by rfl) rfl rfl (by simp only [List.map_toArray,List.map_cons,List.map_nil];rfl) ?_
       with_reducible refine (zL (HLI.out.below H3.out.bel) HOP.out.n HOP.out.wh HRR.out).mono ?_
       rintro e w4 ⟨C3,c3,C4,c4,C6,c6,C9,c9,rfl,hO4,hb4⟩
       refine ⟨_,rfl,?_⟩
       have H4:=iC.mk (H3.out.below hb4)
       have L4:=iC.mk hO4.lies
       clear hO4 hb4
       refine hK.out _ _ ((HALL.out _ H4.out.bel).1) (fun hHeld=>?_)
       clear hK K
       refine lL (a':=?_) ?_ ?_
       rotate_left
       ·show Act.put _ (some 102) _=_
        simp only [Act.put,sb_,sz_,ss_,iO,jA]
        rfl
       refine one_ (i:=14) (N:=some 103) #[true,true,true,true,true,true,true,true,true,true,true,true,true,true,true,false,false] rfl rfl (kY HT_.out (by kernel_rfl)) (by decide) (fun K hK=>?_)
       refine oD Tryz.func17 (by kernel_rfl) rfl #[.pointer (some ⟨f,0,none⟩),.agg #[.int .u8 rr.f0,.int .u32 rr.f1,.int .u32 rr.f2,.slice C3 rr.f3.length c3,.slice C4 rr.f4.length c4,.int .u32 rr.f5.f0,.slice C6 rr.f5.f1.length c6,.int .i64 rr.f6,.int .i64 rr.f7,.slice C9 rr.f8.length c9]] (by rfl) rfl rfl (by simp only [List.map_toArray,List.map_cons,List.map_nil];rfl) ?_
       with_reducible refine (H4.out.rlazy L4.out HE.out).mono ?_
       rintro e w5 ⟨rfl,h5⟩
       refine ⟨_,rfl,?_⟩
       have H5:=iC.mk h5
       clear h5
       refine hK.out _ _ ((HALL.out _ H5.out.bel).1) (fun hHeld=>?_)
       clear hK K
       refine lL (a':=?_) ?_ ?_
       rotate_left
       ·show Act.put _ (some 103) _=_
        simp only [Act.put,sb_,sz_,ss_,iO,jA]
        rfl
       refine jK (i:=15) (N:=some 104) (v:=?_) (a':=?_) #[true,true,true,true,true,true,true,true,true,true,true,true,true,true,true,true,false] rfl rfl (iZ HT_.out (by kernel_rfl)) (fun _ _ _ h=>h) (Or.inl ⟨by rfl,?_⟩) ?_ ?_
       rotate_left
       ·intro w'
        go_simp
        with_reducible rfl
       rotate_left
       ·simp only [Act.put,sb_,sz_,ss_,iO,jA]
        rfl
       refine jK (i:=16) (N:=some 14) (v:=?_) (a':=?_) #[true,true,true,true,true,true,true,true,true,true,true,true,true,true,true,true,true] rfl rfl (iZ HT_.out (by kernel_rfl)) (fun _ _ _ h=>h) (Or.inl ⟨by rfl,?_⟩) ?_ ?_
       rotate_left
       ·intro w'
        go_simp
        with_reducible rfl
       rotate_left
       ·simp only [Act.put,sb_,sz_,ss_,iO,jA]
        rfl
       refine zI (pM HT_.out (by kernel_rfl)) ?_
       obtain ⟨D,hD⟩:∃ D,lY d rr=D:=⟨_,rfl⟩
       have HT:=iC.mk (show PL w0 w5 b r g f D D from hD▸H5.out)
       have HDD:=iC.mk (show D.room=R from hD▸HDR.out)
       clear hD hE0 hE1 hwE hwE2
       go_wp2_with fail
       go_meet
       exact ⟨g,f,D,rfl,rfl,rfl,rfl,HT,HDD⟩
     ·go_wp2
      have hE:=JW d o.r
      have HDR:=iC.mk ((zW d o.r).trans HR.out)
      obtain ⟨E,hEE⟩:∃ E,nD d o.r=E:=⟨_,rfl⟩
      have HE:=iC.mk hEE
      rw [hEE] at hE
      obtain ⟨hE0,hE1⟩:=hE
      have hwE:IntKind.i64.wrap E=E:=by rw [IntKind.wrap_i64];omega
      have hwE2:wrap64 E=E:=by unfold wrap64;omega
      clear hEE
      have HPd:=iC.mk (show PL w0 wr0.drew b r g f d d from HP.out.below (iW (Below.refl _ _)))
      refine qJ (n:=17) (S:=fun w'=>(Instr.loadAt 54 (.pointer (some ⟨(ad.add (k * 13)).block,(ad.add (k * 13)).off+1,none⟩))).run Tryz.prog w'=.ok (.agg #[.int .u8 o.r.f0,.int .u32 o.r.f1,.int .u32 o.r.f2,.slice A3 o.r.f3.length a3,.slice A4 o.r.f4.length a4,.int .u32 o.r.f5.f0,.slice A6 o.r.f5.f1.length a6,.int .i64 o.r.f6,.int .i64 o.r.f7,.slice A9 o.r.f8.length a9]) w') (ds:=[]) #[false,false,false,false,false,false,false,false,false,false,false,false,false,false,false,false,false] (by kernel_rfl) rfl rfl ((HALL.out _ HPd.out.bel).2.1) (fun hHeld=>?_)
      refine mM (T:=(true,[([],[]),([],[]),([],[]),([1,2],[1,2]),([3],[3]),([4],[4]),([0,5],[0,5]),([6],[6]),([],[]),([],[]),([],[]),([9,10],[9,10]),([11],[11]),([12],[12]),([8,13,6],[8,13]),([7,14],[7,14]),([15,14,0,1,2,3,4,5,6,7,8,9,10,11,12,13,14,15],[15])])) (B:=[0,0,0,6,14,30,63,127,0,0,0,1536,3584,7680,16255,32767,65535]) (by kernel_rfl) (by kernel_rfl) (fun HT_ HW_=>?_)
      refine jK (i:=0) (N:=some 107) (v:=?_) (a':=?_) #[true,false,false,false,false,false,false,false,false,false,false,false,false,false,false,false,false] rfl rfl (iZ HT_.out (by kernel_rfl)) (fun _ _ _ h=>h) (Or.inl ⟨by rfl,?_⟩) ?_ ?_
      rotate_left
      ·intro w'
       go_simp
       with_reducible rfl
      rotate_left
      ·simp only [Act.put,sb_,sz_,ss_,iO,jA]
       rfl
      refine jK (i:=1) (N:=some 108) (v:=?_) (a':=?_) #[true,true,false,false,false,false,false,false,false,false,false,false,false,false,false,false,false] rfl rfl (iZ HT_.out (by kernel_rfl)) (fun _ _ _ h=>h) (Or.inl ⟨by rfl,?_⟩) ?_ ?_
      rotate_left
      ·intro w'
       go_simp
       with_reducible rfl
      rotate_left
      ·simp only [Act.put,sb_,sz_,ss_,iO,jA]
       rfl
      refine jK (i:=2) (N:=some 109) (v:=?_) (a':=?_) #[true,true,true,false,false,false,false,false,false,false,false,false,false,false,false,false,false] rfl rfl (iZ HT_.out (by kernel_rfl)) (fun _ _ _ h=>h) (Or.inl ⟨by rfl,?_⟩) ?_ ?_
      rotate_left
      ·intro w'
       go_simp
       with_reducible rfl
      rotate_left
      ·simp only [Act.put,sb_,sz_,ss_,iO,jA]
       rfl
      refine jK (i:=3) (N:=some 110) (v:=?_) (a':=?_) #[true,true,true,true,false,false,false,false,false,false,false,false,false,false,false,false,false] rfl rfl (iZ HT_.out (by kernel_rfl)) (fun _ _ _ h=>h) (Or.inl ⟨by rfl,?_⟩) ?_ ?_
      rotate_left
      ·intro w'
       go_simp
       with_reducible rfl
      rotate_left
      ·simp only [Act.put,sb_,sz_,ss_,iO,jA]
       rfl
      refine jK (i:=4) (N:=some 111) (v:=?_) (a':=?_) #[true,true,true,true,true,false,false,false,false,false,false,false,false,false,false,false,false] rfl rfl (iZ HT_.out (by kernel_rfl)) (fun _ _ _ h=>h) (Or.inl ⟨by rfl,?_⟩) ?_ ?_
      rotate_left
      ·intro w'
       go_simp
       with_reducible rfl
      rotate_left
      ·simp only [Act.put,sb_,sz_,ss_,iO,jA]
       rfl
      refine jK (i:=8) (N:=some 115) (v:=?_) (a':=?_) #[true,true,true,true,true,false,false,false,true,false,false,false,false,false,false,false,false] rfl rfl (iZ HT_.out (by kernel_rfl)) (fun _ _ _ h=>h) (Or.inl ⟨by rfl,?_⟩) ?_ ?_
      rotate_left
      ·intro w'
       go_simp
       with_reducible rfl
      rotate_left
      ·simp only [Act.put,sb_,sz_,ss_,iO,jA]
       rfl
      refine jK (i:=9) (N:=some 116) (v:=?_) (a':=?_) #[true,true,true,true,true,false,false,false,true,true,false,false,false,false,false,false,false] rfl rfl (iZ HT_.out (by kernel_rfl)) (fun _ _ _ h=>h) (Or.inl ⟨by rfl,?_⟩) ?_ ?_
      rotate_left
      ·intro w'
       go_simp
       with_reducible rfl
      rotate_left
      ·simp only [Act.put,sb_,sz_,ss_,iO,jA]
       rfl
      refine jK (i:=10) (N:=some 117) (v:=?_) (a':=?_) #[true,true,true,true,true,false,false,false,true,true,true,false,false,false,false,false,false] rfl rfl (iZ HT_.out (by kernel_rfl)) (fun _ _ _ h=>h) (Or.inl ⟨by rfl,?_⟩) ?_ ?_
      rotate_left
      ·intro w'
       go_simp
       with_reducible rfl
      rotate_left
      ·simp only [Act.put,sb_,sz_,ss_,iO,jA]
       rfl
      refine jK (i:=11) (N:=some 118) (v:=?_) (a':=?_) #[true,true,true,true,true,false,false,false,true,true,true,true,false,false,false,false,false] rfl rfl (iZ HT_.out (by kernel_rfl)) (fun _ _ _ h=>h) (Or.inl ⟨by rfl,?_⟩) ?_ ?_
      rotate_left
      ·intro w'
       go_simp
       with_reducible rfl
      rotate_left
      ·simp only [Act.put,sb_,sz_,ss_,iO,jA]
       rfl
      refine jK (i:=12) (N:=some 119) (v:=?_) (a':=?_) #[true,true,true,true,true,false,false,false,true,true,true,true,true,false,false,false,false] rfl rfl (iZ HT_.out (by kernel_rfl)) (fun _ _ _ h=>h) (Or.inl ⟨by rfl,?_⟩) ?_ ?_
      rotate_left
      ·intro w'
       go_simp
       with_reducible rfl
      rotate_left
      ·simp only [Act.put,sb_,sz_,ss_,iO,jA]
       rfl
      refine qP (i:=5) (N:=some 112) (v:=?_) (a':=?_) #[true,true,true,true,true,true,false,false,true,true,true,true,true,false,false,false,false] rfl rfl (lF HT_.out HW_.out (by kernel_rfl)) (fun _ _ _ h=>h) (Or.inl ⟨by rfl,?_⟩) hHeld ?_ ?_
      rotate_left
      ·intro w' s0
       go_simp
       with_reducible rfl
      rotate_left
      ·simp only [Act.put,sb_,sz_,ss_,iO,jA]
       rfl
      refine qP (i:=13) (N:=some 120) (v:=?_) (a':=?_) #[true,true,true,true,true,true,false,false,true,true,true,true,true,true,false,false,false] rfl rfl (lF HT_.out HW_.out (by kernel_rfl)) (fun _ _ _ h=>h) (Or.inl ⟨by rfl,?_⟩) hHeld ?_ ?_
      rotate_left
      ·intro w' s0
       go_simp
       with_reducible rfl
      rotate_left
      ·simp only [Act.put,sb_,sz_,ss_,iO,jA]
       rfl
      refine one_ (i:=6) (N:=some 113) #[true,true,true,true,true,true,true,false,true,true,true,true,true,true,false,false,false] rfl rfl (kY HT_.out (by kernel_rfl)) (by decide) (fun K hK=>?_)
      refine oD Tryz.func18 (by kernel_rfl) rfl #[.pointer (some ⟨g,0,none⟩),.agg #[.int .u8 o.r.f0,.int .u32 o.r.f1,.int .u32 o.r.f2,.slice A3 o.r.f3.length a3,.slice A4 o.r.f4.length a4,.int .u32 o.r.f5.f0,.slice A6 o.r.f5.f1.length a6,.int .i64 o.r.f6,.int .i64 o.r.f7,.slice A9 o.r.f8.length a9]] (by rfl) rfl rfl (by simp only [List.map_toArray,List.map_cons,List.map_nil];rfl) ?_
      with_reducible refine (HPd.out.force (HLI.out.below HPd.out.bel) HE.out).mono ?_
      rintro e w3 ⟨rfl,h3⟩
      refine ⟨_,rfl,?_⟩
      have H3:=iC.mk h3
      clear h3
      refine hK.out _ _ ((HALL.out _ H3.out.bel).2.1) (fun hHeld=>?_)
      clear hK K
      refine lL (a':=?_) ?_ ?_
      rotate_left
      ·show Act.put _ (some 113) _=_
       simp only [Act.put,sb_,sz_,ss_,iO,jA]
       rfl
      refine jK (i:=7) (N:=some 114) (v:=?_) (a':=?_) #[true,true,true,true,true,true,true,true,true,true,true,true,true,true,false,false,false] rfl rfl (iZ HT_.out (by kernel_rfl)) (fun _ _ _ h=>h) (Or.inl ⟨by rfl,?_⟩) ?_ ?_
      rotate_left
      ·intro w'
       go_simp
       with_reducible rfl
      rotate_left
      ·simp only [Act.put,sb_,sz_,ss_,iO,jA]
       rfl
      refine one_ (i:=14) (N:=some 121) #[true,true,true,true,true,true,true,true,true,true,true,true,true,true,true,false,false] rfl rfl (kY HT_.out (by kernel_rfl)) (by decide) (fun K hK=>?_)
      refine oD Tryz.func19 (by kernel_rfl) rfl #[.pointer (some ⟨f,0,none⟩),.agg #[.int .u8 o.r.f0,.int .u32 o.r.f1,.int .u32 o.r.f2,.slice A3 o.r.f3.length a3,.slice A4 o.r.f4.length a4,.int .u32 o.r.f5.f0,.slice A6 o.r.f5.f1.length a6,.int .i64 o.r.f6,.int .i64 o.r.f7,.slice A9 o.r.f8.length a9]] (by rfl) rfl rfl (by simp only [List.map_toArray,List.map_cons,List.map_nil];rfl) ?_
      with_reducible refine (H3.out.rforce (HLI.out.below H3.out.bel) HE.out).mono ?_
      rintro e w5 ⟨rfl,h5⟩
      refine ⟨_,rfl,?_⟩
      have H5:=iC.mk h5
      clear h5
      refine hK.out _ _ ((HALL.out _ H5.out.bel).2.1) (fun hHeld=>?_)
      clear hK K
      refine lL (a':=?_) ?_ ?_
      rotate_left
      ·show Act.put _ (some 121) _=_
       simp only [Act.put,sb_,sz_,ss_,iO,jA]
       rfl
      refine jK (i:=15) (N:=some 122) (v:=?_) (a':=?_) #[true,true,true,true,true,true,true,true,true,true,true,true,true,true,true,true,false] rfl rfl (iZ HT_.out (by kernel_rfl)) (fun _ _ _ h=>h) (Or.inl ⟨by rfl,?_⟩) ?_ ?_
      rotate_left
      ·intro w'
       go_simp
       with_reducible rfl
      rotate_left
      ·simp only [Act.put,sb_,sz_,ss_,iO,jA]
       rfl
      refine jK (i:=16) (N:=some 14) (v:=?_) (a':=?_) #[true,true,true,true,true,true,true,true,true,true,true,true,true,true,true,true,true] rfl rfl (iZ HT_.out (by kernel_rfl)) (fun _ _ _ h=>h) (Or.inl ⟨by rfl,?_⟩) ?_ ?_
      rotate_left
      ·intro w'
       go_simp
       with_reducible rfl
      rotate_left
      ·simp only [Act.put,sb_,sz_,ss_,iO,jA]
       rfl
      refine zI (pM HT_.out (by kernel_rfl)) ?_
      obtain ⟨D,hD⟩:∃ D,mX d o.r=D:=⟨_,rfl⟩
      have HT:=iC.mk (show PL w0 w5 b r g f D D from hD▸H5.out)
      have HDD:=iC.mk (show D.room=R from hD▸HDR.out)
      clear hD hE0 hE1 hwE hwE2
      go_wp2_with fail
      go_meet
      exact ⟨g,f,D,rfl,rfl,rfl,rfl,HT,HDD⟩
     ·have hcn:=fun (_:True)=>(HALL.out _ HP.out.bel).2.2.2
      have hnb:=HOP.out.n
      obtain ⟨N,hN⟩:∃ N,N=Int.tmod (mx o.n 0) 9:=⟨_,rfl⟩
      have hN1:N≤9223372036854775807:=by rw [hN];have:=tmod9 (mx o.n 0);omega
      have HN1:=iC.mk hN1
      obtain ⟨nn,hnn⟩:∃ nn,nn=o.n:=⟨_,rfl⟩
      have HNN:=iC.mk hnn.symm
      rw [← hnn] at hN hcn
      have hN2:=hN.symm
      clear hnb hN hN1 hnn
      go_upto_region 23 with fail
      go_wp2_with fail
      go_at_call 20
      refine (HP.out.halt N HN1.out).mono ?_
      rintro e w3 ⟨rfl,h3⟩
      have H3:=iC.mk h3
      clear h3 hcn
      have hcn:=fun (_:True)=>(HALL.out _ H3.out.bel).2.2.2
      rw [HNN.out] at hcn
      go_upto_region 24 with fail
      go_wp2_with fail
      go_at_call 21
      refine (H3.out.rhalt N HN1.out).mono ?_
      rintro e w5 ⟨rfl,h5⟩
      obtain ⟨D,hD⟩:∃ D,d.halt N=D:=⟨_,rfl⟩
      have HT:=iC.mk (show PL w0 w5 b r g f D D from hD▸h5)
      have HDD:=iC.mk (show D.room=R from hD▸HR.out)
      clear hD h5 hcn hN2
      go_wp2_with fail
      go_meet
      exact ⟨g,f,D,rfl,rfl,rfl,rfl,HT,HDD⟩
     ·have hcn:=fun (_:True)=>(HALL.out _ HP.out.bel).2.2.2
      obtain ⟨N,hN⟩:∃ N,o.n=N:=⟨_,rfl⟩
      have HNN:=iC.mk hN
      rw [hN] at hcn
      clear hN
      go_upto_region 26 with fail
      go_wp2_with fail
      go_at_call 22
      refine (HP.out.crash N).mono ?_
      rintro e w2 ⟨rfl,h2⟩
      have H2:=iC.mk h2
      clear h2 hcn
      have hcn:=fun (_:True)=>(HALL.out _ H2.out.bel).2.2.2
      rw [HNN.out] at hcn
      go_upto_region 27 with fail
      go_wp2_with fail
      go_at_call 23
      refine (H2.out.rcrash N).mono ?_
      rintro e w3 ⟨rfl,h3⟩
      obtain ⟨X,hX⟩:∃ X,d.crash N=X:=⟨_,rfl⟩
      have H3:=iC.mk (show PL w0 w3 b r g f X X from hX▸h3)
      have HXR:=iC.mk (show X.room=R from hX▸HR.out)
      have hXl:X.left = -1:=by rw [← hX];rfl
      have hOL:=J3 hXl
      have HOE:=iC.mk hOL.1
      have HDD0:=iC.mk (show (nM X).room=R from by rw [hOL.2];exact HXR.out)
      have HXB:=iC.mk (show (X.bs.length:Int)≤1000000 from by
       obtain ⟨_,_,hq⟩:=H3.out.pr
       have:=hq.dd.2.fit
       have:=HXR.out
       omega)
      clear hX hXl hOL h3 hcn H2
      go_upto_region 28 with fail
      go_wp2_with fail
      go_at_call 10
      refine (H3.out.open HOE.out HXB.out).mono ?_
      rintro e w4 ⟨g',v4,rfl,h4,hr4,_⟩
      have H4:=iC.mk h4
      have HX4:=iC.mk hr4
      clear h4 hr4
      go_upto_region 29 with fail
      go_wp2_with fail
      go_at_call 11
      refine (H4.out.ropen HOE.out HXB.out).mono ?_
      rintro e w6 ⟨f',v6,rfl,h6,hr6,row6,rr6,hp6,hk6⟩
      have hx6:=HX4.out.rkb hp6.rk hk6
      have hsl:=XI X.bs
      obtain ⟨G,hG⟩:∃ G,nY (kX X.bs)=G:=⟨_,rfl⟩
      rw [hG] at hx6 hr6 hsl
      obtain ⟨Ax,cx,rfl,_,Cx⟩:=Kd.R_reads hx6
      obtain ⟨Ay,cy,rfl,_,Cy⟩:=Kd.R_reads hr6
      have hcall:=jn_ Ax Ay cx cy G w6 Cx Cy hsl
      obtain ⟨D,hD⟩:∃ D,nM X=D:=⟨_,rfl⟩
      have H6:=iC.mk (show PL w0 w6 b r g' f' D D from hD▸h6)
      have HDD:=iC.mk (show D.room=R from hD▸HDD0.out)
      clear h6 hr6 hp6 hk6 hx6 hsl hG Cx Cy hD HX4 H4 H3
      go_upto_region 30 with fail
      go_wp2_with fail
      go_at_call 12
      refine hcall.mono ?_
      rintro e w5 ⟨rfl,hb5⟩
      have HT:=iC.mk (H6.out.below hb5)
      clear hcall hb5
      go_wp2_with fail
      go_meet
      exact ⟨g',f',D,rfl,rfl,rfl,rfl,HT,HDD⟩
     ·rcases hKr with rfl | rfl | rfl
      all_goals
       go_wp2
       have hE:=JW d rr
       have HDR:=iC.mk ((zW d rr).trans HR.out)
       obtain ⟨E,hEE⟩:∃ E,nD d rr=E:=⟨_,rfl⟩
       have HE:=iC.mk hEE
       rw [hEE] at hE
       obtain ⟨hE0,hE1⟩:=hE
       have hwE:IntKind.i64.wrap E=E:=by rw [IntKind.wrap_i64];omega
       have hwE2:wrap64 E=E:=by unfold wrap64;omega
       clear hEE
       have HPd:=iC.mk (show PL w0 wr0.drew b r g f d d from HP.out.below (iW (Below.refl _ _)))
       refine qJ (n:=17) (S:=fun w'=>(Instr.loadAt 56 (.pointer (some (ad.add (k * 13))))).run Tryz.prog w'=.ok (.agg #[.int .u8 o.k,.int .u8 o.r.f0,.int .u32 o.r.f1,.int .u32 o.r.f2,.slice A3 o.r.f3.length a3,.slice A4 o.r.f4.length a4,.int .u32 o.r.f5.f0,.slice A6 o.r.f5.f1.length a6,.int .i64 o.r.f6,.int .i64 o.r.f7,.slice A9 o.r.f8.length a9,.int .u8 o.wh,.int .i64 o.n]) w') (ds:=[]) #[false,false,false,false,false,false,false,false,false,false,false,false,false,false,false,false,false] (by kernel_rfl) rfl rfl ((HALL.out _ HPd.out.bel).1) (fun hHeld=>?_)
       refine mM (T:=(true,[([],[]),([],[]),([],[]),([1,2],[1,2]),([3],[3]),([4],[4]),([0,5,5],[0,5]),([6],[6]),([],[]),([],[]),([],[]),([9,10],[9,10]),([11],[11]),([12,6],[12]),([8,13,13],[8,13]),([7,14],[7,14]),([15,14,0,1,2,3,4,5,6,7,8,9,10,11,12,13,14,15],[15])])) (B:=[0,0,0,6,14,30,63,127,0,0,0,1536,3584,7807,16255,32767,65535]) (by kernel_rfl) (by kernel_rfl) (fun HT_ HW_=>?_)
       refine jK (i:=0) (N:=some 70) (v:=?_) (a':=?_) #[true,false,false,false,false,false,false,false,false,false,false,false,false,false,false,false,false] rfl rfl (iZ HT_.out (by kernel_rfl)) (fun _ _ _ h=>h) (Or.inl ⟨by rfl,?_⟩) ?_ ?_
       rotate_left
       ·intro w'
        go_simp
        with_reducible rfl
       rotate_left
       ·simp only [Act.put,sb_,sz_,ss_,iO,jA]
        rfl
       refine jK (i:=1) (N:=some 71) (v:=?_) (a':=?_) #[true,true,false,false,false,false,false,false,false,false,false,false,false,false,false,false,false] rfl rfl (iZ HT_.out (by kernel_rfl)) (fun _ _ _ h=>h) (Or.inl ⟨by rfl,?_⟩) ?_ ?_
       rotate_left
       ·intro w'
        go_simp
        with_reducible rfl
       rotate_left
       ·simp only [Act.put,sb_,sz_,ss_,iO,jA]
        rfl
       refine jK (i:=2) (N:=some 72) (v:=?_) (a':=?_) #[true,true,true,false,false,false,false,false,false,false,false,false,false,false,false,false,false] rfl rfl (iZ HT_.out (by kernel_rfl)) (fun _ _ _ h=>h) (Or.inl ⟨by rfl,?_⟩) ?_ ?_
       rotate_left
       ·intro w'
        go_simp
        with_reducible rfl
       rotate_left
       ·simp only [Act.put,sb_,sz_,ss_,iO,jA]
        rfl
       refine jK (i:=3) (N:=some 73) (v:=?_) (a':=?_) #[true,true,true,true,false,false,false,false,false,false,false,false,false,false,false,false,false] rfl rfl (iZ HT_.out (by kernel_rfl)) (fun _ _ _ h=>h) (Or.inl ⟨by rfl,?_⟩) ?_ ?_
       rotate_left
       ·intro w'
        go_simp
        with_reducible rfl
       rotate_left
       ·simp only [Act.put,sb_,sz_,ss_,iO,jA]
        rfl
       refine jK (i:=8) (N:=some 78) (v:=?_) (a':=?_) #[true,true,true,true,false,false,false,false,true,false,false,false,false,false,false,false,false] rfl rfl (iZ HT_.out (by kernel_rfl)) (fun _ _ _ h=>h) (Or.inl ⟨by rfl,?_⟩) ?_ ?_
       rotate_left
       ·intro w'
        go_simp
        with_reducible rfl
       rotate_left
       ·simp only [Act.put,sb_,sz_,ss_,iO,jA]
        rfl
       refine jK (i:=9) (N:=some 79) (v:=?_) (a':=?_) #[true,true,true,true,false,false,false,false,true,true,false,false,false,false,false,false,false] rfl rfl (iZ HT_.out (by kernel_rfl)) (fun _ _ _ h=>h) (Or.inl ⟨by rfl,?_⟩) ?_ ?_
       rotate_left
       ·intro w'
        go_simp
        with_reducible rfl
       rotate_left
       ·simp only [Act.put,sb_,sz_,ss_,iO,jA]
        rfl
       refine jK (i:=10) (N:=some 80) (v:=?_) (a':=?_) #[true,true,true,true,false,false,false,false,true,true,true,false,false,false,false,false,false] rfl rfl (iZ HT_.out (by kernel_rfl)) (fun _ _ _ h=>h) (Or.inl ⟨by rfl,?_⟩) ?_ ?_
       rotate_left
       ·intro w'
        go_simp
        with_reducible rfl
       rotate_left
       ·simp only [Act.put,sb_,sz_,ss_,iO,jA]
        rfl
       refine jK (i:=11) (N:=some 81) (v:=?_) (a':=?_) #[true,true,true,true,false,false,false,false,true,true,true,true,false,false,false,false,false] rfl rfl (iZ HT_.out (by kernel_rfl)) (fun _ _ _ h=>h) (Or.inl ⟨by rfl,?_⟩) ?_ ?_
       rotate_left
       ·intro w'
        go_simp
        with_reducible rfl
       rotate_left
       ·simp only [Act.put,sb_,sz_,ss_,iO,jA]
        rfl
       refine qP (i:=4) (N:=some 74) (v:=?_) (a':=?_) #[true,true,true,true,true,false,false,false,true,true,true,true,false,false,false,false,false] rfl rfl (lF HT_.out HW_.out (by kernel_rfl)) (fun _ _ _ h=>h) (Or.inl ⟨by rfl,?_⟩) hHeld ?_ ?_
       rotate_left
       ·intro w' s0
        go_simp
        with_reducible rfl
       rotate_left
       ·simp only [Act.put,sb_,sz_,ss_,iO,jA]
        rfl
       refine qP (i:=12) (N:=some 82) (v:=?_) (a':=?_) #[true,true,true,true,true,false,false,false,true,true,true,true,true,false,false,false,false] rfl rfl (lF HT_.out HW_.out (by kernel_rfl)) (fun _ _ _ h=>h) (Or.inl ⟨by rfl,?_⟩) hHeld ?_ ?_
       rotate_left
       ·intro w' s0
        go_simp
        with_reducible rfl
       rotate_left
       ·simp only [Act.put,sb_,sz_,ss_,iO,jA]
        rfl
       refine one_ (i:=5) (N:=some 75) #[true,true,true,true,true,true,false,false,true,true,true,true,true,false,false,false,false] rfl rfl (kY HT_.out (by kernel_rfl)) (by decide) (fun K hK=>?_)
       refine oD Tryz.func16 (by kernel_rfl) rfl #[.agg #[.int .u8 o.k,.int .u8 o.r.f0,.int .u32 o.r.f1,.int .u32 o.r.f2,.slice A3 o.r.f3.length a3,.slice A4 o.r.f4.length a4,.int .u32 o.r.f5.f0,.slice A6 o.r.f5.f1.length a6,.int .i64 o.r.f6,.int .i64 o.r.f7,.slice A9 o.r.f8.length a9,.int .u8 o.wh,.int .i64 o.n]] (by rfl) rfl rfl (by simp only [List.map_toArray,List.map_cons,List.map_nil];rfl) ?_
       with_reducible refine (zL (HLI.out.below HPd.out.bel) HOP.out.n HOP.out.wh HRR.out).mono ?_
       rintro e w2 ⟨B3,b3,B4,b4,B6,b6,B9,b9,rfl,hO2,hb2⟩
       refine ⟨_,rfl,?_⟩
       have H2:=iC.mk (HPd.out.below hb2)
       have L2:=iC.mk hO2.lies
       clear hO2 hb2
       refine hK.out _ _ ((HALL.out _ H2.out.bel).1) (fun hHeld=>?_)
       clear hK K
       refine lL (a':=?_) ?_ ?_
       rotate_left
       ·show Act.put _ (some 75) _=_
        simp only [Act.put,sb_,sz_,ss_,iO,jA]
        rfl
       refine one_ (i:=6) (N:=some 76) #[true,true,true,true,true,true,true,false,true,true,true,true,true,false,false,false,false] rfl rfl (kY HT_.out (by kernel_rfl)) (by decide) (fun K hK=>?_)
       refine oD Tryz.func18 (by kernel_rfl) rfl #[.pointer (some ⟨g,0,none⟩),.agg #[.int .u8 rr.f0,.int .u32 rr.f1,.int .u32 rr.f2,.slice B3 rr.f3.length b3,.slice B4 rr.f4.length b4,.int .u32 rr.f5.f0,.slice B6 rr.f5.f1.length b6,.int .i64 rr.f6,.int .i64 rr.f7,.slice B9 rr.f8.length b9]] (by rfl) rfl rfl (by simp only [List.map_toArray,List.map_cons,List.map_nil];rfl) ?_
       with_reducible refine (H2.out.force L2.out HE.out).mono ?_
       rintro e w3 ⟨rfl,h3⟩
       refine ⟨_,rfl,?_⟩
       have H3:=iC.mk h3
       clear h3
       refine hK.out _ _ ((HALL.out _ H3.out.bel).1) (fun hHeld=>?_)
       clear hK K
       refine lL (a':=?_) ?_ ?_
       rotate_left
       ·show Act.put _ (some 76) _=_
        simp only [Act.put,sb_,sz_,ss_,iO,jA]
        rfl
       refine jK (i:=7) (N:=some 77) (v:=?_) (a':=?_) #[true,true,true,true,true,true,true,true,true,true,true,true,true,false,false,false,false] rfl rfl (iZ HT_.out (by kernel_rfl)) (fun _ _ _ h=>h) (Or.inl ⟨by rfl,?_⟩) ?_ ?_
       rotate_left
       ·intro w'
        go_simp
        with_reducible rfl
       rotate_left
       ·simp only [Act.put,sb_,sz_,ss_,iO,jA]
        rfl
       refine one_ (i:=13) (N:=some 83) #[true,true,true,true,true,true,true,true,true,true,true,true,true,true,false,false,false] rfl rfl (kY HT_.out (by kernel_rfl)) (by decide) (fun K hK=>?_)
       refine oD Tryz.func16 (by kernel_rfl) rfl #[.agg #[.int .u8 o.k,.int .u8 o.r.f0,.int .u32 o.r.f1,.int .u32 o.r.f2,.slice A3 o.r.f3.length a3,.slice A4 o.r.f4.length a4,.int .u32 o.r.f5.f0,.slice A6 o.r.f5.f1.length a6,.int .i64 o.r.f6,.int .i64 o.r.f7,.slice A9 o.r.f8.length a9,.int .u8 o.wh,.int .i64 o.n]] (by rfl) rfl rfl (by simp only [List.map_toArray,List.map_cons,List.map_nil];rfl) ?_
       with_reducible refine (zL (HLI.out.below H3.out.bel) HOP.out.n HOP.out.wh HRR.out).mono ?_
       rintro e w4 ⟨C3,c3,C4,c4,C6,c6,C9,c9,rfl,hO4,hb4⟩
       refine ⟨_,rfl,?_⟩
       have H4:=iC.mk (H3.out.below hb4)
       have L4:=iC.mk hO4.lies
       clear hO4 hb4
       refine hK.out _ _ ((HALL.out _ H4.out.bel).1) (fun hHeld=>?_)
       clear hK K
       refine lL (a':=?_) ?_ ?_
       rotate_left
       ·show Act.put _ (some 83) _=_
        simp only [Act.put,sb_,sz_,ss_,iO,jA]
        rfl
       refine one_ (i:=14) (N:=some 84) #[true,true,true,true,true,true,true,true,true,true,true,true,true,true,true,false,false] rfl rfl (kY HT_.out (by kernel_rfl)) (by decide) (fun K hK=>?_)
       refine oD Tryz.func19 (by kernel_rfl) rfl #[.pointer (some ⟨f,0,none⟩),.agg #[.int .u8 rr.f0,.int .u32 rr.f1,.int .u32 rr.f2,.slice C3 rr.f3.length c3,.slice C4 rr.f4.length c4,.int .u32 rr.f5.f0,.slice C6 rr.f5.f1.length c6,.int .i64 rr.f6,.int .i64 rr.f7,.slice C9 rr.f8.length c9]] (by rfl) rfl rfl (by simp only [List.map_toArray,List.map_cons,List.map_nil];rfl) ?_
       with_reducible refine (H4.out.rforce L4.out HE.out).mono ?_
       rintro e w5 ⟨rfl,h5⟩
       refine ⟨_,rfl,?_⟩
       have H5:=iC.mk h5
       clear h5
       refine hK.out _ _ ((HALL.out _ H5.out.bel).1) (fun hHeld=>?_)
       clear hK K
       refine lL (a':=?_) ?_ ?_
       rotate_left
       ·show Act.put _ (some 84) _=_
        simp only [Act.put,sb_,sz_,ss_,iO,jA]
        rfl
       refine jK (i:=15) (N:=some 85) (v:=?_) (a':=?_) #[true,true,true,true,true,true,true,true,true,true,true,true,true,true,true,true,false] rfl rfl (iZ HT_.out (by kernel_rfl)) (fun _ _ _ h=>h) (Or.inl ⟨by rfl,?_⟩) ?_ ?_
       rotate_left
       ·intro w'
        go_simp
        with_reducible rfl
       rotate_left
       ·simp only [Act.put,sb_,sz_,ss_,iO,jA]
        rfl
       refine jK (i:=16) (N:=some 14) (v:=?_) (a':=?_) #[true,true,true,true,true,true,true,true,true,true,true,true,true,true,true,true,true] rfl rfl (iZ HT_.out (by kernel_rfl)) (fun _ _ _ h=>h) (Or.inl ⟨by rfl,?_⟩) ?_ ?_
       rotate_left
       ·intro w'
        go_simp
        with_reducible rfl
       rotate_left
       ·simp only [Act.put,sb_,sz_,ss_,iO,jA]
        rfl
       refine zI (pM HT_.out (by kernel_rfl)) ?_
       obtain ⟨D,hD⟩:∃ D,mX d rr=D:=⟨_,rfl⟩
       have HT:=iC.mk (show PL w0 w5 b r g f D D from hD▸H5.out)
       have HDD:=iC.mk (show D.room=R from hD▸HDR.out)
       clear hD hE0 hE1 hwE hwE2
       go_wp2_with fail
       go_meet
       exact ⟨g,f,D,rfl,rfl,rfl,rfl,HT,HDD⟩
    case rest =>
     obtain ⟨g',f',D,rfl,rfl,rfl,rfl,HT,HDD⟩:=hcut
     obtain ⟨w5,rfl⟩:∃ x:World,x=wc:=⟨_,rfl⟩
     clear HP HR HLI HALL HOP HRR
     go_upto_region 34 with fail
     obtain ⟨rowT,rrT,hT⟩:=HT.out.pr
     obtain ⟨bl,hbl⟩:∃ x,x=D.bs:=⟨_,rfl⟩
     have HBB:=iC.mk hbl
     obtain ⟨⟨ao,cap,hRc,hRw⟩,_⟩:=hT.rk
     obtain ⟨hRd,_,_⟩:=hRw.reads
     rw [← hbl] at hRd hRc
     have hrc:=hRc.c0
     have HRd:=iC.mk hRd
     have HT8:=iC.mk hT
     clear hT hbl hRc hRw hRd
     refine vT [183,184,185,186,187,188,189,190,191,192,193,194,195] [fun v _=>v=(.bool true),fun v _=>v=(.bool false),fun v _=>v=(.bool false),fun v _=>v=(.pointer (some ⟨b,0,none⟩)),j7_ bl,fun v _=>v=(.string (bs bl)),fun v _=>v=(.pointer (some ⟨r,0,none⟩)),fun v _=>v=(.pointer (some ⟨r,0,none⟩)),fun v _=>v=(.pointer (some ⟨r,0,none⟩)),fun v _=>v=(.slice ao bl.length cap),fun v _=>v=(.string (bs bl)),fun v _=>v=(.bool false),fun v _=>v=(.bool false)] [0,1,2,3,4,5,6,7,8,9,10,11,12] (true,[([],[]),([0],[0]),([1],[1]),([2],[2]),([3,2,2],[2,3]),([4,2],[2,4]),([2],[2]),([6,2],[2,6]),([7,2],[2,7]),([8,2],[2,8]),([9,2],[2,9]),([5,10,2],[2,5,10]),([2,11],[2,11])]) [0,1,3,7,15,31,7,71,199,455,967,2047,4095] (by kernel_rfl) (by kernel_rfl) (by kernel_rfl) (by kernel_rfl) (by kernel_rfl) (by kernel_rfl) (by kernel_rfl) (by rfl) (by kernel_rfl) ?_ ?_ ?_
     ·exact (iU (jS _) (iU (jS _) (iU (jS _) (iU (jS _) (iU (ji0 bl) (iU (jS _) (iU (jS _) (iU (jS _) (iU (jS _) (iU (jS _) (iU (jS _) (iU (jS _) (iU (jS _) vS)))))))))))))
     ·refine iJ ?_ ?_
      ·intro a w' vs hB hel hd
       have e14:a.tmps[14]? = some (.bool true):=(hel 14 (by kernel_rfl)).trans (by rfl)
       refine ⟨_,rfl,rfl,fun K hK=>?_⟩
       refine jC (w1:=w') (v:=.bool true) (by rfl) rfl ?_ (hK _ _ (by exact rfl) (Below.refl _ _))
       ·go_simp
        (try simp only [iO,iY])
        (try rfl)
        (try (unfold Go.RowKit.wrap64;omega))
      refine iJ ?_ ?_
      ·intro a w' vs hB hel hd
       obtain ⟨f183,r183⟩:=hd 0 (by kernel_rfl)
       have e183:a.tmps[183]? = some (.bool true):=f183.trans (congrArg some (r183:vs 0=(.bool true)))
       refine ⟨_,rfl,rfl,fun K hK=>?_⟩
       refine jC (w1:=w') (v:=.bool false) (by rfl) rfl ?_ (hK _ _ (by exact rfl) (Below.refl _ _))
       ·go_simp
        (try simp only [iO,iY])
        (try rfl)
        (try (unfold Go.RowKit.wrap64;omega))
      refine iJ ?_ ?_
      ·intro a w' vs hB hel hd
       obtain ⟨f184,r184⟩:=hd 1 (by kernel_rfl)
       have e184:a.tmps[184]? = some (.bool false):=f184.trans (congrArg some (r184:vs 1=(.bool false)))
       refine ⟨_,rfl,rfl,fun K hK=>?_⟩
       refine jC (w1:=w') (v:=.bool false) (by rfl) rfl ?_ (hK _ _ (by exact rfl) (Below.refl _ _))
       ·go_simp
        (try simp only [iO,iY])
        (try rfl)
        (try (unfold Go.RowKit.wrap64;omega))
      refine iJ ?_ ?_
      ·intro a w' vs hB hel hd
       have e5:a.tmps[5]? = some (.pointer (some ⟨b,0,none⟩)):=(hel 5 (by kernel_rfl)).trans (by rfl)
       obtain ⟨f185,r185⟩:=hd 2 (by kernel_rfl)
       have e185:a.tmps[185]? = some (.bool false):=f185.trans (congrArg some (r185:vs 2=(.bool false)))
       refine ⟨_,rfl,rfl,fun K hK=>?_⟩
       refine jC (w1:=w') (v:=.pointer (some ⟨b,0,none⟩)) (oI rfl rfl rfl e185) rfl ?_ (hK _ _ (by exact rfl) (Below.refl _ _))
       ·go_simp
        (try simp only [iO,iY])
        (try rfl)
        (try (unfold Go.RowKit.wrap64;omega))
      refine iJ ?_ ?_
      ·intro a w' vs hB hel hd
       obtain ⟨f186,r186⟩:=hd 3 (by kernel_rfl)
       have e186:a.tmps[186]? = some (.pointer (some ⟨b,0,none⟩)):=f186.trans (congrArg some (r186:vs 3=(.pointer (some ⟨b,0,none⟩))))
       obtain ⟨f185,r185⟩:=hd 2 (by kernel_rfl)
       have e185:a.tmps[185]? = some (.bool false):=f185.trans (congrArg some (r185:vs 2=(.bool false)))
       refine ⟨_,rfl,rfl,fun K hK=>?_⟩
       refine oD Tryz.func13 (by kernel_rfl) rfl #[.pointer (some ⟨b,0,none⟩)] (oI rfl rfl rfl e185) rfl rfl (by first | (simp only [List.map_toArray,List.map_cons,List.map_nil,Act.eval,Array.getD_eq_getD_getElem?,Option.getD_some,e186,e185];done) | (simp only [List.map_toArray,List.map_cons,List.map_nil,Act.eval,Array.getD_eq_getD_getElem?,Option.getD_some,e186,e185];rfl)) ?_
       refine (YT (HT8.out.dd.below hB)).mono ?_
       rintro e_ w2_ ⟨v_,rfl,hv_,hb2_⟩
       rw [← HBB.out] at hv_
       obtain ⟨A_,c_,rfl,_,hC_⟩:=hv_.reads
       exact ⟨_,rfl,hK _ _ ⟨A_,c_,rfl,hC_⟩ hb2_⟩
      refine iJ ?_ ?_
      ·intro a w' vs hB hel hd
       obtain ⟨f187,r187⟩:=hd 4 (by kernel_rfl)
       obtain ⟨A4_,c4_,hv4_,hC4_⟩:=(r187:(j7_ bl) (vs 4) w')
       have e187:a.tmps[187]? = some (.slice A4_ bl.length c4_):=f187.trans (congrArg some hv4_)
       obtain ⟨f185,r185⟩:=hd 2 (by kernel_rfl)
       have e185:a.tmps[185]? = some (.bool false):=f185.trans (congrArg some (r185:vs 2=(.bool false)))
       have q1:=oQ (c:=c4_) hC4_
       refine ⟨_,rfl,rfl,fun K hK=>?_⟩
       refine jC (w1:=w') (v:=.string (bs bl)) (oI rfl rfl rfl e185) rfl ?_ (hK _ _ (by exact rfl) (Below.refl _ _))
       ·go_simp
        (try simp only [iO,iY])
        (try rfl)
        (try (unfold Go.RowKit.wrap64;omega))
      refine iJ ?_ ?_
      ·intro a w' vs hB hel hd
       have e6:a.tmps[6]? = some (.pointer (some ⟨r,0,none⟩)):=(hel 6 (by kernel_rfl)).trans (by rfl)
       obtain ⟨f185,r185⟩:=hd 2 (by kernel_rfl)
       have e185:a.tmps[185]? = some (.bool false):=f185.trans (congrArg some (r185:vs 2=(.bool false)))
       refine ⟨_,rfl,rfl,fun K hK=>?_⟩
       refine jC (w1:=w') (v:=.pointer (some ⟨r,0,none⟩)) (oI rfl rfl rfl e185) rfl ?_ (hK _ _ (by exact rfl) (Below.refl _ _))
       ·go_simp
        (try simp only [iO,iY])
        (try rfl)
        (try (unfold Go.RowKit.wrap64;omega))
      refine iJ ?_ ?_
      ·intro a w' vs hB hel hd
       obtain ⟨f189,r189⟩:=hd 6 (by kernel_rfl)
       have e189:a.tmps[189]? = some (.pointer (some ⟨r,0,none⟩)):=f189.trans (congrArg some (r189:vs 6=(.pointer (some ⟨r,0,none⟩))))
       obtain ⟨f185,r185⟩:=hd 2 (by kernel_rfl)
       have e185:a.tmps[185]? = some (.bool false):=f185.trans (congrArg some (r185:vs 2=(.bool false)))
       refine ⟨_,rfl,rfl,fun K hK=>?_⟩
       refine jC (w1:=w') (v:=.pointer (some ⟨r,0,none⟩)) (oI rfl rfl rfl e185) rfl ?_ (hK _ _ (by exact rfl) (Below.refl _ _))
       ·go_simp
        (try simp only [iO,iY])
        (try rfl)
        (try (unfold Go.RowKit.wrap64;omega))
      refine iJ ?_ ?_
      ·intro a w' vs hB hel hd
       obtain ⟨f190,r190⟩:=hd 7 (by kernel_rfl)
       have e190:a.tmps[190]? = some (.pointer (some ⟨r,0,none⟩)):=f190.trans (congrArg some (r190:vs 7=(.pointer (some ⟨r,0,none⟩))))
       obtain ⟨f185,r185⟩:=hd 2 (by kernel_rfl)
       have e185:a.tmps[185]? = some (.bool false):=f185.trans (congrArg some (r185:vs 2=(.bool false)))
       refine ⟨_,rfl,rfl,fun K hK=>?_⟩
       refine jC (w1:=w') (v:=.pointer (some ⟨r,0,none⟩)) (oI rfl rfl rfl e185) rfl ?_ (hK _ _ (by exact rfl) (Below.refl _ _))
       ·go_simp
        (try simp only [iO,iY])
        (try rfl)
        (try (unfold Go.RowKit.wrap64;omega))
      refine iJ ?_ ?_
      ·intro a w' vs hB hel hd
       obtain ⟨f191,r191⟩:=hd 8 (by kernel_rfl)
       have e191:a.tmps[191]? = some (.pointer (some ⟨r,0,none⟩)):=f191.trans (congrArg some (r191:vs 8=(.pointer (some ⟨r,0,none⟩))))
       obtain ⟨f185,r185⟩:=hd 2 (by kernel_rfl)
       have e185:a.tmps[185]? = some (.bool false):=f185.trans (congrArg some (r185:vs 2=(.bool false)))
       have q1:=jb9 (vI hB hrc)
       refine ⟨_,rfl,rfl,fun K hK=>?_⟩
       refine jC (w1:=w') (v:=.slice ao bl.length cap) (oI rfl rfl rfl e185) rfl ?_ (hK _ _ (by exact rfl) (Below.refl _ _))
       ·go_simp
        (try simp only [iO,iY])
        (try rfl)
        (try (unfold Go.RowKit.wrap64;omega))
      refine iJ ?_ ?_
      ·intro a w' vs hB hel hd
       obtain ⟨f192,r192⟩:=hd 9 (by kernel_rfl)
       have e192:a.tmps[192]? = some (.slice ao bl.length cap):=f192.trans (congrArg some (r192:vs 9=(.slice ao bl.length cap)))
       obtain ⟨f185,r185⟩:=hd 2 (by kernel_rfl)
       have e185:a.tmps[185]? = some (.bool false):=f185.trans (congrArg some (r185:vs 2=(.bool false)))
       have q1:=oQ (c:=cap) (Kd.C_below HRd.out hB)
       refine ⟨_,rfl,rfl,fun K hK=>?_⟩
       refine jC (w1:=w') (v:=.string (bs bl)) (oI rfl rfl rfl e185) rfl ?_ (hK _ _ (by exact rfl) (Below.refl _ _))
       ·go_simp
        (try simp only [iO,iY])
        (try rfl)
        (try (unfold Go.RowKit.wrap64;omega))
      refine iJ ?_ ?_
      ·intro a w' vs hB hel hd
       obtain ⟨f188,r188⟩:=hd 5 (by kernel_rfl)
       have e188:a.tmps[188]? = some (.string (bs bl)):=f188.trans (congrArg some (r188:vs 5=(.string (bs bl))))
       obtain ⟨f193,r193⟩:=hd 10 (by kernel_rfl)
       have e193:a.tmps[193]? = some (.string (bs bl)):=f193.trans (congrArg some (r193:vs 10=(.string (bs bl))))
       obtain ⟨f185,r185⟩:=hd 2 (by kernel_rfl)
       have e185:a.tmps[185]? = some (.bool false):=f185.trans (congrArg some (r185:vs 2=(.bool false)))
       refine ⟨_,rfl,rfl,fun K hK=>?_⟩
       refine jC (w1:=w') (v:=.bool false) (oI rfl rfl rfl e185) rfl ?_ (hK _ _ (by exact rfl) (Below.refl _ _))
       ·go_simp
        (try simp only [iO,iY])
        (try rfl)
        (try (unfold Go.RowKit.wrap64;omega))
      refine iJ ?_ ?_
      ·intro a w' vs hB hel hd
       obtain ⟨f185,r185⟩:=hd 2 (by kernel_rfl)
       have e185:a.tmps[185]? = some (.bool false):=f185.trans (congrArg some (r185:vs 2=(.bool false)))
       obtain ⟨f194,r194⟩:=hd 11 (by kernel_rfl)
       have e194:a.tmps[194]? = some (.bool false):=f194.trans (congrArg some (r194:vs 11=(.bool false)))
       refine ⟨_,rfl,rfl,fun K hK=>?_⟩
       refine jC (w1:=w') (v:=.bool false) (by rfl) rfl ?_ (hK _ _ (by exact rfl) (Below.refl _ _))
       ·go_simp
        (try simp only [iO,iY])
        (try rfl)
        (try (unfold Go.RowKit.wrap64;omega))
      exact oV
     ·intro vs w' hB hR
      have hv0_:vs 0=(.bool true):=hR 0 (by kernel_rfl)
      have hv1_:vs 1=(.bool false):=hR 1 (by kernel_rfl)
      have hv2_:vs 2=(.bool false):=hR 2 (by kernel_rfl)
      have hv3_:vs 3=(.pointer (some ⟨b,0,none⟩)):=hR 3 (by kernel_rfl)
      obtain ⟨A4_,c4_,hv4_,hC4_⟩:=(hR 4 (by kernel_rfl):(j7_ bl) (vs 4) w')
      have hv5_:vs 5=(.string (bs bl)):=hR 5 (by kernel_rfl)
      have hv6_:vs 6=(.pointer (some ⟨r,0,none⟩)):=hR 6 (by kernel_rfl)
      have hv7_:vs 7=(.pointer (some ⟨r,0,none⟩)):=hR 7 (by kernel_rfl)
      have hv8_:vs 8=(.pointer (some ⟨r,0,none⟩)):=hR 8 (by kernel_rfl)
      have hv9_:vs 9=(.slice ao bl.length cap):=hR 9 (by kernel_rfl)
      have hv10_:vs 10=(.string (bs bl)):=hR 10 (by kernel_rfl)
      have hv11_:vs 11=(.bool false):=hR 11 (by kernel_rfl)
      have hv12_:vs 12=(.bool false):=hR 12 (by kernel_rfl)
      rw [show entries [183,184,185,186,187,188,189,190,191,192,193,194,195] vs=[(0,183,vs 0),(1,184,vs 1),(2,185,vs 2),(3,186,vs 3),(4,187,vs 4),(5,188,vs 5),(6,189,vs 6),(7,190,vs 7),(8,191,vs 8),(9,192,vs 9),(10,193,vs 10),(11,194,vs 11),(12,195,vs 12)] from rfl]
      simp only [jX,if_true,Act.put,sb_,sz_,ss_,hv0_,hv1_,hv2_,hv3_,hv4_,hv5_,hv6_,hv7_,hv8_,hv9_,hv10_,hv11_,hv12_]
      clear hR hv0_ hv1_ hv2_ hv3_ hv5_ hv6_ hv7_ hv8_ hv9_ hv10_ hv11_ hv12_
      have HF:=iC.mk (HT.out.below hB)
      go_wp2
      go_roundw
      case rel=>exact ⟨k+1,g',f',D,by omega,by go_num,rfl,rfl,rfl,HF,HDD⟩
      case measure=>simp [intOf];omega
   ·obtain rfl:k=l.length:=by omega
    have HBE:=iC.mk HP.out.bel
    go_wp2
    go_ret
    exact ⟨rfl,HBE.out⟩
end
end Go.Proofs.YtgfkgppomaapiaaGreatDoor.K
namespace Go.Proofs.YtgfkgppomaapiaaGreatDoor.K
open Go Go.RowKit Go.Deep Go.ChangeShapes Go.WideShapes Go.ChangeAt Go.Proofs.YtgfkgppomaapiaaGreatDoorW.PrintWords Go.Proofs.YtgfkgppomaapiaaGreatDoor.My
section
def wtW (o:SOp):Nat:=wtR o.r
theorem jb8:Came kOp 56 OpW wtW:=by
 intro H enc w fuel cs x h
 obtain ⟨xs,n,rfl,rfl,hl,hlen,hf⟩:=DataW.trod_struct Tryz.underlying56 h
 match xs,hlen with
 | [y0,y1,y2,y3],_ =>
  rw [show Tryz.prog.cellsOf 56=13 from by kernel_rfl] at hl
  obtain ⟨a0,p0,o0,b0⟩:=mP Tryz.underlying5 enc w n _ y0 (hf 0 _ rfl)
  obtain ⟨r,hr,o1,b1⟩:=QU enc (hf 1 _ rfl)
  obtain ⟨a2,p2,o2,b2⟩:=mP Tryz.underlying5 enc w n _ y2 (hf 2 _ rfl)
  obtain ⟨a3,p3,o3,b3⟩:=mP Tryz.underlying3 enc w n _ y3 (hf 3 _ rfl)
  obtain ⟨A3,c3,A4,c4,A6,c6,A9,c9,p1,g3,l3,g4,l4,g6,l6,g9,l9⟩:=hr
  have p0:List.take (Tryz.prog.cellsOf 5) (List.drop 0 cs)=[.int .u8 a0]:=p0
  rw [show Tryz.prog.cellsOf 5=1 from by kernel_rfl] at p0
  have p1:List.take (Tryz.prog.cellsOf 54) (List.drop 1 cs)=[.int .u8 r.f0,.int .u32 r.f1,.int .u32 r.f2,.slice A3 r.f3.length c3,.slice A4 r.f4.length c4,.int .u32 r.f5.f0,.slice A6 r.f5.f1.length c6,.int .i64 r.f6,.int .i64 r.f7,.slice A9 r.f8.length c9]:=p1
  rw [show Tryz.prog.cellsOf 54=10 from by kernel_rfl] at p1
  have p2:List.take (Tryz.prog.cellsOf 5) (List.drop 11 cs)=[.int .u8 a2]:=p2
  rw [show Tryz.prog.cellsOf 5=1 from by kernel_rfl] at p2
  have p3:List.take (Tryz.prog.cellsOf 3) (List.drop 12 cs)=[.int .i64 a3]:=p3
  rw [show Tryz.prog.cellsOf 3=1 from by kernel_rfl] at p3
  obtain ⟨z0,t0,rfl,ht0⟩:=pF hl
  obtain ⟨z1,t1,rfl,ht1⟩:=pF ht0
  obtain ⟨z2,t2,rfl,ht2⟩:=pF ht1
  obtain ⟨z3,z4,z5,z6,z7,z8,z9,z10,z11,z12,rfl⟩:=TT ht2
  have s0:[z0]=[.int .u8 a0]:=p0
  have s1:[z1,z2,z3,z4,z5,z6,z7,z8,z9,z10]=_:=p1
  have s2:[z11]=[.int .u8 a2]:=p2
  have s3:[z12]=[.int .i64 a3]:=p3
  simp only [List.cons.injEq,and_true] at s0 s1 s2 s3
  obtain ⟨rfl,rfl,rfl,rfl,rfl,rfl,rfl,rfl,rfl,rfl⟩:=s1
  subst s0;subst s2;subst s3
  refine ⟨⟨a0,r,a2,a3⟩,⟨[.int .u8 a0],_,rfl,rfl,_,_,rfl,kR_K (⟨g3,l3,g4,l4,g6,l6,g9,l9⟩:Lies w r A3 c3 A4 c4 A6 c6 A9 c9),[.int .u8 a2],[.int .i64 a3],rfl,rfl,rfl⟩,⟨wf_u8 o0,o1,wf_u8 o2,wf_i64 o3⟩,?_⟩
  show wtR r≤_
  simp only [Rows.uptoBulk,Rows.uptoBulkAll,List.map_cons,List.map_nil]
  omega
theorem came_wops:Came (Kd.slice 56 kOp) 44 (fun l=>∀ v∈l,OpW v) (fun l=>rJ wtW l+1) :=
 qR Tryz.underlying44 (by kernel_rfl) jb8
end
end Go.Proofs.YtgfkgppomaapiaaGreatDoor.K
