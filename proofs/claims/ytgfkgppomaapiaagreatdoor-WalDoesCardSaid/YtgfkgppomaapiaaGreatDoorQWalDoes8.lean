/- Parts of the proof, one behind the other: RefO, RefQ, WalV, WalC, RecOk, WalP, WalD, WalE, WalH, WalW, WalY, WalF, Self, SameS, WalG, WalI, WalM, WalX, MakeH. -/
import Derived.Test.YtgfkgppomaapiaaGreatDoorQWalDoes7
import Derived.Deep.MidRow
set_option linter.unusedVariables false
set_option linter.unusedSimpArgs false
namespace Go.Proofs.YtgfkgppomaapiaaGreatDoor.K
open RowKit YtgfkgppomaapiaaGreatDoorW.PrintWords YtgfkgppomaapiaaGreatDoorW.PrintLast YtgfkgppomaapiaaGreatDoorW.PrintMore My
section
theorem lW {s:Nat} {l r:List UInt8} {m:Nat} (h:number s l=some (m,r)):intP s l=some ((m:Int),r):=by unfold intP;rw [h];rfl
theorem nU {s:Nat} {l:List UInt8} (h:number s l=none):intP s l=none:=by unfold intP;rw [h];rfl
attribute [-go_sem] Instr.build Instr.storeAt
attribute [local go_sem] TJ jb2 jo2
set_option maxRecDepth 20000 in
set_option maxHeartbeats 16000000 in
theorem jc1 (g:Nat) (l:List UInt8) (w0 w:World) (h:RB w0 w g l false) (hb:Below w0.heap.size w0 w) (hg:w0.heap.size≤g) (hm:(l.length:Int)≤100000) :
  Calls Tryz.prog 54 #[.pointer (some ⟨g,0,none⟩)] w (jg1 l w0 w g):=by
 have hlt:=h.lt
 have h00:w0.heap.size≤w.heap.size:=hb.size
 have h0s:=nP.start h hb hg
 have hst0:=fun (_:True)=>oJ (a:=0) (k:=0) (i:=0) (x3:=.slice none 0 0) (x4:=.slice none 0 0) (j:=0) (x6:=.slice none 0 0) (p:=0) (q:=0) (x9:=.slice none 0 0) h0s.xb rfl rfl rfl rfl
 have H1:=iC.mk (h0s.set (x':=⟨0,0,0,[],[],⟨0,[]⟩,0,0,[]⟩) h00 hlt h0s.r3 h0s.r4 h0s.r6 h0s.r9)
 clear h hb h0s
 go_enter Tryz.func54,Tryz.ntmps54
 go_upto_region 2 with fail
 obtain ⟨W1,hW1⟩:∃ W1,W1=((w.alloc (.cells #[.int .u8 0,.int .u32 0,.int .u32 0,.slice none 0 0,.slice none 0 0,.int .u32 0,.slice none 0 0,.int .i64 0,.int .i64 0,.slice none 0 0] 54)).alloc (.cells #[.int .u8 0,.int .u32 0,.int .u32 0,.slice none 0 0,.slice none 0 0,.int .u32 0,.slice none 0 0,.int .i64 0,.int .i64 0,.slice none 0 0] 54)).setRow (w.heap.size+1) #[.int .u8 0,.int .u32 0,.int .u32 0,.slice none 0 0,.slice none 0 0,.int .u32 0,.slice none 0 0,.int .i64 0,.int .i64 0,.slice none 0 0]:=⟨_,rfl⟩
 have H1:=iC.mk (show nP w0 w W1 g ⟨0,0,0,[],[],⟨0,[]⟩,0,0,[]⟩ none 0 none 0 none 0 none 0 l false from by rw [hW1];exact H1.out)
 rw [← hW1]
 clear hW1 hst0
 have hcall:=get_any 1 1 rfl (by omega) g l false w0 W1 H1.out.rb H1.out.bl
 go_wp2_with fail
 go_at_call 84
 refine hcall.mono ?_
 rintro e w2 ⟨m1,r1,b1,rfl,hR,hG,hlen,hst⟩
 have H2:=iC.mk (H1.out.step hg hlt hG hR)
 have hm1:(m1:Int)<256:=by have h8:=hlen.2;omega
 have hw1:IntKind.u8.wrap (m1:Int)=(m1:Int):=by rw [show IntKind.u8.wrap (m1:Int)=(m1:Int) % 256 by simp [IntKind.wrap,IntKind.bits,IntKind.signed]];omega
 have HL1:=iC.mk hlen.1
 have HS1:=iC.mk hst
 have hst1:=fun (_:True)=>str_0 (m1:Int) H2.out.xb
 have H3:=iC.mk (H2.out.set (x':=⟨(m1:Int),0,0,[],[],⟨0,[]⟩,0,0,[]⟩) h00 hlt H2.out.r3 H2.out.r4 H2.out.r6 H2.out.r9)
 clear hcall hR hG hlen hst H1
 go_upto_region 3 with fail
 obtain ⟨W3,hW3⟩:∃ W3,W3=w2.setRow (w.heap.size+1) #[.int .u8 (m1:Int),.int .u32 0,.int .u32 0,.slice none 0 0,.slice none 0 0,.int .u32 0,.slice none 0 0,.int .i64 0,.int .i64 0,.slice none 0 0]:=⟨_,rfl⟩
 have H3:=iC.mk (show nP w0 w W3 g ⟨(m1:Int),0,0,[],[],⟨0,[]⟩,0,0,[]⟩ none 0 none 0 none 0 none 0 r1 b1 from by rw [hW3];exact H3.out)
 rw [← hW3]
 clear hW3 hst1 hw1 H2
 have hcall:=get_any 4 4 rfl (by omega) g r1 b1 w0 W3 H3.out.rb H3.out.bl
 go_wp2_with fail
 go_at_call 84
 refine hcall.mono ?_
 rintro e w4 ⟨m2,r2,b2,rfl,hR,hG,hlen,hst⟩
 have H4:=iC.mk (H3.out.step hg hlt hG hR)
 have hm2:(m2:Int)<4294967296:=by have h8:=hlen.2;rw [show (256:Nat) ^ 4=4294967296 from by decide] at h8;omega
 have hw2:IntKind.u32.wrap (m2:Int)=(m2:Int):=by rw [show IntKind.u32.wrap (m2:Int)=(m2:Int) % 4294967296 by simp [IntKind.wrap,IntKind.bits,IntKind.signed]];omega
 have HL2:=iC.mk hlen.1
 have HS2:=iC.mk hst
 have hst2:=fun (_:True)=>str_1 (m2:Int) H4.out.xb
 have H5:=iC.mk (H4.out.set (x':=⟨(m1:Int),(m2:Int),0,[],[],⟨0,[]⟩,0,0,[]⟩) h00 hlt H4.out.r3 H4.out.r4 H4.out.r6 H4.out.r9)
 clear hcall hR hG hlen hst H3
 go_upto_region 4 with fail
 obtain ⟨W5,hW5⟩:∃ W5,W5=w4.setRow (w.heap.size+1) #[.int .u8 (m1:Int),.int .u32 (m2:Int),.int .u32 0,.slice none 0 0,.slice none 0 0,.int .u32 0,.slice none 0 0,.int .i64 0,.int .i64 0,.slice none 0 0]:=⟨_,rfl⟩
 have H5:=iC.mk (show nP w0 w W5 g ⟨(m1:Int),(m2:Int),0,[],[],⟨0,[]⟩,0,0,[]⟩ none 0 none 0 none 0 none 0 r2 b2 from by rw [hW5];exact H5.out)
 rw [← hW5]
 clear hW5 hst2 hw2 H4
 have HST:=iC.mk (show (b2=false→recP l=pW (m1:Int) (m2:Int) r2)∧(b2=true→recP l=none) from by
  refine ⟨fun e=>?_,fun e=>?_⟩
  ·obtain ⟨e1,e2⟩:=HS2.out.1 e
   exact NR (lW (HS1.out.1 e1).2) (lW e2)
  ·rcases HS2.out.2 e with e1 | e1
   ·rcases HS1.out.2 e1 with e2 | e2
    ·cases e2
    ·exact yF (nU e2)
   ·cases b1 with
    | true =>
     rcases HS1.out.2 rfl with e2 | e2
     ·cases e2
     ·exact yF (nU e2)
    | false=>exact JU (lW (HS1.out.1 rfl).2) (nU e1))
 have HR2:=iC.mk (show r2.length≤l.length from Nat.le_trans HL2.out HL1.out)
 clear HS1 HS2 HL1 HL2
 obtain ⟨xz0,xz1,xz2,xz3,xz4,xz5,xz6,xz7,xz8,xz9,xy0,xy1,xy2,xy3,xy4,xy5,xy6,xy7,xy8,xy9⟩:=ten H5.out.xb
 by_cases h1:(m1:Int)=1
 ·obtain rfl:m1=1:=by omega
  clear xy0 xy1 xy2 xy3 xy4 xy5 xy6 xy7 xy8 xy9 hm1 hm2 h1
  go_upto_region 5 with fail
  go_upto_region 6 with fail
  have hcall:=LK g r2 b2 w0 W5 H5.out.rb H5.out.bl hg (by have:=HR2.out;omega)
  go_wp2_with fail
  go_at_call 85
  refine hcall.mono ?_
  rintro e w6 hq
  obtain ⟨hG,ns,v,r3,b3,rfl,hv,hR,hlen,hst⟩:=RP.split hq
  have hv:Kd.R (Kd.int .i64) 3 w6 W5.heap.size (fun _=>True) v ns:=hv
  obtain ⟨A3,a3,rfl⟩:=Kd.R_slice hv
  have H6:=iC.mk (H5.out.step hg hlt hG hR)
  have hst6:=fun (_:True)=>st_3 A3 ns.length a3 H6.out.xb
  have H7:=iC.mk (H6.out.set (x':=⟨1,(m2:Int),0,ns,[],⟨0,[]⟩,0,0,[]⟩) h00 hlt (Kd.R_lower hv H5.out.size) H6.out.r4 H6.out.r6 H6.out.r9)
  have HR3:=iC.mk (show r3.length≤l.length from Nat.le_trans hlen HR2.out)
  have HS3:=iC.mk hst
  clear hcall hq hG hv hR hlen hst xz0 xz1 xz2 xz3 xz4 xz5 xz6 xz7 xz8 xz9
  go_upto_region 7 with fail
  obtain ⟨W7,hW7⟩:∃ W7,W7=w6.setRow (w.heap.size+1) #[.int .u8 1,.int .u32 (m2:Int),.int .u32 0,.slice A3 ns.length a3,.slice none 0 0,.int .u32 0,.slice none 0 0,.int .i64 0,.int .i64 0,.slice none 0 0]:=⟨_,rfl⟩
  have H7:=iC.mk (show nP w0 w W7 g ⟨1,(m2:Int),0,ns,[],⟨0,[]⟩,0,0,[]⟩ A3 a3 none 0 none 0 none 0 r3 b3 from by rw [hW7];exact H7.out)
  rw [← hW7]
  clear hW7 hst6 H6
  have hcall:=JR g r3 b3 w0 W7 H7.out.rb H7.out.bl hg (by have:=HR3.out;omega)
  go_wp2_with fail
  go_at_call 86
  refine hcall.mono ?_
  rintro e w8 hq
  obtain ⟨hG,fs,v,r4,b4,rfl,hv,hR,hlen,hst⟩:=RP.split hq
  have hv:Kd.R k149 149 w8 W7.heap.size (fun _=>True) v fs:=hv
  obtain ⟨A4,a4,rfl⟩:=Kd.R_slice hv
  have H8:=iC.mk (H7.out.step hg hlt hG hR)
  have hst8:=fun (_:True)=>st_4 A4 fs.length a4 H8.out.xb
  have H9:=iC.mk (H8.out.set (x':=⟨1,(m2:Int),0,ns,fs,⟨0,[]⟩,0,0,[]⟩) h00 hlt H8.out.r3 (Kd.R_lower hv H7.out.size) H8.out.r6 H8.out.r9)
  have HS4:=iC.mk hst
  clear hcall hq hG hv hR hlen hst
  go_upto_region 25 with fail
  obtain ⟨W9,hW9⟩:∃ W9,W9=w8.setRow (w.heap.size+1) #[.int .u8 1,.int .u32 (m2:Int),.int .u32 0,.slice A3 ns.length a3,.slice A4 fs.length a4,.int .u32 0,.slice none 0 0,.int .i64 0,.int .i64 0,.slice none 0 0]:=⟨_,rfl⟩
  have H9:=iC.mk (show nP w0 w W9 g ⟨1,(m2:Int),0,ns,fs,⟨0,[]⟩,0,0,[]⟩ A3 a3 A4 a4 none 0 none 0 r4 b4 from by rw [hW9];exact H9.out)
  rw [← hW9]
  clear hW9 hst8 H8
  obtain ⟨wz0,wz1,wz2,wz3,wz4,wz5,wz6,wz7,wz8,wz9,wy0,wy1,wy2,wy3,wy4,wy5,wy6,wy7,wy8,wy9⟩:=ten (H9.out.xb)
  clear wy0 wy1 wy2 wy3 wy4 wy5 wy6 wy7 wy8 wy9
  have hstz:=fun (_:True)=>oJ (a:=1) (k:=(m2:Int)) (i:=0) (x3:=.slice A3 ns.length a3) (x4:=.slice A4 fs.length a4) (j:=0) (x6:=.slice none 0 0) (p:=0) (q:=0) (x9:=.slice none 0 0) H9.out.zb rfl rfl rfl rfl
  go_wp2
  ((try simp only [Exit.inBlock,Exit.then]);refine bodyPost_ret (yB rfl rfl (setRow_heap _ _ _ _ _ _ H9.out.zb) rfl) rfl ?_)
  obtain ⟨hl,hr,hgr⟩:=H9.out.fin hlt #[.int .u8 (⟨1,(m2:Int),0,ns,fs,⟨0,[]⟩,0,0,[]⟩:SRec).f0,.int .u32 (⟨1,(m2:Int),0,ns,fs,⟨0,[]⟩,0,0,[]⟩:SRec).f1,.int .u32 (⟨1,(m2:Int),0,ns,fs,⟨0,[]⟩,0,0,[]⟩:SRec).f2,.slice A3 (⟨1,(m2:Int),0,ns,fs,⟨0,[]⟩,0,0,[]⟩:SRec).f3.length a3,.slice A4 (⟨1,(m2:Int),0,ns,fs,⟨0,[]⟩,0,0,[]⟩:SRec).f4.length a4,.int .u32 (⟨1,(m2:Int),0,ns,fs,⟨0,[]⟩,0,0,[]⟩:SRec).f5.f0,.slice none (⟨1,(m2:Int),0,ns,fs,⟨0,[]⟩,0,0,[]⟩:SRec).f5.f1.length 0,.int .i64 (⟨1,(m2:Int),0,ns,fs,⟨0,[]⟩,0,0,[]⟩:SRec).f6,.int .i64 (⟨1,(m2:Int),0,ns,fs,⟨0,[]⟩,0,0,[]⟩:SRec).f7,.slice none (⟨1,(m2:Int),0,ns,fs,⟨0,[]⟩,0,0,[]⟩:SRec).f8.length 0]
  refine ⟨⟨1,(m2:Int),0,ns,fs,⟨0,[]⟩,0,0,[]⟩,A3,a3,A4,a4,none,0,none,0,r4,b4,rfl,hl,hr,hgr,fun e=>?_,fun e=>?_⟩
  ·obtain ⟨e1,e2⟩:=HS4.out.1 e
   obtain ⟨e3,e4⟩:=HS3.out.1 e1
   rw [HST.out.1 e3]
   unfold pW
   rw [if_pos (by rfl),e4]
   simp only [Option.bind_some]
   rw [e2]
   rfl
  ·cases b2 with
   | true=>exact HST.out.2 rfl
   | false =>
    rw [HST.out.1 rfl]
    unfold pW
    rw [if_pos (by rfl)]
    cases b3 with
    | true =>
     rcases HS3.out.2 rfl with e1 | e1
     ·cases e1
     ·rw [e1];rfl
    | false =>
     rw [(HS3.out.1 rfl).2]
     simp only [Option.bind_some]
     rcases HS4.out.2 e with e1 | e1
     ·cases e1
     ·rw [e1];rfl
 by_cases h2:(m1:Int)=2
 ·obtain rfl:m1=2:=by omega
  clear xy0 xy1 xy2 xy3 xy4 xy5 xy6 xy7 xy8 xy9 hm1 hm2 h1 h2
  go_upto_region 5 with fail
  go_upto_region 8 with fail
  go_upto_region 9 with fail
  have hcall:=get_any 4 4 rfl (by omega) g r2 b2 w0 W5 H5.out.rb H5.out.bl
  go_wp2_with fail
  go_at_call 84
  refine hcall.mono ?_
  rintro e w6 ⟨m3,r3,b3,rfl,hR,hG,hlen,hst⟩
  have H6:=iC.mk (H5.out.step hg hlt hG hR)
  have hm3:(m3:Int)<4294967296:=by have h8:=hlen.2;rw [show (256:Nat) ^ 4=4294967296 from by decide] at h8;omega
  have hw3:IntKind.u32.wrap (m3:Int)=(m3:Int):=by rw [show IntKind.u32.wrap (m3:Int)=(m3:Int) % 4294967296 by simp [IntKind.wrap,IntKind.bits,IntKind.signed]];omega
  have hst6:=fun (_:True)=>st_2 (m3:Int) H6.out.xb
  have H7:=iC.mk (H6.out.set (x':=⟨2,(m2:Int),(m3:Int),[],[],⟨0,[]⟩,0,0,[]⟩) h00 hlt H6.out.r3 H6.out.r4 H6.out.r6 H6.out.r9)
  have HR3:=iC.mk (show r3.length≤l.length from Nat.le_trans hlen.1 HR2.out)
  have HS3:=iC.mk hst
  clear hcall hG hR hlen hst xz0 xz1 xz2 xz3 xz4 xz5 xz6 xz7 xz8 xz9
  go_upto_region 10 with fail
  obtain ⟨W7,hW7⟩:∃ W7,W7=w6.setRow (w.heap.size+1) #[.int .u8 2,.int .u32 (m2:Int),.int .u32 (m3:Int),.slice none 0 0,.slice none 0 0,.int .u32 0,.slice none 0 0,.int .i64 0,.int .i64 0,.slice none 0 0]:=⟨_,rfl⟩
  have H7:=iC.mk (show nP w0 w W7 g ⟨2,(m2:Int),(m3:Int),[],[],⟨0,[]⟩,0,0,[]⟩ none 0 none 0 none 0 none 0 r3 b3 from by rw [hW7];exact H7.out)
  rw [← hW7]
  clear hW7 hst6 H6 hw3 hm3
  have hcall:=LK g r3 b3 w0 W7 H7.out.rb H7.out.bl hg (by have:=HR3.out;omega)
  go_wp2_with fail
  go_at_call 85
  refine hcall.mono ?_
  rintro e w8 hq
  obtain ⟨hG,ns,v,r4,b4,rfl,hv,hR,hlen,hst⟩:=RP.split hq
  have hv:Kd.R (Kd.int .i64) 3 w8 W7.heap.size (fun _=>True) v ns:=hv
  obtain ⟨A3,a3,rfl⟩:=Kd.R_slice hv
  have H8:=iC.mk (H7.out.step hg hlt hG hR)
  have hst8:=fun (_:True)=>st_3 A3 ns.length a3 H8.out.xb
  have H9:=iC.mk (H8.out.set (x':=⟨2,(m2:Int),(m3:Int),ns,[],⟨0,[]⟩,0,0,[]⟩) h00 hlt (Kd.R_lower hv H7.out.size) H8.out.r4 H8.out.r6 H8.out.r9)
  have HS4:=iC.mk hst
  clear hcall hq hG hv hR hlen hst
  go_upto_region 25 with fail
  obtain ⟨W9,hW9⟩:∃ W9,W9=w8.setRow (w.heap.size+1) #[.int .u8 2,.int .u32 (m2:Int),.int .u32 (m3:Int),.slice A3 ns.length a3,.slice none 0 0,.int .u32 0,.slice none 0 0,.int .i64 0,.int .i64 0,.slice none 0 0]:=⟨_,rfl⟩
  have H9:=iC.mk (show nP w0 w W9 g ⟨2,(m2:Int),(m3:Int),ns,[],⟨0,[]⟩,0,0,[]⟩ A3 a3 none 0 none 0 none 0 r4 b4 from by rw [hW9];exact H9.out)
  rw [← hW9]
  clear hW9 hst8 H8
  obtain ⟨wz0,wz1,wz2,wz3,wz4,wz5,wz6,wz7,wz8,wz9,wy0,wy1,wy2,wy3,wy4,wy5,wy6,wy7,wy8,wy9⟩:=ten (H9.out.xb)
  clear wy0 wy1 wy2 wy3 wy4 wy5 wy6 wy7 wy8 wy9
  have hstz:=fun (_:True)=>oJ (a:=2) (k:=(m2:Int)) (i:=(m3:Int)) (x3:=.slice A3 ns.length a3) (x4:=.slice none 0 0) (j:=0) (x6:=.slice none 0 0) (p:=0) (q:=0) (x9:=.slice none 0 0) H9.out.zb rfl rfl rfl rfl
  go_wp2
  ((try simp only [Exit.inBlock,Exit.then]);refine bodyPost_ret (yB rfl rfl (setRow_heap _ _ _ _ _ _ H9.out.zb) rfl) rfl ?_)
  obtain ⟨hl,hr,hgr⟩:=H9.out.fin hlt #[.int .u8 (⟨2,(m2:Int),(m3:Int),ns,[],⟨0,[]⟩,0,0,[]⟩:SRec).f0,.int .u32 (⟨2,(m2:Int),(m3:Int),ns,[],⟨0,[]⟩,0,0,[]⟩:SRec).f1,.int .u32 (⟨2,(m2:Int),(m3:Int),ns,[],⟨0,[]⟩,0,0,[]⟩:SRec).f2,.slice A3 (⟨2,(m2:Int),(m3:Int),ns,[],⟨0,[]⟩,0,0,[]⟩:SRec).f3.length a3,.slice none (⟨2,(m2:Int),(m3:Int),ns,[],⟨0,[]⟩,0,0,[]⟩:SRec).f4.length 0,.int .u32 (⟨2,(m2:Int),(m3:Int),ns,[],⟨0,[]⟩,0,0,[]⟩:SRec).f5.f0,.slice none (⟨2,(m2:Int),(m3:Int),ns,[],⟨0,[]⟩,0,0,[]⟩:SRec).f5.f1.length 0,.int .i64 (⟨2,(m2:Int),(m3:Int),ns,[],⟨0,[]⟩,0,0,[]⟩:SRec).f6,.int .i64 (⟨2,(m2:Int),(m3:Int),ns,[],⟨0,[]⟩,0,0,[]⟩:SRec).f7,.slice none (⟨2,(m2:Int),(m3:Int),ns,[],⟨0,[]⟩,0,0,[]⟩:SRec).f8.length 0]
  refine ⟨⟨2,(m2:Int),(m3:Int),ns,[],⟨0,[]⟩,0,0,[]⟩,A3,a3,none,0,none,0,none,0,r4,b4,rfl,hl,hr,hgr,fun e=>?_,fun e=>?_⟩
  ·obtain ⟨e1,e2⟩:=HS4.out.1 e
   obtain ⟨e3,e4⟩:=HS3.out.1 e1
   rw [HST.out.1 e3]
   unfold pW
   rw [if_neg (by decide),if_pos (by rfl),lW e4]
   simp only [Option.bind_some]
   rw [e2]
   rfl
  ·cases b2 with
   | true=>exact HST.out.2 rfl
   | false =>
    rw [HST.out.1 rfl]
    unfold pW
    rw [if_neg (by decide),if_pos (by rfl)]
    cases b3 with
    | true =>
     rcases HS3.out.2 rfl with e1 | e1
     ·cases e1
     ·rw [nU e1];rfl
    | false =>
     rw [lW (HS3.out.1 rfl).2]
     simp only [Option.bind_some]
     rcases HS4.out.2 e with e1 | e1
     ·cases e1
     ·rw [e1];rfl
 by_cases h6:(m1:Int)=6
 ·obtain rfl:m1=6:=by omega
  clear xy0 xy1 xy2 xy3 xy4 xy5 xy6 xy7 xy8 xy9 hm1 hm2 h1 h2 h6
  go_upto_region 5 with fail
  go_upto_region 8 with fail
  go_upto_region 11 with fail
  go_upto_region 12 with fail
  have hcall:=get_any 4 4 rfl (by omega) g r2 b2 w0 W5 H5.out.rb H5.out.bl
  go_wp2_with fail
  go_at_call 84
  refine hcall.mono ?_
  rintro e w6 ⟨m3,r3,b3,rfl,hR,hG,hlen,hst⟩
  have H6:=iC.mk (H5.out.step hg hlt hG hR)
  have hm3:(m3:Int)<4294967296:=by have h8:=hlen.2;rw [show (256:Nat) ^ 4=4294967296 from by decide] at h8;omega
  have hw3:IntKind.u32.wrap (m3:Int)=(m3:Int):=by rw [show IntKind.u32.wrap (m3:Int)=(m3:Int) % 4294967296 by simp [IntKind.wrap,IntKind.bits,IntKind.signed]];omega
  have hst6:=fun (_:True)=>st_5 (m3:Int) H6.out.xb
  have H7:=iC.mk (H6.out.set (x':=⟨6,(m2:Int),0,[],[],⟨(m3:Int),[]⟩,0,0,[]⟩) h00 hlt H6.out.r3 H6.out.r4 H6.out.r6 H6.out.r9)
  have HR3:=iC.mk (show r3.length≤l.length from Nat.le_trans hlen.1 HR2.out)
  have HS3:=iC.mk hst
  clear hcall hG hR hlen hst xz0 xz1 xz2 xz3 xz4 xz5 xz6 xz7 xz8 xz9
  go_upto_region 13 with fail
  obtain ⟨W7,hW7⟩:∃ W7,W7=w6.setRow (w.heap.size+1) #[.int .u8 6,.int .u32 (m2:Int),.int .u32 0,.slice none 0 0,.slice none 0 0,.int .u32 (m3:Int),.slice none 0 0,.int .i64 0,.int .i64 0,.slice none 0 0]:=⟨_,rfl⟩
  have H7:=iC.mk (show nP w0 w W7 g ⟨6,(m2:Int),0,[],[],⟨(m3:Int),[]⟩,0,0,[]⟩ none 0 none 0 none 0 none 0 r3 b3 from by rw [hW7];exact H7.out)
  rw [← hW7]
  clear hW7 hst6 H6 hw3 hm3
  have hcall:=XR 1 5 1 5 rfl rfl (by omega) (by omega) g r3 b3 w0 W7 H7.out.rb H7.out.bl
  go_wp2_with fail
  go_at_call 87
  refine hcall.mono ?_
  rintro e w8 ⟨n,r4,b4,rfl,hR,hG,hlen,hst⟩
  have H8:=iC.mk (H7.out.step hg hlt hG hR)
  have HR4:=iC.mk (show r4.length≤l.length from Nat.le_trans hlen.1 HR3.out)
  have HL4:=iC.mk hlen.2
  have HS4:=iC.mk hst
  have hnI:(n:Int)≤100000:=by have:=HR4.out;have:=hlen.2;omega
  clear hcall hR hG hlen hst
  go_wp2
  go_loopw [5] (fun iv wi=>∃ (k:Nat) (ss:List kC) (r:List UInt8) (A6:Option Addr) (a6:Nat),k≤n∧iv=.int .i64 k∧iC (r.length≤r4.length∧ss.length=k)∧iC (b4=false→Left uO n k r4 r ss∧(n - k) * 5≤r.length)∧iC (nP w0 w wi g ⟨6,(m2:Int),0,[],[],⟨(m3:Int),ss⟩,0,0,[]⟩ none 0 none 0 A6 a6 none 0 r b4)) (fun i _=>n - (intOf i).toNat)
  case atStart=>exact ⟨0,[],r4,none,0,Nat.zero_le _,rfl,⟨Nat.le_refl _,rfl⟩,⟨fun _=>⟨Left.start _ _ _,by have:=HL4.out;omega⟩⟩,H8⟩
  case round =>
   obtain ⟨k,ss,r,A6,a6,hk,rfl,HLK,HSK,HH⟩:=hrel
   clear H8 H7
   obtain ⟨wr0,rfl⟩:∃ x:World,x=wr:=⟨_,rfl⟩
   by_cases hkn:k<n
   ·have hb4:b4=false:=by
     cases b4 with
     | false=>rfl
     | true=>have:=(HS4.out.2 rfl).1;omega
    subst hb4
    have hl5:5≤r.length:=by have:=(HSK.out rfl).2;omega
    have hn4:=O7 4 r (by omega)
    have hn1:=O7 1 (r.drop 4) (by rw [List.length_drop];omega)
    have hs4:=oC r 4 (by omega)
    have hs1:=oC (r.drop 4) 1 (by omega)
    have hd1:1≤(r.drop 4).length:=by rw [List.length_drop];omega
    have hdl:((r.drop 4).drop 1).length+5=r.length:=by rw [List.length_drop,List.length_drop];omega
    have hsp:=X3 hn4 hn1
    have hcall:=fun W hRB hbl=>IL 4 4 rfl (by omega) g r w0 W hRB hbl (by omega)
    have hcall2:=fun W hRB hbl=>IL 1 1 rfl (by omega) g (r.drop 4) w0 W hRB hbl hd1
    have HSN:=iC.mk (fun (h:(false:Bool)=false)=>(⟨Left.next (HSK.out h).1 hkn hsp,by have:=(HSK.out h).2;omega⟩:Left uO n (k+1) r4 ((r.drop 4).drop 1) (ss ++ [⟨((numB (r.take 4):Nat):Int),((numB ((r.drop 4).take 1):Nat):Int)⟩])∧(n - (k+1)) * 5≤((r.drop 4).drop 1).length))
    have HRN:=iC.mk (show ((r.drop 4).drop 1).length≤r4.length from by have:=HLK.out.1;omega)
    clear hn4 hn1 hsp hdl hd1
    obtain ⟨x4,hx4⟩:∃ x,x=numB (r.take 4):=⟨_,rfl⟩
    obtain ⟨x5,hx5⟩:∃ x,x=numB ((r.drop 4).take 1):=⟨_,rfl⟩
    obtain ⟨rb,hrb⟩:∃ x,x=(r.drop 4).drop 1:=⟨_,rfl⟩
    rw [← hx4] at hs4 hcall HSN
    rw [← hx5] at hs1 hcall2 HSN
    rw [← hrb] at hcall2 HSN HRN
    obtain ⟨ra,hra⟩:∃ x,x=r.drop 4:=⟨_,rfl⟩
    rw [← hra] at hcall hcall2
    clear hx4 hx5 hra hrb hl5
    have hw4:=vY x4 (by omega)
    have hw5:=vY x5 (by omega)
    obtain ⟨W1,hW1⟩:∃ W1,W1=wr0.alloc (.cells #[.int .i64 0,.int .i64 0] 122):=⟨_,rfl⟩
    have hba:Below wr0.heap.size wr0 W1:=by rw [hW1];exact iD (Below.refl _ _) _
    have B1:=iC.mk (show W1.heap[wr0.heap.size]? = some (.cells #[.int .i64 0,.int .i64 0] 122 (0,0)) from by rw [hW1];exact iP rfl)
    have G1:=iC.mk (HH.out.step hg hlt (grown_below hba) (RB.grown HH.out.rb (grown_below (row:=none) hba) (by simp)))
    have HNE:=iC.mk HH.out.apart
    have HSZ:=iC.mk HH.out.size
    have HW1:=iC.mk hW1
    have hcall:=hcall W1 G1.out.rb G1.out.bl
    clear hba hW1 HH
    go_wp2_with fail
    rw [← HW1.out]
    clear HW1
    go_at_call 84
    refine hcall.mono ?_
    rintro e w2 ⟨rfl,hR,hG⟩
    have B2:=iC.mk ((hG.block wr0.heap.size (jH B1.out) (by intro e;injection e with e;have:=HSZ.out;omega)).trans B1.out)
    have G2:=iC.mk (G1.out.step hg hlt hG hR)
    have hsp:=fun (_:True)=>jm8 0 (by omega) (x4:Int) B2.out
    have B3:=iC.mk (show (w2.setCell ⟨wr0.heap.size,0,none⟩ (.int .i64 (x4:Int))).heap[wr0.heap.size]? = some (.cells #[.int .i64 (x4:Int),.int .i64 0] 122 (0,0)) from jU B2.out 0 _ rfl)
    have G3:=iC.mk (G2.out.box h00 hlt (jY w2 wr0.heap.size 0 (.int .i64 (x4:Int))) HSZ.out HNE.out)
    clear hcall hR hG G1 B1
    go_upto_region 19 with fail
    obtain ⟨w3,hw3⟩:∃ w3,w3=w2.setCell ⟨wr0.heap.size,0,none⟩ (.int .i64 (x4:Int)):=⟨_,rfl⟩
    rw [← hw3] at B3 G3 ⊢
    clear hw3 hsp B2 G2 hw4
    have hcall:=hcall2 w3 G3.out.rb G3.out.bl
    clear hcall2
    go_wp2_with fail
    go_at_call 84
    refine hcall.mono ?_
    rintro e w4 ⟨rfl,hR,hG⟩
    have B4:=iC.mk ((hG.block wr0.heap.size (jH B3.out) (by intro e;injection e with e;have:=HSZ.out;omega)).trans B3.out)
    have G4:=iC.mk (G3.out.step hg hlt hG hR)
    have hsp:=fun (_:True)=>jm8 1 (by omega) (x5:Int) B4.out
    have B5:=iC.mk (show (w4.setCell ⟨wr0.heap.size,1,none⟩ (.int .i64 (x5:Int))).heap[wr0.heap.size]? = some (.cells #[.int .i64 (x4:Int),.int .i64 (x5:Int)] 122 (0,0)) from jU B4.out 1 _ rfl)
    have G5:=iC.mk (G4.out.box h00 hlt (jY w4 wr0.heap.size 1 (.int .i64 (x5:Int))) HSZ.out HNE.out)
    clear hcall hR hG G3 B3
    go_upto_region 20 with fail
    obtain ⟨w5,hw5'⟩:∃ w5,w5=w4.setCell ⟨wr0.heap.size,1,none⟩ (.int .i64 (x5:Int)):=⟨_,rfl⟩
    rw [← hw5'] at B5 G5 ⊢
    clear hw5' hsp B4 G4 hw5
    have z6:w5.cell? ⟨w.heap.size+1,6,none⟩=some (.slice A6 ss.length a6):=(iG G5.out.xb 6).trans rfl
    have z0:w5.cell? ⟨wr0.heap.size,0,none⟩=some (.int .i64 (x4:Int)):=(iG B5.out 0).trans rfl
    have z1:w5.cell? ⟨wr0.heap.size,1,none⟩=some (.int .i64 (x5:Int)):=(iG B5.out 1).trans rfl
    have hst0:True→True:=fun h=>h
    go_wp2_with (at_builtin;go_loud (refine Kd.R_append k122 (w0:=w5) (w.heap.size+2) rfl (.tmp 60) (.tmp 62) 49 122 (.agg #[.int .i64 0,.int .i64 0]) 16 rfl Tryz.underlying49 jg4 rfl (by decide) (by omega) (.slice A6 ss.length a6) ss ⟨(x4:Int),(x5:Int)⟩ [.int .i64 (x4:Int),.int .i64 (x5:Int)] (fun _=>True) (fun _=>False) rfl rfl ?aP ?aK ?aF ?aO (Below.refl _ _) ?aB ?aL ?_;(case aP=>exact U1 _ _ _ (⟨(x4:Int),(x5:Int)⟩:kC));(case aK=>exact fun k h=>h.elim);(case aF=>exact fun _ _=>trivial);(case aO=>exact G5.out.r6);(case aB=>exact G5.out.size);(case aL=>(have:=HLK.out;omega));intro v5 w6 ho hb5 hg5 hat;obtain ⟨A7,a7,rfl⟩:=Kd.R_slice ho;obtain ⟨ss',hss⟩:∃ x,x=ss ++ [(⟨(x4:Int),(x5:Int)⟩:kC)]:=⟨_,rfl⟩;rw [← hss] at ho;rw [← hss];have HSS:=iC.mk hss;obtain ⟨hxb,h7⟩:=G5.out.app6 h00 hlt hg5 ho;have G7:=iC.mk h7;have hst7:=fun (_:True)=>st_6 A7 ss'.length a7 hxb;clear hss ho hb5 hg5 hat hxb h7))
    go_roundw
    case rel=>exact ⟨k+1,ss',rb,A7,a7,by omega,by go_num,⟨HRN.out,by rw [HSS.out,List.length_append,HLK.out.2];rfl⟩,⟨by rw [HSS.out];exact HSN.out⟩,G7⟩
    case measure=>simp [intOf];omega
   ·obtain rfl:k=n:=by omega
    obtain ⟨wz0,wz1,wz2,wz3,wz4,wz5,wz6,wz7,wz8,wz9,wy0,wy1,wy2,wy3,wy4,wy5,wy6,wy7,wy8,wy9⟩:=ten (HH.out.xb)
    clear wy0 wy1 wy2 wy3 wy4 wy5 wy6 wy7 wy8 wy9
    have hstz:=fun (_:True)=>oJ (a:=6) (k:=(m2:Int)) (i:=0) (x3:=.slice none 0 0) (x4:=.slice none 0 0) (j:=(m3:Int)) (x6:=.slice A6 ss.length a6) (p:=0) (q:=0) (x9:=.slice none 0 0) HH.out.zb rfl rfl rfl rfl
    go_wp2
    ((try simp only [Exit.inBlock,Exit.then]);refine bodyPost_ret (yB rfl rfl (setRow_heap _ _ _ _ _ _ HH.out.zb) rfl) rfl ?_)
    obtain ⟨hl,hr,hgr⟩:=HH.out.fin hlt #[.int .u8 (⟨6,(m2:Int),0,[],[],⟨(m3:Int),ss⟩,0,0,[]⟩:SRec).f0,.int .u32 (⟨6,(m2:Int),0,[],[],⟨(m3:Int),ss⟩,0,0,[]⟩:SRec).f1,.int .u32 (⟨6,(m2:Int),0,[],[],⟨(m3:Int),ss⟩,0,0,[]⟩:SRec).f2,.slice none (⟨6,(m2:Int),0,[],[],⟨(m3:Int),ss⟩,0,0,[]⟩:SRec).f3.length 0,.slice none (⟨6,(m2:Int),0,[],[],⟨(m3:Int),ss⟩,0,0,[]⟩:SRec).f4.length 0,.int .u32 (⟨6,(m2:Int),0,[],[],⟨(m3:Int),ss⟩,0,0,[]⟩:SRec).f5.f0,.slice A6 (⟨6,(m2:Int),0,[],[],⟨(m3:Int),ss⟩,0,0,[]⟩:SRec).f5.f1.length a6,.int .i64 (⟨6,(m2:Int),0,[],[],⟨(m3:Int),ss⟩,0,0,[]⟩:SRec).f6,.int .i64 (⟨6,(m2:Int),0,[],[],⟨(m3:Int),ss⟩,0,0,[]⟩:SRec).f7,.slice none (⟨6,(m2:Int),0,[],[],⟨(m3:Int),ss⟩,0,0,[]⟩:SRec).f8.length 0]
    refine ⟨⟨6,(m2:Int),0,[],[],⟨(m3:Int),ss⟩,0,0,[]⟩,none,0,none,0,A6,a6,none,0,r,b4,rfl,hl,hr,hgr,fun e=>?_,fun e=>?_⟩
    ·obtain ⟨e1,e2⟩:=HS4.out.1 e
     obtain ⟨e3,e4⟩:=HS3.out.1 e1
     rw [HST.out.1 e3]
     unfold pW
     rw [if_neg (by decide),if_neg (by decide),if_pos (by rfl),lW e4]
     simp only [Option.bind_some]
     unfold qI
     rw [e2]
     simp only [Option.bind_some]
     rw [Left.done (HSK.out e).1]
     rfl
    ·cases b2 with
     | true=>exact HST.out.2 rfl
     | false =>
      rw [HST.out.1 rfl]
      unfold pW
      rw [if_neg (by decide),if_neg (by decide),if_pos (by rfl)]
      cases b3 with
      | true =>
       rcases HS3.out.2 rfl with e1 | e1
       ·cases e1
       ·rw [nU e1];rfl
      | false =>
       rw [lW (HS3.out.1 rfl).2]
       simp only [Option.bind_some]
       unfold qI
       rcases (HS4.out.2 e).2 with e1 | e1
       ·cases e1
       ·rw [e1];rfl
 by_cases h7:(m1:Int)=7
 ·obtain rfl:m1=7:=by omega
  clear xy0 xy1 xy2 xy3 xy4 xy5 xy6 xy7 xy8 xy9 hm1 hm2 h1 h2 h6 h7
  go_upto_region 5 with fail
  go_upto_region 8 with fail
  go_upto_region 11 with fail
  go_upto_region 21 with fail
  go_upto_region 22 with fail
  have hcall:=get_any 4 4 rfl (by omega) g r2 b2 w0 W5 H5.out.rb H5.out.bl
  go_wp2_with fail
  go_at_call 84
  refine hcall.mono ?_
  rintro e w6 ⟨m3,r3,b3,rfl,hR,hG,hlen,hst⟩
  have H6:=iC.mk (H5.out.step hg hlt hG hR)
  have hm3:m3<4294967296:=by have h8:=hlen.2;rw [show (256:Nat) ^ 4=4294967296 from by decide] at h8;exact h8
  have hw3:wrap64 (m3:Int)=(m3:Int):=vY m3 (by omega)
  have hst6:=fun (_:True)=>st_7 (m3:Int) H6.out.xb
  have H7:=iC.mk (H6.out.set (x':=⟨7,(m2:Int),0,[],[],⟨0,[]⟩,(m3:Int),0,[]⟩) h00 hlt H6.out.r3 H6.out.r4 H6.out.r6 H6.out.r9)
  have HR3:=iC.mk (show r3.length≤l.length from Nat.le_trans hlen.1 HR2.out)
  have HS3:=iC.mk hst
  clear hcall hG hR hlen hst xz0 xz1 xz2 xz3 xz4 xz5 xz6 xz7 xz8 xz9
  go_upto_region 23 with fail
  obtain ⟨W7,hW7⟩:∃ W7,W7=w6.setRow (w.heap.size+1) #[.int .u8 7,.int .u32 (m2:Int),.int .u32 0,.slice none 0 0,.slice none 0 0,.int .u32 0,.slice none 0 0,.int .i64 (m3:Int),.int .i64 0,.slice none 0 0]:=⟨_,rfl⟩
  have H7:=iC.mk (show nP w0 w W7 g ⟨7,(m2:Int),0,[],[],⟨0,[]⟩,(m3:Int),0,[]⟩ none 0 none 0 none 0 none 0 r3 b3 from by rw [hW7];exact H7.out)
  rw [← hW7]
  clear hW7 hst6 H6 hw3 hm3
  have hcall:=get_any 4 4 rfl (by omega) g r3 b3 w0 W7 H7.out.rb H7.out.bl
  go_wp2_with fail
  go_at_call 84
  refine hcall.mono ?_
  rintro e w8 ⟨m4,r4,b4,rfl,hR,hG,hlen,hst⟩
  have H8:=iC.mk (H7.out.step hg hlt hG hR)
  have hm4:m4<4294967296:=by have h8:=hlen.2;rw [show (256:Nat) ^ 4=4294967296 from by decide] at h8;exact h8
  have hw4:wrap64 (m4:Int)=(m4:Int):=vY m4 (by omega)
  have hst8:=fun (_:True)=>st_8 (m4:Int) H8.out.xb
  have H9:=iC.mk (H8.out.set (x':=⟨7,(m2:Int),0,[],[],⟨0,[]⟩,(m3:Int),(m4:Int),[]⟩) h00 hlt H8.out.r3 H8.out.r4 H8.out.r6 H8.out.r9)
  have HR4:=iC.mk (show r4.length≤l.length from Nat.le_trans hlen.1 HR3.out)
  have HS4:=iC.mk hst
  clear hcall hG hR hlen hst
  go_upto_region 24 with fail
  obtain ⟨W9,hW9⟩:∃ W9,W9=w8.setRow (w.heap.size+1) #[.int .u8 7,.int .u32 (m2:Int),.int .u32 0,.slice none 0 0,.slice none 0 0,.int .u32 0,.slice none 0 0,.int .i64 (m3:Int),.int .i64 (m4:Int),.slice none 0 0]:=⟨_,rfl⟩
  have H9:=iC.mk (show nP w0 w W9 g ⟨7,(m2:Int),0,[],[],⟨0,[]⟩,(m3:Int),(m4:Int),[]⟩ none 0 none 0 none 0 none 0 r4 b4 from by rw [hW9];exact H9.out)
  rw [← hW9]
  clear hW9 hst8 H8 hw4 hm4
  have hcall:=NL g r4 b4 w0 W9 H9.out.rb H9.out.bl hg (by have:=HR4.out;omega)
  go_wp2_with fail
  go_at_call 88
  refine hcall.mono ?_
  rintro e wa hq
  obtain ⟨hG,es,v,r5,b5,rfl,hv,hR,hlen,hst⟩:=RP.split hq
  have hv:Kd.R k114 114 wa W9.heap.size (fun _=>True) v es:=hv
  obtain ⟨A9,a9,rfl⟩:=Kd.R_slice hv
  have Ha:=iC.mk (H9.out.step hg hlt hG hR)
  have hsta:=fun (_:True)=>st_9 A9 es.length a9 Ha.out.xb
  have Hb:=iC.mk (Ha.out.set (x':=⟨7,(m2:Int),0,[],[],⟨0,[]⟩,(m3:Int),(m4:Int),es⟩) h00 hlt Ha.out.r3 Ha.out.r4 Ha.out.r6 (Kd.R_lower hv H9.out.size))
  have HS5:=iC.mk hst
  clear hcall hq hG hv hR hlen hst
  go_upto_region 25 with fail
  obtain ⟨Wb,hWb⟩:∃ Wb,Wb=wa.setRow (w.heap.size+1) #[.int .u8 7,.int .u32 (m2:Int),.int .u32 0,.slice none 0 0,.slice none 0 0,.int .u32 0,.slice none 0 0,.int .i64 (m3:Int),.int .i64 (m4:Int),.slice A9 es.length a9]:=⟨_,rfl⟩
  have Hb:=iC.mk (show nP w0 w Wb g ⟨7,(m2:Int),0,[],[],⟨0,[]⟩,(m3:Int),(m4:Int),es⟩ none 0 none 0 none 0 A9 a9 r5 b5 from by rw [hWb];exact Hb.out)
  rw [← hWb]
  clear hWb hsta Ha
  obtain ⟨wz0,wz1,wz2,wz3,wz4,wz5,wz6,wz7,wz8,wz9,wy0,wy1,wy2,wy3,wy4,wy5,wy6,wy7,wy8,wy9⟩:=ten (Hb.out.xb)
  clear wy0 wy1 wy2 wy3 wy4 wy5 wy6 wy7 wy8 wy9
  have hstz:=fun (_:True)=>oJ (a:=7) (k:=(m2:Int)) (i:=0) (x3:=.slice none 0 0) (x4:=.slice none 0 0) (j:=0) (x6:=.slice none 0 0) (p:=(m3:Int)) (q:=(m4:Int)) (x9:=.slice A9 es.length a9) Hb.out.zb rfl rfl rfl rfl
  go_wp2
  ((try simp only [Exit.inBlock,Exit.then]);refine bodyPost_ret (yB rfl rfl (setRow_heap _ _ _ _ _ _ Hb.out.zb) rfl) rfl ?_)
  obtain ⟨hl,hr,hgr⟩:=Hb.out.fin hlt #[.int .u8 (⟨7,(m2:Int),0,[],[],⟨0,[]⟩,(m3:Int),(m4:Int),es⟩:SRec).f0,.int .u32 (⟨7,(m2:Int),0,[],[],⟨0,[]⟩,(m3:Int),(m4:Int),es⟩:SRec).f1,.int .u32 (⟨7,(m2:Int),0,[],[],⟨0,[]⟩,(m3:Int),(m4:Int),es⟩:SRec).f2,.slice none (⟨7,(m2:Int),0,[],[],⟨0,[]⟩,(m3:Int),(m4:Int),es⟩:SRec).f3.length 0,.slice none (⟨7,(m2:Int),0,[],[],⟨0,[]⟩,(m3:Int),(m4:Int),es⟩:SRec).f4.length 0,.int .u32 (⟨7,(m2:Int),0,[],[],⟨0,[]⟩,(m3:Int),(m4:Int),es⟩:SRec).f5.f0,.slice none (⟨7,(m2:Int),0,[],[],⟨0,[]⟩,(m3:Int),(m4:Int),es⟩:SRec).f5.f1.length 0,.int .i64 (⟨7,(m2:Int),0,[],[],⟨0,[]⟩,(m3:Int),(m4:Int),es⟩:SRec).f6,.int .i64 (⟨7,(m2:Int),0,[],[],⟨0,[]⟩,(m3:Int),(m4:Int),es⟩:SRec).f7,.slice A9 (⟨7,(m2:Int),0,[],[],⟨0,[]⟩,(m3:Int),(m4:Int),es⟩:SRec).f8.length a9]
  refine ⟨⟨7,(m2:Int),0,[],[],⟨0,[]⟩,(m3:Int),(m4:Int),es⟩,none,0,none,0,none,0,A9,a9,r5,b5,rfl,hl,hr,hgr,fun e=>?_,fun e=>?_⟩
  ·obtain ⟨e1,e2⟩:=HS5.out.1 e
   obtain ⟨e3,e4⟩:=HS4.out.1 e1
   obtain ⟨e5,e6⟩:=HS3.out.1 e3
   rw [HST.out.1 e5]
   unfold pW
   rw [if_neg (by decide),if_neg (by decide),if_neg (by decide),if_pos (by rfl),lW e6]
   simp only [Option.bind_some]
   rw [lW e4]
   simp only [Option.bind_some]
   rw [e2]
   rfl
  ·cases b2 with
   | true=>exact HST.out.2 rfl
   | false =>
    rw [HST.out.1 rfl]
    unfold pW
    rw [if_neg (by decide),if_neg (by decide),if_neg (by decide),if_pos (by rfl)]
    cases b3 with
    | true =>
     rcases HS3.out.2 rfl with e1 | e1
     ·cases e1
     ·rw [nU e1];rfl
    | false =>
     rw [lW (HS3.out.1 rfl).2]
     simp only [Option.bind_some]
     cases b4 with
     | true =>
      rcases HS4.out.2 rfl with e1 | e1
      ·cases e1
      ·rw [nU e1];rfl
     | false =>
      rw [lW (HS4.out.1 rfl).2]
      simp only [Option.bind_some]
      rcases HS5.out.2 e with e1 | e1
      ·cases e1
      ·rw [e1];rfl
 have hrb:RB w0 (W5.setRow w.heap.size #[.int .u8 (⟨(m1:Int),(m2:Int),0,[],[],⟨0,[]⟩,0,0,[]⟩:SRec).f0,.int .u32 (⟨(m1:Int),(m2:Int),0,[],[],⟨0,[]⟩,0,0,[]⟩:SRec).f1,.int .u32 (⟨(m1:Int),(m2:Int),0,[],[],⟨0,[]⟩,0,0,[]⟩:SRec).f2,.slice none (⟨(m1:Int),(m2:Int),0,[],[],⟨0,[]⟩,0,0,[]⟩:SRec).f3.length 0,.slice none (⟨(m1:Int),(m2:Int),0,[],[],⟨0,[]⟩,0,0,[]⟩:SRec).f4.length 0,.int .u32 (⟨(m1:Int),(m2:Int),0,[],[],⟨0,[]⟩,0,0,[]⟩:SRec).f5.f0,.slice none (⟨(m1:Int),(m2:Int),0,[],[],⟨0,[]⟩,0,0,[]⟩:SRec).f5.f1.length 0,.int .i64 (⟨(m1:Int),(m2:Int),0,[],[],⟨0,[]⟩,0,0,[]⟩:SRec).f6,.int .i64 (⟨(m1:Int),(m2:Int),0,[],[],⟨0,[]⟩,0,0,[]⟩:SRec).f7,.slice none (⟨(m1:Int),(m2:Int),0,[],[],⟨0,[]⟩,0,0,[]⟩:SRec).f8.length 0]) g r2 b2:=RB.grown H5.out.rb (jP _ _ _) (by intro e;injection e with e;omega)
 have HRB:=iC.mk hrb
 have hstz:=fun (_:True)=>oJ (a:=(m1:Int)) (k:=(m2:Int)) (i:=0) (x3:=.slice none 0 0) (x4:=.slice none 0 0) (j:=0) (x6:=.slice none 0 0) (p:=0) (q:=0) (x9:=.slice none 0 0) H5.out.zb rfl rfl rfl rfl
 clear hrb
 obtain ⟨k1,hk1⟩:∃ k1:Int,k1=(m1:Int):=⟨_,rfl⟩
 rw [← hk1] at h1 h2 h6 h7 hm1 xz0 hstz ⊢
 have HK1:=iC.mk hk1
 clear hk1 hm2 hm1
 go_upto_region 5 with fail
 go_upto_region 8 with fail
 go_upto_region 11 with fail
 go_upto_region 21 with fail
 clear xy0 xy1 xy2 xy3 xy4 xy5 xy6 xy7 xy8 xy9
 go_wp2
 have hG:=jP W5 w.heap.size #[.int .u8 (⟨k1,(m2:Int),0,[],[],⟨0,[]⟩,0,0,[]⟩:SRec).f0,.int .u32 (⟨k1,(m2:Int),0,[],[],⟨0,[]⟩,0,0,[]⟩:SRec).f1,.int .u32 (⟨k1,(m2:Int),0,[],[],⟨0,[]⟩,0,0,[]⟩:SRec).f2,.slice none (⟨k1,(m2:Int),0,[],[],⟨0,[]⟩,0,0,[]⟩:SRec).f3.length 0,.slice none (⟨k1,(m2:Int),0,[],[],⟨0,[]⟩,0,0,[]⟩:SRec).f4.length 0,.int .u32 (⟨k1,(m2:Int),0,[],[],⟨0,[]⟩,0,0,[]⟩:SRec).f5.f0,.slice none (⟨k1,(m2:Int),0,[],[],⟨0,[]⟩,0,0,[]⟩:SRec).f5.f1.length 0,.int .i64 (⟨k1,(m2:Int),0,[],[],⟨0,[]⟩,0,0,[]⟩:SRec).f6,.int .i64 (⟨k1,(m2:Int),0,[],[],⟨0,[]⟩,0,0,[]⟩:SRec).f7,.slice none (⟨k1,(m2:Int),0,[],[],⟨0,[]⟩,0,0,[]⟩:SRec).f8.length 0]
 ((try simp only [Exit.inBlock,Exit.then]);refine bodyPost_ret (yB rfl rfl (setRow_heap _ _ _ _ _ _ H5.out.zb) rfl) rfl ?_)
 refine ⟨⟨k1,(m2:Int),0,[],[],⟨0,[]⟩,0,0,[]⟩,none,0,none,0,none,0,none,0,r2,b2,rfl,⟨Kd.R_nil _ _ _ _ _,Kd.R_nil _ _ _ _ _,Kd.R_nil _ _ _ _ _,Kd.R_nil _ _ _ _ _⟩,RB.grown H5.out.rb hG (by intro e;injection e with e;omega),kF H5.out.gr hG (Nat.le_refl _),fun e=>?_,HST.out.2⟩
 rw [HST.out.1 e,← HK1.out]
 unfold pW
 rw [if_neg h1,if_neg h2,if_neg h6,if_neg h7]
end
section
def TR (w:World) (d:SRec × Int) (e:Ending) (w':World):Prop:=∃ (A3:Option Addr) (a3:Nat) (A4:Option Addr) (a4:Nat) (A6:Option Addr) (a6:Nat) (A9:Option Addr) (a9:Nat),e=.returned (.tuple #[.agg #[.int .u8 d.1.f0,.int .u32 d.1.f1,.int .u32 d.1.f2,.slice A3 d.1.f3.length a3,.slice A4 d.1.f4.length a4,.int .u32 d.1.f5.f0,.slice A6 d.1.f5.f1.length a6,.int .i64 d.1.f6,.int .i64 d.1.f7,.slice A9 d.1.f8.length a9],.int .i64 d.2])∧Owns w.heap.size w' d.1 A3 a3 A4 a4 A6 a6 A9 a9∧Below w.heap.size w w'
theorem XZ (base:Nat) (w:World):Owns base w mJ none 0 none 0 none 0 none 0:=⟨Kd.R_nil _ _ _ _ _,Kd.R_nil _ _ _ _ _,Kd.R_nil _ _ _ _ _,Kd.R_nil _ _ _ _ _⟩
theorem rY (w W:World) (h:Below w.heap.size w W) (c:Int):TR w (mJ,c) (.returned (.tuple #[.agg #[.int .u8 0,.int .u32 0,.int .u32 0,.slice none 0 0,.slice none 0 0,.int .u32 0,.slice none 0 0,.int .i64 0,.int .i64 0,.slice none 0 0],.int .i64 c])) (W.setRow w.heap.size #[.int .u8 0,.int .u32 0,.int .u32 0,.slice none 0 0,.slice none 0 0,.int .u32 0,.slice none 0 0,.int .i64 0,.int .i64 0,.slice none 0 0]) :=
 ⟨none,0,none,0,none,0,none,0,rfl,XZ _ _,below_grown h (jP W w.heap.size _) (Nat.le_refl _) (Nat.le_refl _)⟩
theorem uV {tmps:Array Value} {W:World} {p u:Tmp} {b:Nat} {cs:Array Value} {x:Value} (h:Tryz.f34.results = #[.cell p 54,.tmp u]) (hp:tmps.getD p undef=.pointer (some ⟨b,0,none⟩)) (hu:tmps.getD u undef=x) (hx:W.heap[b]? = some (.cells cs 54 (0,0))) (hs:cs.size=10) :
  (results Tryz.f34 tmps).run Tryz.prog W=.ok (.tuple #[.agg cs,x]) W:=by
 have h1:=run_loadVar_row (P:=Tryz.prog) W b 54 54 cs (0,0) _ hx Tryz.underlying54 rfl (by rw [hs];kernel_rfl)
 rw [results_cell_tmp h,hp,hu]
 simp [asAddr,h1,Result.andThen]
theorem IG {w:World} {r:SRec} {A3 A4 A6 A9:Option Addr} {a3 a4 a6 a9:Nat} (h:Lies w r A3 a3 A4 a4 A6 a6 A9 a9) {E1:List Int} {E2:Int} (hE:encR r=(E1,E2)):Calls Tryz.prog 44 #[.agg #[.int .u8 r.f0,.int .u32 r.f1,.int .u32 r.f2,.slice A3 r.f3.length a3,.slice A4 r.f4.length a4,.int .u32 r.f5.f0,.slice A6 r.f5.f1.length a6,.int .i64 r.f6,.int .i64 r.f7,.slice A9 r.f8.length a9]] w (qK w (E1,E2)):=by
 rw [← hE]
 exact MK r.f0 r.f1 r.f2 A3 a3 r.f3 A4 a4 r.f4 r.f5.f0 A6 a6 r.f5.f1 r.f6 r.f7 A9 a9 r.f8 w h.h3 h.d3 h.h4 h.d4 h.h6 h.d6 h.h9 h.d9
theorem LW (A:Option Addr) (n c:Nat):(Tryz.prog).built 106 (#[(0,.slice A n c)]:Array (Nat × Value)).toList=some #[.slice A n c,.bool false]:=by kernel_rfl
theorem VM (w:World) (A:Option Addr) (n c:Nat):(Instr.build 106 #[(0,.slice A n c)]).run Tryz.prog w=.ok (.agg #[.slice A n c,.bool false]) w:=run_build w _ _ _ (LW A n c)
theorem YR {l:List UInt8} (hl:¬ 60000<l.length) (h:recP l=none):decR l=(mJ,70):=by unfold decR;rw [if_neg hl,h]
theorem ja8 {l r:List UInt8} {x:SRec} (hl:¬ 60000<l.length) (h:recP l=some (x,r)):decR l=if encR x=(nums l,0) then (x,0) else (mJ,70):=by unfold decR;rw [if_neg hl,h]
attribute [-go_sem] Instr.build Instr.storeAt
attribute [local go_sem] TJ VM
set_option maxRecDepth 20000 in
set_option maxHeartbeats 16000000 in
theorem QX (A:Option Addr) (c:Nat) (l:List UInt8) (w:World) (hCi:(Kd.int .u8).C w A l.length (nums l)) (hc:l.length≤c) :
  Calls Tryz.prog 34 #[.slice A l.length c] w (TR w (decR l)):=by
 by_cases hl:60000<l.length
 ·have hD:decR l=(mJ,3):=by unfold decR;rw [if_pos hl]
  rw [hD]
  have hst:=fun (_:True)=>oJ (a:=0) (k:=0) (i:=0) (x3:=.slice none 0 0) (x4:=.slice none 0 0) (j:=0) (x6:=.slice none 0 0) (p:=0) (q:=0) (x9:=.slice none 0 0) (show (w.alloc (.cells #[.int .u8 0,.int .u32 0,.int .u32 0,.slice none 0 0,.slice none 0 0,.int .u32 0,.slice none 0 0,.int .i64 0,.int .i64 0,.slice none 0 0] 54)).heap[w.heap.size]? = _ from iP rfl) rfl rfl rfl rfl
  clear hD hCi
  go_enter Tryz.func34,Tryz.ntmps34
  go_wp2
  ((try simp only [Exit.inBlock,Exit.then]);exact bodyPost_ret (uV rfl rfl rfl (setRow_heap _ _ _ _ _ _ (iP rfl)) rfl) rfl (rY w _ (iD (Below.refl _ _) _) 3))
 ·obtain ⟨W2,hW2⟩:∃ W2,W2=(w.alloc (.cells #[.int .u8 0,.int .u32 0,.int .u32 0,.slice none 0 0,.slice none 0 0,.int .u32 0,.slice none 0 0,.int .i64 0,.int .i64 0,.slice none 0 0] 54)).alloc (.cells #[.slice A l.length c,.bool false] 106):=⟨_,rfl⟩
  have hb2:Below w.heap.size w W2:=by rw [hW2];exact iD (iD (Below.refl _ _) _) _
  have HX2:=iC.mk (show W2.heap[w.heap.size]? = some (.cells #[.int .u8 0,.int .u32 0,.int .u32 0,.slice none 0 0,.slice none 0 0,.int .u32 0,.slice none 0 0,.int .i64 0,.int .i64 0,.slice none 0 0] 54 (0,0)) from by rw [hW2];exact jI (iP rfl))
  have hrb:RB w W2 (w.heap.size+1) l false:=⟨A,c,by rw [hW2];exact iP (by simp),hc,vF hCi⟩
  have hcall:=jc1 (w.heap.size+1) l w W2 hrb hb2 (Nat.le_succ _) (by omega)
  have HB2:=iC.mk hb2
  have HW2:=iC.mk hW2
  have HLT:=iC.mk (show w.heap.size<W2.heap.size from jH HX2.out)
  have HCI:=iC.mk hCi
  have hm:=lD hCi
  clear hrb hb2 hW2 hCi
  have HNL:=iC.mk hl
  go_enter Tryz.func34,Tryz.ntmps34
  go_wp2_with fail
  rw [← HW2.out]
  go_at_call 54
  refine hcall.mono ?_
  rintro e w3 ⟨x,A3,a3,A4,a4,A6,a6,A9,a9,r,b,rfl,hL,hRB,hG,h1,h2⟩
  have hX3:w3.heap[w.heap.size]? = some (.cells #[.int .u8 0,.int .u32 0,.int .u32 0,.slice none 0 0,.slice none 0 0,.int .u32 0,.slice none 0 0,.int .i64 0,.int .i64 0,.slice none 0 0] 54 (0,0)):=(hG.block _ (jH HX2.out) (by intro e;injection e with e;omega)).trans HX2.out
  have hB3:Below w.heap.size w w3:=below_grown HB2.out hG (Nat.le_succ _) (Nat.le_refl _)
  obtain ⟨Ar,cr,hblk,_,_⟩:=hRB
  have hsx:=fun (_:True)=>run_storeAt_new (P:=Tryz.prog) w3 54 #[.int .u8 0,.int .u32 0,.int .u32 0,.slice none 0 0,.slice none 0 0,.int .u32 0,.slice none 0 0,.int .i64 0,.int .i64 0,.slice none 0 0] #[.int .u8 x.f0,.int .u32 x.f1,.int .u32 x.f2,.slice A3 x.f3.length a3,.slice A4 x.f4.length a4,.int .u32 x.f5.f0,.slice A6 x.f5.f1.length a6,.int .i64 x.f6,.int .i64 x.f7,.slice A9 x.f8.length a9] (by kernel_rfl) rfl (by simp [Value.oneCell'])
  obtain ⟨W4,hW4⟩:∃ W4,W4=w3.alloc (.cells #[.int .u8 x.f0,.int .u32 x.f1,.int .u32 x.f2,.slice A3 x.f3.length a3,.slice A4 x.f4.length a4,.int .u32 x.f5.f0,.slice A6 x.f5.f1.length a6,.int .i64 x.f6,.int .i64 x.f7,.slice A9 x.f8.length a9] 54):=⟨_,rfl⟩
  have hbw:Below w3.heap.size w3 W4:=by rw [hW4];exact iD (Below.refl _ _) _
  have HX4:=iC.mk (iI hbw hX3)
  have HB4:=iC.mk (iH hB3 hbw)
  have HF4:=iC.mk (iI hbw hblk)
  have HL4:=iC.mk (hL.below hbw)
  have HC4:=iC.mk (Kd.C_below HCI.out HB4.out)
  have HR4:=iC.mk (show W4.heap[w3.heap.size]? = some (.cells #[.int .u8 x.f0,.int .u32 x.f1,.int .u32 x.f2,.slice A3 x.f3.length a3,.slice A4 x.f4.length a4,.int .u32 x.f5.f0,.slice A6 x.f5.f1.length a6,.int .i64 x.f6,.int .i64 x.f7,.slice A9 x.f8.length a9] 54 (0,0)) from by rw [hW4];exact iP rfl)
  have hlx:=fun (_:True)=>qO HR4.out rfl
  have HW4:=iC.mk hW4
  have HD1:=iC.mk h1
  have HD2:=iC.mk h2
  clear hcall hW4 hbw hX3 hB3 hblk hL hG h1 h2 HX2 HB2 HW2
  obtain ⟨⟨E1,E2⟩,hE⟩:∃ E:List Int × Int,encR x=E:=⟨_,rfl⟩
  have hcall:=IG HL4.out.lies hE
  have HE:=iC.mk hE
  have HCS:=iC.mk (oP x)
  clear hE
  go_upto_region 5 with fail
  rw [← HW4.out]
  clear hsx hlx
  obtain ⟨wz0,wz1,wz2,wz3,wz4,wz5,wz6,wz7,wz8,wz9,wy0,wy1,wy2,wy3,wy4,wy5,wy6,wy7,wy8,wy9⟩:=ten (HR4.out)
  clear wy0 wy1 wy2 wy3 wy4 wy5 wy6 wy7 wy8 wy9
  go_wp2_with fail
  go_at_call 44
  refine hcall.mono ?_
  rintro e w5 ⟨v0,rfl,h0,hb5⟩
  dsimp only at h0
  dsimp only
  obtain ⟨A0,c0,rfl⟩:=Kd.R_slice h0
  obtain ⟨_,q0,C0⟩:=Kd.R_reads' h0
  have hX5:=iI hb5 HX4.out
  have HB5:=iC.mk (iH HB4.out hb5)
  have hF5:=iI hb5 HF4.out
  have HL5:=iC.mk (HL4.out.below hb5)
  have hR5:=iI hb5 HR4.out
  have hcv1:=fun (_:True)=>Kd.C_string (P:=Tryz.prog) (c:=c0) Tryz.underlying22 Tryz.underlying5 Tryz.underlying9 C0
  have hcv2:=fun (_:True)=>Kd.C_string (P:=Tryz.prog) (c:=c) Tryz.underlying22 Tryz.underlying5 Tryz.underlying9 (Kd.C_below HC4.out hb5)
  have zf:w5.cell? ⟨w.heap.size+1,1,none⟩=some (.bool b):=(iG hF5 1).trans rfl
  clear wz0 wz1 wz2 wz3 wz4 wz5 wz6 wz7 wz8 wz9
  have hst:=fun (_:True)=>oJ (a:=0) (k:=0) (i:=0) (x3:=.slice none 0 0) (x4:=.slice none 0 0) (j:=0) (x6:=.slice none 0 0) (p:=0) (q:=0) (x9:=.slice none 0 0) hX5 rfl rfl rfl rfl
  have HX5:=iC.mk hX5
  have HR5:=iC.mk hR5
  clear hcall h0 q0 C0 hb5 hF5 HX4 HB4 HF4 HL4 HC4 HR4 hX5 hR5 HCI HW4
  cases b with
  | true =>
   have HDD:=iC.mk (YR HNL.out (HD2.out rfl))
   clear HD1 HD2 HE HCS
   go_wp2
   ((try simp only [Exit.inBlock,Exit.then]);exact bodyPost_ret (uV rfl rfl rfl (setRow_heap _ _ _ _ _ _ HX5.out) rfl) rfl (by rw [HDD.out];exact rY w _ HB5.out 70))
  | false =>
   have HDD:=iC.mk (ja8 HNL.out (HD1.out rfl))
   have hcs:=HCS.out
   have he:=HE.out
   rw [he] at hcs
   clear HD1 HD2 HE HCS hl
   rcases hcs with hc | hc | hc
   ·obtain ⟨rfl,rfl⟩:=Prod.mk.inj hc
    have HD3:=iC.mk (show decR l=(mJ,70) from HDD.out.trans (if_neg (by rw [he];intro h;injection h with _ h2;cases h2)))
    clear he hc HDD
    go_wp2
    ((try simp only [Exit.inBlock,Exit.then]);exact bodyPost_ret (uV rfl rfl rfl (setRow_heap _ _ _ _ _ _ HX5.out) rfl) rfl (by rw [HD3.out];exact rY w _ HB5.out 70))
   ·obtain ⟨rfl,rfl⟩:=Prod.mk.inj hc
    have HD3:=iC.mk (show decR l=(mJ,70) from HDD.out.trans (if_neg (by rw [he];intro h;injection h with _ h2;cases h2)))
    clear he hc HDD
    go_wp2
    ((try simp only [Exit.inBlock,Exit.then]);exact bodyPost_ret (uV rfl rfl rfl (setRow_heap _ _ _ _ _ _ HX5.out) rfl) rfl (by rw [HD3.out];exact rY w _ HB5.out 70))
   ·obtain ⟨rfl,rfl⟩:=Prod.mk.inj hc
    have heq:=uZ (recE x) l
    obtain ⟨s1,hs1⟩:∃ s,s=strOfNums (nums (recE x)):=⟨_,rfl⟩
    obtain ⟨s2,hs2⟩:∃ s,s=strOfNums (nums l):=⟨_,rfl⟩
    rw [← hs1] at hcv1 heq
    rw [← hs2] at hcv2 heq
    clear hs1 hs2 hc
    by_cases hq:recE x=l
    ·have HD3:=iC.mk (show decR l=(x,0) from HDD.out.trans (if_pos (by rw [he,hq])))
     have hqq:(s1.toList == s2.toList)=true:=by rw [heq];exact decide_eq_true hq
     have hst:=fun (_:True)=>oJ (a:=x.f0) (k:=x.f1) (i:=x.f2) (x3:=.slice A3 x.f3.length a3) (x4:=.slice A4 x.f4.length a4) (j:=x.f5.f0) (x6:=.slice A6 x.f5.f1.length a6) (p:=x.f6) (q:=x.f7) (x9:=.slice A9 x.f8.length a9) HX5.out rfl rfl rfl rfl
     obtain ⟨wz0,wz1,wz2,wz3,wz4,wz5,wz6,wz7,wz8,wz9,wy0,wy1,wy2,wy3,wy4,wy5,wy6,wy7,wy8,wy9⟩:=ten (HR5.out)
     clear wy0 wy1 wy2 wy3 wy4 wy5 wy6 wy7 wy8 wy9
     clear heq hq he HDD
     go_wp2
     ((try simp only [Exit.inBlock,Exit.then]);refine bodyPost_ret (uV rfl rfl rfl (setRow_heap _ _ _ _ _ _ HX5.out) rfl) rfl ?_)
     rw [HD3.out]
     exact ⟨A3,a3,A4,a4,A6,a6,A9,a9,rfl,((HL5.out.keep (jP _ w.heap.size _) HLT.out).lower (Nat.le_of_lt HLT.out)),below_grown HB5.out (jP _ w.heap.size _) (Nat.le_refl _) (Nat.le_refl _)⟩
    ·have HD3:=iC.mk (show decR l=(mJ,70) from HDD.out.trans (if_neg (by rw [he];intro h;injection h with h1 _;exact hq (MF h1))))
     have hqq:(s1.toList == s2.toList)=false:=by rw [heq];exact decide_eq_false hq
     clear heq hq he HDD
     go_wp2
     ((try simp only [Exit.inBlock,Exit.then]);exact bodyPost_ret (uV rfl rfl rfl (setRow_heap _ _ _ _ _ _ HX5.out) rfl) rfl (by rw [HD3.out];exact rY w _ HB5.out 70))
end
end Go.Proofs.YtgfkgppomaapiaaGreatDoor.K
section
namespace Go.Proofs.YtgfkgppomaapiaaGreatDoor.K
open RowKit YtgfkgppomaapiaaGreatDoorW.PrintWords YtgfkgppomaapiaaGreatDoorW.PrintLast YtgfkgppomaapiaaGreatDoorW.PrintMore My
section
variable {w w':World} {b:Nat} {row:Option Nat} {d:DM}
theorem RR.blk (h:RR w b row d):∃ cs,w.heap[b]? = some (.cells cs 42 (0,0)):=by
 obtain ⟨⟨_,_,hD,_⟩,_⟩:=h
 exact ⟨_,hD⟩
theorem RR.rowt (h:RR w b row d) (k:Nat) (e:row=some k):∃ cs,w.heap[k]? = some (.cells cs 5 (0,0)):=by
 obtain ⟨⟨_,_,_,hR⟩,_⟩:=h
 rcases hR with ⟨_,h2,_⟩ | ⟨g,cur,_,h2,_,h3,_⟩
 ·rw [h2] at e;cases e
 ·rw [h2] at e;injection e with e;subst e;exact ⟨cur,h3⟩
theorem RR.stays (h:RR w b row d) (hk:Kb b row w w') {g t:Nat} {cells:Array Value} (hg:w.heap[g]? = some (.cells cells t (0,0))) (h1:t≠42) (h2:t≠5):w'.heap[g]? = some (.cells cells t (0,0)):=by
 refine (hk.block g (jH hg) (fun e=>?_) (fun e=>?_)).trans hg
 ·subst e
  obtain ⟨cs,hc⟩:=h.blk
  rw [hg] at hc
  injection hc with hc
  injection hc with _ hc
  exact h1 hc
 ·obtain ⟨cs,hc⟩:=h.rowt g e.symm
  rw [hg] at hc
  injection hc with hc
  injection hc with _ hc
  exact h2 hc
theorem RRs.rkb {base:Nat} {v:Value} {l:List SRec} (hr:RRs w base v l) (h:RR w b row d) (hk:Kb b row w w'):RRs w' base v l :=
 Kd.R_mono (Kd.R_move (Kd.R_bound hr) (fun k hq=>by
  obtain ⟨_,_,_,q,hq,cells,hc⟩:=hq
  rw [hc]
  exact h.stays hk hc ((show ∀ q∈54 :: kR.E,q≠42∧q≠5 from by decide) q hq).1 ((show ∀ q∈54 :: kR.E,q≠42∧q≠5 from by decide) q hq).2)) (fun _ _=>trivial)
theorem RR.len (h:RR w b row d):d.bs.length≤1048576:=Nat.le_trans h.2.fit h.2.room
set_option maxHeartbeats 2000000 in
theorem jn4 (h:RR w b row d):Calls Tryz.prog 33 #[.pointer (some ⟨b,0,none⟩)] w fun e w'=>∃ v,e=.returned v∧OB w' w.heap.size v d.bs∧Below w.heap.size w w':=by
 have hlen:(d.bs.length:Int)≤1048576:=by have:=h.len;omega
 obtain ⟨⟨ao,cap,hD,hR⟩,_⟩:=h
 have hz:=hD.c0
 obtain ⟨hC,hcap,_⟩:=hR.reads
 have HC:=iC.mk hC
 clear hD hR hC
 go_enter Tryz.func33,Tryz.ntmps33
 go_wp2_with (((at_builtin;refine Kd.R_append_rows kb (w0:=w) (World.heap w).size rfl (.tmp 4) (.tmp 8) 22 5 (.int .u8 0) 1 rfl Tryz.underlying22 nR rfl (by decide) (by omega) (.slice none 0 0) [] d.bs _ _ _ (fun _=>True) (fun _=>False) rfl rfl (OB.nil _ _) HC.out (fun _ _ h=>h) (fun _ h=>h.elim) (fun _ _=>trivial) ?aB ?aS ?aL ?_;(case aB=>first | exact Below.refl _ _ | assumption | (repeat (first | exact Below.refl _ _ | apply iD | apply iW | apply iF | apply below_bytesWorld | (refine iL ?_ (by first | assumption | omega)) | refine iH ?_ (by assumption))));(case aS=>first | exact Nat.le_refl _ | exact iT (by assumption) | exact iT (by (repeat (first | exact Below.refl _ _ | apply iD | apply iW | apply iF | apply below_bytesWorld | (refine iL ?_ (by first | assumption | omega)) | refine iH ?_ (by assumption)))));(case aL=>(try simp only [List.length_cons,List.length_nil]);omega);intro v1_ w_r1 HO_r1 HB_r1 hg_ hat_;obtain ⟨r1,hcat_⟩:∃ z,z=[] ++ d.bs:=⟨_,rfl⟩;rw [← hcat_] at HO_r1;have HT_r1:=iC.mk hcat_;clear hcat_ hg_ hat_;obtain ⟨A4,c4,rfl,hc_r1,HC_r1⟩:=OB.reads HO_r1);have HT2:=iC.mk HO_r1;have HB2:=iC.mk HB_r1;clear HO_r1 HB_r1 HC_r1 hc_r1))
 go_ret
 exact ⟨_,rfl,by have h1:=HT_r1.out;rw [List.nil_append] at h1;rw [← h1];exact HT2.out,HB2.out⟩
end
def RLg (w:World) (g b:Nat):Prop:=w.heap[g]? = some (.cells #[.pointer (some ⟨b,0,none⟩)] 87 (0,0))
def je5 (w:World) (b:Nat) (row:Option Nat) (d:DM) (e:Ending) (w':World):Prop :=
 ∃ row',RR w' b row' (nM d)∧Nw w row row'∧Kb b row w w' ∧
  ((nO d=0∧∃ g v,e=.returned (.tuple #[.pointer (some ⟨g,0,none⟩),v,.int .i64 0])∧w.heap.size≤g∧RLg w' g b∧RRs w' w.heap.size v (nY (kX d.bs))) ∨
   (nO d≠0∧e=.returned (.tuple #[.pointer none,.slice none 0 0,.int .i64 (nO d)])))
attribute [-go_sem] Instr.build Instr.storeAt
theorem VK (b:Nat):(Tryz.prog).built 87 (#[(0,.pointer (some ⟨b,0,none⟩))]:Array (Nat × Value)).toList=some #[.pointer (some ⟨b,0,none⟩)]:=by kernel_rfl
theorem jk_ (w:World) (b:Nat):(Instr.build 87 #[(0,.pointer (some ⟨b,0,none⟩))]).run Tryz.prog w=.ok (.agg #[.pointer (some ⟨b,0,none⟩)]) w:=run_build w _ _ _ (VK b)
attribute [local go_sem] jk_
set_option maxRecDepth 20000 in
set_option maxHeartbeats 16000000 in
theorem NZ {w:World} {b:Nat} {row:Option Nat} {d:DM} (h:RR w b row d) (hbig:(d.bs.length:Int)≤1000000):Calls Tryz.prog 11 #[.pointer (some ⟨b,0,none⟩)] w (je5 w b row d):=by
 have HD:=iC.mk h
 have hcall:=jn4 h
 have hwI:(walN d:Int)≤(d.bs.length:Int):=by have:=PW d;omega
 clear h
 go_enter Tryz.func11,Tryz.ntmps11
 go_wp2_with fail
 go_at_call 33
 refine hcall.mono ?_
 rintro e w1 ⟨v1,rfl,ho1,hb1⟩
 obtain ⟨A1,c1,rfl,hc1,hC1⟩:=ho1.reads
 have HD1:=iC.mk (HD.out.below hb1)
 have HB1:=iC.mk hb1
 clear hcall ho1 hb1 HD
 have hcall:=RF A1 c1 d.bs w1 hC1 hc1 hbig
 have hend:endB (kX d.bs)≤1000000:=by have:=YO d.bs;omega
 have hlen:(kX d.bs).length≤endB (kX d.bs):=by
  unfold endB
  generalize kX d.bs=q
  induction q with
  | nil=>simp
  | cons x q ih=>simp only [List.map_cons,List.sum_cons,List.length_cons];omega
 have HSM:=iC.mk (fun x hx=>(QI d.bs).elim fun r h=>h.2.2 x hx:∀ x∈kX d.bs,x.length≤60000)
 have HWN:=iC.mk (show walN d=endB (okL (kX d.bs)) from rfl)
 obtain ⟨ls,hls⟩:∃ ls,kX d.bs=ls:=⟨_,rfl⟩
 rw [hls] at hcall hend hlen HSM HWN
 have HLS:=iC.mk hls
 have hlI:(ls.length:Int)≤1000000:=by omega
 have hEI:(endB ls:Int)≤1000000:=by omega
 clear hls hC1 hc1 hend hlen
 go_wp2_with fail
 go_at_call 32
 refine hcall.mono ?_
 rintro e w2 ⟨v,rfl,hO,hb2⟩
 obtain ⟨Aa,ca,rfl,hca,hC⟩:=hO.reads
 have HC:=iC.mk hC
 have HB2:=iC.mk (iH HB1.out hb2)
 have HD2:=iC.mk (HD1.out.below hb2)
 clear hcall hO hC hb2 HB1 HD1
 go_wp2
 go_loopw [7,8,9] (fun o s i wr=>∃ k:Nat,k≤ls.length∧i=.int .i64 k∧s=.int .i64 (endK ls k:Int)∧iC (okK ls k)∧iC (RRs wr w2.heap.size o (decK ls k))∧iC (Below w2.heap.size w2 wr)) (fun _ _ i _=>ls.length - (intOf i).toNat)
 case atStart=>exact ⟨0,Nat.zero_le _,rfl,rfl,⟨TN _⟩,⟨Kd.R_nil _ _ _ _ _⟩,⟨Below.refl _ _⟩⟩
 case round =>
  obtain ⟨k,hk,rfl,rfl,HOK,HR,HB⟩:=hrel
  obtain ⟨Ao,co,rfl⟩:=Kd.R_slice HR.out
  by_cases hlt:k<ls.length
  ·obtain ⟨ad,A3,c3,rfl,hx0,hxc,hxC0⟩:=VN HC.out k hlt
   have HX0:=iC.mk hx0
   have hx:=(HB.out.cell (World.block_lt_of_cell? _ _ hx0)).trans hx0
   have hxC:=Kd.C_below hxC0 HB.out
   have hsu:=NU ls k hlt
   have hle:=YZ ls (k+1)
   have hmem:ls.getD k []∈ls:=by
    rw [List.getD_eq_getElem?_getD,List.getElem?_eq_getElem hlt]
    exact List.getElem_mem hlt
   have h6:=HSM.out _ hmem
   have hdec:=QX A3 c3 (ls.getD k []) wr (uQ hxC) hxc
   have HDK:=iC.mk (NT ls k hlt)
   have hn1:=fun h=>TL HOK.out hlt h
   have hn2:=fun h=>TD HOK.out hlt h
   have HLT:=iC.mk hlt
   clear hx0 hxC0
   generalize ls.getD k []=x at hx hxc hxC hsu h6 hdec HDK hn1 hn2 HX0
   have HSU:=iC.mk (show (endK ls k:Int)+((x.length:Int)+7)=(endK ls (k+1):Int) from by omega)
   have hb2:(endK ls k:Int)+((x.length:Int)+7)≤1000000:=by omega
   have hk1:(k:Int)<(ls.length:Int):=by omega
   have hx6:(x.length:Int)≤60000:=by omega
   obtain ⟨⟨X,E⟩,hD⟩:∃ D,decR x=D:=⟨_,rfl⟩
   rw [hD] at hdec HDK hn1 hn2
   have HN1:=iC.mk hn1
   have HN2:=iC.mk hn2
   clear hsu hle hmem hxC hn1 hn2 hD hlt h6
   obtain ⟨wo,rfl⟩:∃ x:World,x=wr:=⟨_,rfl⟩
   go_wp2_with fail
   go_at_call 34
   refine hdec.mono ?_
   rintro e w3 ⟨B3,b3,B4,b4,B6,b6,B9,b9,rfl,hO,hb2'⟩
   dsimp only at hO
   dsimp only
   have hsx:=fun (_:True)=>run_storeAt_new (P:=Tryz.prog) w3 54 #[.int .u8 0,.int .u32 0,.int .u32 0,.slice none 0 0,.slice none 0 0,.int .u32 0,.slice none 0 0,.int .i64 0,.int .i64 0,.slice none 0 0] #[.int .u8 X.f0,.int .u32 X.f1,.int .u32 X.f2,.slice B3 X.f3.length b3,.slice B4 X.f4.length b4,.int .u32 X.f5.f0,.slice B6 X.f5.f1.length b6,.int .i64 X.f6,.int .i64 X.f7,.slice B9 X.f8.length b9] (by kernel_rfl) rfl (by simp [Value.oneCell'])
   obtain ⟨W2,hW2⟩:∃ W,W=w3.alloc (.cells #[.int .u8 X.f0,.int .u32 X.f1,.int .u32 X.f2,.slice B3 X.f3.length b3,.slice B4 X.f4.length b4,.int .u32 X.f5.f0,.slice B6 X.f5.f1.length b6,.int .i64 X.f6,.int .i64 X.f7,.slice B9 X.f8.length b9] 54):=⟨_,rfl⟩
   have hbw:Below w3.heap.size w3 W2:=by rw [hW2];exact iD (Below.refl _ _) _
   have hbb:Below wo.heap.size wo W2:=iH hb2' hbw
   have HX2:=iC.mk (show W2.heap[w3.heap.size]? = some (.cells #[.int .u8 X.f0,.int .u32 X.f1,.int .u32 X.f2,.slice B3 X.f3.length b3,.slice B4 X.f4.length b4,.int .u32 X.f5.f0,.slice B6 X.f5.f1.length b6,.int .i64 X.f6,.int .i64 X.f7,.slice B9 X.f8.length b9] 54 (0,0)) from by rw [hW2];exact iP rfl)
   have HO2:=iC.mk ((hO.below hbw).lower HB.out.size)
   have HR2:=iC.mk (HR.out.below hbb)
   have HB3:=iC.mk (iH HB.out hbb)
   have HW2:=iC.mk hW2
   clear hdec hO hb2' hbw hbb hW2 HR HB hx
   go_upto_region 8 with fail
   rw [← HW2.out]
   clear hsx HW2
   by_cases hE:E=0
   ·subst hE
    have HOK2:=iC.mk (HN1.out rfl)
    clear HOK HN1 HN2
    obtain ⟨wz0,wz1,wz2,wz3,wz4,wz5,wz6,wz7,wz8,wz9,wy0,wy1,wy2,wy3,wy4,wy5,wy6,wy7,wy8,wy9⟩:=ten (HX2.out)
    clear wy0 wy1 wy2 wy3 wy4 wy5 wy6 wy7 wy8 wy9
    have HLK:=iC.mk (show (decK ls k).length=k from by unfold decK;rw [List.length_map,List.length_take];have:=HLT.out;omega)
    go_wp2_with (at_builtin;go_loud (refine Kd.R_append kR (w0:=W2) w2.heap.size rfl (.tmp 36) (.tmp 38) 33 54 (.agg #[.int .u8 0,.int .u32 0,.int .u32 0,.slice none 0 0,.slice none 0 0,.int .u32 0,.slice none 0 0,.int .i64 0,.int .i64 0,.slice none 0 0]) 136 rfl Tryz.underlying33 TC rfl (by decide) (by omega) (.slice Ao (decK ls k).length co) (decK ls k) X [.int .u8 X.f0,.int .u32 X.f1,.int .u32 X.f2,.slice B3 X.f3.length b3,.slice B4 X.f4.length b4,.int .u32 X.f5.f0,.slice B6 X.f5.f1.length b6,.int .i64 X.f6,.int .i64 X.f7,.slice B9 X.f8.length b9] (fun _=>True) (fun j=>some j≠(Value.slice Ao (decK ls k).length co).ownBlock) rfl rfl ?aP ?aK ?aF ?aO (Below.refl _ _) ?aB ?aL ?_;(case aP=>exact OH (kR_M HO2.out) HR2.out);(case aK=>exact fun _ h=>⟨trivial,h⟩);(case aF=>exact fun _ _=>trivial);(case aO=>exact HR2.out);(case aB=>exact HB3.out.size);(case aL=>(rw [HLK.out];omega));intro v5 w5 ho hb5 hg5 hat;have HR5:=iC.mk (show RRs w5 w2.heap.size v5 (decK ls (k+1)) from by rw [HDK.out];exact ho);have HB5:=iC.mk (HB3.out.trans hb5);have hx5:=((HB3.out.trans hb5).cell (World.block_lt_of_cell? _ _ HX0.out)).trans HX0.out;clear ho hb5 hg5 hat))
    go_roundw
    case rel=>exact ⟨k+1,by omega,by go_num,by rw [← HSU.out],HOK2,HR5,HB5⟩
    case measure=>simp [intOf];omega
   ·have HOK2:=iC.mk (HN2.out hE)
    have hsz:endK ls k=walN d:=by rw [HWN.out,HOK2.out];rfl
    have hrl:decK ls k=nY ls:=by unfold nY;rw [HOK2.out];rfl
    have HBr:=iC.mk (iH HB2.out HB3.out)
    have HDr:=iC.mk (HD2.out.below HB3.out)
    have HRr:=iC.mk (show RRs W2 w.heap.size (.slice Ao (nY ls).length co) (nY ls) from by rw [← hrl];exact HR2.out.lower HB2.out.size)
    have HKr:=iC.mk (Kb.of_below (b:=b) (row:=row) HBr.out)
    rw [hsz,hrl]
    clear HOK HN1 HN2 hb2 hEI hlI hx6 HOK2 HSU HX2 HO2 HR2 HB3 HLT HDK hsz hrl HBr HD2
    obtain ⟨rs,hrs⟩:∃ rs,rs=nY ls:=⟨_,rfl⟩
    rw [← hrs] at HRr ⊢
    have HRS:=iC.mk (show rs=nY (kX d.bs) from by rw [hrs,HLS.out])
    clear hrs
    go_upto_region 11 with fail
    have HD2:=iC.mk (HDr.out)
    have HR2:=iC.mk HRr.out
    have HK2:=iC.mk HKr.out
    have HS2:=iC.mk HKr.out.size
    obtain ⟨⟨ao,cap,hDc,_⟩,_⟩:=HDr.out
    have hz:=hDc.c0
    clear hDc HDr HRr HKr
    by_cases hlt:(walN d:Int)<(d.bs.length:Int)
    ·have HCD:=iC.mk (show cutD d=d.cut (walN d) from by unfold cutD;rw [if_pos (by omega)])
     have HCO:=iC.mk (show cutO d=d.cutE (walN d) from by unfold cutO;rw [if_pos (by omega)])
     have hcut:=jk8 (walN d:Int) HD2.out
     have hE:=(lZ d (walN d)).1
     have hS:=(lZ (d.cut (walN d)) 0).2
     obtain ⟨E,hEE⟩:∃ E,E=d.cutE (walN d):=⟨_,rfl⟩
     rw [← hEE] at hcut hE HCO
     clear hEE
     go_wp2_with fail
     go_at_call 35
     refine hcut.mono ?_
     rintro e w3 ⟨rfl,row3,hD3,hn3,hk3⟩
     have HN3:=iC.mk (hn3.older HS2.out)
     have HK3:=iC.mk (HK2.out.then hk3 (Nw.refl _ _))
     have HR3:=iC.mk (HR2.out.rkb HD2.out hk3)
     have HS3:=iC.mk (Nat.le_trans HS2.out hk3.size)
     have HD3:=iC.mk hD3
     clear hcut hn3 hk3 hD3 HD2 HR2 HK2 HS2 hz
     by_cases hE0:E=0
     ·subst hE0
      have hsync:=NE HD3.out
      have HOD:=iC.mk (show nM d=(d.cut (walN d)).sync from by unfold nM;rw [HCO.out,if_pos rfl,HCD.out])
      have HOE:=iC.mk (show nO d=(d.cut (walN d)).syncE from by unfold nO;rw [HCO.out,if_pos rfl,HCD.out])
      obtain ⟨S,hSE⟩:∃ S,S=(d.cut (walN d)).syncE:=⟨_,rfl⟩
      rw [← hSE] at hsync hS HOE
      clear hSE hE
      go_wp2_with fail
      go_at_call 36
      refine hsync.mono ?_
      rintro e w4 ⟨rfl,row4,hD4,hn4,hk4⟩
      have HN4:=iC.mk (HN3.out.trans HS3.out hn4)
      have HK4:=iC.mk (HK3.out.then hk4 HN3.out)
      have HR4:=iC.mk (HR3.out.rkb HD3.out hk4)
      have HS4:=iC.mk (Nat.le_trans HS3.out hk4.size)
      have HD4:=iC.mk hD4
      clear hsync hn4 hk4 hD4 HD3 HR3 HK3 HS3 HN3
      by_cases hS0:S=0
      ·subst hS0
       clear hS
       go_wp2
       go_ret3
       have hb5:Below w4.heap.size w4 (w4.alloc (.cells #[.pointer (some ⟨b,0,none⟩)] 87)):=iD (Below.refl _ _) _
       exact ⟨row4,by rw [HOD.out];exact HD4.out.below hb5,HN4.out,HK4.out.then (Kb.of_below hb5) HN4.out,.inl ⟨HOE.out,w4.heap.size,.slice Ao rs.length co,rfl,HS4.out,iP rfl,by rw [← HRS.out];exact HR4.out.below hb5⟩⟩
      ·obtain rfl:=hS.resolve_left hS0
       clear hS hS0
       go_wp2
       go_ret3
       exact ⟨row4,by rw [HOD.out];exact HD4.out,HN4.out,HK4.out,.inr ⟨by rw [HOE.out];decide,by rw [HOE.out];rfl⟩⟩
     ·have HOD:=iC.mk (show nM d=d.cut (walN d) from by unfold nM;rw [HCO.out,if_neg hE0,HCD.out])
      have HOE:=iC.mk (show nO d=E from by unfold nO;rw [HCO.out,if_neg hE0])
      have hE1:E=1∨E=100:=hE.resolve_left hE0
      clear hE hS
      rcases hE1 with rfl | rfl
      all_goals
       go_wp2
       go_ret3
       exact ⟨row3,by rw [HOD.out];exact HD3.out,HN3.out,HK3.out,.inr ⟨by rw [HOE.out];decide,by rw [HOE.out];rfl⟩⟩
    ·have HCO:=iC.mk (show cutO d=0 from by unfold cutO;rw [if_neg (by omega)])
     have HCD:=iC.mk (show cutD d=d from by unfold cutD;rw [if_neg (by omega)])
     have hsync:=NE HD2.out
     have hS:=(lZ d 0).2
     have HOD:=iC.mk (show nM d=d.sync from by unfold nM;rw [HCO.out,if_pos rfl,HCD.out])
     have HOE:=iC.mk (show nO d=d.syncE from by unfold nO;rw [HCO.out,if_pos rfl,HCD.out])
     obtain ⟨S,hSE⟩:∃ S,S=d.syncE:=⟨_,rfl⟩
     rw [← hSE] at hsync hS HOE
     clear hSE
     go_wp2_with fail
     go_at_call 36
     refine hsync.mono ?_
     rintro e w4 ⟨rfl,row4,hD4,hn4,hk4⟩
     have HN4:=iC.mk (hn4.older HS2.out)
     have HK4:=iC.mk (HK2.out.then hk4 (Nw.refl _ _))
     have HR4:=iC.mk (HR2.out.rkb HD2.out hk4)
     have HS4:=iC.mk (Nat.le_trans HS2.out hk4.size)
     have HD4:=iC.mk hD4
     clear hsync hn4 hk4 hD4 HD2 HR2 HK2 HS2 hz
     by_cases hS0:S=0
     ·subst hS0
      clear hS
      go_wp2
      go_ret3
      have hb5:Below w4.heap.size w4 (w4.alloc (.cells #[.pointer (some ⟨b,0,none⟩)] 87)):=iD (Below.refl _ _) _
      exact ⟨row4,by rw [HOD.out];exact HD4.out.below hb5,HN4.out,HK4.out.then (Kb.of_below hb5) HN4.out,.inl ⟨HOE.out,w4.heap.size,.slice Ao rs.length co,rfl,HS4.out,iP rfl,by rw [← HRS.out];exact HR4.out.below hb5⟩⟩
     ·obtain rfl:=hS.resolve_left hS0
      clear hS hS0
      go_wp2
      go_ret3
      exact ⟨row4,by rw [HOD.out];exact HD4.out,HN4.out,HK4.out,.inr ⟨by rw [HOE.out];decide,by rw [HOE.out];rfl⟩⟩
  ·obtain rfl:k=ls.length:=by omega
   have HOK2:=iC.mk (XU HOK.out)
   have hsz:endK ls ls.length=walN d:=by rw [HWN.out,HOK2.out];unfold endK;rw [List.take_length]
   have hrl:decK ls ls.length=nY ls:=by unfold nY decK;rw [HOK2.out,List.take_length]
   have HDr:=iC.mk (HD2.out.below HB.out)
   have HBr:=iC.mk (iH HB2.out HB.out)
   have HRr:=iC.mk (show RRs wr w.heap.size (.slice Ao (nY ls).length co) (nY ls) from by rw [← hrl];exact HR.out.lower HB2.out.size)
   have HKr:=iC.mk (Kb.of_below (b:=b) (row:=row) HBr.out)
   rw [hsz,hrl]
   clear HOK HOK2 HB HR hEI hlI hsz hrl hlt HBr HD2
   obtain ⟨rs,hrs⟩:∃ rs,rs=nY ls:=⟨_,rfl⟩
   rw [← hrs] at HRr ⊢
   have HRS:=iC.mk (show rs=nY (kX d.bs) from by rw [hrs,HLS.out])
   clear hrs
   go_upto_region 11 with fail
   have HD2:=iC.mk (HDr.out)
   have HR2:=iC.mk HRr.out
   have HK2:=iC.mk HKr.out
   have HS2:=iC.mk HKr.out.size
   obtain ⟨⟨ao,cap,hDc,_⟩,_⟩:=HDr.out
   have hz:=hDc.c0
   clear hDc HDr HRr HKr
   by_cases hlt:(walN d:Int)<(d.bs.length:Int)
   ·have HCD:=iC.mk (show cutD d=d.cut (walN d) from by unfold cutD;rw [if_pos (by omega)])
    have HCO:=iC.mk (show cutO d=d.cutE (walN d) from by unfold cutO;rw [if_pos (by omega)])
    have hcut:=jk8 (walN d:Int) HD2.out
    have hE:=(lZ d (walN d)).1
    have hS:=(lZ (d.cut (walN d)) 0).2
    obtain ⟨E,hEE⟩:∃ E,E=d.cutE (walN d):=⟨_,rfl⟩
    rw [← hEE] at hcut hE HCO
    clear hEE
    go_wp2_with fail
    go_at_call 35
    refine hcut.mono ?_
    rintro e w3 ⟨rfl,row3,hD3,hn3,hk3⟩
    have HN3:=iC.mk (hn3.older HS2.out)
    have HK3:=iC.mk (HK2.out.then hk3 (Nw.refl _ _))
    have HR3:=iC.mk (HR2.out.rkb HD2.out hk3)
    have HS3:=iC.mk (Nat.le_trans HS2.out hk3.size)
    have HD3:=iC.mk hD3
    clear hcut hn3 hk3 hD3 HD2 HR2 HK2 HS2 hz
    by_cases hE0:E=0
    ·subst hE0
     have hsync:=NE HD3.out
     have HOD:=iC.mk (show nM d=(d.cut (walN d)).sync from by unfold nM;rw [HCO.out,if_pos rfl,HCD.out])
     have HOE:=iC.mk (show nO d=(d.cut (walN d)).syncE from by unfold nO;rw [HCO.out,if_pos rfl,HCD.out])
     obtain ⟨S,hSE⟩:∃ S,S=(d.cut (walN d)).syncE:=⟨_,rfl⟩
     rw [← hSE] at hsync hS HOE
     clear hSE hE
     go_wp2_with fail
     go_at_call 36
     refine hsync.mono ?_
     rintro e w4 ⟨rfl,row4,hD4,hn4,hk4⟩
     have HN4:=iC.mk (HN3.out.trans HS3.out hn4)
     have HK4:=iC.mk (HK3.out.then hk4 HN3.out)
     have HR4:=iC.mk (HR3.out.rkb HD3.out hk4)
     have HS4:=iC.mk (Nat.le_trans HS3.out hk4.size)
     have HD4:=iC.mk hD4
     clear hsync hn4 hk4 hD4 HD3 HR3 HK3 HS3 HN3
     by_cases hS0:S=0
     ·subst hS0
      clear hS
      go_wp2
      go_ret3
      have hb5:Below w4.heap.size w4 (w4.alloc (.cells #[.pointer (some ⟨b,0,none⟩)] 87)):=iD (Below.refl _ _) _
      exact ⟨row4,by rw [HOD.out];exact HD4.out.below hb5,HN4.out,HK4.out.then (Kb.of_below hb5) HN4.out,.inl ⟨HOE.out,w4.heap.size,.slice Ao rs.length co,rfl,HS4.out,iP rfl,by rw [← HRS.out];exact HR4.out.below hb5⟩⟩
     ·obtain rfl:=hS.resolve_left hS0
      clear hS hS0
      go_wp2
      go_ret3
      exact ⟨row4,by rw [HOD.out];exact HD4.out,HN4.out,HK4.out,.inr ⟨by rw [HOE.out];decide,by rw [HOE.out];rfl⟩⟩
    ·have HOD:=iC.mk (show nM d=d.cut (walN d) from by unfold nM;rw [HCO.out,if_neg hE0,HCD.out])
     have HOE:=iC.mk (show nO d=E from by unfold nO;rw [HCO.out,if_neg hE0])
     have hE1:E=1∨E=100:=hE.resolve_left hE0
     clear hE hS
     rcases hE1 with rfl | rfl
     all_goals
      go_wp2
      go_ret3
      exact ⟨row3,by rw [HOD.out];exact HD3.out,HN3.out,HK3.out,.inr ⟨by rw [HOE.out];decide,by rw [HOE.out];rfl⟩⟩
   ·have HCO:=iC.mk (show cutO d=0 from by unfold cutO;rw [if_neg (by omega)])
    have HCD:=iC.mk (show cutD d=d from by unfold cutD;rw [if_neg (by omega)])
    have hsync:=NE HD2.out
    have hS:=(lZ d 0).2
    have HOD:=iC.mk (show nM d=d.sync from by unfold nM;rw [HCO.out,if_pos rfl,HCD.out])
    have HOE:=iC.mk (show nO d=d.syncE from by unfold nO;rw [HCO.out,if_pos rfl,HCD.out])
    obtain ⟨S,hSE⟩:∃ S,S=d.syncE:=⟨_,rfl⟩
    rw [← hSE] at hsync hS HOE
    clear hSE
    go_wp2_with fail
    go_at_call 36
    refine hsync.mono ?_
    rintro e w4 ⟨rfl,row4,hD4,hn4,hk4⟩
    have HN4:=iC.mk (hn4.older HS2.out)
    have HK4:=iC.mk (HK2.out.then hk4 (Nw.refl _ _))
    have HR4:=iC.mk (HR2.out.rkb HD2.out hk4)
    have HS4:=iC.mk (Nat.le_trans HS2.out hk4.size)
    have HD4:=iC.mk hD4
    clear hsync hn4 hk4 hD4 HD2 HR2 HK2 HS2 hz
    by_cases hS0:S=0
    ·subst hS0
     clear hS
     go_wp2
     go_ret3
     have hb5:Below w4.heap.size w4 (w4.alloc (.cells #[.pointer (some ⟨b,0,none⟩)] 87)):=iD (Below.refl _ _) _
     exact ⟨row4,by rw [HOD.out];exact HD4.out.below hb5,HN4.out,HK4.out.then (Kb.of_below hb5) HN4.out,.inl ⟨HOE.out,w4.heap.size,.slice Ao rs.length co,rfl,HS4.out,iP rfl,by rw [← HRS.out];exact HR4.out.below hb5⟩⟩
    ·obtain rfl:=hS.resolve_left hS0
     clear hS hS0
     go_wp2
     go_ret3
     exact ⟨row4,by rw [HOD.out];exact HD4.out,HN4.out,HK4.out,.inr ⟨by rw [HOE.out];decide,by rw [HOE.out];rfl⟩⟩
end Go.Proofs.YtgfkgppomaapiaaGreatDoor.K
end
namespace Go.Proofs.YtgfkgppomaapiaaGreatDoor.K
open RowKit YtgfkgppomaapiaaGreatDoorW.PrintWords YtgfkgppomaapiaaGreatDoorW.PrintLast YtgfkgppomaapiaaGreatDoorW.PrintMore My
section
def nX (d:DM) (r:SRec):Int:=if (encR r).2=0 then d.appE (kT (recE r)) else (encR r).2
def lY (d:DM) (r:SRec):DM:=if (encR r).2=0 then d.app (kT (recE r)) else d
def nD (d:DM) (r:SRec):Int:=if nX d r=0 then (lY d r).syncE else nX d r
def mX (d:DM) (r:SRec):DM:=if nX d r=0 then (if (lY d r).syncE=0 then (lY d r).sync else (lY d r).sync.cut d.bs.length) else lY d r
theorem jh7 (d:DM) (l:List UInt8):d.appE l=0∨d.appE l=100:=by
 unfold DM.appE
 (repeat' split) <;> simp
theorem RG (d:DM) (r:SRec):nX d r=0∨nX d r=1∨nX d r=3∨nX d r=100:=by
 unfold nX
 rcases oP r with h | h | h <;> rw [h]
 ·exact .inr (.inl (if_neg (by decide)))
 ·exact .inr (.inr (.inl (if_neg (by decide))))
 ·rw [if_pos rfl]
  rcases jh7 d (kT (recE r)) with h | h <;> rw [h] <;> simp
theorem zU {r:SRec} (h:encR r=(nums (recE r),0)):(recE r).length≤60000:=by
 unfold encR at h
 split at h
 ·split at h
  ·injection h with _ h2;cases h2
  ·omega
 ·injection h with _ h2;cases h2
attribute [-go_sem] Instr.build Instr.storeAt
set_option maxRecDepth 20000 in
set_option maxHeartbeats 8000000 in
theorem MZ {w:World} {b g:Nat} {row:Option Nat} {d:DM} {r:SRec} {A3 A4 A6 A9:Option Addr} {a3 a4 a6 a9:Nat} (h:DD w b row d) (hg:Lg w g b) (hr:Lies w r A3 a3 A4 a4 A6 a6 A9 a9) :
  Calls Tryz.prog 15 #[.pointer (some ⟨g,0,none⟩),.agg #[.int .u8 r.f0,.int .u32 r.f1,.int .u32 r.f2,.slice A3 r.f3.length a3,.slice A4 r.f4.length a4,.int .u32 r.f5.f0,.slice A6 r.f5.f1.length a6,.int .i64 r.f6,.int .i64 r.f7,.slice A9 r.f8.length a9]] w (DP (.int .u16 (nX d r)) w b row (lY d r)):=by
 obtain ⟨W,hW⟩:∃ W,W=w.alloc (.cells #[.int .u8 r.f0,.int .u32 r.f1,.int .u32 r.f2,.slice A3 r.f3.length a3,.slice A4 r.f4.length a4,.int .u32 r.f5.f0,.slice A6 r.f5.f1.length a6,.int .i64 r.f6,.int .i64 r.f7,.slice A9 r.f8.length a9] 54):=⟨_,rfl⟩
 have hb:Below w.heap.size w W:=by rw [hW];exact iD (Below.refl _ _) _
 have HX:=iC.mk (show W.heap[w.heap.size]? = some (.cells #[.int .u8 r.f0,.int .u32 r.f1,.int .u32 r.f2,.slice A3 r.f3.length a3,.slice A4 r.f4.length a4,.int .u32 r.f5.f0,.slice A6 r.f5.f1.length a6,.int .i64 r.f6,.int .i64 r.f7,.slice A9 r.f8.length a9] 54 (0,0)) from by rw [hW];exact iP rfl)
 have HD:=iC.mk (h.below hb)
 have HG:=iC.mk (hg.below hb)
 have HL:=iC.mk (hr.below hb)
 have HB:=iC.mk hb
 have HW:=iC.mk hW
 have HLT:=iC.mk h.1.lt
 have HLT2:=iC.mk (show b<W.heap.size from HD.out.1.lt)
 clear h hg hr hb hW
 obtain ⟨⟨E1,E2⟩,hE⟩:∃ E:List Int × Int,encR r=E:=⟨_,rfl⟩
 have hcall:=PM HL.out hE
 have hcs:=oP r
 have HE:=iC.mk hE
 rw [hE] at hcs
 have HCS:=iC.mk hcs
 clear hE hcs
 go_enter Tryz.func15,Tryz.ntmps15
 go_upto_region 1 with fail
 rw [← HW.out]
 obtain ⟨wz0,wz1,wz2,wz3,wz4,wz5,wz6,wz7,wz8,wz9,wy0,wy1,wy2,wy3,wy4,wy5,wy6,wy7,wy8,wy9⟩:=ten (HX.out)
 clear wy0 wy1 wy2 wy3 wy4 wy5 wy6 wy7 wy8 wy9
 go_wp2_with fail
 go_at_call 41
 refine hcall.mono ?_
 rintro e w1 ⟨v0,rfl,h0,hb1⟩
 obtain ⟨A0,c0,rfl⟩:=Kd.R_slice h0
 obtain ⟨_,q0,C0⟩:=Kd.R_reads' h0
 have HD1:=iC.mk (HD.out.below hb1)
 have HG1:=iC.mk (HG.out.below hb1)
 have HB1:=iC.mk (iH HB.out hb1)
 have hcs:=HCS.out
 clear hcall h0 hb1 wz0 wz1 wz2 wz3 wz4 wz5 wz6 wz7 wz8 wz9 HX HL HD HG HB
 have hbad:∀ E,E≠0→(encR r).2=E→DP (.int .u16 (nX d r)) w b row (lY d r) (.returned (.int .u16 E)) w1:=fun E h0 hE=>by
  unfold nX lY
  rw [hE,if_neg h0,if_neg h0]
  exact ⟨rfl,row,HD1.out,Nw.refl _ _,Kb.of_below HB1.out⟩
 rcases hcs with hc | hc | hc
 ·obtain ⟨rfl,rfl⟩:=Prod.mk.inj hc
  have HBAD:=iC.mk (hbad 1 (by decide) (by rw [HE.out]))
  clear hc hbad C0 q0
  go_wp2
  go_ret
  exact HBAD.out
 ·obtain ⟨rfl,rfl⟩:=Prod.mk.inj hc
  have HBAD:=iC.mk (hbad 3 (by decide) (by rw [HE.out]))
  clear hc hbad C0 q0
  go_wp2
  go_ret
  exact HBAD.out
 ·obtain ⟨rfl,rfl⟩:=Prod.mk.inj hc
  have hlen:(nums (recE r)).length=(recE r).length:=jM _
  have hsh:=zU HE.out
  rw [hlen] at q0 C0
  have hwrap:=wrap_any A0 c0 (recE r) w1 (vF C0) q0 hsh
  have HSH:=iC.mk hsh
  rw [hlen]
  clear hc hbad C0 q0 hlen hsh
  go_wp2_with fail
  go_at_call 42
  refine hwrap.mono ?_
  rintro e w2 ⟨vw,rfl,hO,hb2⟩
  have hbase:=fun k=>Kd.R_base hO k
  obtain ⟨Aw,cw,rfl,hcw,hCw⟩:=hO.reads
  have HD2:=iC.mk (HD1.out.below hb2)
  have HB2:=iC.mk (iH HB1.out hb2)
  have hz:=(iG (HG1.out.below hb2) 0).trans (show _=some (Value.pointer (some ⟨b,0,none⟩)) from rfl)
  have hwl:=qH (recE r)
  have hlt:=HD1.out.1.lt
  have happ:=jd3 (c:=cw) HD2.out hCw (fun a e _ hab=>by subst e;have:=hbase a.block rfl;omega) (by have:=HSH.out;omega)
  have HF:=iC.mk (show ∀ e' w',DP (.int .u16 (d.appE (kT (recE r)))) w2 b row (d.app (kT (recE r))) e' w'→DP (.int .u16 (nX d r)) w b row (lY d r) e' w' from fun e' w' hp=>by
   unfold nX lY
   rw [HE.out,if_pos rfl,if_pos rfl]
   obtain ⟨he,row',h1,h2,h3⟩:=hp
   exact ⟨he,row',h1,h2.older HB2.out.size,(Kb.of_below (b:=b) (row:=row) HB2.out).then h3 (Nw.refl _ _)⟩)
  generalize kT (recE r)=L at happ hcw hCw hwl HF
  obtain ⟨E,hEE⟩:∃ E,E=d.appE L:=⟨_,rfl⟩
  rw [← hEE] at happ HF
  clear hwrap hO hb2 hcw hCw hwl hlt HD1 HG1 HB1 hbase hEE
  go_wp2_with fail
  go_at_call 8
  refine happ.mono ?_
  rintro e w3 ⟨rfl,hp⟩
  have HP:=iC.mk (HF.out _ _ ⟨rfl,hp⟩)
  clear happ hp HF
  go_wp2
  go_ret
  exact HP.out
end
end Go.Proofs.YtgfkgppomaapiaaGreatDoor.K
namespace Go.Proofs.YtgfkgppomaapiaaGreatDoor.K
open Go.RowKit Go.Proofs.YtgfkgppomaapiaaGreatDoorW.PrintWords Go.Proofs.YtgfkgppomaapiaaGreatDoor.My
section
theorem zA {n x:Nat} {b t:List UInt8} (h:number n b=some (x,t)):x<256 ^ n:=by
 unfold number at h
 split at h
 ·cases h
 ·injection h with h
  injection h with h1 h2
  subst h1
  have:=yD (b.take n)
  rwa [List.length_take,Nat.min_eq_left (by omega)] at this
theorem yK {n:Nat} {x:Int} {b t:List UInt8} (h:intP n b=some (x,t)):0≤x∧x<256 ^ n:=by
 unfold intP at h
 obtain ⟨⟨y,s⟩,h1,h2⟩:=Option.bind_eq_some_iff.1 h
 injection h2 with h2
 injection h2 with h3 h4
 subst h3
 have:=zA h1
 simp only
 have h9:((y:Nat):Int)<((256 ^ n:Nat):Int):=by omega
 exact ⟨by omega,by simpa using h9⟩
theorem RH {α:Type} {p:List UInt8→Option (α × List UInt8)} {Q:α→Prop} (hp:∀ b x t,p b=some (x,t)→Q x):∀ (n:Nat) (b:List UInt8) (l:List α) (t:List UInt8),repP p n b=some (l,t)→∀ x∈l,Q x
 | 0,b,l,t,h,x,hx=>by
  unfold repP at h
  injection h with h
  injection h with h1 h2
  subst h1
  cases hx
 | n+1,b,l,t,h,x,hx=>by
  unfold repP at h
  obtain ⟨⟨y,s⟩,h1,h2⟩:=Option.bind_eq_some_iff.1 h
  obtain ⟨⟨ys,u⟩,h3,h4⟩:=Option.bind_eq_some_iff.1 h2
  injection h4 with h4
  injection h4 with h5 h6
  subst h5
  rcases List.mem_cons.1 hx with rfl | hx
  ·exact hp _ _ _ h1
  ·exact RH hp n _ _ _ h3 x hx
theorem jn3 {n:Nat} (h:n<256 ^ 8):-9223372036854775808≤s64 n∧s64 n<9223372036854775808:=by
 have e:(256:Nat) ^ 8=18446744073709551616:=by decide
 rw [e] at h
 unfold s64
 split <;> omega
theorem ZY {b t:List UInt8} {f:jQ} (h:qF b=some (f,t)):LM f:=by
 unfold qF at h
 obtain ⟨x,_,h⟩:=Option.bind_eq_some_iff.1 h
 obtain ⟨y,_,h⟩:=Option.bind_eq_some_iff.1 h
 obtain ⟨⟨z,s⟩,h1,h⟩:=Option.bind_eq_some_iff.1 h
 injection h with h
 injection h with h2 h3
 subst h2
 exact jn3 (zA h1)
theorem OT {b t:List UInt8} {l:List jQ} (h:nC b=some (l,t)):∀ f∈l,LM f:=by
 unfold nC at h
 obtain ⟨x,_,h⟩:=Option.bind_eq_some_iff.1 h
 exact RH (fun _ _ _=>ZY) _ _ _ _ h
theorem WW {b t:List UInt8} {e:jJ} (h:mY b=some (e,t)):I7 e:=by
 unfold mY at h
 obtain ⟨⟨x,s⟩,h1,h⟩:=Option.bind_eq_some_iff.1 h
 obtain ⟨⟨y,u⟩,h2,h⟩:=Option.bind_eq_some_iff.1 h
 injection h with h
 injection h with h3 h4
 subst h3
 have:=yK h1
 exact ⟨this.1,by have:=this.2;simp at this ⊢;omega,OT h2⟩
theorem PR {b t:List UInt8} {l:List jJ} (h:lI b=some (l,t)):∀ e∈l,I7 e:=by
 unfold lI at h
 obtain ⟨x,_,h⟩:=Option.bind_eq_some_iff.1 h
 exact RH (fun _ _ _=>WW) _ _ _ _ h
theorem z32':(0:Int)≤0∧(0:Int)<4294967296:=by decide
theorem PN {x:Int} {b t:List UInt8} (h:intP 4 b=some (x,t)):0≤x∧x<4294967296:=by
 have:=yK h
 exact ⟨this.1,by have:=this.2;simp at this;omega⟩
theorem jf8 {b t:List UInt8} {r:SRec} (h:recP b=some (r,t)):LQ r:=by
 unfold recP at h
 obtain ⟨⟨k,s⟩,h1,h⟩:=Option.bind_eq_some_iff.1 h
 obtain ⟨⟨id,u⟩,h2,h⟩:=Option.bind_eq_some_iff.1 h
 have hk:=yK h1
 have hk:0≤k∧k<256:=⟨hk.1,by have:=hk.2;simp at this;omega⟩
 have hid:=PN h2
 simp only at h
 unfold pW at h
 split at h
 ·obtain ⟨⟨x,s⟩,h3,h⟩:=Option.bind_eq_some_iff.1 h
  obtain ⟨⟨y,s2⟩,h4,h⟩:=Option.bind_eq_some_iff.1 h
  injection h with h
  injection h with h5 h6
  subst h5
  exact ⟨hk,hid,z32',OT h4,z32',fun e h=>by cases h⟩
 split at h
 ·obtain ⟨⟨x,s⟩,h3,h⟩:=Option.bind_eq_some_iff.1 h
  obtain ⟨⟨y,s2⟩,h4,h⟩:=Option.bind_eq_some_iff.1 h
  injection h with h
  injection h with h5 h6
  subst h5
  exact ⟨hk,hid,PN h3,(fun e h=>by cases h),z32',fun e h=>by cases h⟩
 split at h
 ·obtain ⟨⟨x,s⟩,h3,h⟩:=Option.bind_eq_some_iff.1 h
  obtain ⟨⟨y,s2⟩,h4,h⟩:=Option.bind_eq_some_iff.1 h
  injection h with h
  injection h with h5 h6
  subst h5
  exact ⟨hk,hid,z32',(fun e h=>by cases h),PN h3,fun e h=>by cases h⟩
 split at h
 ·obtain ⟨⟨x,s⟩,h3,h⟩:=Option.bind_eq_some_iff.1 h
  obtain ⟨⟨y,s2⟩,h4,h⟩:=Option.bind_eq_some_iff.1 h
  obtain ⟨⟨z,s3⟩,h7,h⟩:=Option.bind_eq_some_iff.1 h
  injection h with h
  injection h with h5 h6
  subst h5
  exact ⟨hk,hid,z32',(fun e h=>by cases h),z32',PR h7⟩
 ·injection h with h
  injection h with h5 h6
  subst h5
  exact ⟨hk,hid,z32',(fun e h=>by cases h),z32',fun e h=>by cases h⟩
theorem jf6 (l:List UInt8):((decR l).2≠0∧(decR l).1=mJ)∨(∃ x,decR l=(x,0)∧jR x=true∧LQ x∧recE x=l∧l.length≤60000):=by
 unfold decR
 by_cases hl:60000<l.length
 ·rw [if_pos hl];exact .inl ⟨(by decide:(3:Int)≠0),rfl⟩
 rw [if_neg hl]
 cases hp:recP l with
 | none=>exact .inl ⟨(by decide:(70:Int)≠0),rfl⟩
 | some y =>
  obtain ⟨x,r⟩:=y
  simp only
  by_cases he:encR x=(nums l,0)
  ·rw [if_pos he]
   refine .inr ⟨x,rfl,?_,jf8 hp,?_,by omega⟩
   ·unfold encR at he
    split at he
    ·assumption
    ·injection he with _ h2;cases h2
   ·rcases oP x with h | h | h <;> rw [h] at he <;> injection he with h1 h2
    ·cases h2
    ·cases h2
    ·exact MF h1
  ·rw [if_neg he];exact .inl ⟨(by decide:(70:Int)≠0),rfl⟩
theorem OQ {x:SRec} (hs:jR x=true) (hk:LQ x) (hl:(recE x).length≤60000):decR (recE x)=(x,0):=by
 unfold decR
 have h1:=j8_ x [] hs hk
 rw [List.append_nil] at h1
 rw [if_neg (by omega),h1]
 simp only
 rw [if_pos]
 unfold encR
 rw [if_pos hs,if_neg (by omega)]
end
end Go.Proofs.YtgfkgppomaapiaaGreatDoor.K
namespace Go.Proofs.YtgfkgppomaapiaaGreatDoor.K
open RowKit YtgfkgppomaapiaaGreatDoorW.PrintWords YtgfkgppomaapiaaGreatDoorW.PrintLast YtgfkgppomaapiaaGreatDoorW.PrintMore My
section
theorem j1_ {d:DM} {l:List UInt8} (h:d.full l) (hl:d.left = -1):d.app l=d∧d.appE l=100:=by
 unfold DM.app DM.appE
 rw [if_neg (by omega),if_pos h,if_neg (by omega),if_pos h]
 refine ⟨?_,rfl⟩
 cases d
 simp only at hl
 subst hl
 rfl
theorem ZP {d:DM} {l:List UInt8} (h:¬ d.full l) (hl:d.left = -1):d.app l={ d with bs:=d.bs ++ l }∧d.appE l=0:=by
 unfold DM.app DM.appE
 rw [if_neg (by omega),if_neg h,if_neg (by omega),if_neg h]
 refine ⟨?_,rfl⟩
 cases d
 simp only at hl
 subst hl
 rfl
theorem zS {d:DM} (hl:d.left = -1):d.sync={ d with lasts:=d.bs.length }∧d.syncE=0:=by
 unfold DM.sync DM.syncE
 rw [if_neg (by omega),if_neg (by omega)]
 refine ⟨?_,rfl⟩
 cases d
 simp only at hl
 subst hl
 rfl
theorem jc5 {d:DM} (hl:d.left = -1) (n:Nat) (hn:n≤d.bs.length):d.cut n={ d with bs:=d.bs.take n,lasts:=min d.lasts n }∧d.cutE n=0:=by
 unfold DM.cut DM.cutE
 have ho:¬ d.out n:=by unfold DM.out;omega
 rw [if_neg (by omega),if_neg ho,if_neg (by omega),if_neg ho]
 refine ⟨?_,rfl⟩
 cases d
 simp only at hl
 subst hl
 simp only [Int.toNat_natCast]
 rfl
theorem J3 {d:DM} (hl:d.left = -1):nO d=0∧nM d=⟨d.bs.take (walN d),walN d,d.room,-1⟩:=by
 have hw:=PW d
 by_cases h:walN d<d.bs.length
 ·have hc:=jc5 hl (walN d) hw
  have hO:cutO d=0:=by unfold cutO;rw [if_pos h];exact hc.2
  have hD:cutD d=d.cut (walN d):=by unfold cutD;rw [if_pos h]
  have hs:=zS (d:=d.cut (walN d)) (by rw [hc.1];exact hl)
  refine ⟨by unfold nO;rw [if_pos hO,hD,hs.2],?_⟩
  unfold nM
  rw [if_pos hO,hD,hs.1,hc.1]
  simp only [DM.mk.injEq,true_and]
  exact ⟨by rw [List.length_take];omega,hl⟩
 ·have hO:cutO d=0:=by unfold cutO;rw [if_neg h]
  have hD:cutD d=d:=by unfold cutD;rw [if_neg h]
  have hs:=zS hl
  refine ⟨by unfold nO;rw [if_pos hO,hD,hs.2],?_⟩
  unfold nM
  rw [if_pos hO,hD,hs.1]
  have he:walN d=d.bs.length:=by omega
  cases d
  simp only at hl he ⊢
  subst hl
  rw [he,List.take_length]
structure MR (r:SRec):Prop where
 sound:jR r=true
 ok:LQ r
 len:(recE r).length≤60000
def logB (rs:List SRec):List UInt8:=NH (rs.map recE)
theorem WP (rs:List SRec) (r:SRec):logB (rs ++ [r])=logB rs ++ kT (recE r):=by
 unfold logB NH
 simp
theorem UD:lK []=none:=by decide
theorem TM (rs:List SRec) (t:List (List UInt8)) (h:∀ r∈rs,MR r):okL (rs.map recE ++ t)=rs.map recE ++ okL t:=by
 induction rs with
 | nil=>rfl
 | cons r rs ih =>
  have hr:=h r List.mem_cons_self
  have:=ih (fun x hx=>h x (List.mem_cons_of_mem _ hx))
  show List.takeWhile _ (recE r :: (rs.map recE ++ t))=_
  rw [List.takeWhile_cons_of_pos (p:=fun x=>(decR x).2 == 0) (by rw [OQ hr.sound hr.ok hr.len];rfl)]
  exact congrArg _ this
theorem YN (rs:List SRec) (h:∀ r∈rs,MR r):(rs.map recE).map (fun x=>(decR x).1)=rs:=by
 rw [List.map_map]
 conv=>rhs;rw [← List.map_id rs]
 apply List.map_congr_left
 intro r hr
 have:=h r hr
 simp only [Function.comp,id]
 rw [OQ this.sound this.ok this.len]
theorem TV (rs:List SRec) (h:∀ r∈rs,MR r):kX (logB rs)=rs.map recE:=by
 have:=WX (rs.map recE) [] (fun x hx=>by obtain ⟨r,hr,rfl⟩:=List.mem_map.1 hx;exact (h r hr).len)
 rw [List.append_nil,lS UD,List.append_nil] at this
 exact this
theorem ZU (rs:List SRec) (h:∀ r∈rs,MR r):nY (kX (logB rs))=rs:=by
 rw [TV rs h]
 unfold nY
 have:=TM rs [] h
 rw [List.append_nil,show okL []=[] from rfl,List.append_nil] at this
 rw [this,YN rs h]
theorem j4_ {d:DM} {rs:List SRec} (hb:d.bs=logB rs) (h:∀ r∈rs,MR r):walN d=d.bs.length:=by
 unfold walN
 rw [hb,TV rs h]
 have:=TM rs [] h
 rw [List.append_nil,show okL []=[] from rfl,List.append_nil] at this
 rw [this]
 unfold logB
 rw [NV]
structure Has (d:DM) (rs:List SRec):Prop where
 bs:d.bs=logB rs
 las:d.lasts=d.bs.length
 live:d.left = -1
theorem Has.opened {d:DM} {rs:List SRec} (hd:Has d rs) (h:∀ r∈rs,MR r):nO d=0∧nM d=d:=by
 obtain ⟨h1,h2⟩:=J3 hd.live
 refine ⟨h1,?_⟩
 rw [h2,j4_ hd.bs h,List.take_length]
 have:=hd.las
 have h3:=hd.live
 cases d
 simp only at this h3 ⊢
 rw [this,h3]
theorem Has.force {d:DM} {rs:List SRec} (hd:Has d rs) (r:SRec) (hs:jR r=true) (hk:LQ r) :
  (nD d r=0∧MR r∧Has (mX d r) (rs ++ [r]))∨(nD d r≠0∧mX d r=d):=by
 by_cases he:(encR r).2=0
 ·have hen:encR r=(nums (recE r),0):=by
   rcases oP r with h | h | h
   ·rw [h] at he;cases he
   ·rw [h] at he;cases he
   ·exact h
  have hLE:nX d r=d.appE (kT (recE r)):=by unfold nX;rw [if_pos he]
  have hLD:lY d r=d.app (kT (recE r)):=by unfold lY;rw [if_pos he]
  by_cases hf:d.full (kT (recE r))
  ·obtain ⟨h1,h2⟩:=j1_ hf hd.live
   refine .inr ⟨?_,?_⟩
   ·unfold nD;rw [hLE,h2,if_neg (by decide)];decide
   ·unfold mX;rw [hLE,h2,if_neg (by decide),hLD,h1]
  ·obtain ⟨h1,h2⟩:=ZP hf hd.live
   have hsy:=zS (d:=d.app (kT (recE r))) (by rw [h1];exact hd.live)
   refine .inl ⟨?_,⟨hs,hk,zU hen⟩,?_⟩
   ·unfold nD;rw [hLE,h2,if_pos rfl,hLD,hsy.2]
   ·have hFD:mX d r=(d.app (kT (recE r))).sync:=by unfold mX;rw [hLE,h2,if_pos rfl,hLD,hsy.2,if_pos rfl]
    rw [hFD,hsy.1,h1]
    exact ⟨by rw [WP,← hd.bs],rfl,hd.live⟩
 ·have hLE:nX d r=(encR r).2:=by unfold nX;rw [if_neg he]
  have hLD:lY d r=d:=by unfold lY;rw [if_neg he]
  refine .inr ⟨?_,?_⟩
  ·unfold nD;rw [hLE,if_neg he];exact he
  ·unfold mX;rw [hLE,if_neg he,hLD]
theorem Has.new (room:Nat):Has (DM.new room) []:=⟨rfl,rfl,rfl⟩
end
section
theorem xO (d:DM) (r:SRec):0≤nX d r∧nX d r≤100:=by rcases RG d r with h | h | h | h <;> omega
attribute [-go_sem] Instr.build Instr.storeAt
set_option maxRecDepth 20000 in
set_option maxHeartbeats 8000000 in
theorem OY {w:World} {b g:Nat} {row:Option Nat} {d:DM} {r:SRec} {A3 A4 A6 A9:Option Addr} {a3 a4 a6 a9:Nat} (h:DD w b row d) (hg:Lg w g b) (hr:Lies w r A3 a3 A4 a4 A6 a6 A9 a9) :
  Calls Tryz.prog 18 #[.pointer (some ⟨g,0,none⟩),.agg #[.int .u8 r.f0,.int .u32 r.f1,.int .u32 r.f2,.slice A3 r.f3.length a3,.slice A4 r.f4.length a4,.int .u32 r.f5.f0,.slice A6 r.f5.f1.length a6,.int .i64 r.f6,.int .i64 r.f7,.slice A9 r.f8.length a9]] w (DP (.int .u16 (nD d r)) w b row (mX d r)):=by
 obtain ⟨W,hW⟩:∃ W,W=w.alloc (.cells #[.int .u8 r.f0,.int .u32 r.f1,.int .u32 r.f2,.slice A3 r.f3.length a3,.slice A4 r.f4.length a4,.int .u32 r.f5.f0,.slice A6 r.f5.f1.length a6,.int .i64 r.f6,.int .i64 r.f7,.slice A9 r.f8.length a9] 54):=⟨_,rfl⟩
 have hb:Below w.heap.size w W:=by rw [hW];exact iD (Below.refl _ _) _
 have HX:=iC.mk (show W.heap[w.heap.size]? = some (.cells #[.int .u8 r.f0,.int .u32 r.f1,.int .u32 r.f2,.slice A3 r.f3.length a3,.slice A4 r.f4.length a4,.int .u32 r.f5.f0,.slice A6 r.f5.f1.length a6,.int .i64 r.f6,.int .i64 r.f7,.slice A9 r.f8.length a9] 54 (0,0)) from by rw [hW];exact iP rfl)
 have HD:=iC.mk (h.below hb)
 have HG:=iC.mk (hg.below hb)
 have HL:=iC.mk (hr.below hb)
 have HB:=iC.mk hb
 have HW:=iC.mk hW
 clear h hg hr hb hW
 have hz:=(iG HG.out 0).trans (show _=some (Value.pointer (some ⟨b,0,none⟩)) from rfl)
 have hcall:=YT HD.out
 go_enter Tryz.func18,Tryz.ntmps18
 go_upto_region 1 with fail
 rw [← HW.out]
 clear HW
 go_wp2_with fail
 go_at_call 13
 refine hcall.mono ?_
 rintro e w1 ⟨v1,rfl,ho1,hb1⟩
 obtain ⟨A1,c1,rfl,_,_⟩:=ho1.reads
 have HX1:=iC.mk (iI hb1 HX.out)
 have HD1:=iC.mk (HD.out.below hb1)
 have HG1:=iC.mk (HG.out.below hb1)
 have HB1:=iC.mk (iH HB.out hb1)
 have hcall:=MZ HD1.out HG1.out (HL.out.below hb1)
 have hE0:=xO d r
 obtain ⟨E,hE⟩:∃ E,nX d r=E:=⟨_,rfl⟩
 have HE:=iC.mk hE
 rw [hE] at hcall hE0
 have hE1:=hE0.1
 have hE2:=hE0.2
 clear ho1 hb1 HX HD HG HL HB hz hE hE0
 obtain ⟨wz0,wz1,wz2,wz3,wz4,wz5,wz6,wz7,wz8,wz9,wy0,wy1,wy2,wy3,wy4,wy5,wy6,wy7,wy8,wy9⟩:=ten (HX1.out)
 clear wy0 wy1 wy2 wy3 wy4 wy5 wy6 wy7 wy8 wy9
 go_wp2_with fail
 go_at_call 15
 refine hcall.mono ?_
 rintro e w2 ⟨rfl,row2,hD2,hn2,hk2⟩
 have HD2:=iC.mk hD2
 have HG2:=iC.mk (HG1.out.kb HD1.out hk2)
 have HN2:=iC.mk (hn2.older (w:=w) HB1.out.size)
 have HK2:=iC.mk ((Kb.of_below (b:=b) (row:=row) HB1.out).then hk2 (Nw.refl _ _))
 clear hcall hD2 hn2 hk2 HX1 HD1 HG1 HB1 wz0 wz1 wz2 wz3 wz4 wz5 wz6 wz7 wz8 wz9
 by_cases h0:E=0
 ·subst h0
  have hsync:=X4 HD2.out
  have hS:=(lZ (lY d r) 0).2
  have HFE:=iC.mk (show nD d r=(lY d r).syncE from by unfold nD;rw [if_pos HE.out])
  have HFD:=iC.mk (show mX d r=if (lY d r).syncE=0 then (lY d r).sync else (lY d r).sync.cut d.bs.length from by unfold mX;rw [if_pos HE.out])
  obtain ⟨S,hSE⟩:∃ S,S=(lY d r).syncE:=⟨_,rfl⟩
  rw [← hSE] at hsync hS HFE HFD
  have hz:=(iG HG2.out 0).trans (show _=some (Value.pointer (some ⟨b,0,none⟩)) from rfl)
  clear hSE hE1 hE2
  go_wp2_with fail
  go_at_call 31
  refine hsync.mono ?_
  rintro e w3 ⟨rfl,row3,hD3,hn3,hk3⟩
  have HD3:=iC.mk hD3
  have HG3:=iC.mk (HG2.out.kb HD2.out hk3)
  have HN3:=iC.mk (HN2.out.trans HK2.out.size hn3)
  have HK3:=iC.mk (HK2.out.then hk3 HN2.out)
  clear hsync hD3 hn3 hk3 HD2 HG2 HN2 HK2 hz
  by_cases hS0:S=0
  ·subst hS0
   clear hS
   go_wp2
   go_ret
   exact ⟨by rw [HFE.out];rfl,row3,by rw [HFD.out,if_pos (by trivial)];exact HD3.out,HN3.out,HK3.out⟩
  ·obtain rfl:=hS.resolve_left hS0
   have hcut:=jl8 (d.bs.length:Int) HD3.out
   have hz:=(iG HG3.out 0).trans (show _=some (Value.pointer (some ⟨b,0,none⟩)) from rfl)
   clear hS hS0
   go_wp2_with fail
   go_at_call 30
   refine hcut.mono ?_
   rintro e w4 ⟨rfl,row4,hD4,hn4,hk4⟩
   have HD4:=iC.mk hD4
   have HN4:=iC.mk (HN3.out.trans HK3.out.size hn4)
   have HK4:=iC.mk (HK3.out.then hk4 HN3.out)
   clear hcut hD4 hn4 hk4 hz
   go_wp2
   go_ret
   exact ⟨by rw [HFE.out];rfl,row4,by rw [HFD.out,if_neg (by decide)];exact HD4.out,HN4.out,HK4.out⟩
 ·have HFE:=iC.mk (show nD d r=E from by unfold nD;rw [HE.out,if_neg h0])
  have HFD:=iC.mk (show mX d r=lY d r from by unfold mX;rw [HE.out,if_neg h0])
  go_wp2
  go_ret
  exact ⟨by rw [HFE.out];rfl,row2,by rw [HFD.out];exact HD2.out,HN2.out,HK2.out⟩
end
end Go.Proofs.YtgfkgppomaapiaaGreatDoor.K
namespace Go.Proofs.YtgfkgppomaapiaaGreatDoor.K
open Go Go.RowKit Go.Deep Go.ChangeShapes Go.WideShapes Go.ChangeAt Go.Proofs.YtgfkgppomaapiaaGreatDoorW.PrintWords Go.Proofs.YtgfkgppomaapiaaGreatDoorW.PrintLast Go.Proofs.YtgfkgppomaapiaaGreatDoorW.PrintMore Go.Proofs.YtgfkgppomaapiaaGreatDoor.My
section
instance:Inhabited SRec:=⟨mJ⟩
structure SOp where
 k:Int
 r:SRec
 wh:Int
 n:Int
instance:Inhabited SOp:=⟨⟨0,mJ,0,0⟩⟩
def kOp:Kd SOp:=Kd.iso (Kd.pair (Kd.int .u8) (Kd.pair kR (Kd.pair (Kd.int .u8) (Kd.int .i64)))) (fun x:SOp=>(x.k,x.r,x.wh,x.n))
theorem TW {w:World} {x:SOp} {cs:List Value} (h:kOp.K w x cs):∃ A3 a3 A4 a4 A6 a6 A9 a9,cs = #[.int .u8 x.k,.int .u8 x.r.f0,.int .u32 x.r.f1,.int .u32 x.r.f2,.slice A3 x.r.f3.length a3,.slice A4 x.r.f4.length a4,.int .u32 x.r.f5.f0,.slice A6 x.r.f5.f1.length a6,.int .i64 x.r.f6,.int .i64 x.r.f7,.slice A9 x.r.f8.length a9,.int .u8 x.wh,.int .i64 x.n].toList∧Lies w x.r A3 a3 A4 a4 A6 a6 A9 a9:=by
 obtain ⟨_,_,rfl,rfl,_,_,rfl,hr,_,_,rfl,rfl,rfl⟩:=h
 obtain ⟨A3,a3,A4,a4,A6,a6,A9,a9,rfl,hL⟩:=PH hr
 exact ⟨A3,a3,A4,a4,A6,a6,A9,a9,rfl,hL⟩
theorem rF {P:Program} (w:World) (a:Addr) (ty:TypeId) (cs:List Value) (d:TypeDesc) (hc:∀ j v,cs[j]? = some v→w.cell? (a.add j)=some v)
  (hu:P.underlying ty=some d) (hd:d.isRow=true) (hi:(P.info? ty).map (·.size)=some cs.length) :
  (Instr.loadAt ty (.pointer (some a))).run P w=.ok (.agg cs.toArray) w:=by
 have hl:(loadCells a cs.length).run P w=.ok cs.toArray w:=run_loadCells_list (P:=P) w a cs hc
 have hv:(loadVar ty a).run P w=.ok (.agg cs.toArray) w:=by
  cases hq:P.info? ty with
  | none=>simp [hq] at hi
  | some i =>
   have hs:i.size=cs.length:=by simpa [hq] using hi
   have hagg:(isAgg ty).run P w=.ok true w:=by
    unfold isAgg
    rw [Sem.run_bind,run_underlying hu w]
    cases d <;> simp_all
   simp [loadVar,Sem.run_bind,hagg,sizeOf,typeInfo,hq,hs,hl]
 simp only [Instr.loadAt,Instr.sureAddr,Sem.run_bind,Sem.run_pure,Result.andThen_ok,hv]
theorem jo6 {w:World} {A:Option Addr} {n:Nat} {l:List SOp} (h:kOp.C w A n l) (i:Nat) (hi:i<n) :
  ∃ ad A3 a3 A4 a4 A6 a6 A9 a9,A=some ad∧Lies w (l.getD i default).r A3 a3 A4 a4 A6 a6 A9 a9 ∧
   (True→(Instr.loadAt 56 (.pointer (some (ad.add (i * 13))))).run Tryz.prog w=.ok (.agg #[.int .u8 (l.getD i default).k,.int .u8 (l.getD i default).r.f0,.int .u32 (l.getD i default).r.f1,.int .u32 (l.getD i default).r.f2,.slice A3 (l.getD i default).r.f3.length a3,.slice A4 (l.getD i default).r.f4.length a4,.int .u32 (l.getD i default).r.f5.f0,.slice A6 (l.getD i default).r.f5.f1.length a6,.int .i64 (l.getD i default).r.f6,.int .i64 (l.getD i default).r.f7,.slice A9 (l.getD i default).r.f8.length a9,.int .u8 (l.getD i default).wh,.int .i64 (l.getD i default).n]) w) ∧
   (True→(Instr.loadAt 54 (.pointer (some ⟨(ad.add (i * 13)).block,(ad.add (i * 13)).off+1,none⟩))).run Tryz.prog w=.ok (.agg #[.int .u8 (l.getD i default).r.f0,.int .u32 (l.getD i default).r.f1,.int .u32 (l.getD i default).r.f2,.slice A3 (l.getD i default).r.f3.length a3,.slice A4 (l.getD i default).r.f4.length a4,.int .u32 (l.getD i default).r.f5.f0,.slice A6 (l.getD i default).r.f5.f1.length a6,.int .i64 (l.getD i default).r.f6,.int .i64 (l.getD i default).r.f7,.slice A9 (l.getD i default).r.f8.length a9]) w) ∧
   w.cell? (ad.add (i * 13))=some (.int .u8 (l.getD i default).k)∧w.cell? ⟨(ad.add (i * 13)).block,(ad.add (i * 13)).off+12,none⟩=some (.int .i64 (l.getD i default).n):=by
 obtain ⟨ad,c,e,_,hK,hc0⟩:=Kd.C_get h default (i:Int) (by omega) (by omega)
 rw [Int.toNat_natCast] at hK hc0
 have hc:∀ j u,c[j]? = some u→w.cell? (ad.add (i * 13+j))=some u:=hc0
 obtain ⟨A3,a3,A4,a4,A6,a6,A9,a9,rfl,hL⟩:=TW hK
 refine ⟨ad,A3,a3,A4,a4,A6,a6,A9,a9,e,hL,?_,?_,hc 0 _ rfl,by rw [← pK _ _ 12 (by omega)];exact hc 12 _ rfl⟩
 ·exact fun _=>rF w _ _ #[.int .u8 (l.getD i default).k,.int .u8 (l.getD i default).r.f0,.int .u32 (l.getD i default).r.f1,.int .u32 (l.getD i default).r.f2,.slice A3 (l.getD i default).r.f3.length a3,.slice A4 (l.getD i default).r.f4.length a4,.int .u32 (l.getD i default).r.f5.f0,.slice A6 (l.getD i default).r.f5.f1.length a6,.int .i64 (l.getD i default).r.f6,.int .i64 (l.getD i default).r.f7,.slice A9 (l.getD i default).r.f8.length a9,.int .u8 (l.getD i default).wh,.int .i64 (l.getD i default).n].toList _ (fun j v hj=>by rw [Go.Deep.add_add];exact hc j v hj) Tryz.underlying56 rfl (by kernel_rfl)
 ·exact fun _=>run_loadAt_mid w _ _ 54 #[.int .u8 (l.getD i default).r.f0,.int .u32 (l.getD i default).r.f1,.int .u32 (l.getD i default).r.f2,.slice A3 (l.getD i default).r.f3.length a3,.slice A4 (l.getD i default).r.f4.length a4,.int .u32 (l.getD i default).r.f5.f0,.slice A6 (l.getD i default).r.f5.f1.length a6,.int .i64 (l.getD i default).r.f6,.int .i64 (l.getD i default).r.f7,.slice A9 (l.getD i default).r.f8.length a9].toList _ (fun j v hj=>by
   have h10:j<10:=by
    have:=(List.getElem?_eq_some_iff.1 hj).1
    exact this
   rw [Nat.add_assoc,← pK _ _ (1+j) (by omega)]
   exact hc (1+j) v (by rw [Nat.add_comm];match j,h10 with
    | 0,_ | 1,_ | 2,_ | 3,_ | 4,_ | 5,_ | 6,_ | 7,_ | 8,_ | 9,_=>exact hj)) Tryz.underlying54 rfl (by kernel_rfl)
end
end Go.Proofs.YtgfkgppomaapiaaGreatDoor.K
namespace Go.Proofs.YtgfkgppomaapiaaGreatDoor.K
open RowKit YtgfkgppomaapiaaGreatDoorW.PrintWords YtgfkgppomaapiaaGreatDoorW.PrintLast YtgfkgppomaapiaaGreatDoorW.PrintMore My
section
def r5:SRec:=⟨3,5,0,[],[],⟨0,[]⟩,0,0,[]⟩
def r6:SRec:=⟨3,6,0,[],[],⟨0,[]⟩,0,0,[]⟩
def kd1:DM:=mX (DM.new 900) r5
def kd2:DM:=lY kd1 r6
def kd3:DM:=kd2.crash 0
theorem TK:nD (DM.new 900) r5=0:=by decide +kernel
theorem jh9:nX kd1 r6=0:=by decide +kernel
theorem jo_:kd3.bs=kd1.bs:=by decide +kernel
theorem jk1:kd3.left = -1:=by decide +kernel
theorem jn2:kd3.lasts=kd3.bs.length:=by decide +kernel
theorem jk9:kd3.room=900:=by decide +kernel
theorem r5_ok:LQ r5:=⟨by decide,by decide,by decide,fun _ h=>by (cases h),by decide,fun _ h=>by (cases h)⟩
theorem WH:MR r5∧Has kd1 [r5]:=by
 rcases (Has.new 900).force r5 (by decide) r5_ok with ⟨_,h2,h3⟩ | ⟨h1,_⟩
 ·exact ⟨h2,h3⟩
 ·exact absurd TK h1
theorem jd_:Has kd3 [r5]:=⟨by rw [jo_];exact WH.2.bs,jn2,jk1⟩
theorem je1:∀ r∈[r5],MR r:=fun r hr=>by
 obtain rfl:=List.mem_singleton.1 hr
 exact WH.1
theorem RZ (w:World) (k i:Int):Lies w ⟨k,i,0,[],[],⟨0,[]⟩,0,0,[]⟩ none 0 none 0 none 0 none 0:=⟨Kd.C_nil _ _,Nat.le_refl _,Kd.C_nil _ _,Nat.le_refl _,Kd.C_nil _ _,Nat.le_refl _,Kd.C_nil _ _,Nat.le_refl _⟩
theorem One.open {w0 w w':World} {b:Nat} {row:Option Nat} {d:DM} {e:Ending} (h:One w0 w b row d) (hp:ji6 w b row d e w') (hE:nO d=0) :
  ∃ row' g v,One w0 w' b row' (nM d)∧e=.returned (.tuple #[.pointer (some ⟨g,0,none⟩),v,.int .u16 0])∧Lg w' g b∧RRs w' w.heap.size v (nY (kX d.bs))∧Kb b row w w'∧w0.heap.size≤g:=by
 obtain ⟨row',h1,h2,h3,⟨_,g,v,he,hg,hl,hr⟩ | ⟨hne,_⟩⟩:=hp
 ·exact ⟨row',g,v,h.step h1 h2 h3,he,hl,hr,h3,Nat.le_trans h.bel.size hg⟩
 ·exact absurd hE hne
theorem One.dpk {w0 w w':World} {b:Nat} {row:Option Nat} {d d':DM} {v:Value} {e:Ending} (h:One w0 w b row d) (hp:DP v w b row d' e w'):e=.returned v∧Kb b row w w'∧∃ row',One w0 w' b row' d':=by
 obtain ⟨he,row',h1,h2,h3⟩:=hp
 exact ⟨he,h3,row',h.step h1 h2 h3⟩
attribute [-go_sem] Instr.build Instr.storeAt
attribute [local go_sem] je3
set_option maxRecDepth 20000 in
set_option maxHeartbeats 8000000 in
theorem XW (w:World):Calls Tryz.prog 5 #[] w fun e w'=>e=.returned (.bool true)∧Below w.heap.size w w':=by
 have hopn:=(Has.new 900).opened (fun r hr=>by cases hr)
 go_enter Tryz.func5,Tryz.ntmps5
 go_wp2_with fail
 go_at_call 6
 refine (jl_ 900 w (by omega)).mono ?_
 rintro e w1 ⟨rfl,hd1,hb1⟩
 have H1:=iC.mk (One.new (Below.refl _ _) hd1 hb1)
 obtain ⟨b,hb⟩:∃ b,b=w.heap.size:=⟨_,rfl⟩
 rw [← hb] at H1 ⊢
 clear hd1 hb1 hb
 have hcall:=open_any H1.out.dd (by show ((0:Nat):Int)≤1000000;omega)
 go_wp2_with fail
 go_at_call 10
 refine hcall.mono ?_
 intro e w2 hp
 obtain ⟨row2,g,v2,h2,rfl,hg2,hr2,hk2,_⟩:=H1.out.open hp hopn.1
 rw [hopn.2] at h2
 have H2:=iC.mk h2
 have HG2:=iC.mk hg2
 obtain ⟨A2,c2,rfl⟩:=Kd.R_slice hr2
 clear hcall hp h2 hg2 hr2 hk2 hopn
 have hcall:=OY H2.out.dd HG2.out (RZ w2 3 5)
 rw [show (⟨3,5,0,[],[],⟨0,[]⟩,0,0,[]⟩:SRec)=r5 from rfl,TK,show mX (DM.new 900) r5=kd1 from rfl] at hcall
 simp only [r5,List.length_nil] at hcall
 go_wp2_with fail
 go_at_call 18
 refine hcall.mono ?_
 intro e w3 hp
 obtain ⟨rfl,hk3,row3,h3⟩:=H2.out.dpk hp
 have H3:=iC.mk h3
 have HG3:=iC.mk (HG2.out.kb H2.out.dd hk3)
 clear hcall hp h3 hk3
 have hcall:=MZ H3.out.dd HG3.out (RZ w3 3 6)
 rw [show (⟨3,6,0,[],[],⟨0,[]⟩,0,0,[]⟩:SRec)=r6 from rfl,jh9,show lY kd1 r6=kd2 from rfl] at hcall
 simp only [r6,List.length_nil] at hcall
 go_wp2_with fail
 go_at_call 15
 refine hcall.mono ?_
 intro e w4 hp
 obtain ⟨rfl,hk4,row4,h4⟩:=H3.out.dpk hp
 have H4:=iC.mk h4
 clear hcall hp h4 hk4
 have hcall:=VY 0 H4.out.dd
 rw [show kd2.crash 0=kd3 from rfl] at hcall
 go_wp2_with fail
 go_at_call 22
 refine hcall.mono ?_
 intro e w5 hp
 obtain ⟨rfl,hk5,row5,h5⟩:=H4.out.dpk hp
 have H5:=iC.mk h5
 clear hcall hp h5 hk5
 have hopn:=jd_.opened je1
 have hcall:=open_any H5.out.dd (by have:=H5.out.dd.2.fit;have hr:=jk9;omega)
 go_wp2_with fail
 go_at_call 10
 refine hcall.mono ?_
 intro e w6 hp
 obtain ⟨row6,g6,v6,h6,rfl,hg6,hr6,hk6,_⟩:=H5.out.open hp hopn.1
 rw [jd_.bs,ZU _ je1] at hr6
 have H6:=iC.mk h6
 obtain ⟨A6,c6,rfl,hc6,C6⟩:=Kd.R_reads hr6
 obtain ⟨ad,cc,rfl,_,hK,hcc⟩:=Kd.C_get C6 default 0 (by omega) (by simp)
 obtain ⟨_,_,_,_,_,_,_,_,rfl,_⟩:=PH hK
 have hid:=hcc 1 _ rfl
 rw [show (0:Int).toNat * kR.sz+1=0+1 from rfl,pK _ _ 1 (by omega),Addr.add_zero'] at hid
 have hid:w6.cell? ⟨ad.block,ad.off+1,none⟩=some (.int .u32 5):=hid
 clear hcall hp h6 hg6 hr6 hk6 hopn C6 hK hcc
 simp only [List.length_singleton]
 go_wp2
 go_ret
 exact ⟨rfl,H6.out.bel⟩
end
end Go.Proofs.YtgfkgppomaapiaaGreatDoor.K
section
namespace Go.Proofs.YtgfkgppomaapiaaGreatDoor.K
open RowKit YtgfkgppomaapiaaGreatDoorW.PrintWords YtgfkgppomaapiaaGreatDoorW.PrintLast YtgfkgppomaapiaaGreatDoorW.PrintMore My
structure Pr (w0 w:World) (b:Nat) (row:Option Nat) (d:DM) (r:Nat) (rr:Option Nat) (e:DM):Prop where
 dd:DD w b row d
 rk:RR w r rr e
 bel:Below w0.heap.size w0 w
 blk:w0.heap.size≤b
 rlk:w0.heap.size≤r
 rwb:∀ k,row=some k→w0.heap.size≤k
 rrw:∀ k,rr=some k→w0.heap.size≤k
 ne:∀ k,row=some k→rr≠some k
section
variable {w0 w w':World} {b r:Nat} {row rr:Option Nat} {d e d' e':DM} {v:Value} {x:Ending}
theorem Pr.bt (h:Pr w0 w b row d r rr e):b≠r∧row≠some r∧rr≠some b∧(∀ k,rr=some k→k≠r)∧(∀ k,row=some k→k≠b):=by
 obtain ⟨cb,hb⟩:=h.dd.blk
 obtain ⟨cr,hr⟩:=h.rk.blk
 refine ⟨fun q=>?_,fun q=>?_,fun q=>?_,fun k q=>(h.rk.row_lt k q).2,fun k q=>(h.dd.row_lt k q).2⟩
 ·subst q
  rw [hb] at hr
  injection hr with hr
  injection hr with _ hr
  exact absurd hr (by decide)
 ·obtain ⟨cs,hc⟩:=h.dd.rowt r q
  rw [hr] at hc
  injection hc with hc
  injection hc with _ hc
  exact absurd hc (by decide)
 ·obtain ⟨cs,hc⟩:=h.rk.rowt b q
  rw [hb] at hc
  injection hc with hc
  injection hc with _ hc
  exact absurd hc (by decide)
theorem Pr.below (h:Pr w0 w b row d r rr e) (hb:Below w.heap.size w w'):Pr w0 w' b row d r rr e:=⟨h.dd.below hb,h.rk.below hb,h.bel.trans (hb.mono h.bel.size),h.blk,h.rlk,h.rwb,h.rrw,h.ne⟩
theorem Pr.fst {row':Option Nat} (h:Pr w0 w b row d r rr e) (hd:DD w' b row' d') (hn:Nw w row row') (hk:Kb b row w w'):Pr w0 w' b row' d' r rr e:=by
 obtain ⟨h1,h2,h3,h4,_⟩:=h.bt
 refine ⟨hd,h.rk.kb hk (Ne.symm h1) (fun q=>h2 q.symm) (fun k q=>⟨fun q2=>h3 (by rw [← q2];exact q),fun q2=>h.ne k q2.symm q⟩),h.bel.trans (hk.below h.bel.size h.blk h.rwb),h.blk,h.rlk,fun k q=>(hn k q).elim (fun q=>h.rwb k q) (fun q=>Nat.le_trans h.bel.size q),h.rrw,fun k q q2=>?_⟩
 rcases hn k q with q3 | q3
 ·exact h.ne k q3 q2
 ·have:=(h.rk.row_lt k q2).1;omega
theorem Pr.snd {rr':Option Nat} (h:Pr w0 w b row d r rr e) (hd:RR w' r rr' e') (hn:Nw w rr rr') (hk:Kb r rr w w'):Pr w0 w' b row d r rr' e':=by
 obtain ⟨h1,h2,h3,_,h5⟩:=h.bt
 refine ⟨h.dd.kb hk h1 (fun q=>h3 q.symm) (fun k q=>⟨fun q2=>h2 (by rw [← q2];exact q),fun q2=>h.ne k q q2.symm⟩),hd,h.bel.trans (hk.below h.bel.size h.rlk h.rrw),h.blk,h.rlk,h.rwb,fun k q=>(hn k q).elim (fun q=>h.rrw k q) (fun q=>Nat.le_trans h.bel.size q),fun k q q2=>?_⟩
 rcases hn k q2 with q3 | q3
 ·exact h.ne k q q3
 ·have:=(h.dd.row_lt k q).1;omega
theorem Pr.dp (h:Pr w0 w b row d r rr e) (hp:DP v w b row d' x w'):x=.returned v∧Kb b row w w'∧∃ row',Pr w0 w' b row' d' r rr e:=by
 obtain ⟨he,row',h1,h2,h3⟩:=hp
 exact ⟨he,h3,row',h.fst h1 h2 h3⟩
theorem Pr.rp (h:Pr w0 w b row d r rr e) (hp:RKP v w r rr e' x w'):x=.returned v∧Kb r rr w w'∧∃ rr',Pr w0 w' b row d r rr' e':=by
 obtain ⟨he,rr',h1,h2,h3⟩:=hp
 exact ⟨he,h3,rr',h.snd h1 h2 h3⟩
theorem Pr.open (h:Pr w0 w b row d r rr e) (hp:ji6 w b row d x w') (hE:nO d=0) :
  ∃ row' g v,Pr w0 w' b row' (nM d) r rr e∧x=.returned (.tuple #[.pointer (some ⟨g,0,none⟩),v,.int .u16 0])∧Lg w' g b∧RRs w' w.heap.size v (nY (kX d.bs))∧Kb b row w w':=by
 obtain ⟨row',h1,h2,h3,⟨_,g,v,he,hg,hl,hr⟩ | ⟨hne,_⟩⟩:=hp
 ·exact ⟨row',g,v,h.fst h1 h2 h3,he,hl,hr,h3⟩
 ·exact absurd hE hne
theorem Pr.ropen (h:Pr w0 w b row d r rr e) (hp:je5 w r rr e x w') (hE:nO e=0) :
  ∃ rr' g v,Pr w0 w' b row d r rr' (nM e)∧x=.returned (.tuple #[.pointer (some ⟨g,0,none⟩),v,.int .i64 0])∧RLg w' g r∧RRs w' w.heap.size v (nY (kX e.bs))∧Kb r rr w w':=by
 obtain ⟨rr',h1,h2,h3,⟨_,g,v,he,hg,hl,hr⟩ | ⟨hne,_⟩⟩:=hp
 ·exact ⟨rr',g,v,h.snd h1 h2 h3,he,hl,hr,h3⟩
 ·exact absurd hE hne
end
end Go.Proofs.YtgfkgppomaapiaaGreatDoor.K
end
namespace Go.Proofs.YtgfkgppomaapiaaGreatDoor.K
open RowKit YtgfkgppomaapiaaGreatDoorW.PrintWords YtgfkgppomaapiaaGreatDoorW.PrintLast YtgfkgppomaapiaaGreatDoorW.PrintMore My
section
theorem RLg.below {w w':World} {g b:Nat} (h:RLg w g b) (hb:Below w.heap.size w w'):RLg w' g b:=iI hb h
theorem RLg.kb {w w':World} {g b:Nat} {row:Option Nat} {d:DM} (h:RLg w g b) (hd:RR w b row d) (hk:Kb b row w w'):RLg w' g b:=hd.stays hk h (by decide) (by decide)
attribute [-go_sem] Instr.build Instr.storeAt
set_option maxRecDepth 20000 in
set_option maxHeartbeats 8000000 in
theorem OL {w:World} {b g:Nat} {row:Option Nat} {d:DM} {r:SRec} {A3 A4 A6 A9:Option Addr} {a3 a4 a6 a9:Nat} (h:RR w b row d) (hg:RLg w g b) (hr:Lies w r A3 a3 A4 a4 A6 a6 A9 a9) :
  Calls Tryz.prog 17 #[.pointer (some ⟨g,0,none⟩),.agg #[.int .u8 r.f0,.int .u32 r.f1,.int .u32 r.f2,.slice A3 r.f3.length a3,.slice A4 r.f4.length a4,.int .u32 r.f5.f0,.slice A6 r.f5.f1.length a6,.int .i64 r.f6,.int .i64 r.f7,.slice A9 r.f8.length a9]] w (RKP (.int .i64 (nX d r)) w b row (lY d r)):=by
 obtain ⟨W,hW⟩:∃ W,W=w.alloc (.cells #[.int .u8 r.f0,.int .u32 r.f1,.int .u32 r.f2,.slice A3 r.f3.length a3,.slice A4 r.f4.length a4,.int .u32 r.f5.f0,.slice A6 r.f5.f1.length a6,.int .i64 r.f6,.int .i64 r.f7,.slice A9 r.f8.length a9] 54):=⟨_,rfl⟩
 have hb:Below w.heap.size w W:=by rw [hW];exact iD (Below.refl _ _) _
 have HX:=iC.mk (show W.heap[w.heap.size]? = some (.cells #[.int .u8 r.f0,.int .u32 r.f1,.int .u32 r.f2,.slice A3 r.f3.length a3,.slice A4 r.f4.length a4,.int .u32 r.f5.f0,.slice A6 r.f5.f1.length a6,.int .i64 r.f6,.int .i64 r.f7,.slice A9 r.f8.length a9] 54 (0,0)) from by rw [hW];exact iP rfl)
 have HD:=iC.mk (h.below hb)
 have HG:=iC.mk (hg.below hb)
 have HL:=iC.mk (hr.below hb)
 have HB:=iC.mk hb
 have HW:=iC.mk hW
 have HLT:=iC.mk h.lt
 have HLT2:=iC.mk (show b<W.heap.size from HD.out.lt)
 clear h hg hr hb hW
 obtain ⟨⟨E1,E2⟩,hE⟩:∃ E:List Int × Int,encR r=E:=⟨_,rfl⟩
 have hcall:=IG HL.out hE
 have hcs:=oP r
 have HE:=iC.mk hE
 rw [hE] at hcs
 have HCS:=iC.mk hcs
 clear hE hcs
 go_enter Tryz.func17,Tryz.ntmps17
 go_upto_region 1 with fail
 rw [← HW.out]
 obtain ⟨wz0,wz1,wz2,wz3,wz4,wz5,wz6,wz7,wz8,wz9,wy0,wy1,wy2,wy3,wy4,wy5,wy6,wy7,wy8,wy9⟩:=ten (HX.out)
 clear wy0 wy1 wy2 wy3 wy4 wy5 wy6 wy7 wy8 wy9
 go_wp2_with fail
 go_at_call 44
 refine hcall.mono ?_
 rintro e w1 ⟨v0,rfl,h0,hb1⟩
 obtain ⟨A0,c0,rfl⟩:=Kd.R_slice h0
 obtain ⟨_,q0,C0⟩:=Kd.R_reads' h0
 have HD1:=iC.mk (HD.out.below hb1)
 have HG1:=iC.mk (HG.out.below hb1)
 have HB1:=iC.mk (iH HB.out hb1)
 have hcs:=HCS.out
 clear hcall h0 hb1 wz0 wz1 wz2 wz3 wz4 wz5 wz6 wz7 wz8 wz9 HX HL HD HG HB
 have hbad:∀ E,E≠0→(encR r).2=E→RKP (.int .i64 (nX d r)) w b row (lY d r) (.returned (.int .i64 E)) w1:=fun E h0 hE=>by
  unfold nX lY
  rw [hE,if_neg h0,if_neg h0]
  exact ⟨rfl,row,HD1.out,Nw.refl _ _,Kb.of_below HB1.out⟩
 rcases hcs with hc | hc | hc
 ·obtain ⟨rfl,rfl⟩:=Prod.mk.inj hc
  have HBAD:=iC.mk (hbad 1 (by decide) (by rw [HE.out]))
  clear hc hbad C0 q0
  go_wp2
  go_ret
  exact HBAD.out
 ·obtain ⟨rfl,rfl⟩:=Prod.mk.inj hc
  have HBAD:=iC.mk (hbad 3 (by decide) (by rw [HE.out]))
  clear hc hbad C0 q0
  go_wp2
  go_ret
  exact HBAD.out
 ·obtain ⟨rfl,rfl⟩:=Prod.mk.inj hc
  have hlen:(nums (recE r)).length=(recE r).length:=jM _
  have hsh:=zU HE.out
  rw [hlen] at q0 C0
  have hwrap:=II A0 c0 (recE r) w1 (vF C0) q0 hsh
  have HSH:=iC.mk hsh
  rw [hlen]
  clear hc hbad C0 q0 hlen hsh
  go_wp2_with fail
  go_at_call 45
  refine hwrap.mono ?_
  rintro e w2 ⟨vw,rfl,hO,hb2⟩
  have hbase:=fun k=>Kd.R_base hO k
  obtain ⟨Aw,cw,rfl,hcw,hCw⟩:=hO.reads
  have HD2:=iC.mk (HD1.out.below hb2)
  have HB2:=iC.mk (iH HB1.out hb2)
  have hz:=(iG (HG1.out.below hb2) 0).trans (show _=some (Value.pointer (some ⟨b,0,none⟩)) from rfl)
  have hwl:=qH (recE r)
  have hlt:=HD1.out.1.lt
  have happ:=jc_ (c:=cw) HD2.out hCw (fun a e _ hab=>by subst e;have:=hbase a.block rfl;omega) (by have:=HSH.out;omega)
  have HF:=iC.mk (show ∀ e' w',RKP (.int .i64 (d.appE (kT (recE r)))) w2 b row (d.app (kT (recE r))) e' w'→RKP (.int .i64 (nX d r)) w b row (lY d r) e' w' from fun e' w' hp=>by
   unfold nX lY
   rw [HE.out,if_pos rfl,if_pos rfl]
   obtain ⟨he,row',h1,h2,h3⟩:=hp
   exact ⟨he,row',h1,h2.older HB2.out.size,(Kb.of_below (b:=b) (row:=row) HB2.out).then h3 (Nw.refl _ _)⟩)
  generalize kT (recE r)=L at happ hcw hCw hwl HF
  obtain ⟨E,hEE⟩:∃ E,E=d.appE L:=⟨_,rfl⟩
  rw [← hEE] at happ HF
  clear hwrap hO hb2 hcw hCw hwl hlt HD1 HG1 HB1 hbase hEE
  go_wp2_with fail
  go_at_call 9
  refine happ.mono ?_
  rintro e w3 ⟨rfl,hp⟩
  have HP:=iC.mk (HF.out _ _ ⟨rfl,hp⟩)
  clear happ hp HF
  go_wp2
  go_ret
  exact HP.out
set_option maxRecDepth 20000 in
set_option maxHeartbeats 8000000 in
theorem VQ {w:World} {b g:Nat} {row:Option Nat} {d:DM} {r:SRec} {A3 A4 A6 A9:Option Addr} {a3 a4 a6 a9:Nat} (h:RR w b row d) (hg:RLg w g b) (hr:Lies w r A3 a3 A4 a4 A6 a6 A9 a9) :
  Calls Tryz.prog 19 #[.pointer (some ⟨g,0,none⟩),.agg #[.int .u8 r.f0,.int .u32 r.f1,.int .u32 r.f2,.slice A3 r.f3.length a3,.slice A4 r.f4.length a4,.int .u32 r.f5.f0,.slice A6 r.f5.f1.length a6,.int .i64 r.f6,.int .i64 r.f7,.slice A9 r.f8.length a9]] w (RKP (.int .i64 (nD d r)) w b row (mX d r)):=by
 obtain ⟨W,hW⟩:∃ W,W=w.alloc (.cells #[.int .u8 r.f0,.int .u32 r.f1,.int .u32 r.f2,.slice A3 r.f3.length a3,.slice A4 r.f4.length a4,.int .u32 r.f5.f0,.slice A6 r.f5.f1.length a6,.int .i64 r.f6,.int .i64 r.f7,.slice A9 r.f8.length a9] 54):=⟨_,rfl⟩
 have hb:Below w.heap.size w W:=by rw [hW];exact iD (Below.refl _ _) _
 have HX:=iC.mk (show W.heap[w.heap.size]? = some (.cells #[.int .u8 r.f0,.int .u32 r.f1,.int .u32 r.f2,.slice A3 r.f3.length a3,.slice A4 r.f4.length a4,.int .u32 r.f5.f0,.slice A6 r.f5.f1.length a6,.int .i64 r.f6,.int .i64 r.f7,.slice A9 r.f8.length a9] 54 (0,0)) from by rw [hW];exact iP rfl)
 have HD:=iC.mk (h.below hb)
 have HG:=iC.mk (hg.below hb)
 have HL:=iC.mk (hr.below hb)
 have HB:=iC.mk hb
 have HW:=iC.mk hW
 clear h hg hr hb hW
 have hz:=(iG HG.out 0).trans (show _=some (Value.pointer (some ⟨b,0,none⟩)) from rfl)
 obtain ⟨ao,cap,hDc,hRc⟩:=HD.out.1
 have hz0:=hDc.c0
 clear hDc hRc
 go_enter Tryz.func19,Tryz.ntmps19
 go_upto_region 1 with fail
 rw [← HW.out]
 clear HW
 have HX1:=HX
 have HD1:=HD
 have HG1:=HG
 have HB1:=HB
 have hcall:=OL HD1.out HG1.out HL.out
 have hE0:=xO d r
 obtain ⟨E,hE⟩:∃ E,nX d r=E:=⟨_,rfl⟩
 have HE:=iC.mk hE
 rw [hE] at hcall hE0
 have hE1:=hE0.1
 have hE2:=hE0.2
 clear HX HD HG HL HB hE hE0
 obtain ⟨wz0,wz1,wz2,wz3,wz4,wz5,wz6,wz7,wz8,wz9,wy0,wy1,wy2,wy3,wy4,wy5,wy6,wy7,wy8,wy9⟩:=ten (HX1.out)
 clear wy0 wy1 wy2 wy3 wy4 wy5 wy6 wy7 wy8 wy9
 go_wp2_with fail
 go_at_call 17
 refine hcall.mono ?_
 rintro e w2 ⟨rfl,row2,hD2,hn2,hk2⟩
 have HD2:=iC.mk hD2
 have HG2:=iC.mk (HG1.out.kb HD1.out hk2)
 have HN2:=iC.mk (hn2.older (w:=w) HB1.out.size)
 have HK2:=iC.mk ((Kb.of_below (b:=b) (row:=row) HB1.out).then hk2 (Nw.refl _ _))
 clear hcall hD2 hn2 hk2 HX1 HD1 HG1 HB1 wz0 wz1 wz2 wz3 wz4 wz5 wz6 wz7 wz8 wz9
 by_cases h0:E=0
 ·subst h0
  have hsync:=NE HD2.out
  have hS:=(lZ (lY d r) 0).2
  have HFE:=iC.mk (show nD d r=(lY d r).syncE from by unfold nD;rw [if_pos HE.out])
  have HFD:=iC.mk (show mX d r=if (lY d r).syncE=0 then (lY d r).sync else (lY d r).sync.cut d.bs.length from by unfold mX;rw [if_pos HE.out])
  obtain ⟨S,hSE⟩:∃ S,S=(lY d r).syncE:=⟨_,rfl⟩
  rw [← hSE] at hsync hS HFE HFD
  have hz:=(iG HG2.out 0).trans (show _=some (Value.pointer (some ⟨b,0,none⟩)) from rfl)
  clear hSE hE1 hE2
  go_wp2_with fail
  go_at_call 36
  refine hsync.mono ?_
  rintro e w3 ⟨rfl,row3,hD3,hn3,hk3⟩
  have HD3:=iC.mk hD3
  have HG3:=iC.mk (HG2.out.kb HD2.out hk3)
  have HN3:=iC.mk (HN2.out.trans HK2.out.size hn3)
  have HK3:=iC.mk (HK2.out.then hk3 HN2.out)
  clear hsync hD3 hn3 hk3 HD2 HG2 HN2 HK2 hz
  by_cases hS0:S=0
  ·subst hS0
   clear hS
   go_wp2
   go_ret
   exact ⟨by rw [HFE.out];rfl,row3,by rw [HFD.out,if_pos (by trivial)];exact HD3.out,HN3.out,HK3.out⟩
  ·obtain rfl:=hS.resolve_left hS0
   have hcut:=jk8 (d.bs.length:Int) HD3.out
   have hz:=(iG HG3.out 0).trans (show _=some (Value.pointer (some ⟨b,0,none⟩)) from rfl)
   clear hS hS0
   go_wp2_with fail
   go_at_call 35
   refine hcut.mono ?_
   rintro e w4 ⟨rfl,row4,hD4,hn4,hk4⟩
   have HD4:=iC.mk hD4
   have HN4:=iC.mk (HN3.out.trans HK3.out.size hn4)
   have HK4:=iC.mk (HK3.out.then hk4 HN3.out)
   clear hcut hD4 hn4 hk4 hz
   go_wp2
   go_ret
   exact ⟨by rw [HFE.out];rfl,row4,by rw [HFD.out,if_neg (by decide)];exact HD4.out,HN4.out,HK4.out⟩
 ·have HFE:=iC.mk (show nD d r=E from by unfold nD;rw [HE.out,if_neg h0])
  have HFD:=iC.mk (show mX d r=lY d r from by unfold mX;rw [HE.out,if_neg h0])
  go_wp2
  go_ret
  exact ⟨by rw [HFE.out];rfl,row2,by rw [HFD.out];exact HD2.out,HN2.out,HK2.out⟩
end
section
def QJ (w:World) (r:SRec) (e:Ending) (w':World):Prop:=∃ A3 a3 A4 a4 A6 a6 A9 a9,e=.returned (.agg #[.int .u8 r.f0,.int .u32 r.f1,.int .u32 r.f2,.slice A3 r.f3.length a3,.slice A4 r.f4.length a4,.int .u32 r.f5.f0,.slice A6 r.f5.f1.length a6,.int .i64 r.f6,.int .i64 r.f7,.slice A9 r.f8.length a9])∧Owns w.heap.size w' r A3 a3 A4 a4 A6 a6 A9 a9∧Below w.heap.size w w'
theorem XV {tmps:Array Value} {W:World} {p:Tmp} {b:Nat} {cs:Array Value} (h:Tryz.f16.results = #[.cell p 54]) (hp:tmps.getD p undef=.pointer (some ⟨b,0,none⟩)) (hx:W.heap[b]? = some (.cells cs 54 (0,0))) (hs:cs.size=10) :
  (results Tryz.f16 tmps).run Tryz.prog W=.ok (.agg cs) W:=by
 exact results_cell_row h _ _ _ _ _ _ _ hp hx Tryz.underlying54 rfl (by rw [hs];kernel_rfl)
attribute [-go_sem] Instr.build Instr.storeAt
def HvP (n:Nat) (w:World) (e:Ending) (w':World):Prop:=∃ B:Bool,e=.returned (.bool B)∧(B=false→(n:Int)≤40)∧Below w.heap.size w w'
attribute [-go_sem] Instr.loadAt
set_option maxRecDepth 20000 in
set_option maxHeartbeats 4000000 in
theorem jj_ (A:Option Addr) (c:Nat) (l:List SOp) (w:World) (h:kOp.C w A l.length l) :
  Calls Tryz.prog 14 #[.slice A l.length c] w (HvP l.length w):=by
 have hm:=lD h
 have H:=iC.mk h
 clear h
 go_enter Tryz.func14,Tryz.ntmps14
 go_wp2
 go_loopw [3,4] (fun x i wr=>∃ (k:Nat) (v:Int),k≤l.length∧i=.int .i64 k∧x=.int .i64 v∧iC (Below w.heap.size w wr)) (fun _ i _=>l.length - (intOf i).toNat)
 case atStart=>exact ⟨0,0,Nat.zero_le _,rfl,rfl,⟨Below.refl _ _⟩⟩
 case round =>
  obtain ⟨k,v,hk,rfl,rfl,HB⟩:=hrel
  by_cases hlt:k<l.length
  ·obtain ⟨ad,A3,a3,A4,a4,A6,a6,A9,a9,rfl,hL,hld0,hld,hc0,hc1⟩:=jo6 (Kd.C_below H.out HB.out) k hlt
   obtain ⟨hv,hcall⟩:=VH hL
   clear hL hld0 hc0 hc1
   generalize l.getD k default=o at hcall hld
   have hk1:(k:Int)<(l.length:Int):=by omega
   obtain ⟨wr0,rfl⟩:∃ x:World,x=wr:=⟨_,rfl⟩
   go_wp2_with fail
   go_at_call 40
   refine hcall.mono ?_
   rintro e w2 ⟨rfl,hb2⟩
   have HB2:=iC.mk (iH HB.out hb2)
   clear hcall hb2 hld
   go_wp2
   go_roundw
   case rel=>exact ⟨k+1,_,by omega,by go_num,rfl,HB2⟩
   case measure=>simp [intOf];omega
  ·obtain rfl:k=l.length:=by omega
   by_cases h40:(l.length:Int) > 40
   ·go_wp2
    go_ret
    exact ⟨true,rfl,fun h=>(by cases h),HB.out⟩
   ·have H40:=iC.mk h40
    by_cases h3:v > 3000
    ·go_wp2
     go_ret
     exact ⟨true,rfl,fun h=>(by cases h),HB.out⟩
    ·go_wp2
     go_ret
     exact ⟨false,rfl,fun _=>(by have:=H40.out;omega),HB.out⟩
end
section
theorem VW:SLen mJ:=⟨by decide,by decide,by decide,by decide⟩
theorem ZF (l:List UInt8):SLen (decR l).1:=by
 rcases jf6 l with ⟨_,h⟩ | ⟨x,h,hs,_⟩
 ·rw [h];exact VW
 ·rw [h];exact VI x hs
end
section
set_option maxRecDepth 20000 in
set_option maxHeartbeats 4000000 in
theorem ZZ {w:World} {x:SRec} {A3 A4 A6 A9 B3 B4 B6 B9:Option Addr} {a3 a4 a6 a9 b3 b4 b6 b9:Nat} (h:Lies w x A3 a3 A4 a4 A6 a6 A9 a9) (g:Lies w x B3 b3 B4 b4 B6 b6 B9 b9) (hx:SLen x) :
  Calls Tryz.prog 37 #[.agg #[.int .u8 x.f0,.int .u32 x.f1,.int .u32 x.f2,.slice A3 x.f3.length a3,.slice A4 x.f4.length a4,.int .u32 x.f5.f0,.slice A6 x.f5.f1.length a6,.int .i64 x.f6,.int .i64 x.f7,.slice A9 x.f8.length a9],.agg #[.int .u8 x.f0,.int .u32 x.f1,.int .u32 x.f2,.slice B3 x.f3.length b3,.slice B4 x.f4.length b4,.int .u32 x.f5.f0,.slice B6 x.f5.f1.length b6,.int .i64 x.f6,.int .i64 x.f7,.slice B9 x.f8.length b9]] w fun e w'=>e=.returned (.bool true)∧Below w.heap.size w w':=by
 obtain ⟨W,hW⟩:∃ W,W=(w.alloc (.cells #[.int .u8 x.f0,.int .u32 x.f1,.int .u32 x.f2,.slice A3 x.f3.length a3,.slice A4 x.f4.length a4,.int .u32 x.f5.f0,.slice A6 x.f5.f1.length a6,.int .i64 x.f6,.int .i64 x.f7,.slice A9 x.f8.length a9] 54)).alloc (.cells #[.int .u8 x.f0,.int .u32 x.f1,.int .u32 x.f2,.slice B3 x.f3.length b3,.slice B4 x.f4.length b4,.int .u32 x.f5.f0,.slice B6 x.f5.f1.length b6,.int .i64 x.f6,.int .i64 x.f7,.slice B9 x.f8.length b9] 54):=⟨_,rfl⟩
 have hb:Below w.heap.size w W:=by rw [hW];exact iD (iD (Below.refl _ _) _) _
 have HX:=iC.mk (show W.heap[w.heap.size]? = some (.cells #[.int .u8 x.f0,.int .u32 x.f1,.int .u32 x.f2,.slice A3 x.f3.length a3,.slice A4 x.f4.length a4,.int .u32 x.f5.f0,.slice A6 x.f5.f1.length a6,.int .i64 x.f6,.int .i64 x.f7,.slice A9 x.f8.length a9] 54 (0,0)) from by rw [hW];exact jI (iP rfl))
 have HY:=iC.mk (show W.heap[w.heap.size+1]? = some (.cells #[.int .u8 x.f0,.int .u32 x.f1,.int .u32 x.f2,.slice B3 x.f3.length b3,.slice B4 x.f4.length b4,.int .u32 x.f5.f0,.slice B6 x.f5.f1.length b6,.int .i64 x.f6,.int .i64 x.f7,.slice B9 x.f8.length b9] 54 (0,0)) from by rw [hW];exact iP (by simp))
 have HA:=iC.mk (h.below hb)
 have HBB:=iC.mk (g.below hb)
 have HB:=iC.mk hb
 have HW:=iC.mk hW
 obtain ⟨t3,e3,f3⟩:=QH x.f3 x.f3 hx.n3
 obtain ⟨t4,e4,f4⟩:=OE x.f4 x.f4 hx.n4 hx.n4
 obtain ⟨t6,e6,f6⟩:=UO x.f5.f0 x.f5.f0 x.f5.f1 x.f5.f1 hx.n6
 have e9:=J8 x.f8 x.f8 hx.n9 hx.n9
 obtain rfl:=f3.2 rfl
 obtain rfl:=f4.2 rfl
 obtain rfl:=f6.2 ⟨rfl,rfl⟩
 rw [decide_eq_true rfl] at e9
 obtain ⟨k3,r3⟩:=e3.rounds
 obtain ⟨k4,r4⟩:=e4.rounds
 obtain ⟨k6,r6⟩:=e6.rounds
 have h3:=stratumref07_SameInts.calls k3 A3 a3 x.f3 B3 b3 x.f3 true W HA.out.h3 HA.out.d3 HBB.out.h3 HBB.out.d3 r3
 have h4:=fun w2 (hb:Below W.heap.size W w2)=>stratumref07_SameFacts.calls k4 A4 a4 x.f4 B4 b4 x.f4 true w2 (HA.out.below hb).h4 HA.out.d4 (HBB.out.below hb).h4 HBB.out.d4 r4
 have h6:=fun w2 (hb:Below W.heap.size W w2)=>stratumref07_SameMap.calls k6 x.f5.f0 A6 a6 x.f5.f1 x.f5.f0 B6 b6 x.f5.f1 true w2 (HA.out.below hb).h6 HA.out.d6 (HBB.out.below hb).h6 HBB.out.d6 r6
 have h9:=fun w2 (hb:Below W.heap.size W w2)=>stratumref07_SameEntries.calls A9 a9 x.f8 B9 b9 x.f8 true w2 (HA.out.below hb).h9 HA.out.d9 (HBB.out.below hb).h9 HBB.out.d9 e9
 have H4:=iC.mk h4
 have H6:=iC.mk h6
 have H9:=iC.mk h9
 clear h g hb hW f3 f4 f6 e3 e4 e6 e9 r3 r4 r6 h4 h6 h9
 go_enter Tryz.func37,Tryz.ntmps37
 go_upto_region 1 with fail
 rw [← HW.out]
 clear HW
 obtain ⟨wz0,wz1,wz2,wz3,wz4,wz5,wz6,wz7,wz8,wz9,wy0,wy1,wy2,wy3,wy4,wy5,wy6,wy7,wy8,wy9⟩:=ten (HX.out)
 obtain ⟨xz0,xz1,xz2,xz3,xz4,xz5,xz6,xz7,xz8,xz9,xy0,xy1,xy2,xy3,xy4,xy5,xy6,xy7,xy8,xy9⟩:=ten (HY.out)
 clear wy0 wy1 wy2 wy3 wy4 wy5 wy6 wy7 wy8 wy9 xy0 xy1 xy2 xy3 xy4 xy5 xy6 xy7 xy8 xy9
 go_wp2_with fail
 go_at_call 55
 refine h3.mono ?_
 rintro e w1 ⟨rfl,hd⟩
 have HB1:=iC.mk hd.below
 clear h3 hd wz0 wz1 wz2 wz3 wz4 wz5 wz6 wz7 wz8 wz9 xz0 xz1 xz2 xz3 xz4 xz5 xz6 xz7 xz8 xz9
 have h4:=H4.out w1 HB1.out
 obtain ⟨wz0,wz1,wz2,wz3,wz4,wz5,wz6,wz7,wz8,wz9,wy0,wy1,wy2,wy3,wy4,wy5,wy6,wy7,wy8,wy9⟩:=ten (iI HB1.out HX.out)
 obtain ⟨xz0,xz1,xz2,xz3,xz4,xz5,xz6,xz7,xz8,xz9,xy0,xy1,xy2,xy3,xy4,xy5,xy6,xy7,xy8,xy9⟩:=ten (iI HB1.out HY.out)
 clear wy0 wy1 wy2 wy3 wy4 wy5 wy6 wy7 wy8 wy9 xy0 xy1 xy2 xy3 xy4 xy5 xy6 xy7 xy8 xy9
 go_wp2_with fail
 go_at_call 56
 refine h4.mono ?_
 rintro e w2 ⟨rfl,hb2⟩
 have HB2:=iC.mk (iH HB1.out hb2)
 clear h4 hb2 wz0 wz1 wz2 wz3 wz4 wz5 wz6 wz7 wz8 wz9 xz0 xz1 xz2 xz3 xz4 xz5 xz6 xz7 xz8 xz9
 have h6:=H6.out w2 HB2.out
 obtain ⟨wz0,wz1,wz2,wz3,wz4,wz5,wz6,wz7,wz8,wz9,wy0,wy1,wy2,wy3,wy4,wy5,wy6,wy7,wy8,wy9⟩:=ten (iI HB2.out HX.out)
 obtain ⟨xz0,xz1,xz2,xz3,xz4,xz5,xz6,xz7,xz8,xz9,xy0,xy1,xy2,xy3,xy4,xy5,xy6,xy7,xy8,xy9⟩:=ten (iI HB2.out HY.out)
 clear wy0 wy1 wy2 wy3 wy4 wy5 wy6 wy7 wy8 wy9 xy0 xy1 xy2 xy3 xy4 xy5 xy6 xy7 xy8 xy9
 go_wp2_with fail
 go_at_call 57
 refine h6.mono ?_
 rintro e w3 ⟨rfl,hb3⟩
 have HB3:=iC.mk (iH HB2.out hb3)
 clear h6 hb3 wz0 wz1 wz2 wz3 wz4 wz5 wz6 wz7 wz8 wz9 xz0 xz1 xz2 xz3 xz4 xz5 xz6 xz7 xz8 xz9
 have h9:=H9.out w3 HB3.out
 obtain ⟨wz0,wz1,wz2,wz3,wz4,wz5,wz6,wz7,wz8,wz9,wy0,wy1,wy2,wy3,wy4,wy5,wy6,wy7,wy8,wy9⟩:=ten (iI HB3.out HX.out)
 obtain ⟨xz0,xz1,xz2,xz3,xz4,xz5,xz6,xz7,xz8,xz9,xy0,xy1,xy2,xy3,xy4,xy5,xy6,xy7,xy8,xy9⟩:=ten (iI HB3.out HY.out)
 clear wy0 wy1 wy2 wy3 wy4 wy5 wy6 wy7 wy8 wy9 xy0 xy1 xy2 xy3 xy4 xy5 xy6 xy7 xy8 xy9
 go_wp2_with fail
 go_at_call 58
 refine h9.mono ?_
 rintro e w4 ⟨rfl,hb4⟩
 clear h9
 go_wp2
 go_ret
 exact ⟨rfl,iH HB.out (iH HB3.out hb4)⟩
end
section
theorem je8 {w:World} {A:Option Addr} {n:Nat} {l:List SRec} (h:kR.C w A n l) (i:Nat) (hi:i<n) :
  ∃ ad A3 a3 A4 a4 A6 a6 A9 a9,A=some ad∧Lies w (l.getD i default) A3 a3 A4 a4 A6 a6 A9 a9 ∧
   ∀ w',Below w.heap.size w w'→True→(Instr.loadAt 54 (.pointer (some (ad.add (i * 10))))).run Tryz.prog w'=.ok (.agg #[.int .u8 (l.getD i default).f0,.int .u32 (l.getD i default).f1,.int .u32 (l.getD i default).f2,.slice A3 (l.getD i default).f3.length a3,.slice A4 (l.getD i default).f4.length a4,.int .u32 (l.getD i default).f5.f0,.slice A6 (l.getD i default).f5.f1.length a6,.int .i64 (l.getD i default).f6,.int .i64 (l.getD i default).f7,.slice A9 (l.getD i default).f8.length a9]) w':=by
 obtain ⟨ad,c,e,_,hK,hc0⟩:=Kd.C_get h default (i:Int) (by omega) (by omega)
 rw [Int.toNat_natCast] at hK hc0
 have hc:∀ j u,c[j]? = some u→w.cell? (ad.add (i * 10+j))=some u:=hc0
 obtain ⟨A3,a3,A4,a4,A6,a6,A9,a9,rfl,hL⟩:=PH hK
 refine ⟨ad,A3,a3,A4,a4,A6,a6,A9,a9,e,hL,fun w' hb _=>?_⟩
 exact rF w' _ _ #[.int .u8 (l.getD i default).f0,.int .u32 (l.getD i default).f1,.int .u32 (l.getD i default).f2,.slice A3 (l.getD i default).f3.length a3,.slice A4 (l.getD i default).f4.length a4,.int .u32 (l.getD i default).f5.f0,.slice A6 (l.getD i default).f5.f1.length a6,.int .i64 (l.getD i default).f6,.int .i64 (l.getD i default).f7,.slice A9 (l.getD i default).f8.length a9].toList _ (fun j v hj=>by
  rw [Go.Deep.add_add]
  have h1:=hc j v hj
  exact (hb.cell (World.block_lt_of_cell? _ _ h1)).trans h1) Tryz.underlying54 rfl (by kernel_rfl)
attribute [-go_sem] Instr.build Instr.storeAt Instr.loadAt
set_option maxRecDepth 20000 in
set_option maxHeartbeats 4000000 in
theorem jn_ (A B:Option Addr) (c d:Nat) (l:List SRec) (w:World) (h:kR.C w A l.length l) (g:kR.C w B l.length l) (hs:∀ x∈l,SLen x) :
  Calls Tryz.prog 12 #[.slice A l.length c,.slice B l.length d] w fun e w'=>e=.returned (.bool true)∧Below w.heap.size w w':=by
 have hm:=lD h
 have H:=iC.mk h
 have G:=iC.mk g
 have HS:=iC.mk hs
 clear h g hs
 go_enter Tryz.func12,Tryz.ntmps12
 go_wp2
 go_loopw [5] (fun i wr=>∃ k:Nat,k≤l.length∧i=.int .i64 k∧iC (Below w.heap.size w wr)) (fun i _=>l.length - (intOf i).toNat)
 case atStart=>exact ⟨0,Nat.zero_le _,rfl,⟨Below.refl _ _⟩⟩
 case round =>
  obtain ⟨k,hk,rfl,HB⟩:=hrel
  by_cases hlt:k<l.length
  ·obtain ⟨ad,A3,a3,A4,a4,A6,a6,A9,a9,rfl,hL,hx⟩:=je8 (Kd.C_below H.out HB.out) k hlt
   obtain ⟨bd,B3,b3,B4,b4,B6,b6,B9,b9,rfl,hM,hy⟩:=je8 (Kd.C_below G.out HB.out) k hlt
   have hmem:l.getD k default∈l:=by rw [List.getD_eq_getElem?_getD,List.getElem?_eq_getElem hlt];exact List.getElem_mem hlt
   have HSS:=iC.mk (HS.out _ hmem)
   generalize l.getD k default=x at hL hx hM hy HSS
   have HL:=iC.mk hL
   have HM:=iC.mk hM
   have HXX:=iC.mk hx
   have HYY:=iC.mk hy
   have hk1:(k:Int)<(l.length:Int):=by omega
   clear hL hM hx hy hmem
   obtain ⟨wr0,rfl⟩:∃ x:World,x=wr:=⟨_,rfl⟩
   go_wp2_with fail
   refine vT [18,19,20,21,22,23,24,25,26,6] [fun v _=>v=(.slice (some ad) l.length c),fun v _=>v=(.int .i64 (k:Int)),fun v _=>v=(.pointer (some (ad.add (k * 10)))),fun v _=>v=(.agg #[.int .u8 x.f0,.int .u32 x.f1,.int .u32 x.f2,.slice A3 x.f3.length a3,.slice A4 x.f4.length a4,.int .u32 x.f5.f0,.slice A6 x.f5.f1.length a6,.int .i64 x.f6,.int .i64 x.f7,.slice A9 x.f8.length a9]),fun v _=>v=(.slice (some bd) l.length d),fun v _=>v=(.int .i64 (k:Int)),fun v _=>v=(.pointer (some (bd.add (k * 10)))),fun v _=>v=(.agg #[.int .u8 x.f0,.int .u32 x.f1,.int .u32 x.f2,.slice B3 x.f3.length b3,.slice B4 x.f4.length b4,.int .u32 x.f5.f0,.slice B6 x.f5.f1.length b6,.int .i64 x.f6,.int .i64 x.f7,.slice B9 x.f8.length b9]),fun v _=>v=(.bool true),fun v _=>v=(.bool true)] [0,1,2,3,4,5,6,7,8,9] (true,[([],[]),([],[]),([0,1],[0,1]),([2],[2]),([],[]),([],[]),([4,5],[4,5]),([6],[6]),([3,7],[3,7]),([8,8,0,1,2,3,4,5,6,7,8],[8])]) [0,0,3,7,0,0,48,112,255,511] (by kernel_rfl) (by kernel_rfl) (by kernel_rfl) (by kernel_rfl) (by kernel_rfl) (by kernel_rfl) (by kernel_rfl) (by rfl) (by kernel_rfl) ?_ ?_ ?_
   ·exact (iU (jS _) (iU (jS _) (iU (jS _) (iU (jS _) (iU (jS _) (iU (jS _) (iU (jS _) (iU (jS _) (iU (jS _) (iU (jS _) vS))))))))))
   ·refine iJ ?_ ?_
    ·intro a w' vs hB hel hd
     have e0:a.tmps[0]? = some (.slice (some ad) l.length c):=(hel 0 (by kernel_rfl)).trans (by rfl)
     refine ⟨_,rfl,rfl,fun K hK=>?_⟩
     refine jC (w1:=w') (v:=.slice (some ad) l.length c) (by rfl) rfl ?_ (hK _ _ (by exact rfl) (Below.refl _ _))
     ·go_simp
      (try simp only [iO,iY])
      (try rfl)
      (try (unfold Go.RowKit.wrap64;omega))
    refine iJ ?_ ?_
    ·intro a w' vs hB hel hd
     have e5:a.tmps[5]? = some (.int .i64 (k:Int)):=(hel 5 (by kernel_rfl)).trans (by rfl)
     refine ⟨_,rfl,rfl,fun K hK=>?_⟩
     refine jC (w1:=w') (v:=.int .i64 (k:Int)) (by rfl) rfl ?_ (hK _ _ (by exact rfl) (Below.refl _ _))
     ·go_simp
      (try simp only [iO,iY])
      (try rfl)
      (try (unfold Go.RowKit.wrap64;omega))
    refine iJ ?_ ?_
    ·intro a w' vs hB hel hd
     obtain ⟨f18,r18⟩:=hd 0 (by kernel_rfl)
     have e18:a.tmps[18]? = some (.slice (some ad) l.length c):=f18.trans (congrArg some (r18:vs 0=(.slice (some ad) l.length c)))
     obtain ⟨f19,r19⟩:=hd 1 (by kernel_rfl)
     have e19:a.tmps[19]? = some (.int .i64 (k:Int)):=f19.trans (congrArg some (r19:vs 1=(.int .i64 (k:Int))))
     refine ⟨_,rfl,rfl,fun K hK=>?_⟩
     refine jC (w1:=w') (v:=.pointer (some (ad.add (k * 10)))) (by rfl) rfl ?_ (hK _ _ (by exact rfl) (Below.refl _ _))
     ·go_simp
      (try simp only [iO,iY])
      (try rfl)
      (try (unfold Go.RowKit.wrap64;omega))
    refine iJ ?_ ?_
    ·intro a w' vs hB hel hd
     obtain ⟨f20,r20⟩:=hd 2 (by kernel_rfl)
     have e20:a.tmps[20]? = some (.pointer (some (ad.add (k * 10)))):=f20.trans (congrArg some (r20:vs 2=(.pointer (some (ad.add (k * 10))))))
     have hz0:=HXX.out w' hB
     refine ⟨_,rfl,rfl,fun K hK=>?_⟩
     refine jC (w1:=w') (v:=.agg #[.int .u8 x.f0,.int .u32 x.f1,.int .u32 x.f2,.slice A3 x.f3.length a3,.slice A4 x.f4.length a4,.int .u32 x.f5.f0,.slice A6 x.f5.f1.length a6,.int .i64 x.f6,.int .i64 x.f7,.slice A9 x.f8.length a9]) (by rfl) rfl ?_ (hK _ _ (by exact rfl) (Below.refl _ _))
     ·go_simp
      (try simp only [iO,iY])
      (try rfl)
      (try (unfold Go.RowKit.wrap64;omega))
    refine iJ ?_ ?_
    ·intro a w' vs hB hel hd
     have e1:a.tmps[1]? = some (.slice (some bd) l.length d):=(hel 1 (by kernel_rfl)).trans (by rfl)
     refine ⟨_,rfl,rfl,fun K hK=>?_⟩
     refine jC (w1:=w') (v:=.slice (some bd) l.length d) (by rfl) rfl ?_ (hK _ _ (by exact rfl) (Below.refl _ _))
     ·go_simp
      (try simp only [iO,iY])
      (try rfl)
      (try (unfold Go.RowKit.wrap64;omega))
    refine iJ ?_ ?_
    ·intro a w' vs hB hel hd
     have e5:a.tmps[5]? = some (.int .i64 (k:Int)):=(hel 5 (by kernel_rfl)).trans (by rfl)
     refine ⟨_,rfl,rfl,fun K hK=>?_⟩
     refine jC (w1:=w') (v:=.int .i64 (k:Int)) (by rfl) rfl ?_ (hK _ _ (by exact rfl) (Below.refl _ _))
     ·go_simp
      (try simp only [iO,iY])
      (try rfl)
      (try (unfold Go.RowKit.wrap64;omega))
    refine iJ ?_ ?_
    ·intro a w' vs hB hel hd
     obtain ⟨f22,r22⟩:=hd 4 (by kernel_rfl)
     have e22:a.tmps[22]? = some (.slice (some bd) l.length d):=f22.trans (congrArg some (r22:vs 4=(.slice (some bd) l.length d)))
     obtain ⟨f23,r23⟩:=hd 5 (by kernel_rfl)
     have e23:a.tmps[23]? = some (.int .i64 (k:Int)):=f23.trans (congrArg some (r23:vs 5=(.int .i64 (k:Int))))
     refine ⟨_,rfl,rfl,fun K hK=>?_⟩
     refine jC (w1:=w') (v:=.pointer (some (bd.add (k * 10)))) (by rfl) rfl ?_ (hK _ _ (by exact rfl) (Below.refl _ _))
     ·go_simp
      (try simp only [iO,iY])
      (try rfl)
      (try (unfold Go.RowKit.wrap64;omega))
    refine iJ ?_ ?_
    ·intro a w' vs hB hel hd
     obtain ⟨f24,r24⟩:=hd 6 (by kernel_rfl)
     have e24:a.tmps[24]? = some (.pointer (some (bd.add (k * 10)))):=f24.trans (congrArg some (r24:vs 6=(.pointer (some (bd.add (k * 10))))))
     have hz0:=HYY.out w' hB
     refine ⟨_,rfl,rfl,fun K hK=>?_⟩
     refine jC (w1:=w') (v:=.agg #[.int .u8 x.f0,.int .u32 x.f1,.int .u32 x.f2,.slice B3 x.f3.length b3,.slice B4 x.f4.length b4,.int .u32 x.f5.f0,.slice B6 x.f5.f1.length b6,.int .i64 x.f6,.int .i64 x.f7,.slice B9 x.f8.length b9]) (by rfl) rfl ?_ (hK _ _ (by exact rfl) (Below.refl _ _))
     ·go_simp
      (try simp only [iO,iY])
      (try rfl)
      (try (unfold Go.RowKit.wrap64;omega))
    refine iJ ?_ ?_
    ·intro a w' vs hB hel hd
     obtain ⟨f21,r21⟩:=hd 3 (by kernel_rfl)
     have e21:a.tmps[21]? = some (.agg #[.int .u8 x.f0,.int .u32 x.f1,.int .u32 x.f2,.slice A3 x.f3.length a3,.slice A4 x.f4.length a4,.int .u32 x.f5.f0,.slice A6 x.f5.f1.length a6,.int .i64 x.f6,.int .i64 x.f7,.slice A9 x.f8.length a9]):=f21.trans (congrArg some (r21:vs 3=(.agg #[.int .u8 x.f0,.int .u32 x.f1,.int .u32 x.f2,.slice A3 x.f3.length a3,.slice A4 x.f4.length a4,.int .u32 x.f5.f0,.slice A6 x.f5.f1.length a6,.int .i64 x.f6,.int .i64 x.f7,.slice A9 x.f8.length a9])))
     obtain ⟨f25,r25⟩:=hd 7 (by kernel_rfl)
     have e25:a.tmps[25]? = some (.agg #[.int .u8 x.f0,.int .u32 x.f1,.int .u32 x.f2,.slice B3 x.f3.length b3,.slice B4 x.f4.length b4,.int .u32 x.f5.f0,.slice B6 x.f5.f1.length b6,.int .i64 x.f6,.int .i64 x.f7,.slice B9 x.f8.length b9]):=f25.trans (congrArg some (r25:vs 7=(.agg #[.int .u8 x.f0,.int .u32 x.f1,.int .u32 x.f2,.slice B3 x.f3.length b3,.slice B4 x.f4.length b4,.int .u32 x.f5.f0,.slice B6 x.f5.f1.length b6,.int .i64 x.f6,.int .i64 x.f7,.slice B9 x.f8.length b9])))
     refine ⟨_,rfl,rfl,fun K hK=>?_⟩
     refine oD Tryz.func37 (by kernel_rfl) rfl #[.agg #[.int .u8 x.f0,.int .u32 x.f1,.int .u32 x.f2,.slice A3 x.f3.length a3,.slice A4 x.f4.length a4,.int .u32 x.f5.f0,.slice A6 x.f5.f1.length a6,.int .i64 x.f6,.int .i64 x.f7,.slice A9 x.f8.length a9],.agg #[.int .u8 x.f0,.int .u32 x.f1,.int .u32 x.f2,.slice B3 x.f3.length b3,.slice B4 x.f4.length b4,.int .u32 x.f5.f0,.slice B6 x.f5.f1.length b6,.int .i64 x.f6,.int .i64 x.f7,.slice B9 x.f8.length b9]] (by rfl) rfl rfl (by first | (simp only [List.map_toArray,List.map_cons,List.map_nil,Act.eval,Array.getD_eq_getD_getElem?,Option.getD_some,e21,e25];done) | (simp only [List.map_toArray,List.map_cons,List.map_nil,Act.eval,Array.getD_eq_getD_getElem?,Option.getD_some,e21,e25];rfl)) ?_
     refine (ZZ (HL.out.below hB) (HM.out.below hB) HSS.out).mono ?_
     rintro e_ w2_ ⟨rfl,hb2_⟩
     exact ⟨_,rfl,hK _ _ (by exact rfl) hb2_⟩
    refine iJ ?_ ?_
    ·intro a w' vs hB hel hd
     obtain ⟨f26,r26⟩:=hd 8 (by kernel_rfl)
     have e26:a.tmps[26]? = some (.bool true):=f26.trans (congrArg some (r26:vs 8=(.bool true)))
     refine ⟨_,rfl,rfl,fun K hK=>?_⟩
     refine jC (w1:=w') (v:=.bool true) (by rfl) rfl ?_ (hK _ _ (by exact rfl) (Below.refl _ _))
     ·go_simp
      (try simp only [iO,iY])
      (try rfl)
      (try (unfold Go.RowKit.wrap64;omega))
    exact oV
   ·intro vs w' hB hR
    have hv0_:vs 0=(.slice (some ad) l.length c):=hR 0 (by kernel_rfl)
    have hv1_:vs 1=(.int .i64 (k:Int)):=hR 1 (by kernel_rfl)
    have hv2_:vs 2=(.pointer (some (ad.add (k * 10)))):=hR 2 (by kernel_rfl)
    have hv3_:vs 3=(.agg #[.int .u8 x.f0,.int .u32 x.f1,.int .u32 x.f2,.slice A3 x.f3.length a3,.slice A4 x.f4.length a4,.int .u32 x.f5.f0,.slice A6 x.f5.f1.length a6,.int .i64 x.f6,.int .i64 x.f7,.slice A9 x.f8.length a9]):=hR 3 (by kernel_rfl)
    have hv4_:vs 4=(.slice (some bd) l.length d):=hR 4 (by kernel_rfl)
    have hv5_:vs 5=(.int .i64 (k:Int)):=hR 5 (by kernel_rfl)
    have hv6_:vs 6=(.pointer (some (bd.add (k * 10)))):=hR 6 (by kernel_rfl)
    have hv7_:vs 7=(.agg #[.int .u8 x.f0,.int .u32 x.f1,.int .u32 x.f2,.slice B3 x.f3.length b3,.slice B4 x.f4.length b4,.int .u32 x.f5.f0,.slice B6 x.f5.f1.length b6,.int .i64 x.f6,.int .i64 x.f7,.slice B9 x.f8.length b9]):=hR 7 (by kernel_rfl)
    have hv8_:vs 8=(.bool true):=hR 8 (by kernel_rfl)
    have hv9_:vs 9=(.bool true):=hR 9 (by kernel_rfl)
    rw [show entries [18,19,20,21,22,23,24,25,26,6] vs=[(0,18,vs 0),(1,19,vs 1),(2,20,vs 2),(3,21,vs 3),(4,22,vs 4),(5,23,vs 5),(6,24,vs 6),(7,25,vs 7),(8,26,vs 8),(9,6,vs 9)] from rfl]
    simp only [jX,if_true,Act.put,sb_,sz_,ss_,hv0_,hv1_,hv2_,hv3_,hv4_,hv5_,hv6_,hv7_,hv8_,hv9_]
    clear hR hv0_ hv1_ hv2_ hv3_ hv4_ hv5_ hv6_ hv7_ hv8_ hv9_
    have HB2:=iC.mk (iH HB.out hB)
    go_wp2
    go_roundw
    case rel=>exact ⟨k+1,by omega,by go_num,HB2⟩
    case measure=>simp [intOf];omega
  ·obtain rfl:k=l.length:=by omega
   go_wp2
   go_ret
   exact ⟨rfl,HB.out⟩
end
section
structure OpW (o:SOp):Prop where
 k:0≤o.k∧o.k<256
 r:RecW o.r
 wh:0≤o.wh∧o.wh<256
 n:-9223372036854775808≤o.n∧o.n≤9223372036854775807
attribute [-go_sem] Instr.build Instr.storeAt Instr.loadAt
end
end Go.Proofs.YtgfkgppomaapiaaGreatDoor.K
section
namespace Go.Proofs.YtgfkgppomaapiaaGreatDoor.K
open RowKit YtgfkgppomaapiaaGreatDoorW.PrintWords YtgfkgppomaapiaaGreatDoorW.PrintLast YtgfkgppomaapiaaGreatDoorW.PrintMore My
theorem jl3 {w0:World} {A:Option Addr} {n:Nat} {l:List SOp} (h:kOp.C w0 A n l) (i:Nat) (hi:i<n) :
  ∃ ad A3 a3 A4 a4 A6 a6 A9 a9,A=some ad∧Lies w0 (l.getD i default).r A3 a3 A4 a4 A6 a6 A9 a9∧∀ w,Below w0.heap.size w0 w →
   (Instr.loadAt 56 (.pointer (some (ad.add (i * 13))))).run Tryz.prog w=.ok (.agg #[.int .u8 (l.getD i default).k,.int .u8 (l.getD i default).r.f0,.int .u32 (l.getD i default).r.f1,.int .u32 (l.getD i default).r.f2,.slice A3 (l.getD i default).r.f3.length a3,.slice A4 (l.getD i default).r.f4.length a4,.int .u32 (l.getD i default).r.f5.f0,.slice A6 (l.getD i default).r.f5.f1.length a6,.int .i64 (l.getD i default).r.f6,.int .i64 (l.getD i default).r.f7,.slice A9 (l.getD i default).r.f8.length a9,.int .u8 (l.getD i default).wh,.int .i64 (l.getD i default).n]) w ∧
   (Instr.loadAt 54 (.pointer (some ⟨(ad.add (i * 13)).block,(ad.add (i * 13)).off+1,none⟩))).run Tryz.prog w=.ok (.agg #[.int .u8 (l.getD i default).r.f0,.int .u32 (l.getD i default).r.f1,.int .u32 (l.getD i default).r.f2,.slice A3 (l.getD i default).r.f3.length a3,.slice A4 (l.getD i default).r.f4.length a4,.int .u32 (l.getD i default).r.f5.f0,.slice A6 (l.getD i default).r.f5.f1.length a6,.int .i64 (l.getD i default).r.f6,.int .i64 (l.getD i default).r.f7,.slice A9 (l.getD i default).r.f8.length a9]) w ∧
   (Instr.loadAt 5 (.pointer (some (ad.add (i * 13))))).run Tryz.prog w=.ok (.int .u8 (l.getD i default).k) w∧(Instr.loadAt 3 (.pointer (some ⟨(ad.add (i * 13)).block,(ad.add (i * 13)).off+12,none⟩))).run Tryz.prog w=.ok (.int .i64 (l.getD i default).n) w:=by
 obtain ⟨ad,c,e,_,hK,hc0⟩:=Kd.C_get h default (i:Int) (by omega) (by omega)
 rw [Int.toNat_natCast] at hK hc0
 have hc:∀ j u,c[j]? = some u→w0.cell? (ad.add (i * 13+j))=some u:=hc0
 obtain ⟨A3,a3,A4,a4,A6,a6,A9,a9,rfl,hL⟩:=TW hK
 refine ⟨ad,A3,a3,A4,a4,A6,a6,A9,a9,e,hL,fun w hb=>?_⟩
 have hc:∀ j u,(#[.int .u8 (l.getD i default).k,.int .u8 (l.getD i default).r.f0,.int .u32 (l.getD i default).r.f1,.int .u32 (l.getD i default).r.f2,.slice A3 (l.getD i default).r.f3.length a3,.slice A4 (l.getD i default).r.f4.length a4,.int .u32 (l.getD i default).r.f5.f0,.slice A6 (l.getD i default).r.f5.f1.length a6,.int .i64 (l.getD i default).r.f6,.int .i64 (l.getD i default).r.f7,.slice A9 (l.getD i default).r.f8.length a9,.int .u8 (l.getD i default).wh,.int .i64 (l.getD i default).n].toList)[j]? = some u→w.cell? (ad.add (i * 13+j))=some u:=fun j u hj=>(hb.cell (World.block_lt_of_cell? _ _ (hc j u hj))).trans (hc j u hj)
 have z0:w.cell? (ad.add (i * 13))=some (.int .u8 (l.getD i default).k):=hc 0 _ rfl
 have z1:w.cell? ⟨(ad.add (i * 13)).block,(ad.add (i * 13)).off+12,none⟩=some (.int .i64 (l.getD i default).n):=by rw [← pK _ _ 12 (by omega)];exact hc 12 _ rfl
 refine ⟨?_,?_,by simp [go_sem,z0],by simp [go_sem,z1]⟩
 ·exact rF w _ _ #[.int .u8 (l.getD i default).k,.int .u8 (l.getD i default).r.f0,.int .u32 (l.getD i default).r.f1,.int .u32 (l.getD i default).r.f2,.slice A3 (l.getD i default).r.f3.length a3,.slice A4 (l.getD i default).r.f4.length a4,.int .u32 (l.getD i default).r.f5.f0,.slice A6 (l.getD i default).r.f5.f1.length a6,.int .i64 (l.getD i default).r.f6,.int .i64 (l.getD i default).r.f7,.slice A9 (l.getD i default).r.f8.length a9,.int .u8 (l.getD i default).wh,.int .i64 (l.getD i default).n].toList _ (fun j v hj=>by rw [Go.Deep.add_add];exact hc j v hj) Tryz.underlying56 rfl (by kernel_rfl)
 ·exact run_loadAt_mid w _ _ 54 #[.int .u8 (l.getD i default).r.f0,.int .u32 (l.getD i default).r.f1,.int .u32 (l.getD i default).r.f2,.slice A3 (l.getD i default).r.f3.length a3,.slice A4 (l.getD i default).r.f4.length a4,.int .u32 (l.getD i default).r.f5.f0,.slice A6 (l.getD i default).r.f5.f1.length a6,.int .i64 (l.getD i default).r.f6,.int .i64 (l.getD i default).r.f7,.slice A9 (l.getD i default).r.f8.length a9].toList _ (fun j v hj=>by
   have h10:j<10:=by
    have:=(List.getElem?_eq_some_iff.1 hj).1
    exact this
   rw [Nat.add_assoc,← pK _ _ (1+j) (by omega)]
   exact hc (1+j) v (by rw [Nat.add_comm];match j,h10 with
    | 0,_ | 1,_ | 2,_ | 3,_ | 4,_ | 5,_ | 6,_ | 7,_ | 8,_ | 9,_=>exact hj)) Tryz.underlying54 rfl (by kernel_rfl)
theorem jb9 {w:World} {a:Addr} {v:Value} (h:w.cell? a=some v):(Instr.loadAt 22 (.pointer (some a))).run Tryz.prog w=.ok v w:=by simp [go_sem,h]
structure PL (w0 w:World) (b r g f:Nat) (d e:DM):Prop where
 pr:∃ row rr,Pr w0 w b row d r rr e
 lg:Lg w g b
 rlg:RLg w f r
section
variable {w0 w w':World} {b r g f:Nat} {d e:DM} {x:SRec} {A3 A4 A6 A9:Option Addr} {a3 a4 a6 a9:Nat} {E:Int}
theorem PL.bel (h:PL w0 w b r g f d e):Below w0.heap.size w0 w:=h.pr.elim fun _ h=>h.elim fun _ h=>h.bel
theorem PL.below (h:PL w0 w b r g f d e) (hb:Below w.heap.size w w'):PL w0 w' b r g f d e:=by
 obtain ⟨row,rr,h1⟩:=h.pr
 exact ⟨⟨row,rr,h1.below hb⟩,h.lg.below hb,h.rlg.below hb⟩
theorem PL.fst {v:Value} {z:Ending} {d':DM} (h:PL w0 w b r g f d e) {row rr:Option Nat} (h1:Pr w0 w b row d r rr e) (hp:DP v w b row d' z w'):z=.returned v∧PL w0 w' b r g f d' e:=by
 obtain ⟨he,hk,row',h2⟩:=h1.dp hp
 exact ⟨he,⟨row',rr,h2⟩,h.lg.kb h1.dd hk,h1.dd.stays hk h.rlg (by decide) (by decide)⟩
theorem PL.snd {v:Value} {z:Ending} {e':DM} (h:PL w0 w b r g f d e) {row rr:Option Nat} (h1:Pr w0 w b row d r rr e) (hp:RKP v w r rr e' z w'):z=.returned v∧PL w0 w' b r g f d e':=by
 obtain ⟨he,hk,rr',h2⟩:=h1.rp hp
 exact ⟨he,⟨row,rr',h2⟩,h1.rk.stays hk h.lg (by decide) (by decide),h.rlg.kb h1.rk hk⟩
theorem PL.lazy (h:PL w0 w b r g f d e) (hr:Lies w x A3 a3 A4 a4 A6 a6 A9 a9) (hE:nX d x=E) :
  Calls Tryz.prog 15 #[.pointer (some ⟨g,0,none⟩),.agg #[.int .u8 x.f0,.int .u32 x.f1,.int .u32 x.f2,.slice A3 x.f3.length a3,.slice A4 x.f4.length a4,.int .u32 x.f5.f0,.slice A6 x.f5.f1.length a6,.int .i64 x.f6,.int .i64 x.f7,.slice A9 x.f8.length a9]] w fun z w'=>z=.returned (.int .u16 E)∧PL w0 w' b r g f (lY d x) e:=by
 obtain ⟨row,rr,h1⟩:=h.pr
 subst hE
 exact (MZ h1.dd h.lg hr).mono fun _ _ hp=>h.fst h1 hp
theorem PL.rlazy (h:PL w0 w b r g f d e) (hr:Lies w x A3 a3 A4 a4 A6 a6 A9 a9) (hE:nX e x=E) :
  Calls Tryz.prog 17 #[.pointer (some ⟨f,0,none⟩),.agg #[.int .u8 x.f0,.int .u32 x.f1,.int .u32 x.f2,.slice A3 x.f3.length a3,.slice A4 x.f4.length a4,.int .u32 x.f5.f0,.slice A6 x.f5.f1.length a6,.int .i64 x.f6,.int .i64 x.f7,.slice A9 x.f8.length a9]] w fun z w'=>z=.returned (.int .i64 E)∧PL w0 w' b r g f d (lY e x):=by
 obtain ⟨row,rr,h1⟩:=h.pr
 subst hE
 exact (OL h1.rk h.rlg hr).mono fun _ _ hp=>h.snd h1 hp
theorem PL.force (h:PL w0 w b r g f d e) (hr:Lies w x A3 a3 A4 a4 A6 a6 A9 a9) (hE:nD d x=E) :
  Calls Tryz.prog 18 #[.pointer (some ⟨g,0,none⟩),.agg #[.int .u8 x.f0,.int .u32 x.f1,.int .u32 x.f2,.slice A3 x.f3.length a3,.slice A4 x.f4.length a4,.int .u32 x.f5.f0,.slice A6 x.f5.f1.length a6,.int .i64 x.f6,.int .i64 x.f7,.slice A9 x.f8.length a9]] w fun z w'=>z=.returned (.int .u16 E)∧PL w0 w' b r g f (mX d x) e:=by
 obtain ⟨row,rr,h1⟩:=h.pr
 subst hE
 exact (OY h1.dd h.lg hr).mono fun _ _ hp=>h.fst h1 hp
theorem PL.rforce (h:PL w0 w b r g f d e) (hr:Lies w x A3 a3 A4 a4 A6 a6 A9 a9) (hE:nD e x=E) :
  Calls Tryz.prog 19 #[.pointer (some ⟨f,0,none⟩),.agg #[.int .u8 x.f0,.int .u32 x.f1,.int .u32 x.f2,.slice A3 x.f3.length a3,.slice A4 x.f4.length a4,.int .u32 x.f5.f0,.slice A6 x.f5.f1.length a6,.int .i64 x.f6,.int .i64 x.f7,.slice A9 x.f8.length a9]] w fun z w'=>z=.returned (.int .i64 E)∧PL w0 w' b r g f d (mX e x):=by
 obtain ⟨row,rr,h1⟩:=h.pr
 subst hE
 exact (VQ h1.rk h.rlg hr).mono fun _ _ hp=>h.snd h1 hp
theorem PL.halt (n:Int) (hn:n≤9223372036854775807) (h:PL w0 w b r g f d e):Calls Tryz.prog 20 #[.pointer (some ⟨b,0,none⟩),.int .i64 n] w fun z w'=>z=.returned (.tuple #[])∧PL w0 w' b r g f (d.halt n) e:=by
 obtain ⟨row,rr,h1⟩:=h.pr
 exact (jm0 n hn h1.dd).mono fun _ _ hp=>h.fst h1 hp
theorem PL.rhalt (n:Int) (hn:n≤9223372036854775807) (h:PL w0 w b r g f d e):Calls Tryz.prog 21 #[.pointer (some ⟨r,0,none⟩),.int .i64 n] w fun z w'=>z=.returned (.tuple #[])∧PL w0 w' b r g f d (e.halt n):=by
 obtain ⟨row,rr,h1⟩:=h.pr
 exact (jl2 n hn h1.rk).mono fun _ _ hp=>h.snd h1 hp
theorem PL.crash (n:Int) (h:PL w0 w b r g f d e):Calls Tryz.prog 22 #[.pointer (some ⟨b,0,none⟩),.int .i64 n] w fun z w'=>z=.returned (.tuple #[])∧PL w0 w' b r g f (d.crash n) e:=by
 obtain ⟨row,rr,h1⟩:=h.pr
 exact (VY n h1.dd).mono fun _ _ hp=>h.fst h1 hp
theorem PL.rcrash (n:Int) (h:PL w0 w b r g f d e):Calls Tryz.prog 23 #[.pointer (some ⟨r,0,none⟩),.int .i64 n] w fun z w'=>z=.returned (.tuple #[])∧PL w0 w' b r g f d (e.crash n):=by
 obtain ⟨row,rr,h1⟩:=h.pr
 exact (jf3 n h1.rk).mono fun _ _ hp=>h.snd h1 hp
theorem PL.open (h:PL w0 w b r g f d e) (hE:nO d=0) (hs:(d.bs.length:Int)≤1000000) :
  Calls Tryz.prog 10 #[.pointer (some ⟨b,0,none⟩)] w fun z w'=>∃ g' v,z=.returned (.tuple #[.pointer (some ⟨g',0,none⟩),v,.int .u16 0])∧PL w0 w' b r g' f (nM d) e∧RRs w' w.heap.size v (nY (kX d.bs))∧∃ row rr row',Pr w0 w b row d r rr e∧Kb b row w w'∧Pr w0 w' b row' (nM d) r rr e:=by
 obtain ⟨row,rr,h1⟩:=h.pr
 refine (open_any h1.dd hs).mono fun _ _ hp=>?_
 obtain ⟨row',g',v,h2,he,hl,hr,hk⟩:=h1.open hp hE
 exact ⟨g',v,he,⟨⟨row',rr,h2⟩,hl,h1.dd.stays hk h.rlg (by decide) (by decide)⟩,hr,row,rr,row',h1,hk,h2⟩
theorem PL.ropen (h:PL w0 w b r g f d e) (hE:nO e=0) (hs:(e.bs.length:Int)≤1000000) :
  Calls Tryz.prog 11 #[.pointer (some ⟨r,0,none⟩)] w fun z w'=>∃ f' v,z=.returned (.tuple #[.pointer (some ⟨f',0,none⟩),v,.int .i64 0])∧PL w0 w' b r g f' d (nM e)∧RRs w' w.heap.size v (nY (kX e.bs))∧∃ row rr,Pr w0 w b row d r rr e∧Kb r rr w w':=by
 obtain ⟨row,rr,h1⟩:=h.pr
 refine (NZ h1.rk hs).mono fun _ _ hp=>?_
 obtain ⟨rr',f',v,h2,he,hl,hr,hk⟩:=h1.ropen hp hE
 exact ⟨f',v,he,⟨⟨row,rr',h2⟩,h1.rk.stays hk h.lg (by decide) (by decide),hl⟩,hr,row,rr,h1,hk⟩
end
theorem UZ (d:DM) (x:SRec):(lY d x).room=d.room:=by
 unfold lY
 (repeat' split) <;> (try unfold DM.app) <;> (repeat' split) <;> rfl
theorem zW (d:DM) (x:SRec):(mX d x).room=d.room:=by
 unfold mX lY
 (repeat' split) <;> (try unfold DM.cut) <;> (repeat' split) <;> (try unfold DM.sync) <;> (repeat' split) <;> (try unfold DM.app) <;> (repeat' split) <;> rfl
theorem JW (d:DM) (x:SRec):0≤nD d x∧nD d x≤100:=by
 have:=xO d x
 unfold nD DM.syncE
 (repeat' split) <;> omega
end Go.Proofs.YtgfkgppomaapiaaGreatDoor.K
end
namespace Go.Proofs.YtgfkgppomaapiaaGreatDoor.K
open RowKit YtgfkgppomaapiaaGreatDoorW.PrintWords YtgfkgppomaapiaaGreatDoorW.PrintLast YtgfkgppomaapiaaGreatDoorW.PrintMore My
section
def j7_ (l:List UInt8):Value→World→Prop:=fun v w=>∃ A c,v=.slice A l.length c∧kb.C w A l.length l
theorem ji0 (l:List UInt8):Rm (j7_ l):=fun _ _ _ ⟨A,c,h1,h2⟩ hb=>⟨A,c,h1,Kd.C_below h2 hb⟩
theorem XI (b:List UInt8):∀ x∈nY (kX b),SLen x:=fun x hx=>by
 unfold nY at hx
 obtain ⟨y,_,rfl⟩:=List.mem_map.1 hx
 exact ZF y
attribute [-go_sem] Instr.build Instr.storeAt
end
end Go.Proofs.YtgfkgppomaapiaaGreatDoor.K
section
namespace Go.Proofs.YtgfkgppomaapiaaGreatDoor.K
open RowKit YtgfkgppomaapiaaGreatDoorW.PrintWords YtgfkgppomaapiaaGreatDoorW.PrintLast YtgfkgppomaapiaaGreatDoorW.PrintMore My
theorem jg7:(Tryz.prog.info? 3).map (fun i=>(i.zero,i.size,i.bytes))=some (some (.int .i64 0),(Kd.int .i64).sz,8):=by kernel_rfl
theorem jh4:(Tryz.prog.info? 114).map (fun i=>(i.zero,i.size,i.bytes))=some (some (.agg #[.int .u32 0,.slice none 0 0]),k114.sz,32):=by kernel_rfl
theorem jh5 (w:World) (a b:Int):(Instr.build 54 #[(0,.int .u8 a),(1,.int .u32 b)]).run Tryz.prog w=.ok (.agg #[.int .u8 a,.int .u32 b,.int .u32 0,.slice none 0 0,.slice none 0 0,.int .u32 0,.slice none 0 0,.int .i64 0,.int .i64 0,.slice none 0 0]) w:=run_build w _ _ _ (OI a b)
theorem jk6 (w:World) (a:Int) (A:Option Addr) (n c:Nat):(Instr.build 114 #[(0,.int .u32 a),(1,.slice A n c)]).run Tryz.prog w=.ok (.agg #[.int .u32 a,.slice A n c]) w:=run_build w 114 _ _ (by kernel_rfl)
theorem jl7 {w:World} {g t:Nat} {c0 c1 c2 c3 c4 c5 c6 c7 c8 c9:Value} (v0 v1 v2 v3 v4 v5 v6 v7 v8 v9:Value) (h:w.heap[g]? = some (.cells #[c0,c1,c2,c3,c4,c5,c6,c7,c8,c9] t (0,0))) :
  ∃ W,W=(((((((((w.setCell ⟨g,0,none⟩ v0).setCell ⟨g,1,none⟩ v1).setCell ⟨g,2,none⟩ v2).setCell ⟨g,3,none⟩ v3).setCell ⟨g,4,none⟩ v4).setCell ⟨g,5,none⟩ v5).setCell ⟨g,6,none⟩ v6).setCell ⟨g,7,none⟩ v7).setCell ⟨g,8,none⟩ v8).setCell ⟨g,9,none⟩ v9 ∧
   W.heap[g]? = some (.cells #[v0,v1,v2,v3,v4,v5,v6,v7,v8,v9] t (0,0))∧w.grownBy W (some g):=by
 have st:=fun (a b:World) (i:Nat) (v:Value) (hab:a.grownBy b (some g))=>iV hab (jY b g i v)
 refine ⟨_,rfl,?_,st _ _ 9 v9 (st _ _ 8 v8 (st _ _ 7 v7 (st _ _ 6 v6 (st _ _ 5 v5 (st _ _ 4 v4 (st _ _ 3 v3 (st _ _ 2 v2 (st _ _ 1 v1 (jY w g 0 v0)))))))))⟩
 have h0:=jU (cs:=#[c0,c1,c2,c3,c4,c5,c6,c7,c8,c9]) (cs':=#[v0,c1,c2,c3,c4,c5,c6,c7,c8,c9]) h 0 v0 rfl
 have h1:=jU (cs':=#[v0,v1,c2,c3,c4,c5,c6,c7,c8,c9]) h0 1 v1 rfl
 have h2:=jU (cs':=#[v0,v1,v2,c3,c4,c5,c6,c7,c8,c9]) h1 2 v2 rfl
 have h3:=jU (cs':=#[v0,v1,v2,v3,c4,c5,c6,c7,c8,c9]) h2 3 v3 rfl
 have h4:=jU (cs':=#[v0,v1,v2,v3,v4,c5,c6,c7,c8,c9]) h3 4 v4 rfl
 have h5:=jU (cs':=#[v0,v1,v2,v3,v4,v5,c6,c7,c8,c9]) h4 5 v5 rfl
 have h6:=jU (cs':=#[v0,v1,v2,v3,v4,v5,v6,c7,c8,c9]) h5 6 v6 rfl
 have h7:=jU (cs':=#[v0,v1,v2,v3,v4,v5,v6,v7,c8,c9]) h6 7 v7 rfl
 have h8:=jU (cs':=#[v0,v1,v2,v3,v4,v5,v6,v7,v8,c9]) h7 8 v8 rfl
 exact jU (cs':=#[v0,v1,v2,v3,v4,v5,v6,v7,v8,v9]) h8 9 v9 rfl
def bitH (b:Int) (i:Nat):Bool:=bits BinOp.and IntKind.u8 (b / 2 ^ i) 1 == 1
def J4 (b:Int):Nat→List Int
 | 0=>[]
 | i+1=>if bitH b i then J4 b i ++ [(i:Int)] else J4 b i
def yA (K id at_ nodes:Int) (facts:List jQ) (F T:Int) (entries:List jJ):SRec :=
 if K=1 then ⟨K,id,0,J4 nodes 6,uP facts,⟨0,[]⟩,0,0,[]⟩
 else if K=2 then ⟨K,id,at_,J4 nodes 6,[],⟨0,[]⟩,0,0,[]⟩
 else if K=6 then ⟨K,0,0,[],[],⟨at_,[]⟩,0,0,[]⟩
 else if K=7 then ⟨K,id,0,[],[],⟨0,[]⟩,F,T,entM 0 (entries.take 50)⟩
 else ⟨K,id,0,[],[],⟨0,[]⟩,0,0,[]⟩
structure MH (w W:World) (x:SRec) (A3:Option Addr) (a3:Nat) (A4:Option Addr) (a4:Nat) (A6:Option Addr) (a6:Nat) (A9:Option Addr) (a9:Nat):Prop where
 xb:W.heap[w.heap.size+1]? = some (.cells #[.int .u8 x.f0,.int .u32 x.f1,.int .u32 x.f2,.slice A3 x.f3.length a3,.slice A4 x.f4.length a4,.int .u32 x.f5.f0,.slice A6 x.f5.f1.length a6,.int .i64 x.f6,.int .i64 x.f7,.slice A9 x.f8.length a9] 54 (0,0))
 zb:W.heap[w.heap.size]? = some (.cells #[.int .u8 0,.int .u32 0,.int .u32 0,.slice none 0 0,.slice none 0 0,.int .u32 0,.slice none 0 0,.int .i64 0,.int .i64 0,.slice none 0 0] 54 (0,0))
 o:Owns (w.heap.size+2) W x A3 a3 A4 a4 A6 a6 A9 a9
 bl:Below w.heap.size w W
section
variable {w W W':World} {x x':SRec} {A3 A4 A6 A9 B3 B4 B6 B9:Option Addr} {a3 a4 a6 a9 b3 b4 b6 b9:Nat}
theorem MH.size (h:MH w W x A3 a3 A4 a4 A6 a6 A9 a9):w.heap.size+2≤W.heap.size:=jH h.xb
theorem MH.below (h:MH w W x A3 a3 A4 a4 A6 a6 A9 a9) (hb:Below W.heap.size W W'):MH w W' x A3 a3 A4 a4 A6 a6 A9 a9 :=
 ⟨iI hb h.xb,iI hb h.zb,h.o.below hb,iH h.bl hb⟩
theorem MH.put (h:MH w W x A3 a3 A4 a4 A6 a6 A9 a9) (i:Nat) (v:Value) (hcs:(#[.int .u8 x.f0,.int .u32 x.f1,.int .u32 x.f2,.slice A3 x.f3.length a3,.slice A4 x.f4.length a4,.int .u32 x.f5.f0,.slice A6 x.f5.f1.length a6,.int .i64 x.f6,.int .i64 x.f7,.slice A9 x.f8.length a9]:Array Value).setIfInBounds i v = #[.int .u8 x'.f0,.int .u32 x'.f1,.int .u32 x'.f2,.slice B3 x'.f3.length b3,.slice B4 x'.f4.length b4,.int .u32 x'.f5.f0,.slice B6 x'.f5.f1.length b6,.int .i64 x'.f6,.int .i64 x'.f7,.slice B9 x'.f8.length b9]) (o:Owns (w.heap.size+2) W x' B3 b3 B4 b4 B6 b6 B9 b9) :
  MH w (W.setCell ⟨w.heap.size+1,i,none⟩ v) x' B3 b3 B4 b4 B6 b6 B9 b9 :=
 have hG:=jY W (w.heap.size+1) i v
 ⟨jU h.xb i v hcs,(hG.block _ (jH h.zb) (by intro e;injection e with e;omega)).trans h.zb,o.keep hG (by omega),below_grown h.bl hG (by omega) (Nat.le_refl _)⟩
end
theorem uT (base:Nat) (W:World) (k a b e p q:Int):Owns base W ⟨k,a,b,[],[],⟨e,[]⟩,p,q,[]⟩ none 0 none 0 none 0 none 0:=⟨Kd.R_nil _ _ _ _ _,Kd.R_nil _ _ _ _ _,Kd.R_nil _ _ _ _ _,Kd.R_nil _ _ _ _ _⟩
theorem jg0 (i:Nat) (h:i≤50):wrap64 ((i:Int)+1)=((i+1:Nat):Int):=by unfold wrap64;omega
theorem jf2 (l:List jJ) (i:Nat) (hi:i<l.length):iK l (i:Int)∈l:=by
 unfold iK
 rw [Int.toNat_natCast,List.getD_eq_getElem?_getD,List.getElem?_eq_getElem hi]
 exact List.getElem_mem _
theorem ZA (l:List jJ) (i:Nat) (hi:i<l.length) (h50:i<50) (last:Int) :
  entM last ((l.take 50).drop i)=⟨(last+(1+Int.tmod (iK l (i:Int)).f0 1000)) % 4294967296,uP (iK l (i:Int)).f1⟩ :: entM ((last+(1+Int.tmod (iK l (i:Int)).f0 1000)) % 4294967296) ((l.take 50).drop (i+1)):=by
 have hit:i<(l.take 50).length:=by rw [List.length_take];omega
 rw [List.drop_eq_getElem_cons hit,entM]
 have e:(l.take 50)[i]=iK l (i:Int):=by
  unfold iK
  rw [Int.toNat_natCast,List.getD_eq_getElem?_getD,List.getElem?_eq_getElem hi,List.getElem_take]
  rfl
 rw [e]
attribute [-go_sem] Instr.build
attribute [local go_sem] jh5 jk6
set_option maxRecDepth 20000 in
set_option maxHeartbeats 8000000 in
theorem XN (kind id at_ nodes:Int) {A4:Option Addr} {a4:Nat} (l4:List jQ) (from_ to_:Int) {A8:Option Addr} {a8:Nat} (l8:List jJ) {w:World} (h4:Kd.C k149 w A4 l4.length l4) (d4:l4.length≤a4) (h8:Kd.C k114 w A8 l8.length l8) (d8:l8.length≤a8) (hf:∀ e∈l8,e.f1.length≤9223372036854775807) (hn:0≤nodes∧nodes<256) {K F T:Int} (hK:(1+Int.tmod kind 7) % 256=K) (hF:Int.tmod (wrap64 from_) 10001=F) (hT:Int.tmod (wrap64 to_) 10001=T) (hft:(0≤from_∧from_<65536)∧(0≤to_∧to_<65536)) :
  Calls Tryz.prog 43 #[.int .u8 kind,.int .u32 id,.int .u32 at_,.int .u8 nodes,.slice A4 l4.length a4,.slice none 0 0,.int .u16 from_,.int .u16 to_,.slice A8 l8.length a8] w (QJ w (yA K id at_ nodes l4 F T l8)):=by
 have H4:=iC.mk h4
 have H8:=iC.mk h8
 have HD:=iC.mk (And.intro d4 d8)
 have HF:=iC.mk hf
 have hm8:=lD h8
 obtain ⟨N4,hN4⟩:∃ N,l4.length=N:=⟨_,rfl⟩
 obtain ⟨N8,hN8⟩:∃ N,l8.length=N:=⟨_,rfl⟩
 have HN:=iC.mk (And.intro hN4 hN8)
 rw [hN8] at hm8
 rw [hN4,hN8]
 have HNB:=iC.mk hn
 have HFT:=iC.mk hft
 obtain ⟨R,hR⟩:∃ R,R=yA K id at_ nodes l4 F T l8:=⟨_,rfl⟩
 have HR:=iC.mk hR
 rw [← hR]
 clear h4 h8 d4 d8 hf hN4 hN8 hn hR hft
 go_enter Tryz.func43,Tryz.ntmps43
 go_upto_region 2 with fail
 obtain ⟨W,hW⟩:∃ W,W=((w.alloc (.cells #[.int .u8 0,.int .u32 0,.int .u32 0,.slice none 0 0,.slice none 0 0,.int .u32 0,.slice none 0 0,.int .i64 0,.int .i64 0,.slice none 0 0] 54)).alloc (.cells #[.int .u8 K,.int .u32 id,.int .u32 0,.slice none 0 0,.slice none 0 0,.int .u32 0,.slice none 0 0,.int .i64 0,.int .i64 0,.slice none 0 0] 54)):=⟨_,rfl⟩
 have HM:=iC.mk (show MH w W ⟨K,id,0,[],[],⟨0,[]⟩,0,0,[]⟩ none 0 none 0 none 0 none 0 from by
  rw [hW];exact ⟨iP (by simp),jI (iP rfl),uT _ _ _ _ _ _ _ _,iD (iD (Below.refl _ _) _) _⟩)
 have HWS:=iC.mk (show W.heap.size=w.heap.size+2 from by rw [hW];simp)
 rw [← hW]
 clear hW hK
 go_wp2_with fail
 go_loopw [20,21] (fun p q wr=>∃ (i:Nat) (l:List Int),q=.int .i64 (i:Int)∧i≤6∧l.length≤i∧iC (l=J4 nodes i)∧iC (Kd.R (Kd.int .i64) 3 wr (w.heap.size+2) (fun _=>True) p l)∧iC (Below (w.heap.size+2) W wr)) (fun _ q _=>((6:Int) - intOf q).toNat)
 case atStart=>exact ⟨0,[],rfl,by omega,by simp,⟨rfl⟩,⟨Kd.R_nil _ _ _ _ _⟩,⟨Below.refl _ _⟩⟩
 case round =>
  obtain ⟨i,l,rfl,hi,hl,HLI,HRr,HBr⟩:=hrel
  by_cases hlt:i<6
  ·have hw:wrap64 ((i:Int)+1)=((i+1:Nat):Int):=by unfold wrap64;omega
   cases hbit:(bits BinOp.and IntKind.u8 (nodes / 2 ^ i) 1 == 1)
   ·have HN:=iC.mk (show l=J4 nodes (i+1) from by unfold J4;rw [show bitH nodes i=false from hbit,if_neg (by decide)];exact HLI.out)
    go_wp2
    go_roundw
    case rel=>exact ⟨i+1,l,by first | rfl | rw [hw],by omega,by omega,HN,HRr,HBr⟩
    case measure=>(first | (simp [intOf,hw];omega) | (simp [intOf];omega))
   ·have HN:=iC.mk (show l ++ [(i:Int)]=J4 nodes (i+1) from by unfold J4;rw [show bitH nodes i=true from hbit,if_pos rfl,HLI.out])
    obtain ⟨B4,k4,rfl⟩:=Kd.R_slice HRr.out
    go_wp2_with (at_builtin;refine Kd.R_append (Kd.int .i64) (w0:=W) (w.heap.size+2) rfl (.tmp 40) (.tmp 42) 47 3 (.int .i64 0) 8 rfl Tryz.underlying47 jg7 rfl (by decide) (by omega) (.slice B4 l.length k4) l (i:Int) [.int .i64 (i:Int)] (fun _=>True) (fun _=>False) rfl rfl rfl (fun _ hk=>hk.elim) (fun _ _=>trivial) HRr.out HBr.out (by have:=HWS.out;have:=HBr.out.size;omega) (by omega) ?_;intro v1 w4 ho1 hb1 hg1 hat1;have HO4:=iC.mk ho1;have HB4:=iC.mk hb1;clear ho1 hb1 hg1 hat1)
    go_roundw
    case rel=>exact ⟨i+1,_,by first | rfl | rw [hw],by omega,by rw [List.length_append];simp;omega,HN,HO4,HB4⟩
    case measure=>(first | (simp [intOf,hw];omega) | (simp [intOf];omega))
  ·obtain rfl:i=6:=by omega
   obtain rfl:=HLI.out
   obtain ⟨B3,k3,rfl⟩:=Kd.R_slice HRr.out
   have HMr:=iC.mk (HM.out.below (by rw [HWS.out];exact HBr.out))
   obtain ⟨ns,hns⟩:∃ ns,ns=J4 nodes 6:=⟨_,rfl⟩
   rw [← hns] at HRr hl ⊢
   have HNS:=iC.mk hns
   obtain ⟨M3,hM3⟩:∃ M3,ns.length=M3:=⟨_,rfl⟩
   have HM3:=iC.mk hM3
   rw [hM3]
   obtain ⟨z0,z1,z2,z3,z4,z5,z6,z7,z8,z9,y0,y1,y2,y3,y4,y5,y6,y7,y8,y9⟩:=ten HMr.out.xb
   clear hns hM3 HM HLI HBr hl
   obtain ⟨wr0,rfl⟩:∃ x:World,x=wr:=⟨_,rfl⟩
   go_upto_block 2 with fail
   go_cut [22] (fun _ wx=>∃ (A3:Option Addr) (a3:Nat) (A4:Option Addr) (a4:Nat) (A6:Option Addr) (a6:Nat) (A9:Option Addr) (a9:Nat),iC (MH w wx R A3 a3 A4 a4 A6 a6 A9 a9))
   case first =>
    have HRK:=HR
    by_cases h1:K=1
    ·subst h1
     obtain ⟨kf,hkf⟩:=(JM l4 (lD H4.out)).rounds
     go_upto_region 11 with fail
     obtain ⟨W1,hW1⟩:∃ W1,W1=wr0.setCell ⟨w.heap.size+1,3,none⟩ (.slice B3 M3 k3):=⟨_,rfl⟩
     have HM1:=iC.mk (show MH w W1 ⟨1,id,0,ns,[],⟨0,[]⟩,0,0,[]⟩ B3 k3 none 0 none 0 none 0 from by
      rw [hW1,← HM3.out];exact HMr.out.put 3 _ rfl ⟨HRr.out,Kd.R_nil _ _ _ _ _,Kd.R_nil _ _ _ _ _,Kd.R_nil _ _ _ _ _⟩)
     have hcall:=stratumlaw07_Facts.calls kf A4 a4 l4 (uP l4) W1 (Kd.C_below H4.out HM1.out.bl) HD.out.1 hkf
     rw [HN.out.1] at hcall
     rw [← hW1]
     clear hW1 hkf z0 z1 z2 z3 z4 z5 z6 z7 z8 z9 y0 y1 y2 y3 y4 y5 y6 y7 y8 y9
     go_wp2_with fail
     go_at_call 70
     refine hcall.mono ?_
     rintro e w2 ⟨v,rfl,hR2,hb2⟩
     obtain ⟨C4,c4,rfl⟩:=Kd.R_slice hR2
     have HM2:=iC.mk (HM1.out.below hb2)
     have HR2:=iC.mk (Kd.R_lower hR2 HM1.out.size)
     obtain ⟨z0,z1,z2,z3,z4,z5,z6,z7,z8,z9,y0,y1,y2,y3,y4,y5,y6,y7,y8,y9⟩:=ten HM2.out.xb
     clear hcall hR2 hb2
     go_wp2_with fail
     go_meet
     refine ⟨B3,k3,C4,c4,none,0,none,0,⟨?_⟩⟩
     rw [HRK.out,show yA 1 id at_ nodes l4 F T l8=⟨1,id,0,ns,uP l4,⟨0,[]⟩,0,0,[]⟩ from by unfold yA;rw [if_pos rfl,HNS.out]]
     exact HM2.out.put 4 _ rfl ⟨HM2.out.o.r3,HR2.out,Kd.R_nil _ _ _ _ _,Kd.R_nil _ _ _ _ _⟩
    ·by_cases h2:K=2
     ·subst h2
      go_wp2_with fail
      go_meet
      refine ⟨B3,k3,none,0,none,0,none,0,⟨?_⟩⟩
      rw [HRK.out,show yA 2 id at_ nodes l4 F T l8=⟨2,id,at_,ns,[],⟨0,[]⟩,0,0,[]⟩ from by unfold yA;rw [if_neg (by decide),if_pos rfl,HNS.out]]
      have hq:=HMr.out.put (x':=⟨2,id,at_,[],[],⟨0,[]⟩,0,0,[]⟩) 2 (.int .u32 at_) rfl (uT _ _ _ _ _ _ _ _)
      rw [← HM3.out]
      exact hq.put 3 _ rfl ⟨jT HRr.out (jY _ _ _ _) (by omega),Kd.R_nil _ _ _ _ _,Kd.R_nil _ _ _ _ _,Kd.R_nil _ _ _ _ _⟩
     ·by_cases h6:K=6
      ·subst h6
       go_upto_region 18 with fail
       obtain ⟨W1,hW1⟩:∃ W1,W1=(wr0.setCell ⟨w.heap.size+1,1,none⟩ (.int .u32 0)).setCell ⟨w.heap.size+1,5,none⟩ (.int .u32 at_):=⟨_,rfl⟩
       have hq:=HMr.out.put (x':=⟨6,0,0,[],[],⟨0,[]⟩,0,0,[]⟩) 1 (.int .u32 0) rfl (uT _ _ _ _ _ _ _ _)
       have HM1:=iC.mk (show MH w W1 ⟨6,0,0,[],[],⟨at_,[]⟩,0,0,[]⟩ none 0 none 0 none 0 none 0 from by rw [hW1];exact hq.put 5 _ rfl (uT _ _ _ _ _ _ _ _))
       rw [← hW1]
       clear hW1 hq z0 z1 z2 z3 z4 z5 z6 z7 z8 z9 y0 y1 y2 y3 y4 y5 y6 y7 y8 y9
       go_wp2_with fail
       go_loopw [22] (fun q wx=>q=.int .i64 0∧W1=wx) (fun _ _=>0)
       case atStart=>exact ⟨rfl,rfl⟩
       case round =>
        obtain ⟨rfl,rfl⟩:=hrel
        go_wp2_with fail
        go_meet
        refine ⟨none,0,none,0,none,0,none,0,⟨?_⟩⟩
        rw [HRK.out,show yA 6 id at_ nodes l4 F T l8=⟨6,0,0,[],[],⟨at_,[]⟩,0,0,[]⟩ from by unfold yA;rw [if_neg (by decide),if_neg (by decide),if_pos rfl]]
        exact HM1.out
      ·by_cases h7:K=7
       ·subst h7
        go_upto_region 25 with fail
        obtain ⟨W1,hW1⟩:∃ W1,W1=(wr0.setCell ⟨w.heap.size+1,7,none⟩ (.int .i64 F)).setCell ⟨w.heap.size+1,8,none⟩ (.int .i64 T):=⟨_,rfl⟩
        have hq:=HMr.out.put (x':=⟨7,id,0,[],[],⟨0,[]⟩,F,0,[]⟩) 7 (.int .i64 F) rfl (uT _ _ _ _ _ _ _ _)
        have HM1:=iC.mk (show MH w W1 ⟨7,id,0,[],[],⟨0,[]⟩,F,T,[]⟩ none 0 none 0 none 0 none 0 from by rw [hW1];exact hq.put 8 _ rfl (uT _ _ _ _ _ _ _ _))
        rw [← hW1]
        clear hW1 hq z0 z1 z2 z3 z4 z5 z6 z7 z8 z9 y0 y1 y2 y3 y4 y5 y6 y7 y8 y9 HRr HMr h1 h2 h6 hF hT
        go_wp2_with fail
        go_loopw [23,24] (fun p q wx=>∃ (i:Nat) (last:Int) (acc:List jJ) (A9:Option Addr) (a9:Nat),p=.int .u32 last∧q=.int .i64 (i:Int)∧i≤50∧i≤N8∧acc.length≤i∧iC (MH w wx ⟨7,id,0,[],[],⟨0,[]⟩,F,T,acc⟩ none 0 none 0 none 0 A9 a9)∧iC (acc ++ entM last ((l8.take 50).drop i)=entM 0 (l8.take 50))) (fun _ q _=>((50:Int) - intOf q).toNat)
        case atStart=>exact ⟨0,0,[],none,0,rfl,rfl,by omega,Nat.zero_le _,by simp,HM1,⟨rfl⟩⟩
        case round =>
         obtain ⟨i,last,acc,A9,a9,rfl,rfl,hi50,hi8,hac,HMi,HE⟩:=hrel
         clear HM1
         by_cases hlt:i<N8∧i<50
         ·have hd1:decide ((i:Int)<(N8:Int))=true:=decide_eq_true (by omega)
          have hd2:decide ((i:Int)<50)=true:=decide_eq_true (by omega)
          have hil:i<l8.length:=by rw [HN.out.2];exact hlt.1
          obtain ⟨ad,E1,e1,rfl,q0,q1,le1,g1⟩:=kN (Kd.C_below H8.out HMi.out.bl) (i:Int) (by omega) (by omega)
          rw [Int.toNat_natCast] at q0 q1
          have hent:=ZA l8 i hil hlt.2 last
          have hfl:=HF.out _ (jf2 l8 i hil)
          obtain ⟨ev,hev⟩:∃ ev,ev=iK l8 (i:Int):=⟨_,rfl⟩
          rw [← hev] at q0 q1 le1 g1 hent hfl
          obtain ⟨n1,hn1⟩:∃ n1,ev.f1.length=n1:=⟨_,rfl⟩
          have HN1:=iC.mk hn1
          have HG1:=iC.mk g1
          have HLE:=iC.mk le1
          have HEV:=iC.mk hent
          rw [hn1] at q1
          clear hev hn1 g1 le1 hent hil
          go_upto_region 30 with fail
          obtain ⟨L2,hL2⟩:∃ L2,L2=(last+(1+ev.f0.tmod 1000) % 4294967296) % 4294967296:=⟨_,rfl⟩
          have hL3:L2=(last+(1+Int.tmod ev.f0 1000)) % 4294967296:=by rw [hL2];generalize Int.tmod ev.f0 1000=x;omega
          rw [← hL2]
          have HEL:=iC.mk (show entM last ((l8.take 50).drop i)=⟨L2,uP ev.f1⟩ :: entM L2 ((l8.take 50).drop (i+1)) from by rw [hL3];exact HEV.out)
          obtain ⟨fs,hfs⟩:∃ fs,fs=uP ev.f1:=⟨_,rfl⟩
          rw [← hfs] at HEL
          obtain ⟨kf,hkf⟩:=(JM ev.f1 hfl).rounds
          rw [← hfs] at hkf
          have hcall:=stratumlaw07_Facts.calls kf E1 e1 ev.f1 fs wr.drew (Kd.C_below HG1.out (iW (Below.refl _ _))) HLE.out hkf
          rw [HN1.out] at hcall
          obtain ⟨M9,hM9⟩:∃ M9,acc.length=M9:=⟨_,rfl⟩
          have HM9:=iC.mk hM9
          have hx:wr.heap[w.heap.size+1]? = some (.cells #[.int .u8 7,.int .u32 id,.int .u32 0,.slice none 0 0,.slice none 0 0,.int .u32 0,.slice none 0 0,.int .i64 F,.int .i64 T,.slice A9 M9 a9] 54 (0,0)):=by rw [← hM9];exact HMi.out.xb
          have y9:=(iG hx 9).trans (show _=some (Value.slice A9 M9 a9) from rfl)
          have HX:=iC.mk hx
          have hir:=jg0 i hi50
          have HA9:=iC.mk hac
          clear hL2 hL3 hfs hkf HEV hM9 hx hfl hac q0
          refine qJ (n:=14) (S:=fun w'=>w'.cell? ⟨w.heap.size+1,9,none⟩=some (.slice A9 M9 a9)∧w'.cell? ⟨(ad.add (i * 2)).block,(ad.add (i * 2)).off+1,none⟩=some (.slice E1 n1 e1)) (ds:=[11,12,13]) #[false,false,false,false,false,false,false,false,false,false,false,false,false,false] (by kernel_rfl) rfl rfl ⟨y9,q1⟩ (fun hHeld=>?_)
          refine mM (T:=(true,[([],[]),([0],[0]),([],[]),([],[]),([],[]),([3,4],[3,4]),([5],[5]),([6],[6]),([7],[7]),([2,8],[2,8]),([9],[9]),([1,10,8],[1,10]),([0,1,2,3,4,5,6,7,8,9,10,11],[]),([12,11,11,0,1,2,3,4,5,6,7,8,9,10,11],[11,12])])) (B:=[0,1,0,0,0,24,56,120,248,508,1020,2047,4095,8191]) (by kernel_rfl) (by kernel_rfl) (fun HT_ HW_=>?_)
          refine jK (i:=0) (N:=some 124) (v:=?_) (a':=?_) #[true,false,false,false,false,false,false,false,false,false,false,false,false,false] rfl rfl (iZ HT_.out (by kernel_rfl)) (fun _ _ _ h=>h) (Or.inl ⟨by rfl,?_⟩) ?_ ?_
          rotate_left
          ·intro w'
           go_simp
           with_reducible rfl
          rotate_left
          ·simp only [Act.put,sb_,sz_,ss_,iO,jA]
           rfl
          refine jK (i:=2) (N:=some 126) (v:=?_) (a':=?_) #[true,false,true,false,false,false,false,false,false,false,false,false,false,false] rfl rfl (iZ HT_.out (by kernel_rfl)) (fun _ _ _ h=>h) (Or.inl ⟨by rfl,?_⟩) ?_ ?_
          rotate_left
          ·intro w'
           go_simp
           with_reducible rfl
          rotate_left
          ·simp only [Act.put,sb_,sz_,ss_,iO,jA]
           rfl
          refine jK (i:=3) (N:=some 127) (v:=?_) (a':=?_) #[true,false,true,true,false,false,false,false,false,false,false,false,false,false] rfl rfl (iZ HT_.out (by kernel_rfl)) (fun _ _ _ h=>h) (Or.inl ⟨by rfl,?_⟩) ?_ ?_
          rotate_left
          ·intro w'
           go_simp
           with_reducible rfl
          rotate_left
          ·simp only [Act.put,sb_,sz_,ss_,iO,jA]
           rfl
          refine jK (i:=4) (N:=some 128) (v:=?_) (a':=?_) #[true,false,true,true,true,false,false,false,false,false,false,false,false,false] rfl rfl (iZ HT_.out (by kernel_rfl)) (fun _ _ _ h=>h) (Or.inl ⟨by rfl,?_⟩) ?_ ?_
          rotate_left
          ·intro w'
           go_simp
           with_reducible rfl
          rotate_left
          ·simp only [Act.put,sb_,sz_,ss_,iO,jA]
           rfl
          refine jK (i:=5) (N:=some 129) (v:=?_) (a':=?_) #[true,false,true,true,true,true,false,false,false,false,false,false,false,false] rfl rfl (iZ HT_.out (by kernel_rfl)) (fun _ _ _ h=>h) (Or.inl ⟨by rfl,?_⟩) ?_ ?_
          rotate_left
          ·intro w'
           go_simp
           with_reducible rfl
          rotate_left
          ·simp only [Act.put,sb_,sz_,ss_,iO,jA]
           rfl
          refine jK (i:=6) (N:=some 130) (v:=?_) (a':=?_) #[true,false,true,true,true,true,true,false,false,false,false,false,false,false] rfl rfl (iZ HT_.out (by kernel_rfl)) (fun _ _ _ h=>h) (Or.inl ⟨by rfl,?_⟩) ?_ ?_
          rotate_left
          ·intro w'
           go_simp
           with_reducible rfl
          rotate_left
          ·simp only [Act.put,sb_,sz_,ss_,iO,jA]
           rfl
          refine qP (i:=1) (N:=some 125) (v:=?_) (a':=?_) #[true,true,true,true,true,true,true,false,false,false,false,false,false,false] rfl rfl (lF HT_.out HW_.out (by kernel_rfl)) (fun _ _ _ h=>h) (Or.inl ⟨by rfl,?_⟩) hHeld ?_ ?_
          rotate_left
          ·rintro w' ⟨s0,s1⟩
           go_simp
           with_reducible rfl
          rotate_left
          ·simp only [Act.put,sb_,sz_,ss_,iO,jA]
           rfl
          refine qP (i:=7) (N:=some 131) (v:=?_) (a':=?_) #[true,true,true,true,true,true,true,true,false,false,false,false,false,false] rfl rfl (lF HT_.out HW_.out (by kernel_rfl)) (fun _ _ _ h=>h) (Or.inl ⟨by rfl,?_⟩) hHeld ?_ ?_
          rotate_left
          ·rintro w' ⟨s0,s1⟩
           go_simp
           with_reducible rfl
          rotate_left
          ·simp only [Act.put,sb_,sz_,ss_,iO,jA]
           rfl
          refine one_ (i:=8) (N:=some 132) #[true,true,true,true,true,true,true,true,true,false,false,false,false,false] rfl rfl (kY HT_.out (by kernel_rfl)) (by decide) (fun K hK=>?_)
          refine oD Tryz.func70 (by kernel_rfl) rfl #[.slice E1 n1 e1] (by rfl) rfl rfl (by simp only [List.map_toArray,List.map_cons,List.map_nil];rfl) ?_
          with_reducible refine (hcall).mono ?_
          rintro e w5 ⟨v,rfl,hR5,hb5⟩
          refine ⟨_,rfl,?_⟩
          obtain ⟨C5,c5,rfl⟩:=Kd.R_slice hR5
          have HB5:=iC.mk (show Below wr.heap.size wr w5 from iH (iW (Below.refl _ _)) hb5)
          have HM5:=iC.mk (HMi.out.below HB5.out)
          have HR5:=iC.mk (Kd.R_newR hR5 (show Kd.R k114 114 wr.drew (w.heap.size+2) (fun _=>True) (.slice A9 M9 a9) acc from by rw [← HM9.out];exact Kd.R_drew HMi.out.o.r9))
          have HO5:=iC.mk (show Kd.R k114 114 w5 (w.heap.size+2) (fun _=>True) (.slice A9 M9 a9) acc from by rw [← HM9.out];exact HM5.out.o.r9)
          have HX5:=iC.mk (iI HB5.out HX.out)
          have y9b:=vI HB5.out y9
          have q1b:=vI HB5.out q1
          clear hcall hR5 hb5 y9 q1
          refine hK.out _ _ ⟨y9b,q1b⟩ (fun hHeld=>?_)
          clear hK K
          refine lL (a':=?_) ?_ ?_
          rotate_left
          ·show Act.put _ (some 132) _=_
           simp only [Act.put,sb_,sz_,ss_,iO,jA]
           rfl
          refine jK (i:=9) (N:=some 133) (v:=?_) (a':=?_) #[true,true,true,true,true,true,true,true,true,true,false,false,false,false] rfl rfl (iZ HT_.out (by kernel_rfl)) (fun _ _ _ h=>h) (Or.inl ⟨by rfl,?_⟩) ?_ ?_
          rotate_left
          ·intro w'
           go_simp
           with_reducible rfl
          rotate_left
          ·simp only [Act.put,sb_,sz_,ss_,iO,jA]
           rfl
          refine one_ (i:=10) (N:=some 134) #[true,true,true,true,true,true,true,true,true,true,true,false,false,false] rfl rfl (kY HT_.out (by kernel_rfl)) (by decide) (fun K hK=>?_)
          refine jC (w1:=?_) (v:=?_) (by rfl) rfl ?_ ?_
          rotate_left 2
          ·go_simp
           constructor
           ·rfl
           ·rfl
          refine hK.out _ _ ⟨(vI (iD (Below.refl _ _) _) y9b),(vI (iD (Below.refl _ _) _) q1b)⟩ (fun hHeld=>?_)
          clear hK K
          refine lL (a':=?_) ?_ ?_
          rotate_left
          ·show Act.put _ (some 134) _=_
           simp only [Act.put,sb_,sz_,ss_,iO,jA]
           rfl
          refine jd0 (i:=11) (N:=some 135) #[true,true,true,true,true,true,true,true,true,true,true,true,false,false] rfl rfl (kY HT_.out (by kernel_rfl)) (by decide) (fun K hK=>?_)
          refine Kd.R_append_step k114 (w0:=w5) (w.heap.size+2) (by rfl) (.tmp 125) (.tmp 134) 52 114 (.agg #[.int .u32 0,.slice none 0 0]) 32 rfl Tryz.underlying52 jh4 rfl (by decide) (by decide) (.slice A9 M9 a9) acc ⟨L2,fs⟩ [.int .u32 L2,.slice C5 fs.length c5] (fun _=>True) (fun j=>some j≠(Value.slice A9 M9 a9).ownBlock) rfl rfl (MB _ _ _ (⟨L2,fs⟩:jJ) (Kd.R_mono (Kd.R_lower HR5.out HMi.out.size) (fun j hj=>hj.2))) (fun j hj=>⟨trivial,hj⟩) (fun _ _=>trivial) HO5.out (Below.refl _ _) HM5.out.size (by have:=HA9.out;omega) ?_
          intro v9 w9 ho hb9 hg9 hat
          obtain ⟨D9,d9,rfl⟩:=Kd.R_slice ho
          have hx9:=qQ (g:=w.heap.size+1) HX5.out hg9 (Kd.R_ne HO5.out HX5.out (by decide))
          have hz9:=qQ (g:=w.heap.size) HM5.out.zb hg9 (Kd.R_ne HO5.out HM5.out.zb (by decide))
          have HO9:=iC.mk ho
          have HX9:=iC.mk hx9
          have HZ9:=iC.mk hz9
          have HB9:=iC.mk (HM5.out.bl.grown hg9 HM5.out.bl.size (fun j hj=>Nat.le_trans (Nat.le_add_right _ 2) (Kd.R_base HO5.out j hj)))
          have y9c:=(iG hx9 9).trans (show _=some (Value.slice A9 M9 a9) from rfl)
          have f9c:=iE hx9 9
          clear ho hb9 hg9 hat hx9 hz9 y9b q1b
          refine hK.out _ _ ?_
          clear hK K
          refine lL (a':=?_) ?_ ?_
          rotate_left
          ·show Act.put _ (some 135) _=_
           simp only [Act.put,sb_,sz_,ss_,iO,jA]
           rfl
          refine jK (i:=12) (N:=some 136) (v:=?_) (a':=?_) #[true,true,true,true,true,true,true,true,true,true,true,true,true,false] rfl rfl (iZ HT_.out (by kernel_rfl)) (fun _ _ _ h=>h) (Or.inl ⟨by rfl,?_⟩) ?_ ?_
          rotate_left
          ·intro w'
           go_simp
           with_reducible rfl
          rotate_left
          ·simp only [Act.put,sb_,sz_,ss_,iO,jA]
           rfl
          refine jd0 (i:=13) (N:=none) #[true,true,true,true,true,true,true,true,true,true,true,true,true,true] rfl rfl (kY HT_.out (by kernel_rfl)) (by decide) (fun K hK=>?_)
          refine j2_ (w1:=?_) (by rfl) rfl ?_ ?_
          rotate_left
          ·go_simp
           rfl
          refine hK.out _ _ ?_
          clear hK K
          refine zI (pM HT_.out (by kernel_rfl)) ?_
          have HM10:=iC.mk (show MH w (w9.setCell ⟨w.heap.size+1,9,none⟩ (.slice D9 (acc ++ [(⟨L2,fs⟩:jJ)]).length d9)) ⟨7,id,0,[],[],⟨0,[]⟩,F,T,acc ++ [⟨L2,fs⟩]⟩ none 0 none 0 none 0 D9 d9 from
           ⟨jU HX9.out 9 _ rfl,((jY w9 (w.heap.size+1) 9 _).block _ (jH HZ9.out) (by intro e;injection e with e;omega)).trans HZ9.out,⟨Kd.R_nil _ _ _ _ _,Kd.R_nil _ _ _ _ _,Kd.R_nil _ _ _ _ _,jT HO9.out (jY w9 (w.heap.size+1) 9 _) (by omega)⟩,below_grown HB9.out (jY w9 (w.heap.size+1) 9 _) (by omega) (Nat.le_refl _)⟩)
          have HE2:=iC.mk (show (acc ++ [(⟨L2,fs⟩:jJ)]) ++ entM L2 ((l8.take 50).drop (i+1))=entM 0 (l8.take 50) from by rw [← HE.out,HEL.out,List.append_assoc];rfl)
          have HLN:=iC.mk (show (acc ++ [(⟨L2,fs⟩:jJ)]).length=acc.length+1 from by simp)
          rw [HLN.out] at HM10
          clear y9c f9c HT_ HW_ hHeld
          go_wp2
          go_roundw
          case rel=>exact ⟨i+1,L2,acc ++ [⟨L2,fs⟩],D9,d9,rfl,by first | rfl | rw [hir],hlt.2,hlt.1,by have:=HA9.out;have:=HLN.out;omega,HM10,HE2⟩
          case measure=>(first | (simp [intOf,hir];omega) | (simp [intOf];omega))
         ·have HEN:=iC.mk (show acc=entM 0 (l8.take 50) from by
           have h:=HE.out
           rw [List.drop_of_length_le (by rw [List.length_take];have:=HN.out.2;omega),entM,List.append_nil] at h
           exact h)
          have HRE:=iC.mk (show MH w wr R none 0 none 0 none 0 A9 a9 from by
           rw [HRK.out,show yA 7 id at_ nodes l4 F T l8=⟨7,id,0,[],[],⟨0,[]⟩,F,T,acc⟩ from by unfold yA;rw [if_neg (by decide),if_neg (by decide),if_neg (by decide),if_pos rfl,HEN.out]]
           exact HMi.out)
          by_cases h8:i<N8
          ·have hd1:decide ((i:Int)<(N8:Int))=true:=decide_eq_true (by omega)
           have hd2:decide ((i:Int)<50)=false:=decide_eq_false (by omega)
           have h50:¬ i<50:=fun h=>hlt ⟨h8,h⟩
           have hd3:decide (i<N8)=true:=decide_eq_true h8
           have hd4:decide (i<50)=false:=decide_eq_false h50
           clear hlt
           go_wp2_with fail
           go_meet
           exact ⟨none,0,none,0,none,0,A9,a9,HRE⟩
          ·have hd1:decide ((i:Int)<(N8:Int))=false:=decide_eq_false (by omega)
           have hd3:decide (i<N8)=false:=decide_eq_false h8
           clear hlt
           go_wp2_with fail
           go_meet
           exact ⟨none,0,none,0,none,0,A9,a9,HRE⟩
       ·have g1:(K == 1)=false:=by simpa using h1
        have g2:(K == 2)=false:=by simpa using h2
        have g6:(K == 6)=false:=by simpa using h6
        have g7:(K == 7)=false:=by simpa using h7
        have HX:=iC.mk (show yA K id at_ nodes l4 F T l8=⟨K,id,0,[],[],⟨0,[]⟩,0,0,[]⟩ from by unfold yA;rw [if_neg h1,if_neg h2,if_neg h6,if_neg h7])
        clear h1 h2 h6 h7
        go_wp2_with fail
        go_meet
        refine ⟨none,0,none,0,none,0,none,0,⟨?_⟩⟩
        rw [HRK.out,HX.out]
        exact HMr.out
   case rest =>
    obtain ⟨B3,b3,B4,b4,B6,b6,B9,b9,HQ⟩:=hcut
    obtain ⟨W5,rfl⟩:∃ x:World,x=wc:=⟨_,rfl⟩
    clear z0 z1 z2 z3 z4 z5 z6 z7 z8 z9 y0 y1 y2 y3 y4 y5 y6 y7 y8 y9 HMr HRr
    obtain ⟨z0,z1,z2,z3,z4,z5,z6,z7,z8,z9,y0,y1,y2,y3,y4,y5,y6,y7,y8,y9⟩:=ten HQ.out.xb
    obtain ⟨x0,x1,x2,x3,x4,x5,x6,x7,x8,x9,f0,f1,f2,f3,f4,f5,f6,f7,f8,f9⟩:=ten HQ.out.zb
    clear y0 y1 y2 y3 y4 y5 y6 y7 y8 y9
    go_wp2
    obtain ⟨W6,hW6,hx6,hg6⟩:=jl7 (.int .u8 R.f0) (.int .u32 R.f1) (.int .u32 R.f2) (.slice B3 R.f3.length b3) (.slice B4 R.f4.length b4) (.int .u32 R.f5.f0) (.slice B6 R.f5.f1.length b6) (.int .i64 R.f6) (.int .i64 R.f7) (.slice B9 R.f8.length b9) HQ.out.zb
    rw [← hW6]
    refine bodyPost_ret (results_cell_row rfl _ _ w.heap.size 54 _ (0,0) _ rfl hx6 Tryz.underlying54 rfl (by kernel_rfl)) rfl ?_
    exact ⟨B3,b3,B4,b4,B6,b6,B9,b9,rfl,(HQ.out.o.keep hg6 (by omega)).lower (by omega),HQ.out.bl.grown hg6 HQ.out.bl.size (fun j hj=>by cases hj;exact Nat.le_refl _)⟩
def OA (o:SOp):SRec:=yA ((1+Int.tmod o.wh 7) % 256) o.r.f1 o.r.f2 o.wh o.r.f4 (Int.tmod (wrap64 (IntKind.u16.wrap (Int.tmod o.n 9))) 10001) (Int.tmod (wrap64 10) 10001) o.r.f8
attribute [-go_sem] Instr.storeAt
set_option maxRecDepth 20000 in
set_option maxHeartbeats 4000000 in
theorem j05 {w:World} {o:SOp} {A3 A4 A6 A9:Option Addr} {a3 a4 a6 a9:Nat} (h:Lies w o.r A3 a3 A4 a4 A6 a6 A9 a9) (hn:-9223372036854775808≤o.n∧o.n≤9223372036854775807) (hwh:0≤o.wh∧o.wh<256) :
  Calls Tryz.prog 16 #[.agg #[.int .u8 o.k,.int .u8 o.r.f0,.int .u32 o.r.f1,.int .u32 o.r.f2,.slice A3 o.r.f3.length a3,.slice A4 o.r.f4.length a4,.int .u32 o.r.f5.f0,.slice A6 o.r.f5.f1.length a6,.int .i64 o.r.f6,.int .i64 o.r.f7,.slice A9 o.r.f8.length a9,.int .u8 o.wh,.int .i64 o.n]] w (QJ w (OA o)):=by
 obtain ⟨W,hW⟩:∃ W,W=(w.alloc (.cells #[.int .u8 o.k,.int .u8 o.r.f0,.int .u32 o.r.f1,.int .u32 o.r.f2,.slice A3 o.r.f3.length a3,.slice A4 o.r.f4.length a4,.int .u32 o.r.f5.f0,.slice A6 o.r.f5.f1.length a6,.int .i64 o.r.f6,.int .i64 o.r.f7,.slice A9 o.r.f8.length a9,.int .u8 o.wh,.int .i64 o.n] 56)).alloc (.cells #[.int .u8 0,.int .u32 0,.int .u32 0,.slice none 0 0,.slice none 0 0,.int .u32 0,.slice none 0 0,.int .i64 0,.int .i64 0,.slice none 0 0] 54):=⟨_,rfl⟩
 have hb:Below w.heap.size w W:=by rw [hW];exact iD (iD (Below.refl _ _) _) _
 have hX:W.heap[w.heap.size]? = some (.cells #[.int .u8 o.k,.int .u8 o.r.f0,.int .u32 o.r.f1,.int .u32 o.r.f2,.slice A3 o.r.f3.length a3,.slice A4 o.r.f4.length a4,.int .u32 o.r.f5.f0,.slice A6 o.r.f5.f1.length a6,.int .i64 o.r.f6,.int .i64 o.r.f7,.slice A9 o.r.f8.length a9,.int .u8 o.wh,.int .i64 o.n] 56 (0,0)):=by rw [hW];exact jI (iP rfl)
 have HZ:=iC.mk (show W.heap[w.heap.size+1]? = some (.cells #[.int .u8 0,.int .u32 0,.int .u32 0,.slice none 0 0,.slice none 0 0,.int .u32 0,.slice none 0 0,.int .i64 0,.int .i64 0,.slice none 0 0] 54 (0,0)) from by rw [hW];exact iP (by simp))
 have HL:=iC.mk (h.below hb)
 have HB:=iC.mk hb
 have HW:=iC.mk hW
 have HLT:=iC.mk (jH HZ.out)
 have z2:W.cell? ⟨w.heap.size,2,none⟩=some (.int .u32 o.r.f1):=(iG hX 2).trans rfl
 have z3:W.cell? ⟨w.heap.size,3,none⟩=some (.int .u32 o.r.f2):=(iG hX 3).trans rfl
 have z5:W.cell? ⟨w.heap.size,5,none⟩=some (.slice A4 o.r.f4.length a4):=(iG hX 5).trans rfl
 have z10:W.cell? ⟨w.heap.size,10,none⟩=some (.slice A9 o.r.f8.length a9):=(iG hX 10).trans rfl
 have z11:W.cell? ⟨w.heap.size,11,none⟩=some (.int .u8 o.wh):=(iG hX 11).trans rfl
 have z12:W.cell? ⟨w.heap.size,12,none⟩=some (.int .i64 o.n):=(iG hX 12).trans rfl
 have hu:0≤IntKind.u16.wrap (Int.tmod o.n 9)∧IntKind.u16.wrap (Int.tmod o.n 9)<65536:=⟨Int.emod_nonneg _ (by decide),Int.emod_lt_of_pos _ (by decide)⟩
 have hcall:=XN (F:=Int.tmod (wrap64 (IntKind.u16.wrap (Int.tmod o.n 9))) 10001) (T:=Int.tmod (wrap64 10) 10001) o.wh o.r.f1 o.r.f2 o.wh (a4:=a4) o.r.f4 (IntKind.u16.wrap (Int.tmod o.n 9)) 10 (a8:=a9) o.r.f8 HL.out.h4 HL.out.d4 HL.out.h9 HL.out.d9 (fun e he=>((RD HL.out.h3 HL.out.h4 HL.out.h6 HL.out.h9).f9 e he).1) hwh rfl rfl rfl ⟨hu,by decide⟩
 rw [show yA ((1+Int.tmod o.wh 7) % 256) o.r.f1 o.r.f2 o.wh o.r.f4 (Int.tmod (wrap64 (IntKind.u16.wrap (Int.tmod o.n 9))) 10001) (Int.tmod (wrap64 10) 10001) o.r.f8=OA o from rfl] at hcall
 obtain ⟨R,hR⟩:∃ R,R=OA o:=⟨_,rfl⟩
 rw [← hR] at hcall ⊢
 have hn0:=hn.1
 have hn1:=hn.2
 clear h hb hX hW hR hn hu hwh
 go_enter Tryz.func16,Tryz.ntmps16
 go_upto_region 1 with fail
 rw [← HW.out]
 clear HW
 go_wp2_with fail
 go_at_call 43
 refine hcall.mono ?_
 rintro e w1 ⟨B3,b3,B4,b4,B6,b6,B9,b9,rfl,hO,hb1⟩
 have HZ1:=iC.mk (iI hb1 HZ.out)
 have HO1:=iC.mk hO
 have HB1:=iC.mk (iH HB.out hb1)
 have hst:=fun (_:True)=>oJ (a:=R.f0) (k:=R.f1) (i:=R.f2) (x3:=.slice B3 R.f3.length b3) (x4:=.slice B4 R.f4.length b4) (j:=R.f5.f0) (x6:=.slice B6 R.f5.f1.length b6) (p:=R.f6) (q:=R.f7) (x9:=.slice B9 R.f8.length b9) HZ1.out rfl rfl rfl rfl
 clear hcall hO hb1 z2 z3 z5 z10 z11 z12
 go_wp2
 ((try simp only [Exit.inBlock,Exit.then]);refine bodyPost_ret (XV rfl rfl (setRow_heap _ _ _ _ _ _ HZ1.out) rfl) rfl ?_)
 exact ⟨B3,b3,B4,b4,B6,b6,B9,b9,rfl,(HO1.out.keep (jP _ _ _) HLT.out).lower HB.out.size,below_grown HB1.out (jP _ _ _) (Nat.le_succ _) (Nat.le_refl _)⟩
end Go.Proofs.YtgfkgppomaapiaaGreatDoor.K
end
