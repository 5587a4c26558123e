/- Parts of the proof, one behind the other: Base, BufG, DiskG, DiskH, DiskW, DiskX, DiskY, DiskZ, DiskF, BytesW, DiskB, DiskC, DiskN, DiskO, DiskQ, DiskR, Fore, DiskS, Row, Card, Order, K0, CodeP, ReadN, ReadL, K63, K64. -/
import Derived.Test.YtgfkgppomaapiaaGreatDoorQWalDoes1
import Derived.Test.YtgfkgppomaapiaaGreatDoorProg
import Derived.WalkSpells
import Derived.WalkLawsBesides
import Derived.RegionTactic
import Derived.ChangeAlike
import Derived.Lib.Hide
import Derived.Lib.SlBytesConst
import Derived.Shelf.LaysM
import Derived.Shelf.Bytes.Len
import Derived.Shelf.Bytes.TryGrow
import Derived.Shelf.Bytes.GrowSliceCatch
import Derived.Shelf.Bytes.GrowSlice
import Derived.Shelf.Bytes.Bytes
import Derived.Shelf.Bytes.GrowRow0Kept
import Derived.Shelf.Bytes.GrowRowKept
import Derived.Shelf.Bytes.GrowNilKept
import Derived.Shelf.Bytes.GrowKept
import Derived.Shelf.Bytes.WriteByteKept
import Derived.Shelf.Bytes.LenAt
import Derived.Shelf.Bytes.TryGrowAt
import Derived.Ground.SlgfProg
import Derived.Shelf.SlicesE.IndexFunc
import Derived.Lib.BufferGrow
import Derived.Lib.BufferWrite
import Derived.Laws.CopyRow
import Derived.Lib.BufferSrc
import Derived.Lib.SliceRun
import Derived.ProofKit
import Derived.OpenShut
import Derived.ShutString
import Derived.ChangeOld
import Derived.SizedLaws
import Derived.ChangeSlices
import Derived.Test.YtgfkgppomaapiaaGreatDoorCards
import Derived.Test.YtgfkgppomaapiaaGreatDoorTie
import Derived.LaidMore
import Derived.Stop.Joined
import Derived.Deep.DeepHandedRow
import Derived.Test.YtgfkgppomaapiaaGreatDoorRows
import Derived.JoinedCond
import Derived.Lib.BufferMore
set_option linter.unusedVariables false
set_option linter.unusedSimpArgs false
section
namespace Go.Proofs.YtgfkgppomaapiaaGreatDoor.My
open Go Go.RowKit Go.Proofs.YtgfkgppomaapiaaGreatDoorW.PrintWords
def kb:Kd UInt8:=Kd.scalar (fun b=>Value.int .u8 (b.toNat:Int)) (fun _=>rfl)
theorem C_at {w:World} {A:Option Addr} {n:Nat} {l:List UInt8} (h:kb.C w A n l) (i:Nat) (hi:i<n):∃ ad,A=some ad∧w.cell? (ad.add i)=some (.int .u8 (l.getD i 0).toNat):=by
 obtain ⟨ad,c,e,hl,hK,hc⟩:=Kd.C_get h 0 (i:Int) (by omega) (by omega)
 have hK':c=[.int .u8 (l.getD i 0).toNat]:=hK
 subst hK'
 have:=hc 0 _ rfl
 simp only [Int.toNat_natCast,Nat.add_zero] at this
 rw [show kb.sz=1 from rfl,Nat.mul_one] at this
 exact ⟨ad,e,this⟩
theorem lD {α:Type} {d:Kd α} {w:World} {A:Option Addr} {n:Nat} {l:List α} (h:d.C w A n l):n≤9223372036854775807:=h.2.1
theorem VN {w:World} {e:Nat} {A:Option Addr} {n:Nat} {l:List (List UInt8)} (h:(Kd.slice e kb).C w A n l) (i:Nat) (hi:i<n) :
  ∃ ad A' c',A=some ad∧w.cell? (ad.add i)=some (.slice A' (l.getD i []).length c')∧(l.getD i []).length≤c'∧kb.C w A' (l.getD i []).length (l.getD i []):=by
 obtain ⟨ad,c,e,hl,hK,hc⟩:=Kd.C_get h [] (i:Int) (by omega) (by omega)
 obtain ⟨A',c',rfl,h1,h2⟩:=hK
 have:=hc 0 _ rfl
 simp only [Int.toNat_natCast,Nat.add_zero] at this h1 h2
 rw [show (Kd.slice _ kb).sz=1 from rfl,Nat.mul_one] at this
 exact ⟨ad,A',c',e,this,h1,h2⟩
theorem kW {α:Type} (d:α) (l:List α) (k:Nat) (h:k<l.length):l.take (k+1)=l.take k ++ [l.getD k d]:=by
 rw [List.take_succ_eq_append_getElem h,List.getD_eq_getElem?_getD,List.getElem?_eq_getElem h];rfl
theorem jl1 {W:World} {b e:Nat} {cells:Array Value} {fz:Nat × Nat} {l:List UInt8} {n:Nat} (hb:b=W.heap.size) (hn:n=l.length) (hm:l.length≤9223372036854775807) (hc:cells.toList=l.map fun x=>Value.int .u8 (x.toNat:Int)) :
  kb.C (W.alloc (.cells cells e fz)) (some ⟨b,0,none⟩) n l:=by
 subst hb;subst hn
 refine ⟨rfl,hm,fun _=>⟨_,rfl,fun j p hj=>⟨[.int .u8 (p.toNat:Int)],rfl,rfl,fun i u hi=>?_⟩⟩⟩
 have hi0:i=0:=by
  rcases i with _ | i
  ·rfl
  ·simp at hi
 subst hi0
 have hu:u=.int .u8 (p.toNat:Int):=by simpa using hi.symm
 subst hu
 have e1:cells[j]? = some (.int .u8 (p.toNat:Int)):=by rw [← Array.getElem?_toList,hc,List.getElem?_map,hj];rfl
 rw [add_plain,show kb.sz=1 from rfl,Nat.mul_one,Nat.add_zero]
 show (match (W.heap.push _)[W.heap.size]? with | some (.cells c _ _)=>_ | _=>_)=_
 simp [e1]
def Cs (W:World) (cs:List Value) (ls:List (List UInt8)):Prop :=
 cs.length=ls.length∧∀ (i:Nat) (l:List UInt8),ls[i]? = some l→∃ A c,cs[i]? = some (.slice A l.length c)∧l.length≤c∧kb.C W A l.length l
theorem Cs.nil (W:World):Cs W [] []:=⟨rfl,fun i l h=>by simp at h⟩
theorem Cs.cons {W:World} {cs:List Value} {ls:List (List UInt8)} {A:Option Addr} {c n:Nat} {l:List UInt8} (h:kb.C W A n l) (hc:n≤c) (hs:Cs W cs ls):Cs W (.slice A n c :: cs) (l :: ls):=by
 have hn:=h.1
 subst hn
 refine ⟨by simp [hs.1],fun i x hx=>?_⟩
 rcases i with _ | i
 ·obtain rfl:l=x:=by simpa using hx
  exact ⟨A,c,rfl,hc,h⟩
 ·exact hs.2 i x (by simpa using hx)
theorem zM (a:Addr) (i:Nat) (h:0<i):a.add i=⟨a.block,a.off+i,none⟩:=by unfold Addr.add;rw [if_neg (by omega)]
theorem OV (a:Addr):a.add 0=a:=by unfold Addr.add;rw [if_pos rfl]
theorem iP {W:World} {o:Obj} {b:Nat} (hb:b=W.heap.size):(W.alloc o).heap[b]? = some o:=by
 subst hb
 show (W.heap.push o)[W.heap.size]? = _
 simp
theorem jI {W:World} {o o':Obj} {b:Nat} (h:W.heap[b]? = some o'):(W.alloc o).heap[b]? = some o':=by
 rw [Below.heap_alloc _ _ _ (jH h)]
 exact h
theorem iI {W W':World} {o:Obj} {b:Nat} (hb:Below W.heap.size W W') (h:W.heap[b]? = some o):W'.heap[b]? = some o:=(hb.block b (jH h)).trans h
theorem ZN {W:World} {b e t:Nat} {fz:Nat × Nat} {cells:Array Value} {ls:List (List UInt8)} {n:Nat} (hb:W.heap[b]? = some (.cells cells e fz)) (hn:n=ls.length) (hm:ls.length≤9223372036854775807) (hc:Cs W cells.toList ls) :
  (Kd.slice t kb).C W (some ⟨b,0,none⟩) n ls:=by
 subst hn
 refine ⟨rfl,hm,fun _=>⟨_,rfl,fun j p hj=>?_⟩⟩
 obtain ⟨A,c,h1,h2,h3⟩:=hc.2 j p hj
 refine ⟨[.slice A p.length c],rfl,⟨A,c,rfl,h2,h3⟩,fun i u hi=>?_⟩
 have hi0:i=0:=by
  rcases i with _ | i
  ·rfl
  ·simp at hi
 subst hi0
 have hu:u=.slice A p.length c:=by simpa using hi.symm
 subst hu
 rw [add_plain,show (Kd.slice _ kb).sz=1 from rfl,Nat.mul_one,Nat.add_zero]
 have e1:cells[j]? = some (.slice A p.length c):=by rw [← Array.getElem?_toList];exact h1
 simp [World.cell?,hb,e1]
theorem vC:(Tryz.prog.info? 5).map (·.size)=some 1:=by kernel_rfl
theorem XD {w:World} {A:Option Addr} {c:Nat} {l:List UInt8} (h:kb.C w A l.length l) (hc:l.length≤c) (lo hi:Nat) (loI hiI:Int) (e1:loI=lo) (e2:hiI=hi) (h1:lo≤hi) (h2:hi≤l.length) :
  ∃ A',(∀ W:World,(Instr.slice 22 (.slice A l.length c) (some (.int .i64 loI)) (some (.int .i64 hiI)) none).run Tryz.prog W=.ok (.slice A' (hi - lo) (c - lo)) W)∧kb.C w A' (hi - lo) ((l.take hi).drop lo):=by
 subst e1;subst e2
 obtain ⟨i,hi0,hsz⟩:=Option.map_eq_some_iff.1 vC
 have hl:((l.take hi).drop lo).length=hi - lo:=by rw [List.length_drop,List.length_take];omega
 refine ⟨if c=lo then A else A.map (·.add (lo * 1)),fun W=>?_,?_⟩
 ·have:=ji1 (P:=Tryz.prog) 22 5 .i64 .i64 Tryz.underlying22 hi0 1 hsz A l.length c lo hi (by omega) (by omega) (by omega) hc W
  simpa using this
 ·have:=Kd.C_mid h h1 h2 hc
  rw [hl] at this
  exact this
theorem jc6 {w:World} {A:Option Addr} {c:Nat} {l:List UInt8} (h:kb.C w A l.length l) (hc:l.length≤c) (lo:Nat) (loI:Int) (e1:loI=lo) (h1:lo≤l.length) :
  ∃ A',(∀ W:World,(Instr.slice 22 (.slice A l.length c) (some (.int .i64 loI)) none none).run Tryz.prog W=.ok (.slice A' (l.length - lo) (c - lo)) W)∧kb.C w A' (l.length - lo) (l.drop lo):=by
 subst e1
 obtain ⟨i,hi0,hsz⟩:=Option.map_eq_some_iff.1 vC
 have hl:(l.drop lo).length=l.length - lo:=List.length_drop
 refine ⟨if c=lo then A else A.map (·.add lo),fun W=>?_,?_⟩
 ·have hel:Tryz.prog.elem 22=5:=by simp [Program.elem,Tryz.underlying22]
  have hu:Tryz.prog.underlying 22=some (.slice (Tryz.prog.elem 22)):=by rw [hel];exact Tryz.underlying22
  rw [run_slice_l W 22 A l.length c hu .i64 (lo:Int) (Int.natCast_nonneg _) (by omega),hel]
  simp [sizeOf,typeInfo,hi0,hsz,sliced,Result.andThen]
 ·have:=Kd.C_drop h h1 hc
  rw [hl,show lo * kb.sz=lo from Nat.mul_one _] at this
  exact this
theorem jc9 (A:Option Addr) (n c hi:Nat) (hiI:Int) (e1:hiI=hi) (h1:hi≤n) (hc:n≤c) :
  ∀ W:World,(Instr.slice 22 (.slice A n c) none (some (.int .i64 hiI)) none).run Tryz.prog W=.ok (.slice A hi c) W:=by
 subst e1
 intro W
 obtain ⟨i,hi0,hsz⟩:=Option.map_eq_some_iff.1 vC
 have hel:Tryz.prog.elem 22=5:=by simp [Program.elem,Tryz.underlying22]
 have hu:Tryz.prog.underlying 22=some (.slice (Tryz.prog.elem 22)):=by rw [hel];exact Tryz.underlying22
 rw [run_slice_h W 22 A n c hu .i64 (hi:Int) (Int.natCast_nonneg _) (by omega),hel]
 simp [sizeOf,typeInfo,hi0,hsz,sliced,Result.andThen]
 intro _
 cases A with
 | none=>rfl
 | some a=>simp [Addr.add]
theorem TI {w:World} {A:Option Addr} {l:List UInt8} (h:kb.C w A l.length l) (n:Nat) (hn:n≤l.length):kb.C w A n (l.take n):=by
 have:=Kd.C_take h hn
 rwa [show (l.take n).length=n from by rw [List.length_take];omega] at this
def bs (l:List UInt8):ByteArray:=⟨l.toArray⟩
theorem I9 (l:List UInt8):(bs l).data.toList=l:=by simp [bs]
theorem iY (l:List UInt8):(bs l).toList=l:=by rw [ByteArray.toList_eq,I9]
theorem uQ {w:World} {A:Option Addr} {n:Nat} {l:List UInt8} (h:kb.C w A n l):TS w .u8 A n (l.map fun b=>(b.toNat:Int)):=by
 refine ⟨by rw [List.length_map];exact h.1,h.2.1,fun hn=>?_⟩
 obtain ⟨ad,e,_⟩:=h.2.2 hn
 refine ⟨ad,e,fun i hi=>?_⟩
 obtain ⟨ad',e',hc⟩:=C_at h i hi
 obtain rfl:ad=ad':=by rw [e] at e';injection e'
 rw [hc,List.getD_eq_getElem?_getD,List.getD_eq_getElem?_getD,List.getElem?_map]
 rw [List.getElem?_eq_getElem (by have:=h.1;omega)]
 rfl
theorem vP (l:List UInt8):strOfNums (l.map fun b=>(b.toNat:Int))=bs l:=by
 unfold strOfNums bs
 congr 1
 apply Array.ext'
 simp only [List.map_map]
 conv=>rhs;rw [← List.map_id l]
 apply List.map_congr_left
 intro b _
 simp
theorem oQ {w:World} {A:Option Addr} {n c:Nat} {l:List UInt8} (h:kb.C w A n l):(convert 22 9 (.slice A n c)).run Tryz.prog w=.ok (.string (bs l)) w:=by
 rw [← vP]
 exact uD Tryz.underlying22 Tryz.underlying5 Tryz.underlying9 (uQ h)
theorem jj1 {w:World} {base e:Nat} {ok:Nat→Prop} {v:Value} {l:List UInt8} (h:kb.R e w base ok v l) (hp:0<l.length) :
  ∃ g cap,v=.slice (some ⟨g,0,none⟩) l.length cap∧l.length≤cap∧base≤g∧ok g∧(∀ i,w.frozen? ⟨g,i,none⟩=false)∧kb.C w (some ⟨g,0,none⟩) l.length l:=by
 have ho:=Kd.own_of_R (enc:=fun b:UInt8=>Value.int .u8 (b.toNat:Int)) (h1:=fun _=>rfl) h
 obtain ⟨g,cap,rfl,hb,hl⟩:=ho.form hp
 obtain ⟨A',c',e',h1,h2⟩:=Kd.R_reads h
 injection e' with e1 e2 e3
 subst e1;subst e3
 obtain ⟨cells,hc⟩:=pJ ho g (by simp [Value.ownBlock])
 exact ⟨g,cap,rfl,h1,hb,h.1 g (by simp [Value.ownBlock]),fun i=>iE hc i,h2⟩
theorem kb_R {w:World} {base:Nat} {ok:Nat→Prop} {e n c:Nat} {A:Option Addr} {l:List UInt8} (h:kb.R e w base ok (.slice A n c) l):n=l.length∧n≤c∧kb.C w A l.length l:=by
 obtain ⟨A',c',e',h1,h2⟩:=Kd.R_reads h
 injection e' with e1 e2 e3
 subst e1;subst e2;subst e3
 exact ⟨rfl,h1,h2⟩
theorem vI {W w1:World} (hb:Below W.heap.size W w1) {a:Addr} {v:Value} (h:W.cell? a=some v):w1.cell? a=some v:=kE hb h
structure Only (b:Nat) (w w':World):Prop where
 os:w'.os=w.os
 tape:w'.tape=w.tape
 output:w'.output=w.output
 size:w'.heap.size=w.heap.size
 block:∀ k,k≠b→w'.heap[k]? = w.heap[k]?
theorem Only.refl (b:Nat) (w:World):Only b w w:=⟨rfl,rfl,rfl,rfl,fun _ _=>rfl⟩
theorem Only.set {b:Nat} {w w':World} (h:Only b w w') (o:Nat) (v:Value):Only b w (w'.setCell ⟨b,o,none⟩ v) :=
 ⟨h.os,h.tape,h.output,by simp [World.setCell,h.size],fun k hk=>by rw [Below.heap_setCell _ _ _ _ hk];exact h.block k hk⟩
theorem Only.drew {b:Nat} {w w':World} (h:Only b w w'):Only b w w'.drew:=⟨h.os,h.tape,h.output,h.size,h.block⟩
theorem Only.below {b B:Nat} {w0 w w':World} (h:Only b w w') (hB:B≤b) (h0:Below B w0 w):Below B w0 w' :=
 ⟨h.os.trans h0.os,h.tape.trans h0.tape,h.output.trans h0.output,by rw [h.size];exact h0.size,fun k hk=>(h.block k (by omega)).trans (h0.block k hk)⟩
end Go.Proofs.YtgfkgppomaapiaaGreatDoor.My
end
section
namespace Go.Proofs.YtgfkgppomaapiaaGreatDoorW.PrintMore
open Go Go.RowKit Go.Proofs.YtgfkgppomaapiaaGreatDoorW.PrintWords Go.Proofs.YtgfkgppomaapiaaGreatDoorW.PrintLast Go.Proofs.YtgfkgppomaapiaaGreatDoorW.PrintMore
theorem bel_ {p:Prop} (h:p:=by (with_reducible (repeat (first | exact Below.refl _ _ | apply iD | apply iW | apply iF | apply Go.Proofs.YtgfkgppomaapiaaGreatDoor.My.below_bytesWorld | (refine iL ?_ (by first | assumption | omega)) | refine iH ?_ (by assumption))))):p:=h
theorem hb_ {p:Prop} (h:p:=by repeat (first | (with_reducible first | exact HB.out | apply iD | apply iF | apply iQ) | exact HB.out)):p:=h
theorem asm_ {p:Prop} (h:p:=by first | (with_reducible assumption) | assumption):p:=h
theorem bk_ {p q:Prop} (h:p) (f:p→q:=by intro h;(with_reducible repeat (first | refine kQ ?_ _ | refine kK ?_ | refine kD ?_ _));exact h):q:=f h
theorem sb_ {α:Type _} (l:List α) (i:Nat) (a:α):l.toArray.setIfInBounds i a=(l.set i a).toArray:=by simp only [List.setIfInBounds_toArray]
theorem sz_ {α:Type _} {a b:α} {l:List α}:(a :: l).set 0 b=b :: l:=rfl
theorem ss_ {α:Type _} {a b:α} {l:List α} {i:Nat}:(a :: l).set (i+1) b=a :: l.set i b:=rfl
end Go.Proofs.YtgfkgppomaapiaaGreatDoorW.PrintMore
end
namespace Go.Proofs
open Go.Shelf
section
def Tryz.laysM290_ren:Go.Shelf.Ren:=⟨fun | 290=>80 | 324=>106 | n=>n,fun | 37=>22 | 3=>3 | 0=>0 | 4=>4 | 20=>20 | 75=>71 | 5=>5 | 80=>179 | 9=>9 | n=>n,fun | 14=>0 | n=>n⟩
theorem Tryz.laysM290:Go.Proofs.LaysM.n290 Tryz.prog Tryz.laysM290_ren:={
 mixed:=by kernel_rfl
 f290:=Tryz.func80.trans (congrArg some (by kernel_rfl))
 f324:=Tryz.func106.trans (congrArg some (by kernel_rfl))
 t0:=Tryz.underlying0
 a0:=Tryz.isAgg0
 z0:=Tryz.sizeOf0
 v0:=Tryz.zeroValue0
 t3:=Tryz.underlying3
 a3:=Tryz.isAgg3
 z3:=Tryz.sizeOf3
 v3:=Tryz.zeroValue3
 t4:=Tryz.underlying4
 a4:=Tryz.isAgg4
 z4:=Tryz.sizeOf4
 v4:=Tryz.zeroValue4
 t20:=Tryz.underlying20
 a20:=Tryz.isAgg20
 z20:=Tryz.sizeOf20
 v20:=Tryz.zeroValue20
 t37:=Tryz.underlying22
 a37:=Tryz.isAgg22
 z37:=Tryz.sizeOf22
 v37:=Tryz.zeroValue22
 t75:=Tryz.underlying71
 a75:=Tryz.isAgg71
 z75:=Tryz.sizeOf71
 v75:=Tryz.zeroValue71
 g14:=by kernel_rfl
 t5:=Tryz.underlying5
 a5:=Tryz.isAgg5
 z5:=Tryz.sizeOf5
 v5:=Tryz.zeroValue5
 t9:=Tryz.underlying9
 a9:=Tryz.isAgg9
 z9:=Tryz.sizeOf9
 v9:=Tryz.zeroValue9
 t80:=Tryz.underlying179
 a80:=Tryz.isAgg179
 z80:=Tryz.sizeOf179
 v80:=Tryz.zeroValue179
 i0:=by kernel_rfl
 i3:=by kernel_rfl
 i4:=by kernel_rfl
 i5:=by kernel_rfl
 i9:=by kernel_rfl
 i20:=by kernel_rfl
 i37:=by kernel_rfl
 i75:=by kernel_rfl
 i80:=by kernel_rfl
 m14:=by kernel_rfl }
open Go.RowKit in
theorem Tryz.bytes_growSlice_row (g l c n:Nat) (cur:Array Value) (w:World) (hg:w.heap[g]? = some (.cells cur 5 (0,0))) (hcs:cur.size=c) (hlc:l≤c) (hn:1≤n) (hlim:l+n≤140737488355328) (hc2:c≤140737488355328) (h1:∀ v∈cur.toList.take l,v.oneCell'=true) :
  Calls Tryz.prog 80 #[.slice (some ⟨g,0,none⟩) l c,.int .i64 n] w fun e w'=>∃ cap2 cells,e=.returned (.slice (some ⟨w.heap.size,0,none⟩) l cap2)∧w'.heap[w.heap.size]? = some (.cells cells 5 (0,0)) ∧
   cells.size=cap2∧cells.toList.take l=cur.toList.take l∧l+n≤cap2∧cap2≤maxLen∧Below w.heap.size w w':=Any.bytes_growSlice_row Tryz.laysM290 g l c n cur w hg hcs hlc hn hlim hc2 h1
open Go.RowKit in
theorem Tryz.bytes_growSlice_nil (n:Nat) (w:World) (hn:1≤n) (hlim:n≤140737488355328) :
  Calls Tryz.prog 80 #[.slice none 0 0,.int .i64 n] w fun e w'=>∃ cap2 cells,e=.returned (.slice (some ⟨w.heap.size,0,none⟩) 0 cap2)∧w'.heap[w.heap.size]? = some (.cells cells 5 (0,0)) ∧
   cells.size=cap2∧n≤cap2∧cap2≤maxLen∧Below w.heap.size w w':=Any.bytes_growSlice_nil Tryz.laysM290 n w hn hlim
def Tryz.laysM251_ren:Go.Shelf.Ren:=⟨fun | 251=>47 | n=>n,fun | 130=>97 | 3=>3 | 4=>4 | 0=>0 | 93=>65 | 37=>22 | 91=>63 | 5=>5 | n=>n,fun | n=>n⟩
theorem Tryz.laysM251:Go.Proofs.LaysM.n251 Tryz.prog Tryz.laysM251_ren:={
 mixed:=by kernel_rfl
 f251:=Tryz.func47.trans (congrArg some (by kernel_rfl))
 t0:=Tryz.underlying0
 a0:=Tryz.isAgg0
 z0:=Tryz.sizeOf0
 v0:=Tryz.zeroValue0
 t3:=Tryz.underlying3
 a3:=Tryz.isAgg3
 z3:=Tryz.sizeOf3
 v3:=Tryz.zeroValue3
 t4:=Tryz.underlying4
 a4:=Tryz.isAgg4
 z4:=Tryz.sizeOf4
 v4:=Tryz.zeroValue4
 t37:=Tryz.underlying22
 a37:=Tryz.isAgg22
 z37:=Tryz.sizeOf22
 v37:=Tryz.zeroValue22
 t93:=Tryz.underlying65
 a93:=Tryz.isAgg65
 z93:=Tryz.sizeOf65
 v93:=Tryz.zeroValue65
 t130:=Tryz.underlying97
 a130:=Tryz.isAgg97
 z130:=Tryz.sizeOf97
 v130:=Tryz.zeroValue97
 t5:=Tryz.underlying5
 a5:=Tryz.isAgg5
 z5:=Tryz.sizeOf5
 v5:=Tryz.zeroValue5
 t91:=Tryz.underlying63
 a91:=Tryz.isAgg63
 z91:=Tryz.sizeOf63
 v91:=Tryz.zeroValue63
 i0:=by kernel_rfl
 i3:=by kernel_rfl
 i4:=by kernel_rfl
 i5:=by kernel_rfl
 i37:=by kernel_rfl
 i91:=by kernel_rfl
 i93:=by kernel_rfl
 i130:=by kernel_rfl }
open Go.RowKit in
theorem Tryz.Buffer_tryGrow_room_at (b q:Nat) (ao:Option Addr) (l cap n:Nat) (w:World) (c0:w.cell? ⟨b,q,none⟩=some (.slice ao l cap)) (f0:w.frozen? ⟨b,q,none⟩=false) (hlc:l≤cap) (hcap:cap≤maxLen) (hn:n≤cap - l) :
  Calls Tryz.prog 47 #[.pointer (some ⟨b,q,none⟩),.int .i64 n] w fun e w'=>e=.returned (.tuple #[.int .i64 l,.bool true])∧w'=w.setCell ⟨b,q,none⟩ (.slice ao (l+n) cap):=Any.Buffer_tryGrow_room_at Tryz.laysM251 b q ao l cap n w c0 f0 hlc hcap hn
open Go.RowKit in
theorem Tryz.Buffer_tryGrow_none_at (b q:Nat) (ao:Option Addr) (l cap n:Nat) (w:World) (c0:w.cell? ⟨b,q,none⟩=some (.slice ao l cap)) (hlc:l≤cap) (hcap:cap≤maxLen) (hn:cap - l<n) :
  Calls Tryz.prog 47 #[.pointer (some ⟨b,q,none⟩),.int .i64 n] w fun e w'=>e=.returned (.tuple #[.int .i64 0,.bool false])∧w'=w:=Any.Buffer_tryGrow_none_at Tryz.laysM251 b q ao l cap n w c0 hlc hcap hn
end
end Go.Proofs
section
namespace Go.Proofs.YtgfkgppomaapiaaGreatDoor.K
open RowKit YtgfkgppomaapiaaGreatDoorW.PrintWords YtgfkgppomaapiaaGreatDoorW.PrintLast YtgfkgppomaapiaaGreatDoorW.PrintMore My
def Dc (w:World) (b:Nat) (ao:Option Addr) (l cap:Nat) (lr lasts room left:Int):Prop :=
 w.heap[b]? = some (.cells #[.slice ao l cap,.int .i64 0,.int .i8 lr,.int .i64 lasts,.int .i64 room,.int .i64 left] 67 (0,0))
section
variable {w:World} {b:Nat} {ao:Option Addr} {l cap:Nat} {lr lasts room left:Int}
theorem Dc.c0 (h:Dc w b ao l cap lr lasts room left):w.cell? ⟨b,0,none⟩=some (.slice ao l cap):=(iG h 0).trans rfl
theorem Dc.c1 (h:Dc w b ao l cap lr lasts room left):w.cell? ⟨b,1,none⟩=some (.int .i64 0):=(iG h 1).trans rfl
theorem Dc.c2 (h:Dc w b ao l cap lr lasts room left):w.cell? ⟨b,2,none⟩=some (.int .i8 lr):=(iG h 2).trans rfl
theorem Dc.c3 (h:Dc w b ao l cap lr lasts room left):w.cell? ⟨b,3,none⟩=some (.int .i64 lasts):=(iG h 3).trans rfl
theorem Dc.c4 (h:Dc w b ao l cap lr lasts room left):w.cell? ⟨b,4,none⟩=some (.int .i64 room):=(iG h 4).trans rfl
theorem Dc.c5 (h:Dc w b ao l cap lr lasts room left):w.cell? ⟨b,5,none⟩=some (.int .i64 left):=(iG h 5).trans rfl
theorem Dc.f (h:Dc w b ao l cap lr lasts room left) (i:Nat):w.frozen? ⟨b,i,none⟩=false:=iE h i
theorem Dc.lt (h:Dc w b ao l cap lr lasts room left):b<w.heap.size:=jH h
theorem Dc.below {w':World} (h:Dc w b ao l cap lr lasts room left) (hb:Below w.heap.size w w'):Dc w' b ao l cap lr lasts room left:=iI hb h
theorem Dc.s0 (h:Dc w b ao l cap lr lasts room left) (ao':Option Addr) (l' cap':Nat):Dc (w.setCell ⟨b,0,none⟩ (.slice ao' l' cap')) b ao' l' cap' lr lasts room left:=jU h 0 _ rfl
theorem Dc.s1 (h:Dc w b ao l cap lr lasts room left):Dc (w.setCell ⟨b,1,none⟩ (.int .i64 0)) b ao l cap lr lasts room left:=jU h 1 _ rfl
theorem Dc.s2 (h:Dc w b ao l cap lr lasts room left) (x:Int):Dc (w.setCell ⟨b,2,none⟩ (.int .i8 x)) b ao l cap x lasts room left:=jU h 2 _ rfl
theorem Dc.s3 (h:Dc w b ao l cap lr lasts room left) (x:Int):Dc (w.setCell ⟨b,3,none⟩ (.int .i64 x)) b ao l cap lr x room left:=jU h 3 _ rfl
theorem Dc.s5 (h:Dc w b ao l cap lr lasts room left) (x:Int):Dc (w.setCell ⟨b,5,none⟩ (.int .i64 x)) b ao l cap lr lasts room x:=jU h 5 _ rfl
end
theorem mD {w w1 w2:World} {row:Option Nat} (h:w.grownBy w1 row) (k:Below w1.heap.size w1 w2):w.grownBy w2 row :=
 ⟨k.os.trans h.os,k.tape.trans h.tape,k.output.trans h.output,Nat.le_trans h.size k.size,fun i hi hne=>(k.block i (Nat.lt_of_lt_of_le hi h.size)).trans (h.block i hi hne)⟩
theorem jE {w w1:World} {b:Nat} (h:w.grownBy w1 (some b)) (i:Nat) (v:Value):w.grownBy (w1.setCell ⟨b,i,none⟩ v) (some b):=Lib.grownBy_trans h (Lib.grownBy_setCell w1 b i v)
set_option maxHeartbeats 1000000 in
theorem pG {b:Nat} {ao:Option Addr} {l cap:Nat} {lr lasts room left:Int} (w:World) (h:Dc w b ao l cap lr lasts room left) (hl:l≤140737488355328) :
  Calls Tryz.prog 26 #[.pointer (some ⟨b,0,none⟩)] w fun e w'=>e=.returned (.int .i64 l)∧∃ n,w'=w.drewN n:=by
 have c0:=h.c0
 have c1:=h.c1
 have mixed:Tryz.prog.follows Departure.mixedOrders=true:=by kernel_rfl
 have hwl:IntKind.i64.wrap (l:Int)=l:=by rw [IntKind.wrap_i64];omega
 clear h
 go_enter Tryz.func26,Tryz.ntmps26
 go_wp2
 go_region_o
 all_goals (go_wp2;go_ret;exact ⟨by simp [Act.put,hwl],1,rfl⟩)
set_option maxHeartbeats 12800000 in
set_option maxRecDepth 100000 in
theorem WI {b g l cap n:Nat} {lr lasts room left:Int} {cur:Array Value} (w:World) (h:Dc w b (some ⟨g,0,none⟩) l cap lr lasts room left) (hg:w.heap[g]? = some (.cells cur 5 (0,0))) (hlc:l≤cap) (hcm:cap≤maxLen) (hcs:cur.size=cap)
  (h1:∀ v∈cur.toList.take l,v.oneCell'=true) (hn:1≤n) (hroom:cap - l<n) (hlim:l+n≤140737488355328) :
  Calls Tryz.prog 48 #[.pointer (some ⟨b,0,none⟩),.int .i64 n] w fun e w'=>e=.returned (.int .i64 l)∧∃ g2 cap2 cells,Dc w' b (some ⟨g2,0,none⟩) (l+n) cap2 lr lasts room left∧w'.heap[g2]? = some (.cells cells 5 (0,0))∧w.heap.size≤g2 ∧
   cells.size=cap2∧cells.toList.take l=cur.toList.take l∧l+n≤cap2∧cap2≤maxLen∧w.grownBy w' (some b):=by
 have hnil:∀ W l,(binOp .eql 22 (.slice (some ⟨g,0,none⟩) l cap) (.slice none 0 0)).run Tryz.prog W=.ok (.bool false) W:=fun W l=>Lib.run_eql_slice_some_nil W _ _ _ Tryz.underlying22
 have mixed:Tryz.prog.follows Departure.mixedOrders=true:=by kernel_rfl
 have hcm':=hcm
 unfold maxLen at hcm'
 have hc2:cap≤140737488355328:=by omega
 have hlen:=pG w h (by omega)
 have HD:=iC.mk h
 clear h
 go_enter Tryz.func48,Tryz.ntmps48
 go_wp2_with (go_at_call 26;refine hlen.mono ?_)
 rintro e W0 ⟨rfl,k,hW0⟩
 have hD0:Dc W0 b (some ⟨g,0,none⟩) l cap lr lasts room left:=by rw [hW0];exact HD.out
 have hg0:W0.heap[g]? = some (.cells cur 5 (0,0)):=by rw [hW0];exact hg
 have c0:=hD0.c0
 have c1:=hD0.c1
 have f0:=hD0.f 0
 have f1:=hD0.f 1
 have HW0:=Lib.hid hW0
 have HD0:=iC.mk hD0
 have hbW:=hD0.lt
 clear hW0 hlen hD0
 have hwn:IntKind.i64.wrap (n:Int)=n:=by rw [IntKind.wrap_i64];omega
 rcases Nat.eq_zero_or_pos l with rfl | hl0
 all_goals go_wp2_with (go_at_call 47;refine (Tryz.Buffer_tryGrow_none_at b 0 _ _ cap n _ c0 hlc hcm hroom).mono ?_;rintro e w' ⟨rfl,rfl⟩)
 ·go_region_with_o (
   go_at_call 80
   refine (Tryz.bytes_growSlice_row g 0 cap n cur _ ?_ hcs hlc hn hlim hc2 h1).mono ?_
   exact hg0
   rintro e w2 ⟨cap2,cells,rfl,hN,hcsz,htk,hcap2,hcm2,hbel⟩
   have hD2:Dc w2 b (some ⟨g,0,none⟩) 0 cap lr lasts room left:=(hbel.block b hbW).trans HD0.out
   have d0:=hD2.c0
   have d1:=hD2.c1
   have e0:=hD2.f 0
   have e1:=hD2.f 1)
  all_goals (
   go_wp2
   go_ret
   have hgr:w.grownBy w2 (some b):=mD (w1:=w'.drew) (by rw [HW0.out];exact ⟨rfl,rfl,rfl,Nat.le_refl _,fun _ _ _=>rfl⟩) hbel
   have hne:w'.heap.size≠b:=by omega
   have hsz:w.heap.size≤w'.heap.size:=by rw [HW0.out];exact Nat.le_refl _
   refine ⟨rfl,w'.heap.size,cap2,cells,?_,oL (oL (oL hN (p:=⟨b,0,none⟩) hne _) (p:=⟨b,1,none⟩) hne _) (p:=⟨b,0,none⟩) hne _,hsz,hcsz,htk,hcap2,hcm2,jE (jE (jE hgr 0 _) 1 _) 0 _⟩
   first | exact ((hD2.s0 _ _ _).s1).s0 _ _ _ | (rw [Nat.zero_add];exact ((hD2.s0 _ _ _).s1).s0 _ _ _))
 ·go_region_with_o (
   go_at_call 80
   refine (Tryz.bytes_growSlice_row g l cap n cur _ ?_ hcs hlc hn hlim hc2 h1).mono ?_
   exact hg0
   rintro e w2 ⟨cap2,cells,rfl,hN,hcsz,htk,hcap2,hcm2,hbel⟩
   have hD2:Dc w2 b (some ⟨g,0,none⟩) l cap lr lasts room left:=(hbel.block b hbW).trans HD0.out
   have d0:=hD2.c0
   have d1:=hD2.c1
   have e0:=hD2.f 0
   have e1:=hD2.f 1)
  all_goals (
   go_wp2
   go_ret
   have hgr:w.grownBy w2 (some b):=mD (w1:=w'.drew) (by rw [HW0.out];exact ⟨rfl,rfl,rfl,Nat.le_refl _,fun _ _ _=>rfl⟩) hbel
   have hne:w'.heap.size≠b:=by omega
   have hsz:w.heap.size≤w'.heap.size:=by rw [HW0.out];exact Nat.le_refl _
   refine ⟨rfl,w'.heap.size,cap2,cells,?_,oL (oL (oL hN (p:=⟨b,0,none⟩) hne _) (p:=⟨b,1,none⟩) hne _) (p:=⟨b,0,none⟩) hne _,hsz,hcsz,htk,hcap2,hcm2,jE (jE (jE hgr 0 _) 1 _) 0 _⟩
   first | exact ((hD2.s0 _ _ _).s1).s0 _ _ _ | (rw [Nat.zero_add];exact ((hD2.s0 _ _ _).s1).s0 _ _ _))
end Go.Proofs.YtgfkgppomaapiaaGreatDoor.K
end
namespace Go.Proofs.YtgfkgppomaapiaaGreatDoor.K
open RowKit YtgfkgppomaapiaaGreatDoorW.PrintWords YtgfkgppomaapiaaGreatDoorW.PrintLast YtgfkgppomaapiaaGreatDoorW.PrintMore My
section
set_option maxHeartbeats 12800000 in
set_option maxRecDepth 100000 in
theorem QM {b n:Nat} {lr lasts room left:Int} (w:World) (h:Dc w b none 0 0 lr lasts room left) (hn:1≤n) (h64:n≤64) :
  Calls Tryz.prog 48 #[.pointer (some ⟨b,0,none⟩),.int .i64 n] w fun e w'=>e=.returned (.int .i64 0)∧∃ g2 cap2 cells,Dc w' b (some ⟨g2,0,none⟩) n cap2 lr lasts room left∧w'.heap[g2]? = some (.cells cells 5 (0,0))∧w.heap.size≤g2 ∧
   cells.size=cap2∧n≤cap2∧cap2≤maxLen∧w.grownBy w' (some b):=by
 have mixed:Tryz.prog.follows Departure.mixedOrders=true:=by kernel_rfl
 have hinf:(Tryz.prog.info? 5).map (fun i=>(i.zero,i.size,i.bytes))=some (some (.int .u8 0),1,1):=by kernel_rfl
 obtain ⟨i0,hi,hz0,hz1,hz2⟩:=info_parts hinf
 obtain ⟨M,hM⟩:∃ M,M=madeCells (Value.int .u8 0).cells ((64:Int).toNat * i0.size):=⟨_,rfl⟩
 have hMs:M.size=64:=by rw [hM,size_madeCells,hz1];rfl
 have hmk:∀ W:World,(Instr.makeSlice 22 (.int .i64 (n:Int)) (.int .i64 64)).run Tryz.prog W=.ok (.slice (some ⟨W.heap.size,0,none⟩) n 64) (W.alloc (.cells M 5)):=fun W=>by
  have h:=run_makeSlice (P:=Tryz.prog) W 22 5 i0 (.int .u8 0) Tryz.underlying22 hi hz0 .i64 .i64 (n:Int) 64 (by omega) (by omega) (by rw [hz1];decide) (by rw [hz2];decide) (by decide)
  rw [← hM] at h
  simpa using h
 clear hM
 have hnil:∀ W,(binOp .eql 22 (.slice none 0 0) (.slice none 0 0)).run Tryz.prog W=.ok (.bool true) W:=fun W=>Lib.run_eql_slice_nil_nil W _ _ Tryz.underlying22
 have hlen:=pG w h (by omega)
 have HD:=iC.mk h
 clear h
 go_enter Tryz.func48,Tryz.ntmps48
 go_wp2_with (go_at_call 26;refine hlen.mono ?_)
 rintro e W0 ⟨rfl,k,hW0⟩
 have hD0:Dc W0 b none 0 0 lr lasts room left:=by rw [hW0];exact HD.out
 have c0:=hD0.c0
 have c1:=hD0.c1
 have f0:=hD0.f 0
 have f1:=hD0.f 1
 have hbW0:=hD0.lt
 have c0a:∀ o,(W0.alloc o).cell? ⟨b,0,none⟩=some (.slice none 0 0):=fun o=>(World.cell?_of_block (a:=⟨b,0,none⟩) (Below.heap_alloc W0 o b hbW0)).trans c0
 have f0a:∀ o,(W0.alloc o).frozen? ⟨b,0,none⟩=false:=fun o=>(World.frozen?_of_block (a:=⟨b,0,none⟩) (Below.heap_alloc W0 o b hbW0)).trans f0
 have HW0:=Lib.hid hW0
 have HD0:=iC.mk hD0
 clear hW0 hlen hD0
 go_wp2_with (go_at_call 47;refine (Tryz.Buffer_tryGrow_none_at b 0 _ 0 0 n _ c0 (Nat.le_refl _) (Nat.zero_le _) (by omega)).mono ?_;rintro e w' ⟨rfl,rfl⟩)
 go_ret
 have hne:w'.heap.size≠b:=by omega
 have hsz:w.heap.size≤w'.heap.size:=by rw [HW0.out];exact Nat.le_refl _
 have hgr:w.grownBy w' (some b):=by rw [HW0.out];exact ⟨rfl,rfl,rfl,Nat.le_refl _,fun _ _ _=>rfl⟩
 have hs1:(w'.setCell ⟨b,0,none⟩ (.slice (some ⟨w'.heap.size,0,none⟩) n 64)).heap.size=w'.heap.size:=by simp [World.setCell]
 refine ⟨rfl,w'.heap.size,64,M,(HD0.out.s0 _ _ _).below (iD (Below.refl _ _) _),?_,hsz,hMs,h64,by unfold maxLen;omega,mD (jE hgr 0 _) (iD (Below.refl _ _) _)⟩
 exact iP hs1.symm
set_option maxHeartbeats 12800000 in
set_option maxRecDepth 100000 in
theorem YV {b n:Nat} {lr lasts room left:Int} (w:World) (h:Dc w b none 0 0 lr lasts room left) (hn:64<n) (hlim:n≤140737488355328) :
  Calls Tryz.prog 48 #[.pointer (some ⟨b,0,none⟩),.int .i64 n] w fun e w'=>e=.returned (.int .i64 0)∧∃ g2 cap2 cells,Dc w' b (some ⟨g2,0,none⟩) n cap2 lr lasts room left∧w'.heap[g2]? = some (.cells cells 5 (0,0))∧w.heap.size≤g2 ∧
   cells.size=cap2∧n≤cap2∧cap2≤maxLen∧w.grownBy w' (some b):=by
 have mixed:Tryz.prog.follows Departure.mixedOrders=true:=by kernel_rfl
 have hnil:∀ W,(binOp .eql 22 (.slice none 0 0) (.slice none 0 0)).run Tryz.prog W=.ok (.bool true) W:=fun W=>Lib.run_eql_slice_nil_nil W _ _ Tryz.underlying22
 have hlen:=pG w h (by omega)
 have HD:=iC.mk h
 clear h
 go_enter Tryz.func48,Tryz.ntmps48
 go_wp2_with (go_at_call 26;refine hlen.mono ?_)
 rintro e W0 ⟨rfl,k,hW0⟩
 have hD0:Dc W0 b none 0 0 lr lasts room left:=by rw [hW0];exact HD.out
 have c0:=hD0.c0
 have c1:=hD0.c1
 have f0:=hD0.f 0
 have f1:=hD0.f 1
 have hbW:=hD0.lt
 have HW0:=Lib.hid hW0
 have HD0:=iC.mk hD0
 clear hW0 hlen hD0
 have hwn:IntKind.i64.wrap (n:Int)=n:=by rw [IntKind.wrap_i64];omega
 go_wp2_with (go_at_call 47;refine (Tryz.Buffer_tryGrow_none_at b 0 _ 0 0 n _ c0 (Nat.le_refl _) (Nat.zero_le _) (by omega)).mono ?_;rintro e w' ⟨rfl,rfl⟩)
 go_region_with_o (
   go_at_call 80
   refine (Tryz.bytes_growSlice_nil n _ (by omega) hlim).mono ?_
   rintro e w2 ⟨cap2,cells,rfl,hN,hcsz,hcap2,hcm2,hbel⟩
   have hD2:Dc w2 b none 0 0 lr lasts room left:=(hbel.block b hbW).trans HD0.out
   have d0:=hD2.c0
   have d1:=hD2.c1
   have e0:=hD2.f 0
   have e1:=hD2.f 1)
 all_goals (
   go_wp2
   go_ret
   have hgr:w.grownBy w2 (some b):=mD (w1:=w'.drew) (by rw [HW0.out];exact ⟨rfl,rfl,rfl,Nat.le_refl _,fun _ _ _=>rfl⟩) hbel
   have hne:w'.heap.size≠b:=by omega
   have hsz:w.heap.size≤w'.heap.size:=by rw [HW0.out];exact Nat.le_refl _
   exact ⟨rfl,w'.heap.size,cap2,cells,((hD2.s0 _ _ _).s1).s0 _ _ _,oL (oL (oL hN (p:=⟨b,0,none⟩) hne _) (p:=⟨b,1,none⟩) hne _) (p:=⟨b,0,none⟩) hne _,hsz,hcsz,hcap2,hcm2,jE (jE (jE hgr 0 _) 1 _) 0 _⟩)
end
section
def Rw (w:World) (b:Nat) (ao:Option Addr) (row:Option Nat) (cap:Nat) (bs:List UInt8):Prop :=
 (ao=none∧row=none∧cap=0∧bs=[])∨∃ g cur,ao=some ⟨g,0,none⟩∧row=some g∧g≠b∧w.heap[g]? = some (.cells cur 5 (0,0))∧bs.length≤cap∧cap≤maxLen∧cur.size=cap∧cur.toList.take bs.length=Lib.byteCells bs
def Dk (w:World) (b:Nat) (row:Option Nat) (bs:List UInt8) (lasts room left:Int):Prop :=
 ∃ ao cap lr,Dc w b ao bs.length cap lr lasts room left∧Rw w b ao row cap bs
structure Kb (b:Nat) (row:Option Nat) (w w':World):Prop where
 os:w'.os=w.os
 tape:w'.tape=w.tape
 output:w'.output=w.output
 size:w.heap.size≤w'.heap.size
 block:∀ k,k<w.heap.size→k≠b→some k≠row→w'.heap[k]? = w.heap[k]?
def Nw (w:World) (row row':Option Nat):Prop:=∀ k,row'=some k→row=some k∨w.heap.size≤k
theorem Kb.of_grown {b:Nat} {row:Option Nat} {w w':World} (h:w.grownBy w' (some b)):Kb b row w w' :=
 ⟨h.os,h.tape,h.output,h.size,fun k hk hb _=>h.block k hk (fun e=>hb (by injection e))⟩
theorem Kb.refl (b:Nat) (row:Option Nat) (w:World):Kb b row w w:=⟨rfl,rfl,rfl,Nat.le_refl _,fun _ _ _ _=>rfl⟩
theorem Kb.trans {b:Nat} {row row':Option Nat} {w w1 w2:World} (h:Kb b row w w1) (hn:Nw w row row') (k:Kb b row' w1 w2):Kb b row w w2 :=
 ⟨k.os.trans h.os,k.tape.trans h.tape,k.output.trans h.output,Nat.le_trans h.size k.size,fun i hi hb hr=>(k.block i (Nat.lt_of_lt_of_le hi h.size) hb (fun e=>(hn i e.symm).elim (fun h'=>hr h'.symm) (fun h'=>by omega))).trans (h.block i hi hb hr)⟩
theorem Kb.below {B b:Nat} {row:Option Nat} {w w':World} (h:Kb b row w w') (hB:B≤w.heap.size) (hb:B≤b) (hr:∀ k,row=some k→B≤k):Below B w w' :=
 ⟨h.os,h.tape,h.output,h.size,fun k hk=>h.block k (by omega) (by omega) (fun e=>by have:=hr k e.symm;omega)⟩
theorem Kb.setRow {b g:Nat} {w w1:World} (h:Kb b (some g) w w1) (cs:Array Value):Kb b (some g) w (w1.setRow g cs) :=
 ⟨h.os,h.tape,h.output,by simpa [World.setRow] using h.size,fun k hk hb hr=>(setRow_other _ _ _ _ (fun e=>hr (by rw [e]))).trans (h.block k hk hb hr)⟩
theorem O8 {w:World} {a:Addr} {l:List UInt8} (h:kb.C w (some a) l.length l):∀ (j:Nat) (v:Value),(Lib.byteCells l)[j]? = some v→w.cell? (a.add j)=some v:=by
 intro j v hj
 have hlt:j<l.length:=by
  have:=(List.getElem?_eq_some_iff.1 hj).1
  rwa [Lib.byteCells_length] at this
 obtain ⟨ad,e,hc⟩:=C_at h j hlt
 cases e
 rw [hc,← hj]
 simp [Lib.byteCells,List.getElem?_eq_getElem hlt]
theorem written {w:World} {b g cap:Nat} {lr lasts room left:Int} {cur:Array Value} {bs l:List UInt8} (hD:Dc w b (some ⟨g,0,none⟩) (bs.length+l.length) cap lr lasts room left) (hg:w.heap[g]? = some (.cells cur 5 (0,0))) (hgb:g≠b) (hcs:cur.size=cap) (hcm:cap≤maxLen) (htk:cur.toList.take bs.length=Lib.byteCells bs) (hn:bs.length+l.length≤cap) :
  Dk (w.setRow g (cur.toList.take bs.length ++ Lib.byteCells l ++ cur.toList.drop (bs.length+(Lib.byteCells l).length)).toArray) b (some g) (bs ++ l) lasts room left:=by
 have hcl:cur.toList.length=cap:=(Array.length_toList (xs:=cur)).trans hcs
 have hl:(cur.toList.take bs.length).length=bs.length:=by rw [List.length_take];omega
 refine ⟨some ⟨g,0,none⟩,cap,lr,?_,.inr ⟨g,_,rfl,rfl,hgb,setRow_heap w g cur _ _ (0,0) hg,by rw [List.length_append];exact hn,hcm,?_,?_⟩⟩
 ·rw [List.length_append]
  exact (setRow_other _ _ _ _ (Ne.symm hgb)).trans hD
 ·simp only [List.size_toArray,List.length_append,hl,List.length_drop,hcl,Lib.byteCells_length];omega
 ·rw [List.toList_toArray,List.take_append_of_le_length (by simp only [List.length_append,hl,Lib.byteCells_length];exact Nat.le_refl _),List.take_of_length_le (by simp only [List.length_append,hl,Lib.byteCells_length];exact Nat.le_refl _),htk]
  simp [Lib.byteCells]
end
section
theorem je_ {b g:Nat} {row:Option Nat} {w w1:World} (hn:Nw w row (some g)) (h:w.grownBy w1 (some b)) (cs:Array Value):Kb b row w (w1.setRow g cs) :=
 (Kb.of_grown h).trans (fun k e=>by cases e;exact hn g rfl) ((Kb.refl b (some g) w1).setRow cs)
def P8 (w:World) (b:Nat) (row:Option Nat) (bs l:List UInt8) (lasts room left:Int) (e:Ending) (w':World):Prop :=
 e=.returned (.tuple #[.int .i64 l.length,.nilIface])∧∃ row',Dk w' b row' (bs ++ l) lasts room left∧Nw w row row'∧Kb b row w w'
set_option maxHeartbeats 6400000 in
set_option maxRecDepth 100000 in
theorem PZ {w:World} {b g2 cap2:Nat} {lr lasts room left:Int} {cur2:Array Value} {bs l:List UInt8} {a:Addr} {c:Nat} (hD:Dc w b (some ⟨g2,0,none⟩) bs.length cap2 lr lasts room left) (hg:w.heap[g2]? = some (.cells cur2 5 (0,0))) (hgb:g2≠b) (hcs:cur2.size=cap2) (hcm:cap2≤maxLen) (htk:cur2.toList.take bs.length=Lib.byteCells bs)
  (hC:kb.C w (some a) l.length l) (hab:a.block≠b) (hn:0<l.length) (hfit:bs.length+l.length≤cap2) :
  Calls Tryz.prog 27 #[.pointer (some ⟨b,0,none⟩),.slice (some a) l.length c] w (P8 w b (some g2) bs l lasts room left):=by
 have hinfo:(Tryz.prog.info? 5).map (·.size)=some 1:=by kernel_rfl
 have c2:=hD.c2
 have f2:=hD.f 2
 have hD1:=hD.s2 0
 have hg1:=oL hg (p:=⟨b,2,none⟩) hgb (.int .i8 0)
 have hgr1:w.grownBy (w.setCell ⟨b,2,none⟩ (.int .i8 0)) (some b):=Lib.grownBy_setCell w b 2 _
 unfold P8
 go_enter Tryz.func27,Tryz.ntmps27
 go_wp2_with (go_at_call 47;refine (Tryz.Buffer_tryGrow_room_at b 0 _ bs.length cap2 l.length _ hD1.c0 (hD1.f 0) (by omega) hcm (by omega)).mono ?_)
 rintro e W1 ⟨rfl,hW1⟩
 have hD2:Dc W1 b (some ⟨g2,0,none⟩) (bs.length+l.length) cap2 0 lasts room left:=by rw [hW1];exact hD1.s0 _ _ _
 have hg2:W1.heap[g2]? = some (.cells cur2 5 (0,0)):=by rw [hW1];exact oL hg1 (p:=⟨b,0,none⟩) hgb _
 have hgr:w.grownBy W1 (some b):=by rw [hW1];exact jE hgr1 0 _
 have hnw:Nw w (some g2) (some g2):=fun k e=>.inl e
 clear hW1 hD1 hg1 hgr1 c2 f2 hD hg
 have hg2b:=hgb;have hcs2:=hcs;have hcm2:=hcm;have htk2:=htk
 clear hgb hcs hcm htk
 have d0:=hD2.c0
 have hsrc1:∀ (j:Nat) (v:Value),(Lib.byteCells l)[j]? = some v→W1.cell? (a.add j)=some v:=fun j v hj=>hgr.cell (O8 hC j v hj) (by rw [Lib.block_add];exact fun e=>hab (Option.some.inj e))
 have hcp:=run_copy_row (P:=Tryz.prog) W1 22 22 3 5 g2 bs.length l.length (cap2 - bs.length) a l.length c cur2 5 (Lib.byteCells l) Tryz.underlying22 hinfo hg2 (by rw [Lib.byteCells_length];exact (Nat.min_self _).symm) hsrc1 (by rw [Lib.byteCells_length];omega) (Lib.byteCells_one l)
 rw [show goInt (Lib.byteCells l).length=.int .i64 (l.length:Int) from by rw [Lib.byteCells_length];rfl] at hcp
 have hne:¬ cap2=bs.length:=by omega
 have HW:=iC.mk (written hD2 hg2 hg2b hcs2 hcm2 htk2 hfit)
 have HN:=iC.mk hnw
 have HG:=iC.mk hgr
 unfold maxLen at hcm2
 clear hC hsrc1 hgr hnw htk2
 go_wp2
 go_ret2
 refine ⟨rfl,some g2,by rw [← List.append_assoc];exact HW.out,HN.out,?_⟩
 exact je_ HN.out HG.out _
theorem ZO {w:World} {b cap2 n:Nat} {lr lasts room left:Int} {ao:Option Addr} {row:Option Nat} {bs:List UInt8} (hD:Dc w b ao bs.length cap2 lr lasts room left) (hR:Rw w b ao row cap2 bs) (hn:1≤n) (hroom:cap2 - bs.length<n) (hlim:bs.length+n≤140737488355328) :
  Calls Tryz.prog 48 #[.pointer (some ⟨b,0,none⟩),.int .i64 n] w fun e w'=>e=.returned (.int .i64 bs.length)∧∃ g2 cap2 cells,Dc w' b (some ⟨g2,0,none⟩) (bs.length+n) cap2 lr lasts room left∧w'.heap[g2]? = some (.cells cells 5 (0,0))∧w.heap.size≤g2 ∧
   cells.size=cap2∧cells.toList.take bs.length=Lib.byteCells bs∧bs.length+n≤cap2∧cap2≤maxLen∧w.grownBy w' (some b):=by
 rcases hR with ⟨rfl,_,rfl,rfl⟩ | ⟨g2,cur2,rfl,_,_,hg,hlc,hcm,hcs,htk⟩
 ·have key:∀ {e:Ending} {w':World},(e=.returned (.int .i64 0)∧∃ g2 cap2 cells,Dc w' b (some ⟨g2,0,none⟩) n cap2 lr lasts room left∧w'.heap[g2]? = some (.cells cells 5 (0,0))∧w.heap.size≤g2∧cells.size=cap2∧n≤cap2∧cap2≤maxLen∧w.grownBy w' (some b)) →
    (e=.returned (.int .i64 ([]:List UInt8).length)∧∃ g2 cap2 cells,Dc w' b (some ⟨g2,0,none⟩) (([]:List UInt8).length+n) cap2 lr lasts room left∧w'.heap[g2]? = some (.cells cells 5 (0,0))∧w.heap.size≤g2 ∧
   cells.size=cap2∧cells.toList.take ([]:List UInt8).length=Lib.byteCells []∧([]:List UInt8).length+n≤cap2∧cap2≤maxLen∧w.grownBy w' (some b)):=by
   rintro e w' ⟨rfl,g2,cap2,cells,q1,q2,q3,q4,q5,q6,q7⟩
   exact ⟨rfl,g2,cap2,cells,by simpa using q1,q2,q3,q4,by simp [Lib.byteCells],by simpa using q5,q6,q7⟩
  by_cases h64:n≤64
  ·exact (QM w hD hn h64).mono (fun _ _ h=>key h)
  ·exact (YV w hD (by omega) (by simpa using hlim)).mono (fun _ _ h=>key h)
 ·refine (WI w hD hg hlc hcm hcs (by rw [htk];exact Lib.byteCells_one bs) hn hroom hlim).mono ?_
  rintro e w' ⟨rfl,g2,cap2,cells,q1,q2,q3,q4,q5,q6,q7,q8⟩
  exact ⟨rfl,g2,cap2,cells,q1,q2,q3,q4,q5.trans htk,q6,q7,q8⟩
end
section
set_option maxHeartbeats 6400000 in
set_option maxRecDepth 100000 in
theorem PS {w:World} {b cap:Nat} {lr lasts room left:Int} {ao:Option Addr} {row:Option Nat} {bs l:List UInt8} {a:Addr} {c:Nat} (hD:Dc w b ao bs.length cap lr lasts room left) (hR:Rw w b ao row cap bs)
  (hC:kb.C w (some a) l.length l) (hab:a.block≠b) (hn:0<l.length) (hroom:cap - bs.length<l.length) (hlim:bs.length+l.length≤140737488355328) :
  Calls Tryz.prog 27 #[.pointer (some ⟨b,0,none⟩),.slice (some a) l.length c] w (P8 w b row bs l lasts room left):=by
 have hinfo:(Tryz.prog.info? 5).map (·.size)=some 1:=by kernel_rfl
 obtain ⟨hlc,hcm⟩:bs.length≤cap∧cap≤maxLen:=by
  rcases hR with ⟨_,_,rfl,rfl⟩ | ⟨_,_,_,_,_,_,h1,h2,_⟩
  ·exact ⟨Nat.le_refl _,Nat.zero_le _⟩
  ·exact ⟨h1,h2⟩
 have c2:=hD.c2
 have f2:=hD.f 2
 have hD1:=hD.s2 0
 have hR1:Rw (w.setCell ⟨b,2,none⟩ (.int .i8 0)) b ao row cap bs:=by
  rcases hR with h | ⟨g,cur,h1,h2,h3,h4,h5⟩
  ·exact .inl h
  ·exact .inr ⟨g,cur,h1,h2,h3,oL h4 (p:=⟨b,2,none⟩) h3 _,h5⟩
 have hgr1:w.grownBy (w.setCell ⟨b,2,none⟩ (.int .i8 0)) (some b):=Lib.grownBy_setCell w b 2 _
 have hgrow:=ZO hD1 hR1 (n:=l.length) (by omega) hroom hlim
 have hsz1:=hgr1.size
 have hbw:=hD.lt
 unfold P8
 go_enter Tryz.func27,Tryz.ntmps27
 go_wp2_with (go_at_call 47;refine (Tryz.Buffer_tryGrow_none_at b 0 _ bs.length cap l.length _ hD1.c0 hlc hcm hroom).mono ?_;rintro e w' ⟨rfl,hw'⟩;subst hw')
 clear hD hR hR1 c2 f2 hD1
 go_wp2_with (go_at_call 48;refine hgrow.mono ?_)
 rintro e W1 ⟨rfl,g2,cap2,cur2,hD2,hg2,hnew,hcs2,htk2,hfit,hcm2,hgr2⟩
 have hgr:w.grownBy W1 (some b):=Lib.grownBy_trans hgr1 hgr2
 have hg2b:g2≠b:=by omega
 have hnw:Nw w row (some g2):=fun k e=>.inr (by cases e;omega)
 clear hgrow hgr1 hgr2 hnew hcm
 have d0:=hD2.c0
 have hsrc1:∀ (j:Nat) (v:Value),(Lib.byteCells l)[j]? = some v→W1.cell? (a.add j)=some v:=fun j v hj=>hgr.cell (O8 hC j v hj) (by rw [Lib.block_add];exact fun e=>hab (Option.some.inj e))
 have hcp:=run_copy_row (P:=Tryz.prog) W1 22 22 3 5 g2 bs.length l.length (cap2 - bs.length) a l.length c cur2 5 (Lib.byteCells l) Tryz.underlying22 hinfo hg2 (by rw [Lib.byteCells_length];exact (Nat.min_self _).symm) hsrc1 (by rw [Lib.byteCells_length];omega) (Lib.byteCells_one l)
 rw [show goInt (Lib.byteCells l).length=.int .i64 (l.length:Int) from by rw [Lib.byteCells_length];rfl] at hcp
 have hne:¬ cap2=bs.length:=by omega
 have HW:=iC.mk (written hD2 hg2 hg2b hcs2 hcm2 htk2 hfit)
 have HN:=iC.mk hnw
 have HG:=iC.mk hgr
 unfold maxLen at hcm2
 clear hC hsrc1 hgr hnw htk2
 go_wp2
 go_ret2
 refine ⟨rfl,some g2,by rw [← List.append_assoc];exact HW.out,HN.out,?_⟩
 exact je_ HN.out HG.out _
set_option maxHeartbeats 6400000 in
set_option maxRecDepth 100000 in
theorem Q3 {w:World} {b cap:Nat} {lr lasts room left:Int} {ao:Option Addr} {row:Option Nat} {bs:List UInt8} {A:Option Addr} {c:Nat} (hD:Dc w b ao bs.length cap lr lasts room left) (hR:Rw w b ao row cap bs) :
  Calls Tryz.prog 27 #[.pointer (some ⟨b,0,none⟩),.slice A 0 c] w (P8 w b row bs [] lasts room left):=by
 have hinfo:(Tryz.prog.info? 5).map (·.size)=some 1:=by kernel_rfl
 obtain ⟨hlc,hcm⟩:bs.length≤cap∧cap≤maxLen:=by
  rcases hR with ⟨_,_,rfl,rfl⟩ | ⟨_,_,_,_,_,_,h1,h2,_⟩
  ·exact ⟨Nat.le_refl _,Nat.zero_le _⟩
  ·exact ⟨h1,h2⟩
 have hce:∀ d dLen dCap W,(Builtin.copy_ #[22,22] 3 #[.slice d dLen dCap,.slice A 0 c]).run Tryz.prog W=.ok (goInt 0) W:=fun d dLen dCap W=>run_copy_none W 22 22 3 5 d A dLen dCap 0 c Tryz.underlying22 hinfo (by simp)
 have c2:=hD.c2
 have f2:=hD.f 2
 have hD1:=hD.s2 0
 have hR1:Rw (w.setCell ⟨b,2,none⟩ (.int .i8 0)) b ao row cap bs:=by
  rcases hR with h | ⟨g,cur,h1,h2,h3,h4,h5⟩
  ·exact .inl h
  ·exact .inr ⟨g,cur,h1,h2,h3,oL h4 (p:=⟨b,2,none⟩) h3 _,h5⟩
 have hgr1:w.grownBy (w.setCell ⟨b,2,none⟩ (.int .i8 0)) (some b):=Lib.grownBy_setCell w b 2 _
 unfold P8
 go_enter Tryz.func27,Tryz.ntmps27
 go_wp2_with (go_at_call 47;refine (Tryz.Buffer_tryGrow_room_at b 0 _ bs.length cap 0 _ hD1.c0 (hD1.f 0) hlc hcm (Nat.zero_le _)).mono ?_)
 rintro e W1 ⟨rfl,hW1⟩
 have hD2:Dc W1 b ao bs.length cap 0 lasts room left:=by rw [hW1];exact hD1.s0 _ _ _
 have hR2:Rw W1 b ao row cap bs:=by
  rw [hW1]
  rcases hR1 with h | ⟨g,cur,h1,h2,h3,h4,h5⟩
  ·exact .inl h
  ·exact .inr ⟨g,cur,h1,h2,h3,oL h4 (p:=⟨b,0,none⟩) h3 _,h5⟩
 have hgr:w.grownBy W1 (some b):=by rw [hW1];exact jE hgr1 0 _
 clear hW1 hD1 hR1 hgr1 c2 f2 hD hR
 have HF:=iC.mk (And.intro (show Dk W1 b row (bs ++ []) lasts room left from by rw [List.append_nil];exact ⟨ao,cap,0,hD2,hR2⟩) (Kb.of_grown (row:=row) hgr))
 rcases hR2 with ⟨rfl,rfl,rfl,rfl⟩ | ⟨g,cur,rfl,rfl,_,_,_,_,_,_⟩
 ·have d0:W1.cell? ⟨b,0,none⟩=some (.slice none 0 0):=hD2.c0
  clear hD2 hgr
  go_wp2
  all_goals (go_ret2;exact ⟨rfl,_,(by first | exact HF.out.1 | simpa using HF.out.1),fun k e=>.inl e,HF.out.2⟩)
 ·have d0:=hD2.c0
  clear hD2 hgr
  unfold maxLen at hcm
  go_wp2
  all_goals (go_ret2;exact ⟨rfl,_,(by first | exact HF.out.1 | simpa using HF.out.1),fun k e=>.inl e,HF.out.2⟩)
theorem V6 {w:World} {b:Nat} {row:Option Nat} {bs l:List UInt8} {lasts room left:Int} {A:Option Addr} {c:Nat} (h:Dk w b row bs lasts room left) (hC:kb.C w A l.length l) (hab:∀ a,A=some a→0<l.length→a.block≠b) (hlim:bs.length+l.length≤140737488355328) :
  Calls Tryz.prog 27 #[.pointer (some ⟨b,0,none⟩),.slice A l.length c] w (P8 w b row bs l lasts room left):=by
 obtain ⟨ao,cap,lr,hD,hR⟩:=h
 rcases Nat.eq_zero_or_pos l.length with h0 | h0
 ·obtain rfl:=List.eq_nil_of_length_eq_zero h0
  exact Q3 hD hR
 ·obtain ⟨a,rfl,_⟩:=C_at hC 0 h0
  by_cases hr:cap - bs.length<l.length
  ·exact PS hD hR hC (hab a rfl h0) h0 hr hlim
  ·rcases hR with ⟨_,_,rfl,rfl⟩ | ⟨g,cur,rfl,rfl,h3,h4,h5,h6,h7,h8⟩
   ·exact absurd hr (by simp;omega)
   ·exact PZ hD h4 h3 h7 h6 h8 hC (hab a rfl h0) h0 (by omega)
end
section
theorem Kb.grown0 {b:Nat} (w:World):w.grownBy w (some b):=⟨rfl,rfl,rfl,Nat.le_refl _,fun _ _ _=>rfl⟩
theorem Rw.kept {w w':World} {b:Nat} {ao:Option Addr} {row:Option Nat} {cap:Nat} {bs:List UInt8} (h:Rw w b ao row cap bs) (hg:w.grownBy w' (some b)):Rw w' b ao row cap bs:=by
 rcases h with h | ⟨g,cur,h1,h2,h3,h4,h5⟩
 ·exact .inl h
 ·exact .inr ⟨g,cur,h1,h2,h3,(hg.block g (jH h4) (fun e=>h3 (by injection e))).trans h4,h5⟩
theorem Rw.take {w:World} {b:Nat} {ao:Option Addr} {row:Option Nat} {cap:Nat} {bs:List UInt8} (h:Rw w b ao row cap bs) (n:Nat):Rw w b ao row cap (bs.take n):=by
 rcases h with ⟨h1,h2,h3,rfl⟩ | ⟨g,cur,h1,h2,h3,h4,h5,h6,h7,h8⟩
 ·exact .inl ⟨h1,h2,h3,List.take_nil⟩
 ·refine .inr ⟨g,cur,h1,h2,h3,h4,by rw [List.length_take];omega,h6,h7,?_⟩
  rw [List.length_take,← List.take_take,h8]
  simp [Lib.byteCells,List.map_take]
set_option maxHeartbeats 3200000 in
theorem VU {w:World} {b cap:Nat} {lr lasts room left:Int} {ao:Option Addr} {row:Option Nat} {bs:List UInt8} (hD:Dc w b ao bs.length cap lr lasts room left) (hR:Rw w b ao row cap bs) :
  Calls Tryz.prog 79 #[.pointer (some ⟨b,0,none⟩)] w fun e w'=>e=.returned (.tuple #[])∧Dk w' b row [] lasts room left∧w.grownBy w' (some b):=by
 have HR:=iC.mk hR
 have HD:=iC.mk hD
 have c0:=hD.c0
 have c1:=hD.c1
 have c2:=hD.c2
 have f0:=hD.f 0
 have f1:=hD.f 1
 have f2:=hD.f 2
 clear hD hR
 rcases HR.out with ⟨rfl,rfl,rfl,rfl⟩ | ⟨g,cur,rfl,rfl,_,_,h5,h6,_,_⟩
 ·go_enter Tryz.func79,Tryz.ntmps79
  go_wp2
  go_end0
  have hg:=jE (jE (jE (b:=b) (Kb.grown0 w) 0 (.slice none 0 0)) 1 (.int .i64 0)) 2 (.int .i8 0)
  exact ⟨rfl,⟨none,0,0,((HD.out.s0 none 0 0).s1).s2 0,HR.out.kept hg⟩,hg⟩
 ·unfold maxLen at h6
  go_enter Tryz.func79,Tryz.ntmps79
  go_wp2
  go_end0
  have hg:=jE (jE (jE (b:=b) (Kb.grown0 w) 0 (.slice (some ⟨g,0,none⟩) 0 cap)) 1 (.int .i64 0)) 2 (.int .i8 0)
  exact ⟨rfl,⟨some ⟨g,0,none⟩,cap,0,((HD.out.s0 (some ⟨g,0,none⟩) 0 cap).s1).s2 0,(HR.out.take 0).kept hg⟩,hg⟩
set_option maxHeartbeats 3200000 in
theorem UB {w:World} {b n:Nat} {row:Option Nat} {bs:List UInt8} {lasts room left:Int} (h:Dk w b row bs lasts room left) (hn:n≤bs.length) (hbs:bs.length≤140737488355328) :
  Calls Tryz.prog 78 #[.pointer (some ⟨b,0,none⟩),.int .i64 n] w fun e w'=>e=.returned (.tuple #[])∧Dk w' b row (bs.take n) lasts room left∧w.grownBy w' (some b):=by
 obtain ⟨ao,cap,lr,hD,hR⟩:=h
 rcases Nat.eq_zero_or_pos n with rfl | h0
 ·have hr:=VU hD hR
  go_enter Tryz.func78,Tryz.ntmps78
  go_wp2_with (go_at_call 79;refine hr.mono ?_;rintro e w' ⟨rfl,h1,h2⟩)
  refine bodyPost_ret (results_none rfl _ _ _) rfl ?_
  exact ⟨rfl,h1,h2⟩
 ·rcases hR with ⟨rfl,rfl,rfl,rfl⟩ | ⟨g,cur,rfl,rfl,h3,h4,h5,h6,h7,h8⟩
  ·exact absurd hn (by simp;omega)
  ·have HR:=iC.mk (show Rw w b (some ⟨g,0,none⟩) (some g) cap bs from .inr ⟨g,cur,rfl,rfl,h3,h4,h5,h6,h7,h8⟩)
   unfold maxLen at h6
   have c2:=hD.c2
   have f2:=hD.f 2
   have hD1:=hD.s2 0
   have c0:=hD1.c0
   have c1:=hD1.c1
   have f0:=hD1.f 0
   have hlen:=pG _ hD1 (by omega)
   have HD:=iC.mk hD1
   clear hD hD1 h3 h4 h7 h8
   go_enter Tryz.func78,Tryz.ntmps78
   go_wp2_with (go_at_call 26;refine hlen.mono ?_)
   rintro e W1 ⟨rfl,k,hW1⟩
   have hD2:Dc W1 b (some ⟨g,0,none⟩) bs.length cap 0 lasts room left:=by rw [hW1];exact HD.out
   have hg1:w.grownBy W1 (some b):=by rw [hW1];exact ⟨rfl,rfl,rfl,(Lib.grownBy_setCell w b 2 (.int .i8 0)).size,(Lib.grownBy_setCell w b 2 (.int .i8 0)).block⟩
   have d0:=hD2.c0
   have d1:=hD2.c1
   have e0:=hD2.f 0
   have HD2:=iC.mk hD2
   have HG:=iC.mk hg1
   have mixed:Tryz.prog.follows Departure.mixedOrders=true:=by kernel_rfl
   have hwn:IntKind.i64.wrap (n:Int)=n:=by rw [IntKind.wrap_i64];omega
   clear hD2 hg1 hlen hW1 c0 c1 c2 f0 f2
   go_wp2
   go_region_o
   all_goals (
    go_wp2
    go_end0
    have hg:=jE (w1:=W1.drew) ⟨HG.out.os,HG.out.tape,HG.out.output,HG.out.size,HG.out.block⟩ 0 (.slice (some ⟨g,0,none⟩) n cap)
    have hl:(bs.take n).length=n:=by rw [List.length_take];omega
    refine ⟨rfl,⟨some ⟨g,0,none⟩,cap,0,?_,(HR.out.take n).kept hg⟩,hg⟩
    rw [hl]
    exact Dc.s0 (w:=W1.drew) HD2.out _ _ _)
end
section
attribute [local go_sem] kL kH kZ lC
set_option maxHeartbeats 1600000 in
theorem LJ {w:World} {b n:Nat} {row:Option Nat} {bs:List UInt8} {lasts room left:Int} (h:Dk w b row bs lasts room left) (hn:n≤bs.length) (hbs:bs.length≤140737488355328) :
  Calls Tryz.prog 46 #[.pointer (some ⟨b,0,none⟩),.int .i64 n] w fun e w'=>e=.returned (.tuple #[])∧Dk w' b row (bs.take n) (mn lasts n) room left∧w.grownBy w' (some b):=by
 have ht:=UB h hn hbs
 obtain ⟨ao,cap,lr,hD,_⟩:=h
 go_enter Tryz.func46,Tryz.ntmps46
 go_wp2_with (go_at_call 78;refine ht.mono ?_)
 rintro e W1 ⟨rfl,hK,hG⟩
 clear ht hD
 have HG:=iC.mk hG
 obtain ⟨ao1,cap1,lr1,hD1,hR1⟩:=hK
 have c3:=hD1.c3
 have f3:=hD1.f 3
 have HD:=iC.mk hD1
 have HR:=iC.mk hR1
 clear hD1 hR1 hG
 go_wp2
 all_goals (
  go_end0
  refine ⟨rfl,⟨ao1,cap1,lr1,?_,HR.out.kept (jE (b:=b) (Kb.grown0 W1) 3 _)⟩,jE HG.out 3 _⟩
  unfold mn
  split <;> first | exact HD.out.s3 _ | (exfalso;omega))
set_option maxHeartbeats 1600000 in
theorem XX {w:World} {b:Nat} {row:Option Nat} {bs:List UInt8} {lasts room left:Int} (n:Int) (h:Dk w b row bs lasts room left) :
  Calls Tryz.prog 20 #[.pointer (some ⟨b,0,none⟩),.int .i64 n] w fun e w'=>e=.returned (.tuple #[])∧Dk w' b row bs lasts room (mx n (-1))∧w.grownBy w' (some b):=by
 obtain ⟨ao,cap,lr,hD,hR⟩:=h
 have c5:=hD.c5
 have f5:=hD.f 5
 have HD:=iC.mk hD
 have HR:=iC.mk hR
 clear hD hR
 go_enter Tryz.func20,Tryz.ntmps20
 go_wp2
 all_goals (
  go_end0
  refine ⟨rfl,⟨ao,cap,lr,?_,HR.out.kept (jE (b:=b) (Kb.grown0 w) 5 _)⟩,jE (Kb.grown0 w) 5 _⟩
  unfold mx
  split <;> first | exact HD.out.s5 _ | (exfalso;omega))
end
end Go.Proofs.YtgfkgppomaapiaaGreatDoor.K
namespace Go.Proofs.YtgfkgppomaapiaaGreatDoor.My
open Go Go.RowKit Go.Proofs.YtgfkgppomaapiaaGreatDoorW.PrintWords
section
def OB (w:World) (base:Nat) (v:Value) (l:List UInt8):Prop:=kb.R 5 w base (fun _=>True) v l
theorem OB.below {w w':World} {base:Nat} {v:Value} {l:List UInt8} (h:OB w base v l) (hb:Below w.heap.size w w'):OB w' base v l:=Kd.R_below h hb
theorem OB.reads {w:World} {base:Nat} {v:Value} {l:List UInt8} (h:OB w base v l):∃ A c,v=.slice A l.length c∧l.length≤c∧kb.C w A l.length l:=Kd.R_reads h
theorem OB.lower {w:World} {base base':Nat} {v:Value} {l:List UInt8} (h:OB w base v l) (hb:base'≤base):OB w base' v l:=Kd.R_lower h hb
theorem OB.nil (w:World) (base:Nat):OB w base (.slice none 0 0) []:=Kd.R_nil _ _ _ _ _
theorem nR:(Tryz.prog.info? 5).map (fun i=>(i.zero,i.size,i.bytes))=some (some (.int .u8 0),kb.sz,1):=by kernel_rfl
theorem OB.empty (w:World):OB (w.alloc (.cells #[] 5)) w.heap.size (.slice (some ⟨w.heap.size,0,none⟩) 0 0) []:=by
 refine Kd.R_of_own ?_ (fun _ _=>trivial)
 have h:=World.ownsRow_lit (base:=w.heap.size) (e:=5) (size:=1) w #[] 0 (Nat.le_refl _) (by simp) (by simp)
 simpa [encs] using h
theorem jf1 {w:World} {n:Nat} {l:List UInt8} (h:kb.C w none n l):l=[]∧n=0:=by
 have h1:=h.1
 rcases Nat.eq_zero_or_pos n with h0 | h0
 ·subst h0;exact ⟨List.length_eq_zero_iff.1 h1,rfl⟩
 ·obtain ⟨ad,e,_⟩:=h.2.2 h0;cases e
set_option maxHeartbeats 1000000 in
theorem JF (A:Option Addr) (c:Nat) (l:List UInt8) (w:World) (hr:kb.C w A l.length l) (hc:l.length≤c) (hs:l.length≤140737488355327) :
  Calls Tryz.prog 38 #[.slice A l.length c] w fun e w'=>∃ v,e=.returned v∧OB w' w.heap.size v l∧Below w.heap.size w w':=by
 cases A with
 | none =>
  obtain ⟨rfl,_⟩:=jf1 hr
  have hnil:=fun (w:World) (a:Option Addr) (n c:Nat)=>Lib.run_eql_slice_nil (P:=Tryz.prog) w 22 5 a n c 0 0 Tryz.underlying22
  go_enter Tryz.func38,Tryz.ntmps38
  go_wp2
  go_ret
  exact ⟨_,rfl,OB.nil _ _,Below.refl _ _⟩
 | some ad =>
  have HL:=iC.mk hr
  clear hr
  have hnil:=fun (w:World) (a:Option Addr) (n c:Nat)=>Lib.run_eql_slice_nil (P:=Tryz.prog) w 22 5 a n c 0 0 Tryz.underlying22
  go_enter Tryz.func38,Tryz.ntmps38
  go_wp2_with (at_builtin;refine Kd.R_append_rows kb (w0:=w) w.heap.size rfl (.tmp 5) (.tmp 6) 22 5 (.int .u8 0) 1 rfl Tryz.underlying22 nR rfl (by decide) (by omega) (.slice (some ⟨w.heap.size,0,none⟩) 0 0) [] l _ _ _ (fun _=>True) (fun _=>False) rfl rfl (OB.empty w) ?aR (fun _ _ h=>h) (fun _ h=>h.elim) (fun _ _=>trivial) ?aB ?aS ?aL ?_;(case aR=>exact Kd.C_below HL.out (by (repeat (first | exact Below.refl _ _ | apply iD | apply iW | apply iF | apply below_bytesWorld | (refine iL ?_ (by first | assumption | omega)) | refine iH ?_ (by assumption)))));(case aB=>(repeat (first | exact Below.refl _ _ | apply iD | apply iW | apply iF | apply below_bytesWorld | (refine iL ?_ (by first | assumption | omega)) | refine iH ?_ (by assumption))));(case aS=>exact iT (by (repeat (first | exact Below.refl _ _ | apply iD | apply iW | apply iF | apply below_bytesWorld | (refine iL ?_ (by first | assumption | omega)) | refine iH ?_ (by assumption)))));(case aL=>simp;omega);intro v1 w2 HO HB hg hat)
  go_ret
  exact ⟨_,rfl,HO,HB⟩
set_option maxHeartbeats 1000000 in
theorem JB (A:Option Addr) (c:Nat) (l:List UInt8) (w:World) (hr:kb.C w A l.length l) (hc:l.length≤c) (hs:l.length≤140737488355327) :
  Calls Tryz.prog 98 #[.slice A l.length c] w fun e w'=>∃ v,e=.returned v∧OB w' w.heap.size v l∧Below w.heap.size w w':=by
 cases A with
 | none =>
  obtain ⟨rfl,_⟩:=jf1 hr
  have hnil:=fun (w:World) (a:Option Addr) (n c:Nat)=>Lib.run_eql_slice_nil (P:=Tryz.prog) w 22 5 a n c 0 0 Tryz.underlying22
  go_enter Tryz.func98,Tryz.ntmps98
  go_wp2
  go_ret
  exact ⟨_,rfl,OB.nil _ _,Below.refl _ _⟩
 | some ad =>
  have HL:=iC.mk hr
  clear hr
  have hnil:=fun (w:World) (a:Option Addr) (n c:Nat)=>Lib.run_eql_slice_nil (P:=Tryz.prog) w 22 5 a n c 0 0 Tryz.underlying22
  go_enter Tryz.func98,Tryz.ntmps98
  go_wp2_with (at_builtin;refine Kd.R_append_rows kb (w0:=w) w.heap.size rfl (.tmp 5) (.tmp 6) 22 5 (.int .u8 0) 1 rfl Tryz.underlying22 nR rfl (by decide) (by omega) (.slice (some ⟨w.heap.size,0,none⟩) 0 0) [] l _ _ _ (fun _=>True) (fun _=>False) rfl rfl (OB.empty w) ?aR (fun _ _ h=>h) (fun _ h=>h.elim) (fun _ _=>trivial) ?aB ?aS ?aL ?_;(case aR=>exact Kd.C_below HL.out (by (repeat (first | exact Below.refl _ _ | apply iD | apply iW | apply iF | apply below_bytesWorld | (refine iL ?_ (by first | assumption | omega)) | refine iH ?_ (by assumption)))));(case aB=>(repeat (first | exact Below.refl _ _ | apply iD | apply iW | apply iF | apply below_bytesWorld | (refine iL ?_ (by first | assumption | omega)) | refine iH ?_ (by assumption))));(case aS=>exact iT (by (repeat (first | exact Below.refl _ _ | apply iD | apply iW | apply iF | apply below_bytesWorld | (refine iL ?_ (by first | assumption | omega)) | refine iH ?_ (by assumption)))));(case aL=>simp;omega);intro v1 w2 HO HB hg hat)
  go_ret
  exact ⟨_,rfl,HO,HB⟩
set_option maxHeartbeats 1000000 in
theorem UW (A A':Option Addr) (c c' n n':Nat) (l l':List UInt8) (w:World) (hr:kb.C w A n l) (hr':kb.C w A' n' l') :
  Calls Tryz.prog 83 #[.slice A n c,.slice A' n' c'] w fun e w'=>e=.returned (.bool (l == l'))∧w'=w:=by
 have h1:=oQ (c:=c) hr
 have h2:=oQ (c:=c') hr'
 have h3:=I9 l
 have h4:=I9 l'
 clear hr hr'
 go_enter Tryz.func83,Tryz.ntmps83
 go_wp2
 go_ret
 refine ⟨?_,rfl⟩
 rw [iY,iY]
 rfl
set_option maxHeartbeats 1000000 in
theorem XL (n:Nat) (w:World) (hn:n≤140737488355327) :
  Calls Tryz.prog 99 #[.slice none 0 0,.int .i64 (n:Int)] w fun e w'=>∃ v,e=.returned v∧OB w' w.heap.size v []∧Below w.heap.size w w':=by
 have hn0:¬ (n:Int)<0:=by omega
 by_cases h0:(0:Int)<n
 ·go_enter Tryz.func99,Tryz.ntmps99
  go_wp2_with (at_builtin;refine Kd.R_append_zeros kb (w0:=w) w.heap.size rfl (.tmp 20) (.tmp 21) 22 3 5 (.int .u8 0) 1 rfl Tryz.underlying22 Tryz.underlying3 nR rfl (by decide) (by omega) (.slice none 0 0) [] 0 (n:Int) (fun _=>True) rfl rfl rfl (fun _ _=>trivial) (Kd.R_nil _ _ _ _ _) (by omega) ?aB ?aS ?aL ?_;(case aB=>(repeat (first | exact Below.refl _ _ | apply iD | apply iW | apply iF | apply below_bytesWorld | (refine iL ?_ (by first | assumption | omega)) | refine iH ?_ (by assumption))));(case aS=>exact iT (by (repeat (first | exact Below.refl _ _ | apply iD | apply iW | apply iF | apply below_bytesWorld | (refine iL ?_ (by first | assumption | omega)) | refine iH ?_ (by assumption)))));(case aL=>simp;omega);intro v1 w2 HO HB hg hat;rw [List.nil_append,Int.toNat_natCast] at HO;obtain ⟨g,cap,rfl,hlc,hgb,_,hfr,hC1⟩:=jj1 HO (by simp;omega);have HR:=iC.mk HO;clear HO hg hat hfr hC1;rw [List.length_replicate] at HR hlc;rw [List.length_replicate])
  go_ret
  exact ⟨_,rfl,Kd.R_take (m:=0) HR.out (Nat.zero_le _),HB⟩
 ·go_enter Tryz.func99,Tryz.ntmps99
  go_wp2_with fail
  go_ret
  exact ⟨_,rfl,OB.nil _ _,by (repeat (first | exact Below.refl _ _ | apply iD | apply iW | apply iF | apply below_bytesWorld | (refine iL ?_ (by first | assumption | omega)) | refine iH ?_ (by assumption)))⟩
theorem OX (l:List (List UInt8)) (k:Nat) (h:k<l.length):(l.take (k+1)).flatten=(l.take k).flatten ++ l.getD k []:=by
 rw [kW [] l k h,List.flatten_append]
 simp
theorem WS (l:List (List UInt8)) (k:Nat):(l.take k).flatten.length≤l.flatten.length:=by
 conv=>rhs;rw [← List.take_append_drop k l,List.flatten_append,List.length_append]
 omega
def rP (l:List (List UInt8)):Nat:=l.flatten.length
set_option maxHeartbeats 1000000 in
theorem QY (A:Option Addr) (c:Nat) (l:List (List UInt8)) (w:World) (hr:(Kd.slice 5 kb).C w A l.length l) (hs:l.flatten.length≤140737488355327) :
  Calls Tryz.prog 68 #[.slice A l.length c] w fun e w'=>∃ v,e=.returned v∧OB w' w.heap.size v l.flatten∧Below w.heap.size w w':=by
 have hm:=lD hr
 have HR:=iC.mk hr
 clear hr
 go_enter Tryz.func68,Tryz.ntmps68
 go_wp2
 go_loop [3,11] (fun s i=>∃ k:Nat,k≤l.length∧i=.int .i64 k∧s=.int .i64 (rP (l.take k):Int)) (fun _ i=>l.length - (intOf i).toNat)
 case atStart=>exact ⟨0,Nat.zero_le _,rfl,rfl⟩
 case round =>
  obtain ⟨k,hk,rfl,rfl⟩:=hrel
  by_cases hlt:k<l.length
  ·obtain ⟨ad,A',c',rfl,hx,hxl,hxc⟩:=VN HR.out k hlt
   have hf:=OX l k hlt
   have hle:=WS l (k+1)
   have hadd:(rP (l.take k):Int)+((l.getD k []).length:Int)=(rP (l.take (k+1)):Int):=by unfold rP;rw [hf,List.length_append];omega
   have hb1:((rP (l.take k):Int)+((l.getD k []).length:Int))≤140737488355327:=by rw [hadd];unfold rP;omega
   have HADD:=iC.mk hadd
   clear hf hle hadd hxl hxc
   generalize (l.getD k []).length=m at hx hb1 HADD
   have hb0:¬ (rP (l.take k):Int)+(m:Int)<0:=by omega
   generalize rP (l.take k)=q at hb1 HADD hb0
   go_wp2
   go_round
   case rel=>exact ⟨k+1,by omega,by go_num,by rw [HADD.out]⟩
   case measure=>simp [intOf];omega
  ·obtain rfl:k=l.length:=by omega
   simp only [List.take_length]
   go_wp2_with fail
   refine (XL (rP l) _ hs).mono ?_
   rintro e w1 ⟨v0,rfl,HO0,hb1⟩
   have HO0':=iC.mk HO0
   clear HO0
   go_wp2
   go_loopw [6,27] (fun v i wr=>∃ k:Nat,k≤l.length∧i=.int .i64 k∧iC (OB wr w.heap.size v (l.take k).flatten)∧iC (Below w.heap.size w wr)) (fun _ i _=>l.length - (intOf i).toNat)
   case atStart=>exact ⟨0,Nat.zero_le _,rfl,HO0',⟨hb1⟩⟩
   case round =>
    obtain ⟨k,hk,rfl,HO,HB⟩:=hrel
    by_cases hlt:k<l.length
    ·obtain ⟨ad,A',c',rfl,hx,hxl,hxc⟩:=VN HR.out k hlt
     have hx':=vI HB.out hx
     have HX:=iC.mk (Kd.C_below hxc HB.out)
     have HF:=iC.mk (OX l k hlt)
     have hle:(l.take k).flatten.length+(l.getD k []).length≤140737488355327:=by have:=WS l (k+1);rw [HF.out,List.length_append] at this;omega
     clear hx hxl hxc
     obtain ⟨x,hxe⟩:∃ x,x=l.getD k []:=⟨_,rfl⟩
     rw [← hxe] at hx' HX HF hle
     clear hxe
     go_wp2_with (at_builtin;refine Kd.R_append_rows kb (w0:=w) w.heap.size rfl (.tmp 31) (.tmp 32) 22 5 (.int .u8 0) 1 rfl Tryz.underlying22 nR rfl (by decide) (by omega) _ _ x _ _ _ (fun _=>True) (fun _=>False) rfl rfl HO.out HX.out (fun _ _ h=>h) (fun _ h=>h.elim) (fun _ _=>trivial) HB.out HB.out.size (by omega) ?_;intro v1 w2 HO1 HB1 hg hat;have HO1':=iC.mk HO1;have HB1':=iC.mk HB1;clear HO1 HB1 hg hat)
     go_roundw
     case rel=>exact ⟨k+1,by omega,by go_num,⟨by rw [HF.out];exact HO1'.out⟩,HB1'⟩
     case measure=>simp [intOf];omega
    ·obtain rfl:k=l.length:=by omega
     have HO2:=HO.out
     rw [List.take_length] at HO2
     have HO2':=iC.mk HO2
     clear HO2
     go_wp2
     go_ret
     exact ⟨_,rfl,HO2'.out,HB.out⟩
end
end Go.Proofs.YtgfkgppomaapiaaGreatDoor.My
namespace Go.Proofs.YtgfkgppomaapiaaGreatDoor.K
open RowKit YtgfkgppomaapiaaGreatDoorW.PrintWords YtgfkgppomaapiaaGreatDoorW.PrintLast YtgfkgppomaapiaaGreatDoorW.PrintMore My
section
theorem Rw.reads {w:World} {b:Nat} {ao:Option Addr} {row:Option Nat} {cap:Nat} {bs:List UInt8} (h:Rw w b ao row cap bs):kb.C w ao bs.length bs∧bs.length≤cap∧cap≤maxLen:=by
 rcases h with ⟨rfl,rfl,rfl,rfl⟩ | ⟨g,cur,rfl,rfl,h3,h4,h5,h6,h7,h8⟩
 ·exact ⟨Kd.C_nil _ _,Nat.le_refl _,Nat.zero_le _⟩
 ·have hR:kb.R 5 w 0 (fun _=>True) (.slice (some ⟨g,0,none⟩) bs.length cap) bs:=by
   refine Kd.R_of_own ?_ (fun _ _=>trivial)
   refine ⟨by simp [encs,Lib.byteCells],.inr ⟨g,cap,cur,rfl,Nat.zero_le _,h4,h5,h6,by rw [h7];show cap=cap * 1;omega,?_⟩⟩
   show cur.toList.take (bs.length * 1)=_
   rw [Nat.mul_one,h8]
   simp [encs,Lib.byteCells]
  exact ⟨(kb_R hR).2.2,h5,h6⟩
set_option maxHeartbeats 3200000 in
theorem VD {w:World} {b cap:Nat} {lr lasts room left:Int} {ao:Option Addr} {row:Option Nat} {bs:List UInt8} (hD:Dc w b ao bs.length cap lr lasts room left) (hR:Rw w b ao row cap bs) :
  Calls Tryz.prog 39 #[.pointer (some ⟨b,0,none⟩)] w fun e w'=>e=.returned (.slice ao bs.length cap)∧∃ n,w'=w.drewN n:=by
 have mixed:Tryz.prog.follows Departure.mixedOrders=true:=by kernel_rfl
 have c0:=hD.c0
 have c1:=hD.c1
 rcases hR with ⟨rfl,rfl,rfl,rfl⟩ | ⟨g,cur,rfl,rfl,_,_,h5,h6,_,_⟩
 ·clear hD
  go_enter Tryz.func39,Tryz.ntmps39
  go_wp2
  go_region_o
  all_goals (go_wp2;go_ret;exact ⟨rfl,1,rfl⟩)
 ·clear hD
  unfold maxLen at h6
  go_enter Tryz.func39,Tryz.ntmps39
  go_wp2
  go_region_o
  all_goals (go_wp2;go_ret;exact ⟨by simp,1,rfl⟩)
theorem pX {b:Nat} {row:Option Nat} {w:World} {bs:List UInt8} {lasts room left:Int} (h:Dk w b row bs lasts room left) (n:Nat):Dk (w.drewN n) b row bs lasts room left:=h
set_option maxHeartbeats 3200000 in
theorem XA {w:World} {b:Nat} {row:Option Nat} {bs:List UInt8} {lasts room left:Int} (h:Dk w b row bs lasts room left) (hbs:bs.length≤140737488355327) :
  Calls Tryz.prog 13 #[.pointer (some ⟨b,0,none⟩)] w fun e w'=>∃ v,e=.returned v∧OB w' w.heap.size v bs∧Below w.heap.size w w':=by
 obtain ⟨ao,cap,lr,hD,hR⟩:=h
 have hb:=VD hD hR
 obtain ⟨hC,hc,_⟩:=hR.reads
 clear hD hR
 have HC:=iC.mk hC
 clear hC
 go_enter Tryz.func13,Tryz.ntmps13
 go_wp2_with (go_at_call 39;refine hb.mono ?_)
 rintro e W1 ⟨rfl,k,hW1⟩
 have hbel:Below w.heap.size w W1:=by rw [hW1];exact iF (Below.refl _ _) k
 have hcl:=JF ao cap bs W1 (Kd.C_below HC.out hbel) hc hbs
 have HB:=iC.mk hbel
 clear hW1 hbel hb
 go_wp2_with (go_at_call 38;refine hcl.mono ?_)
 rintro e w2 ⟨v,rfl,hv,hb2⟩
 have HV:=iC.mk hv
 have HB2:=iC.mk hb2
 clear hcl hv hb2
 go_wp2
 go_ret
 exact ⟨v,rfl,HV.out.lower (iT HB.out),iH HB.out HB2.out⟩
end
section
theorem MP (x y:Int):Builtin.max2 (.int .i64 x) (.int .i64 y)=pure (.int .i64 (mx x y)):=kL _ _ x y
theorem QD (x y:Int):Builtin.min2 (.int .i64 x) (.int .i64 y)=pure (.int .i64 (mn x y)):=kH _ _ x y
attribute [local go_sem] MP QD kZ lC
set_option maxHeartbeats 6400000 in
set_option maxRecDepth 20000 in
theorem UF {w:World} {b k:Nat} {row:Option Nat} {bs:List UInt8} {lasts room left:Int} (keep:Int) (h:Dk w b row bs lasts room left) (hbs:bs.length≤140737488355327) (hl0:0≤lasts) (hl1:lasts≤bs.length) (hk:(k:Int)=lasts+mn (mx keep 0) (bs.length - lasts)) :
  Calls Tryz.prog 22 #[.pointer (some ⟨b,0,none⟩),.int .i64 keep] w fun e w'=>e=.returned (.tuple #[])∧Dk w' b row (bs.take k) k room (-1)∧w.grownBy w' (some b):=by
 have mixed:Tryz.prog.follows Departure.mixedOrders=true:=by kernel_rfl
 have HK:=iC.mk h
 obtain ⟨ao,cap,lr,hD,hR⟩:=h
 have HD:=iC.mk hD
 have c3:=hD.c3
 have hlen:=fun n=>pG (w.drewN n) (show Dc (w.drewN n) b ao bs.length cap lr lasts room left from hD) (by omega)
 have hkl:k≤bs.length:=by unfold mn mx at hk;split at hk <;> split at hk <;> omega
 have hlv:=fun n=>LJ (w:=w.drewN n) (pX HK.out n) hkl (by omega)
 have hw1:IntKind.i64.wrap ((bs.length:Int) - lasts)=bs.length - lasts:=by rw [IntKind.wrap_i64];omega
 have hw2:IntKind.i64.wrap (lasts+mn (mx keep 0) ((bs.length:Int) - lasts))=k:=by rw [← hk,IntKind.wrap_i64];omega
 have HKK:=iC.mk hk
 clear hD hR hk
 go_enter Tryz.func22,Tryz.ntmps22
 go_wp2
 go_quiet ((go_at_call 26;exact Calls.quiet_of (hlen _)))
 go_wp2_with (go_at_call 46;refine (hlv _).mono ?_)
 rintro e W1 ⟨rfl,hK1,hG1⟩
 have hG2:w.grownBy W1 (some b):=Lib.grownBy_trans (mD (Kb.grown0 w) (iF (Below.refl _ _) nq)) hG1
 have HG:=iC.mk hG2
 obtain ⟨ao1,cap1,lr1,hD1,hR1⟩:=hK1
 have hkb:(bs.take k).length=k:=by rw [List.length_take];omega
 rw [hkb] at hD1
 have HD1:=iC.mk hD1
 have HR1:=iC.mk hR1
 have hlen1:=pG W1 hD1 (by omega)
 clear hlv hlen hG1 hG2 hD1 hR1 c3 hw1 hw2 hkb
 go_wp2_with (go_at_call 26;refine hlen1.mono ?_)
 rintro e W2 ⟨rfl,q,hq⟩
 have hD2:Dc W2 b ao1 k cap1 lr1 (mn lasts k) room left:=by rw [hq];exact HD1.out
 have hG2:W1.grownBy W2 (some b):=by rw [hq];exact mD (Kb.grown0 _) (iF (Below.refl _ _) q)
 have d3:=hD2.c3
 have d5:=hD2.c5
 have f3:=hD2.f 3
 have f5:=hD2.f 5
 have HD2:=iC.mk hD2
 have HG2:=iC.mk hG2
 clear hq hlen1 hD2 hG2
 go_wp2
 go_end0
 have hg:=jE (jE HG2.out 3 (.int .i64 k)) 5 (.int .i64 (-1))
 refine ⟨rfl,⟨ao1,cap1,lr1,?_,HR1.out.kept hg⟩,Lib.grownBy_trans HG.out hg⟩
 rw [show (bs.take k).length=k by rw [List.length_take];omega]
 exact (HD2.out.s3 k).s5 (-1)
end
section
def dec (left:Int):Int:=if 0<left then left - 1 else left
theorem MS {left:Int} (h:0<left):dec left=left - 1:=if_pos h
theorem LP {left:Int} (h:¬ 0<left):dec left=left:=if_neg h
def EQ (Q:Int→World→Prop) (e:Ending) (w':World):Prop:=∃ n:Int,e=.returned (.int .u16 n)∧Q n w'
theorem Dk.left_eq {w:World} {b:Nat} {row:Option Nat} {bs:List UInt8} {lasts room left left':Int} (h:Dk w b row bs lasts room left) (e:left=left'):Dk w b row bs lasts room left':=e▸h
theorem Dk.set_left {w:World} {b:Nat} {row:Option Nat} {bs:List UInt8} {lasts room left:Int} (h:Dk w b row bs lasts room left) (x:Int):Dk (w.setCell ⟨b,5,none⟩ (.int .i64 x)) b row bs lasts room x:=by
 obtain ⟨ao,cap,lr,hD,hR⟩:=h
 exact ⟨ao,cap,lr,hD.s5 x,hR.kept (jE (b:=b) (Kb.grown0 w) 5 _)⟩
set_option maxHeartbeats 1600000 in
theorem Z5 {w:World} {b:Nat} {row:Option Nat} {bs:List UInt8} {lasts room left:Int} (v:Value) (h:Dk w b row bs lasts room left) (h0:left=0) :
  Calls Tryz.prog 24 #[.pointer (some ⟨b,0,none⟩),v] w fun e w'=>e=.returned (.int .u16 100)∧w'=w:=by
 subst h0
 obtain ⟨ao,cap,lr,hD,_⟩:=h
 have c5:=hD.c5
 clear hD
 go_enter Tryz.func24,Tryz.ntmps24
 go_wp2
 go_ret
 exact ⟨rfl,rfl⟩
set_option maxHeartbeats 3200000 in
theorem jb5 {w:World} {b:Nat} {row:Option Nat} {bs:List UInt8} {lasts room left:Int} (x y:Value) {Q:Int→World→Prop} (h:Dk w b row bs lasts room left) (h0:left≠0) (hr:left≤9223372036854775807) (hdo:∀ w1,Dk w1 b row bs lasts room (dec left)→w.grownBy w1 (some b)→Calls Tryz.prog 25 #[x,y] w1 (EQ Q)) :
  Calls Tryz.prog 24 #[.pointer (some ⟨b,0,none⟩),.func (.func 25) #[] #[x,y]] w (EQ Q):=by
 have HK:=iC.mk h
 obtain ⟨ao,cap,lr,hD,_⟩:=h
 have c5:=hD.c5
 have f5:=hD.f 5
 clear hD
 have hne:(left == 0)=false:=by simpa using h0
 clear h0
 by_cases hp:0<left
 ·have hdo1:=hdo _ ((HK.out.set_left (left - 1)).left_eq (MS hp).symm) (jE (b:=b) (Kb.grown0 w) 5 (.int .i64 (left - 1)))
  clear hdo
  go_enter Tryz.func24,Tryz.ntmps24
  go_wp2_with (go_at_call 25;refine hdo1.mono ?_)
  rintro e w2 ⟨n,rfl,hq⟩
  have HQ:=iC.mk hq
  clear hq hdo1
  go_wp2
  go_ret
  exact ⟨n,rfl,HQ.out⟩
 ·have hdo1:=hdo _ (HK.out.left_eq (LP hp).symm) (Kb.grown0 w)
  clear hdo
  go_enter Tryz.func24,Tryz.ntmps24
  go_wp2_with (go_at_call 25;refine hdo1.mono ?_)
  rintro e w2 ⟨n,rfl,hq⟩
  have HQ:=iC.mk hq
  clear hq hdo1
  go_wp2
  go_ret
  exact ⟨n,rfl,HQ.out⟩
set_option maxHeartbeats 3200000 in
theorem j01 {w:World} {b:Nat} {row:Option Nat} {bs:List UInt8} {lasts room left:Int} (x y:Value) {Q:Int→World→Prop} (h:Dk w b row bs lasts room left) (h0:left≠0) (hr:left≤9223372036854775807) (hdo:∀ w1,Dk w1 b row bs lasts room (dec left)→w.grownBy w1 (some b)→Calls Tryz.prog 52 #[x] w1 (EQ Q)) :
  Calls Tryz.prog 24 #[.pointer (some ⟨b,0,none⟩),.func (.func 52) #[] #[x]] w (EQ Q):=by
 have HK:=iC.mk h
 obtain ⟨ao,cap,lr,hD,_⟩:=h
 have c5:=hD.c5
 have f5:=hD.f 5
 clear hD
 have hne:(left == 0)=false:=by simpa using h0
 clear h0
 by_cases hp:0<left
 ·have hdo1:=hdo _ ((HK.out.set_left (left - 1)).left_eq (MS hp).symm) (jE (b:=b) (Kb.grown0 w) 5 (.int .i64 (left - 1)))
  clear hdo
  go_enter Tryz.func24,Tryz.ntmps24
  go_wp2_with (go_at_call 52;refine hdo1.mono ?_)
  rintro e w2 ⟨n,rfl,hq⟩
  have HQ:=iC.mk hq
  clear hq hdo1
  go_wp2
  go_ret
  exact ⟨n,rfl,HQ.out⟩
 ·have hdo1:=hdo _ (HK.out.left_eq (LP hp).symm) (Kb.grown0 w)
  clear hdo
  go_enter Tryz.func24,Tryz.ntmps24
  go_wp2_with (go_at_call 52;refine hdo1.mono ?_)
  rintro e w2 ⟨n,rfl,hq⟩
  have HQ:=iC.mk hq
  clear hq hdo1
  go_wp2
  go_ret
  exact ⟨n,rfl,HQ.out⟩
set_option maxHeartbeats 3200000 in
theorem ja1 {w:World} {b:Nat} {row:Option Nat} {bs:List UInt8} {lasts room left:Int} (x y:Value) {Q:Int→World→Prop} (h:Dk w b row bs lasts room left) (h0:left≠0) (hr:left≤9223372036854775807) (hdo:∀ w1,Dk w1 b row bs lasts room (dec left)→w.grownBy w1 (some b)→Calls Tryz.prog 51 #[x,y] w1 (EQ Q)) :
  Calls Tryz.prog 24 #[.pointer (some ⟨b,0,none⟩),.func (.func 51) #[] #[x,y]] w (EQ Q):=by
 have HK:=iC.mk h
 obtain ⟨ao,cap,lr,hD,_⟩:=h
 have c5:=hD.c5
 have f5:=hD.f 5
 clear hD
 have hne:(left == 0)=false:=by simpa using h0
 clear h0
 by_cases hp:0<left
 ·have hdo1:=hdo _ ((HK.out.set_left (left - 1)).left_eq (MS hp).symm) (jE (b:=b) (Kb.grown0 w) 5 (.int .i64 (left - 1)))
  clear hdo
  go_enter Tryz.func24,Tryz.ntmps24
  go_wp2_with (go_at_call 51;refine hdo1.mono ?_)
  rintro e w2 ⟨n,rfl,hq⟩
  have HQ:=iC.mk hq
  clear hq hdo1
  go_wp2
  go_ret
  exact ⟨n,rfl,HQ.out⟩
 ·have hdo1:=hdo _ (HK.out.left_eq (LP hp).symm) (Kb.grown0 w)
  clear hdo
  go_enter Tryz.func24,Tryz.ntmps24
  go_wp2_with (go_at_call 51;refine hdo1.mono ?_)
  rintro e w2 ⟨n,rfl,hq⟩
  have HQ:=iC.mk hq
  clear hq hdo1
  go_wp2
  go_ret
  exact ⟨n,rfl,HQ.out⟩
end
section
def apB (bs l:List UInt8) (room:Int):List UInt8:=if room - bs.length<l.length then bs else bs ++ l
def apE (bs l:List UInt8) (room:Int):Int:=if room - bs.length<l.length then 100 else 0
def DQ (w:World) (b:Nat) (row:Option Nat) (n:Int) (bs:List UInt8) (lasts room left:Int) (m:Int) (w':World):Prop :=
 m=n∧∃ row',Dk w' b row' bs lasts room left∧Nw w row row'∧Kb b row w w'
theorem DQ.old {w w1 w':World} {b:Nat} {row:Option Nat} {n:Int} {bs:List UInt8} {lasts room left m:Int} (h:DQ w1 b row n bs lasts room left m w') (hk:Kb b row w w1):DQ w b row n bs lasts room left m w':=by
 obtain ⟨e,row',h1,h2,h3⟩:=h
 have hn:Nw w row row:=fun k e=>.inl e
 exact ⟨e,row',h1,fun k e=>(h2 k e).imp id (fun h=>Nat.le_trans hk.size h),hk.trans hn h3⟩
theorem Kb.of_below {b:Nat} {row:Option Nat} {w w':World} (h:Below w.heap.size w w'):Kb b row w w' :=
 ⟨h.os,h.tape,h.output,h.size,fun k hk _ _=>h.block k hk⟩
theorem Rw.below {w w':World} {b:Nat} {ao:Option Addr} {row:Option Nat} {cap:Nat} {bs:List UInt8} (h:Rw w b ao row cap bs) (hb:Below w.heap.size w w'):Rw w' b ao row cap bs:=by
 rcases h with h | ⟨g,cur,h1,h2,h3,h4,h5⟩
 ·exact .inl h
 ·exact .inr ⟨g,cur,h1,h2,h3,(hb.block g (jH h4)).trans h4,h5⟩
theorem Dk.below {w w':World} {b:Nat} {row:Option Nat} {bs:List UInt8} {lasts room left:Int} (h:Dk w b row bs lasts room left) (hb:Below w.heap.size w w'):Dk w' b row bs lasts room left:=by
 obtain ⟨ao,cap,lr,hD,hR⟩:=h
 exact ⟨ao,cap,lr,hD.below hb,hR.below hb⟩
theorem Dk.lt {w:World} {b:Nat} {row:Option Nat} {bs:List UInt8} {lasts room left:Int} (h:Dk w b row bs lasts room left):b<w.heap.size:=by
 obtain ⟨ao,cap,lr,hD,hR⟩:=h
 exact hD.lt
set_option maxHeartbeats 3200000 in
theorem ja6 {w:World} {b x y:Nat} {row:Option Nat} {bs l:List UInt8} {lasts room left:Int} {A:Option Addr} {c:Nat} (h:Dk w b row bs lasts room left) (hx:w.cell? ⟨x,0,none⟩=some (.slice A l.length c)) (hy:w.cell? ⟨y,0,none⟩=some (.pointer (some ⟨b,0,none⟩)))
  (hC:kb.C w A l.length l) (hab:∀ a,A=some a→0<l.length→a.block≠b) (hbs:(bs.length:Int)≤room) (hroom:room≤1048576) (hl:l.length≤140737480000000) :
  Calls Tryz.prog 25 #[.pointer (some ⟨x,0,none⟩),.pointer (some ⟨y,0,none⟩)] w (EQ (DQ w b row (apE bs l room) (apB bs l room) lasts room left)):=by
 have mixed:Tryz.prog.follows Departure.mixedOrders=true:=by kernel_rfl
 have hwr:=fun n=>V6 (w:=w.drewN n) (c:=c) (pX h n) hC hab (by omega)
 have HK:=iC.mk h
 obtain ⟨ao,cap,lr,hD,hR⟩:=h
 have c4:=hD.c4
 have hlen:=fun n=>pG (w.drewN n) (show Dc (w.drewN n) b ao bs.length cap lr lasts room left from hD) (by omega)
 have hw1:IntKind.i64.wrap (room - (bs.length:Int))=room - bs.length:=by rw [IntKind.wrap_i64];omega
 clear hD hR
 by_cases hp:room - (bs.length:Int)<l.length
 ·have hE:apE bs l room=100:=if_pos hp
  have hB:apB bs l room=bs:=if_pos hp
  rw [hE,hB]
  clear hwr hE hB
  go_enter Tryz.func25,Tryz.ntmps25
  go_wp2
  go_quiet ((go_at_call 26;exact Calls.quiet_of (hlen _)))
  go_wp2
  go_ret
  exact ⟨100,rfl,rfl,row,pX HK.out _,fun k e=>.inl e,Kb.of_below (iF (Below.refl _ _) _)⟩
 ·have hE:apE bs l room=0:=if_neg hp
  have hB:apB bs l room=bs ++ l:=if_neg hp
  rw [hE,hB]
  clear hE hB
  go_enter Tryz.func25,Tryz.ntmps25
  go_wp2
  go_quiet ((go_at_call 26;exact Calls.quiet_of (hlen _)))
  go_wp2
  go_region_with_o (
   go_at_call 27
   refine (hwr _).mono ?_
   rintro e w1 ⟨rfl,hq⟩)
  all_goals (
   go_wp2
   go_ret
   obtain ⟨row',h1,h2,h3⟩:=hq
   exact ⟨0,rfl,rfl,row',h1,h2,(Kb.of_below (iF (Below.refl _ _) _)).trans (fun k e=>.inl e) h3⟩)
theorem XT {w w1:World} {b:Nat} {A:Option Addr} {n:Nat} {l:List UInt8} (h:kb.C w A n l) (hg:w.grownBy w1 (some b)) (hab:∀ a,A=some a→0<l.length→a.block≠b):kb.C w1 A n l :=
 Kd.C_keep (0:UInt8) h ⟨hg.size,fun i hi hne _=>hg.block i hi (fun e=>hne (Option.some.inj e))⟩ (fun a e hn=>hab a e (by rw [h.1];exact hn))
theorem cell_grown {w w1:World} {b:Nat} {x:Nat} {v:Value} (h:w.cell? ⟨x,0,none⟩=some v) (hg:w.grownBy w1 (some b)) (hx:x≠b):w1.cell? ⟨x,0,none⟩=some v :=
 hg.cell h (fun e=>hx (Option.some.inj e))
set_option maxHeartbeats 3200000 in
theorem PQ {w:World} {b:Nat} {row:Option Nat} {bs l:List UInt8} {lasts room left:Int} {A:Option Addr} {c:Nat} (h:Dk w b row bs lasts room left)
  (hC:kb.C w A l.length l) (hab:∀ a,A=some a→0<l.length→a.block≠b) (hbs:(bs.length:Int)≤room) (hroom:room≤1048576) (hl:l.length≤140737480000000) (hlf:left≤9223372036854775807) :
  Calls Tryz.prog 8 #[.pointer (some ⟨b,0,none⟩),.slice A l.length c] w (EQ (DQ w b row (if left=0 then 100 else apE bs l room) (if left=0 then bs else apB bs l room) lasts room (dec left))):=by
 generalize hE:(if left=0 then 100 else apE bs l room)=E
 generalize hB:(if left=0 then bs else apB bs l room)=B
 have hbel:Below w.heap.size w ((w.alloc (.cells #[.pointer (some ⟨b,0,none⟩)] 24)).alloc (.cells #[.slice A l.length c] 22)):=((Below.refl _ _).alloc (Nat.le_refl _) _).alloc (by simp) _
 have hK:=h.below hbel
 have hC1:=Kd.C_below hC hbel
 have hy:((w.alloc (.cells #[.pointer (some ⟨b,0,none⟩)] 24)).alloc (.cells #[.slice A l.length c] 22)).cell? ⟨w.heap.size,0,none⟩=some (.pointer (some ⟨b,0,none⟩)):=by go_simp
 have hx:((w.alloc (.cells #[.pointer (some ⟨b,0,none⟩)] 24)).alloc (.cells #[.slice A l.length c] 22)).cell? ⟨w.heap.size+1,0,none⟩=some (.slice A l.length c):=by go_simp
 have hlt:=h.lt
 have HB:=iC.mk hbel
 obtain ⟨W,hW⟩:∃ W,W=(w.alloc (.cells #[.pointer (some ⟨b,0,none⟩)] 24)).alloc (.cells #[.slice A l.length c] 22):=⟨_,rfl⟩
 have key:Calls Tryz.prog 24 #[.pointer (some ⟨b,0,none⟩),.func (.func 25) #[] #[.pointer (some ⟨w.heap.size+1,0,none⟩),.pointer (some ⟨w.heap.size,0,none⟩)]] W (EQ (DQ w b row E B lasts room (dec left))):=by
  rw [← hE,← hB]
  rw [← hW] at hK hC1 hx hy hbel
  by_cases h0:left=0
  ·refine (Z5 _ hK h0).mono ?_
   rintro e w' ⟨rfl,rfl⟩
   exact ⟨100,rfl,by rw [if_pos h0],row,by rw [if_pos h0,h0,show dec 0=0 from rfl];rwa [h0] at hK,fun k e=>.inl e,Kb.of_below hbel⟩
  ·refine jb5 _ _ hK h0 hlf (fun w1 hk1 hg1=>?_)
   have h1:=ja6 (x:=w.heap.size+1) (y:=w.heap.size) (c:=c) hk1 (cell_grown hx hg1 (by omega)) (cell_grown hy hg1 (by omega)) (XT hC1 hg1 hab) hab hbs hroom hl
   refine h1.mono ?_
   rintro e w' ⟨n,rfl,hq⟩
   refine ⟨n,rfl,?_⟩
   rw [if_neg h0,if_neg h0]
   exact hq.old ((Kb.of_below hbel).trans (fun k e=>.inl e) (Kb.of_grown hg1))
 rw [hW] at key
 clear hK hC1 hC hbel h hW hx hy hE hB hl hlf hroom hbs hlt hab
 go_enter Tryz.func8,Tryz.ntmps8
 go_wp2_with (go_at_call 24;refine key.mono ?_)
 rintro e w2 ⟨n,rfl,hq⟩
 have HQ:=iC.mk hq
 clear hq key
 go_wp2
 go_ret
 exact ⟨n,rfl,HQ.out⟩
set_option maxHeartbeats 3200000 in
theorem YK {w:World} {b x:Nat} {row:Option Nat} {bs:List UInt8} {lasts room left:Int} (h:Dk w b row bs lasts room left) (hx:w.cell? ⟨x,0,none⟩=some (.pointer (some ⟨b,0,none⟩))) (hbs:bs.length≤1048576) (hxb:x≠b) :
  Calls Tryz.prog 52 #[.pointer (some ⟨x,0,none⟩)] w (EQ (DQ w b row 0 bs bs.length room left)):=by
 have mixed:Tryz.prog.follows Departure.mixedOrders=true:=by kernel_rfl
 have HK:=iC.mk h
 obtain ⟨ao,cap,lr,hD,hR⟩:=h
 have HD:=iC.mk hD
 have HR:=iC.mk hR
 have f3:=hD.f 3
 have hlen:=fun n=>pG (w.drewN n) (show Dc (w.drewN n) b ao bs.length cap lr lasts room left from hD) (by omega)
 clear hD hR
 go_enter Tryz.func52,Tryz.ntmps52
 go_wp2
 go_region_with_o (
  go_at_call 26
  refine (pG (b:=b) (l:=bs.length) (ao:=ao) (cap:=cap) (lr:=lr) (lasts:=lasts) (room:=room) (left:=left) _ ?_ (by omega)).mono ?_
  exact HD.out
  rintro e w1 ⟨rfl,q,hq⟩
  have hD2:Dc w1 b ao bs.length cap lr lasts room left:=by rw [hq];exact HD.out
  have hG2:w.grownBy w1 (some b):=by rw [hq];exact mD (w1:=w.drew) (by exact ⟨rfl,rfl,rfl,Nat.le_refl _,fun _ _ _=>rfl⟩) (iF (Below.refl _ _) _)
  have hx2:=cell_grown hx hG2 hxb
  have d3:=hD2.c3
  have e3:=hD2.f 3
  have HD2:=iC.mk hD2
  have HG2:=iC.mk hG2
  clear hq hD2 hG2)
 all_goals (
  go_wp2
  go_ret
  exact ⟨0,rfl,rfl,row,⟨ao,cap,lr,HD2.out.s3 _,HR.out.kept (jE (b:=b) HG2.out 3 _)⟩,fun k e=>.inl e,Kb.of_grown (jE HG2.out 3 _)⟩)
set_option maxHeartbeats 3200000 in
theorem XF {w:World} {b:Nat} {row:Option Nat} {bs:List UInt8} {lasts room left:Int} (h:Dk w b row bs lasts room left) (hbs:bs.length≤1048576) (hlf:left≤9223372036854775807) :
  Calls Tryz.prog 31 #[.pointer (some ⟨b,0,none⟩)] w (EQ (DQ w b row (if left=0 then 100 else 0) bs (if left=0 then lasts else bs.length) room (dec left))):=by
 generalize hE:(if left=0 then 100 else 0:Int)=E
 generalize hB:(if left=0 then lasts else (bs.length:Int))=B
 have hbel:Below w.heap.size w (w.alloc (.cells #[.pointer (some ⟨b,0,none⟩)] 24)):=(Below.refl _ _).alloc (Nat.le_refl _) _
 have hK:=h.below hbel
 have hy:(w.alloc (.cells #[.pointer (some ⟨b,0,none⟩)] 24)).cell? ⟨w.heap.size,0,none⟩=some (.pointer (some ⟨b,0,none⟩)):=by go_simp
 have hlt:=h.lt
 have HB:=iC.mk hbel
 obtain ⟨W,hW⟩:∃ W,W=w.alloc (.cells #[.pointer (some ⟨b,0,none⟩)] 24):=⟨_,rfl⟩
 have key:Calls Tryz.prog 24 #[.pointer (some ⟨b,0,none⟩),.func (.func 52) #[] #[.pointer (some ⟨w.heap.size,0,none⟩)]] W (EQ (DQ w b row E bs B room (dec left))):=by
  rw [← hE,← hB]
  rw [← hW] at hK hy hbel
  by_cases h0:left=0
  ·refine (Z5 _ hK h0).mono ?_
   rintro e w' ⟨rfl,rfl⟩
   exact ⟨100,rfl,by rw [if_pos h0],row,by rw [if_pos h0,h0,show dec 0=0 from rfl];rwa [h0] at hK,fun k e=>.inl e,Kb.of_below hbel⟩
  ·refine j01 _ (.bool true) hK h0 hlf (fun w1 hk1 hg1=>?_)
   have h1:=YK (x:=w.heap.size) hk1 (cell_grown hy hg1 (by omega)) hbs (by omega)
   refine h1.mono ?_
   rintro e w' ⟨n,rfl,hq⟩
   refine ⟨n,rfl,?_⟩
   rw [if_neg h0,if_neg h0]
   exact hq.old ((Kb.of_below hbel).trans (fun k e=>.inl e) (Kb.of_grown hg1))
 rw [hW] at key
 clear hK hbel h hW hy hE hB hlf hbs hlt
 go_enter Tryz.func31,Tryz.ntmps31
 go_wp2_with (go_at_call 24;refine key.mono ?_)
 rintro e w2 ⟨n,rfl,hq⟩
 have HQ:=iC.mk hq
 clear hq key
 go_wp2
 go_ret
 exact ⟨n,rfl,HQ.out⟩
end
section
def ctB (bs:List UInt8) (n:Int):List UInt8:=if n<0∨(bs.length:Int)<n then bs else bs.take n.toNat
def ctE (bs:List UInt8) (n:Int):Int:=if n<0∨(bs.length:Int)<n then 1 else 0
def ctL (bs:List UInt8) (lasts n:Int):Int:=if n<0∨(bs.length:Int)<n then lasts else mn lasts n
set_option maxHeartbeats 3200000 in
theorem ja2 {w:World} {b x y:Nat} {row:Option Nat} {bs:List UInt8} {lasts room left:Int} (n:Int) (h:Dk w b row bs lasts room left) (hx:w.cell? ⟨x,0,none⟩=some (.int .i64 n)) (hy:w.cell? ⟨y,0,none⟩=some (.pointer (some ⟨b,0,none⟩))) (hbs:bs.length≤1048576) :
  Calls Tryz.prog 51 #[.pointer (some ⟨x,0,none⟩),.pointer (some ⟨y,0,none⟩)] w (EQ (DQ w b row (ctE bs n) (ctB bs n) (ctL bs lasts n) room left)):=by
 have mixed:Tryz.prog.follows Departure.mixedOrders=true:=by kernel_rfl
 have HK:=iC.mk h
 obtain ⟨ao,cap,lr,hD,hR⟩:=h
 have hlen:=fun n=>pG (w.drewN n) (show Dc (w.drewN n) b ao bs.length cap lr lasts room left from hD) (by omega)
 clear hD hR
 by_cases hn:n<0
 ·have hE:ctE bs n=1:=if_pos (.inl hn)
  have hB:ctB bs n=bs:=if_pos (.inl hn)
  have hL:ctL bs lasts n=lasts:=if_pos (.inl hn)
  rw [hE,hB,hL]
  clear hE hB hL
  go_enter Tryz.func51,Tryz.ntmps51
  go_wp2
  go_quiet (fail)
  go_wp2
  go_ret
  exact ⟨1,rfl,rfl,row,pX HK.out _,fun k e=>.inl e,Kb.of_below (iF (Below.refl _ _) _)⟩
 ·obtain ⟨m,rfl⟩:∃ m:Nat,n=m:=⟨n.toNat,by omega⟩
  by_cases hm:(bs.length:Int)<m
  ·have hE:ctE bs m=1:=if_pos (.inr hm)
   have hB:ctB bs m=bs:=if_pos (.inr hm)
   have hL:ctL bs lasts m=lasts:=if_pos (.inr hm)
   rw [hE,hB,hL]
   clear hE hB hL
   have hd:decide ((m:Int)<0)=false:=by simp
   go_enter Tryz.func51,Tryz.ntmps51
   go_wp2
   go_quiet ((go_at_call 26;exact Calls.quiet_of (hlen _)))
   go_wp2
   go_ret
   exact ⟨1,rfl,rfl,row,pX HK.out _,fun k e=>.inl e,Kb.of_below (iF (Below.refl _ _) _)⟩
  ·have hor:¬ ((m:Int)<0∨(bs.length:Int)<m):=by omega
   have hE:ctE bs m=0:=if_neg hor
   have hB:ctB bs m=bs.take m:=(if_neg hor).trans (by rw [Int.toNat_natCast])
   have hL:ctL bs lasts m=mn lasts m:=if_neg hor
   rw [hE,hB,hL]
   clear hE hB hL hor
   have hd:decide ((m:Int)<0)=false:=by simp
   have hlv:=fun k=>LJ (w:=w.drewN k) (n:=m) (pX HK.out k) (by omega) (by omega)
   go_enter Tryz.func51,Tryz.ntmps51
   go_wp2
   go_quiet ((go_at_call 26;exact Calls.quiet_of (hlen _)))
   go_wp2_with (go_at_call 46;refine (hlv _).mono ?_)
   rintro e w1 ⟨rfl,h1,h2⟩
   have H1:=iC.mk h1
   have H2:=iC.mk h2
   clear h1 h2 hlv hlen
   go_wp2
   go_ret
   exact ⟨0,rfl,rfl,row,H1.out,fun k e=>.inl e,(Kb.of_below (iF (Below.refl _ _) _)).trans (fun k e=>.inl e) (Kb.of_grown H2.out)⟩
set_option maxHeartbeats 3200000 in
theorem ZW {w:World} {b:Nat} {row:Option Nat} {bs:List UInt8} {lasts room left:Int} (n:Int) (h:Dk w b row bs lasts room left) (hbs:bs.length≤1048576) (hlf:left≤9223372036854775807) :
  Calls Tryz.prog 30 #[.pointer (some ⟨b,0,none⟩),.int .i64 n] w (EQ (DQ w b row (if left=0 then 100 else ctE bs n) (if left=0 then bs else ctB bs n) (if left=0 then lasts else ctL bs lasts n) room (dec left))):=by
 generalize hE:(if left=0 then 100 else ctE bs n)=E
 generalize hB:(if left=0 then bs else ctB bs n)=B
 generalize hL:(if left=0 then lasts else ctL bs lasts n)=L
 have hbel:Below w.heap.size w ((w.alloc (.cells #[.pointer (some ⟨b,0,none⟩)] 24)).alloc (.cells #[.int .i64 n] 3)):=((Below.refl _ _).alloc (Nat.le_refl _) _).alloc (by simp) _
 have hK:=h.below hbel
 have hy:((w.alloc (.cells #[.pointer (some ⟨b,0,none⟩)] 24)).alloc (.cells #[.int .i64 n] 3)).cell? ⟨w.heap.size,0,none⟩=some (.pointer (some ⟨b,0,none⟩)):=by go_simp
 have hx:((w.alloc (.cells #[.pointer (some ⟨b,0,none⟩)] 24)).alloc (.cells #[.int .i64 n] 3)).cell? ⟨w.heap.size+1,0,none⟩=some (.int .i64 n):=by go_simp
 have hlt:=h.lt
 have HB:=iC.mk hbel
 obtain ⟨W,hW⟩:∃ W,W=(w.alloc (.cells #[.pointer (some ⟨b,0,none⟩)] 24)).alloc (.cells #[.int .i64 n] 3):=⟨_,rfl⟩
 have key:Calls Tryz.prog 24 #[.pointer (some ⟨b,0,none⟩),.func (.func 51) #[] #[.pointer (some ⟨w.heap.size+1,0,none⟩),.pointer (some ⟨w.heap.size,0,none⟩)]] W (EQ (DQ w b row E B L room (dec left))):=by
  rw [← hE,← hB,← hL]
  rw [← hW] at hK hx hy hbel
  by_cases h0:left=0
  ·refine (Z5 _ hK h0).mono ?_
   rintro e w' ⟨rfl,rfl⟩
   exact ⟨100,rfl,by rw [if_pos h0],row,by rw [if_pos h0,if_pos h0,h0,show dec 0=0 from rfl];rwa [h0] at hK,fun k e=>.inl e,Kb.of_below hbel⟩
  ·refine ja1 _ _ hK h0 hlf (fun w1 hk1 hg1=>?_)
   have h1:=ja2 (x:=w.heap.size+1) (y:=w.heap.size) n hk1 (cell_grown hx hg1 (by omega)) (cell_grown hy hg1 (by omega)) hbs
   refine h1.mono ?_
   rintro e w' ⟨n,rfl,hq⟩
   refine ⟨n,rfl,?_⟩
   rw [if_neg h0,if_neg h0,if_neg h0]
   exact hq.old ((Kb.of_below hbel).trans (fun k e=>.inl e) (Kb.of_grown hg1))
 rw [hW] at key
 clear hK hbel h hW hx hy hE hB hL hlf hbs hlt
 go_enter Tryz.func30,Tryz.ntmps30
 go_wp2_with (go_at_call 24;refine key.mono ?_)
 rintro e w2 ⟨n,rfl,hq⟩
 have HQ:=iC.mk hq
 clear hq key
 go_wp2
 go_ret
 exact ⟨n,rfl,HQ.out⟩
set_option maxHeartbeats 1600000 in
theorem WO (room:Int) (w:World) (h0:0≤room) (h1:room≤1048576):Calls Tryz.prog 6 #[.int .i64 room] w fun e w'=>e=.returned (.pointer (some ⟨w.heap.size,0,none⟩))∧Dk w' w.heap.size none [] 0 room (-1)∧Below w.heap.size w w':=by
 go_enter Tryz.func6,Tryz.ntmps6
 go_wp2
 go_ret
 exact ⟨rfl,⟨none,0,0,iP rfl,.inl ⟨rfl,rfl,rfl,rfl⟩⟩,(Below.refl _ _).alloc (Nat.le_refl _) _⟩
end
end Go.Proofs.YtgfkgppomaapiaaGreatDoor.K
section
namespace Go.Proofs.YtgfkgppomaapiaaGreatDoor.K
open RowKit YtgfkgppomaapiaaGreatDoorW.PrintWords YtgfkgppomaapiaaGreatDoorW.PrintLast YtgfkgppomaapiaaGreatDoorW.PrintMore My
def Rc (w:World) (b:Nat) (ao:Option Addr) (l cap:Nat) (lasts room left:Int):Prop :=
 w.heap[b]? = some (.cells #[.slice ao l cap,.int .i64 lasts,.int .i64 room,.int .i64 left] 42 (0,0))
section
variable {w:World} {b:Nat} {ao:Option Addr} {l cap:Nat} {lasts room left:Int}
theorem Rc.c0 (h:Rc w b ao l cap lasts room left):w.cell? ⟨b,0,none⟩=some (.slice ao l cap):=(iG h 0).trans rfl
theorem Rc.c1 (h:Rc w b ao l cap lasts room left):w.cell? ⟨b,1,none⟩=some (.int .i64 lasts):=(iG h 1).trans rfl
theorem Rc.c2 (h:Rc w b ao l cap lasts room left):w.cell? ⟨b,2,none⟩=some (.int .i64 room):=(iG h 2).trans rfl
theorem Rc.c3 (h:Rc w b ao l cap lasts room left):w.cell? ⟨b,3,none⟩=some (.int .i64 left):=(iG h 3).trans rfl
theorem Rc.f (h:Rc w b ao l cap lasts room left) (i:Nat):w.frozen? ⟨b,i,none⟩=false:=iE h i
theorem Rc.lt (h:Rc w b ao l cap lasts room left):b<w.heap.size:=jH h
theorem Rc.below {w':World} (h:Rc w b ao l cap lasts room left) (hb:Below w.heap.size w w'):Rc w' b ao l cap lasts room left:=iI hb h
theorem Rc.s0 (h:Rc w b ao l cap lasts room left) (ao':Option Addr) (l' cap':Nat):Rc (w.setCell ⟨b,0,none⟩ (.slice ao' l' cap')) b ao' l' cap' lasts room left:=jU h 0 _ rfl
theorem Rc.s1 (h:Rc w b ao l cap lasts room left) (x:Int):Rc (w.setCell ⟨b,1,none⟩ (.int .i64 x)) b ao l cap x room left:=jU h 1 _ rfl
theorem Rc.s3 (h:Rc w b ao l cap lasts room left) (x:Int):Rc (w.setCell ⟨b,3,none⟩ (.int .i64 x)) b ao l cap lasts room x:=jU h 3 _ rfl
end
def Rk (w:World) (b:Nat) (row:Option Nat) (bs:List UInt8) (lasts room left:Int):Prop :=
 ∃ ao cap,Rc w b ao bs.length cap lasts room left∧Rw w b ao row cap bs
theorem Rw.own {w:World} {b:Nat} {ao:Option Addr} {row:Option Nat} {cap:Nat} {bs:List UInt8} (h:Rw w b ao row cap bs):kb.R 5 w 0 (fun _=>True) (.slice ao bs.length cap) bs∧(Value.slice ao bs.length cap).ownBlock=row:=by
 rcases h with ⟨rfl,rfl,rfl,rfl⟩ | ⟨g,cur,rfl,rfl,h3,h4,h5,h6,h7,h8⟩
 ·exact ⟨Kd.R_nil _ _ _ _ _,rfl⟩
 ·refine ⟨Kd.R_of_own ?_ (fun _ _=>trivial),rfl⟩
  refine ⟨by simp [encs,Lib.byteCells],.inr ⟨g,cap,cur,rfl,Nat.zero_le _,h4,h5,h6,by rw [h7];show cap=cap * 1;omega,?_⟩⟩
  show cur.toList.take (bs.length * 1)=_
  rw [Nat.mul_one,h8]
  simp [encs,Lib.byteCells]
theorem Rw.of_own {w:World} {b:Nat} {v:Value} {bs:List UInt8} (h:kb.R 5 w 0 (fun _=>True) v bs) (hb:v.ownBlock≠some b):∃ ao cap,v=.slice ao bs.length cap∧Rw w b ao v.ownBlock cap bs:=by
 have ho:=Kd.own_of_R (enc:=fun b:UInt8=>Value.int .u8 (b.toNat:Int)) (h1:=fun _=>rfl) h
 obtain ⟨h1,⟨rfl,h2⟩ | ⟨g,cap,cur,rfl,_,h4,h5,h6,h7,h8⟩⟩:=ho
 ·obtain rfl:=List.eq_nil_of_length_eq_zero h2
  exact ⟨none,0,rfl,.inl ⟨rfl,rfl,rfl,rfl⟩⟩
 ·refine ⟨some ⟨g,0,none⟩,cap,rfl,.inr ⟨g,cur,rfl,rfl,fun e=>hb (by rw [← e];rfl),h4,h5,h6,by omega,?_⟩⟩
  rw [Nat.mul_one] at h8
  rw [h8]
  simp [encs,Lib.byteCells]
theorem Rk.below {w w':World} {b:Nat} {row:Option Nat} {bs:List UInt8} {lasts room left:Int} (h:Rk w b row bs lasts room left) (hb:Below w.heap.size w w'):Rk w' b row bs lasts room left:=by
 obtain ⟨ao,cap,hD,hR⟩:=h
 exact ⟨ao,cap,hD.below hb,hR.below hb⟩
theorem Rk.lt {w:World} {b:Nat} {row:Option Nat} {bs:List UInt8} {lasts room left:Int} (h:Rk w b row bs lasts room left):b<w.heap.size:=by
 obtain ⟨ao,cap,hD,hR⟩:=h
 exact hD.lt
theorem Rk.set_left {w:World} {b:Nat} {row:Option Nat} {bs:List UInt8} {lasts room left:Int} (h:Rk w b row bs lasts room left) (x:Int):Rk (w.setCell ⟨b,3,none⟩ (.int .i64 x)) b row bs lasts room x:=by
 obtain ⟨ao,cap,hD,hR⟩:=h
 exact ⟨ao,cap,hD.s3 x,hR.kept (jE (b:=b) (Kb.grown0 w) 3 _)⟩
theorem Rk.left_eq {w:World} {b:Nat} {row:Option Nat} {bs:List UInt8} {lasts room left left':Int} (h:Rk w b row bs lasts room left) (e:left=left'):Rk w b row bs lasts room left':=e▸h
theorem Rk.drewN {b:Nat} {row:Option Nat} {w:World} {bs:List UInt8} {lasts room left:Int} (h:Rk w b row bs lasts room left) (n:Nat):Rk (w.drewN n) b row bs lasts room left:=h
attribute [local go_sem] MP QD kZ lC
set_option maxHeartbeats 1600000 in
theorem Y6 {w:World} {b:Nat} {row:Option Nat} {bs:List UInt8} {lasts room left:Int} (h:Rk w b row bs lasts room left) (h0:left=0) :
  Calls Tryz.prog 28 #[.pointer (some ⟨b,0,none⟩)] w fun e w'=>e=.returned (.bool false)∧w'=w:=by
 subst h0
 obtain ⟨ao,cap,hD,_⟩:=h
 have c3:=hD.c3
 clear hD
 go_enter Tryz.func28,Tryz.ntmps28
 go_wp2
 go_ret
 exact ⟨rfl,rfl⟩
set_option maxHeartbeats 1600000 in
theorem ZB {w:World} {b:Nat} {row:Option Nat} {bs:List UInt8} {lasts room left:Int} (h:Rk w b row bs lasts room left) (h0:left≠0) (hr:left≤9223372036854775807) :
  Calls Tryz.prog 28 #[.pointer (some ⟨b,0,none⟩)] w fun e w'=>e=.returned (.bool true)∧Rk w' b row bs lasts room (dec left)∧w.grownBy w' (some b):=by
 have HK:=iC.mk h
 obtain ⟨ao,cap,hD,_⟩:=h
 have c3:=hD.c3
 have f3:=hD.f 3
 clear hD
 have hne:(left == 0)=false:=by simpa using h0
 clear h0
 by_cases hp:0<left
 ·go_enter Tryz.func28,Tryz.ntmps28
  go_wp2
  go_ret
  exact ⟨rfl,(HK.out.set_left (left - 1)).left_eq (MS hp).symm,jE (b:=b) (Kb.grown0 w) 3 (.int .i64 (left - 1))⟩
 ·go_enter Tryz.func28,Tryz.ntmps28
  go_wp2
  go_ret
  exact ⟨rfl,HK.out.left_eq (LP (by omega)).symm,Kb.grown0 w⟩
def RQ (w:World) (b:Nat) (row:Option Nat) (n:Int) (bs:List UInt8) (lasts room left:Int) (e:Ending) (w':World):Prop :=
 e=.returned (.int .i64 n)∧∃ row',Rk w' b row' bs lasts room left∧Nw w row row'∧Kb b row w w'
set_option maxHeartbeats 3200000 in
theorem XH {w:World} {b:Nat} {row:Option Nat} {bs:List UInt8} {lasts room left:Int} (h:Rk w b row bs lasts room left) (hr:left≤9223372036854775807) :
  Calls Tryz.prog 36 #[.pointer (some ⟨b,0,none⟩)] w (RQ w b row (if left=0 then 100 else 0) bs (if left=0 then lasts else bs.length) room (dec left)):=by
 generalize hE:(if left=0 then 100 else 0:Int)=E
 generalize hB:(if left=0 then lasts else (bs.length:Int))=B
 by_cases h0:left=0
 ·have hc:=Y6 h h0
  have HF:=iC.mk (show RQ w b row E bs B room (dec left) (.returned (.int .i64 100)) w from ⟨by rw [← hE,if_pos h0],row,by rw [← hB,if_pos h0,h0,show dec 0=0 from rfl];rwa [h0] at h,fun k e=>.inl e,Kb.refl _ _ _⟩)
  clear h h0 hE hB
  go_enter Tryz.func36,Tryz.ntmps36
  go_wp2_with (go_at_call 28;refine hc.mono ?_;rintro e w' ⟨rfl,rfl⟩)
  go_ret
  exact HF.out
 ·have hc:=ZB h h0 hr
  obtain rfl:E=0:=by rw [← hE,if_neg h0]
  obtain rfl:B=bs.length:=by rw [← hB,if_neg h0]
  clear h h0 hE hB
  go_enter Tryz.func36,Tryz.ntmps36
  go_wp2_with (go_at_call 28;refine hc.mono ?_)
  rintro e w1 ⟨rfl,hK,hg⟩
  obtain ⟨ao,cap,hD,hR⟩:=hK
  have c0:=hD.c0
  have c1:=hD.c1
  have f1:=hD.f 1
  have HD:=iC.mk hD
  have HR:=iC.mk hR
  have HG:=iC.mk hg
  clear hD hR hg hc
  go_wp2
  go_ret
  exact ⟨rfl,row,⟨ao,cap,HD.out.s1 _,HR.out.kept (jE (b:=b) (Kb.grown0 w1) 1 _)⟩,fun k e=>.inl e,Kb.of_grown (jE HG.out 1 _)⟩
set_option maxHeartbeats 1600000 in
theorem WU {w:World} {b:Nat} {row:Option Nat} {bs:List UInt8} {lasts room left:Int} (n:Int) (h:Rk w b row bs lasts room left) :
  Calls Tryz.prog 21 #[.pointer (some ⟨b,0,none⟩),.int .i64 n] w fun e w'=>e=.returned (.tuple #[])∧Rk w' b row bs lasts room (mx n (-1))∧w.grownBy w' (some b):=by
 have HK:=iC.mk h
 obtain ⟨ao,cap,hD,hR⟩:=h
 have c3:=hD.c3
 have f3:=hD.f 3
 clear hD hR
 go_enter Tryz.func21,Tryz.ntmps21
 go_wp2
 go_end0
 exact ⟨rfl,HK.out.set_left _,jE (b:=b) (Kb.grown0 w) 3 _⟩
end Go.Proofs.YtgfkgppomaapiaaGreatDoor.K
end
section
namespace Go.Proofs.YtgfkgppomaapiaaGreatDoor.My
open Go Go.RowKit Go.Proofs.YtgfkgppomaapiaaGreatDoorW.PrintWords
section
variable {P:Program} {ops:Array Oper} {Q:Exit→Act→World→Prop} {md:Region.Mode}
def zO (md:Region.Mode) (ops:Array Oper):Nat→Nat→Array Bool→Bool
 | 0,_,_=>true
 | m+1,k,listed=>(Region.ready md ops listed == [k]) && zO md ops m (k+1) (listed.setIfInBounds k true)
def IE:Nat→Nat→Array Bool→Array Bool
 | 0,_,listed=>listed
 | m+1,k,listed=>IE m (k+1) (listed.setIfInBounds k true)
theorem Y1 {N:Act→World→Prop} {o:Oper} {a:Act} {K:Act→World→Prop} (r:Result Next) (h:o.upon P a K (Exit.then N Q) r):o.upon P a K Q r:=by
 cases r with
 | ok n w'=>cases n <;> exact h
 | halt x w'=>cases x <;> exact h
theorem JK {N:Act→World→Prop} (fuel:Nat):∀ (pre:List Oper) (k:Nat) (listed:Array Bool) (a:Act) (w:World),(∀ j,j<pre.length→pre[j]? = ops[k+j]?)→zO md ops pre.length k listed=true →
  wpList P ops (Exit.then N Q) pre a w→(∀ a w,N a w→wpAny P md ops Q fuel (IE pre.length k listed) a w)→wpAny P md ops Q (pre.length+fuel) listed a w
 | [],k,listed,a,w,_,_,h,hN=>by
  rw [List.length_nil,Nat.zero_add]
  exact hN a w h
 | o :: pre,k,listed,a,w,hl,hf,h,hN=>by
  rw [List.length_cons,zO,Bool.and_eq_true,beq_iff_eq] at hf
  obtain ⟨hr,hf⟩:=hf
  rw [List.length_cons,show pre.length+1+fuel=(pre.length+fuel)+1 from by omega]
  refine ⟨fun h0=>by rw [hr] at h0;(cases h0),fun i hi=>?_⟩
  rw [hr] at hi
  obtain rfl:i=k:=by simpa using hi
  have h0:ops[i]? = some o:=by simpa using (hl 0 (by simp)).symm
  have ih:=fun a w hh=>JK fuel pre (i+1) (listed.setIfInBounds i true) a w (fun j hj=>by have:=hl (j+1) (by simpa using hj);simpa [Nat.add_assoc,Nat.add_comm 1 j] using this) hf hh hN
  unfold wpOp
  simp only [h0]
  unfold wpList at h
  split
  ·rename_i hw
   simp only [hw,if_true] at h
   rcases h with h | ⟨h1,h2⟩
   ·exact .inl (Y1 _ (Oper.wp_mono ih h))
   ·exact .inr ⟨h1,h2⟩
  ·rename_i hw
   simp only [hw] at h
   exact ih _ _ h
def xN (P:Program) (ops:Array Oper) (Q:Exit→Act→World→Prop) (rest:List Oper) (a1:Act) (w1:World):Prop :=
 wpQuiet P ops (fun w'=>∃ m,w'=w1.drewN m) (fun a'=>∀ w',(∃ m,w'=w1.drewN m)→Q .normal a' w') rest a1
theorem vU {id:Nat} {a:Act} {w:World} {l:List Oper} (n:Nat) (hm:P.follows .mixedOrders=true) (hn:(l.take n).length=n) (hf:zO .any l.toArray n 0 (Array.replicate l.length false)=true) (hs:Region.noSelect l.toArray=true)
  (hB:Region.lexFrom .any l.toArray (l.drop n).length n (IE n 0 (Array.replicate l.length false))=true)
  (h:∀ K:Act→World→Prop,iC (∀ a1 w1,xN P l.toArray Q (l.drop n) a1 w1→K a1 w1)→wpList P l.toArray (Exit.then K Q) (l.take n) a w.drew):(Code.region id l.toArray true).wp P Q a w:=by
 have h:=h _ ⟨fun _ _ h=>h⟩
 refine wp_region_any hm ?_
 have e:l.toArray.size=(l.take n).length+(l.drop n).length:=by
  rw [List.size_toArray,← List.length_append,List.take_append_drop]
 rw [e]
 have e2:l.length=l.toArray.size:=by simp
 refine JK (l.drop n).length (l.take n) 0 _ a _ (fun j hj=>?_) (by rw [← e,hn,← e2];exact hf) h (fun a1 w1 hq=>?_)
 ·rw [hn] at hj
  rw [List.getElem?_take_of_lt hj]
  simp
 ·refine wpAny_of_quiet (C:=fun w'=>∃ m,w'=w1.drewN m) (Q:=fun a'=>∀ w',(∃ m,w'=w1.drewN m)→Q .normal a' w') (fun _ w' hw' h=>h w' hw') _ _ _ _ ⟨0,rfl⟩ ?_
  rw [← e,hn,← e2]
  refine wpAnyQ_lex hs (l.drop n) n _ a1 (fun j=>?_) hB hq
  rw [List.getElem?_drop]
  simp
end
end Go.Proofs.YtgfkgppomaapiaaGreatDoor.My
end
namespace Go.Proofs.YtgfkgppomaapiaaGreatDoor.K
open RowKit YtgfkgppomaapiaaGreatDoorW.PrintWords YtgfkgppomaapiaaGreatDoorW.PrintLast YtgfkgppomaapiaaGreatDoorW.PrintMore My
section
attribute [local go_sem] MP QD kZ lC
set_option maxHeartbeats 3200000 in
theorem jd5 {w:World} {b:Nat} {row:Option Nat} {bs:List UInt8} {lasts room left:Int} (n:Int) (h:Rk w b row bs lasts room left) (hr:left≤9223372036854775807) :
  Calls Tryz.prog 35 #[.pointer (some ⟨b,0,none⟩),.int .i64 n] w (RQ w b row (if left=0 then 100 else ctE bs n) (if left=0 then bs else ctB bs n) (if left=0 then lasts else ctL bs lasts n) room (dec left)):=by
 generalize hE:(if left=0 then 100 else ctE bs n)=E
 generalize hB:(if left=0 then bs else ctB bs n)=B
 generalize hL:(if left=0 then lasts else ctL bs lasts n)=L
 by_cases h0:left=0
 ·have hc:=Y6 h h0
  have HF:=iC.mk (show RQ w b row E B L room (dec left) (.returned (.int .i64 100)) w from ⟨by rw [← hE,if_pos h0],row,by rw [← hB,← hL,if_pos h0,if_pos h0,h0,show dec 0=0 from rfl];rwa [h0] at h,fun k e=>.inl e,Kb.refl _ _ _⟩)
  clear h h0 hE hB hL
  go_enter Tryz.func35,Tryz.ntmps35
  go_wp2_with (go_at_call 28;refine hc.mono ?_;rintro e w' ⟨rfl,rfl⟩)
  go_ret
  exact HF.out
 ·have hc:=ZB h h0 hr
  rw [if_neg h0] at hE hB hL
  clear h h0
  by_cases hn:n<0
  ·obtain rfl:E=1:=by rw [← hE];exact if_pos (.inl hn)
   obtain rfl:B=bs:=by rw [← hB];exact if_pos (.inl hn)
   obtain rfl:L=lasts:=by rw [← hL];exact if_pos (.inl hn)
   clear hE hB hL
   go_enter Tryz.func35,Tryz.ntmps35
   go_wp2_with (go_at_call 28;refine hc.mono ?_)
   rintro e w1 ⟨rfl,hK,hg⟩
   have HK:=iC.mk hK
   have HG:=iC.mk hg
   clear hK hg hc
   go_wp2
   go_ret
   exact ⟨rfl,row,HK.out,fun k e=>.inl e,Kb.of_grown HG.out⟩
  ·obtain ⟨m,rfl⟩:∃ m:Nat,n=m:=⟨n.toNat,by omega⟩
   by_cases hm:(bs.length:Int)<m
   ·obtain rfl:E=1:=by rw [← hE];exact if_pos (.inr hm)
    obtain rfl:B=bs:=by rw [← hB];exact if_pos (.inr hm)
    obtain rfl:L=lasts:=by rw [← hL];exact if_pos (.inr hm)
    clear hE hB hL
    have hd:decide ((m:Int)<0)=false:=by simp
    go_enter Tryz.func35,Tryz.ntmps35
    go_wp2_with (go_at_call 28;refine hc.mono ?_)
    (first | (rintro e w1 ⟨he,hK,hg⟩;subst he) | rintro e w1 rfl hK hg)
    have HK:=iC.mk hK
    have HG:=iC.mk hg
    obtain ⟨ao,cap,hD,hR⟩:=hK
    have c0:=hD.c0
    clear hD hR hg hc
    go_wp2
    go_ret
    exact ⟨rfl,row,HK.out,fun k e=>.inl e,Kb.of_grown HG.out⟩
   ·have hor:¬ ((m:Int)<0∨(bs.length:Int)<m):=by omega
    obtain rfl:E=0:=by rw [← hE];exact if_neg hor
    obtain rfl:B=bs.take m:=by rw [← hB];exact (if_neg hor).trans (by rw [Int.toNat_natCast])
    obtain rfl:L=mn lasts m:=by rw [← hL];exact if_neg hor
    clear hE hB hL hor
    have hd:decide ((m:Int)<0)=false:=by simp
    go_enter Tryz.func35,Tryz.ntmps35
    go_wp2_with (go_at_call 28;refine hc.mono ?_)
    (first | (rintro e w1 ⟨he,hK,hg⟩;subst he) | rintro e w1 rfl hK hg)
    have HG:=iC.mk hg
    obtain ⟨ao,cap,hD,hR⟩:=hK
    have c0:=hD.c0
    have c1:=hD.c1
    have f0:=hD.f 0
    have f1:=hD.f 1
    have hcap:=hR.reads.2.1
    have hcut:=jc9 ao bs.length cap m (m:Int) rfl (by omega) hcap
    have HD:=iC.mk hD
    have HR:=iC.mk hR
    clear hD hR hg hc hcap
    go_wp2
    go_ret
    have hg:=jE (jE (b:=b) (Kb.grown0 w1) 0 (.slice ao m cap)) 1 (.int .i64 (mn lasts m))
    have hl:(bs.take m).length=m:=by rw [List.length_take];omega
    refine ⟨rfl,row,⟨ao,cap,?_,(HR.out.take m).kept hg⟩,fun k e=>.inl e,Kb.of_grown (Lib.grownBy_trans HG.out hg)⟩
    rw [hl]
    exact (HD.out.s0 _ _ _).s1 _
set_option maxHeartbeats 3200000 in
theorem V5 {w:World} {b k:Nat} {row:Option Nat} {bs:List UInt8} {lasts room left:Int} (keep:Int) (h:Rk w b row bs lasts room left) (hbs:bs.length≤140737488355327) (hl0:0≤lasts) (hl1:lasts≤bs.length) (hk:(k:Int)=lasts+mn (mx keep 0) (bs.length - lasts)) :
  Calls Tryz.prog 23 #[.pointer (some ⟨b,0,none⟩),.int .i64 keep] w fun e w'=>e=.returned (.tuple #[])∧Rk w' b row (bs.take k) k room (-1)∧Kb b row w w':=by
 have mixed:Tryz.prog.follows Departure.mixedOrders=true:=by kernel_rfl
 obtain ⟨ao,cap,hD,hR⟩:=h
 have c0:=hD.c0
 have c1:=hD.c1
 have c3:=hD.c3
 have f0:=hD.f 0
 have f1:=hD.f 1
 have f3:=hD.f 3
 have hcap:=hR.reads.2.1
 have hkl:k≤bs.length:=by unfold mn mx at hk;split at hk <;> split at hk <;> omega
 have hcut:=jc9 ao bs.length cap k (k:Int) rfl hkl hcap
 have hw1:IntKind.i64.wrap ((bs.length:Int) - lasts)=bs.length - lasts:=by rw [IntKind.wrap_i64];omega
 have hw2:IntKind.i64.wrap (lasts+mn (mx keep 0) ((bs.length:Int) - lasts))=k:=by rw [← hk,IntKind.wrap_i64];omega
 have HD:=iC.mk hD
 have HR:=iC.mk hR
 have HKK:=iC.mk hk
 clear hD hR hk hcap
 go_enter Tryz.func23,Tryz.ntmps23
 go_wp2
 go_quiet (fail)
 go_wp2
 go_end0
 have hg:=jE (jE (jE (mD (Kb.grown0 (b:=b) w) (iF (Below.refl _ _) nq)) 0 (.slice ao k cap)) 1 (.int .i64 k)) 3 (.int .i64 (-1))
 have hl:(bs.take k).length=k:=by rw [List.length_take];omega
 refine ⟨rfl,⟨ao,cap,?_,(HR.out.take k).kept hg⟩,Kb.of_grown hg⟩
 rw [hl]
 exact ((Rc.s0 (w:=w.drewN nq) HD.out _ _ _).s1 _).s3 _
set_option maxHeartbeats 3200000 in
theorem QV {w:World} {b:Nat} {row:Option Nat} {bs l:List UInt8} {lasts room left:Int} {A:Option Addr} {c:Nat} (h:Rk w b row bs lasts room left) (hC:kb.C w A l.length l) (hab:∀ a,A=some a→0<l.length→a.block≠b) (hbs:(bs.length:Int)≤room) (hroom:room≤1048576) (hl:l.length≤140737480000000) (hr:left≤9223372036854775807) :
  Calls Tryz.prog 9 #[.pointer (some ⟨b,0,none⟩),.slice A l.length c] w (RQ w b row (if left=0 then 100 else apE bs l room) (if left=0 then bs else apB bs l room) lasts room (dec left)):=by
 have mixed:Tryz.prog.follows Departure.mixedOrders=true:=by kernel_rfl
 generalize hE:(if left=0 then 100 else apE bs l room)=E
 generalize hB:(if left=0 then bs else apB bs l room)=B
 by_cases h0:left=0
 ·have hc:=Y6 (w:=w.drew) (h.drewN 1) h0
  have HF:=iC.mk (show RQ w b row E B lasts room (dec left) (.returned (.int .i64 100)) w.drew from ⟨by rw [← hE,if_pos h0],row,by rw [← hB,if_pos h0,h0,show dec 0=0 from rfl];rw [h0] at h;exact h.drewN 1,fun k e=>.inl e,Kb.of_below (iW (Below.refl _ _))⟩)
  clear h h0 hE hB
  go_enter Tryz.func9,Tryz.ntmps9
  go_wp2
  (refine vU 4 (by kernel_rfl) rfl (by kernel_rfl) (by kernel_rfl) (by kernel_rfl) ?_;intro KF HKF;simp only [List.take_succ_cons,List.take_zero,List.drop_succ_cons,List.drop_zero] at HKF ⊢)
  go_wp2_with (go_at_call 28;refine hc.mono ?_;rintro e w' ⟨rfl,rfl⟩)
  clear hc
  generalize w.drew=W at HF ⊢
  (refine HKF.out _ _ ?_;clear HKF;delta xN;(repeat (go_big_quiet_step (fail)));refine wpQuiet_nil ?_;intro _ hw';obtain ⟨nq,hw''⟩:=hw';subst hw'')
  go_wp2
  go_ret
  obtain ⟨h1,row',h2,h3,h4⟩:=HF.out
  exact ⟨h1,row',(show Rk _ _ _ _ _ _ _ from h2).below (by first | exact Below.refl _ _ | exact iF (Below.refl _ _) _),h3,h4.trans h3 (Kb.of_below (by first | exact Below.refl _ _ | exact iF (Below.refl _ _) _))⟩
 ·have hc:=ZB (w:=w.drew) (h.drewN 1) h0 hr
  rw [if_neg h0] at hE hB
  have hlt:=h.lt
  clear h h0
  have hws:IntKind.i64.wrap ((bs.length:Int)+l.length)=bs.length+l.length:=by rw [IntKind.wrap_i64];omega
  by_cases hp:room - (bs.length:Int)<l.length
  ·obtain rfl:E=100:=by rw [← hE];exact if_pos hp
   have hBB:B=bs:=by rw [← hB];exact if_pos hp
   subst hBB
   clear hE hB
   have hgt:room<(B.length:Int)+l.length:=by omega
   go_enter Tryz.func9,Tryz.ntmps9
   go_wp2
   (refine vU 4 (by kernel_rfl) rfl (by kernel_rfl) (by kernel_rfl) (by kernel_rfl) ?_;intro KF HKF;simp only [List.take_succ_cons,List.take_zero,List.drop_succ_cons,List.drop_zero] at HKF ⊢)
   go_wp2_with (go_at_call 28;refine hc.mono ?_)
   (first | (rintro e w1 ⟨he,hK,hg⟩;subst he) | rintro e w1 rfl hK hg)
   have HK:=iC.mk hK
   have HG:=iC.mk hg
   obtain ⟨ao,cap,hD,hR⟩:=hK
   have c0:=hD.c0
   have c2:=hD.c2
   clear hD hR hg hc
   go_wp2
   (refine HKF.out _ _ ?_;clear HKF;delta xN;(repeat (go_big_quiet_step (fail)));refine wpQuiet_nil ?_;intro _ hw';obtain ⟨nq,hw''⟩:=hw';subst hw'')
   go_wp2
   go_ret
   exact ⟨rfl,row,HK.out.below (iF (Below.refl _ _) _),fun k e=>.inl e,((Kb.of_below (iW (Below.refl _ _))).trans (fun k e=>.inl e) (Kb.of_grown HG.out)).trans (fun k e=>.inl e) (Kb.of_below (iF (Below.refl _ _) _))⟩
  ·obtain rfl:E=0:=by rw [← hE];exact if_neg hp
   have hBB:B=bs ++ l:=by rw [← hB];exact if_neg hp
   subst hBB
   clear hE hB
   have hgt:(bs.length:Int)+l.length≤room:=by omega
   go_enter Tryz.func9,Tryz.ntmps9
   go_wp2
   (refine vU 4 (by kernel_rfl) rfl (by kernel_rfl) (by kernel_rfl) (by kernel_rfl) ?_;intro KF HKF;simp only [List.take_succ_cons,List.take_zero,List.drop_succ_cons,List.drop_zero] at HKF ⊢)
   go_wp2_with (go_at_call 28;refine hc.mono ?_)
   (first | (rintro e w1 ⟨he,hK,hg⟩;subst he) | rintro e w1 rfl hK hg)
   have HG:=iC.mk hg
   obtain ⟨ao,cap,hD,hR⟩:=hK
   have c0:=hD.c0
   have c2:=hD.c2
   have f0:=hD.f 0
   obtain ⟨hO,hrow⟩:=hR.own
   have hrb:(Value.slice ao bs.length cap).ownBlock≠some b:=by
    rcases hR with ⟨rfl,_⟩ | ⟨g,cur,rfl,_,h3,_⟩
    ·simp [Value.ownBlock]
    ·exact fun e=>h3 (Option.some.inj e)
   rw [hrow] at hrb
   have HROW:=iC.mk hrow
   have HD:=iC.mk hD
   have HO:=iC.mk hO
   clear hD hR hg hc hO hrow
   have hC1:kb.C w1 A l.length l:=XT (Kd.C_below hC (iW (Below.refl _ _))) HG.out hab
   have HC1:=iC.mk hC1
   clear hC hC1
   go_wp2
   (refine HKF.out _ _ ?_;clear HKF;delta xN;(repeat (go_big_quiet_step (fail)));refine wpQuiet_nil ?_;intro _ hw';obtain ⟨nq,hw''⟩:=hw';subst hw'')
   have hel:Below w1.heap.size w1 (w1.drewN nq):=iF (Below.refl _ _) _
   have HEL:=iC.mk hel
   clear hel
   go_wp2_with (at_builtin;go_loud (refine Kd.R_append_rows kb (w0:=w1.drewN nq) 0 rfl (.tmp 27) (.tmp 28) 22 5 (.int .u8 0) 1 rfl Tryz.underlying22 nR rfl (by decide) (by omega) (.slice ao bs.length cap) bs l A l.length c (fun _=>True) (fun _=>False) rfl rfl ?aO ?aR (fun _ _ h=>h) (fun _ h=>h.elim) (fun _ _=>trivial) ?aB ?aS ?aL ?_))
   case aO=>exact Kd.R_below HO.out HEL.out
   case aR=>exact Kd.C_below HC1.out HEL.out
   case aB=>exact Below.refl _ _
   case aS=>exact Nat.zero_le _
   case aL=>omega
   intro v1 w2 hO1 _ hg1 hat
   have hlt1:b<w1.heap.size:=Nat.lt_of_lt_of_le hlt HG.out.size
   have hlt2:b<(w1.drewN nq).heap.size:=Nat.lt_of_lt_of_le hlt1 HEL.out.size
   have hD2:Rc w2 b ao bs.length cap lasts room (dec left):=(hg1.block b hlt2 (fun e=>hrb (by first | exact e.symm | exact HROW.out.symm.trans e.symm))).trans (HD.out.below HEL.out)
   rw [HROW.out] at hat hg1
   have hat':v1.ownBlock=row∨∃ k,v1.ownBlock=some k∧w1.heap.size≤k:=hat
   have hvb:v1.ownBlock≠some b:=by
    rcases hat' with h | ⟨k,h,hk⟩
    ·rw [h];exact hrb
    ·rw [h];exact fun e=>by injection e;omega
   have hkb:Kb b row w w2:=by
    have k1:Kb b row w (w1.drewN nq):=((Kb.of_below (iW (Below.refl w.heap.size w))).trans (fun k e=>.inl e) (Kb.of_grown HG.out)).trans (fun k e=>.inl e) (Kb.of_below HEL.out)
    exact k1.trans (fun k e=>.inl e) ⟨hg1.os,hg1.tape,hg1.output,hg1.size,fun k hk _ hr=>hg1.block k hk hr⟩
   have hnw:Nw w row v1.ownBlock:=by
    intro k e
    rcases hat' with h | ⟨k',h,hk⟩
    ·left;rw [← h];exact e
    ·right
     rw [h] at e
     injection e with e
     subst e
     exact Nat.le_trans HG.out.size hk
   obtain ⟨ao2,cap2,hv,hR2⟩:=Rw.of_own hO1 hvb
   obtain ⟨N,hN⟩:∃ N,N=(bs ++ l).length:=⟨_,rfl⟩
   rw [← hN] at hv
   have HN:=iC.mk hN
   obtain ⟨row2,hrow2⟩:∃ row2,row2=v1.ownBlock:=⟨_,rfl⟩
   rw [← hrow2] at hR2 hnw
   subst hv
   clear hrow2 hN hat hat'
   have d0:=hD2.c0
   have e0:=hD2.f 0
   have HD2:=iC.mk hD2
   have HR2:=iC.mk hR2
   have HKB:=iC.mk hkb
   have HNW:=iC.mk hnw
   clear hg1 hO1 hD2 hR2 hkb hnw hvb hrb hlt1 hlt2 c0 c2 f0 hgt hp hws
   go_wp2
   go_ret
   refine ⟨rfl,row2,⟨ao2,cap2,?_,HR2.out.kept (jE (b:=b) (Kb.grown0 w2) 0 _)⟩,HNW.out,HKB.out.trans HNW.out (Kb.of_grown (jE (Kb.grown0 w2) 0 _))⟩
   rw [← HN.out]
   exact HD2.out.s0 _ _ _
set_option maxHeartbeats 1600000 in
theorem XK (room:Int) (w:World) (h0:0≤room) (h1:room≤1048576):Calls Tryz.prog 7 #[.int .i64 room] w fun e w'=>e=.returned (.pointer (some ⟨w.heap.size,0,none⟩))∧Rk w' w.heap.size none [] 0 room (-1)∧Below w.heap.size w w':=by
 go_enter Tryz.func7,Tryz.ntmps7
 go_wp2
 go_ret
 exact ⟨rfl,⟨none,0,iP rfl,.inl ⟨rfl,rfl,rfl,rfl⟩⟩,(Below.refl _ _).alloc (Nat.le_refl _) _⟩
end
end Go.Proofs.YtgfkgppomaapiaaGreatDoor.K
namespace Go.Proofs.YtgfkgppomaapiaaGreatDoor.My
open Go Go.RowKit Go.Proofs.YtgfkgppomaapiaaGreatDoorW.PrintWords
section
theorem own:ownKnob Tryz.prog.godebug=none:=by kernel_rfl
theorem laidOut:laidOutB Tryz.prog=true:=by kernel_rfl
theorem wf_u8 {n:Int} (h:(Lit.int .u8 n).wf=true):0≤n∧n<256:=by
 have:=bounds_u8 h
 omega
theorem wf_i64 {n:Int} (h:(Lit.int .i64 n).wf=true):-9223372036854775808≤n∧n≤9223372036854775807:=by
 have:=bounds_i64 h
 omega
theorem wf_u32 {n:Int} (h:(Lit.int .u32 n).wf=true):0≤n∧n<4294967296:=by
 have:=bounds_u32 h
 omega
theorem wf_u16 {n:Int} (h:(Lit.int .u16 n).wf=true):0≤n∧n<65536:=by
 have:=bounds_u16 h
 omega
end
end Go.Proofs.YtgfkgppomaapiaaGreatDoor.My
namespace Go.Proofs.YtgfkgppomaapiaaGreatDoor.My
open Go Go.RowKit
section
theorem door_met (os:Os) (args:Array Value):laidMetH Tryz.prog [("bytes.ErrTooLarge",Rows.laid_bytes_ErrTooLarge)] ((World.doorLaid Tryz.prog 400 os).forCall (fun _ _=>0) ⟨#[],args,[]⟩).memory :=
 show laidMetH Tryz.prog [("bytes.ErrTooLarge",Rows.laid_bytes_ErrTooLarge)] _ from laidMetH_of_parts3 (fuel:=8) (laidMet_of_run' 8 (by kernel_rfl) (by kernel_rfl)) (by kernel_rfl) (by kernel_rfl)
theorem QE (os:Os) (args:Array Value):((World.doorLaid Tryz.prog 400 os).forCall (fun _ _=>0) ⟨#[],args,[]⟩).Shaped Tryz.prog:=World.shaped_of_RefB (by kernel_rfl) (by kernel_rfl)
theorem witness_door {H:Type} {enc:TypeId × Value→H} {os:Os} {f:FuncId} {fn:Func} {s:OpenSpec} (args:Array Value) {x:List (DataW H) × List (DataW H) × List MemPlace}
  (hok:Input.okWideB Tryz.prog ((World.doorLaid Tryz.prog 400 os).forCall (fun _ _=>0) ⟨#[],args,[]⟩) f ⟨#[],args,[]⟩=true)
  (hx:DataW.whole enc Tryz.prog ((World.doorLaid Tryz.prog 400 os).forCall (fun _ _=>0) ⟨#[],args,[]⟩).memory fn.params.toList s.vars false args.toList 8=some x)
  (hkk:∀ k,s.cond=some k→k H (x.1 ++ x.2.1)=true)
  (hsz:s.bare.sizedB enc Tryz.prog fn false ((World.doorLaid Tryz.prog 400 os).forCall (fun _ _=>0) ⟨#[],args,[]⟩).memory args 8=true) :
  ∃ (w:World) (tape:Tape) (i:Input),w.os=os∧(w.forCall tape i).Shaped Tryz.prog∧i.vars=[]∧Input.okWide Tryz.prog (w.forCall tape i) .any w.heap.size f i ∧
   s.preRow enc Tryz.prog fn [] false [("bytes.ErrTooLarge",Rows.laid_bytes_ErrTooLarge)] (w.forCall tape i).memory i.args∧({}:Assume).holds Tryz.prog (lone (Frame.enter Tryz.prog f i.args .normal) [] (w.forCall tape i)) :=
 ⟨World.doorLaid Tryz.prog 400 os,fun _ _=>0,⟨#[],args,[]⟩,rfl,QE os args,(Input.okWide_of_okWideB (base:=0) hok).1,(Input.okWide_of_okWideB hok).2,
  OpenSpec.preRow_of_cond 8 hx rfl hkk hsz (door_met os args),by
  simp only [Assume.holds]
  exact ⟨by simp,by simp,fun _=>Modest.zero,by simp,by simp⟩⟩
end
end Go.Proofs.YtgfkgppomaapiaaGreatDoor.My
namespace Go.Proofs.YtgfkgppomaapiaaGreatDoor.My
open Go
section
set_option maxRecDepth 100000
theorem UA (c:Char) (h:c≠Char.ofNat 32) {r w:List Char} {ws:List (List Char)} (hr:wordsSigns r=w :: ws):wordsSigns (c :: r)=(c :: w) :: ws:=by
 unfold wordsSigns
 split
 ·rename_i heq;cases heq
 ·rename_i heq;injection heq with h1 _;exact absurd h1 h
 ·rename_i heq;injection heq with h1 h2;subst h1;subst h2;rw [hr]
theorem xM:∀ (w:List Char),(w.all fun c=>decide (c≠Char.ofNat 32))=true→∀ r,wordsSigns (w ++ Char.ofNat 32 :: r)=w :: wordsSigns r
 | [],_,r=>rfl
 | c :: w,h,r=>by
  simp only [List.all_cons,Bool.and_eq_true,decide_eq_true_eq] at h
  exact UA c h.1 (xM w h.2 r)
def jn7:List Char:=[Char.ofNat 104,Char.ofNat 97,Char.ofNat 114,Char.ofNat 110,Char.ofNat 101,Char.ofNat 115,Char.ofNat 115]
def jj8:List Char:=[Char.ofNat 51,Char.ofNat 48,Char.ofNat 102,Char.ofNat 50,Char.ofNat 102,Char.ofNat 50,Char.ofNat 56,Char.ofNat 55,Char.ofNat 98,Char.ofNat 98,Char.ofNat 55,Char.ofNat 53,Char.ofNat 100,Char.ofNat 53,Char.ofNat 102,Char.ofNat 52,Char.ofNat 48,Char.ofNat 49,Char.ofNat 49,Char.ofNat 52,
  Char.ofNat 55,Char.ofNat 51,Char.ofNat 99,Char.ofNat 50,Char.ofNat 49,Char.ofNat 99,Char.ofNat 97,Char.ofNat 48,Char.ofNat 51,Char.ofNat 102,Char.ofNat 50,Char.ofNat 52,Char.ofNat 56,Char.ofNat 57,Char.ofNat 98,Char.ofNat 98,Char.ofNat 55,Char.ofNat 55,Char.ofNat 52,Char.ofNat 101,
  Char.ofNat 51,Char.ofNat 57,Char.ofNat 98,Char.ofNat 54,Char.ofNat 53,Char.ofNat 52,Char.ofNat 99,Char.ofNat 99,Char.ofNat 52,Char.ofNat 57,Char.ofNat 48,Char.ofNat 51,Char.ofNat 51,Char.ofNat 98,Char.ofNat 98,Char.ofNat 53,Char.ofNat 99,Char.ofNat 49,Char.ofNat 97,Char.ofNat 101,
  Char.ofNat 55,Char.ofNat 50,Char.ofNat 56,Char.ofNat 52]
def word2:List Char:=[Char.ofNat 99,Char.ofNat 117,Char.ofNat 116]
def behind:List Char:=[Char.ofNat 97,Char.ofNat 116,Char.ofNat 32,Char.ofNat 115,Char.ofNat 116,Char.ofNat 114,Char.ofNat 97,Char.ofNat 116,Char.ofNat 117,Char.ofNat 109,Char.ofNat 47,Char.ofNat 115,Char.ofNat 116,Char.ofNat 114,Char.ofNat 97,Char.ofNat 116,Char.ofNat 117,Char.ofNat 109,Char.ofNat 108,Char.ofNat 97,
  Char.ofNat 119,Char.ofNat 49,Char.ofNat 49,Char.ofNat 46,Char.ofNat 87,Char.ofNat 97,Char.ofNat 108,Char.ofNat 79,Char.ofNat 112,Char.ofNat 101,Char.ofNat 110,Char.ofNat 115,Char.ofNat 32,Char.ofNat 115,Char.ofNat 116,Char.ofNat 114,Char.ofNat 97,Char.ofNat 116,Char.ofNat 117,Char.ofNat 109,
  Char.ofNat 47,Char.ofNat 115,Char.ofNat 116,Char.ofNat 114,Char.ofNat 97,Char.ofNat 116,Char.ofNat 117,Char.ofNat 109,Char.ofNat 108,Char.ofNat 97,Char.ofNat 119,Char.ofNat 49,Char.ofNat 49,Char.ofNat 46,Char.ofNat 87,Char.ofNat 97,Char.ofNat 108,Char.ofNat 68,Char.ofNat 111,Char.ofNat 101,
  Char.ofNat 115]
theorem jd1:Tryz.prog.initOrder=String.ofList (jn7 ++ Char.ofNat 32 :: (jj8 ++ Char.ofNat 32 :: (word2 ++ Char.ofNat 32 :: behind))):=by kernel_rfl
theorem zX:wordsSigns Tryz.prog.initOrder.toList=jn7 :: jj8 :: word2 :: wordsSigns behind:=by
 rw [jd1,String.toList_ofList,xM _ (by kernel_rfl),xM _ (by kernel_rfl),xM _ (by kernel_rfl)]
theorem uF:behindMainWord (wordsSigns Tryz.prog.initOrder.toList)=word2 :: wordsSigns behind:=by rw [zX];kernel_rfl
theorem jh8 {P:Program} {h s:List Char} {r:List (List Char)} (e:wordsSigns P.initOrder.toList=h :: s :: r):P.mainIs=(if !isSumSigns s then none else if h == "harness".toList then some (true,s) else if h == "ownmain".toList then some (false,s) else none):=by unfold Program.mainIs;rw [e]
theorem jj7 {P:Program} {c:List Char} {r:List (List Char)} (e:behindMainWord (wordsSigns P.initOrder.toList)=c :: r) (h1:(c == "gc".toList || c == "spec".toList)=false) (h2:(c == "cut".toList)=true):P.make=some .cut:=by
 unfold Program.make;rw [e];simp only [h1,h2];rfl
theorem jo1 {P:Program} {c:List Char} {r:List (List Char)} (e:behindMainWord (wordsSigns P.initOrder.toList)=c :: r) (h:((stripLifts liftWords (c :: r)).2.head? == some "cut".toList && ((stripLifts liftWords (c :: r)).1.contains "finals" || !P.laysLater) && ((stripLifts liftWords (c :: r)).1.contains "reflectrows" || !P.bearsReflect) && ((stripLifts liftWords (c :: r)).1.contains "reflectrows" || !(stripLifts liftWords (c :: r)).1.contains "leanrows") && P.doorFits (stripLifts liftWords (c :: r)).1)=true):P.mayEnter=true:=by
 unfold Program.mayEnter;rw [e];simp only [h,Bool.or_true]
theorem jb7:stripLifts liftWords (word2 :: wordsSigns behind)=([],word2 :: wordsSigns behind):=by kernel_rfl
theorem ZK:Tryz.prog.mayEnter=true:=jo1 uF (by rw [jb7];kernel_rfl)
theorem QK:Tryz.prog.liftsFinal=false:=by unfold Program.liftsFinal Program.headLifts;rw [uF];kernel_rfl
theorem VF:Tryz.prog.make=some .cut:=jj7 uF (by kernel_rfl) (by kernel_rfl)
theorem sum_is:("30f2f287bb75d5f4011473c21ca03f2489bb774e39b654cc49033bb5c1ae7284":String)=String.ofList jj8:=by kernel_rfl
theorem VG:Tryz.prog.mainIs=some (true,("30f2f287bb75d5f4011473c21ca03f2489bb774e39b654cc49033bb5c1ae7284":String).toList):=by rw [sum_is,String.toList_ofList];exact (jh8 zX).trans (by kernel_rfl)
theorem pin_may:Tryz.pinned.checked.prog.mayEnter=true:=ZK
theorem pin_final:Tryz.pinned.checked.prog.liftsFinal=false:=QK
theorem pin_make:Tryz.pinned.checked.prog.make=some .cut:=VF
theorem pin_main:Tryz.pinned.checked.prog.mainIs=some (true,("30f2f287bb75d5f4011473c21ca03f2489bb774e39b654cc49033bb5c1ae7284":String).toList):=VG
theorem band {a b:Bool} (ha:a=true) (hb:b=true):(a && b)=true:=by rw [ha,hb];rfl
end
end Go.Proofs.YtgfkgppomaapiaaGreatDoor.My
namespace Go.Proofs.YtgfkgppomaapiaaGreatDoor.K
open Go.RowKit Go.Proofs.YtgfkgppomaapiaaGreatDoorW.PrintWords Go.Proofs.YtgfkgppomaapiaaGreatDoorW.PrintLast Go.Proofs.YtgfkgppomaapiaaGreatDoorW.PrintMore
section
attribute [local go_sem] kL kH kZ lC
def errW:Option Int→Value
 | none=>.nilIface
 | some c=>.iface 0 (.int .i64 c)
theorem jF:errW none=.nilIface:=rfl
theorem jG (c:Int):errW (some c)=.iface 0 (.int .i64 c):=rfl
theorem info3:(Tryz.prog.info? 3).map (fun i=>(i.zero,i.size,i.bytes))=some (some (.int .i64 0),1,8):=by kernel_rfl
theorem info5:(Tryz.prog.info? 5).map (fun i=>(i.zero,i.size,i.bytes))=some (some (.int .u8 0),1,1):=by kernel_rfl
theorem jg2:(Tryz.prog.info? 114).map (fun i=>(i.zero,i.size,i.bytes))=some (some (.agg #[(.int .u32 0),(.slice none 0 0)]),2,32):=by kernel_rfl
theorem jj3:(Tryz.prog.info? 122).map (fun i=>(i.zero,i.size,i.bytes))=some (some (.agg #[(.int .i64 0),(.int .i64 0)]),2,16):=by kernel_rfl
structure S149 where
 f0:(List Int)
 f1:Int
def z149:S149:=⟨([]:List Int),(0:Int)⟩
def k149:Kd S149:=Kd.iso (Kd.pair (Kd.slice 3 (Kd.int .i64)) (Kd.int .i64)) (fun x:S149=>(x.f0,x.f1))
theorem uJ:Kd.Heap k149:=Kd.heap_iso _ (Kd.heap_pair (Kd.heap_slice 3 (Kd.heap_int .i64)) (Kd.heap_int .i64))
theorem WQ {w:World} {x:S149} {cs:List Value} (h:k149.K w x cs):∃ A0 c0,cs=[.slice A0 x.f0.length c0,.int .i64 x.f1]∧x.f0.length≤c0∧(Kd.int .i64).C w A0 x.f0.length x.f0:=by
 obtain ⟨_,_,rfl,⟨A0,c0,rfl,l0,g0⟩,rfl⟩:=h
 exact ⟨A0,c0,rfl,l0,g0⟩
theorem zK (w:World) (base:Nat) (ok:Nat→Prop) (x:S149) {v0:Value} (g0:(Kd.int .i64).R 3 w base ok v0 x.f0):k149.M w base ok x [v0,.int .i64 x.f1]:=⟨[v0],[.int .i64 x.f1],rfl,⟨v0,rfl,g0⟩,rfl⟩
def iR (xs:List S149) (i:Int):S149:=xs.getD i.toNat z149
theorem kU {w:World} {A:Option Addr} {n:Nat} {xs:List S149} (h:Kd.C k149 w A n xs) (i:Int) (h0:0≤i) (h1:i<n):∃ ad A0 c0,A=some ad∧w.cell? (ad.add (i.toNat * 2))=some (.slice A0 (iR xs i).f0.length c0)∧w.cell? ⟨(ad.add (i.toNat * 2)).block,(ad.add (i.toNat * 2)).off+1,none⟩=some (.int .i64 (iR xs i).f1)∧(iR xs i).f0.length≤c0∧(Kd.int .i64).C w A0 (iR xs i).f0.length (iR xs i).f0:=by
 obtain ⟨ad,c,e,_,hK,hc0⟩:=Kd.C_get h z149 i h0 h1
 have hc:∀ j u,c[j]? = some u→w.cell? (ad.add (i.toNat * 2+j))=some u:=hc0
 obtain ⟨A0,c0,rfl,l0,g0⟩:=WQ hK
 exact ⟨ad,A0,c0,e,hc 0 _ rfl,by rw [← pK _ _ 1 (by omega)];exact hc 1 _ rfl,l0,g0⟩
structure S114 where
 f0:Int
 f1:(List S149)
def z114:S114:=⟨(0:Int),([]:List S149)⟩
def k114:Kd S114:=Kd.iso (Kd.pair (Kd.int .u32) (Kd.slice 149 k149)) (fun x:S114=>(x.f0,x.f1))
theorem YC {w:World} {x:S114} {cs:List Value} (h:k114.K w x cs):∃ A1 c1,cs=[.int .u32 x.f0,.slice A1 x.f1.length c1]∧x.f1.length≤c1∧k149.C w A1 x.f1.length x.f1:=by
 obtain ⟨_,_,rfl,rfl,⟨A1,c1,rfl,l1,g1⟩⟩:=h
 exact ⟨A1,c1,rfl,l1,g1⟩
theorem MB (w:World) (base:Nat) (ok:Nat→Prop) (x:S114) {v1:Value} (g1:k149.R 149 w base ok v1 x.f1):k114.M w base ok x [.int .u32 x.f0,v1]:=⟨[.int .u32 x.f0],[v1],rfl,rfl,⟨v1,rfl,g1⟩⟩
def iK (xs:List S114) (i:Int):S114:=xs.getD i.toNat z114
theorem kN {w:World} {A:Option Addr} {n:Nat} {xs:List S114} (h:Kd.C k114 w A n xs) (i:Int) (h0:0≤i) (h1:i<n):∃ ad A1 c1,A=some ad∧w.cell? (ad.add (i.toNat * 2))=some (.int .u32 (iK xs i).f0)∧w.cell? ⟨(ad.add (i.toNat * 2)).block,(ad.add (i.toNat * 2)).off+1,none⟩=some (.slice A1 (iK xs i).f1.length c1)∧(iK xs i).f1.length≤c1∧k149.C w A1 (iK xs i).f1.length (iK xs i).f1:=by
 obtain ⟨ad,c,e,_,hK,hc0⟩:=Kd.C_get h z114 i h0 h1
 have hc:∀ j u,c[j]? = some u→w.cell? (ad.add (i.toNat * 2+j))=some u:=hc0
 obtain ⟨A1,c1,rfl,l1,g1⟩:=YC hK
 exact ⟨ad,A1,c1,e,hc 0 _ rfl,by rw [← pK _ _ 1 (by omega)];exact hc 1 _ rfl,l1,g1⟩
structure S122 where
 f0:Int
 f1:Int
def z122:S122:=⟨(0:Int),(0:Int)⟩
def k122:Kd S122:=Kd.iso (Kd.pair (Kd.int .i64) (Kd.int .i64)) (fun x:S122=>(x.f0,x.f1))
theorem ZE {w:World} {x:S122} {cs:List Value} (h:k122.K w x cs):cs=[.int .i64 x.f0,.int .i64 x.f1]:=by
 obtain ⟨_,_,rfl,rfl,rfl⟩:=h
 exact rfl
theorem U1 (w:World) (base:Nat) (ok:Nat→Prop) (x:S122) :k122.M w base ok x [.int .i64 x.f0,.int .i64 x.f1]:=⟨[.int .i64 x.f0],[.int .i64 x.f1],rfl,rfl,rfl⟩
def jO (xs:List S122) (i:Int):S122:=xs.getD i.toNat z122
theorem lQ {w:World} {A:Option Addr} {n:Nat} {xs:List S122} (h:Kd.C k122 w A n xs) (i:Int) (h0:0≤i) (h1:i<n):∃ ad ,A=some ad∧w.cell? (ad.add (i.toNat * 2))=some (.int .i64 (jO xs i).f0)∧w.cell? ⟨(ad.add (i.toNat * 2)).block,(ad.add (i.toNat * 2)).off+1,none⟩=some (.int .i64 (jO xs i).f1):=by
 obtain ⟨ad,c,e,_,hK,hc0⟩:=Kd.C_get h z122 i h0 h1
 have hc:∀ j u,c[j]? = some u→w.cell? (ad.add (i.toNat * 2+j))=some u:=hc0
 obtain rfl:=ZE hK
 exact ⟨ad,e,hc 0 _ rfl,by rw [← pK _ _ 1 (by omega)];exact hc 1 _ rfl⟩
end
end Go.Proofs.YtgfkgppomaapiaaGreatDoor.K
namespace Go.Proofs.YtgfkgppomaapiaaGreatDoor.K
open Go.RowKit Go.Proofs.YtgfkgppomaapiaaGreatDoorW.PrintWords
section
abbrev jQ:=S149
abbrev jJ:=S114
abbrev kC:=S122
structure SMap where
 f0:Int
 f1:List kC
structure SRec where
 f0:Int
 f1:Int
 f2:Int
 f3:List Int
 f4:List jQ
 f5:SMap
 f6:Int
 f7:Int
 f8:List jJ
def layB (x:Int):Nat→List UInt8
 | 0=>[]
 | n+1=>UInt8.ofNat ((x / 256 ^ n) % 256).toNat :: layB x n
theorem iM (x:Int):∀ n,(layB x n).length=n
 | 0=>rfl
 | n+1=>by simp [layB,iM x n]
def numB (l:List UInt8):Nat:=l.foldl (fun n c=>n * 256+c.toNat) 0
theorem U4 (l:List UInt8):∀ k:Nat,l.foldl (fun n c=>n * 256+c.toNat) k=k * 256 ^ l.length+numB l:=by
 induction l with
 | nil=>intro k;simp [numB]
 | cons c l ih =>
  intro k
  unfold numB
  simp only [List.foldl_cons,List.length_cons,Nat.zero_mul,Nat.zero_add]
  rw [ih,ih c.toNat,Nat.pow_succ,Nat.add_mul,Nat.mul_assoc,Nat.mul_comm 256,Nat.add_assoc]
theorem O6 (c:UInt8) (l:List UInt8):numB (c :: l)=c.toNat * 256 ^ l.length+numB l:=by
 show List.foldl _ _ (c :: l)=_
 simp only [List.foldl_cons,Nat.zero_mul,Nat.zero_add]
 rw [U4]
theorem WB (l:List UInt8) (c:UInt8):numB (l ++ [c])=numB l * 256+c.toNat:=by
 unfold numB;rw [List.foldl_append];rfl
theorem yD (l:List UInt8):numB l<256 ^ l.length:=by
 induction l with
 | nil=>simp [numB]
 | cons c l ih =>
  rw [O6,List.length_cons,Nat.pow_succ]
  have:=c.toNat_lt
  have:(c.toNat+1) * 256 ^ l.length≤256 * 256 ^ l.length:=Nat.mul_le_mul_right _ (by omega)
  rw [Nat.add_mul] at this
  rw [Nat.mul_comm (256 ^ l.length)]
  omega
theorem YU (x:Int) (n:Nat):x % 256 ^ (n+1)=((x / 256 ^ n) % 256) * 256 ^ n+x % 256 ^ n:=by
 have hp:(0:Int)<256 ^ n:=Int.pow_pos (by decide)
 rw [Int.pow_succ]
 have h1:=Int.mul_ediv_add_emod x (256 ^ n)
 have h2:=Int.mul_ediv_add_emod (x / 256 ^ n) 256
 have h3:=Int.emod_nonneg (x / 256 ^ n) (by decide:(256:Int)≠0)
 have h4:=Int.emod_lt_of_pos (x / 256 ^ n) (by decide:(0:Int)<256)
 have h5:=Int.emod_nonneg x (Int.ne_of_gt hp)
 have h6:=Int.emod_lt_of_pos x hp
 have e:x=((x / 256 ^ n) % 256 * 256 ^ n+x % 256 ^ n)+(256 ^ n * 256) * (x / 256 ^ n / 256):=by
  conv=>lhs;rw [← h1,← h2]
  rw [Int.mul_add,Int.mul_assoc,Int.mul_comm (256 ^ n) ((x / 256 ^ n) % 256)]
  omega
 conv=>lhs;rw [e]
 rw [Int.add_mul_emod_self_left]
 have h7:(x / 256 ^ n) % 256 * 256 ^ n≤255 * 256 ^ n:=Int.mul_le_mul_of_nonneg_right (by omega) (Int.le_of_lt hp)
 have h8:0≤(x / 256 ^ n) % 256 * 256 ^ n:=Int.mul_nonneg h3 (Int.le_of_lt hp)
 exact Int.emod_eq_of_lt (by omega) (by omega)
theorem NW (x:Int):∀ n,(numB (layB x n):Int)=x % 256 ^ n
 | 0=>by rw [Int.pow_zero];show ((0:Nat):Int)=x % 1;omega
 | n+1=>by
  have h3:=Int.emod_nonneg (x / 256 ^ n) (by decide:(256:Int)≠0)
  have h4:=Int.emod_lt_of_pos (x / 256 ^ n) (by decide:(0:Int)<256)
  rw [layB,O6,iM,YU]
  simp only [Int.natCast_add,Int.natCast_mul,Int.natCast_pow]
  rw [NW x n]
  congr 1
  congr 1
  rw [UInt8.toNat_ofNat']
  have:((x / 256 ^ n) % 256).toNat % 2 ^ 8=((x / 256 ^ n) % 256).toNat:=Nat.mod_eq_of_lt (by omega)
  rw [this]
  omega
def number (size:Nat) (b:List UInt8):Option (Nat × List UInt8):=if b.length<size then none else some (numB (b.take size),b.drop size)
def many (size least:Nat) (b:List UInt8):Option (Nat × List UInt8):=(number size b).bind fun x=>if x.1 > x.2.length / least then none else some x
def repP {α:Type} (p:List UInt8→Option (α × List UInt8)):Nat→List UInt8→Option (List α × List UInt8)
 | 0,b=>some ([],b)
 | n+1,b=>(p b).bind fun x=>(repP p n x.2).bind fun y=>some (x.1 :: y.1,y.2)
def intP (size:Nat) (b:List UInt8):Option (Int × List UInt8):=(number size b).bind fun x=>some ((x.1:Int),x.2)
def s64 (n:Nat):Int:=if n<9223372036854775808 then (n:Int) else (n:Int) - 18446744073709551616
def nV (b:List UInt8):Option (List Int × List UInt8):=(many 1 1 b).bind fun x=>repP (intP 1) x.1 x.2
def qF (b:List UInt8):Option (jQ × List UInt8):=(many 1 4 b).bind fun x=>(repP (intP 4) x.1 x.2).bind fun y=>(number 8 y.2).bind fun z=>some (⟨y.1,s64 z.1⟩,z.2)
def nC (b:List UInt8):Option (List jQ × List UInt8):=(many 4 9 b).bind fun x=>repP qF x.1 x.2
def mY (b:List UInt8):Option (jJ × List UInt8):=(intP 4 b).bind fun x=>(nC x.2).bind fun y=>some (⟨x.1,y.1⟩,y.2)
def lI (b:List UInt8):Option (List jJ × List UInt8):=(many 4 8 b).bind fun x=>repP mY x.1 x.2
def uO (b:List UInt8):Option (kC × List UInt8):=(intP 4 b).bind fun x=>(intP 1 x.2).bind fun y=>some (⟨x.1,y.1⟩,y.2)
def qI (b:List UInt8):Option (List kC × List UInt8):=(many 1 5 b).bind fun x=>repP uO x.1 x.2
def pW (k id:Int) (b:List UInt8):Option (SRec × List UInt8) :=
 if k=1 then (nV b).bind fun x=>(nC x.2).bind fun y=>some (⟨k,id,0,x.1,y.1,⟨0,[]⟩,0,0,[]⟩,y.2)
 else if k=2 then (intP 4 b).bind fun x=>(nV x.2).bind fun y=>some (⟨k,id,x.1,y.1,[],⟨0,[]⟩,0,0,[]⟩,y.2)
 else if k=6 then (intP 4 b).bind fun x=>(qI x.2).bind fun y=>some (⟨k,id,0,[],[],⟨x.1,y.1⟩,0,0,[]⟩,y.2)
 else if k=7 then (intP 4 b).bind fun x=>(intP 4 x.2).bind fun y=>(lI y.2).bind fun z=>some (⟨k,id,0,[],[],⟨0,[]⟩,x.1,y.1,z.1⟩,z.2)
 else some (⟨k,id,0,[],[],⟨0,[]⟩,0,0,[]⟩,b)
def recP (b:List UInt8):Option (SRec × List UInt8):=(intP 1 b).bind fun x=>(intP 4 x.2).bind fun y=>pW x.1 y.1 y.2
def nJ (l:List Int):List UInt8:=layB l.length 1 ++ l.flatMap (layB · 1)
def oO (f:jQ):List UInt8:=layB f.f0.length 1 ++ f.f0.flatMap (layB · 4) ++ layB f.f1 8
def kP (l:List jQ):List UInt8:=layB l.length 4 ++ l.flatMap oO
def lV (e:jJ):List UInt8:=layB e.f0 4 ++ kP e.f1
def jZ (l:List jJ):List UInt8:=layB l.length 4 ++ l.flatMap lV
def oH (s:kC):List UInt8:=layB s.f0 4 ++ layB s.f1 1
def TQ (l:List kC):List UInt8:=layB l.length 1 ++ l.flatMap oH
def MI (r:SRec):List UInt8 :=
 if r.f0=1 then nJ r.f3 ++ kP r.f4
 else if r.f0=2 then layB r.f2 4 ++ nJ r.f3
 else if r.f0=6 then layB r.f5.f0 4 ++ TQ r.f5.f1
 else if r.f0=7 then layB r.f6 4 ++ (layB r.f7 4 ++ jZ r.f8)
 else []
def recE (r:SRec):List UInt8:=layB r.f0 1 ++ (layB r.f1 4 ++ MI r)
def nK (last:Int):List Int→Bool
 | []=>true
 | n :: l=>last<n && n<6 && nK n l
def pU (f:jQ):Bool:=f.f0.length≤4 && f.f0.all fun v=>0≤v && v≤9999
def mO (l:List jQ):Bool:=l.length≤200 && l.all pU
def pR (p:Option Int):List jJ→Bool
 | []=>true
 | e :: l=>mO e.f1 && (match p with | none=>true | some q=>decide (q<e.f0)) && pR (some e.f0) l
def oN (l:List jJ):Bool:=pR none l
def mZ (s:kC):Bool:=0≤s.f0 && s.f0≤9999 && 0≤s.f1 && s.f1<6
def jR (r:SRec):Bool :=
 if r.f0=1 then nK (-1) r.f3 && mO r.f4 && r.f2 == 0 && r.f5.f0 == 0 && r.f5.f1.isEmpty && r.f6 == 0 && r.f7 == 0 && r.f8.isEmpty
 else if r.f0=2 then nK (-1) r.f3 && r.f4.isEmpty && r.f5.f0 == 0 && r.f5.f1.isEmpty && r.f6 == 0 && r.f7 == 0 && r.f8.isEmpty
 else if r.f0=3 || r.f0=4 || r.f0=5 then r.f2 == 0 && r.f3.isEmpty && r.f4.isEmpty && r.f5.f0 == 0 && r.f5.f1.isEmpty && r.f6 == 0 && r.f7 == 0 && r.f8.isEmpty
 else if r.f0=6 then r.f1 == 0 && r.f5.f1.length≤40 && r.f5.f1.all mZ && r.f2 == 0 && r.f3.isEmpty && r.f4.isEmpty && r.f6 == 0 && r.f7 == 0 && r.f8.isEmpty
 else if r.f0=7 then oN r.f8 && r.f8.length≤5000 && 0≤r.f6 && r.f6≤10000 && 0≤r.f7 && r.f7≤10000 && r.f2 == 0 && r.f3.isEmpty && r.f4.isEmpty && r.f5.f0 == 0 && r.f5.f1.isEmpty
 else false
def LM (f:jQ):Prop:=-9223372036854775808≤f.f1∧f.f1<9223372036854775808
def I7 (e:jJ):Prop:=0≤e.f0∧e.f0<4294967296∧∀ f∈e.f1,LM f
structure LQ (r:SRec):Prop where
 kind:0≤r.f0∧r.f0<256
 id:0≤r.f1∧r.f1<4294967296
 at_:0≤r.f2∧r.f2<4294967296
 facts:∀ f∈r.f4,LM f
 epoch:0≤r.f5.f0∧r.f5.f0<4294967296
 entries:∀ e∈r.f8,I7 e
theorem JV (x:Int) (n:Nat) (t:List UInt8):number n (layB x n ++ t)=some ((x % 256 ^ n).toNat,t):=by
 unfold number
 rw [if_neg (by rw [List.length_append,iM];omega)]
 have h1:(layB x n ++ t).take n=layB x n:=by rw [List.take_append_of_le_length (by rw [iM];exact Nat.le_refl _),List.take_of_length_le (by rw [iM];exact Nat.le_refl _)]
 have h2:(layB x n ++ t).drop n=t:=by
  have:=@List.drop_left _ (layB x n) t
  rwa [iM] at this
 rw [h1,h2]
 have:=NW x n
 congr 2
 omega
theorem yS (x:Int) (n:Nat) (t:List UInt8) (h0:0≤x) (h1:x<256 ^ n):number n (layB x n ++ t)=some (x.toNat,t):=by
 rw [JV,Int.emod_eq_of_lt h0 h1]
theorem oG (x:Int) (n:Nat) (t:List UInt8) (h0:0≤x) (h1:x<256 ^ n):intP n (layB x n ++ t)=some (x,t):=by
 unfold intP
 rw [yS x n t h0 h1]
 simp only [Option.bind_some]
 rw [Int.toNat_of_nonneg h0]
theorem ji2 (v:Int) (h0:-9223372036854775808≤v) (h1:v<9223372036854775808):s64 (v % 256 ^ 8).toNat=v:=by
 unfold s64
 have e:(256:Int) ^ 8=18446744073709551616:=by decide
 rw [e]
 split <;> omega
theorem xW (x size least:Nat) (t:List UInt8) (h1:(x:Int)<256 ^ size) (h:x * least≤t.length) (hl:0<least):many size least (layB (x:Int) size ++ t)=some (x,t):=by
 unfold many
 rw [yS _ _ _ (by omega) h1]
 simp only [Option.bind_some,Int.toNat_natCast]
 rw [if_neg]
 have:x≤t.length / least:=(Nat.le_div_iff_mul_le hl).2 h
 omega
theorem vH {α:Type} (p:List UInt8→Option (α × List UInt8)) (enc:α→List UInt8):∀ (l:List α) (t:List UInt8),(∀ x∈l,∀ t,p (enc x ++ t)=some (x,t))→repP p l.length (l.flatMap enc ++ t)=some (l,t)
 | [],t,_=>by simp [repP]
 | x :: l,t,h=>by
  rw [List.flatMap_cons,List.append_assoc,List.length_cons,repP,h x List.mem_cons_self]
  simp only [Option.bind_some]
  rw [vH p enc l t (fun y hy=>h y (List.mem_cons_of_mem _ hy))]
  rfl
theorem uX {α:Type} (enc:α→List UInt8) (m:Nat):∀ l:List α,(∀ x∈l,m≤(enc x).length)→l.length * m≤(l.flatMap enc).length
 | [],_=>by simp
 | x :: l,h=>by
  rw [List.flatMap_cons,List.length_append,List.length_cons,Nat.add_mul]
  have h1:=h x List.mem_cons_self
  have h2:=uX enc m l (fun y hy=>h y (List.mem_cons_of_mem _ hy))
  omega
theorem vZ:∀ (l:List Int) (last:Int),nK last l=true→-1≤last→(∀ n∈l,last<n∧n<6)∧(l.length:Int)≤max 0 (5 - last)
 | [],last,_,_=>⟨(fun _ h=>by cases h),by simp;omega⟩
 | n :: l,last,h,h1=>by
  unfold nK at h
  simp only [Bool.and_eq_true,decide_eq_true_eq] at h
  obtain ⟨⟨ha,hb⟩,hc⟩:=h
  obtain ⟨i1,i2⟩:=vZ l n hc (by omega)
  refine ⟨fun m hm=>?_,by simp only [List.length_cons];omega⟩
  rcases List.mem_cons.1 hm with rfl | hm
  ·exact ⟨ha,hb⟩
  ·have:=i1 m hm;omega
theorem JO (l:List Int) (t:List UInt8) (h:nK (-1) l=true):nV (nJ l ++ t)=some (l,t):=by
 obtain ⟨h1,h2⟩:=vZ l (-1) h (by omega)
 unfold nV nJ
 rw [List.append_assoc,xW _ 1 1 _ (by simp;omega) (by rw [List.length_append];have:=uX (layB · 1) 1 l (fun x _=>by rw [iM];exact Nat.le_refl _);omega) (by omega)]
 simp only [Option.bind_some]
 exact vH _ _ l t (fun x hx t=>oG x 1 t (by have:=h1 x hx;omega) (by have:=h1 x hx;simp;omega))
theorem xC (f:jQ):(oO f).length=9+4 * f.f0.length:=by
 unfold oO
 simp only [List.length_append,iM]
 have:∀ l:List Int,(l.flatMap (layB · 4)).length=4 * l.length:=by
  intro l
  induction l with
  | nil=>rfl
  | cons x l ih=>rw [List.flatMap_cons,List.length_append,ih,iM,List.length_cons];omega
 rw [this]
 omega
theorem XB (f:jQ) (t:List UInt8) (h:pU f=true) (hk:LM f):qF (oO f ++ t)=some (f,t):=by
 unfold pU at h
 simp only [Bool.and_eq_true,decide_eq_true_eq,List.all_eq_true] at h
 obtain ⟨h1,h2⟩:=h
 unfold qF oO
 rw [List.append_assoc,List.append_assoc,xW _ 1 4 _ (by simp;omega) (by rw [List.length_append];have:=uX (layB · 4) 4 f.f0 (fun x _=>by rw [iM];exact Nat.le_refl _);omega) (by omega)]
 simp only [Option.bind_some]
 rw [vH _ _ f.f0 _ (fun x hx t=>oG x 4 t (h2 x hx).1 (by have:=(h2 x hx).2;simp;omega))]
 simp only [Option.bind_some]
 rw [JV]
 simp only [Option.bind_some]
 rw [ji2 _ hk.1 hk.2]
theorem JD (l:List jQ) (t:List UInt8) (h:mO l=true) (hk:∀ f∈l,LM f):nC (kP l ++ t)=some (l,t):=by
 unfold mO at h
 simp only [Bool.and_eq_true,decide_eq_true_eq,List.all_eq_true] at h
 obtain ⟨h1,h2⟩:=h
 unfold nC kP
 rw [List.append_assoc,xW _ 4 9 _ (by simp;omega) (by rw [List.length_append];have:=uX oO 9 l (fun x _=>by rw [xC];omega);omega) (by omega)]
 simp only [Option.bind_some]
 exact vH _ _ l t (fun x hx t=>XB x t (h2 x hx) (hk x hx))
theorem yX:∀ (l:List jJ) (p:Option Int),pR p l=true→∀ e∈l,mO e.f1=true
 | [],_,_,_,h=>by cases h
 | e :: l,p,h,x,hx=>by
  unfold pR at h
  simp only [Bool.and_eq_true] at h
  rcases List.mem_cons.1 hx with rfl | hx
  ·exact h.1.1
  ·exact yX l _ h.2 x hx
theorem IM (l:List jJ) (h:oN l=true):∀ e∈l,mO e.f1=true:=yX l none h
theorem VJ (e:jJ) (t:List UInt8) (h:mO e.f1=true) (hk:I7 e):mY (lV e ++ t)=some (e,t):=by
 unfold mY lV
 rw [List.append_assoc,oG _ 4 _ hk.1 (by have:=hk.2.1;simp;omega)]
 simp only [Option.bind_some]
 rw [JD _ _ h hk.2.2]
 rfl
theorem NM (l:List jJ) (t:List UInt8) (h:oN l=true) (h5:l.length≤5000) (hk:∀ e∈l,I7 e):lI (jZ l ++ t)=some (l,t):=by
 have h2:=IM l h
 unfold lI jZ
 rw [List.append_assoc,xW _ 4 8 _ (by simp;omega) (by rw [List.length_append];have:=uX lV 8 l (fun x _=>by unfold lV kP;simp only [List.length_append,iM];omega);omega) (by omega)]
 simp only [Option.bind_some]
 exact vH _ _ l t (fun x hx t=>VJ x t (h2 x hx) (hk x hx))
theorem YY (s:kC) (t:List UInt8) (h:mZ s=true):uO (oH s ++ t)=some (s,t):=by
 unfold mZ at h
 simp only [Bool.and_eq_true,decide_eq_true_eq] at h
 unfold uO oH
 rw [List.append_assoc,oG _ 4 _ (by omega) (by simp;omega)]
 simp only [Option.bind_some]
 rw [oG _ 1 _ (by omega) (by simp;omega)]
 rfl
theorem VR (l:List kC) (t:List UInt8) (h:l.length≤40) (h2:∀ s∈l,mZ s=true):qI (TQ l ++ t)=some (l,t):=by
 unfold qI TQ
 rw [List.append_assoc,xW _ 1 5 _ (by simp;omega) (by rw [List.length_append];have:=uX oH 5 l (fun x _=>by unfold oH;simp only [List.length_append,iM];omega);omega) (by omega)]
 simp only [Option.bind_some]
 exact vH _ _ l t (fun x hx t=>YY x t (h2 x hx))
theorem lN {α:Type} {l:List α} (h:l.isEmpty=true):l=[]:=List.isEmpty_iff.1 h
theorem j8_ (r:SRec) (t:List UInt8) (h:jR r=true) (hk:LQ r):recP (recE r ++ t)=some (r,t):=by
 obtain ⟨k,id,at_,nodes,facts,⟨ep,sp⟩,from_,to_,en⟩:=r
 obtain ⟨hkind,hid,hat,hfacts,hep,hen⟩:=hk
 simp only at hkind hid hat hfacts hep hen
 unfold recP recE
 simp only
 rw [List.append_assoc,oG _ 1 _ hkind.1 (by simp;omega)]
 simp only [Option.bind_some]
 rw [List.append_assoc,oG _ 4 _ hid.1 (by simp;omega)]
 simp only [Option.bind_some]
 unfold jR at h
 simp only at h
 unfold pW MI
 simp only
 by_cases h1:k=1
 ·rw [if_pos h1] at h ⊢
  rw [if_pos h1]
  simp only [Bool.and_eq_true,beq_iff_eq] at h
  obtain ⟨⟨⟨⟨⟨⟨⟨ha,hb⟩,rfl⟩,rfl⟩,hd⟩,rfl⟩,rfl⟩,hg⟩:=h
  rw [lN hd,lN hg,List.append_assoc,JO _ _ ha]
  simp only [Option.bind_some]
  rw [JD _ _ hb hfacts]
  rfl
 rw [if_neg h1] at h ⊢
 rw [if_neg h1]
 by_cases h2:k=2
 ·rw [if_pos h2] at h ⊢
  rw [if_pos h2]
  simp only [Bool.and_eq_true,beq_iff_eq] at h
  obtain ⟨⟨⟨⟨⟨⟨ha,hb⟩,rfl⟩,hd⟩,rfl⟩,rfl⟩,hg⟩:=h
  rw [lN hd,lN hg,lN hb,List.append_assoc,oG _ 4 _ hat.1 (by simp;omega)]
  simp only [Option.bind_some]
  rw [JO _ _ ha]
  rfl
 rw [if_neg h2] at h ⊢
 rw [if_neg h2]
 by_cases h3:(decide (k=3) || decide (k=4) || decide (k=5))=true
 ·rw [if_pos h3] at h
  have h3':k=3∨k=4∨k=5:=by
   simp only [Bool.or_eq_true,decide_eq_true_eq] at h3
   omega
  rw [if_neg (by omega),if_neg (by omega),if_neg (by omega),if_neg (by omega)]
  simp only [Bool.and_eq_true,beq_iff_eq] at h
  obtain ⟨⟨⟨⟨⟨⟨⟨rfl,ha⟩,hb⟩,rfl⟩,hd⟩,rfl⟩,rfl⟩,hg⟩:=h
  rw [lN ha,lN hb,lN hd,lN hg]
  rfl
 rw [if_neg h3] at h
 by_cases h6:k=6
 ·rw [if_pos h6] at h ⊢
  rw [if_pos h6]
  simp only [Bool.and_eq_true,beq_iff_eq,decide_eq_true_eq,List.all_eq_true] at h
  obtain ⟨⟨⟨⟨⟨⟨⟨⟨rfl,ha⟩,hb⟩,rfl⟩,hc⟩,hd⟩,rfl⟩,rfl⟩,hg⟩:=h
  rw [lN hc,lN hd,lN hg,List.append_assoc,oG _ 4 _ hep.1 (by simp;omega)]
  simp only [Option.bind_some]
  rw [VR _ _ ha hb]
  rfl
 rw [if_neg h6] at h ⊢
 rw [if_neg h6]
 by_cases h7:k=7
 ·rw [if_pos h7] at h ⊢
  rw [if_pos h7]
  simp only [Bool.and_eq_true,beq_iff_eq,decide_eq_true_eq] at h
  obtain ⟨⟨⟨⟨⟨⟨⟨⟨⟨⟨ha,hb⟩,hc⟩,hd⟩,he⟩,hf⟩,rfl⟩,hg⟩,hi⟩,rfl⟩,hj⟩:=h
  rw [lN hg,lN hi,lN hj,List.append_assoc,List.append_assoc,oG _ 4 _ hc (by simp;omega)]
  simp only [Option.bind_some]
  rw [oG _ 4 _ he (by simp;omega)]
  simp only [Option.bind_some]
  rw [NM _ _ ha hb hen]
  rfl
 rw [if_neg h7] at h
 cases h
end
end Go.Proofs.YtgfkgppomaapiaaGreatDoor.K
namespace Go.Proofs.YtgfkgppomaapiaaGreatDoor.K
open RowKit YtgfkgppomaapiaaGreatDoorW.PrintWords YtgfkgppomaapiaaGreatDoorW.PrintLast YtgfkgppomaapiaaGreatDoorW.PrintMore My
section
def JH:List PanicEntry:=[{ v:=.iface 165 (.agg #[]),recovered:=false }]
def Rd (w0 w:World) (g:Nat) (l:List UInt8):Prop:=∃ A c,w.heap[g]? = some (.cells #[.slice A l.length c] 168 (0,0))∧l.length≤c∧kb.C w0 A l.length l
theorem Rd.grown {w0 w w':World} {g:Nat} {l:List UInt8} (h:Rd w0 w g l) {row:Option Nat} (hg:w.grownBy w' row) (hne:some g≠row):Rd w0 w' g l:=by
 obtain ⟨A,c,hb,hc,hC⟩:=h
 exact ⟨A,c,(hg.block g (jH hb) hne).trans hb,hc,hC⟩
theorem Rd.lt {w0 w:World} {g:Nat} {l:List UInt8} (h:Rd w0 w g l):g<w.heap.size:=by
 obtain ⟨A,c,hb,_⟩:=h
 exact jH hb
theorem UV (w:World) (row:Option Nat):w.grownBy w row:=⟨rfl,rfl,rfl,Nat.le_refl _,fun _ _ _=>rfl⟩
theorem iV {a w w':World} {row:Option Nat} (h:a.grownBy w row) (k:w.grownBy w' row):a.grownBy w' row :=
 ⟨k.os.trans h.os,k.tape.trans h.tape,k.output.trans h.output,Nat.le_trans h.size k.size,fun i hi hne=>(k.block i (Nat.lt_of_lt_of_le hi h.size) hne).trans (h.block i hi hne)⟩
theorem jY (w:World) (g i:Nat) (v:Value):w.grownBy (w.setCell ⟨g,i,none⟩ v) (some g) :=
 ⟨rfl,rfl,rfl,by simp [World.setCell],fun k _ hne=>Below.heap_setCell _ _ _ _ (fun e=>hne (by rw [e]))⟩
theorem grown_below {w w':World} {row:Option Nat} (h:Below w.heap.size w w'):w.grownBy w' row:=⟨h.os,h.tape,h.output,h.size,fun k hk _=>h.block k hk⟩
theorem below_grown {B:Nat} {w0 w w':World} {g:Nat} (h:Below B w0 w) (hg:w.grownBy w' (some g)) (hB:B≤g) (h0:B≤w0.heap.size):Below B w0 w' :=
 ⟨hg.os.trans h.os,hg.tape.trans h.tape,hg.output.trans h.output,Nat.le_trans h.size hg.size,fun k hk=>(hg.block k (by have:=h.size;omega) (fun e=>by injection e with e;omega)).trans (h.block k hk)⟩
theorem vM (l:List UInt8) (k:Nat) (h:k<l.length):numB (l.take (k+1))=numB (l.take k) * 256+(l.getD k 0).toNat:=by
 rw [kW 0 l k h,WB]
theorem yT (l:List UInt8) (k:Nat) (h:k≤7):numB (l.take k)<72057594037927936:=by
 have h1:=yD (l.take k)
 have h2:(l.take k).length≤7:=by rw [List.length_take];omega
 have h3:256 ^ (l.take k).length≤256 ^ 7:=Nat.pow_le_pow_right (by decide) h2
 have h4:256 ^ 7=72057594037927936:=by decide
 omega
theorem jg_ (n:Nat) (c:UInt8) (h:n<72057594037927936):bits .or .u64 ((n:Int) * 256) (c.toNat:Int)=((n * 256+c.toNat:Nat):Int):=by
 have hc:=c.toNat_lt
 rw [show ((n:Int) * 256)=((n * 256:Nat):Int) by omega,u64_or_nat _ _ (by omega) (by omega)]
 congr 1
 have:=Nat.shiftLeft_add_eq_or_of_lt (i:=8) (show c.toNat<2 ^ 8 by omega) n
 rw [Nat.shiftLeft_eq] at this
 exact this.symm
set_option maxHeartbeats 2000000 in
theorem nZ (s:Nat) (S:Int) (hS:S=s) (hs8:s≤8) (g:Nat) (l:List UInt8) (w0 w:World) (h:Rd w0 w g l) (hb:Below w0.heap.size w0 w) (hl:s≤l.length) :
  Calls Tryz.prog 114 #[.pointer (some ⟨g,0,none⟩),.int .i64 S] w fun e w'=>e=.returned (.int .u64 (numB (l.take s):Int))∧Rd w0 w' g (l.drop s)∧w.grownBy w' (some g):=by
 subst hS
 obtain ⟨A,c,hblk,hc,hC⟩:=h
 have HBL:=iC.mk hblk
 have HB:=iC.mk hb
 have hm:=lD hC
 have HC:=iC.mk hC
 have z0:w.cell? ⟨g,0,none⟩=some (.slice A l.length c):=(iG hblk 0).trans rfl
 have f0:w.frozen? ⟨g,0,none⟩=false:=iE hblk 0
 have hcut:=jc9 A l.length c s (s:Int) rfl hl hc
 obtain ⟨A2,hcut2,hC2⟩:=jc6 hC hc s (s:Int) rfl hl
 have HC2:=iC.mk hC2
 have hnot:¬ (l.length:Int)<(s:Int):=by omega
 clear hblk hb hC hC2
 go_enter Tryz.func114,Tryz.ntmps114
 go_wp2
 go_loop [5,24] (fun n i=>∃ k:Nat,k≤s∧i=.int .i64 k∧n=.int .u64 (numB (l.take k):Int)) (fun _ i=>s - (intOf i).toNat)
 case atStart=>exact ⟨0,Nat.zero_le _,rfl,rfl⟩
 case round =>
  obtain ⟨k,hk,rfl,rfl⟩:=hrel
  by_cases hlt:k<s
  ·obtain ⟨ad,rfl,hx⟩:=C_at (Kd.C_below HC.out HB.out) k (by omega)
   have hsn:=iC.mk (vM l k (by omega))
   have hn:=yT l k (by omega)
   generalize l.getD k 0=cb at hx hsn
   have HOR:=iC.mk (jg_ (numB (l.take k)) cb hn)
   obtain ⟨n,hnn⟩:∃ n,n=numB (l.take k):=⟨_,rfl⟩
   rw [← hnn] at hn HOR hsn ⊢
   clear hnn
   have hnI:(n:Int)<72057594037927936:=by omega
   clear hn
   have hcb:=cb.toNat_lt
   go_wp2
   go_round
   case rel=>exact ⟨k+1,by omega,by go_num,by rw [hsn.out,← HOR.out]⟩
   case measure=>simp [intOf];omega
  ·obtain rfl:k=s:=by omega
   go_wp2
   go_ret
   refine ⟨rfl,⟨A2,c - k,?_,by rw [List.length_drop];omega,?_⟩,jY _ _ _ _⟩
   ·rw [List.length_drop]
    exact (Lib.heap_setCell_same HBL.out _).trans rfl
   ·rw [List.length_drop]
    exact HC2.out
set_option maxHeartbeats 1000000 in
theorem kG (s:Nat) (S:Int) (hS:S=s) (g:Nat) (l:List UInt8) (w0 w:World) (h:Rd w0 w g l) (hl:l.length<s) :
  Calls Tryz.prog 114 #[.pointer (some ⟨g,0,none⟩),.int .i64 S] w fun e w'=>e=.panicked JH∧w.grownBy w' (some g):=by
 subst hS
 obtain ⟨A,c,hblk,hc,hC⟩:=h
 have hm:=lD hC
 have z0:w.cell? ⟨g,0,none⟩=some (.slice A l.length c):=(iG hblk 0).trans rfl
 have f0:w.frozen? ⟨g,0,none⟩=false:=iE hblk 0
 have hyes:(l.length:Int)<(s:Int):=by omega
 clear hblk hC
 go_enter Tryz.func114,Tryz.ntmps114
 go_wp2
 exact ⟨rfl,rfl,UV _ _⟩
theorem nS {s:Nat} {l l':List UInt8} {n:Nat} (h:number s l=some (n,l')):s≤l.length∧n=numB (l.take s)∧l'=l.drop s:=by
 unfold number at h
 split at h
 ·cases h
 ·injection h with h
  injection h with h1 h2
  exact ⟨by omega,h1.symm,h2.symm⟩
theorem vV {s:Nat} {l:List UInt8} (h:number s l=none):l.length<s:=by
 unfold number at h
 split at h
 ·assumption
 ·cases h
theorem xB (a b:Nat) (h:a≤9223372036854775807):wrap64 ((a:Int) / (b:Int))=(a:Int) / (b:Int)∧IntKind.u64.wrap ((a:Int) / (b:Int))=(a:Int) / (b:Int):=by
 rw [← Int.natCast_ediv]
 have h1:a / b≤a:=Nat.div_le_self _ _
 generalize a / b=q at h1 ⊢
 constructor
 ·unfold wrap64;omega
 ·rw [IntKind.wrap_u64];omega
set_option maxHeartbeats 2000000 in
theorem IP (s least:Nat) (S T:Int) (hS:S=s) (hT:T=least) (hs8:s≤8) (h1:1≤least) (g:Nat) (l l':List UInt8) (n:Nat) (w0 w:World) (h:Rd w0 w g l) (hb:Below w0.heap.size w0 w) (hg:w0.heap.size≤g) (hl:many s least l=some (n,l')) :
  Calls Tryz.prog 122 #[.pointer (some ⟨g,0,none⟩),.int .i64 S,.int .i64 T] w fun e w'=>e=.returned (.int .i64 (n:Int))∧Rd w0 w' g l'∧w.grownBy w' (some g)∧n * least≤l'.length:=by
 subst hT
 unfold many at hl
 obtain ⟨⟨m,r⟩,hn,hl⟩:=Option.bind_eq_some_iff.1 hl
 simp only at hl
 split at hl
 ·cases hl
 injection hl with hl
 injection hl with e1 e2
 subst e1;subst e2
 rename_i hle
 obtain ⟨hsl,hm,hr⟩:=nS hn
 have hle':m * least≤r.length:=by
  have:m≤r.length / least:=by omega
  exact (Nat.le_div_iff_mul_le (by omega)).1 this
 have hmd:¬ ((r.length:Int) / (least:Int))<(m:Int):=by
  rw [← Int.natCast_ediv]
  omega
 have hcall:=nZ s S hS hs8 g l w0 w h hb hsl
 rw [← hm,← hr] at hcall
 have HLE:=iC.mk hle'
 clear hn hm hr hle hle' h hb hsl hS
 have hl1:(1:Int)≤(least:Int):=by omega
 go_enter Tryz.func122,Tryz.ntmps122
 go_wp2_with (go_at_call 114;refine hcall.mono ?_;rintro e w1 ⟨rfl,hR,hG⟩;obtain ⟨A1,c1,hblk,hc1,hC1⟩:=hR;have HBL:=iC.mk hblk;have HC1:=iC.mk hC1;have hm1:=lD hC1;have z0:w1.cell? ⟨g,0,none⟩=some (.slice A1 r.length c1):=(iG hblk 0).trans rfl;clear hblk hC1;obtain ⟨hq1,hq2⟩:=xB r.length least hm1;have hmr:(m:Int)≤9223372036854775807:=by (have:=HLE.out;have:=Nat.le_mul_of_pos_right m (show 0<least by omega);omega))
 go_ret
 exact ⟨rfl,⟨A1,c1,HBL.out,hc1,HC1.out⟩,hG,HLE.out⟩
set_option maxHeartbeats 2000000 in
theorem qX (s least:Nat) (S T:Int) (hS:S=s) (hT:T=least) (hs8:s≤8) (h1:1≤least) (g:Nat) (l:List UInt8) (w0 w:World) (h:Rd w0 w g l) (hb:Below w0.heap.size w0 w) (hg:w0.heap.size≤g) (hl:many s least l=none) :
  Calls Tryz.prog 122 #[.pointer (some ⟨g,0,none⟩),.int .i64 S,.int .i64 T] w fun e w'=>e=.panicked JH∧w.grownBy w' (some g):=by
 subst hT
 unfold many at hl
 cases hn:number s l with
 | none =>
  have hcall:=kG s S hS g l w0 w h (vV hn)
  clear hn hl h hb hS
  go_enter Tryz.func122,Tryz.ntmps122
  go_wp2_with (go_at_call 114;refine hcall.mono ?_;rintro e w1 ⟨rfl,hG⟩)
  exact ⟨rfl,rfl,hG⟩
 | some x =>
  obtain ⟨m,r⟩:=x
  rw [hn] at hl
  simp only [Option.bind_some] at hl
  split at hl
  ·rename_i hgt
   obtain ⟨hsl,hm,hr⟩:=nS hn
   have hmd:((r.length:Int) / (least:Int))<(m:Int):=by
    rw [← Int.natCast_ediv]
    omega
   have hcall:=nZ s S hS hs8 g l w0 w h hb hsl
   rw [← hm,← hr] at hcall
   clear hn hm hr hgt h hb hsl hS hl
   have hl1:(1:Int)≤(least:Int):=by omega
   go_enter Tryz.func122,Tryz.ntmps122
   go_wp2_with (go_at_call 114;refine hcall.mono ?_;rintro e w1 ⟨rfl,hR,hG⟩;obtain ⟨A1,c1,hblk,hc1,hC1⟩:=hR;have hm1:=lD hC1;have z0:w1.cell? ⟨g,0,none⟩=some (.slice A1 r.length c1):=(iG hblk 0).trans rfl;clear hblk hC1;obtain ⟨hq1,hq2⟩:=xB r.length least hm1)
   exact ⟨rfl,rfl,hG⟩
  ·cases hl
end
section
def PP {α:Type} (res:Option (α × List UInt8)) (val:α→Value→World→Prop) (w0 w:World) (g:Nat) (e:Ending) (w':World):Prop :=
 w.grownBy w' (some g)∧((∃ x l' v,res=some (x,l')∧e=.returned v∧val x v w'∧Rd w0 w' g l')∨(res=none∧e=.panicked JH))
theorem PP.ok {α:Type} {res:Option (α × List UInt8)} {val:α→Value→World→Prop} {w0 w w':World} {g:Nat} {e:Ending} {x:α} {l:List UInt8} (h:PP res val w0 w g e w') (hr:res=some (x,l)):∃ v,e=.returned v∧val x v w'∧Rd w0 w' g l∧w.grownBy w' (some g):=by
 obtain ⟨hg,⟨x',l',v,h1,h2,h3,h4⟩ | ⟨h1,_⟩⟩:=h
 ·rw [hr] at h1
  injection h1 with h1
  injection h1 with h1 h5
  subst h1;subst h5
  exact ⟨v,h2,h3,h4,hg⟩
 ·rw [hr] at h1;cases h1
theorem PP.short {α:Type} {res:Option (α × List UInt8)} {val:α→Value→World→Prop} {w0 w w':World} {g:Nat} {e:Ending} (h:PP res val w0 w g e w') (hr:res=none):e=.panicked JH∧w.grownBy w' (some g):=by
 obtain ⟨hg,⟨x',l',v,h1,_⟩ | ⟨_,h2⟩⟩:=h
 ·rw [hr] at h1;cases h1
 ·exact ⟨h2,hg⟩
def RI (w:World) (base:Nat) (v:Value) (xs:List Int):Prop:=Kd.R (Kd.int .i64) 3 w base (fun _=>True) v xs
theorem jT {α:Type} {d:Kd α} {e:Nat} {w w1:World} {base:Nat} {ok:Nat→Prop} {v:Value} {xs:List α} {g:Nat} (h:d.R e w base ok v xs) (hg:w.grownBy w1 (some g)) (hlt:g<base):d.R e w1 base ok v xs :=
 Kd.R_mono (Kd.R_grown (Kd.R_bound h) hg (fun k hk e=>by have:=hk.2.1;injection e with e;omega)) (fun _ hk=>hk.1)
theorem Z8 {α:Type} {d:Kd α} {e:Nat} {w:World} {base:Nat} {ok:Nat→Prop} {ad:Addr} {n cap:Nat} {xs:List α} (h:d.R e w base ok (.slice (some ad) n cap) xs):∃ g,ad=⟨g,0,none⟩:=Kd.R_head h
theorem jk7 {w:World} {base:Nat} {ad:Addr} {n c:Nat} {xs:List Int} (h:RI w base (.slice (some ad) n c) xs) (k:Nat) (hk:k<n) (x:Int) :
  (∃ old,w.cell? (ad.add k)=some old)∧w.frozen? (ad.add k)=false∧base≤ad.block ∧
  RI (w.setCell (ad.add k) (.int .i64 x)) base (.slice (some ad) n c) (xs.set k x)∧w.grownBy (w.setCell (ad.add k) (.int .i64 x)) (some ad.block):=by
 obtain ⟨g,rfl⟩:=Z8 h
 have ho:=Kd.own_of_R (enc:=Value.int .i64) (h1:=fun _=>rfl) h
 obtain ⟨hlen,_,hC⟩:=Kd.R_reads' h
 obtain ⟨A1,e1,hx⟩:=Kd.at_int hC (k:Int) (by omega) (by omega)
 injection e1 with e1
 subst e1
 rw [Int.toNat_natCast] at hx
 obtain ⟨cells,hc⟩:=pJ ho g (by simp [Value.ownBlock])
 rw [← hlen] at ho
 obtain ⟨h2,h3⟩:=NP ho (k:Int) x
 rw [Int.toNat_natCast] at h2 h3
 have ha:(⟨g,0,none⟩:Addr).add k=⟨g,k,none⟩:=by rw [add_plain]
 rw [ha] at hx ⊢
 refine ⟨⟨_,hx⟩,iE hc k,?_,Kd.R_of_own ?_ (fun _ _=>trivial),h3⟩
 ·exact Kd.R_base h g (by simp [Value.ownBlock])
 ·rw [List.length_set,← hlen]
  exact h2
theorem je7 {W:World} {n base:Nat} (hn:n≤9223372036854775807) (hb:base≤W.heap.size):RI (W.alloc (.cells (madeCells #[.int .i64 0] n) 3)) base (.slice (some ⟨W.heap.size,0,none⟩) n n) (List.replicate n 0):=by
 refine Kd.R_of_own ?_ (fun _ _=>trivial)
 have h:=World.ownsRow_lit (base:=base) (e:=3) (size:=1) W (madeCells #[.int .i64 0] n) n hb (by unfold maxLen;omega) (by simp [madeCells])
 rw [List.length_replicate]
 have e:(madeCells #[.int .i64 0] n).toList=encs (Value.int .i64) (List.replicate n 0):=by
  apply List.ext_getElem
  ·simp [madeCells,encs]
  ·intro i h1 h2
   simp [madeCells,Nat.mod_one,encs]
 rw [← e]
 exact h
theorem kF {w w1 w2:World} {g b:Nat} (h:w.grownBy w1 (some g)) (k:w1.grownBy w2 (some b)) (hb:w.heap.size≤b):w.grownBy w2 (some g) :=
 ⟨k.os.trans h.os,k.tape.trans h.tape,k.output.trans h.output,Nat.le_trans h.size k.size,fun i hi hne=>(k.block i (Nat.lt_of_lt_of_le hi h.size) (fun e=>by injection e with e;omega)).trans (h.block i hi hne)⟩
theorem I4 {α:Type} (p:List UInt8→Option (α × List UInt8)) (n:Nat) (b:List UInt8):repP p (n+1) b=(p b).bind fun x=>(repP p n x.2).bind fun y=>some (x.1 :: y.1,y.2):=rfl
def Left {α:Type} (p:List UInt8→Option (α × List UInt8)) (n k:Nat) (l r:List UInt8) (done:List α):Prop :=
 done.length=k∧repP p n l=(repP p (n - k) r).bind fun y=>some (done ++ y.1,y.2)
theorem Left.start {α:Type} (p:List UInt8→Option (α × List UInt8)) (n:Nat) (l:List UInt8):Left p n 0 l l []:=by
 refine ⟨rfl,?_⟩
 rw [Nat.sub_zero]
 cases repP p n l <;> rfl
theorem Left.next {α:Type} {p:List UInt8→Option (α × List UInt8)} {n k:Nat} {l r r':List UInt8} {done:List α} {x:α} (h:Left p n k l r done) (hk:k<n) (hp:p r=some (x,r')):Left p n (k+1) l r' (done ++ [x]):=by
 refine ⟨by rw [List.length_append,h.1];rfl,?_⟩
 rw [h.2,show n - k=(n - (k+1))+1 by omega,I4,hp]
 simp only [Option.bind_some]
 cases repP p (n - (k+1)) r' with
 | none=>rfl
 | some y=>simp
theorem Left.fail {α:Type} {p:List UInt8→Option (α × List UInt8)} {n k:Nat} {l r:List UInt8} {done:List α} (h:Left p n k l r done) (hk:k<n) (hp:p r=none):repP p n l=none:=by
 rw [h.2,show n - k=(n - (k+1))+1 by omega,I4,hp]
 rfl
theorem Left.done {α:Type} {p:List UInt8→Option (α × List UInt8)} {n:Nat} {l r:List UInt8} {done:List α} (h:Left p n n l r done):repP p n l=some (done,r):=by
 rw [h.2,Nat.sub_self]
 simp [repP]
theorem QB {α:Type} (z x:α) (done:List α) (n k:Nat) (hd:done.length=k) (hk:k<n):(done ++ List.replicate (n - k) z).set k x=(done ++ [x]) ++ List.replicate (n - (k+1)) z:=by
 rw [List.set_append_right _ _ (by omega),hd,Nat.sub_self,show n - k=(n - (k+1))+1 by omega,List.replicate_succ,List.set_cons_zero,List.append_assoc]
 rfl
theorem mQ {s least n:Nat} {l r:List UInt8} (h:many s least l=some (n,r)) (h1:1≤least):r.length+s=l.length∧n * least≤r.length:=by
 unfold many at h
 obtain ⟨⟨m,r'⟩,hn,hl⟩:=Option.bind_eq_some_iff.1 h
 simp only at hl
 split at hl
 ·cases hl
 injection hl with hl
 injection hl with e1 e2
 subst e1;subst e2
 rename_i hle
 obtain ⟨h3,_,rfl⟩:=nS hn
 refine ⟨by rw [List.length_drop];omega,(Nat.le_div_iff_mul_le (by omega)).1 (by omega)⟩
theorem vY (n:Nat) (h:n<9223372036854775808):wrap64 (n:Int)=(n:Int):=by unfold wrap64;omega
theorem xJ {t e:TypeId} {z:Value} {size bytes:Nat} (ht:Tryz.prog.underlying t=some (.slice e)) (hinfo:(Tryz.prog.info? e).map (fun i=>(i.zero,i.size,i.bytes))=some (some z,size,bytes)) (hb:bytes≤100000) (n:Nat) (hn:(n:Int)≤100000) (W:World) :
  (Instr.makeSlice t (.int .i64 (n:Int)) (.int .i64 (n:Int))).run Tryz.prog W=.ok (.slice (some ⟨W.heap.size,0,none⟩) n n) (W.alloc (.cells (madeCells z.cells (n * size)) e)):=by
 obtain ⟨i,hi,he⟩:=Option.map_eq_some_iff.1 hinfo
 simp only [Prod.mk.injEq] at he
 obtain ⟨h1,h2,h3⟩:=he
 have hbn:(i.bytes:Int) * (n:Int)≤281474976710656:=by
  have h4:(i.bytes:Int)≤100000:=by omega
  have h5:(i.bytes:Int) * (n:Int)≤100000 * 100000:=Int.mul_le_mul h4 hn (by omega) (by omega)
  omega
 have:=run_make W t e i z ht hi h1 .i64 .i64 (n:Int) (n:Int) (by omega) (by omega) hbn (by omega)
 rw [h2,Int.toNat_natCast] at this
 exact this
theorem oM {s:Nat} {l r:List UInt8} {x:Int} (h:intP s l=some (x,r)):s≤l.length∧x=(numB (l.take s):Int)∧r=l.drop s:=by
 unfold intP at h
 obtain ⟨⟨m,r'⟩,hn,hl⟩:=Option.bind_eq_some_iff.1 h
 injection hl with hl
 injection hl with e1 e2
 subst e1;subst e2
 obtain ⟨h1,rfl,rfl⟩:=nS hn
 exact ⟨h1,rfl,rfl⟩
theorem lX {s:Nat} {l:List UInt8} (h:intP s l=none):l.length<s:=by
 unfold intP at h
 cases hn:number s l with
 | none=>exact vV hn
 | some x=>rw [hn] at h;cases h
theorem oC (l:List UInt8) (s:Nat) (hs:s≤4):(numB (l.take s):Int)<4294967296:=by
 have h1:=yD (l.take s)
 have h2:(l.take s).length≤4:=by rw [List.length_take];omega
 have h3:256 ^ (l.take s).length≤256 ^ 4:=Nat.pow_le_pow_right (by decide) h2
 have h4:256 ^ 4=4294967296:=by decide
 omega
set_option maxRecDepth 20000 in
set_option maxHeartbeats 2000000 in
theorem vG (g:Nat) (l:List UInt8) (w0 w:World) (h:Rd w0 w g l) (hb:Below w0.heap.size w0 w) (hg:w0.heap.size≤g) (hm:(l.length:Int)≤100000) :
  Calls Tryz.prog 115 #[.pointer (some ⟨g,0,none⟩)] w (PP (nV l) (fun xs v w'=>RI w' w.heap.size v xs) w0 w g):=by
 have HR:=iC.mk h
 have HB:=iC.mk hb
 have hlt:=h.lt
 clear h hb
 cases hmy:many 1 1 l with
 | none =>
  have hn:nV l=none:=by unfold nV;rw [hmy];rfl
  have hcall:=qX 1 1 1 1 rfl rfl (by omega) (by omega) g l w0 w HR.out HB.out hg hmy
  have HN:=iC.mk hn
  clear hmy hn
  go_enter Tryz.func115,Tryz.ntmps115
  go_wp2_with (go_at_call 122;refine hcall.mono ?_;rintro e w1 ⟨rfl,hG⟩)
  exact ⟨rfl,hG,.inr ⟨HN.out,rfl⟩⟩
 | some x =>
  obtain ⟨n,r0⟩:=x
  have hn:nV l=repP (intP 1) n r0:=by unfold nV;rw [hmy];rfl
  have hcall:=IP 1 1 1 1 rfl rfl (by omega) (by omega) g l r0 n w0 w HR.out HB.out hg hmy
  have HN:=iC.mk hn
  obtain ⟨hl1,hl2⟩:=mQ hmy (by omega)
  have hn1:(n:Int)≤100000:=by omega
  have hr1:(r0.length:Int)≤100000:=by omega
  have hmk:=xJ (t:=47) (e:=3) Tryz.underlying47 info3 (by omega) n hn1
  clear hmy hn hl1 hl2
  go_enter Tryz.func115,Tryz.ntmps115
  go_wp2_with (go_at_call 122;refine hcall.mono ?_;rintro e w1 ⟨rfl,hR,hG,hle⟩;clear hle;have HR1:=iC.mk hR;have HG1:=iC.mk hG;clear hR hG)
  have HO:=iC.mk (je7 (W:=w1) (n:=n) (base:=w.heap.size) (by omega) HG1.out.size)
  have HG:=iC.mk (iV HG1.out (grown_below (iD (Below.refl _ _) (.cells (madeCells #[.int .i64 0] n) 3))))
  have HR2:=iC.mk (Rd.grown HR1.out (grown_below (row:=none) (iD (Below.refl _ _) (.cells (madeCells #[.int .i64 0] n) 3))) (by simp))
  clear HR1 HG1 hcall hmk
  obtain ⟨ad,had⟩:∃ ad:Addr,ad=⟨w1.heap.size,0,none⟩:=⟨_,rfl⟩
  rw [← had] at HO ⊢
  obtain ⟨W2,hW⟩:∃ W2,W2=w1.alloc (.cells (madeCells #[.int .i64 0] n) 3):=⟨_,rfl⟩
  rw [← hW] at HO HG HR2 ⊢
  clear hW had
  go_loopw [10] (fun i wr=>∃ (k:Nat) (done:List Int) (r:List UInt8),k≤n∧i=.int .i64 k∧iC (Left (intP 1) n k r0 r done)∧iC (Rd w0 wr g r)∧iC (RI wr w.heap.size (.slice (some ad) n n) (done ++ List.replicate (n - k) 0))∧iC (w.grownBy wr (some g))) (fun i _=>n - (intOf i).toNat)
  case atStart=>exact ⟨0,[],r0,Nat.zero_le _,rfl,⟨Left.start _ _ _⟩,HR2,HO,HG⟩
  case round =>
   obtain ⟨k,done,r,hk,rfl,HL,HRd,HOk,HGk⟩:=hrel
   clear HR2 HO HG
   by_cases hkn:k<n
   ·cases hp:intP 1 r with
    | none =>
     have hcall:=kG 1 1 rfl g r w0 wr HRd.out (lX hp)
     have HF:=iC.mk (Left.fail HL.out hkn hp)
     clear hp
     go_wp2_with (go_at_call 114;refine hcall.mono ?_;rintro e w2 ⟨rfl,hG⟩)
     exact ⟨rfl,iV HGk.out hG,.inr ⟨by rw [HN.out];exact HF.out,rfl⟩⟩
    | some x =>
     obtain ⟨x,r'⟩:=x
     obtain ⟨hs1,hx,hr'⟩:=oM hp
     have HN1:=iC.mk (Left.next HL.out hkn hp)
     have hcall:=nZ 1 1 rfl (by omega) g r w0 wr HRd.out (below_grown HB.out HGk.out hg (Nat.le_refl _)) hs1
     have hsm:=oC r 1 (by omega)
     rw [← hr'] at hcall
     obtain ⟨m,hm1⟩:∃ m,m=numB (r.take 1):=⟨_,rfl⟩
     rw [← hm1] at hcall hsm hx
     subst hx
     clear hp hr' hm1 hs1
     go_wp2_with (go_at_call 114;refine hcall.mono ?_;rintro e w2 ⟨rfl,hR,hG⟩;obtain ⟨⟨old,ho⟩,hf,hbs,hset,hgr⟩:=jk7 (jT HOk.out hG hlt) k hkn (m:Int);have HS:=iC.mk hset;have HGR:=iC.mk (kF (iV HGk.out hG) hgr hbs);have HRR:=iC.mk (Rd.grown hR hgr (by (intro e;injection e with e;omega)));clear hset hgr hbs hR hG)
     go_roundw
     case rel=>exact ⟨k+1,done ++ [(m:Int)],r',by omega,by go_num,HN1,HRR,⟨by rw [← QB _ _ _ _ _ HL.out.1 hkn];exact HS.out⟩,HGR⟩
     case measure=>simp [intOf];omega
   ·obtain rfl:k=n:=by omega
    go_wp2
    go_ret
    have hd:=HOk.out
    rw [Nat.sub_self,List.replicate_zero,List.append_nil] at hd
    exact ⟨HGk.out,.inl ⟨done,r,_,by rw [HN.out];exact Left.done HL.out,rfl,hd,HRd.out⟩⟩
def RW (e:Nat) (w:World) (base:Nat) (v:Value) (rows:List (List Value)):Prop:=(Kd.raw 2).R e w base (fun _=>True) v rows
theorem ML {e:Nat} {w:World} {base:Nat} {ad:Addr} {n c:Nat} {rows:List (List Value)} (h:RW e w base (.slice (some ad) n c) rows) (k:Nat) (hk:k<n) :
  ∃ x y,rows.getD k []=[x,y]∧w.cell? (ad.add (k * 2))=some x∧w.cell? ⟨(ad.add (k * 2)).block,(ad.add (k * 2)).off+1,none⟩=some y∧w.frozen? (ad.add (k * 2))=false∧w.frozen? ⟨(ad.add (k * 2)).block,(ad.add (k * 2)).off+1,none⟩=false∧base≤ad.block∧ad.block<w.heap.size ∧
  (∀ u:Value,u.oneCell'=true→RW e (w.setCell (ad.add (k * 2)) u) base (.slice (some ad) n c) (rows.set k [u,y])∧w.grownBy (w.setCell (ad.add (k * 2)) u) (some ad.block)) ∧
  (∀ u:Value,u.oneCell'=true→RW e (w.setCell ⟨(ad.add (k * 2)).block,(ad.add (k * 2)).off+1,none⟩ u) base (.slice (some ad) n c) (rows.set k [x,u])∧w.grownBy (w.setCell ⟨(ad.add (k * 2)).block,(ad.add (k * 2)).off+1,none⟩ u) (some ad.block)):=by
 obtain ⟨g,rfl⟩:=Z8 h
 have hb:=Kd.R_base h g (by simp [Value.ownBlock])
 have hlt:=Kd.R_lt h g (by simp [Value.ownBlock])
 obtain ⟨cc,hcl,hM,hcc,hf⟩:=Kd.R_elem h [] (k:Int) (by omega) (by omega)
 rw [Int.toNat_natCast] at hM hcc hf
 have hM':cc=rows.getD k []∧cc.length=2∧∀ u∈cc,u.oneCell'=true:=hM
 obtain ⟨hc1,hc2,hc3⟩:=hM'
 obtain ⟨x,y,rfl⟩:∃ x y,cc=[x,y]:=by
  match cc,hc2 with
  | [x,y],_=>exact ⟨x,y,rfl⟩
 have ha:(⟨g,0,none⟩:Addr).add (k * 2)=⟨g,k * 2,none⟩:=by rw [add_plain]
 rw [ha]
 have z0:w.cell? ⟨g,k * 2,none⟩=some x:=hcc 0 x rfl
 have z1:w.cell? ⟨g,k * 2+1,none⟩=some y:=hcc 1 y rfl
 have f0:w.frozen? ⟨g,k * 2,none⟩=false:=hf 0
 have f1:w.frozen? ⟨g,k * 2+1,none⟩=false:=hf 1
 have ox:=hc3 x (by simp)
 have oy:=hc3 y (by simp)
 have hcc':∀ j u,[x,y][j]? = some u→w.cell? ⟨g,(k:Int).toNat * (Kd.raw 2).sz+j,none⟩=some u:=by rw [Int.toNat_natCast];exact hcc
 refine ⟨x,y,hc1.symm,z0,z1,f0,f1,hb,hlt,fun u hu=>?_,fun u hu=>?_⟩
 ·have:=Kd.R_seg (d:=Kd.raw 2) (okp:=fun _=>False) (c:=[x,y]) (seg:=[u]) (j:=0) (x':=[u,y]) h (k:Int) (by omega) (by omega) rfl hcc' (show _≤2 by simp) ⟨rfl,rfl,by
   intro z hz
   rcases List.mem_cons.1 hz with rfl | hz
   ·exact hu
   ·rcases List.mem_cons.1 hz with rfl | hz
    ·exact oy
    ·cases hz⟩ (fun _ hk=>hk.elim)
  rw [Int.toNat_natCast] at this
  exact this
 ·have:=Kd.R_seg (d:=Kd.raw 2) (okp:=fun _=>False) (c:=[x,y]) (seg:=[u]) (j:=1) (x':=[x,u]) h (k:Int) (by omega) (by omega) rfl hcc' (show _≤2 by simp) ⟨rfl,rfl,by
   intro z hz
   rcases List.mem_cons.1 hz with rfl | hz
   ·exact ox
   ·rcases List.mem_cons.1 hz with rfl | hz
    ·exact hu
    ·cases hz⟩ (fun _ hk=>hk.elim)
  rw [Int.toNat_natCast] at this
  exact this
theorem XC {e:Nat} {W:World} {n base:Nat} {x y:Value} (ox:x.oneCell'=true) (oy:y.oneCell'=true) (hn:n≤9223372036854775807) (hb:base≤W.heap.size):RW e (W.alloc (.cells (madeCells #[x,y] (n * 2)) e)) base (.slice (some ⟨W.heap.size,0,none⟩) n n) (List.replicate n [x,y]):=by
 refine ⟨fun _ _=>trivial,(madeCells #[x,y] (n * 2)).toList,?_,?_,?_⟩
 ·rw [List.length_replicate]
  exact World.ownsRow_lit W (madeCells #[x,y] (n * 2)) n hb (by unfold maxLen;omega) (by simp [madeCells,Kd.raw])
 ·simp [madeCells,Kd.raw]
 ·intro j p hj
  obtain ⟨hjl,hjp⟩:=List.getElem?_eq_some_iff.1 hj
  rw [List.length_replicate] at hjl
  rw [List.getElem_replicate] at hjp
  subst hjp
  have hcell:(((madeCells #[x,y] (n * 2)).toList.drop (j * (Kd.raw 2).sz)).take (Kd.raw 2).sz)=[x,y]:=by
   apply List.ext_getElem
   ·simp [madeCells,Kd.raw];omega
   ·intro i h1 h2
    have hi:i<2:=by simpa using h2
    rw [List.getElem_take,List.getElem_drop]
    have hi':i=0∨i=1:=by omega
    rcases hi' with rfl | rfl <;> simp [madeCells,Kd.raw,Nat.add_mod]
  rw [hcell]
  refine ⟨rfl,rfl,fun u hu=>?_⟩
  rcases List.mem_cons.1 hu with rfl | hu
  ·exact ox
  ·rcases List.mem_cons.1 hu with rfl | hu
   ·exact oy
   ·cases hu
theorem N7 {α:Type} {d:Kd α} (hd:d.sz=2) {e:Nat} {w:World} {base:Nat} {v:Value} {rows:List (List Value)} {xs:List α} {ok:Nat→Prop} (h:RW e w base v rows) (hl:xs.length=rows.length) (hok:∀ k,v.ownBlock=some k→ok k) (hM:∀ (j:Nat) (p:α) (c:List Value),xs[j]? = some p→rows[j]? = some c→d.M w base (fun k=>ok k∧some k≠v.ownBlock) p c):d.R e w base ok v xs:=by
 obtain ⟨_,inner,ho,hr⟩:=h
 refine ⟨hok,inner,?_,?_,?_⟩
 ·rw [hl,hd];exact ho
 ·rw [hl,hd];exact hr.1
 ·intro j p hj
  have hjl:j<rows.length:=by rw [← hl];exact (List.getElem?_eq_some_iff.1 hj).1
  have hc:=hr.2 j rows[j] (List.getElem?_eq_getElem hjl)
  rw [hd]
  have e:((inner.drop (j * (Kd.raw 2).sz)).take (Kd.raw 2).sz)=rows[j]:=hc.1
  show d.M w base _ p ((inner.drop (j * 2)).take 2)
  rw [show ((inner.drop (j * 2)).take 2)=rows[j] from e]
  exact hM j p _ hj (List.getElem?_eq_getElem hjl)
end
end Go.Proofs.YtgfkgppomaapiaaGreatDoor.K
namespace Go.Proofs.YtgfkgppomaapiaaGreatDoor.K
open Go.RowKit Go.Proofs.YtgfkgppomaapiaaGreatDoorW.PrintWords Go.Proofs.YtgfkgppomaapiaaGreatDoorW.PrintLast Go.Proofs.YtgfkgppomaapiaaGreatDoorW.PrintMore
section
attribute [local go_sem] kL kH kZ lC
def stratumref07_SoundNodes.l0:Nat→List Int→Int→Option (Bool)
 | 0,_,_=>none
 | k+1,x0,x3=>if x3<(x0.length:Int) then (if 0≤x3 then (if (rd x0 x3)<0 then (some false) else (if (rd x0 x3) > 5 then (some false) else (if x3 > 0 then (if 0≤(wrap64 (x3 - 1)) then (if (wrap64 (x3 - 1))<(x0.length:Int) then (if (rd x0 x3)≤(rd x0 (wrap64 (x3 - 1))) then (some false) else (stratumref07_SoundNodes.l0 k x0 (wrap64 (x3+1)))) else (none)) else (none)) else (stratumref07_SoundNodes.l0 k x0 (wrap64 (x3+1)))))) else (none)) else (some true)
def stratumref07_SoundNodes.f (k:Nat) (l0:List Int):Option (Bool):=stratumref07_SoundNodes.l0 k l0 0
set_option maxHeartbeats 8000000 in
set_option maxRecDepth 100000 in
theorem stratumref07_SoundNodes.calls (k:Nat) (A0:Option Addr) (c0:Nat) (l0:List Int) (r:Bool) (w:World) (hr0:Kd.C (Kd.int .i64) w A0 l0.length l0) (hc0:l0.length≤c0) (h:stratumref07_SoundNodes.f k l0=some r) :
  Calls Tryz.prog 102 #[.slice A0 l0.length c0] w fun e w'=>e=.returned (.bool r)∧jD w w':=by
 have HR0:=iC.mk hr0
 have HC0:=iC.mk hc0
 clear hr0 hc0
 have H:(stratumref07_SoundNodes.l0 k l0 0)=some r:=h
 clear h
 have H':=iC.mk H
 clear H
 go_enter Tryz.func102,Tryz.ntmps102
 go_wp2
 repeat (go_quiet (fail);try go_wp2)
 go_loopg [3] k (fun kq v3 w'=>∃ (x3_1:Int),v3=.int .i64 x3_1∧iC (stratumref07_SoundNodes.l0 kq l0 x3_1=some r)∧iC (kq≤k)∧jD w w')
 case atStart=>exact ⟨(0),(by first | rfl | (simp;done) | (simp [*];done)),H',⟨Nat.le_refl _⟩,by repeat (first | exact jD.refl _ | apply jD.step)⟩
 case round =>
  clear H'
  try clear c1
  obtain ⟨x3_1,rfl,HA,HK1,⟨m1,rfl⟩⟩:=hrel
  cases gk with
  | zero=>exact absurd HA.out (by simp [stratumref07_SoundNodes.l0])
  | succ k1 =>
   have H:=HA.out
   clear HA
   simp only [stratumref07_SoundNodes.l0] at H
   by_cases c2:x3_1<(l0.length:Int)
   ·rw [if_pos c2] at H
    have c2b0:decide (x3_1<(l0.length:Int))=true:=decide_eq_true c2
    clear c2
    by_cases c3:0≤x3_1
    ·rw [if_pos c3] at H
     have c3b0:decide (0≤x3_1)=true:=decide_eq_true c3
     clear c3
     by_cases c4:(rd l0 x3_1)<0
     ·rw [if_pos c4] at H
      have c4b0:decide ((rd l0 x3_1)<0)=true:=decide_eq_true c4
      clear c4
      obtain rfl:=Option.some.inj H
      have p145:0≤(x3_1:Int):=of_decide_eq_true asm_
      have q145:x3_1<(l0.length:Int):=of_decide_eq_true asm_
      obtain ⟨ad145,e145,hx145_0⟩:=Kd.at_int HR0.out x3_1 p145 q145
      cases e145
      replace p145:=eq_true p145
      replace q145:=eq_true q145
      go_wp2
      repeat (go_quiet (fail);try go_wp2)
      go_ret
      exact ⟨by first | rfl | (simp;done) | (simp [*];done),by repeat (first | exact jD.refl _ | apply jD.step)⟩
     ·rw [if_neg c4] at H
      have c4b0:decide ((rd l0 x3_1)<0)=false:=decide_eq_false c4
      clear c4
      by_cases c5:(rd l0 x3_1) > 5
      ·rw [if_pos c5] at H
       have c5b0:decide (5<(rd l0 x3_1))=true:=decide_eq_true c5
       clear c5
       obtain rfl:=Option.some.inj H
       have p145:0≤(x3_1:Int):=of_decide_eq_true asm_
       have q145:x3_1<(l0.length:Int):=of_decide_eq_true asm_
       obtain ⟨ad145,e145,hx145_0⟩:=Kd.at_int HR0.out x3_1 p145 q145
       cases e145
       replace p145:=eq_true p145
       replace q145:=eq_true q145
       have p146:0≤(x3_1:Int):=of_decide_eq_true asm_
       have q146:x3_1<(l0.length:Int):=of_decide_eq_true asm_
       obtain ⟨ad146,e146,hx146_0⟩:=Kd.at_int HR0.out x3_1 p146 q146
       obtain rfl:ad145=ad146:=(by injection e146)
       replace p146:=eq_true p146
       replace q146:=eq_true q146
       go_wp2
       repeat (go_quiet (fail);try go_wp2)
       go_ret
       exact ⟨by first | rfl | (simp;done) | (simp [*];done),by repeat (first | exact jD.refl _ | apply jD.step)⟩
      ·rw [if_neg c5] at H
       have c5b0:decide (5<(rd l0 x3_1))=false:=decide_eq_false c5
       clear c5
       by_cases c6:x3_1 > 0
       ·rw [if_pos c6] at H
        have c6b0:decide (0<x3_1)=true:=decide_eq_true c6
        clear c6
        obtain ⟨ji7,hji7⟩:∃ j_:Int,(wrap64 (x3_1 - 1))=j_:=⟨_,rfl⟩
        replace H:(if 0≤(ji7) then (if (ji7)<(l0.length:Int) then (if (rd l0 x3_1)≤(rd l0 (ji7)) then (some false) else (stratumref07_SoundNodes.l0 k1 l0 (wrap64 (x3_1+1)))) else (none)) else (none))=some r:=by first | (rw [hji7] at H;exact H) | (simp only [hji7] at H ⊢;exact H)
        have hji7w:(IntKind.i64.wrap (x3_1 - 1))=ji7:=(iO _).trans hji7
        by_cases c8:0≤(ji7)
        ·rw [if_pos c8] at H
         have c8b0:decide (0≤(ji7))=true:=decide_eq_true c8
         clear c8
         by_cases c9:(ji7)<(l0.length:Int)
         ·rw [if_pos c9] at H
          have c9b0:decide ((ji7)<(l0.length:Int))=true:=decide_eq_true c9
          clear c9
          by_cases c10:(rd l0 x3_1)≤(rd l0 (ji7))
          ·rw [if_pos c10] at H
           have c10b0:decide ((rd l0 x3_1)≤(rd l0 (ji7)))=true:=decide_eq_true c10
           clear c10
           obtain rfl:=Option.some.inj H
           have p145:0≤(x3_1:Int):=of_decide_eq_true asm_
           have q145:x3_1<(l0.length:Int):=of_decide_eq_true asm_
           obtain ⟨ad145,e145,hx145_0⟩:=Kd.at_int HR0.out x3_1 p145 q145
           cases e145
           replace p145:=eq_true p145
           replace q145:=eq_true q145
           have p146:0≤(x3_1:Int):=of_decide_eq_true asm_
           have q146:x3_1<(l0.length:Int):=of_decide_eq_true asm_
           obtain ⟨ad146,e146,hx146_0⟩:=Kd.at_int HR0.out x3_1 p146 q146
           obtain rfl:ad145=ad146:=(by injection e146)
           replace p146:=eq_true p146
           replace q146:=eq_true q146
           have p147:0≤(x3_1:Int):=of_decide_eq_true asm_
           have q147:x3_1<(l0.length:Int):=of_decide_eq_true asm_
           obtain ⟨ad147,e147,hx147_0⟩:=Kd.at_int HR0.out x3_1 p147 q147
           obtain rfl:ad145=ad147:=(by injection e147)
           replace p147:=eq_true p147
           replace q147:=eq_true q147
           have p148:0≤((ji7):Int):=of_decide_eq_true asm_
           have q148:(ji7)<(l0.length:Int):=of_decide_eq_true asm_
           obtain ⟨ad148,e148,hx148_0⟩:=Kd.at_int HR0.out (ji7) p148 q148
           obtain rfl:ad145=ad148:=(by injection e148)
           replace p148:=eq_true p148
           replace q148:=eq_true q148
           go_wp2
           repeat (go_quiet (fail);try go_wp2)
           go_ret
           exact ⟨by first | rfl | (simp;done) | (simp only [← hji7] <;> (first | rfl | simp)) | (simp [*];done),by repeat (first | exact jD.refl _ | apply jD.step)⟩
          ·rw [if_neg c10] at H
           have c10b0:decide ((rd l0 x3_1)≤(rd l0 (ji7)))=false:=decide_eq_false c10
           clear c10
           have H':=iC.mk H
           clear H
           have p145:0≤(x3_1:Int):=of_decide_eq_true asm_
           have q145:x3_1<(l0.length:Int):=of_decide_eq_true asm_
           obtain ⟨ad145,e145,hx145_0⟩:=Kd.at_int HR0.out x3_1 p145 q145
           cases e145
           replace p145:=eq_true p145
           replace q145:=eq_true q145
           have p146:0≤(x3_1:Int):=of_decide_eq_true asm_
           have q146:x3_1<(l0.length:Int):=of_decide_eq_true asm_
           obtain ⟨ad146,e146,hx146_0⟩:=Kd.at_int HR0.out x3_1 p146 q146
           obtain rfl:ad145=ad146:=(by injection e146)
           replace p146:=eq_true p146
           replace q146:=eq_true q146
           have p147:0≤(x3_1:Int):=of_decide_eq_true asm_
           have q147:x3_1<(l0.length:Int):=of_decide_eq_true asm_
           obtain ⟨ad147,e147,hx147_0⟩:=Kd.at_int HR0.out x3_1 p147 q147
           obtain rfl:ad145=ad147:=(by injection e147)
           replace p147:=eq_true p147
           replace q147:=eq_true q147
           have p148:0≤((ji7):Int):=of_decide_eq_true asm_
           have q148:(ji7)<(l0.length:Int):=of_decide_eq_true asm_
           obtain ⟨ad148,e148,hx148_0⟩:=Kd.at_int HR0.out (ji7) p148 q148
           obtain rfl:ad145=ad148:=(by injection e148)
           replace p148:=eq_true p148
           replace q148:=eq_true q148
           go_wp2
           repeat (go_quiet (fail);try go_wp2)
           go_roundg k1
           case measure=>have:=HK1.out;omega
           case rel=>exact ⟨(wrap64 (x3_1+1)),(by first | rfl | (simp;done) | (simp [*];done)),H',⟨by have:=HK1.out;omega⟩,by repeat (first | exact jD.refl _ | apply jD.step)⟩
         ·rw [if_neg c9] at H
          exact absurd H (by simp)
        ·rw [if_neg c8] at H
         exact absurd H (by simp)
       ·rw [if_neg c6] at H
        have c6b0:decide (0<x3_1)=false:=decide_eq_false c6
        clear c6
        have H':=iC.mk H
        clear H
        have p145:0≤(x3_1:Int):=of_decide_eq_true asm_
        have q145:x3_1<(l0.length:Int):=of_decide_eq_true asm_
        obtain ⟨ad145,e145,hx145_0⟩:=Kd.at_int HR0.out x3_1 p145 q145
        cases e145
        replace p145:=eq_true p145
        replace q145:=eq_true q145
        have p146:0≤(x3_1:Int):=of_decide_eq_true asm_
        have q146:x3_1<(l0.length:Int):=of_decide_eq_true asm_
        obtain ⟨ad146,e146,hx146_0⟩:=Kd.at_int HR0.out x3_1 p146 q146
        obtain rfl:ad145=ad146:=(by injection e146)
        replace p146:=eq_true p146
        replace q146:=eq_true q146
        go_wp2
        repeat (go_quiet (fail);try go_wp2)
        go_roundg k1
        case measure=>have:=HK1.out;omega
        case rel=>exact ⟨(wrap64 (x3_1+1)),(by first | rfl | (simp;done) | (simp [*];done)),H',⟨by have:=HK1.out;omega⟩,by repeat (first | exact jD.refl _ | apply jD.step)⟩
    ·rw [if_neg c3] at H
     exact absurd H (by simp)
   ·rw [if_neg c2] at H
    have c2b0:decide (x3_1<(l0.length:Int))=false:=decide_eq_false c2
    clear c2
    obtain rfl:=Option.some.inj H
    go_wp2
    repeat (go_quiet (fail);try go_wp2)
    go_ret
    exact ⟨by first | rfl | (simp;done) | (simp [*];done),by repeat (first | exact jD.refl _ | apply jD.step)⟩
end
end Go.Proofs.YtgfkgppomaapiaaGreatDoor.K
section
namespace Go.Proofs.YtgfkgppomaapiaaGreatDoor.K
open Go.RowKit Go.Proofs.YtgfkgppomaapiaaGreatDoorW.PrintWords Go.Proofs.YtgfkgppomaapiaaGreatDoorW.PrintLast Go.Proofs.YtgfkgppomaapiaaGreatDoorW.PrintMore
attribute [local go_sem] kL kH kZ lC
mutual
def stratumref07_SoundFacts.l0:Nat→List (S149)→Int→Option (Bool)
 | 0,_,_=>none
 | k+1,x0,x3=>if x3<(x0.length:Int) then (stratumref07_SoundFacts.l1 k x0 x3 0) else (some (decide ((x0.length:Int)≤200)))
def stratumref07_SoundFacts.l1:Nat→List (S149)→Int→Int→Option (Bool)
 | 0,_,_,_=>none
 | k+1,x0,x3,x4=>if 0≤x3 then (if x3<(x0.length:Int) then (if x4<(((iR x0 x3).f0).length:Int) then (if 0≤x4 then (if (rd ((iR x0 x3).f0) x4)<0 then (some false) else (if (rd ((iR x0 x3).f0) x4) > 9999 then (some false) else (stratumref07_SoundFacts.l1 k x0 x3 (wrap64 (x4+1))))) else (none)) else (if (((iR x0 x3).f0).length:Int) > 4 then (some false) else (stratumref07_SoundFacts.l0 k x0 (wrap64 (x3+1))))) else (none)) else (none)
end
def stratumref07_SoundFacts.f (k:Nat) (l0:List (S149)):Option (Bool):=stratumref07_SoundFacts.l0 k l0 0
set_option maxHeartbeats 8000000 in
set_option maxRecDepth 100000 in
theorem stratumref07_SoundFacts.calls (k:Nat) (A0:Option Addr) (c0:Nat) (l0:List (S149)) (r:Bool) (w:World) (hr0:Kd.C k149 w A0 l0.length l0) (hc0:l0.length≤c0) (h:stratumref07_SoundFacts.f k l0=some r) :
  Calls Tryz.prog 103 #[.slice A0 l0.length c0] w fun e w'=>e=.returned (.bool r)∧jD w w':=by
 have HR0:=iC.mk hr0
 have HC0:=iC.mk hc0
 clear hr0 hc0
 have H:(stratumref07_SoundFacts.l0 k l0 0)=some r:=h
 clear h
 have H':=iC.mk H
 clear H
 go_enter Tryz.func103,Tryz.ntmps103
 go_wp2
 go_loopg [3] k (fun kq v3 w'=>∃ (x3_1:Int),v3=.int .i64 x3_1∧iC (stratumref07_SoundFacts.l0 kq l0 x3_1=some r)∧iC (kq≤k)∧jD w w')
 case atStart=>exact ⟨(0),(by first | rfl | (simp;done) | (simp [*];done)),H',⟨Nat.le_refl _⟩,by repeat (first | exact jD.refl _ | apply jD.step)⟩
 case round =>
  clear H'
  try clear c1
  obtain ⟨x3_1,rfl,HA,HK1,⟨m1,rfl⟩⟩:=hrel
  cases gk with
  | zero=>exact absurd HA.out (by simp [stratumref07_SoundFacts.l0])
  | succ k1 =>
   have H:=HA.out
   clear HA
   simp only [stratumref07_SoundFacts.l0] at H
   by_cases c2:x3_1<(l0.length:Int)
   ·rw [if_pos c2] at H
    have c2b0:decide (x3_1<(l0.length:Int))=true:=decide_eq_true c2
    clear c2
    have H':=iC.mk H
    clear H
    go_wp2
    go_loopg [4] k1 (fun kq v4 w'=>∃ (x4_2:Int),v4=.int .i64 x4_2∧iC (stratumref07_SoundFacts.l1 kq l0 x3_1 x4_2=some r)∧iC (kq≤k1)∧jD w w')
    case atStart=>exact ⟨(0),(by first | rfl | (simp;done) | (simp [*];done)),H',⟨Nat.le_refl _⟩,by repeat (first | exact jD.refl _ | apply jD.step)⟩
    case round =>
     clear H'
     try clear c1
     try clear c2
     try clear c2b0
     try clear p2
     obtain ⟨x4_2,rfl,HA,HK2,⟨m2,rfl⟩⟩:=hrel
     cases gk with
     | zero=>exact absurd HA.out (by simp [stratumref07_SoundFacts.l1])
     | succ k2 =>
      have H:=HA.out
      clear HA
      simp only [stratumref07_SoundFacts.l1] at H
      by_cases c3:0≤x3_1
      ·rw [if_pos c3] at H
       have c3b0:decide (0≤x3_1)=true:=decide_eq_true c3
       clear c3
       by_cases c4:x3_1<(l0.length:Int)
       ·rw [if_pos c4] at H
        have c4b0:decide (x3_1<(l0.length:Int))=true:=decide_eq_true c4
        clear c4
        by_cases c5:x4_2<(((iR l0 x3_1).f0).length:Int)
        ·rw [if_pos c5] at H
         have c5b0:decide (x4_2<(((iR l0 x3_1).f0).length:Int))=true:=decide_eq_true c5
         clear c5
         by_cases c6:0≤x4_2
         ·rw [if_pos c6] at H
          have c6b0:decide (0≤x4_2)=true:=decide_eq_true c6
          clear c6
          by_cases c7:(rd ((iR l0 x3_1).f0) x4_2)<0
          ·rw [if_pos c7] at H
           have c7b0:decide ((rd ((iR l0 x3_1).f0) x4_2)<0)=true:=decide_eq_true c7
           clear c7
           obtain rfl:=Option.some.inj H
           have p149:0≤(x3_1:Int):=of_decide_eq_true asm_
           have q149:x3_1<(l0.length:Int):=of_decide_eq_true asm_
           obtain ⟨ad149,A149_0,c149_0,e149,hx149_0,hx149_1,hl149_0,hi149_0⟩:=kU HR0.out x3_1 p149 q149
           cases e149
           have HR149_0:=iC.mk hi149_0
           have HC149_0:=iC.mk hl149_0
           clear hi149_0 hl149_0
           replace p149:=eq_true p149
           replace q149:=eq_true q149
           have p150:0≤(x3_1:Int):=of_decide_eq_true asm_
           have q150:x3_1<(l0.length:Int):=of_decide_eq_true asm_
           obtain ⟨ad150,A150_0,c150_0,e150,hx150_0,hx150_1,hl150_0,hi150_0⟩:=kU HR0.out x3_1 p150 q150
           obtain rfl:ad149=ad150:=(by injection e150)
           have HR150_0:=iC.mk hi150_0
           have HC150_0:=iC.mk hl150_0
           clear hi150_0 hl150_0
           replace p150:=eq_true p150
           replace q150:=eq_true q150
           have ea_:=Option.some.inj (hx149_0.symm.trans hx150_0)
           injection ea_ with ea_ en_ ec_
           subst ea_
           subst ec_
           clear en_
           have p151:0≤(x4_2:Int):=of_decide_eq_true asm_
           have q151:x4_2<(((iR l0 x3_1).f0).length:Int):=of_decide_eq_true asm_
           obtain ⟨ad151,e151,hx151_0⟩:=Kd.at_int HR150_0.out x4_2 p151 q151
           cases e151
           replace p151:=eq_true p151
           replace q151:=eq_true q151
           go_wp2
           go_ret
           exact ⟨by first | rfl | (simp;done) | (simp [*];done),by repeat (first | exact jD.refl _ | apply jD.step)⟩
          ·rw [if_neg c7] at H
           have c7b0:decide ((rd ((iR l0 x3_1).f0) x4_2)<0)=false:=decide_eq_false c7
           clear c7
           by_cases c8:(rd ((iR l0 x3_1).f0) x4_2) > 9999
           ·rw [if_pos c8] at H
            have c8b0:decide (9999<(rd ((iR l0 x3_1).f0) x4_2))=true:=decide_eq_true c8
            clear c8
            obtain rfl:=Option.some.inj H
            have p149:0≤(x3_1:Int):=of_decide_eq_true asm_
            have q149:x3_1<(l0.length:Int):=of_decide_eq_true asm_
            obtain ⟨ad149,A149_0,c149_0,e149,hx149_0,hx149_1,hl149_0,hi149_0⟩:=kU HR0.out x3_1 p149 q149
            cases e149
            have HR149_0:=iC.mk hi149_0
            have HC149_0:=iC.mk hl149_0
            clear hi149_0 hl149_0
            replace p149:=eq_true p149
            replace q149:=eq_true q149
            have p150:0≤(x3_1:Int):=of_decide_eq_true asm_
            have q150:x3_1<(l0.length:Int):=of_decide_eq_true asm_
            obtain ⟨ad150,A150_0,c150_0,e150,hx150_0,hx150_1,hl150_0,hi150_0⟩:=kU HR0.out x3_1 p150 q150
            obtain rfl:ad149=ad150:=(by injection e150)
            have HR150_0:=iC.mk hi150_0
            have HC150_0:=iC.mk hl150_0
            clear hi150_0 hl150_0
            replace p150:=eq_true p150
            replace q150:=eq_true q150
            have ea_:=Option.some.inj (hx149_0.symm.trans hx150_0)
            injection ea_ with ea_ en_ ec_
            subst ea_
            subst ec_
            clear en_
            have p151:0≤(x4_2:Int):=of_decide_eq_true asm_
            have q151:x4_2<(((iR l0 x3_1).f0).length:Int):=of_decide_eq_true asm_
            obtain ⟨ad151,e151,hx151_0⟩:=Kd.at_int HR150_0.out x4_2 p151 q151
            cases e151
            replace p151:=eq_true p151
            replace q151:=eq_true q151
            have p152:0≤(x3_1:Int):=of_decide_eq_true asm_
            have q152:x3_1<(l0.length:Int):=of_decide_eq_true asm_
            obtain ⟨ad152,A152_0,c152_0,e152,hx152_0,hx152_1,hl152_0,hi152_0⟩:=kU HR0.out x3_1 p152 q152
            obtain rfl:ad149=ad152:=(by injection e152)
            have HR152_0:=iC.mk hi152_0
            have HC152_0:=iC.mk hl152_0
            clear hi152_0 hl152_0
            replace p152:=eq_true p152
            replace q152:=eq_true q152
            have ea_:=Option.some.inj (hx149_0.symm.trans hx152_0)
            injection ea_ with ea_ en_ ec_
            subst ea_
            subst ec_
            clear en_
            have p153:0≤(x4_2:Int):=of_decide_eq_true asm_
            have q153:x4_2<(((iR l0 x3_1).f0).length:Int):=of_decide_eq_true asm_
            obtain ⟨ad153,e153,hx153_0⟩:=Kd.at_int HR152_0.out x4_2 p153 q153
            cases e153
            replace p153:=eq_true p153
            replace q153:=eq_true q153
            go_wp2
            go_ret
            exact ⟨by first | rfl | (simp;done) | (simp [*];done),by repeat (first | exact jD.refl _ | apply jD.step)⟩
           ·rw [if_neg c8] at H
            have c8b0:decide (9999<(rd ((iR l0 x3_1).f0) x4_2))=false:=decide_eq_false c8
            clear c8
            have H':=iC.mk H
            clear H
            have p149:0≤(x3_1:Int):=of_decide_eq_true asm_
            have q149:x3_1<(l0.length:Int):=of_decide_eq_true asm_
            obtain ⟨ad149,A149_0,c149_0,e149,hx149_0,hx149_1,hl149_0,hi149_0⟩:=kU HR0.out x3_1 p149 q149
            cases e149
            have HR149_0:=iC.mk hi149_0
            have HC149_0:=iC.mk hl149_0
            clear hi149_0 hl149_0
            replace p149:=eq_true p149
            replace q149:=eq_true q149
            have p150:0≤(x3_1:Int):=of_decide_eq_true asm_
            have q150:x3_1<(l0.length:Int):=of_decide_eq_true asm_
            obtain ⟨ad150,A150_0,c150_0,e150,hx150_0,hx150_1,hl150_0,hi150_0⟩:=kU HR0.out x3_1 p150 q150
            obtain rfl:ad149=ad150:=(by injection e150)
            have HR150_0:=iC.mk hi150_0
            have HC150_0:=iC.mk hl150_0
            clear hi150_0 hl150_0
            replace p150:=eq_true p150
            replace q150:=eq_true q150
            have ea_:=Option.some.inj (hx149_0.symm.trans hx150_0)
            injection ea_ with ea_ en_ ec_
            subst ea_
            subst ec_
            clear en_
            have p151:0≤(x4_2:Int):=of_decide_eq_true asm_
            have q151:x4_2<(((iR l0 x3_1).f0).length:Int):=of_decide_eq_true asm_
            obtain ⟨ad151,e151,hx151_0⟩:=Kd.at_int HR150_0.out x4_2 p151 q151
            cases e151
            replace p151:=eq_true p151
            replace q151:=eq_true q151
            have p152:0≤(x3_1:Int):=of_decide_eq_true asm_
            have q152:x3_1<(l0.length:Int):=of_decide_eq_true asm_
            obtain ⟨ad152,A152_0,c152_0,e152,hx152_0,hx152_1,hl152_0,hi152_0⟩:=kU HR0.out x3_1 p152 q152
            obtain rfl:ad149=ad152:=(by injection e152)
            have HR152_0:=iC.mk hi152_0
            have HC152_0:=iC.mk hl152_0
            clear hi152_0 hl152_0
            replace p152:=eq_true p152
            replace q152:=eq_true q152
            have ea_:=Option.some.inj (hx149_0.symm.trans hx152_0)
            injection ea_ with ea_ en_ ec_
            subst ea_
            subst ec_
            clear en_
            have p153:0≤(x4_2:Int):=of_decide_eq_true asm_
            have q153:x4_2<(((iR l0 x3_1).f0).length:Int):=of_decide_eq_true asm_
            obtain ⟨ad153,e153,hx153_0⟩:=Kd.at_int HR152_0.out x4_2 p153 q153
            cases e153
            replace p153:=eq_true p153
            replace q153:=eq_true q153
            go_wp2
            go_roundg k2
            case measure=>have:=HK1.out;have:=HK2.out;omega
            case rel=>exact ⟨(wrap64 (x4_2+1)),(by first | rfl | (simp;done) | (simp [*];done)),H',⟨by have:=HK1.out;have:=HK2.out;omega⟩,by repeat (first | exact jD.refl _ | apply jD.step)⟩
         ·rw [if_neg c6] at H
          exact absurd H (by simp)
        ·rw [if_neg c5] at H
         have c5b0:decide (x4_2<(((iR l0 x3_1).f0).length:Int))=false:=decide_eq_false c5
         clear c5
         by_cases c9:(((iR l0 x3_1).f0).length:Int) > 4
         ·rw [if_pos c9] at H
          have c9b0:decide (4<(((iR l0 x3_1).f0).length:Int))=true:=decide_eq_true c9
          have c9b1:decide (4<((iR l0 x3_1).f0).length)=true:=decide_eq_true (by omega)
          clear c9
          obtain rfl:=Option.some.inj H
          have p149:0≤(x3_1:Int):=of_decide_eq_true asm_
          have q149:x3_1<(l0.length:Int):=of_decide_eq_true asm_
          obtain ⟨ad149,A149_0,c149_0,e149,hx149_0,hx149_1,hl149_0,hi149_0⟩:=kU HR0.out x3_1 p149 q149
          cases e149
          have HR149_0:=iC.mk hi149_0
          have HC149_0:=iC.mk hl149_0
          clear hi149_0 hl149_0
          replace p149:=eq_true p149
          replace q149:=eq_true q149
          have p154:0≤(x3_1:Int):=of_decide_eq_true asm_
          have q154:x3_1<(l0.length:Int):=of_decide_eq_true asm_
          obtain ⟨ad154,A154_0,c154_0,e154,hx154_0,hx154_1,hl154_0,hi154_0⟩:=kU HR0.out x3_1 p154 q154
          obtain rfl:ad149=ad154:=(by injection e154)
          have HR154_0:=iC.mk hi154_0
          have HC154_0:=iC.mk hl154_0
          clear hi154_0 hl154_0
          replace p154:=eq_true p154
          replace q154:=eq_true q154
          have ea_:=Option.some.inj (hx149_0.symm.trans hx154_0)
          injection ea_ with ea_ en_ ec_
          subst ea_
          subst ec_
          clear en_
          go_wp2
          go_ret
          exact ⟨by first | rfl | (simp;done) | (simp [*];done),by repeat (first | exact jD.refl _ | apply jD.step)⟩
         ·rw [if_neg c9] at H
          have c9b0:decide (4<(((iR l0 x3_1).f0).length:Int))=false:=decide_eq_false c9
          have c9b1:decide (4<((iR l0 x3_1).f0).length)=false:=decide_eq_false (by omega)
          clear c9
          have H':=iC.mk H
          clear H
          have p149:0≤(x3_1:Int):=of_decide_eq_true asm_
          have q149:x3_1<(l0.length:Int):=of_decide_eq_true asm_
          obtain ⟨ad149,A149_0,c149_0,e149,hx149_0,hx149_1,hl149_0,hi149_0⟩:=kU HR0.out x3_1 p149 q149
          cases e149
          have HR149_0:=iC.mk hi149_0
          have HC149_0:=iC.mk hl149_0
          clear hi149_0 hl149_0
          replace p149:=eq_true p149
          replace q149:=eq_true q149
          have p154:0≤(x3_1:Int):=of_decide_eq_true asm_
          have q154:x3_1<(l0.length:Int):=of_decide_eq_true asm_
          obtain ⟨ad154,A154_0,c154_0,e154,hx154_0,hx154_1,hl154_0,hi154_0⟩:=kU HR0.out x3_1 p154 q154
          obtain rfl:ad149=ad154:=(by injection e154)
          have HR154_0:=iC.mk hi154_0
          have HC154_0:=iC.mk hl154_0
          clear hi154_0 hl154_0
          replace p154:=eq_true p154
          replace q154:=eq_true q154
          have ea_:=Option.some.inj (hx149_0.symm.trans hx154_0)
          injection ea_ with ea_ en_ ec_
          subst ea_
          subst ec_
          clear en_
          go_wp2
          go_roundg k2
          case measure=>have:=HK1.out;have:=HK2.out;omega
          case rel=>exact ⟨(wrap64 (x3_1+1)),(by first | rfl | (simp;done) | (simp [*];done)),H',⟨by have:=HK1.out;have:=HK2.out;omega⟩,by repeat (first | exact jD.refl _ | apply jD.step)⟩
       ·rw [if_neg c4] at H
        exact absurd H (by simp)
      ·rw [if_neg c3] at H
       exact absurd H (by simp)
   ·rw [if_neg c2] at H
    have c2b0:decide (x3_1<(l0.length:Int))=false:=decide_eq_false c2
    clear c2
    obtain rfl:=Option.some.inj H
    go_wp2
    go_ret
    exact ⟨by first | rfl | (simp;done) | (simp [*];done),by repeat (first | exact jD.refl _ | apply jD.step)⟩
end Go.Proofs.YtgfkgppomaapiaaGreatDoor.K
end
