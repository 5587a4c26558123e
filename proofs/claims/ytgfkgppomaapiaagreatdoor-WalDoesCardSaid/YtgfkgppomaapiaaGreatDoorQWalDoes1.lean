/- Parts of the proof, one behind the other: WWords, WLast, WApart, WArr, WZeros, WFoot, WKept, WShare, WN, WMore, WTab, WEqStruct, WInv, WInvWords, WGuard. -/
import Derived.Below
import Derived.Deep.Draws
import Derived.Deep.AppendLies
import Derived.Maps.AppendAt
import Derived.OwnWalk
import Derived.Laws.BytesArg
import Derived.Laws.MakeOwn
import Derived.Laws.OwnMore
import Derived.Deep.OwnRows
import Derived.Tactics
import Derived.Lib.ConvBytes
import Derived.Laws.Slices
import Derived.WalkKit
import Derived.KernelRfl
import Derived.RowKit3
import Derived.Deep.LoopGhost
import Derived.Deep.QuietTactic
import Derived.BigQuiet
import Derived.WideLaws
import Derived.Deep.DeepCutAuto
import Derived.Deep.CutBlock
import Derived.Deep.RegionHeld3
import Derived.Laws.Rows
import Derived.Lib.AppendStr
import Derived.ArgAppend
import Derived.Laws.IdiomCopy
import Derived.RowKit
import Derived.OrdersHeld
import Derived.Laws.BitsLemmas
import Derived.Laws.StructEq
set_option linter.unusedVariables false
set_option linter.unusedSimpArgs false
section
namespace Go.Proofs.YtgfkgppomaapiaaGreatDoorW.PrintWords
open Go.RowKit
structure iC (p:Prop):Prop where mk :: (out:p)
structure jD (w w':World):Prop where mk :: (out:∃ n,w'=w.drewN n)
theorem jD.refl (w:World):jD w w:=⟨⟨0,rfl⟩⟩
theorem jD.step {w w':World} (h:jD w w') (n:Nat):jD w (w'.drewN n):=by
 obtain ⟨m,rfl⟩:=h
 exact ⟨⟨m+n,World.drewN_drewN ..⟩⟩
theorem jD.below {w w':World} (h:jD w w'):Below w.heap.size w w':=by
 obtain ⟨n,rfl⟩:=h
 induction n with
 | zero=>exact Below.refl _ _
 | succ n ih=>rw [← World.drew_drewN];exact ih.drew
def rd (xs:List Int) (i:Int):Int:=xs.getD i.toNat 0
def nums (k:IntKind) (xs:List Int):List Value:=xs.map fun x=>.int k x
theorem nums_append (k:IntKind) (xs ys:List Int):nums k (xs ++ ys)=nums k xs ++ nums k ys:=by simp [nums]
theorem iD {w W:World} (h:Below w.heap.size w W) (o:Obj):Below w.heap.size w (W.alloc o):=h.alloc h.size o
theorem iW {B:Nat} {w W:World} (h:Below B w W):Below B w W.drew:=⟨h.os,h.tape,h.output,h.size,h.block⟩
theorem iF {B:Nat} {w W:World} (h:Below B w W) (n:Nat):Below B w (W.drewN n):=⟨h.os,h.tape,h.output,h.size,h.block⟩
theorem VL {B:Nat} {w w1 w2:World} (h:Below B w w1) (hB:B≤w1.heap.size) (k:Below w1.heap.size w1 w2):Below B w w2 :=
 h.trans ⟨k.os,k.tape,k.output,k.size,fun i hi=>k.block i (Nat.lt_of_lt_of_le hi hB)⟩
theorem kE {w w1:World} (h:Below w.heap.size w w1) {a:Addr} {v:Value} (hc:w.cell? a=some v):w1.cell? a=some v:=(h.cell (World.block_lt_of_cell? w a hc)).trans hc
theorem add_plain (g j:Nat):(⟨g,0,none⟩:Addr).add j=⟨g,j,none⟩:=by unfold Addr.add;split <;> simp_all
def TS (w:World) (k:IntKind) (A:Option Addr) (n:Nat) (xs:List Int):Prop :=
 xs.length=n∧n≤9223372036854775807∧(0<n→∃ ad,A=some ad∧∀ j,j<n→w.cell? (ad.add j)=some (.int k (xs.getD j 0)))
theorem ji4 (W:World) (base:Nat) (e:TypeId) (size:Nat):W.ownsRow base e size (.slice none 0 0) 0 []:=⟨by simp,.inl ⟨rfl,rfl⟩⟩
theorem own_base {w:World} {base:Nat} {e:TypeId} {size n:Nat} {v:Value} {xs:List Value} (h:w.ownsRow base e size v n xs) (k:Nat) (hk:v.ownBlock=some k):base≤k:=by
 rcases h.2 with ⟨rfl,_⟩ | ⟨g,cap,cur,rfl,hb,_⟩
 ·simp [Value.ownBlock] at hk
 ·have:g=k:=by simpa [Value.ownBlock] using hk
  omega
theorem YS {w:World} {base:Nat} {e:TypeId} {size n:Nat} {v:Value} {xs:List Value} (h:w.ownsRow base e size v n xs) (k:Nat) (hk:v.ownBlock=some k):k<w.heap.size:=by
 rcases h.2 with ⟨rfl,_⟩ | ⟨g,cap,cur,rfl,hb,hh,_⟩
 ·simp [Value.ownBlock] at hk
 ·have:g=k:=by simpa [Value.ownBlock] using hk
  subst this
  exact (Array.getElem?_eq_some_iff.1 hh).1
theorem WJ {w:World} {base n:Nat} {e:TypeId} {size:Nat} {v:Value} {xs:List Value} (h:w.ownsRow base e size v n xs):∃ A c,v=.slice A n c:=by
 rcases h.2 with ⟨rfl,rfl⟩ | ⟨g,cap,cur,rfl,_⟩
 ·exact ⟨none,0,rfl⟩
 ·exact ⟨_,cap,rfl⟩
theorem lT {P:Program} {w:World} {base n:Nat} {e' src dst e:TypeId} {v:Value} {xs:List Int} (hs:P.underlying src=some (.slice e)) (he:P.underlying e=some (.int .u8)) (hd:P.underlying dst=some .string)
  (h:w.ownsRow base e' 1 v n (nums .u8 xs)):(convert src dst v).run P w=.ok (.string (strOfNums xs)) w:=by
 have hl:xs.length=n:=by have:=h.1;simp [nums] at this;exact this
 rcases h.2 with ⟨rfl,rfl⟩ | ⟨g,cap,cur,rfl,_⟩
 ·obtain rfl:xs=[]:=List.eq_nil_of_length_eq_zero hl
  exact run_convert_bytes_nil w src e hs he 0 0 dst hd
 ·refine run_convert_bytes_arg w src e hs he g 0 n cap xs hl (fun i hi=>?_) dst hd
  have hc:=h.cells (g:=g) rfl i (.int .u8 (xs.getD i 0)) (by simp [nums,List.getElem?_eq_getElem (show i<xs.length by omega),List.getD_eq_getElem?_getD])
  have ha:(⟨g,0,none⟩:Addr).add i=⟨g,0+i,none⟩:=by unfold Addr.add;split <;> simp_all
  rwa [ha] at hc
section
variable {P:Program} {ops:Array Oper} {rest:List Oper} {o:Oper} {a:Act} {Q:Exit→Act→World→Prop}
end
section
variable {P:Program}
end
section
variable {P:Program} {ops:Array Oper} {rest:List Oper} {o:Oper} {a:Act} {Q:Exit→Act→World→Prop}
end
def bytesOf (s:ByteArray):List Int:=s.data.toList.map fun b=>(b.toNat:Int)
def Reps {α:Type} (R:α→List Value→Prop) (size:Nat) (ps:List α) (cs:List Value):Prop :=
 cs.length=ps.length * size∧∀ j p,ps[j]? = some p→R p ((cs.drop (j * size)).take size)
theorem Reps.none {α:Type} (R:α→List Value→Prop) (size:Nat):Reps R size [] []:=⟨by simp,fun j p h=>by simp at h⟩
theorem Reps.snoc {α:Type} {R:α→List Value→Prop} {size:Nat} {ps:List α} {cs c:List Value} {p:α} (h:Reps R size ps cs) (hp:R p c) (hc:c.length=size):Reps R size (ps ++ [p]) (cs ++ c):=by
 refine ⟨by rw [List.length_append,h.1,hc,List.length_append,List.length_singleton,Nat.add_mul,Nat.one_mul],fun j q hq=>?_⟩
 rcases Nat.lt_or_ge j ps.length with hj | hj
 ·rw [List.getElem?_append_left hj] at hq
  have h1:j * size+size≤cs.length:=by rw [h.1,← Nat.succ_mul];exact Nat.mul_le_mul_right _ hj
  have h2:=h.2 j q hq
  rw [List.drop_append_of_le_length (by omega),List.take_append_of_le_length (by rw [List.length_drop];omega)]
  exact h2
 ·have hj':j=ps.length:=by
   have:=(List.getElem?_eq_some_iff.1 hq).1
   rw [List.length_append,List.length_singleton] at this
   omega
  subst hj'
  have hq':p=q:=by simpa using hq
  subst hq'
  rw [← h.1,List.drop_left,← hc,List.take_length]
  exact hp
theorem Reps.imp_ {α:Type} {R R':α→List Value→Prop} {size:Nat} {ps:List α} {cs:List Value} (h:Reps R size ps cs) (hR:∀ p c,R p c→R' p c):Reps R' size ps cs:=⟨h.1,fun j p hj=>hR _ _ (h.2 j p hj)⟩
def mW {α:Type} (R:α→List Value→Prop) (size:Nat) (w:World) (A:Option Addr) (n:Nat) (ps:List α):Prop :=
 ps.length=n∧n≤9223372036854775807∧(0<n→∃ ad,A=some ad∧∀ j p,ps[j]? = some p→∃ c,c.length=size∧R p c∧∀ i u,c[i]? = some u→w.cell? (ad.add (j * size+i))=some u)
theorem mW.get_ {α:Type} {R:α→List Value→Prop} {size:Nat} {w:World} {A:Option Addr} {n:Nat} {ps:List α} (h:mW R size w A n ps) (d:α) (i:Int) (h0:0≤i) (h1:i<n) :
  ∃ ad c,A=some ad∧c.length=size∧R (ps.getD i.toNat d) c∧∀ j u,c[j]? = some u→w.cell? (ad.add (i.toNat * size+j))=some u:=by
 obtain ⟨ad,e,hc⟩:=h.2.2 (by omega)
 have hl:i.toNat<ps.length:=by have:=h.1;omega
 obtain ⟨c,hs,hr,hcell⟩:=hc i.toNat _ (List.getElem?_eq_getElem hl)
 refine ⟨ad,c,e,hs,?_,hcell⟩
 rw [List.getD_eq_getElem?_getD,List.getElem?_eq_getElem hl]
 exact hr
theorem mW.imp_ {α:Type} {R R':α→List Value→Prop} {size:Nat} {w w1:World} {A:Option Addr} {n:Nat} {ps:List α} (h:mW R size w A n ps) (hb:Below w.heap.size w w1) (hR:∀ p c,R p c→R' p c):mW R' size w1 A n ps :=
 ⟨h.1,h.2.1,fun hn=>by
  obtain ⟨ad,e,hc⟩:=h.2.2 hn
  refine ⟨ad,e,fun j p hj=>?_⟩
  obtain ⟨c,hs,hr,hcell⟩:=hc j p hj
  exact ⟨c,hs,hR _ _ hr,fun i u hu=>kE hb (hcell i u hu)⟩⟩
theorem MW {α:Type} {R:α→List Value→Prop} {w:World} {base n size:Nat} {e:TypeId} {v:Value} {ps:List α} {cs:List Value} (h:w.ownsRow base e size v n cs) (hR:Reps R size ps cs) (hn:ps.length=n) :
  ∃ A c,v=.slice A n c∧mW R size w A n ps:=by
 rcases Nat.eq_zero_or_pos n with h0 | h0
 ·rcases h.2 with ⟨rfl,rfl⟩ | ⟨g,cap,cur,rfl,_⟩
  ·exact ⟨none,0,rfl,hn,by omega,fun hp=>absurd hp (by omega)⟩
  ·exact ⟨_,cap,rfl,hn,by omega,fun hp=>absurd hp (by omega)⟩
 ·obtain ⟨g,cap,rfl,_,_⟩:=h.form h0
  have hm:n≤9223372036854775807:=by
   rcases h.2 with ⟨_,h1⟩ | ⟨g',cap',cur,he,_,_,h1,h2,_⟩
   ·omega
   ·simp only [maxLen] at h2
    omega
  refine ⟨_,cap,rfl,hn,hm,fun _=>⟨_,rfl,fun j p hj=>⟨(cs.drop (j * size)).take size,?_,hR.2 j p hj,fun i u hu=>?_⟩⟩⟩
  ·have hjl:=(List.getElem?_eq_some_iff.1 hj).1
   have h1:j * size+size≤cs.length:=by rw [hR.1,← Nat.succ_mul];exact Nat.mul_le_mul_right _ hjl
   rw [List.length_take,List.length_drop]
   omega
  ·refine h.cells (g:=g) rfl _ u ?_
   rw [List.getElem?_take] at hu
   split at hu
   ·rw [List.getElem?_drop] at hu
    exact hu
   ·cases hu
theorem pK (ad:Addr) (m j:Nat) (hj:0<j):ad.add (m+j)=⟨(ad.add m).block,(ad.add m).off+j,none⟩:=by
 unfold Addr.add
 by_cases hm:m=0
 ·subst hm
  simp [Nat.ne_of_gt hj]
 ·simp [hm,Nat.add_assoc]
section
variable {P:Program} {ops:Array Oper} {rest:List Oper} {o:Oper} {a:Act} {Q:Exit→Act→World→Prop}
theorem xR {w0 W:World} (base:Nat) (hgd:o.guard=none) (s x:Operand) (t e:TypeId) (z:Value) (size bytes:Nat)
  (ho:o.op=.call { callee:=.builtin .append,args:=#[s,x],argTypes:=#[t,t] })
  (ht:P.underlying t=some (.slice e)) (hinfo:(P.info? e).map (fun i=>(i.zero,i.size,i.bytes))=some (some z,size,bytes)) (hz:z.cells.size=size) (hs0:0<size) (hb0:0<bytes)
  (v:Value) (n:Nat) (xs ys:List Value) (hs:a.eval s=v) (hx:a.eval x=.slice (some ⟨W.heap.size,0,none⟩) 1 1) (hys:ys.length=size) (h1:∀ u∈ys,u.oneCell'=true)
  (HO:W.ownsRow base e size v n xs) (HB:Below base w0 W) (hbase:base≤W.heap.size) (hl:(n+1) * bytes≤140737488355328)
  (h:∀ v1 w1,w1.ownsRow base e size v1 (n+1) (xs ++ ys)→Below base w0 w1→W.grownBy w1 v.ownBlock→(v1.ownBlock=v.ownBlock∨∃ b,v1.ownBlock=some b∧W.heap.size≤b)→wpList P ops Q rest (a.put o.dst v1) w1) :
  wpList P ops Q (o :: rest) a (W.alloc (.cells ys.toArray e)):=by
 obtain ⟨i0,hi,hzz⟩:=Option.map_eq_some_iff.1 hinfo
 simp only [Prod.mk.injEq] at hzz
 obtain ⟨hz0,hz1,hz2⟩:=hzz
 have hlen:n+1≤140737488355328:=Nat.le_trans (Nat.le_mul_of_pos_right _ hb0) hl
 refine wpList_append_own_at (W.alloc (.cells ys.toArray e)) hgd s x t ho base e i0 z size bytes ht hi hz0 hz1 hz2 hz hs0 v n xs hs (HO.alloc _) ⟨W.heap.size,0,none⟩ 1 1 ys hx (by rw [hys];simp)
  (by simpa using World.news_of_block (cs:=ys.toArray) (t:=e) (fr:=(0,0)) (heap_alloc_new W (.cells ys.toArray e))) h1 (by simp only [maxLen];omega) hl (by simp;omega) ?_
 intro v1 w1 hown hg _ hat
 refine h v1 w1 hown ((HB.alloc hbase _).grown hg (by simp;omega) (own_base HO)) (World.grownBy.trans (World.grownBy_alloc W _ _) hg) ?_
 rcases hat with hat | hat
 ·exact .inl hat
 ·exact .inr ⟨_,hat,by simp⟩
end
theorem own_ne {w:World} {base:Nat} {e t:TypeId} {size n g:Nat} {v:Value} {xs:List Value} {cs:Array Value} (h:w.ownsRow base e size v n xs) (hg:w.heap[g]? = some (.cells cs t (0,0))) (hne:e≠t):some g≠v.ownBlock:=by
 rcases h.2 with ⟨rfl,_⟩ | ⟨g',cap,cur,rfl,_,hh,_⟩
 ·simp [Value.ownBlock]
 ·intro he
  have:g=g':=by simpa [Value.ownBlock] using he
  subst this
  rw [hg] at hh
  injection hh with hh
  injection hh with _ ht
  exact hne ht.symm
theorem X8 {w:World} {g:Nat} {t:TypeId} {cs:Array Value} (h:w.heap[g]? = some (.cells cs t (0,0))) (i:Nat) (u:Value):(w.setCell ⟨g,i,none⟩ u).heap[g]? = some (.cells (cs.setIfInBounds i u) t (0,0)):=by
 simp [World.setCell,Array.getElem?_modify,h]
theorem oL {w:World} {g:Nat} {t:TypeId} {cs:Array Value} (h:w.heap[g]? = some (.cells cs t (0,0))) {p:Addr} (hp:g≠p.block) (u:Value):(w.setCell p u).heap[g]? = some (.cells cs t (0,0)):=(Below.heap_setCell w p u g hp).trans h
theorem jH {w:World} {g:Nat} {o:Obj} (h:w.heap[g]? = some o):g<w.heap.size:=(Array.getElem?_eq_some_iff.1 h).1
theorem iG {w:World} {g:Nat} {t:TypeId} {cs:Array Value} (h:w.heap[g]? = some (.cells cs t (0,0))) (i:Nat):w.cell? ⟨g,i,none⟩=cs[i]?:=cell_of_row w g i cs t (0,0) h
theorem iE {w:World} {g:Nat} {t:TypeId} {cs:Array Value} (h:w.heap[g]? = some (.cells cs t (0,0))) (i:Nat):w.frozen? ⟨g,i,none⟩=false:=by simp [World.frozen?,h]
theorem qQ {w w1:World} {g:Nat} {o:Obj} {row:Option Nat} (h:w.heap[g]? = some o) (hg:w.grownBy w1 row) (hne:some g≠row):w1.heap[g]? = some o:=(hg.block g (jH h) hne).trans h
def QA (w w':World) (g:Nat) (row:Option Nat):Prop:=w.heap.size≤w'.heap.size∧∀ i,i<w.heap.size→i≠g→some i≠row→w'.heap[i]? = w.heap[i]?
def Ev {α:Type} (g:Nat→Option α) (r:α):Prop:=∃ K,∀ k,K≤k→g k=some r
theorem Ev.now {α:Type} (r:α):Ev (fun _=>some r) r:=⟨0,fun _ _=>rfl⟩
theorem Ev.rounds {α:Type} {g:Nat→Option α} {r:α} (h:Ev g r):∃ k,g k=some r:=by
 obtain ⟨K,h⟩:=h
 exact ⟨K,h K (Nat.le_refl _)⟩
theorem Ev.bind {α β:Type} {g:Nat→Option α} {f:Nat→α→Option β} {a:α} {r:β} (h:Ev g a) (k:Ev (fun n=>f n a) r):Ev (fun n=>(g n).bind (f n)) r:=by
 obtain ⟨K,h⟩:=h
 obtain ⟨K',k⟩:=k
 refine ⟨max K K',fun n hn=>?_⟩
 have h1:=h n (by omega)
 have h2:=k n (by omega)
 simp only [h1,Option.bind_some]
 exact h2
theorem Ev.step {α:Type} {g f:Nat→Option α} {r:α} (h:∀ k,g (k+1)=f k) (k:Ev f r):Ev g r:=by
 obtain ⟨K,k⟩:=k
 refine ⟨K+1,fun n hn=>?_⟩
 obtain ⟨m,rfl⟩:∃ m,n=m+1:=⟨n - 1,by omega⟩
 rw [h]
 exact k m (by omega)
theorem Ev.congr {α:Type} {g f:Nat→Option α} {r:α} (h:∀ k,g k=f k) (k:Ev f r):Ev g r:=by
 obtain ⟨K,k⟩:=k
 exact ⟨K,fun n hn=>(h n).trans (k n hn)⟩
section
variable {P:Program} {ops:Array Oper} {o:Oper} {a:Act} {Q:Exit→Act→World→Prop} {K:Act→World→Prop}
theorem yI {w0 W:World} (base:Nat) (hw:Region.wanted o (yielded ops a.tmps)=true) (s x:Operand) (t e:TypeId) (z:Value) (size bytes:Nat)
  (ho:o.op=.call { callee:=.builtin .append,args:=#[s,x],argTypes:=#[t,t] })
  (ht:P.underlying t=some (.slice e)) (hinfo:(P.info? e).map (fun i=>(i.zero,i.size,i.bytes))=some (some z,size,bytes)) (hz:z.cells.size=size) (hs0:0<size) (hb0:0<bytes)
  (v:Value) (n:Nat) (xs ys:List Value) (hs:a.eval s=v) (hx:a.eval x=.slice (some ⟨W.heap.size,0,none⟩) 1 1) (hys:ys.length=size) (h1:∀ u∈ys,u.oneCell'=true)
  (HO:W.ownsRow base e size v n xs) (HB:Below base w0 W) (hbase:base≤W.heap.size) (hl:(n+1) * bytes≤140737488355328)
  (h:∀ v1 w1,w1.ownsRow base e size v1 (n+1) (xs ++ ys)→Below base w0 w1→W.grownBy w1 v.ownBlock→(v1.ownBlock=v.ownBlock∨∃ b,v1.ownBlock=some b∧W.heap.size≤b)→K (a.put o.dst v1) w1) :
  if Region.wanted o (yielded ops a.tmps)=true then Oper.wp P o a (W.alloc (.cells ys.toArray e)) K Q else K (a.put o.dst undef) (W.alloc (.cells ys.toArray e)):=by
 obtain ⟨i0,hi,hzz⟩:=Option.map_eq_some_iff.1 hinfo
 simp only [Prod.mk.injEq] at hzz
 obtain ⟨hz0,hz1,hz2⟩:=hzz
 have hlen:n+1≤140737488355328:=Nat.le_trans (Nat.le_mul_of_pos_right _ hb0) hl
 rw [if_pos hw]
 obtain ⟨v1,w1,hr,hown,hg,_,hat⟩:=run_append_own_at (P:=P) (W.alloc (.cells ys.toArray e)) base t o.type e i0 z size bytes ht hi hz0 hz1 hz2 hz hs0 v n xs (HO.alloc _) ⟨W.heap.size,0,none⟩ 1 1 ys (by rw [hys];simp)
  (by simpa using World.news_of_block (cs:=ys.toArray) (t:=e) (fr:=(0,0)) (heap_alloc_new W (.cells ys.toArray e))) h1 (by simp only [maxLen];omega) hl (by simp;omega)
 unfold Oper.wp execOp
 simp only [ho,resolve,invoke,builtin,Sem.run_bind,Sem.run_pure,Result.andThen_ok,List.map_toArray,List.map_cons,List.map_nil,hs,hx,hr]
 refine h v1 w1 hown ((HB.alloc hbase _).grown hg (by simp;omega) (own_base HO)) (World.grownBy.trans (World.grownBy_alloc W _ _) hg) ?_
 rcases hat with hat | hat
 ·exact .inl hat
 ·exact .inr ⟨_,hat,by simp⟩
end
theorem UH {w:World} {base base':Nat} {e:TypeId} {size n:Nat} {v:Value} {xs:List Value} (h:w.ownsRow base e size v n xs) (hb:base'≤base):w.ownsRow base' e size v n xs:=by
 obtain ⟨h1,h2⟩:=h
 refine ⟨h1,?_⟩
 rcases h2 with h2 | ⟨g,cap,cur,rfl,hg,r⟩
 ·exact .inl h2
 ·exact .inr ⟨g,cap,cur,rfl,Nat.le_trans hb hg,r⟩
section
variable {α:Type} {enc:α→Value} {d:α}
def encs (enc:α→Value) (xs:List α):List Value:=xs.map enc
def rdOf (d:α) (xs:List α) (i:Int):α:=xs.getD i.toNat d
theorem zZ (xs:List α):(encs enc xs).length=xs.length:=by simp [encs]
def rG (enc:α→Value) (d:α) (w:World) (A:Option Addr) (n:Nat) (xs:List α):Prop :=
 xs.length=n∧n≤9223372036854775807∧(0<n→∃ ad,A=some ad∧∀ j,j<n→w.cell? (ad.add j)=some (enc (xs.getD j d)))
theorem rG.at_ {w:World} {A:Option Addr} {n:Nat} {xs:List α} (h:rG enc d w A n xs) (i:Int) (h0:0≤i) (h1:i<n):∃ ad,A=some ad∧w.cell? (ad.add i.toNat)=some (enc (rdOf d xs i)):=by
 obtain ⟨ad,e,hc⟩:=h.2.2 (by omega)
 exact ⟨ad,e,hc _ (by omega)⟩
theorem NP {W:World} {base g n cap:Nat} {e:TypeId} {xs:List α} (h:W.ownsRow base e 1 (.slice (some ⟨g,0,none⟩) n cap) n (encs enc xs)) (i:Int) (x:α) :
  (W.setCell ⟨g,i.toNat,none⟩ (enc x)).ownsRow base e 1 (.slice (some ⟨g,0,none⟩) n cap) n (encs enc (xs.set i.toNat x))∧W.grownBy (W.setCell ⟨g,i.toNat,none⟩ (enc x)) (some g):=by
 have hs:=h.stored i.toNat (enc x)
 have he:(encs enc xs).set i.toNat (enc x)=encs enc (xs.set i.toNat x):=by simp [encs,List.map_set]
 rwa [he] at hs
end
section
variable {α:Type} {P:Program} {ops:Array Oper} {rest:List Oper} {o:Oper} {a:Act} {Q:Exit→Act→World→Prop}
end
theorem kD {w:World} {g:Nat} {o:Obj} (h:w.heap[g]? = some o) (o':Obj):(w.alloc o').heap[g]? = some o:=(Below.heap_alloc w o' g (jH h)).trans h
theorem kK {w:World} {g:Nat} {o:Obj} (h:w.heap[g]? = some o):w.drew.heap[g]? = some o:=h
theorem kQ {w:World} {g:Nat} {o:Obj} (h:w.heap[g]? = some o) (n:Nat):(w.drewN n).heap[g]? = some o:=h
theorem qB {w w1:World} {g:Nat} {o:Obj} (h:w.heap[g]? = some o) (hb:Below w.heap.size w w1):w1.heap[g]? = some o:=(hb.block g (jH h)).trans h
theorem ji_ (w:World) (o:Obj):(w.alloc o).heap[w.heap.size]? = some o:=heap_alloc_new w o
section
variable {P:Program}
end
theorem jm1 {w:World} {base n m c size:Nat} {e:TypeId} {A:Option Addr} {xs:List Value} (h:w.ownsRow base e size (.slice A m c) n xs):m≤c:=by
 rcases h.2 with ⟨he,_⟩ | ⟨g,cap,cur,he,_,_,hnc,_⟩
 ·injection he with _ h2 h3
  omega
 ·injection he with _ h2 h3
  omega
def qU {α:Type} (R:α→List Value→Prop) (e:TypeId) (size:Nat) (w:World) (base:Nat) (v:Value) (ps:List α):Prop :=
 ∃ inner,w.ownsRow base e size v ps.length inner∧Reps R size ps inner
section
variable {α:Type} {R R':α→List Value→Prop} {e:TypeId} {size:Nat} {w w1:World} {base:Nat} {v:Value} {ps:List α}
theorem qU.none_ (R:α→List Value→Prop) (e:TypeId) (size:Nat) (w:World) (base:Nat):qU R e size w base (.slice none 0 0) []:=⟨[],ji4 _ _ _ _,Reps.none _ _⟩
theorem qU.imp_ (h:qU R e size w base v ps) (hR:∀ p c,R p c→R' p c):qU R' e size w base v ps:=by
 obtain ⟨inner,ho,hr⟩:=h
 exact ⟨inner,ho,hr.imp_ hR⟩
theorem qU.reads (h:qU R e size w base v ps):∃ A c,v=.slice A ps.length c∧ps.length≤c∧mW R size w A ps.length ps:=by
 obtain ⟨inner,ho,hr⟩:=h
 obtain ⟨A,c,rfl,hrow⟩:=MW ho hr rfl
 exact ⟨A,c,rfl,jm1 ho,hrow⟩
theorem qU.ne_block (h:qU R e size w base v ps) {g:Nat} {t:TypeId} {cells:Array Value} (hb:w.heap[g]? = some (.cells cells t (0,0))) (ht:e≠t):some g≠v.ownBlock:=by
 obtain ⟨inner,ho,hr⟩:=h
 exact own_ne ho hb ht
end
section
variable {P:Program} {ops:Array Oper} {rest:List Oper} {o:Oper} {a:Act} {Q:Exit→Act→World→Prop} {α:Type} {R:α→List Value→Prop}
end
section
variable {P:Program} {ops:Array Oper} {o:Oper} {a:Act} {Q:Exit→Act→World→Prop} {K:Act→World→Prop} {α:Type} {R:α→List Value→Prop}
end
theorem mW.inner_ {α:Type} {R:α→List Value→Prop} {size:Nat} {w:World} {ad:Addr} {n:Nat} {ps:List α} (h:mW R size w (some ad) n ps) :
  ∃ inner,Reps R size ps inner∧∀ j u,inner[j]? = some u→w.cell? (ad.add j)=some u:=by
 have key:∀ m,m≤ps.length→∃ inner,Reps R size (ps.take m) inner∧∀ j u,inner[j]? = some u→w.cell? (ad.add j)=some u:=by
  intro m
  induction m with
  | zero=>exact fun _=>⟨[],Reps.none _ _,fun j u hu=>by simp at hu⟩
  | succ m ih =>
   intro hm
   obtain ⟨inner,hr,hc⟩:=ih (by omega)
   obtain ⟨ad',he,hcell⟩:=h.2.2 (by have:=h.1;omega)
   injection he with he
   subst he
   obtain ⟨c,hcl,hp,hcc⟩:=hcell m _ (List.getElem?_eq_getElem (show m<ps.length by omega))
   refine ⟨inner ++ c,?_,fun j u hu=>?_⟩
   ·rw [List.take_succ_eq_append_getElem (show m<ps.length by omega)]
    exact hr.snoc hp hcl
   ·have hil:inner.length=m * size:=by rw [hr.1,List.length_take,Nat.min_eq_left (by omega)]
    rcases Nat.lt_or_ge j inner.length with hj | hj
    ·rw [List.getElem?_append_left hj] at hu
     exact hc j u hu
    ·rw [List.getElem?_append_right hj] at hu
     have:=hcc (j - inner.length) u hu
     rwa [hil,Nat.add_sub_cancel' (by omega)] at this
 obtain ⟨inner,hr,hc⟩:=key ps.length (Nat.le_refl _)
 rw [List.take_length] at hr
 exact ⟨inner,hr,hc⟩
section
variable {α:Type} {P:Program}
end
section
variable {P:Program} {ops:Array Oper} {rest:List Oper} {o:Oper} {a:Act} {Q:Exit→Act→World→Prop}
end
structure Kd (α:Type) where
 sz:Nat
 E:List Nat
 K:World→α→List Value→Prop
 M:World→Nat→(Nat→Prop)→α→List Value→Prop
 K_len:∀ {w x cs},K w x cs→cs.length=sz
 K_one:∀ {w x cs},K w x cs→∀ u∈cs,u.oneCell'=true
 K_below:∀ {w w1:World} {x cs},Below w.heap.size w w1→K w x cs→K w1 x cs
 K_of_M:∀ {w base ok x cs},M w base ok x cs→K w x cs
 M_mono:∀ {w base ok ok' x cs},(∀ k,ok k→ok' k)→M w base ok x cs→M w base ok' x cs
 M_bound:∀ {w:World} {base ok x cs},M w base ok x cs→M w base (fun k=>ok k∧base≤k∧k<w.heap.size∧∃ q,q∈E∧∃ cells,w.heap[k]? = some (.cells cells q (0,0))) x cs
 M_move:∀ {w w1:World} {base ok x cs},(∀ k,ok k→w1.heap[k]? = w.heap[k]?)→M w base ok x cs→M w1 base ok x cs
 M_lower:∀ {w base base' ok x cs},base'≤base→M w base ok x cs→M w base' ok x cs
theorem ZQ {w w1:World} {base:Nat} {e:TypeId} {size n:Nat} {v:Value} {xs:List Value} (h:w.ownsRow base e size v n xs) (hm:∀ k,v.ownBlock=some k→w1.heap[k]? = w.heap[k]?):w1.ownsRow base e size v n xs:=by
 obtain ⟨h1,h2⟩:=h
 refine ⟨h1,?_⟩
 rcases h2 with h2 | ⟨g,cap,cur,rfl,hg,hh,r⟩
 ·exact .inl h2
 ·exact .inr ⟨g,cap,cur,rfl,hg,(hm g (by simp [Value.ownBlock])).trans hh,r⟩
theorem pJ {w:World} {base:Nat} {e:TypeId} {size n:Nat} {v:Value} {xs:List Value} (h:w.ownsRow base e size v n xs) (k:Nat) (hk:v.ownBlock=some k):∃ cells,w.heap[k]? = some (.cells cells e (0,0)):=by
 rcases h.2 with ⟨rfl,_⟩ | ⟨g,cap,cur,rfl,hg,hh,r⟩
 ·simp [Value.ownBlock] at hk
 ·have:g=k:=by simpa [Value.ownBlock] using hk
  subst this
  exact ⟨cur,hh⟩
namespace Kd
def C {α:Type} (d:Kd α) (w:World) (A:Option Addr) (n:Nat) (xs:List α):Prop:=mW (d.K w) d.sz w A n xs
def R {α:Type} (d:Kd α) (e:Nat) (w:World) (base:Nat) (ok:Nat→Prop) (v:Value) (xs:List α):Prop :=
 (∀ k,v.ownBlock=some k→ok k)∧qU (d.M w base (fun k=>ok k∧some k≠v.ownBlock)) e d.sz w base v xs
section
variable {α:Type} {d:Kd α} {e:Nat} {w w1:World} {base:Nat} {ok ok':Nat→Prop} {v:Value} {xs:List α}
theorem C_below {A:Option Addr} {n:Nat} (h:d.C w A n xs) (hb:Below w.heap.size w w1):d.C w1 A n xs:=mW.imp_ h hb (fun _ _ hp=>d.K_below hb hp)
theorem R_nil (d:Kd α) (e:Nat) (w:World) (base:Nat) (ok:Nat→Prop):d.R e w base ok (.slice none 0 0) []:=⟨fun k hk=>by simp [Value.ownBlock] at hk,qU.none_ _ _ _ _ _⟩
theorem R_mono (h:d.R e w base ok v xs) (hok:∀ k,ok k→ok' k):d.R e w base ok' v xs:=⟨fun k hk=>hok k (h.1 k hk),h.2.imp_ (fun _ _ hp=>d.M_mono (fun k hk=>⟨hok k hk.1,hk.2⟩) hp)⟩
theorem R_bound (h:d.R e w base ok v xs):d.R e w base (fun k=>ok k∧base≤k∧k<w.heap.size∧∃ q,q∈e :: d.E∧∃ cells,w.heap[k]? = some (.cells cells q (0,0))) v xs:=by
 obtain ⟨h0,inner,ho,hr⟩:=h
 refine ⟨fun k hk=>?_,inner,ho,hr.imp_ (fun _ _ hp=>d.M_mono (fun k hk=>?_) (d.M_bound hp))⟩
 ·obtain ⟨cells,hc⟩:=pJ ho k hk
  exact ⟨h0 k hk,own_base ho k hk,YS ho k hk,e,List.mem_cons_self,cells,hc⟩
 ·obtain ⟨⟨h1,h2⟩,h3,h4,q,hq,hc⟩:=hk
  exact ⟨⟨h1,h3,h4,q,List.mem_cons_of_mem _ hq,hc⟩,h2⟩
theorem R_move (h:d.R e w base ok v xs) (hm:∀ k,ok k→w1.heap[k]? = w.heap[k]?):d.R e w1 base ok v xs:=by
 obtain ⟨h0,inner,ho,hr⟩:=h
 exact ⟨h0,inner,ZQ ho (fun k hk=>hm k (h0 k hk)),hr.imp_ (fun _ _ hp=>d.M_move (fun k hk=>hm k hk.1) hp)⟩
theorem R_lower {base':Nat} (h:d.R e w base ok v xs) (hb:base'≤base):d.R e w base' ok v xs:=by
 obtain ⟨h0,inner,ho,hr⟩:=h
 exact ⟨h0,inner,UH ho hb,hr.imp_ (fun _ _ hp=>d.M_lower hb hp)⟩
theorem RS (h:d.R e w base ok v xs) (hm:∀ k,ok k→k<w.heap.size→w1.heap[k]? = w.heap[k]?):d.R e w1 base ok v xs :=
 R_mono (R_move (R_bound h) (fun k hk=>hm k hk.1 hk.2.2.1)) (fun _ hk=>hk.1)
theorem R_below (h:d.R e w base ok v xs) (hb:Below w.heap.size w w1):d.R e w1 base ok v xs:=RS h (fun k _ hk=>hb.block k hk)
theorem R_grown (h:d.R e w base ok v xs) {row:Option Nat} (hg:w.grownBy w1 row) (hok:∀ k,ok k→some k≠row):d.R e w1 base ok v xs:=RS h (fun k ho hk=>hg.block k hk (hok k ho))
theorem R_far (h:d.R e w base ok v xs) {p:Addr} (hok:∀ k,ok k→k≠p.block) (u:Value):d.R e (w.setCell p u) base ok v xs:=RS h (fun k ho _=>Below.heap_setCell w p u k (hok k ho))
theorem R_types (h:d.R e w base ok v xs) {g t:Nat} {cells:Array Value} (hb:w.heap[g]? = some (.cells cells t (0,0))) (ht:∀ q,q∈e :: d.E→q≠t):d.R e w base (fun k=>ok k∧k≠g) v xs :=
 R_mono (R_bound h) (fun k hk=>⟨hk.1,by
  obtain ⟨_,_,_,q,hq,cells',hc⟩:=hk
  rintro rfl
  rw [hc] at hb
  injection hb with hb
  injection hb with _ hb
  exact ht q hq hb⟩)
theorem R_set (h:d.R e w base ok v xs) {g t:Nat} {cells:Array Value} (hb:w.heap[g]? = some (.cells cells t (0,0))) (ht:∀ q,q∈e :: d.E→q≠t) (j:Nat) (u:Value):d.R e (w.setCell ⟨g,j,none⟩ u) base ok v xs :=
 R_mono (R_far (p:=⟨g,j,none⟩) (R_types h hb ht) (fun _ hk=>hk.2) u) (fun _ hk=>hk.1)
theorem R_reads (h:d.R e w base ok v xs):∃ A c,v=.slice A xs.length c∧xs.length≤c∧d.C w A xs.length xs:=by
 obtain ⟨A,c,he,hl,hr⟩:=qU.reads h.2
 exact ⟨A,c,he,hl,hr.imp_ (Below.refl _ _) (fun _ _ hp=>d.K_of_M hp)⟩
theorem R_slice (h:d.R e w base ok v xs):∃ A c,v=.slice A xs.length c:=by
 obtain ⟨A,c,he,_⟩:=R_reads h
 exact ⟨A,c,he⟩
theorem R_own (h:d.R e w base ok v xs):∃ inner,w.ownsRow base e d.sz v xs.length inner:=by
 obtain ⟨_,inner,ho,_⟩:=h
 exact ⟨inner,ho⟩
theorem R_ne (h:d.R e w base ok v xs) {g t:Nat} {cells:Array Value} (hb:w.heap[g]? = some (.cells cells t (0,0))) (ht:e≠t):some g≠v.ownBlock:=qU.ne_block h.2 hb ht
theorem jo5 {W:World} {b e0 s0 n0:Nat} {u:Value} {ys:List Value} (h:d.R e w W.heap.size ok v xs) (ho:W.ownsRow b e0 s0 u n0 ys):d.R e w W.heap.size (fun k=>ok k∧some k≠u.ownBlock) v xs :=
 R_mono (R_bound h) (fun k hk=>⟨hk.1,fun e=>by have:=YS ho k e.symm;omega⟩)
end
def scalar {α:Type} (enc:α→Value) (h1:∀ x,(enc x).oneCell'=true):Kd α where
 sz:=1
 E:=[]
 K:=fun _ x cs=>cs=[enc x]
 M:=fun _ _ _ x cs=>cs=[enc x]
 K_len:=fun h=>by rw [h];rfl
 K_one:=fun h u hu=>by
  rw [h] at hu
  rw [List.mem_singleton.1 hu]
  exact h1 _
 K_below:=fun _ h=>h
 K_of_M:=fun h=>h
 M_mono:=fun _ h=>h
 M_bound:=fun h=>h
 M_move:=fun _ h=>h
 M_lower:=fun _ h=>h
def int (k:IntKind):Kd Int:=scalar (Value.int k) (fun _=>rfl)
def slice {α:Type} (e:Nat) (d:Kd α):Kd (List α) where
 sz:=1
 E:=e :: d.E
 K:=fun w xs cs=>∃ A c,cs=[.slice A xs.length c]∧xs.length≤c∧d.C w A xs.length xs
 M:=fun w base ok xs cs=>∃ v,cs=[v]∧d.R e w base ok v xs
 K_len:=by
  rintro w x cs ⟨A,c,rfl,_⟩
  rfl
 K_one:=by
  rintro w x cs ⟨A,c,rfl,_⟩ u hu
  rw [List.mem_singleton.1 hu]
  rfl
 K_below:=by
  rintro w w1 x cs hb ⟨A,c,rfl,hl,hr⟩
  exact ⟨A,c,rfl,hl,C_below hr hb⟩
 K_of_M:=by
  rintro w base ok x cs ⟨v,rfl,h⟩
  obtain ⟨A,c,rfl,hl,hr⟩:=R_reads h
  exact ⟨A,c,rfl,hl,hr⟩
 M_mono:=by
  rintro w base ok ok' x cs hok ⟨v,rfl,h⟩
  exact ⟨v,rfl,R_mono h hok⟩
 M_bound:=by
  rintro w base ok x cs ⟨v,rfl,h⟩
  exact ⟨v,rfl,R_bound h⟩
 M_move:=by
  rintro w w1 base ok x cs hm ⟨v,rfl,h⟩
  exact ⟨v,rfl,R_move h hm⟩
 M_lower:=by
  rintro w base base' ok x cs hb ⟨v,rfl,h⟩
  exact ⟨v,rfl,R_lower h hb⟩
def pair {α β:Type} (a:Kd α) (b:Kd β):Kd (α × β) where
 sz:=a.sz+b.sz
 E:=a.E ++ b.E
 K:=fun w x cs=>∃ c0 c1,cs=c0 ++ c1∧a.K w x.1 c0∧b.K w x.2 c1
 M:=fun w base ok x cs=>∃ c0 c1,cs=c0 ++ c1∧a.M w base ok x.1 c0∧b.M w base ok x.2 c1
 K_len:=by
  rintro w x cs ⟨c0,c1,rfl,h0,h1⟩
  rw [List.length_append,a.K_len h0,b.K_len h1]
 K_one:=by
  rintro w x cs ⟨c0,c1,rfl,h0,h1⟩ u hu
  rcases List.mem_append.1 hu with hu | hu
  ·exact a.K_one h0 u hu
  ·exact b.K_one h1 u hu
 K_below:=by
  rintro w w1 x cs hb ⟨c0,c1,rfl,h0,h1⟩
  exact ⟨c0,c1,rfl,a.K_below hb h0,b.K_below hb h1⟩
 K_of_M:=by
  rintro w base ok x cs ⟨c0,c1,rfl,h0,h1⟩
  exact ⟨c0,c1,rfl,a.K_of_M h0,b.K_of_M h1⟩
 M_mono:=by
  rintro w base ok ok' x cs hok ⟨c0,c1,rfl,h0,h1⟩
  exact ⟨c0,c1,rfl,a.M_mono hok h0,b.M_mono hok h1⟩
 M_bound:=by
  rintro w base ok x cs ⟨c0,c1,rfl,h0,h1⟩
  refine ⟨c0,c1,rfl,a.M_mono ?_ (a.M_bound h0),b.M_mono ?_ (b.M_bound h1)⟩
  ·rintro k ⟨h2,h3,h4,q,hq,hc⟩
   exact ⟨h2,h3,h4,q,List.mem_append_left _ hq,hc⟩
  ·rintro k ⟨h2,h3,h4,q,hq,hc⟩
   exact ⟨h2,h3,h4,q,List.mem_append_right _ hq,hc⟩
 M_move:=by
  rintro w w1 base ok x cs hm ⟨c0,c1,rfl,h0,h1⟩
  exact ⟨c0,c1,rfl,a.M_move hm h0,b.M_move hm h1⟩
 M_lower:=by
  rintro w base base' ok x cs hb ⟨c0,c1,rfl,h0,h1⟩
  exact ⟨c0,c1,rfl,a.M_lower hb h0,b.M_lower hb h1⟩
def iso {α β:Type} (d:Kd α) (f:β→α):Kd β where
 sz:=d.sz
 E:=d.E
 K:=fun w x cs=>d.K w (f x) cs
 M:=fun w base ok x cs=>d.M w base ok (f x) cs
 K_len:=d.K_len
 K_one:=d.K_one
 K_below:=d.K_below
 K_of_M:=d.K_of_M
 M_mono:=d.M_mono
 M_bound:=d.M_bound
 M_move:=d.M_move
 M_lower:=d.M_lower
def bot {α:Type} (sz:Nat) (E:List Nat):Kd α where
 sz:=sz
 E:=E
 K:=fun _ _ _=>False
 M:=fun _ _ _ _ _=>False
 K_len:=fun h=>h.elim
 K_one:=fun h=>h.elim
 K_below:=fun _ h=>h
 K_of_M:=fun h=>h
 M_mono:=fun _ h=>h
 M_bound:=fun h=>h
 M_move:=fun _ h=>h
 M_lower:=fun _ h=>h
def upto {α:Type} (F:Kd α→Kd α) (sz:Nat) (E:List Nat):Nat→Kd α
 | 0=>bot sz E
 | n+1=>F (upto F sz E n)
theorem C_get {α:Type} {d:Kd α} {w:World} {A:Option Addr} {n:Nat} {xs:List α} (h:d.C w A n xs) (z:α) (i:Int) (h0:0≤i) (h1:i<n) :
  ∃ ad c,A=some ad∧c.length=d.sz∧d.K w (xs.getD i.toNat z) c∧∀ j u,c[j]? = some u→w.cell? (ad.add (i.toNat * d.sz+j))=some u:=mW.get_ h z i h0 h1
theorem R_appended {α:Type} {d:Kd α} {e base:Nat} {ok okp:Nat→Prop} {W w1:World} {v v1:Value} {xs:List α} {p:α} {inner cs:List Value} (h0:∀ k,v.ownBlock=some k→ok k) (hr:Reps (d.M W base (fun k=>ok k∧some k≠v.ownBlock)) d.sz xs inner) (hp:d.M W base okp p cs) (hokp:∀ k,okp k→ok k∧some k≠v.ownBlock) (hfresh:∀ k,W.heap.size≤k→ok k)
  (hown:w1.ownsRow base e d.sz v1 (xs.length+1) (inner ++ cs)) (hg:W.grownBy w1 v.ownBlock) (hat:v1.ownBlock=v.ownBlock∨∃ b,v1.ownBlock=some b∧W.heap.size≤b):d.R e w1 base ok v1 (xs ++ [p]):=by
 have hne:∀ k,some k≠v.ownBlock→k<W.heap.size→some k≠v1.ownBlock:=by
  intro k hk hlt
  rcases hat with hat | ⟨b,hb,hle⟩
  ·rw [hat];exact hk
  ·rw [hb]
   intro he
   injection he with he
   omega
 have step:∀ {q:α} {c:List Value} {o:Nat→Prop},d.M W base o q c→(∀ k,o k→ok k∧some k≠v.ownBlock)→d.M w1 base (fun k=>ok k∧some k≠v1.ownBlock) q c:=by
  intro q c o hq ho
  have h1:=d.M_move (w1:=w1) (fun k hk=>hg.block k hk.2.2.1 (ho k hk.1).2) (d.M_bound hq)
  exact d.M_mono (fun k hk=>⟨(ho k hk.1).1,hne k (ho k hk.1).2 hk.2.2.1⟩) h1
 refine ⟨fun k hk=>?_,inner ++ cs,by rw [List.length_append,List.length_singleton];exact hown,?_⟩
 ·rcases hat with hat | ⟨b,hb,hle⟩
  ·exact h0 k (hat▸hk)
  ·rw [hb] at hk
   injection hk with hk
   exact hfresh k (by omega)
 ·exact (hr.imp_ (fun _ _ hq=>step hq (fun _ hk=>hk))).snoc (step hp hokp) (d.K_len (d.K_of_M hp))
section
variable {P:Program} {ops:Array Oper} {rest:List Oper} {o:Oper} {a:Act} {Q:Exit→Act→World→Prop} {α:Type}
theorem R_append (d:Kd α) {w0 W:World} (base:Nat) (hgd:o.guard=none) (s x:Operand) (t e:TypeId) (z:Value) (bytes:Nat)
  (ho:o.op=.call { callee:=.builtin .append,args:=#[s,x],argTypes:=#[t,t] })
  (ht:P.underlying t=some (.slice e)) (hinfo:(P.info? e).map (fun i=>(i.zero,i.size,i.bytes))=some (some z,d.sz,bytes)) (hz:z.cells.size=d.sz) (hs0:0<d.sz) (hb0:0<bytes)
  (v:Value) (xs:List α) (p:α) (cs:List Value) (ok okp:Nat→Prop) (hs:a.eval s=v) (hx:a.eval x=.slice (some ⟨W.heap.size,0,none⟩) 1 1) (hp:d.M W base okp p cs) (hokp:∀ k,okp k→ok k∧some k≠v.ownBlock) (hfresh:∀ k,W.heap.size≤k→ok k)
  (HO:d.R e W base ok v xs) (HB:Below base w0 W) (hbase:base≤W.heap.size) (hl:(xs.length+1) * bytes≤140737488355328)
  (h:∀ v1 w1,d.R e w1 base ok v1 (xs ++ [p])→Below base w0 w1→W.grownBy w1 v.ownBlock→(v1.ownBlock=v.ownBlock∨∃ b,v1.ownBlock=some b∧W.heap.size≤b)→wpList P ops Q rest (a.put o.dst v1) w1) :
  wpList P ops Q (o :: rest) a (W.alloc (.cells cs.toArray e)):=by
 obtain ⟨h0,inner,hown,hr⟩:=HO
 refine xR base hgd s x t e z d.sz bytes ho ht hinfo hz hs0 hb0 v xs.length inner cs hs hx (d.K_len (d.K_of_M hp)) (d.K_one (d.K_of_M hp)) hown HB hbase hl ?_
 intro v1 w1 hown1 hb1 hg1 hat1
 exact h v1 w1 (R_appended h0 hr hp hokp hfresh hown1 hg1 hat1) hb1 hg1 hat1
end
section
variable {P:Program} {ops:Array Oper} {o:Oper} {a:Act} {Q:Exit→Act→World→Prop} {Kc:Act→World→Prop} {α:Type}
theorem R_append_step (d:Kd α) {w0 W:World} (base:Nat) (hw:Region.wanted o (yielded ops a.tmps)=true) (s x:Operand) (t e:TypeId) (z:Value) (bytes:Nat)
  (ho:o.op=.call { callee:=.builtin .append,args:=#[s,x],argTypes:=#[t,t] })
  (ht:P.underlying t=some (.slice e)) (hinfo:(P.info? e).map (fun i=>(i.zero,i.size,i.bytes))=some (some z,d.sz,bytes)) (hz:z.cells.size=d.sz) (hs0:0<d.sz) (hb0:0<bytes)
  (v:Value) (xs:List α) (p:α) (cs:List Value) (ok okp:Nat→Prop) (hs:a.eval s=v) (hx:a.eval x=.slice (some ⟨W.heap.size,0,none⟩) 1 1) (hp:d.M W base okp p cs) (hokp:∀ k,okp k→ok k∧some k≠v.ownBlock) (hfresh:∀ k,W.heap.size≤k→ok k)
  (HO:d.R e W base ok v xs) (HB:Below base w0 W) (hbase:base≤W.heap.size) (hl:(xs.length+1) * bytes≤140737488355328)
  (h:∀ v1 w1,d.R e w1 base ok v1 (xs ++ [p])→Below base w0 w1→W.grownBy w1 v.ownBlock→(v1.ownBlock=v.ownBlock∨∃ b,v1.ownBlock=some b∧W.heap.size≤b)→Kc (a.put o.dst v1) w1) :
  if Region.wanted o (yielded ops a.tmps)=true then Oper.wp P o a (W.alloc (.cells cs.toArray e)) Kc Q else Kc (a.put o.dst undef) (W.alloc (.cells cs.toArray e)):=by
 obtain ⟨h0,inner,hown,hr⟩:=HO
 refine yI base hw s x t e z d.sz bytes ho ht hinfo hz hs0 hb0 v xs.length inner cs hs hx (d.K_len (d.K_of_M hp)) (d.K_one (d.K_of_M hp)) hown HB hbase hl ?_
 intro v1 w1 hown1 hb1 hg1 hat1
 exact h v1 w1 (R_appended h0 hr hp hokp hfresh hown1 hg1 hat1) hb1 hg1 hat1
end
theorem PD {α:Type} {enc:α→Value} (xs:List α):Reps (fun (x:α) (cs:List Value)=>cs=[enc x]) 1 xs (encs enc xs):=by
 refine ⟨by simp [encs],fun j p hj=>?_⟩
 obtain ⟨hl,hp⟩:=List.getElem?_eq_some_iff.1 hj
 have hl':j<(encs enc xs).length:=by rw [zZ];exact hl
 rw [Nat.mul_one,List.drop_eq_getElem_cons hl']
 simp [encs,hp]
theorem R_of_own {α:Type} {enc:α→Value} {h1:∀ x,(enc x).oneCell'=true} {e:Nat} {w:World} {base:Nat} {ok:Nat→Prop} {v:Value} {xs:List α} (ho:w.ownsRow base e 1 v xs.length (encs enc xs)) (hok:∀ k,v.ownBlock=some k→ok k):(scalar enc h1).R e w base ok v xs:=⟨hok,encs enc xs,ho,PD xs⟩
theorem own_of_R {α:Type} {enc:α→Value} {h1:∀ x,(enc x).oneCell'=true} {e:Nat} {w:World} {base:Nat} {ok:Nat→Prop} {v:Value} {xs:List α} (h:(scalar enc h1).R e w base ok v xs):w.ownsRow base e 1 v xs.length (encs enc xs):=by
 obtain ⟨_,inner,ho,hr⟩:=h
 have:inner=encs enc xs:=by
  apply List.ext_getElem?
  intro j
  rcases Nat.lt_or_ge j xs.length with hj | hj
  ·have h2:=hr.2 j _ (List.getElem?_eq_getElem hj)
   have hl:j<inner.length:=by have:=hr.1;simp [scalar] at this;omega
   have h3:(inner.drop (j * 1)).take 1=[enc xs[j]]:=h2
   rw [Nat.mul_one,List.drop_eq_getElem_cons hl] at h3
   have h4:inner[j]=enc xs[j]:=by
    have h5:=congrArg List.head? h3
    rw [List.take_succ_cons] at h5
    exact Option.some.inj h5
   rw [List.getElem?_eq_getElem hl,h4]
   simp [encs,List.getElem?_eq_getElem hj]
  ·have h3:inner.length=xs.length:=by have:=hr.1;simp [scalar] at this;omega
   rw [List.getElem?_eq_none (by omega),List.getElem?_eq_none (by rw [zZ];omega)]
 rw [← this]
 exact ho
theorem VE {α:Type} {enc:α→Value} {d:α} {h1:∀ x,(enc x).oneCell'=true} {w:World} {A:Option Addr} {n:Nat} {xs:List α} (h:rG enc d w A n xs):(scalar enc h1).C w A n xs:=by
 refine ⟨h.1,h.2.1,fun hn=>?_⟩
 obtain ⟨ad,e,hc⟩:=h.2.2 hn
 refine ⟨ad,e,fun j p hj=>⟨[enc p],rfl,rfl,fun i u hu=>?_⟩⟩
 obtain ⟨hl,hp⟩:=List.getElem?_eq_some_iff.1 hj
 have h2:=hc j (by have:=h.1;omega)
 rw [List.getD_eq_getElem?_getD,hj] at h2
 cases i with
 | zero =>
  have:enc p=u:=by simpa using hu
  subst this
  simpa [scalar] using h2
 | succ i=>simp at hu
theorem reads_of_C {α:Type} {enc:α→Value} {d:α} {h1:∀ x,(enc x).oneCell'=true} {w:World} {A:Option Addr} {n:Nat} {xs:List α} (h:(scalar enc h1).C w A n xs):rG enc d w A n xs:=by
 refine ⟨h.1,h.2.1,fun hn=>?_⟩
 obtain ⟨ad,e,hc⟩:=h.2.2 hn
 refine ⟨ad,e,fun j hj=>?_⟩
 have hl:j<xs.length:=by have:=h.1;omega
 obtain ⟨c,_,hK,hcell⟩:=hc j _ (List.getElem?_eq_getElem hl)
 have hK':c=[enc xs[j]]:=hK
 subst hK'
 have:=hcell 0 _ rfl
 simpa [scalar,List.getD_eq_getElem?_getD,List.getElem?_eq_getElem hl] using this
end Kd
namespace Kd
section
variable {α:Type} {F:Kd α→Kd α} {sz:Nat} {E:List Nat} {hs:∀ n,(upto F sz E n).sz=sz} {hE:∀ n q,q∈(upto F sz E n).E→q∈E}
end
end Kd
namespace Kd
theorem R_after {α:Type} {d:Kd α} {e base:Nat} {ok:Nat→Prop} {W w1:World} {u v v1:Value} {xs:List α} (h:d.R e W base (fun k=>ok k∧some k≠v.ownBlock) u xs) (hg:W.grownBy w1 v.ownBlock) (hat:v1.ownBlock=v.ownBlock∨∃ b,v1.ownBlock=some b∧W.heap.size≤b):d.R e w1 base (fun k=>ok k∧some k≠v1.ownBlock) u xs:=by
 refine R_mono (R_move (R_bound h) (fun k hk=>hg.block k hk.2.2.1 hk.1.2)) (fun k hk=>⟨hk.1.1,?_⟩)
 rcases hat with hat | ⟨b,hb,hle⟩
 ·rw [hat];exact hk.1.2
 ·rw [hb]
  intro he
  injection he with he
  have:=hk.2.2.1
  omega
end Kd
namespace Kd
section
variable {α β:Type} {d:Kd α} {d':Kd β} {e e':Nat} {w w1 W:World} {base b b':Nat} {ok ok' okv oku:Nat→Prop} {v u:Value} {xs:List α} {ys:List β}
theorem R_drew (h:d.R e w base ok v xs):d.R e w.drew base ok v xs:=R_below h (iW (Below.refl _ _))
theorem C_drewN {A:Option Addr} {n:Nat} (h:d.C w A n xs) (m:Nat):d.C (w.drewN m) A n xs:=C_below h (iF (Below.refl _ _) m)
theorem C_nil (d:Kd α) (w:World):d.C w none ([]:List α).length []:=⟨rfl,by simp,fun h=>absurd h (Nat.lt_irrefl 0)⟩
theorem lD {A:Option Addr} {n:Nat} (h:d.C w A n xs):n≤9223372036854775807:=h.2.1
theorem R_reads' {A:Option Addr} {n c:Nat} (h:d.R e w base ok (.slice A n c) xs):n=xs.length∧n≤c∧d.C w A xs.length xs:=by
 obtain ⟨A',c',he,hl,hr⟩:=R_reads h
 injection he with h1 h2 h3
 subst h1
 exact ⟨h2,by omega,hr⟩
theorem R_lt (h:d.R e w base ok v xs):∀ k,v.ownBlock=some k→k<w.heap.size:=by
 obtain ⟨inner,ho⟩:=R_own h
 exact YS ho
theorem R_base (h:d.R e w base ok v xs):∀ k,v.ownBlock=some k→base≤k:=by
 obtain ⟨inner,ho⟩:=R_own h
 exact own_base ho
theorem jn1 (h:d.R e w base ok v xs) {g:Nat} (hok:∀ k,ok k→k≠g):some g≠v.ownBlock:=fun e=>hok g (h.1 g e.symm) rfl
theorem R_newR (h:d.R e w1 W.heap.size ok v xs) (hu:d'.R e' W b oku u ys):d.R e w1 W.heap.size (fun k=>ok k∧some k≠u.ownBlock) v xs:=by
 obtain ⟨inner,ho⟩:=R_own hu
 exact jo5 h ho
end
section
variable {w W:World} {A:Option Addr} {n:Nat}
theorem at_int {k:IntKind} {xs:List Int} (h:(Kd.int k).C w A n xs) (i:Int) (h0:0≤i) (h1:i<n):∃ ad,A=some ad∧w.cell? (ad.add i.toNat)=some (.int k (rd xs i)) :=
 rG.at_ (reads_of_C (enc:=Value.int k) (d:=(0:Int)) (h1:=fun _=>rfl) h) i h0 h1
variable {α:Type} {enc:α→Value} {h1:∀ x,(enc x).oneCell'=true} {e base g cap:Nat} {ok:Nat→Prop} {xs:List α}
end
section
variable {P:Program} {ops:Array Oper} {rest:List Oper} {o:Oper} {a:Act} {Q:Exit→Act→World→Prop}
theorem event_run {W w1:World} {v:Value} (hgd:o.guard=none) (hrun:(execOp a.eval o).run P W=.ok (.value v) w1) (h:wpList P ops Q rest (a.put o.dst v) w1):wpList P ops Q (o :: rest) a W:=by
 refine wpList_plain hgd fun K hK=>?_
 unfold Oper.wp
 rw [hrun]
 exact hK _ _ h
variable {α:Type}
theorem XP {α:Type} {R:α→List Value→Prop} {z:Value} {size:Nat} {z0:α} (hz:z.cells.size=size) (hs:0<size) (h0:R z0 z.cells.toList) (m:Nat):Reps R size (List.replicate m z0) (madeCells z.cells (m * size)).toList:=by
 refine ⟨by simp [size_madeCells],fun j p hj=>?_⟩
 obtain ⟨hjl,hp⟩:=List.getElem?_eq_some_iff.1 hj
 have hjm:j<m:=by simpa using hjl
 have hp':z0=p:=by simpa using hp
 subst hp'
 have hle:j * size+size≤m * size:=by rw [← Nat.succ_mul];exact Nat.mul_le_mul_right _ hjm
 have:((madeCells z.cells (m * size)).toList.drop (j * size)).take size=z.cells.toList:=by
  apply List.ext_getElem
  ·simp [size_madeCells,hz]
   omega
  ·intro i h1 h2
   have hi:i<size:=by rw [Array.length_toList,hz] at h2;exact h2
   have hmod:(j * size+i) % size=i:=by
    rw [Nat.mul_comm,Nat.mul_add_mod]
    exact Nat.mod_eq_of_lt hi
   simp [madeCells,hz,hmod]
   rw [getElem!_pos z.cells i (by omega)]
 rw [this]
 exact h0
end
end Kd
theorem ja4 {w:World} {base n m c size:Nat} {e:TypeId} {A:Option Addr} {xs:List Value} (h:w.ownsRow base e size (.slice A n c) n xs) (hm:m≤n):w.ownsRow base e size (.slice A m c) m (xs.take (m * size)):=by
 obtain ⟨h1,h2⟩:=h
 refine ⟨by rw [List.length_take,h1];exact Nat.min_eq_left (Nat.mul_le_mul_right _ hm),?_⟩
 rcases h2 with ⟨he,h0⟩ | ⟨g,cap,cur,he,hb,hh,hnc,hcm,hcs,ht⟩
 ·injection he with ha _ hc
  subst ha;subst hc
  exact .inl ⟨by rw [show m=0 by omega],by omega⟩
 ·injection he with ha _ hc
  subst ha;subst hc
  refine .inr ⟨g,c,cur,rfl,hb,hh,by omega,hcm,hcs,?_⟩
  rw [← ht,List.take_take,Nat.min_eq_left (Nat.mul_le_mul_right _ hm)]
section
variable {P:Program}
end
def QRow (w:World) (base:Nat) (e:TypeId) (size:Nat) (v:Value) (n:Nat) (xs:List Value):Prop :=
 xs.length=n * size ∧
 ((n=0∧∃ A,v=.slice A 0 0∧∀ a,A=some a→base≤a.block∧∃ cur,w.heap[a.block]? = some (.cells cur e (0,0))) ∨
  ∃ g off cap cur,v=.slice (some ⟨g,off * size,none⟩) n cap∧base≤g∧w.heap[g]? = some (.cells cur e (0,0))∧n≤cap∧off+cap≤maxLen∧cur.size=(off+cap) * size∧(cur.toList.drop (off * size)).take (n * size)=xs)
section
variable {w w1:World} {base n size:Nat} {e:TypeId} {v:Value} {xs:List Value}
theorem rZ {g:Nat}:∀ (vs:List Value) (o:Nat) {w:World} (k:Nat),k≠g→(w.setCells g o vs).heap[k]? = w.heap[k]?
 | [],_,_,_,_=>rfl
 | v :: r,o,w,k,hk=>by
  rw [World.setCells,rZ r (o+1) k hk]
  exact Below.heap_setCell w ⟨g,o,none⟩ v k hk
theorem rH (g:Nat):∀ (vs:List Value) (o:Nat) (w:World),(w.setCells g o vs).os=w.os∧(w.setCells g o vs).tape=w.tape∧(w.setCells g o vs).output=w.output∧(w.setCells g o vs).heap.size=w.heap.size
 | [],_,_=>⟨rfl,rfl,rfl,rfl⟩
 | v :: r,o,w=>by
  obtain ⟨h1,h2,h3,h4⟩:=rH g r (o+1) (w.setCell ⟨g,o,none⟩ v)
  rw [World.setCells]
  exact ⟨h1,h2,h3,by rw [h4];simp [World.setCell]⟩
theorem rW {g:Nat} {e:TypeId}:∀ (vs:List Value) (o:Nat) (w:World) (cur:Array Value),w.heap[g]? = some (.cells cur e (0,0))→o+vs.length≤cur.size →
  ∃ cur',(w.setCells g o vs).heap[g]? = some (.cells cur' e (0,0))∧cur'.size=cur.size∧cur'.toList=cur.toList.take o ++ vs ++ cur.toList.drop (o+vs.length)
 | [],o,w,cur,h,_=>⟨cur,h,rfl,by simp⟩
 | v :: r,o,w,cur,h,hl=>by
  have h2:=X8 h o v
  simp only [List.length_cons] at hl
  obtain ⟨cur',h3,h4,h5⟩:=rW r (o+1) (w.setCell ⟨g,o,none⟩ v) _ h2 (by simp;omega)
  refine ⟨cur',h3,by rw [h4];simp,?_⟩
  rw [h5,Array.toList_setIfInBounds]
  have ho:o<cur.toList.length:=by rw [Array.length_toList];omega
  rw [List.take_set,List.drop_set_of_lt (by omega)]
  simp only [List.length_cons]
  rw [show o+1+r.length=o+(r.length+1) by omega]
  congr 1
  rw [List.take_succ_eq_append_getElem ho,List.set_append_right _ _ (by rw [List.length_take];omega)]
  have ho':o<cur.size:=by omega
  simp [Nat.min_eq_left (Nat.le_of_lt ho')]
end
section
variable {P:Program}
end
namespace Kd
theorem X9 {α:Type} {R:α→List Value→Prop} {size m:Nat} {ps:List α} {cs:List Value} (h:Reps R size ps cs) (hm:m≤ps.length):Reps R size (ps.take m) (cs.take (m * size)):=by
 refine ⟨by rw [List.length_take,List.length_take,h.1,Nat.min_eq_left hm,Nat.min_eq_left (Nat.mul_le_mul_right _ hm)],fun j p hj=>?_⟩
 rw [List.getElem?_take] at hj
 split at hj
 ·rename_i hjm
  have:=h.2 j p hj
  have hle:j * size+size≤m * size:=by rw [← Nat.succ_mul];exact Nat.mul_le_mul_right _ hjm
  rw [List.drop_take,List.take_take,Nat.min_eq_left (by omega)]
  exact this
 ·cases hj
theorem R_take {α:Type} {d:Kd α} {e m n c:Nat} {w:World} {base:Nat} {ok:Nat→Prop} {A:Option Addr} {xs:List α} (h:d.R e w base ok (.slice A n c) xs) (hm:m≤xs.length):d.R e w base ok (.slice A m c) (xs.take m):=by
 obtain ⟨h0,inner,ho,hr⟩:=h
 have hn:n=xs.length:=by
  obtain ⟨A',c',he⟩:=WJ ho
  injection he
 subst hn
 have hb:∀ x y:Nat,(Value.slice A x c).ownBlock=(Value.slice A y c).ownBlock:=by
  intro x y
  cases A <;> rfl
 refine ⟨fun k hk=>h0 k (by rw [hb _ m];exact hk),inner.take (m * d.sz),?_,?_⟩
 ·rw [List.length_take,Nat.min_eq_left hm]
  exact ja4 ho hm
 ·rw [hb m xs.length]
  exact X9 hr hm
def Q {α:Type} (d:Kd α) (e:Nat) (w:World) (base:Nat) (ok:Nat→Prop) (v:Value) (xs:List α):Prop :=
 (∀ k,v.ownBlock=some k→ok k)∧∃ inner,QRow w base e d.sz v xs.length inner∧Reps (d.M w base (fun k=>ok k∧some k≠v.ownBlock)) d.sz xs inner
section
variable {α:Type} {d:Kd α} {e:Nat} {w w1 W:World} {base:Nat} {ok ok':Nat→Prop} {v:Value} {xs:List α}
end
section
variable {P:Program} {ops:Array Oper} {rest:List Oper} {o:Oper} {a:Act} {Q':Exit→Act→World→Prop} {Kc:Act→World→Prop} {α:Type}
end
end Kd
namespace Kd
section
variable {α:Type} {d:Kd α} {e e':Nat} {w w1 W:World} {base:Nat} {ok:Nat→Prop} {u v:Value} {xs:List α}
theorem jg6 (h:d.R e w base ok v xs):∀ k,v.ownBlock=some k→∃ cells,w.heap[k]? = some (.cells cells e (0,0)):=by
 obtain ⟨inner,ho⟩:=R_own h
 exact fun k hk=>pJ ho k hk
theorem R_apart' (h:d.R e W base ok u xs) (hty:∀ k,v.ownBlock=some k→∃ cells,W.heap[k]? = some (.cells cells e' (0,0))) (ht:∀ q,q∈e :: d.E→q≠e'):d.R e W base (fun k=>ok k∧some k≠v.ownBlock) u xs:=by
 refine R_mono (R_bound h) (fun k hk=>⟨hk.1,fun he=>?_⟩)
 obtain ⟨_,_,_,q,hq,cells,hc⟩:=hk
 obtain ⟨cells',hc'⟩:=hty k he.symm
 rw [hc] at hc'
 injection hc' with hc'
 injection hc' with _ hc'
 exact ht q hq hc'
theorem R_elder' (hu:d.R e W base ok u xs) (hbase:∀ k,v.ownBlock=some k→W.heap.size≤k) (hb:Below W.heap.size W w1):d.R e w1 base (fun k=>ok k∧some k≠v.ownBlock) u xs :=
 R_mono (R_move (R_bound hu) (fun k hk=>hb.block k hk.2.2.1)) (fun k hk=>⟨hk.1,fun he=>by have:=hbase k he.symm;have:=hk.2.2.1;omega⟩)
theorem R_new' (h:d.R e w1 W.heap.size ok v xs) (hlt:∀ k,u.ownBlock=some k→k<W.heap.size):d.R e w1 W.heap.size (fun k=>ok k∧some k≠u.ownBlock) v xs :=
 R_mono (R_bound h) (fun k hk=>⟨hk.1,fun he=>by have:=hlt k he.symm;have:=hk.2.1;omega⟩)
theorem fresh' (hlt:∀ k,u.ownBlock=some k→k<W.heap.size):∀ k,W.heap.size≤k→some k≠u.ownBlock:=fun k hk he=>by have:=hlt k he.symm;omega
end
end Kd
theorem zT {α:Type} (a seg:List α) (o:Nat) (h:o+seg.length≤a.length) (q:Nat) :
  (a.take o ++ seg ++ a.drop (o+seg.length))[q]? = if q<o then a[q]? else if q<o+seg.length then seg[q - o]? else a[q]?:=by
 have hl:(a.take o).length=o:=by rw [List.length_take];omega
 rw [List.append_assoc]
 by_cases h1:q<o
 ·rw [if_pos h1,List.getElem?_append_left (by omega),List.getElem?_take,if_pos h1]
 ·rw [if_neg h1,List.getElem?_append_right (by omega),hl]
  by_cases h2:q<o+seg.length
  ·rw [if_pos h2,List.getElem?_append_left (by omega)]
  ·rw [if_neg h2,List.getElem?_append_right (by omega),List.getElem?_drop]
   congr 1
   omega
namespace Kd
section
variable {α:Type} {d:Kd α} {e base g n cap:Nat} {ok okp:Nat→Prop} {W:World} {xs:List α}
theorem R_elem (h:d.R e W base ok (.slice (some ⟨g,0,none⟩) n cap) xs) (z:α) (i:Int) (h0:0≤i) (h1:i<n) :
  ∃ c,c.length=d.sz∧d.M W base (fun k=>ok k∧k≠g) (xs.getD i.toNat z) c∧(∀ j u,c[j]? = some u→W.cell? ⟨g,i.toNat * d.sz+j,none⟩=some u)∧∀ j,W.frozen? ⟨g,i.toNat * d.sz+j,none⟩=false:=by
 obtain ⟨hn,hnc,hC⟩:=R_reads' h
 obtain ⟨_,inner,ho,hr⟩:=h
 have hil:i.toNat<xs.length:=by omega
 have hseg:i.toNat * d.sz+d.sz≤inner.length:=by rw [hr.1,← Nat.succ_mul];exact Nat.mul_le_mul_right _ hil
 have hM:=hr.2 i.toNat _ (List.getElem?_eq_getElem hil)
 refine ⟨(inner.drop (i.toNat * d.sz)).take d.sz,by rw [List.length_take,List.length_drop];omega,?_,fun j u hu=>?_,fun j=>?_⟩
 ·rw [List.getD_eq_getElem?_getD,List.getElem?_eq_getElem hil]
  exact d.M_mono (fun k hk=>⟨hk.1,fun he=>hk.2 (by rw [he];simp [Value.ownBlock])⟩) hM
 ·rw [List.getElem?_take] at hu
  split at hu
  ·rw [List.getElem?_drop] at hu
   have:=ho.cells (g:=g) (by simp [Value.ownBlock]) _ u hu
   rwa [add_plain] at this
  ·cases hu
 ·obtain ⟨cells,hc⟩:=pJ ho g (by simp [Value.ownBlock])
  exact iE hc _
theorem R_seg (h:d.R e W base ok (.slice (some ⟨g,0,none⟩) n cap) xs) (i:Int) (h0:0≤i) (h1:i<n) {c seg:List Value} {j:Nat} (hcl:c.length=d.sz) (hcc:∀ j u,c[j]? = some u→W.cell? ⟨g,i.toNat * d.sz+j,none⟩=some u)
  (hj:j+seg.length≤d.sz) {x':α} (hM:d.M W base okp x' (c.take j ++ seg ++ c.drop (j+seg.length))) (hokp:∀ k,okp k→ok k∧k≠g) :
  d.R e (W.setCells g (i.toNat * d.sz+j) seg) base ok (.slice (some ⟨g,0,none⟩) n cap) (xs.set i.toNat x')∧W.grownBy (W.setCells g (i.toNat * d.sz+j) seg) (some g):=by
 obtain ⟨hn,hnc,_⟩:=R_reads' h
 obtain ⟨hok,inner,ho,hr⟩:=h
 have hil:i.toNat<xs.length:=by omega
 have hseg:i.toNat * d.sz+d.sz≤inner.length:=by rw [hr.1,← Nat.succ_mul];exact Nat.mul_le_mul_right _ hil
 have hin:inner.length=n * d.sz:=by rw [hr.1,hn]
 obtain ⟨ho1,ho2⟩:=ho
 rcases ho2 with ⟨hv,_⟩ | ⟨g',cap',cur,hv,hb,hh,hnc',hcm,hcs,ht⟩
 ·cases hv
 injection hv with ha _ hc
 injection ha with ha
 injection ha with hg
 subst hg;subst hc
 have hfit:i.toNat * d.sz+j+seg.length≤cur.size:=by
  have:n * d.sz≤cap * d.sz:=Nat.mul_le_mul_right _ hnc
  omega
 obtain ⟨cur',h3,h4,h5⟩:=rW seg (i.toNat * d.sz+j) W cur hh hfit
 obtain ⟨s1,s2,s3,s4⟩:=rH g seg (i.toNat * d.sz+j) W
 have hfar:∀ k,k≠g→(W.setCells g (i.toNat * d.sz+j) seg).heap[k]? = W.heap[k]?:=fun k hk=>rZ seg _ k hk
 -- the element's cells before are what was read
 have hcin:∀ q,q<d.sz→c[q]? = inner[i.toNat * d.sz+q]?:=by
  intro q hq
  have hq':q<c.length:=by omega
  have h6:=hcc q _ (List.getElem?_eq_getElem hq')
  rw [cell_of_row W g _ cur e (0,0) hh] at h6
  rw [List.getElem?_eq_getElem hq',← h6,← ht,List.getElem?_take,if_pos (by rw [← hn];omega),Array.getElem?_toList]
 refine ⟨⟨hok,inner.take (i.toNat * d.sz+j) ++ seg ++ inner.drop (i.toNat * d.sz+j+seg.length),⟨?_,.inr ⟨g,cap,cur',by rw [List.length_set,hn],hb,h3,by rw [List.length_set,← hn];exact hnc,hcm,by rw [h4,hcs],?_⟩⟩,?_⟩,
  ⟨s1,s2,s3,by rw [s4];exact Nat.le_refl _,fun k _ hk=>hfar k (fun he=>hk (by rw [he]))⟩⟩
 ·rw [List.length_set]
  simp only [List.length_append,List.length_take,List.length_drop]
  rw [hr.1] at hseg ⊢
  omega
 ·rw [List.length_set,← hn]
  apply List.ext_getElem?
  intro q
  rw [List.getElem?_take,h5]
  rw [zT cur.toList seg (i.toNat * d.sz+j) (by rw [Array.length_toList];omega) q,zT inner seg (i.toNat * d.sz+j) (by omega) q]
  have hcur:∀ q,q<n * d.sz→cur.toList[q]? = inner[q]?:=by
   intro q hq
   rw [← ht,List.getElem?_take,if_pos (by rw [← hn];exact hq)]
  by_cases hq:q<n * d.sz
  ·rw [if_pos hq,hcur q hq]
  ·rw [if_neg hq,if_neg (by omega),if_neg (by omega),List.getElem?_eq_none (by omega)]
 ·refine ⟨?_,fun m p hm=>?_⟩
  ·rw [List.length_set]
   simp only [List.length_append,List.length_take,List.length_drop]
   rw [hr.1] at hseg ⊢
   omega
  ·have hml:m<xs.length:=by
    have:=(List.getElem?_eq_some_iff.1 hm).1
    rwa [List.length_set] at this
   have hmfit:m * d.sz+d.sz≤inner.length:=by rw [hr.1,← Nat.succ_mul];exact Nat.mul_le_mul_right _ hml
   have hgo:some g=(Value.slice (some ⟨g,0,none⟩) n cap).ownBlock:=by simp [Value.ownBlock]
   by_cases hmi:m=i.toNat
   ·subst hmi
    rw [List.getElem?_set_self (by omega)] at hm
    injection hm with hm
    subst hm
    have hcells:((inner.take (i.toNat * d.sz+j) ++ seg ++ inner.drop (i.toNat * d.sz+j+seg.length)).drop (i.toNat * d.sz)).take d.sz=c.take j ++ seg ++ c.drop (j+seg.length):=by
     apply List.ext_getElem?
     intro q
     rw [List.getElem?_take,List.getElem?_drop,zT inner seg _ (by omega),zT c seg j (by omega) q]
     by_cases hq:q<d.sz
     ·rw [if_pos hq,hcin q hq]
      by_cases hq1:q<j
      ·rw [if_pos (by omega),if_pos hq1]
      ·rw [if_neg (by omega),if_neg hq1]
       by_cases hq2:q<j+seg.length
       ·rw [if_pos (by omega),if_pos hq2]
        congr 1
        omega
       ·rw [if_neg (by omega),if_neg hq2]
     ·rw [if_neg hq,if_neg (by omega),if_neg (by omega),List.getElem?_eq_none (by omega)]
    rw [hcells]
    refine d.M_mono (fun k hk=>?_) (d.M_move (w1:=W.setCells g (i.toNat * d.sz+j) seg) (fun k hk=>hfar k (hokp k hk).2) hM)
    exact ⟨(hokp k hk).1,fun he=>(hokp k hk).2 (by rw [← hgo] at he;injection he)⟩
   ·rw [List.getElem?_set_ne (by omega)] at hm
    have hold:=hr.2 m p hm
    have hcells:((inner.take (i.toNat * d.sz+j) ++ seg ++ inner.drop (i.toNat * d.sz+j+seg.length)).drop (m * d.sz)).take d.sz=(inner.drop (m * d.sz)).take d.sz:=by
     apply List.ext_getElem?
     intro q
     rw [List.getElem?_take,List.getElem?_take,List.getElem?_drop,List.getElem?_drop,zT inner seg _ (by omega)]
     by_cases hq:q<d.sz
     ·rw [if_pos hq,if_pos hq]
      rcases Nat.lt_or_gt_of_ne hmi with hlt | hgt
      ·have:m * d.sz+d.sz≤i.toNat * d.sz:=by rw [← Nat.succ_mul];exact Nat.mul_le_mul_right _ hlt
       rw [if_pos (by omega)]
      ·have:i.toNat * d.sz+d.sz≤m * d.sz:=by rw [← Nat.succ_mul];exact Nat.mul_le_mul_right _ hgt
       rw [if_neg (by omega),if_neg (by omega)]
     ·rw [if_neg hq,if_neg hq]
    rw [hcells]
    refine d.M_move (fun k hk=>hfar k (fun he=>hk.2 (by rw [he];exact hgo))) hold
end
end Kd
namespace Kd
section
variable {α:Type} {F:Kd α→Kd α} {sz:Nat} {E:List Nat} {hs:∀ n,(upto F sz E n).sz=sz} {hE:∀ n q,q∈(upto F sz E n).E→q∈E}
end
end Kd
namespace Kd
theorem IA {α:Type} {R:α→List Value→Prop} {size:Nat} {ps qs:List α} {cs ds:List Value} (h:Reps R size ps cs) (h':Reps R size qs ds):Reps R size (ps ++ qs) (cs ++ ds):=by
 refine ⟨by rw [List.length_append,List.length_append,h.1,h'.1,Nat.add_mul],fun j p hj=>?_⟩
 rcases Nat.lt_or_ge j ps.length with hlt | hge
 ·rw [List.getElem?_append_left hlt] at hj
  have hle:j * size+size≤cs.length:=by rw [h.1,← Nat.succ_mul];exact Nat.mul_le_mul_right _ hlt
  rw [List.drop_append_of_le_length (by omega),List.take_append_of_le_length (by rw [List.length_drop];omega)]
  exact h.2 j p hj
 ·rw [List.getElem?_append_right hge] at hj
  have h2:=h'.2 (j - ps.length) p hj
  have hle:ps.length * size≤j * size:=Nat.mul_le_mul_right _ hge
  rw [List.drop_append,List.drop_eq_nil_of_le (by rw [h.1];exact hle),List.nil_append,h.1,← Nat.sub_mul]
  exact h2
section
variable {P:Program} {ops:Array Oper} {rest:List Oper} {o:Oper} {a:Act} {Q:Exit→Act→World→Prop} {α:Type}
theorem R_append_rows (d:Kd α) {Rr:α→List Value→Prop} {w0 W:World} (base:Nat) (hgd:o.guard=none) (s x:Operand) (t e:TypeId) (z:Value) (bytes:Nat)
  (ho:o.op=.call { callee:=.builtin .append,args:=#[s,x],argTypes:=#[t,t] })
  (ht:P.underlying t=some (.slice e)) (hinfo:(P.info? e).map (fun i=>(i.zero,i.size,i.bytes))=some (some z,d.sz,bytes)) (hz:z.cells.size=d.sz) (hs0:0<d.sz) (hb0:0<bytes)
  (v:Value) (xs ys:List α) (A:Option Addr) (m c:Nat) (ok okp:Nat→Prop) (hs:a.eval s=v) (hx:a.eval x=.slice A m c)
  (HO:d.R e W base ok v xs) (HR:mW Rr d.sz W A m ys) (hKM:∀ x cs,Rr x cs→d.M W base okp x cs) (hokp:∀ k,okp k→ok k∧some k≠v.ownBlock) (hfresh:∀ k,W.heap.size≤k→ok k)
  (HB:Below base w0 W) (hbase:base≤W.heap.size) (hl:(xs.length+m) * bytes≤140737488355328)
  (h:∀ v1 w1,d.R e w1 base ok v1 (xs ++ ys)→Below base w0 w1→W.grownBy w1 v.ownBlock→(v1.ownBlock=v.ownBlock∨∃ b,v1.ownBlock=some b∧W.heap.size≤b)→wpList P ops Q rest (a.put o.dst v1) w1) :
  wpList P ops Q (o :: rest) a W:=by
 obtain ⟨i0,hi,hzz⟩:=Option.map_eq_some_iff.1 hinfo
 simp only [Prod.mk.injEq] at hzz
 obtain ⟨hz0,hz1,hz2⟩:=hzz
 have hm:ys.length=m:=HR.1
 have hlen:xs.length+m≤140737488355328:=Nat.le_trans (Nat.le_mul_of_pos_right _ hb0) hl
 obtain ⟨hok,inner,hown,hr⟩:=HO
 have hrun:∃ v1 w1,(Builtin.append_ #[t,t] o.type #[v,.slice A m c]).run P W=.ok v1 w1∧d.R e w1 base ok v1 (xs ++ ys)∧W.grownBy w1 v.ownBlock∧(v1.ownBlock=v.ownBlock∨∃ b,v1.ownBlock=some b∧W.heap.size≤b):=by
  rcases A with _ | ad
  ·have h0:m=0:=by
    rcases Nat.eq_zero_or_pos m with h0 | h0
    ·exact h0
    ·obtain ⟨ad,h,_⟩:=HR.2.2 h0
     cases h
   subst h0
   obtain rfl:ys=[]:=List.eq_nil_of_length_eq_zero hm
   refine ⟨v,W,?_,by rw [List.append_nil];exact ⟨hok,inner,hown,hr⟩,World.grownBy.refl W _,.inl rfl⟩
   rcases hown.2 with ⟨rfl,hn⟩ | ⟨g,cap,cur,rfl,_,_,hnc,_⟩
   ·simp [Builtin.append_,run_underlying ht,sizeOf,typeInfo,hi,Builtin.lenOf,Builtin.firstCells]
   ·simp [Builtin.append_,run_underlying ht,sizeOf,typeInfo,hi,Builtin.lenOf,Builtin.firstCells,hnc,storeCells]
  ·obtain ⟨news,hnr,hnc⟩:=mW.inner_ HR
   have hnM:Reps (d.M W base okp) d.sz ys news:=hnr.imp_ (fun p c hp=>hKM p c hp)
   have hone:∀ u∈news,u.oneCell'=true:=by
    intro u hu
    obtain ⟨q,hq,rfl⟩:=List.mem_iff_getElem.1 hu
    have hql:q / d.sz<ys.length:=by
     rw [Nat.div_lt_iff_lt_mul hs0]
     rw [← hnM.1]
     exact hq
    have hc:=hnM.2 (q / d.sz) _ (List.getElem?_eq_getElem hql)
    refine d.K_one (d.K_of_M hc) _ ?_
    rw [List.mem_iff_getElem?]
    refine ⟨q % d.sz,?_⟩
    rw [List.getElem?_take,if_pos (Nat.mod_lt _ hs0),List.getElem?_drop,Nat.mul_comm,Nat.div_add_mod,List.getElem?_eq_getElem hq]
   obtain ⟨v1,w1,hrun,h2,hg,_,hat⟩:=run_append_own_at (P:=P) W base t o.type e i0 z d.sz bytes ht hi hz0 hz1 hz2 hz hs0 v xs.length inner hown ad m c news (by rw [hnM.1,hm]) hnc hone (by simp only [maxLen];omega) hl hbase
   have hat':v1.ownBlock=v.ownBlock∨∃ b,v1.ownBlock=some b∧W.heap.size≤b:=by
    rcases hat with hat | hat
    ·exact .inl hat
    ·exact .inr ⟨_,hat,Nat.le_refl _⟩
   have hne:∀ k,some k≠v.ownBlock→k<W.heap.size→some k≠v1.ownBlock:=by
    intro k hk hlt
    rcases hat' with hat | ⟨b,hb,hle⟩
    ·rw [hat];exact hk
    ·rw [hb]
     intro he
     injection he with he
     omega
   have step:∀ {q:α} {c:List Value} {o:Nat→Prop},d.M W base o q c→(∀ k,o k→ok k∧some k≠v.ownBlock)→d.M w1 base (fun k=>ok k∧some k≠v1.ownBlock) q c:=by
    intro q c o hq ho
    have h1:=d.M_move (w1:=w1) (fun k hk=>hg.block k hk.2.2.1 (ho k hk.1).2) (d.M_bound hq)
    exact d.M_mono (fun k hk=>⟨(ho k hk.1).1,hne k (ho k hk.1).2 hk.2.2.1⟩) h1
   refine ⟨v1,w1,hrun,⟨fun k hk=>?_,inner ++ news,by rw [List.length_append,hm];exact h2,IA (hr.imp_ (fun _ _ hq=>step hq (fun _ hk=>hk))) (hnM.imp_ (fun _ _ hq=>step hq hokp))⟩,hg,hat'⟩
   rcases hat' with hat | ⟨b,hb,hle⟩
   ·exact hok k (hat▸hk)
   ·rw [hb] at hk
    injection hk with hk
    exact hfresh k (by omega)
 obtain ⟨v1,w1,hr1,h1,hg,hat⟩:=hrun
 refine wpList_plain hgd fun K hK=>?_
 unfold Oper.wp execOp
 simp only [ho,resolve,invoke,builtin,Sem.run_bind,Sem.run_pure,Result.andThen_ok,List.map_toArray,List.map_cons,List.map_nil,hs,hx,hr1]
 exact hK _ _ (h v1 w1 h1 (HB.grown hg hbase (own_base hown)) hg hat)
end
end Kd
namespace Kd
section
variable {P:Program} {ops:Array Oper} {rest:List Oper} {o:Oper} {a:Act} {Q:Exit→Act→World→Prop} {α:Type}
end
end Kd
theorem add_add (a:Addr) (i j:Nat):(a.add i).add j=a.add (i+j):=by
 unfold Addr.add
 by_cases h1:i=0 <;> by_cases h2:j=0 <;> simp [h1,h2,Nat.add_assoc]
namespace Kd
section
variable {α:Type} {k:Kd α} {w:World} {A:Option Addr} {xs:List α} {m c:Nat}
theorem C_take (h:k.C w A xs.length xs) (hm:m≤xs.length):k.C w A (xs.take m).length (xs.take m):=by
 have hl:(xs.take m).length=m:=by rw [List.length_take];omega
 refine ⟨rfl,by rw [hl];have:=h.2.1;omega,fun hp=>?_⟩
 obtain ⟨ad,e,hc⟩:=h.2.2 (by omega)
 refine ⟨ad,e,fun j p hj=>hc j p ?_⟩
 rw [List.getElem?_take] at hj
 split at hj
 ·exact hj
 ·cases hj
theorem C_drop (h:k.C w A xs.length xs) (hm:m≤xs.length) (hc:xs.length≤c):k.C w (if c=m then A else A.map (·.add (m * k.sz))) (xs.drop m).length (xs.drop m):=by
 have hl:(xs.drop m).length=xs.length - m:=List.length_drop
 refine ⟨rfl,by rw [hl];have:=h.2.1;omega,fun hp=>?_⟩
 rw [hl] at hp
 obtain ⟨ad,rfl,hcell⟩:=h.2.2 (by omega)
 rw [if_neg (by omega)]
 refine ⟨ad.add (m * k.sz),rfl,fun j p hj=>?_⟩
 rw [List.getElem?_drop] at hj
 obtain ⟨cs,h1,h2,h3⟩:=hcell (m+j) p hj
 refine ⟨cs,h1,h2,fun i u hu=>?_⟩
 rw [add_add,show m * k.sz+(j * k.sz+i)=(m+j) * k.sz+i by rw [Nat.add_mul];omega]
 exact h3 i u hu
theorem C_mid {lo hi:Nat} (h:k.C w A xs.length xs) (h1:lo≤hi) (h2:hi≤xs.length) (hc:xs.length≤c):k.C w (if c=lo then A else A.map (·.add (lo * k.sz))) ((xs.take hi).drop lo).length ((xs.take hi).drop lo):=by
 have hl:(xs.take hi).length=hi:=by rw [List.length_take];omega
 exact C_drop (C_take h h2) (by omega) (by omega)
end
end Kd
section
variable {P:Program}
theorem ji1 (t e:TypeId) (kl kh:IntKind) {i:TypeInfo} (ht:P.underlying t=some (.slice e)) (hi:P.info? e=some i) (size:Nat) (hsz:i.size=size) (A:Option Addr) (n c:Nat) (lo hi':Int) (h0:0≤lo) (h1:lo≤hi') (h2:hi'≤n) (hc:n≤c) :
  ∀ W:World,(Instr.slice t (.slice A n c) (some (.int kl lo)) (some (.int kh hi')) none).run P W=.ok (.slice (if c=lo.toNat then A else A.map (·.add (lo.toNat * size))) (hi'.toNat - lo.toNat) (c - lo.toNat)) W:=by
 intro W
 have hel:P.elem t=e:=by simp [Program.elem,ht]
 have hu:P.underlying t=some (.slice (P.elem t)):=by rw [hel];exact ht
 rw [run_slice_lh W t A n c hu kl kh lo hi' h0 h1 (by omega),hel]
 simp [sizeOf,typeInfo,hi,hsz,sliced,Result.andThen]
end
theorem uD {P:Program} {w:World} {src dst e:TypeId} {A:Option Addr} {n c:Nat} {xs:List Int} (hs:P.underlying src=some (.slice e)) (he:P.underlying e=some (.int .u8)) (hd:P.underlying dst=some .string)
  (h:TS w .u8 A n xs):(convert src dst (.slice A n c)).run P w=.ok (.string (strOfNums xs)) w:=by
 have hn:xs.length=n:=h.1
 rcases A with _ | ad
 ·have h0:n=0:=by
   rcases Nat.eq_zero_or_pos n with h0 | h0
   ·exact h0
   ·obtain ⟨ad,h',_⟩:=h.2.2 h0
    cases h'
  subst h0
  obtain rfl:xs=[]:=List.eq_nil_of_length_eq_zero hn
  exact run_convert_bytes_nil w src e hs he 0 c dst hd
 ·have hl:(loadCells ad n).run P w=.ok (xs.map (Value.int .u8)).toArray w:=by
   have:=run_loadCells_list (P:=P) w ad (xs.map (Value.int .u8)) (fun j v hj=>by
    have hjl:j<xs.length:=by
     rcases Nat.lt_or_ge j xs.length with h' | h'
     ·exact h'
     ·rw [List.getElem?_eq_none (by rw [List.length_map];exact h')] at hj
      cases hj
    obtain ⟨ad',he',hc⟩:=h.2.2 (by omega)
    injection he' with he'
    subst he'
    rw [hc j (by omega)]
    rw [List.getElem?_map,List.getElem?_eq_getElem hjl] at hj
    simp at hj
    subst hj
    simp [List.getD_eq_getElem?_getD,List.getElem?_eq_getElem hjl])
   simpa [hn] using this
  rw [run_convert_bytes_string w src dst e _ n c hs he hd,run_bytesToString w ad n c xs hl,foldl_push_bytes]
  simp [strOfNums,ByteArray.empty,ByteArray.emptyWithCapacity]
  rfl
theorem Kd.C_string {P:Program} {w:World} {src dst e:TypeId} {A:Option Addr} {n c:Nat} {xs:List Int} (hs:P.underlying src=some (.slice e)) (he:P.underlying e=some (.int .u8)) (hd:P.underlying dst=some .string)
  (h:(Kd.int .u8).C w A n xs):(convert src dst (.slice A n c)).run P w=.ok (.string (strOfNums xs)) w :=
 uD hs he hd (Kd.reads_of_C (enc:=Value.int .u8) (d:=(0:Int)) (h1:=fun _=>rfl) h)
theorem iT {w W:World} (h:Below w.heap.size w W):w.heap.size≤W.heap.size:=h.size
theorem iH {w W w2:World} (h:Below w.heap.size w W) (k:Below W.heap.size W w2):Below w.heap.size w w2:=VL h h.size k
theorem iL {w W:World} {g j:Nat} {v:Value} (h:Below w.heap.size w W) (hg:w.heap.size≤g):Below w.heap.size w (W.setCell ⟨g,j,none⟩ v):=h.setCell hg _
theorem X6 {w W:World} {g:Nat} (h:QA w W g none) {a:Addr} {v:Value} (hc:w.cell? a=some v) (hne:a.block≠g):W.cell? a=some v:=by
 have:=h.2 a.block (World.block_lt_of_cell? w a hc) hne (by simp)
 simpa [World.cell?,this] using hc
theorem add_block (a:Addr) (i:Nat):(a.add i).block=a.block:=by unfold Addr.add;split <;> rfl
theorem rG.keep {α:Type} {enc:α→Value} {d:α} {w W:World} {A:Option Addr} {n g:Nat} {xs:List α} (h:rG enc d w A n xs) (hk:QA w W g none) (hf:∀ ad,A=some ad→0<n→ad.block≠g):rG enc d W A n xs :=
 ⟨h.1,h.2.1,fun hn=>by
  obtain ⟨ad,e,hc⟩:=h.2.2 hn
  exact ⟨ad,e,fun j hj=>X6 hk (hc j hj) (by rw [add_block];exact hf ad e hn)⟩⟩
theorem jU {w:World} {g:Nat} {t:TypeId} {cs cs':Array Value} (h:w.heap[g]? = some (.cells cs t (0,0))) (i:Nat) (u:Value) (e:cs.setIfInBounds i u=cs'):(w.setCell ⟨g,i,none⟩ u).heap[g]? = some (.cells cs' t (0,0)):=e▸X8 h i u
theorem iQ {base:Nat} {w W:World} (h:Below base w W):Below base w W.drew:=h.drew
namespace Kd
section
variable {α β:Type} {d:Kd α} {d':Kd β} {e e' base base' n:Nat} {ok ok':Nat→Prop} {w W w1 W1:World} {v u:Value} {xs:List α} {ys:List β} {A:Option Addr} {c:Nat}
end
section
variable {α:Type} {enc:α→Value} {h1:∀ x,(enc x).oneCell'=true} {w W:World} {A:Option Addr} {n g:Nat} {xs:List α}
theorem C_keep (d:α) (h:(scalar enc h1).C w A n xs) (hk:QA w W g none) (hf:∀ ad,A=some ad→0<n→ad.block≠g):(scalar enc h1).C W A n xs:=VE (rG.keep (reads_of_C (d:=d) h) hk hf)
end
end Kd
namespace Kd
section
variable {α:Type} {d:Kd α} {e base g:Nat} {ok:Nat→Prop} {w w1:World} {v:Value} {xs:List α} {o:Obj}
theorem R_elderB (h:d.R e w base ok v xs) (a:Nat) (ha:w.heap.size≤a):d.R e w base (fun k=>ok k∧k≠a) v xs:=R_mono (R_bound h) (fun k hk=>⟨hk.1,by have:=hk.2.2.1;omega⟩)
theorem freshB (hb:w.heap[g]? = some o):∀ k,w.heap.size≤k→k≠g:=fun k hk=>by have:=jH hb;omega
end
end Kd
section
variable {P:Program} {ops:Array Oper} {rest:List Oper} {o:Oper} {a:Act} {Q:Exit→Act→World→Prop}
theorem jW {W:World} (hgd:o.guard=none) {N:Tmp} (_hd:o.dst=some N) {cs:Array Value} {t:TypeId}
  (hrun:(execOp a.eval o).run P W=.ok (.value (.pointer (some ⟨W.heap.size,0,none⟩))) (W.alloc (.cells cs t (0,0))))
  (h:∀ g,g=W.heap.size→∀ w1,w1.heap[g]? = some (.cells cs t (0,0))→Below W.heap.size W w1→wpList P ops Q rest (a.put o.dst (.pointer (some ⟨g,0,none⟩))) w1):wpList P ops Q (o :: rest) a W :=
 Kd.event_run hgd hrun (h _ rfl _ (ji_ W _) (iD (Below.refl _ _) _))
end
namespace Kd
section
variable {α:Type} {enc:α→Value} {h1:∀ x,(enc x).oneCell'=true} {e base g n cap:Nat} {ok:Nat→Prop} {W:World} {xs:List α}
end
end Kd
section
variable {P:Program} {ops:Array Oper} {rest:List Oper} {o:Oper} {a:Act} {Q:Exit→Act→World→Prop}
end
namespace Kd
section
variable {α:Type} {enc:α→Value} {h1:∀ x,(enc x).oneCell'=true} {e base g n cap:Nat} {ok:Nat→Prop} {W:World} {xs:List α}
end
end Kd
section
variable {P:Program} {ops:Array Oper} {rest:List Oper} {o:Oper} {a:Act} {Q:Exit→Act→World→Prop} {W:World}
theorem kJ {N:Tmp} (_hN:o.dst=some N) (h:wpList P ops Q (o :: rest) a W):wpList P ops Q (o :: rest) a W:=h
end
section
variable {P:Program} {ops:Array Oper} {o:Oper} {a:Act} {Q:Exit→Act→World→Prop} {Kc:Act→World→Prop}
namespace Kd
variable {α:Type}
end Kd
end
section
variable {P:Program} {tmps:Array Value} {w:World}
end
namespace Kd
section
variable {P:Program} {α:Type}
end
section
variable {P:Program} {ops:Array Oper} {rest:List Oper} {o:Oper} {a:Act} {Q:Exit→Act→World→Prop} {Kc:Act→World→Prop} {α:Type}
end
end Kd
end Go.Proofs.YtgfkgppomaapiaaGreatDoorW.PrintWords
end
section
namespace Go.Proofs.YtgfkgppomaapiaaGreatDoorW.PrintLast
section
variable {P:Program} {ops:Array Oper} {Q:Exit→Act→World→Prop} {md:Region.Mode} {S:World→Prop} {ds:List Nat}
def Region.reachB (md:Region.Mode) (ops:Array Oper) (i:Nat):Nat→Nat→Bool
 | 0,_=>false
 | fuel+1,d=>match ops[d]? with
  | some o=>o.after.any fun e=>Region.binds md e && (e.on == i || Region.reachB md ops i fuel e.on)
  | none=>false
def Region.closedB (md:Region.Mode) (ops:Array Oper) (listed:Array Bool):Bool :=
 (List.range ops.size).all fun j=>!listed.getD j false || match ops[j]? with
  | some o=>o.after.all fun e=>!Region.binds md e || listed.getD e.on false
  | none=>true
def Region.lastB (md:Region.Mode) (ops:Array Oper) (listed:Array Bool) (ds:List Nat) (i:Nat):Bool :=
 ds.all fun d=>listed.getD d true || Region.reachB md ops i ops.size d
def nG (md:Region.Mode) (ops:Array Oper) (listed:Array Bool):Prop :=
 ∀ j oj,ops[j]? = some oj→listed.getD j false=true→∀ e∈oj.after,Region.binds md e=true→listed.getD e.on false=true
theorem Region.closedB_spec {listed:Array Bool} (h:Region.closedB md ops listed=true):nG md ops listed:=by
 intro j oj hj hl e he hb
 have hlt:j<ops.size:=(Array.getElem?_eq_some_iff.1 hj).1
 have h1:=List.all_eq_true.1 h j (List.mem_range.2 hlt)
 simp only [hl,hj,Bool.not_true,Bool.false_or] at h1
 have h2:=Array.all_eq_true_iff_forall_mem.1 h1 e he
 simpa [hb] using h2
theorem nG.set {listed:Array Bool} {i:Nat} (h:nG md ops listed) (hi:i∈Region.ready md ops listed):nG md ops (listed.setIfInBounds i true):=by
 obtain ⟨_,oi,hoi,hall⟩:=mem_ready.1 hi
 intro j oj hj hl e he hb
 by_cases hij:i=j
 ·subst hij
  have:oj=oi:=Option.some.inj (hj.symm.trans hoi)
  subst this
  exact getD_set_true (hall e he hb)
 ·rw [getD_set_ne false hij] at hl
  exact getD_set_true (h j oj hj hl e he hb)
theorem Region.reach_listed {listed:Array Bool} {i:Nat} (hc:nG md ops listed):∀ (fuel d:Nat),Region.reachB md ops i fuel d=true→listed.getD d false=true→listed.getD i false=true
 | 0,_,h,_=>by simp [Region.reachB] at h
 | fuel+1,d,h,hl=>by
  unfold Region.reachB at h
  cases ho:ops[d]? with
  | none=>rw [ho] at h;simp at h
  | some o =>
   rw [ho] at h
   obtain ⟨e,he,h1⟩:=Array.any_eq_true'.1 h
   simp only [Bool.and_eq_true,Bool.or_eq_true,beq_iff_eq] at h1
   have hle:=hc d o ho hl e he h1.1
   rcases h1.2 with h2 | h2
   ·rw [← h2];exact hle
   ·exact Region.reach_listed hc fuel e.on h2 hle
theorem Region.reach_not_ready {listed:Array Bool} {i d fuel:Nat} (hc:nG md ops listed) (hr:Region.reachB md ops i fuel d=true) (hun:listed.getD i true=false):d ∉ Region.ready md ops listed:=by
 intro hd
 obtain ⟨_,o,ho,hall⟩:=mem_ready.1 hd
 have hi:listed.getD i false=true:=by
  cases fuel with
  | zero=>simp [Region.reachB] at hr
  | succ n =>
   unfold Region.reachB at hr
   rw [ho] at hr
   obtain ⟨e,he,h1⟩:=Array.any_eq_true'.1 hr
   simp only [Bool.and_eq_true,Bool.or_eq_true,beq_iff_eq] at h1
   have hle:=hall e he h1.1
   rcases h1.2 with h2 | h2
   ·rw [← h2];exact hle
   ·exact Region.reach_listed hc n e.on h2 hle
 rcases Nat.lt_or_ge i listed.size with h' | h'
 ·simp [h'] at hun hi
  rw [hun] at hi
  cases hi
 ·simp [Array.getElem?_eq_none h'] at hun
def jL (P:Program) (md:Region.Mode) (ops:Array Oper) (Q:Exit→Act→World→Prop) (S:World→Prop) (ds:List Nat):Nat→Array Bool→Act→World→Prop
 | 0,listed,a,w=>Region.ready md ops listed=[]∧Q .normal a w
 | fuel+1,listed,a,w =>
  (Region.ready md ops listed=[]→Q .normal a w) ∧
  ∀ i∈Region.ready md ops listed,wpOp P ops Q i (fun a' w'=>(i ∉ ds→S w→S w')∧jL P md ops Q S ds fuel (listed.setIfInBounds i true) a' w') a w
theorem xI:∀ (fuel:Nat) (listed:Array Bool) (a:Act) (w:World),jL P md ops Q S ds fuel listed a w→wpAny P md ops Q fuel listed a w
 | 0,_,_,_,h=>h
 | fuel+1,_,_,_,h=>⟨h.1,fun i hi=>wpOp_mono (fun a' w' h'=>xI fuel _ a' w' h'.2) (h.2 i hi)⟩
theorem IQ {i:Nat} {oi:Oper} {v:Value} (hi:ops[i]? = some oi) (hsel:∀ (j:Nat) (o:Oper) cs b,ops[j]? = some o→o.op≠.select cs b)
  (hQ:∀ c a w,Q (.panic c) (a.put oi.dst v) w→Q (.panic c) a w) (n:Nat) :
  ∀ (fuel:Nat) (listed:Array Bool) (a:Act) (w:World),
   (∀ j oj,ops[j]? = some oj→j≠i→listed.getD j true=false→(∀ e∈oj.after,Region.binds md e=true→e.on≠i)→oi.apart ops oj=true) →
   nG md ops listed→(∀ d∈ds,listed.getD d true=false→Region.reachB md ops i n d=true) →
   i∈Region.ready md ops listed→YieldsIf P ops S oi v a→S w →
   jL P md ops Q S ds fuel (listed.setIfInBounds i true) (a.put oi.dst v) w→jL P md ops Q S ds (fuel+1) listed a w:=by
 intro fuel
 induction fuel with
 | zero =>
  intro listed a w _ _ _ hr hy hS H
  refine ⟨fun h=>(by rw [h] at hr;cases hr),fun j hj=>?_⟩
  by_cases hji:j=i
  ·subst hji;exact hy.wpOp hi hS ⟨fun _ h=>h,H⟩
  ·have:=ready_mono hj hji
   rw [H.1] at this
   cases this
 | succ fuel ih =>
  intro listed a w hfree hc hd hr hy hS H
  refine ⟨fun h=>(by rw [h] at hr;cases hr),fun j hj=>?_⟩
  by_cases hji:j=i
  ·subst hji;exact hy.wpOp hi hS ⟨fun _ h=>h,H⟩
  ·have h1:=H.2 j (ready_mono hj hji)
   obtain ⟨hjun,oj,hoj,hall⟩:=mem_ready.1 hj
   have hiun:=(mem_ready.1 hr).1
   have hnot:∀ e∈oj.after,Region.binds md e=true→e.on≠i:=fun e he hb heq=>by
    have h1:=hall e he hb
    rw [heq] at h1
    rcases Nat.lt_or_ge i listed.size with h' | h'
    ·simp [h'] at hiun h1;rw [hiun] at h1;cases h1
    ·simp [Array.getElem?_eq_none h'] at h1
   have hjd:j ∉ ds:=fun hm=>Region.reach_not_ready hc (hd j hm hjun) hiun hj
   have h2:=wpOp_putIf hoj (hfree j oj hoj hji hjun hnot) (fun cs b=>hsel i oi cs b hi) (fun cs b=>hsel j oj cs b hoj) hQ hy h1
   have hfree':∀ k ok,ops[k]? = some ok→k≠i→(listed.setIfInBounds j true).getD k true=false →
     (∀ e∈ok.after,Region.binds md e=true→e.on≠i)→oi.apart ops ok=true:=fun k ok hk hki hun hno=>by
    refine hfree k ok hk hki ?_ hno
    by_cases hjk:j=k
    ·subst hjk;exact hjun
    ·rw [getD_set_ne true hjk] at hun;exact hun
   have hd':∀ d∈ds,(listed.setIfInBounds j true).getD d true=false→Region.reachB md ops i n d=true:=fun d hm hun=>by
    refine hd d hm ?_
    by_cases hjk:j=d
    ·subst hjk;exact hjun
    ·rw [getD_set_ne true hjk] at hun;exact hun
   refine wpOp_mono (fun a' w' h3=>⟨h3.2.1,ih (listed.setIfInBounds j true) a' w' hfree' (hc.set hj) hd' (ready_mono hr (Ne.symm hji)) h3.1 (h3.2.1 hjd hS) ?_⟩) h2
   rw [Array.setIfInBounds_comm _ _ hji]
   exact h3.2.2
theorem NC {i:Nat} {oi:Oper} {v:Value} (hi:ops[i]? = some oi) (hsel:∀ (j:Nat) (o:Oper) cs b,ops[j]? = some o→o.op≠.select cs b)
  (hQ:∀ c a w,Q (.panic c) (a.put oi.dst v) w→Q (.panic c) a w) :
  ∀ (fuel:Nat) (listed:Array Bool) (a:Act) (w:World),
   (∀ j oj,ops[j]? = some oj→j≠i→listed.getD j true=false→(∀ e∈oj.after,Region.binds md e=true→e.on≠i)→oi.apart ops oj=true) →
   i∈Region.ready md ops listed→Yields P ops oi v a →
   jL P md ops Q S ds fuel (listed.setIfInBounds i true) (a.put oi.dst v) w→jL P md ops Q S ds (fuel+1) listed a w:=by
 intro fuel
 induction fuel with
 | zero =>
  intro listed a w _ hr hy H
  refine ⟨fun h=>(by rw [h] at hr;cases hr),fun j hj=>?_⟩
  by_cases hji:j=i
  ·subst hji;exact (hy.yieldsIf (S:=fun _=>True)).wpOp hi trivial ⟨fun _ h=>h,H⟩
  ·have:=ready_mono hj hji
   rw [H.1] at this
   cases this
 | succ fuel ih =>
  intro listed a w hfree hr hy H
  refine ⟨fun h=>(by rw [h] at hr;cases hr),fun j hj=>?_⟩
  by_cases hji:j=i
  ·subst hji;exact (hy.yieldsIf (S:=fun _=>True)).wpOp hi trivial ⟨fun _ h=>h,H⟩
  ·have h1:=H.2 j (ready_mono hj hji)
   obtain ⟨hjun,oj,hoj,hall⟩:=mem_ready.1 hj
   have hiun:=(mem_ready.1 hr).1
   have hnot:∀ e∈oj.after,Region.binds md e=true→e.on≠i:=fun e he hb heq=>by
    have h1:=hall e he hb
    rw [heq] at h1
    rcases Nat.lt_or_ge i listed.size with h' | h'
    ·simp [h'] at hiun h1;rw [hiun] at h1;cases h1
    ·simp [Array.getElem?_eq_none h'] at h1
   have h2:=wpOp_put hoj (hfree j oj hoj hji hjun hnot) (fun cs b=>hsel i oi cs b hi) (fun cs b=>hsel j oj cs b hoj) hQ hy h1
   have hfree':∀ k ok,ops[k]? = some ok→k≠i→(listed.setIfInBounds j true).getD k true=false →
     (∀ e∈ok.after,Region.binds md e=true→e.on≠i)→oi.apart ops ok=true:=fun k ok hk hki hun hno=>by
    refine hfree k ok hk hki ?_ hno
    by_cases hjk:j=k
    ·subst hjk;exact hjun
    ·rw [getD_set_ne true hjk] at hun;exact hun
   refine wpOp_mono (fun a' w' h3=>⟨h3.2.1,ih (listed.setIfInBounds j true) a' w' hfree' (ready_mono hr (Ne.symm hji)) h3.1 ?_⟩) h2
   rw [Array.setIfInBounds_comm _ _ hji]
   exact h3.2.2
theorem J6 {i:Nat} {oi:Oper} {v:Value} {fuel:Nat} {listed:Array Bool} {a:Act} {w:World} (hi:ops[i]? = some oi)
  (hs:Region.noSelect ops=true) (hf:Region.free md ops listed i=true) (hr:(Region.ready md ops listed).contains i=true)
  (hc:Region.closedB md ops listed=true) (hl:Region.lastB md ops listed ds i=true)
  (hQ:∀ c a w,Q (.panic c) (a.put oi.dst v) w→Q (.panic c) a w) (hy:YieldsIf P ops S oi v a) (hS:S w)
  (h:jL P md ops Q S ds fuel (listed.setIfInBounds i true) (a.put oi.dst v) w):jL P md ops Q S ds (fuel+1) listed a w :=
 IQ hi (Region.noSelect_spec hs) hQ ops.size fuel listed a w (Region.free_spec hi hf) (Region.closedB_spec hc)
  (fun d hm hun=>by have:=List.all_eq_true.1 hl d hm;rw [hun] at this;simpa using this) (by simpa using hr) hy hS h
theorem MV {rs:List Nat} {fuel:Nat} {listed:Array Bool} {a:Act} {w:World} (hr:Region.ready md ops listed=rs) (hne:rs≠[])
  (h:∀ i∈rs,wpOp P ops Q i (fun a' w'=>(i ∉ ds→S w→S w')∧jL P md ops Q S ds fuel (listed.setIfInBounds i true) a' w') a w):jL P md ops Q S ds (fuel+1) listed a w :=
 ⟨fun h0=>absurd (hr▸h0) hne,hr▸h⟩
theorem J7 {listed:Array Bool} {a:Act} {w:World} (hr:Region.ready md ops listed=[]) (h:Q .normal a w) :
  ∀ fuel,jL P md ops Q S ds fuel listed a w
 | 0=>⟨hr,h⟩
 | _+1=>⟨fun _=>h,by rw [hr];simp⟩
theorem J9 {id:Nat} {a:Act} {w:World} (hm:P.follows .mixedOrders=true)
  (h:jL P .any ops Q S ds ops.size (Array.replicate ops.size false) a { w with drawn:=w.drawn+1 }):(Code.region id ops true).wp P Q a w :=
 wp_region_any hm (xI _ _ _ _ h)
end
section
variable {P:Program} {ops:Array Oper} {Q:Exit→Act→World→Prop} {md:Region.Mode} {S:World→Prop} {ds:List Nat}
def lH (P:Program) (md:Region.Mode) (ops:Array Oper) (Q:Exit→Act→World→Prop) (S:World→Prop) (ds:List Nat) (fuel:Nat) (listed:Array Bool) (a:Act) (w:World) (rs:List Nat):Prop :=
 ∀ i∈rs,wpOp P ops Q i (fun a' w'=>(i ∉ ds→S w→S w')∧jL P md ops Q S ds fuel (listed.setIfInBounds i true) a' w') a w
theorem lH.nil {fuel:Nat} {listed:Array Bool} {a:Act} {w:World}:lH P md ops Q S ds fuel listed a w []:=fun _ h=>by cases h
theorem lH.cons {fuel:Nat} {listed:Array Bool} {a:Act} {w:World} {i:Nat} {o:Oper} {rs:List Nat} (ho:ops[i]? = some o) (hd:i ∉ ds)
  (h:∀ K':Act→World→Prop,Shut (∀ a w,S w→(S w→jL P md ops Q S ds fuel (listed.setIfInBounds i true) a w)→K' a w)→if Region.wanted o (yielded ops a.tmps)=true then Oper.wp P o a w K' Q else K' (a.put o.dst undef) w)
  (hs:lH P md ops Q S ds fuel listed a w rs):lH P md ops Q S ds fuel listed a w (i :: rs):=fun j hj=>by
 rcases List.mem_cons.1 hj with rfl | hj
 ·exact wpOp_step ho (fun K' hK=>h K' (fun a w hS hW=>hK a w ⟨fun _ _=>hS,hW hS⟩))
 ·exact hs j hj
theorem lH.cons_last {fuel:Nat} {listed:Array Bool} {a:Act} {w:World} {i:Nat} {o:Oper} {rs:List Nat} (ho:ops[i]? = some o) (hd:i∈ds)
  (h:∀ K':Act→World→Prop,Shut (∀ a w,jL P md ops Q S ds fuel (listed.setIfInBounds i true) a w→K' a w)→if Region.wanted o (yielded ops a.tmps)=true then Oper.wp P o a w K' Q else K' (a.put o.dst undef) w)
  (hs:lH P md ops Q S ds fuel listed a w rs):lH P md ops Q S ds fuel listed a w (i :: rs):=fun j hj=>by
 rcases List.mem_cons.1 hj with rfl | hj
 ·exact wpOp_step ho (fun K' hK=>h K' (fun a w hW=>hK a w ⟨fun hn=>absurd hd hn,hW⟩))
 ·exact hs j hj
theorem qA {rs:List Nat} {fuel:Nat} {listed:Array Bool} {a:Act} {w:World} (hr:Region.ready md ops listed=rs) (hne:rs≠[])
  (h:lH P md ops Q S ds fuel listed a w rs):jL P md ops Q S ds (fuel+1) listed a w:=MV hr hne h
theorem qJ {id n:Nat} {a:Act} {w:World} (l:Array Bool) (hm:P.follows .mixedOrders=true) (hn:ops.size=n) (hl:Array.replicate n false=l) (hS:S w.drew)
  (h:S w.drew→jL P .any ops Q S ds n l a w.drew):(Code.region id ops true).wp P Q a w:=by
 subst hn
 subst hl
 exact J9 hm (h hS)
def takeB (md:Region.Mode) (ops:Array Oper) (ds:List Nat) (l l':Array Bool) (i:Nat):Bool :=
 Region.noSelect ops && Region.free md ops l i && (Region.ready md ops l).contains i && Region.closedB md ops l && Region.lastB md ops l ds i && (l.setIfInBounds i true == l')
theorem qP {i:Nat} {N:Option Tmp} {oi:Oper} {v:Value} {fuel:Nat} {l:Array Bool} {a:Act} {w:World} (l':Array Bool) (hi:ops[i]? = some oi) (hN:oi.dst=N) (hc:takeB md ops ds l l' i=true)
  (hQ:∀ c a w,Q (.panic c) (a.put oi.dst v) w→Q (.panic c) a w) (hy:YieldsIf P ops S oi v a) (hS:S w) {a':Act} (ha:a.put N v=a')
  (h:jL P md ops Q S ds fuel l' a' w):jL P md ops Q S ds (fuel+1) l a w:=by
 subst ha
 subst hN
 simp only [takeB,Bool.and_eq_true,beq_iff_eq] at hc
 obtain ⟨⟨⟨⟨⟨h1,h2⟩,h3⟩,h4⟩,h5⟩,h6⟩:=hc
 subst h6
 exact J6 hi h1 h2 h3 h4 h5 hQ hy hS h
def anyB (md:Region.Mode) (ops:Array Oper) (l l':Array Bool) (i:Nat):Bool :=
 Region.noSelect ops && Region.free md ops l i && (Region.ready md ops l).contains i && (l.setIfInBounds i true == l')
theorem jK {i:Nat} {N:Option Tmp} {oi:Oper} {v:Value} {fuel:Nat} {l:Array Bool} {a:Act} {w:World} (l':Array Bool) (hi:ops[i]? = some oi) (hN:oi.dst=N) (hc:anyB md ops l l' i=true)
  (hQ:∀ c a w,Q (.panic c) (a.put oi.dst v) w→Q (.panic c) a w) (hy:Yields P ops oi v a) {a':Act} (ha:a.put N v=a')
  (h:jL P md ops Q S ds fuel l' a' w):jL P md ops Q S ds (fuel+1) l a w:=by
 subst ha
 subst hN
 simp only [anyB,Bool.and_eq_true,beq_iff_eq] at hc
 obtain ⟨⟨⟨h1,h2⟩,h3⟩,h6⟩:=hc
 subst h6
 exact NC hi (Region.noSelect_spec h1) hQ fuel l a w (Region.free_spec hi h2) (by simpa using h3) hy h
def L8 (md:Region.Mode) (ops:Array Oper) (l l':Array Bool) (i:Nat):Bool:=(Region.ready md ops l == [i]) && (l.setIfInBounds i true == l')
theorem one_ {i:Nat} {N:Option Tmp} {oi:Oper} {fuel:Nat} {l:Array Bool} {a:Act} {w:World} (l':Array Bool) (hi:ops[i]? = some oi) (hN:oi.dst=N) (hc:L8 md ops l l' i=true) (hd:i ∉ ds)
  (h:∀ K:Act→World→Prop,Shut (∀ a' w',S w'→(S w'→jL P md ops Q S ds fuel l' a' w')→K a' w')→if Region.wanted oi (yielded ops a.tmps)=true then Oper.wp P oi a w K Q else K (a.put N undef) w) :
  jL P md ops Q S ds (fuel+1) l a w:=by
 subst hN
 simp only [L8,Bool.and_eq_true,beq_iff_eq] at hc
 obtain ⟨h1,h2⟩:=hc
 subst h2
 exact qA h1 (by simp) (lH.cons hi hd (fun K hK=>h K hK) lH.nil)
theorem jd0 {i:Nat} {N:Option Tmp} {oi:Oper} {fuel:Nat} {l:Array Bool} {a:Act} {w:World} (l':Array Bool) (hi:ops[i]? = some oi) (hN:oi.dst=N) (hc:L8 md ops l l' i=true) (hd:i∈ds)
  (h:∀ K:Act→World→Prop,Shut (∀ a' w',jL P md ops Q S ds fuel l' a' w'→K a' w')→if Region.wanted oi (yielded ops a.tmps)=true then Oper.wp P oi a w K Q else K (a.put N undef) w) :
  jL P md ops Q S ds (fuel+1) l a w:=by
 subst hN
 simp only [L8,Bool.and_eq_true,beq_iff_eq] at hc
 obtain ⟨h1,h2⟩:=hc
 subst h2
 exact qA h1 (by simp) (lH.cons_last hi hd (fun K hK=>h K hK) lH.nil)
theorem zI {l:Array Bool} {a:Act} {w:World} {n:Nat} (hr:(Region.ready md ops l == [])=true) (h:Q .normal a w):jL P md ops Q S ds n l a w:=J7 (by simpa using hr) h n
theorem two_ {i j:Nat} {Ni Nj:Option Tmp} {oi oj:Oper} {fuel:Nat} {l:Array Bool} {a:Act} {w:World} (li lj:Array Bool) (hi:ops[i]? = some oi) (hj:ops[j]? = some oj) (hNi:oi.dst=Ni) (hNj:oj.dst=Nj)
  (hc:(Region.ready md ops l == [i,j] && l.setIfInBounds i true == li && l.setIfInBounds j true == lj)=true) (hdi:i ∉ ds) (hdj:j ∉ ds)
  (h1:∀ K:Act→World→Prop,Shut (∀ a' w',S w'→(S w'→jL P md ops Q S ds fuel li a' w')→K a' w')→if Region.wanted oi (yielded ops a.tmps)=true then Oper.wp P oi a w K Q else K (a.put Ni undef) w)
  (h2:∀ K:Act→World→Prop,Shut (∀ a' w',S w'→(S w'→jL P md ops Q S ds fuel lj a' w')→K a' w')→if Region.wanted oj (yielded ops a.tmps)=true then Oper.wp P oj a w K Q else K (a.put Nj undef) w) :
  jL P md ops Q S ds (fuel+1) l a w:=by
 subst hNi
 subst hNj
 simp only [Bool.and_eq_true,beq_iff_eq] at hc
 obtain ⟨⟨h3,h4⟩,h5⟩:=hc
 subst h4
 subst h5
 exact qA h3 (by simp) (lH.cons hi hdi (fun K hK=>h1 K hK) (lH.cons hj hdj (fun K hK=>h2 K hK) lH.nil))
def uC:Act→List (Tmp × Value)→Act
 | a,[]=>a
 | a,(n,v) :: r=>uC (a.put (some n) v) r
theorem jm9 {σ:Type} {fuel:Nat} {l:Array Bool} {a:Act} {w:World} (fuel':Nat) (l':Array Bool) (ns:σ→List (Tmp × Value)) (F:σ→World→Prop)
  (hcont:∀ s w',F s w'→jL P md ops Q S ds fuel' l' (uC a (ns s)) w')
  (h:(∀ s w',F s w'→jL P md ops Q S ds fuel' l' (uC a (ns s)) w')→jL P md ops Q S ds fuel l a w):jL P md ops Q S ds fuel l a w:=h hcont
theorem lL {fuel:Nat} {l:Array Bool} {a a':Act} {w:World} (ha:a=a') (h:jL P md ops Q S ds fuel l a' w):jL P md ops Q S ds fuel l a w:=by
 subst ha
 exact h
theorem call_ {oi:Oper} {N:Option Tmp} {a:Act} {w:World} {K:Act→World→Prop} (f:FuncId) (args:Array Value) (hw:Region.wanted oi (yielded ops a.tmps)=true) (hN:oi.dst=N) (hrun:(execOp a.eval oi).run P w=.ok (.enter f args) w)
  (h:Calls P f args w fun e w'=>∃ v,e=.returned v∧K (a.put N v) w'):if Region.wanted oi (yielded ops a.tmps)=true then Oper.wp P oi a w K Q else K (a.put N undef) w:=by
 rw [if_pos hw]
 subst hN
 unfold Oper.wp
 rw [hrun,Oper.upon_enter]
 refine h.mono fun e w'' hh=>?_
 obtain ⟨v,rfl,hk⟩:=hh
 exact hk
theorem QO {f:FuncId} {fn:Func} (hf:P.funcs[f]? = some fn) (hname:(fn.name == "runtime.NumGoroutine")=false) (hb:fn.body.isSome=true) (args:Array Value) (w:World):(callFunc f args).run P w=.ok (.enter f args) w:=by
 have h1:fn.name≠"runtime.NumGoroutine":=by simpa using hname
 obtain ⟨c,hc⟩:=Option.isSome_iff_exists.1 hb
 simp [callFunc,hf,h1,hc]
theorem oD {oi:Oper} {N:Option Tmp} {a:Act} {w:World} {K:Act→World→Prop} {f:FuncId} {fn:Func} {as:Array Operand} {ts:Array TypeId} (hf:P.funcs[f]? = some fn) (hname:(fn.name == "runtime.NumGoroutine")=false) (hb:fn.body.isSome=true) (args:Array Value)
  (hw:Region.wanted oi (yielded ops a.tmps)=true) (hN:oi.dst=N) (hop:oi.op=.call { callee:=.value (.func f),args:=as,argTypes:=ts }) (hargs:as.map a.eval=args)
  (h:Calls P f args w fun e w'=>∃ v,e=.returned v∧K (a.put N v) w'):if Region.wanted oi (yielded ops a.tmps)=true then Oper.wp P oi a w K Q else K (a.put N undef) w:=by
 refine call_ f args hw hN ?_ h
 have he:=QO hf hname hb args w
 unfold execOp
 simp [hop,resolve,Deferred.ofValue,invoke,Act.eval,hargs,he]
theorem L9 {rest:List Oper} {oi:Oper} {a:Act} {w:World} (N:Option Tmp) (hd:oi.dst=N) (hg:oi.guard=none) {f:FuncId} {fn:Func} {as:Array Operand} {ts:Array TypeId} (hf:P.funcs[f]? = some fn) (hname:(fn.name == "runtime.NumGoroutine")=false) (hb:fn.body.isSome=true) (args:Array Value)
  (hop:oi.op=.call { callee:=.value (.func f),args:=as,argTypes:=ts }) (hargs:as.map a.eval=args)
  (h:Calls P f args w fun e w'=>∃ v,e=.returned v∧wpList P ops Q rest (a.put N v) w'):wpList P ops Q (oi :: rest) a w:=by
 refine wpList_plain hg fun K hK=>?_
 have he:=QO hf hname hb args w
 have hrun:(execOp a.eval oi).run P w=.ok (.enter f args) w:=by
  unfold execOp
  simp [hop,resolve,Deferred.ofValue,invoke,Act.eval,hargs,he]
 unfold Oper.wp
 rw [hrun,Oper.upon_enter]
 refine h.mono fun e w'' hh=>?_
 obtain ⟨v,rfl,hk⟩:=hh
 subst hd
 exact hK _ _ hk
theorem jC {oi:Oper} {N:Option Tmp} {a:Act} {w w1:World} {v:Value} {K:Act→World→Prop} (hw:Region.wanted oi (yielded ops a.tmps)=true) (hN:oi.dst=N) (hrun:(execOp a.eval oi).run P w=.ok (.value v) w1)
  (h:K (a.put N v) w1):if Region.wanted oi (yielded ops a.tmps)=true then Oper.wp P oi a w K Q else K (a.put N undef) w:=by
 rw [if_pos hw]
 subst hN
 unfold Oper.wp
 rw [hrun]
 exact h
theorem j2_ {oi:Oper} {a:Act} {w w1:World} {K:Act→World→Prop} (hw:Region.wanted oi (yielded ops a.tmps)=true) (hN:oi.dst=none) (hrun:(execOp a.eval oi).run P w=.ok .skip w1)
  (h:K a w1):if Region.wanted oi (yielded ops a.tmps)=true then Oper.wp P oi a w K Q else K (a.put none undef) w:=by
 rw [if_pos hw]
 unfold Oper.wp
 rw [hrun]
 show K (a.put oi.dst undef) w1
 rw [hN]
 exact h
theorem iO (n:Int):IntKind.i64.wrap n=Go.RowKit.wrap64 n:=by unfold Go.RowKit.wrap64;exact IntKind.wrap_i64 n
theorem jA (n:Int):IntKind.i32.wrap n=Go.RowKit.wrap32 n:=by unfold Go.RowKit.wrap32;exact IntKind.wrap_i32 n
end
end Go.Proofs.YtgfkgppomaapiaaGreatDoorW.PrintLast
end
section
namespace Go.Proofs.YtgfkgppomaapiaaGreatDoorW.PrintWords
open Go.RowKit
namespace Kd
def tag {α:Type} (f:Nat→Nat) (d:Kd α):Kd (α × Nat) where
 sz:=d.sz
 E:=d.E
 K:=fun w x cs=>d.K w x.1 cs
 M:=fun w base ok x cs=>d.M w base (fun k=>ok k∧f k=x.2) x.1 cs
 K_len:=fun h=>d.K_len h
 K_one:=fun h=>d.K_one h
 K_below:=fun hb h=>d.K_below hb h
 K_of_M:=fun h=>d.K_of_M h
 M_mono:=fun hok h=>d.M_mono (fun k hk=>⟨hok k hk.1,hk.2⟩) h
 M_bound:=fun h=>d.M_mono (fun _ hk=>⟨⟨hk.1.1,hk.2⟩,hk.1.2⟩) (d.M_bound h)
 M_move:=fun hm h=>d.M_move (fun k hk=>hm k hk.1) h
 M_lower:=fun hb h=>d.M_lower hb h
def raw (sz:Nat):Kd (List Value) where
 sz:=sz
 E:=[]
 K:=fun _ x cs=>cs=x∧cs.length=sz∧∀ u∈cs,u.oneCell'=true
 M:=fun _ _ _ x cs=>cs=x∧cs.length=sz∧∀ u∈cs,u.oneCell'=true
 K_len:=fun h=>h.2.1
 K_one:=fun h=>h.2.2
 K_below:=fun _ h=>h
 K_of_M:=fun h=>h
 M_mono:=fun _ h=>h
 M_bound:=fun h=>h
 M_move:=fun _ h=>h
 M_lower:=fun _ h=>h
def S {α:Type} (d:Kd α) (e:Nat) (w:World) (base:Nat) (ok:Nat→Prop) (v:Value) (xs:List α):Prop:=∃ f,(tag f d).R e w base ok v xs.zipIdx
section
variable {α β:Type} {d:Kd α} {d':Kd β} {e e':Nat} {w w1 W:World} {base b:Nat} {ok ok' okv oku:Nat→Prop} {u v:Value} {xs:List α} {ys:List β}
theorem jo0 {xs:List α} {j:Nat} {p:α} (h:xs[j]? = some p):xs.zipIdx[j]? = some (p,j):=by rw [List.getElem?_zipIdx,h,Nat.zero_add];rfl
theorem S_R (h:S d e w base ok v xs):d.R e w base ok v xs:=by
 obtain ⟨f,h0,inner,ho,hr⟩:=h
 rw [List.length_zipIdx] at ho
 exact ⟨h0,inner,ho,by have:=hr.1;rw [List.length_zipIdx] at this;exact this,fun j p hj=>d.M_mono (fun _ hk=>hk.1) (hr.2 j (p,j) (jo0 hj))⟩
theorem R_head {ad:Addr} {n cap:Nat} (h:d.R e w base ok (.slice (some ad) n cap) xs):∃ g,ad=⟨g,0,none⟩:=by
 obtain ⟨_,inner,ho,hr⟩:=h
 rcases ho.2 with ⟨hv,_⟩ | ⟨g,cap',cur,hv,_⟩
 ·cases hv
 ·injection hv with ha _ _
  injection ha with ha
  exact ⟨g,ha⟩
theorem R_tight (hE:d.E=[]) (h:d.R e w base ok v xs):d.R e w base (fun k=>some k=v.ownBlock) v xs:=by
 obtain ⟨h0,inner,ho,hr⟩:=h
 refine ⟨fun k hk=>hk.symm,inner,ho,hr.imp_ (fun p c hp=>d.M_mono (fun k hk=>?_) (d.M_bound hp))⟩
 obtain ⟨_,_,_,q,hq,_⟩:=hk
 rw [hE] at hq
 cases hq
theorem S_nil (d:Kd α) (e:Nat) (w:World) (base:Nat) (ok:Nat→Prop):S d e w base ok (.slice none 0 0) []:=⟨fun _=>0,R_nil _ _ _ _ _⟩
theorem S_mono (h:S d e w base ok v xs) (hok:∀ k,ok k→ok' k):S d e w base ok' v xs:=by
 obtain ⟨f,h⟩:=h
 exact ⟨f,R_mono h hok⟩
theorem Y4 (h:S d e w base ok v xs):S d e w base (fun k=>ok k∧base≤k∧k<w.heap.size∧∃ q,q∈e :: d.E∧∃ cells,w.heap[k]? = some (.cells cells q (0,0))) v xs:=by
 obtain ⟨f,h⟩:=h
 exact ⟨f,R_bound h⟩
theorem jl6 (h:S d e w base ok v xs) (hm:∀ k,ok k→w1.heap[k]? = w.heap[k]?):S d e w1 base ok v xs:=by
 obtain ⟨f,h⟩:=h
 exact ⟨f,R_move h hm⟩
theorem je0 (h:S d e w base ok v xs) (hm:∀ k,ok k→k<w.heap.size→w1.heap[k]? = w.heap[k]?):S d e w1 base ok v xs :=
 S_mono (jl6 (Y4 h) (fun k hk=>hm k hk.1 hk.2.2.1)) (fun _ hk=>hk.1)
theorem S_below (h:S d e w base ok v xs) (hb:Below w.heap.size w w1):S d e w1 base ok v xs:=je0 h (fun k _ hk=>hb.block k hk)
theorem S_drew (h:S d e w base ok v xs):S d e w.drew base ok v xs:=S_below h (iW (Below.refl _ _))
theorem S_far (h:S d e w base ok v xs) {p:Addr} (hok:∀ k,ok k→k≠p.block) (u:Value):S d e (w.setCell p u) base ok v xs:=je0 h (fun k ho _=>Below.heap_setCell w p u k (hok k ho))
theorem S_typed (h:S d e w base ok v xs):∀ k,v.ownBlock=some k→∃ cells,w.heap[k]? = some (.cells cells e (0,0)):=jg6 (S_R h)
theorem S_after {v1:Value} (h:S d e W base (fun k=>ok k∧some k≠v.ownBlock) u xs) (hg:W.grownBy w1 v.ownBlock) (hat:v1.ownBlock=v.ownBlock∨∃ b,v1.ownBlock=some b∧W.heap.size≤b):S d e w1 base (fun k=>ok k∧some k≠v1.ownBlock) u xs:=by
 obtain ⟨f,h⟩:=h
 exact ⟨f,R_after h hg hat⟩
theorem jo8 {f f':Nat→Nat} {zs:List (α × Nat)} (h:(tag f d).R e w base ok v zs) (hf:∀ k,ok k→k<w.heap.size→f' k=f k):(tag f' d).R e w base ok v zs:=by
 obtain ⟨h0,inner,ho,hr⟩:=R_bound h
 exact ⟨fun k hk=>(h0 k hk).1,inner,ho,hr.1,fun j p hj=>d.M_mono (fun k hk=>⟨⟨hk.1.1.1,hk.1.2⟩,(hf k hk.1.1.1 hk.1.1.2.2.1).trans hk.2⟩) (hr.2 j p hj)⟩
end
section
variable {α β:Type} {d:Kd α} {d':Kd β} {e e' g:Nat} {w w1 W:World} {base b:Nat} {ok ok' okv oku:Nat→Prop} {u v:Value} {xs:List α} {ys:List β}
theorem S_away (h:S d e w base ok v xs) (hok:∀ k,ok k→k≠g):some g≠v.ownBlock:=jn1 (S_R h) hok
theorem S_elderB (h:S d e w base ok v xs) (a:Nat) (ha:w.heap.size≤a):S d e w base (fun k=>ok k∧k≠a) v xs:=S_mono (Y4 h) (fun k hk=>⟨hk.1,by have:=hk.2.2.1;omega⟩)
theorem jc2 (xs:List α) (p:α):(xs ++ [p]).zipIdx=xs.zipIdx ++ [(p,xs.length)]:=by rw [List.zipIdx_append];simp
end
section
open Classical in
theorem jp0 {α:Type} {d:Kd α} {e base:Nat} {okv:Nat→Prop} {w:World} {v:Value} {xs:List α} (h:S d e w base okv v xs) (m:Nat) (okp:Nat→Prop) (hap:∀ k,okp k→¬ okv k):∃ f,(∀ k,okp k→f k=m)∧(tag f d).R e w base okv v xs.zipIdx:=by
 obtain ⟨f,h⟩:=h
 exact ⟨fun k=>if okp k then m else f k,fun k hk=>if_pos hk,jo8 h (fun k hk _=>if_neg (fun h2=>hap k h2 hk))⟩
variable {P:Program} {ops:Array Oper} {rest:List Oper} {o:Oper} {a:Act} {Q:Exit→Act→World→Prop} {Kc:Act→World→Prop} {α:Type}
theorem S_append (d:Kd α) {w0 W:World} (base:Nat) (hgd:o.guard=none) (s x:Operand) (t e:TypeId) (z:Value) (bytes:Nat)
  (ho:o.op=.call { callee:=.builtin .append,args:=#[s,x],argTypes:=#[t,t] })
  (ht:P.underlying t=some (.slice e)) (hinfo:(P.info? e).map (fun i=>(i.zero,i.size,i.bytes))=some (some z,d.sz,bytes)) (hz:z.cells.size=d.sz) (hs0:0<d.sz) (hb0:0<bytes)
  (v:Value) (xs:List α) (p:α) (cs:List Value) (ok okp:Nat→Prop) (hs:a.eval s=v) (hx:a.eval x=.slice (some ⟨W.heap.size,0,none⟩) 1 1) (hp:d.M W base okp p cs) (hokp:∀ k,okp k→ok k∧some k≠v.ownBlock) (hfresh:∀ k,W.heap.size≤k→ok k)
  (HO:S d e W base (fun k=>ok k∧¬ okp k) v xs) (HB:Below base w0 W) (hbase:base≤W.heap.size) (hl:(xs.length+1) * bytes≤140737488355328)
  (h:∀ v1 w1,S d e w1 base ok v1 (xs ++ [p])→Below base w0 w1→W.grownBy w1 v.ownBlock→(v1.ownBlock=v.ownBlock∨∃ b,v1.ownBlock=some b∧W.heap.size≤b)→wpList P ops Q rest (a.put o.dst v1) w1) :
  wpList P ops Q (o :: rest) a (W.alloc (.cells cs.toArray e)):=by
 obtain ⟨f,hf,hR⟩:=jp0 HO xs.length okp (fun _ hk h2=>h2.2 hk)
 refine R_append (tag f d) base hgd s x t e z bytes ho ht hinfo hz hs0 hb0 v xs.zipIdx (p,xs.length) cs ok okp hs hx (d.M_mono (fun k hk=>⟨hk,hf k hk⟩) hp) hokp hfresh (R_mono hR (fun _ hk=>hk.1)) HB hbase (by rw [List.length_zipIdx];exact hl) ?_
 intro v1 w1 hr
 rw [← jc2] at hr
 exact h v1 w1 ⟨f,hr⟩
end
section
variable {α β:Type} {d:Kd α} {e e' g n cap:Nat} {w w1 W:World} {base:Nat} {ok ok' oki okp:Nat→Prop} {u v:Value} {xs:List α} {i:Int} {c:List Value}
end
section
variable {P:Program} {ops:Array Oper} {rest:List Oper} {o:Oper} {a:Act} {Q:Exit→Act→World→Prop} {α:Type}
end
end Kd
end Go.Proofs.YtgfkgppomaapiaaGreatDoorW.PrintWords
end
section
namespace Go.Proofs.YtgfkgppomaapiaaGreatDoorW.PrintWords
open Go.RowKit
namespace Kd
theorem j00 {α:Type} {R:α→List Value→Prop} {size:Nat} {ps:List α} {cs:List Value} (h:Reps R size ps cs) (hs0:0<size) (hR:∀ p c,R p c→∀ u∈c,u.oneCell'=true):∀ u∈cs,u.oneCell'=true:=by
 intro u hu
 obtain ⟨q,hq,rfl⟩:=List.mem_iff_getElem.1 hu
 have hql:q / size<ps.length:=by
  rw [Nat.div_lt_iff_lt_mul hs0,← h.1]
  exact hq
 refine hR _ _ (h.2 (q / size) _ (List.getElem?_eq_getElem hql)) _ ?_
 rw [List.mem_iff_getElem?]
 refine ⟨q % size,?_⟩
 rw [List.getElem?_take,if_pos (Nat.mod_lt _ hs0),List.getElem?_drop,Nat.mul_comm,Nat.div_add_mod,List.getElem?_eq_getElem hq]
section
variable {α:Type} {n:Nat} {d:Kd α} {hs:0<d.sz} {w:World} {base:Nat} {ok:Nat→Prop} {xs:List α} {cs:List Value}
end
section
variable {α:Type} {n:Nat} {enc:α→Value} {h1:∀ x,(enc x).oneCell'=true} {hs:0<(scalar enc h1).sz} {w:World} {base:Nat} {ok:Nat→Prop} {xs:List α} {cs:List Value}
end
end Kd
end Go.Proofs.YtgfkgppomaapiaaGreatDoorW.PrintWords
end
section
namespace Go.Proofs.YtgfkgppomaapiaaGreatDoorW.PrintWords
open Go.RowKit
section
variable {P:Program}
theorem zH (w:World) (base:Nat) (t ti ty e:TypeId) (i:TypeInfo) (z:Value) (size bytes:Nat) (ht:P.underlying t=some (.slice e)) {k:IntKind} (hti:P.underlying ti=some (.int k)) (hi:P.info? e=some i) (hz:i.zero=some z)
  (hsize:i.size=size) (hby:i.bytes=bytes) (hzs:z.cells.size=size) (hsz:0<size) (hb0:0<bytes)
  (v:Value) (n:Nat) (xs:List Value) (hown:w.ownsRow base e size v n xs) (kx:IntKind) (m:Nat) (h1:∀ u∈(Builtin.zeroCells z.cells m).toList,u.oneCell'=true)
  (hbytes:(n+m) * bytes≤140737488355328) (hbase:base≤w.heap.size) :
  ∃ v' w',(Builtin.append_ #[t,ti] ty #[v,.int kx m]).run P w=.ok v' w'∧w'.ownsRow base e size v' (n+m) (xs ++ (Builtin.zeroCells z.cells m).toList)∧w.grownBy w' v.ownBlock ∧
   (v'.ownBlock=v.ownBlock∨v'.ownBlock=some w.heap.size):=by
 subst hsize
 subst hby
 have hle:n+m≤140737488355328:=Nat.le_trans (Nat.le_mul_of_pos_right _ hb0) hbytes
 have h63:n+m≤maxLen:=by simp only [maxLen];omega
 have hw:IntKind.i64.wrap (m:Int)=m:=by rw [IntKind.wrap_i64];omega
 have hw0:IntKind.i64.wrap 0=0:=by rw [IntKind.wrap_i64];rfl
 have hneg:¬ ((m:Int)<0):=by omega
 have hmb:m * i.bytes≤140737488355328:=Nat.le_trans (Nat.mul_le_mul_right _ (Nat.le_add_left m n)) hbytes
 have hbig:¬ (281474976710656<(m:Int) * (i.bytes:Int)):=by
  rw [← Int.natCast_mul]
  omega
 have hsn:i.size≠0:=by omega
 obtain ⟨news,hnews⟩:∃ news,news=(Builtin.zeroCells z.cells m).toList:=⟨_,rfl⟩
 rw [← hnews] at h1 ⊢
 have hl:news.length=m * i.size:=by rw [hnews,Array.length_toList,size_zeroCells,hzs]
 have hna:Builtin.zeroCells z.cells m=news.toArray:=by rw [hnews]
 have hlen:(xs ++ news).length=(n+m) * i.size:=by rw [List.length_append,hown.1,hl,Nat.add_mul]
 have hnil:m=0→news=[]:=fun h=>List.eq_nil_of_length_eq_zero (by rw [hl,h,Nat.zero_mul])
 have grown:∀ (old:Nat),old<n+m→∀ (row:Option Nat),
   (w.drew.alloc (.cells (xs.toArray ++ news.toArray ++ Builtin.zeroCells z.cells (grownCap w (n+m) old e - (n+m))) e)).ownsRow base e i.size
    (.slice (some ⟨w.heap.size,0,none⟩) (n+m) (grownCap w (n+m) old e)) (n+m) (xs ++ news) ∧
   w.grownBy (w.drew.alloc (.cells (xs.toArray ++ news.toArray ++ Builtin.zeroCells z.cells (grownCap w (n+m) old e - (n+m))) e)) row:=by
  intro old ho row
  have hge:=grownCap_ge w (n+m) old e
  have hcm:grownCap w (n+m) old e≤maxLen:=grownCap_le_maxLen w (n+m) old e h63
  refine ⟨⟨hlen,.inr ⟨w.heap.size,_,_,rfl,hbase,heap_alloc_new w.drew _,hge,hcm,?_,?_⟩⟩,⟨rfl,rfl,rfl,by simp,fun k hk _=>heap_alloc_old w.drew _ hk⟩⟩
  ·simp only [Array.size_append,List.size_toArray,size_zeroCells,hzs,hown.1,hl,← Nat.add_mul]
   congr 1
   omega
  ·simp only [Array.toList_append,List.append_assoc]
   rw [← List.append_assoc,← hlen]
   exact List.take_left
 have runs:∀ (A:Option Addr) (cap:Nat),cap<n+m→(Builtin.firstCells i.size n (.slice A n cap)).run P w.drew=.ok xs.toArray w.drew→(Builtin.append_ #[t,ti] ty #[.slice A n cap,.int kx m]).run P w =
   .ok (.slice (some ⟨w.heap.size,0,none⟩) (n+m) (grownCap w (n+m) cap e)) (w.drew.alloc (.cells (xs.toArray ++ news.toArray ++ Builtin.zeroCells z.cells (grownCap w (n+m) cap e - (n+m))) e)):=by
  intro A cap hcap hfo
  have hn:¬ (n+m≤cap):=by omega
  have h63':¬ (9223372036854775807<((n:Int)+(m:Int))):=by omega
  have hfit:=growslice_fits hcap hbytes
  have h48':¬ (281474976710656<Builtin.nextslicecap (n+m) cap * i.bytes):=by omega
  by_cases hm:m=0
  ·have hnl:=hnil hm
   subst hm
   rw [hnl]
   simp only [Nat.add_zero] at hn h63' h48' ⊢
   have h63'':¬ (9223372036854775807<(n:Int)):=by omega
   simp [Builtin.append_,run_underlying ht,run_underlying hti,sizeOf,typeInfo,zeroValue,hi,hz,asInt,asIntOf,hw0,hn,h63'',h48',Question.forced,hfo,newRow,grownCap]
  ·have hmz:¬ (m * i.size=0):=Nat.mul_ne_zero hm hsn
   simp [Builtin.append_,run_underlying ht,run_underlying hti,sizeOf,typeInfo,zeroValue,hi,hz,asInt,asIntOf,hw,hneg,hbig,hn,h63',h48',Question.forced,hfo,newRow,grownCap,hmz,hna]
   congr 2
   apply Array.ext'
   simp [List.append_assoc]
 rcases hown.2 with ⟨rfl,rfl⟩ | ⟨g,cap,cur,rfl,hbg,hg,hnc,hcm,hcs,htake⟩
 ·have hx:xs=[]:=List.eq_nil_of_length_eq_zero (by simpa using hown.1)
  subst hx
  by_cases hm:m=0
  ·have hnl:=hnil hm
   subst hm
   rw [hnl]
   refine ⟨.slice none 0 0,w,?_,World.ownsRow_nil w base e i.size,⟨rfl,rfl,rfl,Nat.le_refl _,fun _ _ _=>rfl⟩,Or.inl rfl⟩
   simp [Builtin.append_,run_underlying ht,run_underlying hti,sizeOf,typeInfo,hi,asInt,asIntOf,hw0]
  ·have hgr:=grown 0 (by omega) (Value.ownBlock (.slice none 0 0))
   exact ⟨_,_,runs none 0 (by omega) (by simp [Builtin.firstCells]),hgr.1,hgr.2,Or.inr rfl⟩
 ·by_cases hroom:n+m≤cap
  ·have hfit:n * i.size+news.length≤cur.size:=by rw [hl,hcs,← Nat.add_mul];exact Nat.mul_le_mul_right _ hroom
   obtain ⟨cur',h3,h4,h5⟩:=rW news (n * i.size) w cur hg hfit
   obtain ⟨s1,s2,s3,s4⟩:=rH g news (n * i.size) w
   have hst:=run_storeCells_cells (P:=P) g (n * i.size) news 0 w (fun j hj=>by rw [cell_of_row w g _ cur e (0,0) hg];simp;omega) (fun j _=>iE hg _) h1
   simp only [Nat.add_zero] at hst
   refine ⟨.slice (some ⟨g,0,none⟩) (n+m) cap,w.setCells g (n * i.size) news,?_,⟨hlen,.inr ⟨g,cap,cur',rfl,hbg,h3,hroom,hcm,by rw [h4,hcs],?_⟩⟩,⟨s1,s2,s3,by rw [s4];exact Nat.le_refl _,fun k _ hk=>rZ news _ k (fun e=>hk (by simp [Value.ownBlock,e]))⟩,Or.inl rfl⟩
   ·by_cases hm:m=0
    ·have hnl:=hnil hm
     subst hm
     rw [hnl] at hst ⊢
     simp [Builtin.append_,run_underlying ht,run_underlying hti,sizeOf,typeInfo,hi,asInt,asIntOf,hw0,hnc,add_plain,hst]
    ·have hmz:¬ (m * i.size=0):=Nat.mul_ne_zero hm hsn
     simp [Builtin.append_,run_underlying ht,run_underlying hti,sizeOf,typeInfo,zeroValue,hi,hz,asInt,asIntOf,hw,hneg,hbig,hroom,hmz,hna,add_plain,hst]
   ·rw [h5]
    have h6:cur.toList.take (n * i.size)=xs:=htake
    rw [h6,← hlen]
    exact List.take_left
  ·have holds:∀ j u,xs[j]? = some u→w.cell? ((⟨g,0,none⟩:Addr).add j)=some u:=hown.cells (g:=g) rfl
   have hgr:=grown cap (by omega) (Value.ownBlock (.slice (some ⟨g,0,none⟩) n cap))
   exact ⟨_,_,runs (some ⟨g,0,none⟩) cap (by omega) (run_firstCells_some (P:=P) w.drew i.size n _ n cap xs hown.1 (by simpa using holds)),hgr.1,hgr.2,Or.inr rfl⟩
end
namespace Kd
theorem UC {α:Type} {R:α→List Value→Prop} {z:Value} {size:Nat} {z0:α} (hz:z.cells.size=size) (hs:0<size) (h0:R z0 z.cells.toList) (m:Nat):Reps R size (List.replicate m z0) (Builtin.zeroCells z.cells m).toList:=by
 have h:=XP hz hs h0 m
 rw [show Builtin.zeroCells z.cells m=madeCells z.cells (m * size) by unfold Builtin.zeroCells madeCells;rw [hz]]
 exact h
section
variable {P:Program} {ops:Array Oper} {rest:List Oper} {o:Oper} {a:Act} {Q:Exit→Act→World→Prop} {Kc:Act→World→Prop} {α:Type}
theorem QC (d:Kd α) {W:World} (base:Nat) (t ti ty e:TypeId) (z:Value) (bytes:Nat) (ht:P.underlying t=some (.slice e)) {k:IntKind} (hti:P.underlying ti=some (.int k)) (hinfo:(P.info? e).map (fun i=>(i.zero,i.size,i.bytes))=some (some z,d.sz,bytes)) (hz:z.cells.size=d.sz) (hs0:0<d.sz) (hb0:0<bytes)
  (v:Value) (xs:List α) (z0:α) {ok:Nat→Prop} (hzero:d.M W base (fun _=>False) z0 z.cells.toList) (hfresh:∀ k,W.heap.size≤k→ok k) (HO:d.R e W base ok v xs) (kx:IntKind) (n:Int) (h0:0≤n) (hl:(xs.length+n.toNat) * bytes≤140737488355328) (hbase:base≤W.heap.size) :
  ∃ v1 w1,(Builtin.append_ #[t,ti] ty #[v,.int kx n]).run P W=.ok v1 w1∧d.R e w1 base ok v1 (xs ++ List.replicate n.toNat z0)∧W.grownBy w1 v.ownBlock∧(v1.ownBlock=v.ownBlock∨∃ b,v1.ownBlock=some b∧W.heap.size≤b):=by
 obtain ⟨m,rfl⟩:=Int.eq_ofNat_of_zero_le h0
 simp only [Int.toNat_natCast] at hl ⊢
 obtain ⟨i0,hi,hzz⟩:=Option.map_eq_some_iff.1 hinfo
 simp only [Prod.mk.injEq] at hzz
 obtain ⟨hz0,hz1,hz2⟩:=hzz
 obtain ⟨hok,inner,hown,hr⟩:=HO
 have hnM:Reps (d.M W base (fun _=>False)) d.sz (List.replicate m z0) (Builtin.zeroCells z.cells m).toList:=UC hz hs0 hzero m
 obtain ⟨v1,w1,hrun,h2,hg,hat⟩:=zH (P:=P) W base t ti ty e i0 z d.sz bytes ht hti hi hz0 hz1 hz2 hz hs0 hb0 v xs.length inner hown kx m (j00 hnM hs0 (fun _ _ hp=>d.K_one (d.K_of_M hp))) hl hbase
 have hat':v1.ownBlock=v.ownBlock∨∃ b,v1.ownBlock=some b∧W.heap.size≤b:=by
  rcases hat with hat | hat
  ·exact .inl hat
  ·exact .inr ⟨_,hat,Nat.le_refl _⟩
 have hne:∀ k,some k≠v.ownBlock→k<W.heap.size→some k≠v1.ownBlock:=by
  intro k hk hlt
  rcases hat' with hat | ⟨b,hb,hle⟩
  ·rw [hat];exact hk
  ·rw [hb]
   intro he
   injection he with he
   omega
 have step:∀ {q:α} {c:List Value} {o:Nat→Prop},d.M W base o q c→(∀ k,o k→ok k∧some k≠v.ownBlock)→d.M w1 base (fun k=>ok k∧some k≠v1.ownBlock) q c:=by
  intro q c o hq ho
  have h1:=d.M_move (w1:=w1) (fun k hk=>hg.block k hk.2.2.1 (ho k hk.1).2) (d.M_bound hq)
  exact d.M_mono (fun k hk=>⟨(ho k hk.1).1,hne k (ho k hk.1).2 hk.2.2.1⟩) h1
 refine ⟨v1,w1,hrun,⟨fun k hk=>?_,inner ++ (Builtin.zeroCells z.cells m).toList,by rw [List.length_append,List.length_replicate];exact h2,IA (hr.imp_ (fun _ _ hq=>step hq (fun _ hk=>hk))) (hnM.imp_ (fun _ _ hq=>step hq (fun _ hk=>hk.elim)))⟩,hg,hat'⟩
 rcases hat' with hat | ⟨b,hb,hle⟩
 ·exact hok k (hat▸hk)
 ·rw [hb] at hk
  injection hk with hk
  exact hfresh k (by omega)
theorem R_append_zeros (d:Kd α) {w0 W:World} (base:Nat) (hgd:o.guard=none) (s x:Operand) (t ti e:TypeId) (z:Value) (bytes:Nat)
  (ho:o.op=.call { callee:=.builtin .append,args:=#[s,x],argTypes:=#[t,ti] })
  (ht:P.underlying t=some (.slice e)) {k:IntKind} (hti:P.underlying ti=some (.int k)) (hinfo:(P.info? e).map (fun i=>(i.zero,i.size,i.bytes))=some (some z,d.sz,bytes)) (hz:z.cells.size=d.sz) (hs0:0<d.sz) (hb0:0<bytes)
  (v:Value) (xs:List α) (z0:α) {kx:IntKind} (n:Int) (ok:Nat→Prop) (hs:a.eval s=v) (hx:a.eval x=.int kx n) (hzero:d.M W base (fun _=>False) z0 z.cells.toList) (hfresh:∀ k,W.heap.size≤k→ok k)
  (HO:d.R e W base ok v xs) (h0:0≤n) (HB:Below base w0 W) (hbase:base≤W.heap.size) (hl:(xs.length+n.toNat) * bytes≤140737488355328)
  (h:∀ v1 w1,d.R e w1 base ok v1 (xs ++ List.replicate n.toNat z0)→Below base w0 w1→W.grownBy w1 v.ownBlock→(v1.ownBlock=v.ownBlock∨∃ b,v1.ownBlock=some b∧W.heap.size≤b)→wpList P ops Q rest (a.put o.dst v1) w1) :
  wpList P ops Q (o :: rest) a W:=by
 obtain ⟨v1,w1,hr1,h1,hg,hat⟩:=QC (P:=P) d base t ti o.type e z bytes ht hti hinfo hz hs0 hb0 v xs z0 hzero hfresh HO kx n h0 hl hbase
 refine wpList_plain hgd fun K hK=>?_
 unfold Oper.wp execOp
 simp only [ho,resolve,invoke,builtin,Sem.run_bind,Sem.run_pure,Result.andThen_ok,List.map_toArray,List.map_cons,List.map_nil,hs,hx,hr1]
 exact hK _ _ (h v1 w1 h1 (HB.grown hg hbase (R_base HO)) hg hat)
end
section
variable {α:Type} {d:Kd α} {e:Nat} {w:World} {base:Nat} {ok:Nat→Prop} {v:Value} {xs:List α}
end
section
variable {P:Program} {ops:Array Oper} {rest:List Oper} {o:Oper} {a:Act} {Q:Exit→Act→World→Prop} {Kc:Act→World→Prop} {α:Type}
end
end Kd
end Go.Proofs.YtgfkgppomaapiaaGreatDoorW.PrintWords
end
section
namespace Go.Proofs.YtgfkgppomaapiaaGreatDoorW.PrintWords
open Go.RowKit
namespace Kd
structure Heap {α:Type} (d:Kd α):Prop where
 K:∀ {w w1:World} {x:α} {cs:List Value},(∀ k,k<w.heap.size→w1.heap[k]? = w.heap[k]?)→d.K w x cs→d.K w1 x cs
theorem YQ {w w1:World} (hb:∀ k,k<w.heap.size→w1.heap[k]? = w.heap[k]?) {a:Addr} {v:Value} (h:w.cell? a=some v):w1.cell? a=some v:=by
 have:=hb a.block (World.block_lt_of_cell? w a h)
 simpa [World.cell?,this] using h
theorem Heap.C {α:Type} {d:Kd α} (hd:Heap d) {w w1:World} {A:Option Addr} {n:Nat} {xs:List α} (hb:∀ k,k<w.heap.size→w1.heap[k]? = w.heap[k]?) (h:d.C w A n xs):d.C w1 A n xs :=
 ⟨h.1,h.2.1,fun hn=>by
  obtain ⟨ad,e,hc⟩:=h.2.2 hn
  refine ⟨ad,e,fun j p hj=>?_⟩
  obtain ⟨c,hs,hr,hcell⟩:=hc j p hj
  exact ⟨c,hs,hd.K hb hr,fun i u hu=>YQ hb (hcell i u hu)⟩⟩
theorem heap_int (k:IntKind):Heap (Kd.int k):=⟨fun _ h=>h⟩
theorem heap_slice {α:Type} {d:Kd α} (e:Nat) (hd:Heap d):Heap (slice e d):=⟨by
 rintro w w1 x cs hb ⟨A,c,rfl,hl,hr⟩
 exact ⟨A,c,rfl,hl,hd.C hb hr⟩⟩
theorem heap_pair {α β:Type} {a:Kd α} {b:Kd β} (ha:Heap a) (hb':Heap b):Heap (pair a b):=⟨by
 rintro w w1 x cs hb ⟨c0,c1,rfl,h0,h1⟩
 exact ⟨c0,c1,rfl,ha.K hb h0,hb'.K hb h1⟩⟩
theorem heap_iso {α β:Type} {d:Kd α} (f:β→α) (hd:Heap d):Heap (iso d f):=⟨fun hb h=>hd.K hb h⟩
section
variable {α:Type} {d:Kd α} {e base g n c:Nat} {ok:Nat→Prop} {w w0 W:World} {A:Option Addr} {xs:List α}
end
end Kd
end Go.Proofs.YtgfkgppomaapiaaGreatDoorW.PrintWords
end
section
namespace Go.Proofs.YtgfkgppomaapiaaGreatDoorW.PrintWords
open Go.RowKit
def Kept (w W:World) (S:Nat→Prop):Prop:=w.heap.size≤W.heap.size∧∀ i,i<w.heap.size→¬ S i→W.heap[i]? = w.heap[i]?
section
variable {w W W2:World} {S S2 S':Nat→Prop}
theorem Kept.refl (w:World) (S:Nat→Prop):Kept w w S:=⟨Nat.le_refl _,fun _ _ _=>rfl⟩
theorem Kept.then_ (h:Kept w W S) (k:Kept W W2 S2) (hs:∀ k,S2 k→S k∨w.heap.size≤k):Kept w W2 S :=
 ⟨Nat.le_trans h.1 k.1,fun i hi hn=>(k.2 i (Nat.lt_of_lt_of_le hi h.1) (fun h2=>(hs i h2).elim hn (fun h3=>by omega))).trans (h.2 i hi hn)⟩
theorem Kept.of_grown {row:Option Nat} (hg:W.grownBy W2 row) (h:Kept w W S) (hr:∀ k,row=some k→S k∨w.heap.size≤k):Kept w W2 S :=
 h.then_ (S2:=fun k=>row=some k) ⟨hg.size,fun i hi hn=>hg.block i hi (fun he=>hn he.symm)⟩ hr
end
namespace Kd
section
variable {α:Type} {d:Kd α} {e base n c:Nat} {ok oki S S2:Nat→Prop} {w w0 W W1 W2:World} {v:Value} {A:Option Addr} {xs:List α} {i:Int} {cs:List Value}
theorem jn9 (h:d.R e W base ok v xs) (hk:Kept W W2 S) (hne:∀ k,ok k→¬ S k):d.R e W2 base ok v xs:=RS h (fun k ho hlt=>hk.2 k hlt (hne k ho))
theorem C_kept_came (hd:Heap d) (h:d.C w0 A n xs) (hb:Below w0.heap.size w0 W) (hS:∀ k,S k→w0.heap.size≤k):∀ W',Kept W W' S→d.C W' A n xs:=fun W' hk =>
 hd.C (fun k hlt=>(hk.2 k (Nat.lt_of_lt_of_le hlt hb.size) (fun h2=>by have:=hS k h2;omega)).trans (hb.block k hlt)) h
theorem C_kept_now (h:∀ W',Kept w W' S→d.C W' A n xs) (hk:Kept w W S):d.C W A n xs:=h W hk
end
end Kd
end Go.Proofs.YtgfkgppomaapiaaGreatDoorW.PrintWords
end
section
namespace Go.Proofs.YtgfkgppomaapiaaGreatDoorW.PrintWords
open Go.RowKit
def Foot (P:World→Prop) (W:World) (ok:Nat→Prop):Prop:=∀ W':World,(∀ k,ok k→k<W.heap.size→W'.heap[k]? = W.heap[k]?)→P W'
namespace Foot
variable {P Q:World→Prop} {W W1:World} {ok ok':Nat→Prop}
end Foot
namespace Kd
def F {α:Type} (d:Kd α) (W:World) (ok:Nat→Prop) (A:Option Addr) (n:Nat) (xs:List α):Prop:=Foot (fun W=>d.C W A n xs) W ok
def FK {α:Type} (d:Kd α) (W:World) (ok:Nat→Prop) (x:α) (c:List Value):Prop:=Foot (fun W=>d.K W x c) W ok
section
variable {α β:Type} {d:Kd α} {e base n n' cc g N:Nat} {ok ok' okp S:Nat→Prop} {w w0 w1 W W1:World} {A A':Option Addr} {u v v1:Value} {xs:List α} {xs':List β} {d':Kd β} {x:α} {c:List Value}
end
end Kd
end Go.Proofs.YtgfkgppomaapiaaGreatDoorW.PrintWords
end
section
namespace Go.Proofs.YtgfkgppomaapiaaGreatDoorW.PrintWords
open Go.RowKit
namespace Kd
section
variable {α:Type} {d:Kd α} {e base n cc g:Nat} {ok ok' okp S:Nat→Prop} {w w1 W W1:World} {A:Option Addr} {u v v1:Value} {xs:List α} {x:α} {c:List Value}
def N {α:Type} (d:Kd α) (e:Nat) (w:World) (base:Nat) (ok:Nat→Prop) (v:Value) (xs:List α):Prop :=
 (∀ k,v.ownBlock=some k→ok k)∧∃ rows:List (List Value),rows.length=xs.length∧(raw d.sz).R e w base (fun k=>some k=v.ownBlock) v rows∧∀ (j:Nat) (x:α) (c:List Value),xs[j]? = some x→rows[j]? = some c→FK d w (fun k=>ok k∧some k≠v.ownBlock) x c
end
end Kd
end Go.Proofs.YtgfkgppomaapiaaGreatDoorW.PrintWords
end
section
namespace Go.Proofs.YtgfkgppomaapiaaGreatDoorW.PrintMore
open Go.RowKit Go.Proofs.YtgfkgppomaapiaaGreatDoorW.PrintWords
namespace Kd
open Go.Proofs.YtgfkgppomaapiaaGreatDoorW.PrintWords.Kd
end Kd
namespace Kd
open Go.Proofs.YtgfkgppomaapiaaGreatDoorW.PrintWords.Kd
section
variable {α:Type} {d:Kd α} {e base g N:Nat} {ok:Nat→Prop} {W w1:World} {u v:Value} {xs:List α}
end
end Kd
theorem kL (k k':IntKind) (x y:Int):Builtin.max2 (.int k x) (.int k' y)=pure (.int k (if x<y then y else x)):=by simp only [Builtin.max2,gt_iff_lt]
theorem kH (k k':IntKind) (x y:Int):Builtin.min2 (.int k x) (.int k' y)=pure (.int k (if y<x then y else x)):=by simp only [Builtin.min2]
theorem kZ (ats:Array TypeId) (ty:TypeId) (a b:Value):Builtin.max_ ats ty #[a,b]=(Builtin.max2 a b >>= fun s=>pure s):=by simp only [Builtin.max_,List.foldlM_cons,List.foldlM_nil]
theorem lC (ats:Array TypeId) (ty:TypeId) (a b:Value):Builtin.min_ ats ty #[a,b]=(Builtin.min2 a b >>= fun s=>pure s):=by simp only [Builtin.min_,List.foldlM_cons,List.foldlM_nil]
end Go.Proofs.YtgfkgppomaapiaaGreatDoorW.PrintMore
namespace Go.Proofs.YtgfkgppomaapiaaGreatDoorW.PrintWords
open Go.RowKit
section
variable {P:Program} {ops:Array Oper} {rest:List Oper} {o:Oper} {a:Act} {Q:Exit→Act→World→Prop} {W:World}
theorem oU {f:FuncId} {as:Array Operand} {ts:Array TypeId} (_ho:o.op=.call { callee:=.value (.func f),args:=as,argTypes:=ts }) (h:wpList P ops Q (o :: rest) a W):wpList P ops Q (o :: rest) a W:=h
theorem rX {b:Builtin} {xs:Array Operand} {ts:Array TypeId} (_ho:o.op=.call { callee:=.builtin b,args:=xs,argTypes:=ts }) (h:wpList P ops Q (o :: rest) a W):wpList P ops Q (o :: rest) a W:=h
end
def mx (a b:Int):Int:=if a<b then b else a
def mn (a b:Int):Int:=if b<a then b else a
def shr (k:IntKind) (x y:Int):Int:=x / 2 ^ min y.toNat k.bits
theorem XJ {k:IntKind} {x y j:Int} (h:shr k x y=j) (hy:y≤k.bits):x / 2 ^ y.toNat=j:=by rw [← h];unfold shr;rw [Nat.min_eq_left (by omega)]
namespace Kd
section
variable {α:Type} {d:Kd α} {e base:Nat} {ok:Nat→Prop} {W w1:World} {v:Value} {xs:List α}
theorem R_grown2 (h:d.R e W base ok v xs) (hE:d.E=[]) {row:Option Nat} (hg:W.grownBy w1 row) (hne:∀ k,row=some k→some k≠v.ownBlock):d.R e w1 base ok v xs :=
 R_mono (R_grown (R_tight hE h) hg (fun k hk e_=>hne k e_.symm hk)) (fun k hk=>h.1 k hk.symm)
end
section
variable {α:Type} {d:Kd α} {e base g n cap:Nat} {ok oki okp:Nat→Prop} {W:World} {xs:List α} {i:Int} {c:List Value}
end
section
variable {α:Type} {d:Kd α} {e base b b' g N:Nat} {ok ok1:Nat→Prop} {W W2 w1:World} {u v:Value} {xs ys:List α} {S:Nat→Prop}
theorem R_keptB (h:d.R e W base ok v xs) (hk:Kept W W2 S) (hne:∀ k,ok k→¬ S k):d.R e W2 base (fun k=>ok k∧(¬ S k∧k<W.heap.size)) v xs :=
 jn9 (R_mono (R_bound h) (fun k hk=>⟨hk.1,hne k hk.1,hk.2.2.1⟩)) hk (fun _ hk=>hk.2.1)
end
end Kd
end Go.Proofs.YtgfkgppomaapiaaGreatDoorW.PrintWords
namespace Go.Proofs.YtgfkgppomaapiaaGreatDoorW.PrintWords
open Go.RowKit
namespace Kd
section
variable {α β:Type} {d:Kd α} {e base base' n m c g N' lo hi:Nat} {ok ok' S:Nat→Prop} {w W w1:World} {A:Option Addr} {ad:Addr} {u v v1:Value} {xs:List α}
end
end Kd
end Go.Proofs.YtgfkgppomaapiaaGreatDoorW.PrintWords
end
section
namespace Go.Proofs.YtgfkgppomaapiaaGreatDoorW.PrintLast
open Go.Proofs.YtgfkgppomaapiaaGreatDoorW.PrintWords (iC)
def yP (md:Region.Mode) (o:Oper):List Nat:=(o.after.toList.filter (fun e=>Region.binds md e)).map (fun e=>e.on)
def QF (md:Region.Mode) (ops:Array Oper) (i:Nat) (oi:Oper):List Nat:=(List.range ops.size).filter fun j=>!(j == i) && match ops[j]? with
 | some oj=>!(oj.after.any (fun e=>Region.binds md e && e.on == i) || oi.apart ops oj)
 | none=>false
def rtab (md:Region.Mode) (ops:Array Oper):Bool × List (List Nat × List Nat):=(Region.noSelect ops,(List.range ops.size).map fun i=>match ops[i]? with
 | some o=>(yP md o,QF md ops i o)
 | none=>([],[]))
def qM (T:List (List Nat × List Nat)) (l:List Bool) (i:Nat):Bool:=!l.getD i true && match T[i]? with
 | some r=>r.1.all (fun j=>l.getD j false)
 | none=>false
def yY (T:List (List Nat × List Nat)) (l:List Bool):List Nat:=(List.range T.length).filter (qM T l)
def WA (T:List (List Nat × List Nat)) (l:List Bool) (i:Nat):Bool:=match T[i]? with
 | some r=>r.2.all (fun j=>l.getD j true)
 | none=>false
def MC (T:List (List Nat × List Nat)) (l:List Bool):Bool:=(List.range T.length).all fun j=>!l.getD j false || match T[j]? with
 | some r=>r.1.all (fun k=>l.getD k false)
 | none=>true
def LC (T:List (List Nat × List Nat)) (i:Nat):Nat→Nat→Bool
 | 0,_=>false
 | fuel+1,d=>match T[d]? with
  | some r=>r.1.any fun j=>j == i || LC T i fuel j
  | none=>false
def lastT (T:List (List Nat × List Nat)) (l:List Bool) (ds:List Nat) (i:Nat):Bool:=ds.all fun d=>l.getD d true || LC T i T.length d
section
variable {md:Region.Mode} {ops:Array Oper} {T:Bool × List (List Nat × List Nat)} {l l' li lj lk:Array Bool} {ds:List Nat} {i j k:Nat}
theorem gd (l:Array Bool) (j:Nat) (b:Bool):l.getD j b=l.toList.getD j b:=by simp [Array.getD_eq_getD_getElem?,List.getD_eq_getElem?_getD]
theorem OU (o:Oper) (p:Nat→Bool):o.after.all (fun e=>!Region.binds md e || p e.on)=(yP md o).all p:=by
 unfold yP
 rw [← Array.all_toList]
 induction o.after.toList with
 | nil=>rfl
 | cons e r ih =>
  rw [List.all_cons,ih,List.filter_cons]
  cases h:Region.binds md e <;> simp
theorem ZC (o:Oper) (p:Nat→Bool):o.after.any (fun e=>Region.binds md e && p e.on)=(yP md o).any p:=by
 unfold yP
 rw [← Array.any_toList]
 induction o.after.toList with
 | nil=>rfl
 | cons e r ih =>
  rw [List.any_cons,ih,List.filter_cons]
  cases h:Region.binds md e <;> simp
theorem oW:(rtab md ops).2.length=ops.size:=by simp [rtab]
theorem xE {o:Oper} (h:ops[i]? = some o):(rtab md ops).2[i]? = some (yP md o,QF md ops i o):=by
 have hi:=(Array.getElem?_eq_some_iff.1 h).1
 unfold rtab
 rw [List.getElem?_map,List.getElem?_range hi,Option.map_some,h]
theorem xG (h:ops[i]? = none):(rtab md ops).2[i]? = none:=by
 have hi:ops.size≤i:=Array.getElem?_eq_none_iff.1 h
 exact List.getElem?_eq_none (by rw [oW];exact hi)
theorem V7:qM (rtab md ops).2 l.toList i=(!l.getD i true && ((ops[i]?).map (·.after.all fun e=>!Region.binds md e || l.getD e.on false)).getD false):=by
 unfold qM
 rw [gd]
 cases h:ops[i]? with
 | none=>rw [xG h];rfl
 | some o =>
  rw [xE h]
  simp only [Option.map_some,Option.getD_some]
  rw [← OU]
  simp only [gd]
theorem ready_eq:Region.ready md ops l=yY (rtab md ops).2 l.toList:=by
 unfold Region.ready yY
 rw [oW]
 refine List.filter_congr (fun i _=>?_)
 rw [V7]
theorem free_eq:Region.free md ops l i=WA (rtab md ops).2 l.toList i:=by
 unfold Region.free WA
 cases h:ops[i]? with
 | none=>rw [xG h]
 | some oi =>
  rw [xE h]
  simp only [QF]
  rw [List.all_filter]
  congr 1
  funext j
  rw [gd]
  cases hj:ops[j]? with
  | none=>cases (j == i) <;> cases (l.toList.getD j true) <;> simp
  | some oj =>
   cases (j == i) <;> cases (l.toList.getD j true) <;> cases (oj.after.any (fun e=>Region.binds md e && e.on == i) || oi.apart ops oj) <;> simp_all
theorem WZ:Region.closedB md ops l=MC (rtab md ops).2 l.toList:=by
 unfold Region.closedB MC
 rw [oW]
 congr 1
 funext j
 rw [gd]
 cases h:ops[j]? with
 | none=>rw [xG h]
 | some o =>
  rw [xE h]
  simp only
  rw [← OU]
  simp only [gd]
theorem reach_eq:∀ (fuel d:Nat),Region.reachB md ops i fuel d=LC (rtab md ops).2 i fuel d
 | 0,_=>rfl
 | fuel+1,d=>by
  unfold Region.reachB LC
  cases h:ops[d]? with
  | none=>rw [xG h]
  | some o =>
   rw [xE h]
   simp only
   rw [← ZC]
   congr 1
   funext e
   rw [reach_eq fuel]
theorem jf_:Region.lastB md ops l ds i=lastT (rtab md ops).2 l.toList ds i:=by
 unfold Region.lastB lastT
 rw [oW]
 congr 1
 funext d
 rw [gd,reach_eq]
theorem IZ (h:qM T.2 l.toList i=true) (hT:rtab md ops=T):(Region.ready md ops l).contains i=true:=by
 subst hT
 rw [ready_eq]
 unfold yY
 rw [List.contains_iff_mem,List.mem_filter,List.mem_range]
 refine ⟨?_,h⟩
 unfold qM at h
 rw [Bool.and_eq_true] at h
 cases hq:(rtab md ops).2[i]? with
 | none=>rw [hq] at h;simp at h
 | some r=>exact (List.getElem?_eq_some_iff.1 hq).1
theorem O1 (h:(l.toList.set i true == l'.toList)=true):(l.setIfInBounds i true == l')=true:=by
 rw [beq_iff_eq] at h ⊢
 apply Array.ext'
 rw [Array.toList_setIfInBounds]
 exact h
def anyT (T:Bool × List (List Nat × List Nat)) (l l':List Bool) (i:Nat):Bool:=T.1 && WA T.2 l i && qM T.2 l i && (l.set i true == l')
theorem iZ (hT:rtab md ops=T) (h:anyT T l.toList l'.toList i=true):anyB md ops l l' i=true:=by
 simp only [anyT,Bool.and_eq_true] at h
 obtain ⟨⟨⟨h1,h2⟩,h3⟩,h4⟩:=h
 have h5:=IZ h3 hT
 have h6:=O1 h4
 subst hT
 simp only [anyB,Bool.and_eq_true]
 exact ⟨⟨⟨h1,by rw [free_eq];exact h2⟩,h5⟩,h6⟩
def jk4 (T:Bool × List (List Nat × List Nat)) (ds:List Nat) (l l':List Bool) (i:Nat):Bool:=T.1 && WA T.2 l i && qM T.2 l i && MC T.2 l && lastT T.2 l ds i && (l.set i true == l')
theorem jj0 (hT:rtab md ops=T) (h:jk4 T ds l.toList l'.toList i=true):takeB md ops ds l l' i=true:=by
 simp only [jk4,Bool.and_eq_true] at h
 obtain ⟨⟨⟨⟨⟨h1,h2⟩,h3⟩,h4⟩,h5⟩,h6⟩:=h
 have h7:=IZ h3 hT
 have h8:=O1 h6
 subst hT
 simp only [takeB,Bool.and_eq_true]
 exact ⟨⟨⟨⟨⟨h1,by rw [free_eq];exact h2⟩,h7⟩,by rw [WZ];exact h4⟩,by rw [jf_];exact h5⟩,h8⟩
theorem kY (hT:rtab md ops=T) (h:(yY T.2 l.toList == [i] && l.toList.set i true == l'.toList)=true):L8 md ops l l' i=true:=by
 simp only [Bool.and_eq_true] at h
 obtain ⟨h1,h2⟩:=h
 subst hT
 simp only [L8,Bool.and_eq_true]
 exact ⟨by rw [ready_eq];exact h1,O1 h2⟩
theorem RN (hT:rtab md ops=T) (h:(yY T.2 l.toList == [i,j] && l.toList.set i true == li.toList && l.toList.set j true == lj.toList)=true):(Region.ready md ops l == [i,j] && l.setIfInBounds i true == li && l.setIfInBounds j true == lj)=true:=by
 simp only [Bool.and_eq_true] at h ⊢
 obtain ⟨⟨h1,h2⟩,h3⟩:=h
 subst hT
 exact ⟨⟨by rw [ready_eq];exact h1,O1 h2⟩,O1 h3⟩
theorem pM (hT:rtab md ops=T) (h:(yY T.2 l.toList == [])=true):(Region.ready md ops l == [])=true:=by
 subst hT
 rw [ready_eq]
 exact h
def upM (B:List Nat) (d:Nat):List Nat→Nat
 | []=>0
 | n :: r=>(2 ^ n ||| (if n<d then B.getD n 0 else 0)) ||| upM B d r
def nT (T:List (List Nat × List Nat)) (B:List Nat):Bool:=(List.range T.length).all fun d=>match T[d]? with
 | some r=>(B.getD d 0 ||| upM B d r.1) == upM B d r.1
 | none=>false
theorem vN {B:List Nat} {d i:Nat}:∀ {ns:List Nat},(upM B d ns).testBit i=true→∃ n∈ns,n=i∨(n<d∧(B.getD n 0).testBit i=true)
 | [],h=>by simp [upM] at h
 | n :: r,h=>by
  unfold upM at h
  rw [Nat.testBit_or,Nat.testBit_or,Bool.or_eq_true,Bool.or_eq_true] at h
  rcases h with (h | h) | h
  ·rw [Nat.testBit_two_pow] at h
   exact ⟨n,List.mem_cons_self,.inl (by simpa using h)⟩
  ·by_cases hn:n<d
   ·rw [if_pos hn] at h
    exact ⟨n,List.mem_cons_self,.inr ⟨hn,h⟩⟩
   ·rw [if_neg hn] at h
    simp at h
  ·obtain ⟨m,hm,h2⟩:=vN h
   exact ⟨m,List.mem_cons_of_mem _ hm,h2⟩
theorem OM {T:List (List Nat × List Nat)} {B:List Nat} (hB:nT T B=true):∀ (fuel d:Nat),d<fuel→d<T.length→(B.getD d 0).testBit i=true→LC T i fuel d=true
 | 0,d,h,_,_=>by omega
 | fuel+1,d,h,hd,hb=>by
  have h1:=List.all_eq_true.1 hB d (List.mem_range.2 hd)
  cases hr:T[d]? with
  | none=>rw [hr] at h1;simp at h1
  | some r =>
   rw [hr] at h1
   simp only [beq_iff_eq] at h1
   have h2:(upM B d r.1).testBit i=true:=by rw [← h1,Nat.testBit_or,hb,Bool.true_or]
   obtain ⟨n,hn,h3⟩:=vN h2
   unfold LC
   rw [hr]
   simp only
   rw [List.any_eq_true]
   refine ⟨n,hn,?_⟩
   rcases h3 with rfl | ⟨h4,h5⟩
   ·simp
   ·rw [OM hB fuel n (by omega) (by omega) h5,Bool.or_true]
def jo3 (T:List (List Nat × List Nat)) (B:List Nat) (l:List Bool) (ds:List Nat) (i:Nat):Bool:=ds.all fun d=>l.getD d true || (decide (d<T.length) && (B.getD d 0).testBit i)
def jm5 (T:Bool × List (List Nat × List Nat)) (B:List Nat) (ds:List Nat) (l l':List Bool) (i:Nat):Bool:=T.1 && WA T.2 l i && qM T.2 l i && MC T.2 l && jo3 T.2 B l ds i && (l.set i true == l')
theorem lF {B:List Nat} (hT:rtab md ops=T) (hB:nT T.2 B=true) (h:jm5 T B ds l.toList l'.toList i=true):takeB md ops ds l l' i=true:=by
 refine jj0 hT ?_
 simp only [jm5,jk4,Bool.and_eq_true] at h ⊢
 obtain ⟨⟨⟨⟨⟨h1,h2⟩,h3⟩,h4⟩,h5⟩,h6⟩:=h
 refine ⟨⟨⟨⟨⟨h1,h2⟩,h3⟩,h4⟩,?_⟩,h6⟩
 unfold jo3 at h5
 unfold lastT
 rw [List.all_eq_true] at h5 ⊢
 intro d hd
 have h7:=h5 d hd
 rw [Bool.or_eq_true,Bool.and_eq_true,decide_eq_true_eq] at h7
 rcases h7 with h7 | ⟨h8,h9⟩
 ·rw [h7,Bool.true_or]
 ·rw [OM hB _ d h8 h8 h9,Bool.or_true]
theorem mM {P:Program} {Q:Exit→Act→World→Prop} {S:World→Prop} {n:Nat} {a:Act} {w:World} {B:List Nat} (hT:rtab md ops=T) (hB:nT T.2 B=true) (h:iC (rtab md ops=T)→iC (nT T.2 B=true)→jL P md ops Q S ds n l a w):jL P md ops Q S ds n l a w:=h ⟨hT⟩ ⟨hB⟩
end
def JA:Code→Nat→Option (Array Oper)
 | .region id ops _,k=>if id == k then some ops else none
 | .seq a b,k=>match JA a k with
  | some o=>some o
  | none=>JA b k
 | .cond _ a b,k=>match JA a k with
  | some o=>some o
  | none=>JA b k
 | .block _ c,k=>JA c k
 | .loop c,k=>JA c k
 | .scope c,k=>JA c k
 | .rangeFunc _ _ a b,k=>match JA a k with
  | some o=>some o
  | none=>JA b k
 | _,_=>none
def opsOf (f:Func) (k:Nat):Array Oper:=((f.body.bind fun c=>JA c k)).getD #[]
end Go.Proofs.YtgfkgppomaapiaaGreatDoorW.PrintLast
end
section
namespace Go.Proofs.YtgfkgppomaapiaaGreatDoorW.PrintWords
open Go.RowKit
section
variable {P:Program} {d:Nat} {xs ys:Array Value} {f:Field} {fs:List Field} {a b:Value} {r s:Bool} {w:World}
theorem jc4 (hn:(f.name == "_")=false) (ha:(part f.type xs f.offset).run P w=.ok a w) (hb:(part f.type ys f.offset).run P w=.ok b w) (he:(Op.equalIn d f.type a b).run P w=.ok r w):(Op.eqFields d xs ys [f]).run P w=.ok r w:=by
 have hn':f.name≠"_":=by simpa using hn
 simp only [Op.eqFields,if_pos hn',Sem.run_bind,ha,hb,he,Result.andThen_ok]
 cases r <;> simp
theorem jc3 (hn:(f.name == "_")=false) (ha:(part f.type xs f.offset).run P w=.ok a w) (hb:(part f.type ys f.offset).run P w=.ok b w) (he:(Op.equalIn d f.type a b).run P w=.ok r w) (hr:(Op.eqFields d xs ys fs).run P w=.ok s w):(Op.eqFields d xs ys (f :: fs)).run P w=.ok (r && s) w:=by
 have hn':f.name≠"_":=by simpa using hn
 rw [Op.eqFields]
 simp only [if_pos hn',Sem.run_bind,ha,hb,he,Result.andThen_ok]
 cases r
 ·simp
 ·simpa using hr
theorem jn0 {t:TypeId} {fs:Array Field} (hu:P.underlying t=some (.struct fs)) (hp:P.stoodInHeld t=false) (h:(Op.eqFields d xs ys fs.toList).run P w=.ok r w):(Op.equalIn (d+1) t (.agg xs) (.agg ys)).run P w=.ok r w:=by
 have hf:P.fieldsOf t=fs:=by simp [Program.fieldsOf,hu]
 rw [run_equalIn_struct (P:=P) w d t xs ys (by rw [hf];exact hu) hp,hf]
 exact h
end
end Go.Proofs.YtgfkgppomaapiaaGreatDoorW.PrintWords
end
section
namespace Go.Proofs.YtgfkgppomaapiaaGreatDoorW.PrintLast
def up (b:Nat→Bool) (i:Nat):Nat→Bool:=fun j=>if j=i then true else b j
theorem yJ (b:Nat→Bool) (i:Nat):up b i i=true:=by simp [up]
theorem zG {b:Nat→Bool} {i j:Nat} (h:j≠i):up b i j=b j:=by simp [up,h]
def lof (n:Nat) (O:List Nat) (b:Nat→Bool):List Bool:=(List.range n).map fun j=>if O.contains j then b j else true
def jX (a:Act) (b:Nat→Bool):List (Nat × Tmp × Value)→Act
 | []=>a
 | e :: r=>jX (if b e.1=true then a.put (some e.2.1) e.2.2 else a) b r
section
variable {P:Program} {ops:Array Oper} {Q:Exit→Act→World→Prop} {md:Region.Mode} {T:Bool × List (List Nat × List Nat)} {B:List Nat} {O:List Nat} {b:Nat→Bool} {i j n:Nat}
theorem UI:(lof n O b).length=n:=by simp [lof]
theorem MG {d:Bool} (hj:j<n):(lof n O b).getD j d=if O.contains j then b j else true:=by
 simp [lof,List.getD_eq_getElem?_getD,hj]
theorem jm7 (hi:O.contains i=true):(lof n O b).set i true=lof n O (up b i):=by
 apply List.ext_getElem?
 intro j
 by_cases hj:j<n
 ·by_cases hij:i=j
  ·subst hij
   have hl:i<(lof n O b).length:=by rw [UI];exact hj
   rw [List.getElem?_set_self hl]
   simp only [lof,List.getElem?_map,List.getElem?_range hj,Option.map_some,hi,if_true,yJ]
  ·rw [List.getElem?_set_ne hij]
   simp only [lof,List.getElem?_map,List.getElem?_range hj,Option.map_some]
   rw [zG (Ne.symm hij)]
 ·rw [List.getElem?_eq_none (by simp [lof];omega),List.getElem?_eq_none (by simp [lof];omega)]
def je2 (P:Program) (ops:Array Oper) (Q:Exit→Act→World→Prop) (B:List Nat) (O:List Nat) (I:(Nat→Bool)→Act→World→Prop) (i:Nat):Prop :=
 ∀ b a w,I b a w→b i=false→(∀ j,(O.contains j && (B.getD i 0).testBit j)=true→b j=true)→(∀ d,(O.contains d && (B.getD d 0).testBit i)=true→b d=false) →
  ∃ oi,ops[i]? = some oi∧∀ K:Act→World→Prop,Shut (∀ a' w',I (up b i) a' w'→K a' w')→if Region.wanted oi (yielded ops a.tmps)=true then Oper.wp P oi a w K Q else K (a.put oi.dst undef) w
def qN (T:List (List Nat × List Nat)) (O:List Nat):Bool :=
 (List.range T.length).all (fun d=>match T[d]? with
  | some r=>(O.contains d || r.1.all fun n=>!O.contains n) && r.1.all fun n=>decide (n<d)
  | none=>false) && O.all (fun i=>decide (i<T.length)) && decide O.Nodup
theorem pY {T:List (List Nat × List Nat)} (h:qN T O=true) {d:Nat} {r:List Nat × List Nat} (hr:T[d]? = some r):(O.contains d=false→∀ n∈r.1,O.contains n=false)∧∀ n∈r.1,n<d:=by
 simp only [qN,Bool.and_eq_true] at h
 have h1:=List.all_eq_true.1 h.1.1 d (List.mem_range.2 (List.getElem?_eq_some_iff.1 hr).1)
 rw [hr] at h1
 simp only [Bool.and_eq_true,Bool.or_eq_true,List.all_eq_true,decide_eq_true_eq] at h1
 refine ⟨fun hd n hn=>?_,h1.2⟩
 rcases h1.1 with h2 | h2
 ·rw [hd] at h2;cases h2
 ·simpa using h2 n hn
theorem O5 {T:List (List Nat × List Nat)} (h:qN T O=true) {i:Nat} (hi:i∈O):i<T.length:=by
 simp only [qN,Bool.and_eq_true] at h
 simpa using List.all_eq_true.1 h.1.2 i hi
theorem NF {T:List (List Nat × List Nat)} (h:qN T O=true):O.Nodup:=by
 simp only [qN,Bool.and_eq_true] at h
 exact of_decide_eq_true h.2
def Closed (T:List (List Nat × List Nat)) (O:List Nat) (b:Nat→Bool):Prop:=∀ d r,T[d]? = some r→O.contains d=true→b d=true→∀ n∈r.1,O.contains n=true→b n=true
theorem TP {T:List (List Nat × List Nat)} (hw:nT T B=true) (hk:qN T O=true):∀ (m d:Nat),d≤m→d<T.length→O.contains d=false→∀ j,(B.getD d 0).testBit j=true→O.contains j=false:=by
 intro m
 induction m with
 | zero =>
  intro d hd hl hO j hj
  have hd0:d=0:=by omega
  subst hd0
  have hr:T[0]? = some T[0]:=List.getElem?_eq_getElem hl
  have h1:=List.all_eq_true.1 hw 0 (List.mem_range.2 hl)
  rw [hr] at h1
  simp only [beq_iff_eq] at h1
  have h2:(upM B 0 T[0].1).testBit j=true:=by rw [← h1,Nat.testBit_or,hj,Bool.true_or]
  obtain ⟨n,hn,h3⟩:=vN h2
  have:=(pY hk hr).2 n hn
  omega
 | succ m ih =>
  intro d hd hl hO j hj
  have hr:T[d]? = some T[d]:=List.getElem?_eq_getElem hl
  have h1:=List.all_eq_true.1 hw d (List.mem_range.2 hl)
  rw [hr] at h1
  simp only [beq_iff_eq] at h1
  have h2:(upM B d T[d].1).testBit j=true:=by rw [← h1,Nat.testBit_or,hj,Bool.true_or]
  obtain ⟨n,hn,h3⟩:=vN h2
  have hO2:=(pY hk hr).1 hO n hn
  rcases h3 with rfl | ⟨h4,h5⟩
  ·exact hO2
  ·exact ih n (by omega) (by omega) hO2 j h5
theorem IV {T:List (List Nat × List Nat)} (hw:nT T B=true) (hk:qN T O=true) (hc:Closed T O b):∀ (m d:Nat),d≤m→d<T.length→O.contains d=true→b d=true→∀ j,O.contains j=true→(B.getD d 0).testBit j=true→b j=true:=by
 intro m
 induction m with
 | zero =>
  intro d hd hl hO hb j hjO hj
  have hd0:d=0:=by omega
  subst hd0
  have hr:T[0]? = some T[0]:=List.getElem?_eq_getElem hl
  have h1:=List.all_eq_true.1 hw 0 (List.mem_range.2 hl)
  rw [hr] at h1
  simp only [beq_iff_eq] at h1
  have h2:(upM B 0 T[0].1).testBit j=true:=by rw [← h1,Nat.testBit_or,hj,Bool.true_or]
  obtain ⟨n,hn,h3⟩:=vN h2
  have:=(pY hk hr).2 n hn
  omega
 | succ m ih =>
  intro d hd hl hO hb j hjO hj
  have hr:T[d]? = some T[d]:=List.getElem?_eq_getElem hl
  have h1:=List.all_eq_true.1 hw d (List.mem_range.2 hl)
  rw [hr] at h1
  simp only [beq_iff_eq] at h1
  have h2:(upM B d T[d].1).testBit j=true:=by rw [← h1,Nat.testBit_or,hj,Bool.true_or]
  obtain ⟨n,hn,h3⟩:=vN h2
  rcases h3 with rfl | ⟨h4,h5⟩
  ·exact hc d _ hr hO hb n hn hjO
  ·cases hO2:O.contains n with
   | true=>exact ih n (by omega) (by omega) hO2 (hc d _ hr hO hb n hn hO2) j hjO h5
   | false =>
    have:=TP hw hk n n (Nat.le_refl _) (by omega) hO2 j h5
    rw [hjO] at this
    cases this
theorem TG:∀ {O:List Nat},O.Nodup→i∈O→b i=false→(O.filter fun j=>!up b i j).length+1=(O.filter fun j=>!b j).length
 | [],_,hi,_=>by cases hi
 | x :: r,hn,hi,hb=>by
  rw [List.nodup_cons] at hn
  rcases List.mem_cons.1 hi with rfl | hi
  ·have h1:(r.filter fun j=>!up b i j)=r.filter fun j=>!b j:=by
    refine List.filter_congr (fun j hj=>?_)
    rw [zG (fun e=>hn.1 (by rw [← e];exact hj))]
   rw [List.filter_cons,List.filter_cons]
   simp [yJ,hb,h1]
  ·have hxi:x≠i:=fun e=>hn.1 (e▸hi)
   have h1:=TG hn.2 hi hb
   rw [List.filter_cons,List.filter_cons,zG hxi]
   cases hbx:b x
   ·simp only [Bool.not_false,if_true,List.length_cons]
    omega
   ·simpa using h1
theorem jj5 (hT:rtab md ops=T) (hw:nT T.2 B=true) (hk:qN T.2 O=true) (I:(Nat→Bool)→Act→World→Prop) (hs:∀ i∈O,je2 P ops Q B O I i)
  (hend:∀ b a w,(∀ j,O.contains j=true→b j=true)→I b a w→Q .normal a w) :
  ∀ (m:Nat) (b:Nat→Bool) (a:Act) (w:World),(O.filter fun j=>!b j).length=m→Closed T.2 O b→I b a w→jL P md ops Q (fun _=>True) [] m (lof T.2.length O b).toArray a w:=by
 subst hT
 have mem_ready':∀ {b:Nat→Bool} {i:Nat},i∈Region.ready md ops (lof (rtab md ops).2.length O b).toArray→i<(rtab md ops).2.length∧O.contains i=true∧b i=false∧∀ r,(rtab md ops).2[i]? = some r→∀ n∈r.1,n<(rtab md ops).2.length→O.contains n=true→b n=true:=by
  intro b i hi
  rw [ready_eq] at hi
  unfold yY at hi
  rw [List.mem_filter,List.mem_range] at hi
  obtain ⟨hl,h1⟩:=hi
  unfold qM at h1
  rw [Bool.and_eq_true,MG hl] at h1
  obtain ⟨h2,h3⟩:=h1
  have h4:O.contains i=true:=by
   cases h:O.contains i with
   | true=>rfl
   | false=>rw [h] at h2;simp at h2
  rw [h4] at h2
  refine ⟨hl,h4,by simpa using h2,fun r hr n hn hnl hO=>?_⟩
  rw [hr] at h3
  simp only [List.all_eq_true] at h3
  have h5:=h3 n hn
  rw [MG hnl,hO] at h5
  simpa using h5
 intro m
 induction m with
 | zero =>
  intro b a w hm hc hI
  have hall:∀ j,O.contains j=true→b j=true:=by
   intro j hj
   cases hb:b j with
   | true=>rfl
   | false =>
    have:j∈O.filter fun j=>!b j:=List.mem_filter.2 ⟨List.contains_iff_mem.1 hj,by simp [hb]⟩
    rw [List.eq_nil_of_length_eq_zero hm] at this
    cases this
  refine ⟨?_,hend b a w hall hI⟩
  refine List.eq_nil_iff_forall_not_mem.2 (fun i hi=>?_)
  obtain ⟨_,h1,h2,_⟩:=mem_ready' hi
  rw [hall i h1] at h2
  cases h2
 | succ m ih =>
  intro b a w hm hc hI
  refine ⟨fun hr=>?_,fun i hi=>?_⟩
  ·exfalso
   -- the smallest number that isn't listed is ready
   have hex:∃ i,O.contains i=true∧b i=false:=by
    cases hf:O.filter (fun j=>!b j) with
    | nil=>rw [hf] at hm;simp at hm
    | cons x r =>
     have hx:x∈O.filter (fun j=>!b j):=by rw [hf];exact List.mem_cons_self
     rw [List.mem_filter] at hx
     exact ⟨x,List.contains_iff_mem.2 hx.1,by simpa using hx.2⟩
   have hmin:∀ k,(∃ i,i≤k∧O.contains i=true∧b i=false)→∃ i,O.contains i=true∧b i=false∧∀ j,j<i→O.contains j=true→b j=true:=by
    intro k
    induction k with
    | zero =>
     rintro ⟨i,hi,h1,h2⟩
     exact ⟨i,h1,h2,fun j hj=>by omega⟩
    | succ k ihk =>
     rintro ⟨i,hi,h1,h2⟩
     by_cases hlow:∃ j,j≤k∧O.contains j=true∧b j=false
     ·exact ihk hlow
     ·refine ⟨i,h1,h2,fun j hj hO=>?_⟩
      cases hb:b j with
      | true=>rfl
      | false=>exact absurd ⟨j,by omega,hO,hb⟩ hlow
   obtain ⟨i0,h1,h2⟩:=hex
   obtain ⟨i,hO,hb,hlow⟩:=hmin i0 ⟨i0,Nat.le_refl _,h1,h2⟩
   have hl:=O5 hk (List.contains_iff_mem.1 hO)
   have hin:i∈Region.ready md ops (lof (rtab md ops).2.length O b).toArray:=by
    rw [ready_eq]
    unfold yY
    rw [List.mem_filter,List.mem_range]
    refine ⟨hl,?_⟩
    unfold qM
    rw [MG hl,hO,hb]
    have hr2:(rtab md ops).2[i]? = some (rtab md ops).2[i]:=List.getElem?_eq_getElem hl
    rw [hr2]
    simp only [if_true,Bool.not_false,Bool.true_and,List.all_eq_true]
    intro n hn
    have hni:=(pY hk hr2).2 n hn
    rw [MG (by omega)]
    cases hOn:O.contains n with
    | true=>simpa using hlow n hni hOn
    | false=>simp
   rw [hr] at hin
   cases hin
  ·obtain ⟨hl,hO,hb,hneed⟩:=mem_ready' hi
   have hon:∀ j,(O.contains j && (B.getD i 0).testBit j)=true→b j=true:=by
    intro j hj
    rw [Bool.and_eq_true] at hj
    have hr2:(rtab md ops).2[i]? = some (rtab md ops).2[i]:=List.getElem?_eq_getElem hl
    have h1:=List.all_eq_true.1 hw i (List.mem_range.2 hl)
    rw [hr2] at h1
    simp only [beq_iff_eq] at h1
    have h2:(upM B i (rtab md ops).2[i].1).testBit j=true:=by rw [← h1,Nat.testBit_or,hj.2,Bool.true_or]
    obtain ⟨n,hn,h3⟩:=vN h2
    have hni:=(pY hk hr2).2 n hn
    rcases h3 with rfl | ⟨h4,h5⟩
    ·exact hneed _ hr2 n hn (by omega) hj.1
    ·cases hO2:O.contains n with
     | true=>exact IV hw hk hc n n (Nat.le_refl _) (by omega) hO2 (hneed _ hr2 n hn (by omega) hO2) j hj.1 h5
     | false =>
      have:=TP hw hk n n (Nat.le_refl _) (by omega) hO2 j h5
      rw [hj.1] at this
      cases this
   have hoff:∀ d,(O.contains d && (B.getD d 0).testBit i)=true→b d=false:=by
    intro d hd
    rw [Bool.and_eq_true] at hd
    cases hbd:b d with
    | false=>rfl
    | true =>
     have hdl:=O5 hk (List.contains_iff_mem.1 hd.1)
     have:=IV hw hk hc d d (Nat.le_refl _) hdl hd.1 hbd i hO hd.2
     rw [hb] at this
     cases this
   obtain ⟨oi,hoi,hK⟩:=hs i (List.contains_iff_mem.1 hO) b a w hI hb hon hoff
   refine wpOp_step hoi (fun K' hK'=>hK K' (fun a' w' hI'=>hK' a' w' ⟨fun _ _=>trivial,?_⟩))
   have hset:(lof (rtab md ops).2.length O b).toArray.setIfInBounds i true=(lof (rtab md ops).2.length O (up b i)).toArray:=by
    apply Array.ext'
    rw [Array.toList_setIfInBounds]
    exact jm7 hO
   rw [hset]
   refine ih (up b i) a' w' ?_ ?_ hI'
   ·have:=TG (NF hk) (List.contains_iff_mem.1 hO) hb
    omega
   ·intro d r hr hOd hbd n hn hOn
    by_cases hni:n=i
    ·rw [hni,yJ]
    ·rw [zG hni]
     by_cases hdi:d=i
     ·subst hdi
      exact hneed r hr n hn (by have:=(pY hk hr).2 n hn;omega) hOn
     ·rw [zG hdi] at hbd
      exact hc d r hr hOd hbd n hn hOn
theorem vW (b:Nat→Bool):∀ (L:List (Nat × Tmp × Value)) (a:Act),(jX a b L).tmps.size=a.tmps.size∧(jX a b L).defers=a.defers
 | [],a=>⟨rfl,rfl⟩
 | e :: r,a=>by
  unfold jX
  by_cases h:b e.1=true
  ·rw [if_pos h]
   have:=vW b r (a.put (some e.2.1) e.2.2)
   exact ⟨this.1.trans (by simp [Act.put]),this.2.trans rfl⟩
  ·rw [if_neg h]
   exact vW b r a
theorem qV {b:Nat→Bool} {t:Tmp}:∀ {L:List (Nat × Tmp × Value)} {a:Act},(L.all fun e=>!(e.2.1 == t))=true→(jX a b L).tmps[t]? = a.tmps[t]?
 | [],_,_=>rfl
 | e :: r,a,h=>by
  rw [List.all_cons,Bool.and_eq_true] at h
  have he:e.2.1≠t:=by simpa using h.1
  unfold jX
  by_cases hb:b e.1=true
  ·rw [if_pos hb,qV h.2]
   simp [Act.put,Array.getElem?_setIfInBounds_ne he]
  ·rw [if_neg hb]
   exact qV h.2
theorem I8 {b:Nat→Bool} {e:Nat × Tmp × Value}:∀ {L:List (Nat × Tmp × Value)} {a:Act} (k:Nat),L[k]? = some e→((L.drop (k+1)).all fun x=>!(x.2.1 == e.2.1))=true→b e.1=true→Nat.ble (e.2.1+1) a.tmps.size=true→(jX a b L).tmps[e.2.1]? = some e.2.2
 | [],_,_,h,_,_,_=>by cases h
 | x :: r,a,0,h,hd,hb,ht=>by
  simp only [List.getElem?_cons_zero,Option.some.injEq] at h
  subst h
  unfold jX
  rw [if_pos hb,qV (by simpa using hd)]
  have ht2:x.2.1<a.tmps.size:=Nat.le_of_ble_eq_true ht
  simp [Act.put,ht2]
 | x :: r,a,k+1,h,hd,hb,ht=>by
  unfold jX
  refine I8 k (by simpa using h) (by simpa using hd) hb ?_
  by_cases hx:b x.1=true
  ·rw [if_pos hx]
   simpa [Act.put] using ht
  ·rw [if_neg hx]
   exact ht
theorem put_comm {a:Act} {s t:Tmp} {u v:Value} (h:s≠t):(a.put (some s) u).put (some t) v=(a.put (some t) v).put (some s) u:=by
 simp only [Act.put]
 rw [Array.setIfInBounds_comm _ _ h]
theorem yN {b:Nat→Bool} {t:Tmp} {v:Value}:∀ {L:List (Nat × Tmp × Value)} {a:Act},(L.all fun e=>!(e.2.1 == t))=true→(jX a b L).put (some t) v=jX (a.put (some t) v) b L
 | [],_,_=>rfl
 | e :: r,a,h=>by
  rw [List.all_cons,Bool.and_eq_true] at h
  have he:e.2.1≠t:=by simpa using h.1
  unfold jX
  by_cases hb:b e.1=true
  ·rw [if_pos hb,if_pos hb,yN h.2,put_comm he]
  ·rw [if_neg hb,if_neg hb]
   exact yN h.2
theorem IC {b:Nat→Bool} {i:Nat}:∀ {L:List (Nat × Tmp × Value)} {a:Act},(L.all fun e=>!(e.1 == i))=true→jX a (up b i) L=jX a b L
 | [],_,_=>rfl
 | e :: r,a,h=>by
  rw [List.all_cons,Bool.and_eq_true] at h
  have he:e.1≠i:=by simpa using h.1
  unfold jX
  rw [zG he]
  exact IC h.2
theorem NK {b:Nat→Bool} {i:Nat} {t:Tmp} {v0 v:Value}:∀ {L1 L2:List (Nat × Tmp × Value)} {a:Act},b i=false→((L1 ++ L2).all fun e=>!(e.1 == i) && !(e.2.1 == t))=true →
  (jX a b (L1 ++ (i,t,v0) :: L2)).put (some t) v=jX a (up b i) (L1 ++ (i,t,v) :: L2)
 | [],L2,a,hb,h=>by
  simp only [List.nil_append] at h ⊢
  have h1:(L2.all fun e=>!(e.1 == i))=true:=List.all_eq_true.2 (fun e he=>by have:=List.all_eq_true.1 h e he;simp only [Bool.and_eq_true] at this;exact this.1)
  have h2:(L2.all fun e=>!(e.2.1 == t))=true:=List.all_eq_true.2 (fun e he=>by have:=List.all_eq_true.1 h e he;simp only [Bool.and_eq_true] at this;exact this.2)
  unfold jX
  rw [if_neg (by rw [hb];decide),if_pos (yJ b i),yN h2,IC h1]
 | e :: r,L2,a,hb,h=>by
  simp only [List.cons_append,List.all_cons,Bool.and_eq_true] at h
  have he:e.1≠i:=by simpa using h.1.1
  simp only [List.cons_append]
  unfold jX
  rw [zG he]
  exact NK hb h.2
theorem JS {b:Nat→Bool} {i:Nat} {t:Tmp} {v0 v:Value} {a:Act} {L L':List (Nat × Tmp × Value)} (k:Nat) (hb:b i=false) (hL:L[k]? = some (i,t,v0)) (hL':L.set k (i,t,v)=L') (hd:((L.take k ++ L.drop (k+1)).all fun e=>!(e.1 == i) && !(e.2.1 == t))=true) :
  (jX a b L).put (some t) v=jX a (up b i) L':=by
 have hk:=(List.getElem?_eq_some_iff.1 hL).1
 have h1:L=L.take k ++ (i,t,v0) :: L.drop (k+1):=by
  have h2:L[k]=(i,t,v0):=(List.getElem?_eq_some_iff.1 hL).2
  rw [← h2,List.getElem_cons_drop,List.take_append_drop]
 have h3:L'=L.take k ++ (i,t,v) :: L.drop (k+1):=by rw [← hL',List.set_eq_take_append_cons_drop,if_pos hk]
 rw [h3]
 conv=>lhs;rw [h1]
 exact NK hb hd
theorem inv_ {l:Array Bool} {fuel:Nat} {a:Act} {w:World} (O:List Nat) (I:(Nat→Bool)→Act→World→Prop) (hT:rtab md ops=T) (hw:nT T.2 B=true) (hk:qN T.2 O=true)
  (hl:(lof T.2.length O (fun _=>false) == l.toList && O.length == fuel)=true) (h0:I (fun _=>false) a w) (hs:∀ i∈O,je2 P ops Q B O I i)
  (hend:∀ b a w,(∀ j,O.contains j=true→b j=true)→I b a w→Q .normal a w):jL P md ops Q (fun _=>True) [] fuel l a w:=by
 rw [Bool.and_eq_true,beq_iff_eq,beq_iff_eq] at hl
 have h1:=jj5 hT hw hk I hs hend fuel (fun _=>false) a w (by rw [← hl.2];simp) (fun d r _ _ hb=>by cases hb) h0
 have h2:(lof T.2.length O (fun _=>false)).toArray=l:=by apply Array.ext';exact hl.1
 rw [h2] at h1
 exact h1
end
end Go.Proofs.YtgfkgppomaapiaaGreatDoorW.PrintLast
end
section
namespace Go.Proofs.YtgfkgppomaapiaaGreatDoorW.PrintWords
open Go.RowKit
end Go.Proofs.YtgfkgppomaapiaaGreatDoorW.PrintWords
namespace Go.Proofs.YtgfkgppomaapiaaGreatDoorW.PrintLast
section
variable {ops:Array Oper} {a:Act} {o og:Oper} {g:Nat} {t:Tmp} {u:Bool}
theorem oI (hg:o.guard=some (g,u)) (ho:ops[g]? = some og) (hd:og.dst=some t) (hv:a.tmps[t]? = some (.bool u)):Region.wanted o (yielded ops a.tmps)=true:=by
 simp [Region.wanted,hg,yielded,ho,hd,hv]
end
end Go.Proofs.YtgfkgppomaapiaaGreatDoorW.PrintLast
end
section
namespace Go.Proofs.YtgfkgppomaapiaaGreatDoorW.PrintWords
open Go.RowKit
section
variable {P:Program} {ops:Array Oper} {rest:List Oper} {o:Oper} {a:Act} {Q:Exit→Act→World→Prop} {W:World}
theorem kM (hw:Region.wanted o (yielded ops a.tmps)=true) (h:wpList P ops Q ({ o with guard:=none } :: rest) a W):wpList P ops Q (o :: rest) a W:=by
 have h1:Region.wanted { o with guard:=none } (yielded ops a.tmps)=true:=rfl
 unfold wpList at h ⊢
 rw [if_pos h1] at h
 rw [if_pos hw]
 exact h
end
end Go.Proofs.YtgfkgppomaapiaaGreatDoorW.PrintWords
end
