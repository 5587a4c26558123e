/- The law WalDoes: for every input it returns true, and the arguments read as they did. The condition on the one listed package variable is tied to the program's text. -/
import Derived.Test.YtgfkgppomaapiaaGreatDoorQWalDoes9
import Derived.SevenTiedAt
namespace Go.Proofs.YtgfkgppomaapiaaGreatDoor.walDoes
open Go Go.ChangeShapes Go.WideShapes Go.ChangeAt Go.RowKit Go.Proofs.YtgfkgppomaapiaaGreatDoor.My Go.Proofs.YtgfkgppomaapiaaGreatDoor.K Go.Proofs.YtgfkgppomaapiaaGreatDoorW.PrintWords
set_option maxRecDepth 100000 in
theorem contract (H:Type) (enc:TypeId × Value→H) (W:World) (base:Nat) (args:Array Value) (ds gs:List (DataW H)) (before:List MemPlace)
  (hval:∀ (j:Nat) t v,Tryz.f4.params[j]? = some t→args[j]? = some v→Value.okWide Tryz.prog W .any base t v)
  (hW:DataW.Whole enc Tryz.prog Tryz.f4.params.toList Rows.walDoesSpec.vars false W args.toList ds gs before) :
  Calls Tryz.prog 4 args W fun e W'=>∃ v,e=.returned v∧Rows.walDoesSpec.post enc Tryz.prog Tryz.f4 false true false false W args v W':=by
 have hW':=hW
 obtain ⟨p,q,hA0,hV,rfl,hfz,hnd⟩:=hW
 have hA:DataW.TrodAll enc Tryz.prog W 0 (fun _=>true) true Tryz.f4.params.toList args.toList ds p:=hA0
 rw [Tryz.params4] at hA hval
 obtain ⟨v0,vs0,d0,ds0,p0,q0,hargs,rfl,rfl,h0,r0⟩:=trodAll_cons hA
 obtain ⟨v1,vs1,d1,ds1,p1,q1,rfl,rfl,rfl,h1,r1⟩:=trodAll_cons r0
 obtain ⟨rfl,rfl,rfl⟩:=trodAll_nil r1
 obtain rfl:args = #[v0,v1]:=by cases args;simp_all
 obtain ⟨rfl,rfl⟩:=trodVars_none hV
 obtain ⟨a0,rfl,rfl,rfl,w0⟩:=open_int Tryz.underlying28 (hval 0 28 v0 rfl rfl) h0
 have k1:=h1
 have lt1:∀ x∈p1,x.block<W.heap.size:=by obtain ⟨m,hm⟩:=k1;exact DataW.trod_lt m _ _ _ hm
 obtain ⟨B1,m1,cp1,rfl⟩:=okWide_slice Tryz.underlying44 (hval 1 44 v1 rfl rfl)
 obtain ⟨fu1,hf1⟩:=h1
 obtain ⟨A1,c1,l1,eq1,le1,C1,ok1,wt1⟩:=came_C came_wops enc hf1
 simp only [Value.cells,List.cons.injEq,and_true,Value.slice.injEq] at eq1
 obtain ⟨rfl,rfl,rfl⟩:=eq1
 clear hA0 hval
 refine (walDoes_walk a0 B1 cp1 l1 W (wf_u16 w0) C1 le1 ok1).mono fun e W' ⟨he,bel⟩=>?_
 subst he
 exact ⟨_,rfl,_,_,_,[],_,[],hW',trodAll_mk1 (shut_bool Tryz.underlying4 _),(trodAll_cons_mk (shut_int Tryz.underlying28 w0) (trodAll_cons_mk (Below.trod laidOut (by kernel_rfl) (of_decide_eq_true (by kernel_rfl)) k1 bel lt1) trodAll_mk0)),rfl,bel.frame _,fun h=>by cases h⟩
set_option maxRecDepth 100000 in
theorem lifted (os:Os) (started:os.Started) (H:Type) (enc:TypeId × Value→H) (F:Stop.Interp) :
  ReturnsInHanded {} Tryz.checked os 4 .any ((OpenSpec.ofChange Rows.walDoesSpec).preRow enc Tryz.prog Tryz.f4 Rows.walDoesRow.domain false Rows.walDoesRow.laid) (((OpenSpec.ofChange Rows.walDoesSpec).at F).post enc Tryz.prog Tryz.f4 false true false false):=by
 refine returnsInHanded_of_row (C:=Tryz.checked) (s:=(OpenSpec.ofChange Rows.walDoesSpec)) own started (by kernel_rfl) Tryz.func4
  (witness_door (enc:=enc) (s:=(OpenSpec.ofChange Rows.walDoesSpec)) #[.int .u16 0,.slice none 0 0] (by kernel_rfl) (x:=([.lit (.int .u16 0),.nil],[],[])) (by kernel_rfl) (fun k hk=>by cases hk) (by kernel_rfl)) ?_
 intro W base args ds gs before hval hW _ _ _ _ _ _
 exact contract H enc W base args ds gs before hval hW
theorem fin:(Rows.walDoesRow.lifted == Tryz.pinned.checked.prog.liftsFinal)=true:=by rw [pin_final];rfl
theorem mk:(Tryz.pinned.checked.prog.make == some Rows.walDoesRow.make)=true:=by rw [pin_make];rfl
set_option maxRecDepth 100000 in
theorem closed:joinedFacts Tryz.pinned.checked.prog 4 Tryz.f4 (OpenSpec.ofChange Rows.walDoesSpec).bare Rows.walDoesRow=true:=by
 unfold joinedFacts
 repeat' (with_reducible apply band)
 all_goals first | (with_reducible exact pin_may) | (with_reducible exact fin) | (with_reducible exact mk) | kernel_rfl
theorem said:Rows.WalDoesSaid :=
 OpenClaim.holds_of_cond 4 Tryz.f4 rfl rfl rfl rfl rfl rfl rfl ⟨rfl,rfl,rfl,rfl,rfl⟩ rfl rfl rfl rfl rfl (by kernel_rfl) Tryz.func4 closed
  (of_decide_eq_true (by kernel_rfl)) (by unfold Func.isWrapper;first | (rw [if_pos (by decide +kernel)];kernel_rfl) | (rw [if_neg (by decide +kernel)];exact ⟨rfl,rfl⟩))
  (fun os started H enc _ F=>by rw [OpenClaim.pre_eq_preRow];exact lifted os started H enc F)
theorem plain (f:FuncId) (fn:Func) (hf:Tryz.pinned.checked.prog.funcNamed "stratum/stratumlaw11.WalDoes" = some f) (hfn:Tryz.pinned.checked.prog.funcs[f]? = some fn) :
  true=Tryz.pinned.checked.prog.looks []∧∀ (j:Nat) t,fn.params[j]? = some t→Tryz.pinned.checked.prog.wantsStandIn t=false:=by
 obtain rfl:f=4:=Option.some.inj ((show Tryz.prog.funcNamed "stratum/stratumlaw11.WalDoes" = some 4 by kernel_rfl).symm.trans hf) |>.symm
 obtain rfl:fn=Tryz.f4:=(Option.some.inj (Tryz.func4.symm.trans hfn)).symm
 refine ⟨by kernel_rfl,fun j t ht=>?_⟩
 rw [Tryz.params4] at ht
 have hm:t∈[28,44]:=by simpa using Array.mem_of_getElem? ht
 have hall:([28,44].all fun u=>!Tryz.prog.wantsStandIn u)=true:=by kernel_rfl
 exact (show Tryz.prog.wantsStandIn t=false by simpa using List.all_eq_true.1 hall t hm)
theorem card:Rows.WalDoesCardSaid :=
 Claim7.holds_tied_plain_at .later [] _ _ _ _ said (fun _ h=>by cases h) (by kernel_rfl) (fun _ h=>by cases h) walDoes_row_tie rfl ⟨rfl,rfl⟩ pin_main rfl plain (by kernel_rfl)
end Go.Proofs.YtgfkgppomaapiaaGreatDoor.walDoes
namespace Go.Proofs.YtgfkgppomaapiaaGreatDoor
theorem walDoes_holds:Rows.WalDoesCardSaid:=walDoes.card
#print axioms walDoes_holds
end Go.Proofs.YtgfkgppomaapiaaGreatDoor
