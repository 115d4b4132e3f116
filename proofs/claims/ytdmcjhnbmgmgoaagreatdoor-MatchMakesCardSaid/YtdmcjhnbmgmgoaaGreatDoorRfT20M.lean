import Derived.Test.YtdmcjhnbmgmgoaaGreatDoorRfM20
/- MatchMakes returns true at every rule and all numbers, and leaves them as they were; no conditions. -/
set_option linter.unusedVariables false
set_option linter.unusedSimpArgs false
set_option linter.unusedSectionVars false
namespace Go.Proofs.YtdmcjhnbmgmgoaaGreatDoor
open Go.ChangeShapes Go.WideShapes Go.ChangeAt Go.WideMaps Go.WideElems Go.RowKit Go.Rf
theorem is3:Is Tryz.prog 3 (Z5k 8 9 10 11 12) [6] 3:=⟨Tryz.f3,Tryz.f3.body.getD .skip,Tryz.func3,by kernel_rfl,by kernel_rfl,by kernel_rfl,by kernel_rfl,by rw[Tryz.ntmps3];decide⟩
theorem ZpH(r:Rul)(sg most:Int)(g:Zoj r)(_:ZgE sg)(_:ZgE most):Z0t Tryz.prog 3 [Z5u r,Rf.Z06 sg,Rf.Z06 most] (Z1n true):=by
 refine is3.P1q ZnN rfl (Zd7 r sg most Zu5 (Zef r 9) (P56 r g 9 (by omega) (by omega)) (fun hs _ _=>?_));have h:=ZqB (m:=9) g.b.good g.a.good (by omega) hs;exact⟨Z96 r sg most,seM.P5N r h.b h.a sg most,seM.P5b r h.b h.a sg most,seM.P5Q _ (Zo3 r sg most)⟩
theorem own:ownKnob Tryz.prog.godebug=none:=by kernel_rfl
theorem Zj0:laidOutB Tryz.prog=true:=by kernel_rfl
theorem Zrm:∃fs,Tryz.prog.underlying 28=some (.struct fs)∨∃n e,Tryz.prog.underlying 28=some (.array n e):=by first | exact⟨_,.inl under28⟩ | exact ZuD
theorem ZwG:(match Tryz.prog.underlying 3 with | some (.struct _)=>false | some (.array _ _)=>false | _=>true)=true:=by kernel_rfl
theorem ZuB:(∀fs,Tryz.prog.underlying 3≠some (.struct fs))∧∀n e,Tryz.prog.underlying 3≠some (.array n e):=⟨fun fs h=>(by have:=ZwG;rw[h] at this;cases this),fun n e h=>(by have:=ZwG;rw[h] at this;cases this)⟩
set_option maxRecDepth 100000 in
theorem Zuu(os:Os)(started:os.Started)(H:Type)(enc:TypeId×Value→H) :
  ReturnsInHanded {} Tryz.checked os 3 .any (fun w args=>(Rows.matchMakesSpec.pre enc Tryz.prog Tryz.f3 [] false w args∧laidMetH Tryz.prog ZnV w)∧sizedMet enc Tryz.prog Tryz.f3 (OpenSpec.ofChange Rows.matchMakesSpec) false w args) (Rows.matchMakesSpec.post enc Tryz.prog Tryz.f3 false true false false):=by
 refine returnsInHanded_of_change_and (C:=Tryz.checked) (X:=fun w _=>laidMetH Tryz.prog ZnV w) (fun _ _ _ hh h=>h.of_heap hh) own started (by kernel_rfl) Tryz.func3
  (ChangeSpec.witness_shaped (enc:=enc) (C:=Tryz.checked) (os:=os) (X:=fun w _=>laidMetH Tryz.prog ZnV w) false (World.doorLaid Tryz.prog 400 os) #[.agg #[.int .i64 0,.bool false,.int .i64 0,.slice none 0 0,.slice none 0 0,.slice none 0 0,.int .i64 0,.slice none 0 0,.slice none 0 0,.slice none 0 0,.int .i64 0],.int .i64 0,.int .i64 0] 8 rfl (World.shaped_of_RefB (by kernel_rfl) (by kernel_rfl)) (by kernel_rfl) (by kernel_rfl) (by kernel_rfl) (ZpM os _)) ?_
 intro W base args ds gs before hval0 hW hcnd hsz0 hlaid _;have hsz:(DataW.weightsEach Tryz.prog (Tryz.f3.params.toList++Rows.matchMakesSpec.plain.varTypes Tryz.prog) (ds++gs)).all (·≤reachBytes)=true:=hsz0;have hval:∀(j:Nat) t v,Tryz.f3.params[j]? = some t→args[j]? = some v→Value.okWide Tryz.prog W .any base t v:=hval0;have hW':=hW;obtain⟨p,q,hA0,hV,rfl,hfz,hnd⟩:=hW;have hA:DataW.TrodAll enc Tryz.prog W 0 (fun _=>true) true Tryz.f3.params.toList args.toList ds p:=hA0;rw[Tryz.params3] at hA hval hsz;obtain⟨v0,vs0,d0,ds0,p0,q0,ha0,rfl,rfl,h0,r0⟩:=trodAll_cons hA;obtain⟨v1,vs1,d1,ds1,p1,q1,ha1,rfl,rfl,h1,r1⟩:=trodAll_cons r0;obtain⟨v2,vs2,d2,ds2,p2,q2,ha2,rfl,rfl,h2,r2⟩:=trodAll_cons r1;obtain⟨rfl,rfl,rfl⟩:=trodAll_nil r2;obtain rfl:args=#[v0,v1,v2]:=by cases args;simp_all
 obtain⟨rfl,rfl⟩:=trodVars_none hV;obtain⟨x0,g0,rep0⟩:=Z7p.val ZvZ (hval 0 28 v0 rfl rfl) (.inl (by first | exact⟨_,fun _=>rfl,Zrm⟩ | exact⟨_,ZtZ,Zrm⟩)) h0 (Zg0 hsz (j:=0) rfl rfl);have lt0:∀x∈p0,x.block < W.heap.size:=by obtain⟨m,hm⟩:=h0;exact DataW.trod_lt m _ _ _ hm
 obtain⟨x1,g1,rep1⟩:=Z7p.val ZwC (hval 1 3 v1 rfl rfl) (.inr ⟨fun _=>rfl,ZuB⟩) h1 (Zg0 hsz (j:=1) rfl rfl);have lt1:∀x∈p1,x.block < W.heap.size:=by obtain⟨m,hm⟩:=h1;exact DataW.trod_lt m _ _ _ hm
 obtain⟨x2,g2,rep2⟩:=Z7p.val ZwC (hval 2 3 v2 rfl rfl) (.inr ⟨fun _=>rfl,ZuB⟩) h2 (Zg0 hsz (j:=2) rfl rfl);have lt2:∀x∈p2,x.block < W.heap.size:=by obtain⟨m,hm⟩:=h2;exact DataW.trod_lt m _ _ _ hm
 clear hA0 hval0 hsz0 hsz;refine((ZpH x0 x1 x2 g0 g1 g2).calls W (Zx5 W hlaid) (ZlU rep0 rep1 rep2)).mono fun e W' ⟨he,bel⟩=>?_
 subst he;exact⟨_,rfl,_,_,_,[],_,[],hW',trodAll_mk1 (shut_bool Tryz.underlying4 _),(Zei (Below.trod Zj0 (by kernel_rfl) (of_decide_eq_true (by kernel_rfl)) h0 bel lt0) (Zei (Below.trod Zj0 (by kernel_rfl) (of_decide_eq_true (by kernel_rfl)) h1 bel lt1) (Zei (Below.trod Zj0 (by kernel_rfl) (of_decide_eq_true (by kernel_rfl)) h2 bel lt2) Zp2))),rfl,bel.frame _,fun h=>by cases h⟩
theorem over:Rows.matchMakesRow.holds Tryz.pinned (OpenSpec.ofChange Rows.matchMakesSpec) :=
 OpenClaim.holds_of_wide 3 Tryz.f3 rfl rfl rfl rfl rfl rfl rfl ⟨rfl,rfl,rfl,rfl,rfl⟩ rfl rfl rfl rfl rfl (by kernel_rfl) Tryz.func3 (by kernel_rfl)
  (of_decide_eq_true (by kernel_rfl)) (by unfold Func.isWrapper;first | (rw[if_pos (by decide +kernel)];kernel_rfl) | (rw[if_neg (by decide +kernel)];exact⟨rfl,rfl⟩))
  (fun os started H enc _=>Zuu os started H enc)
theorem proved:Rows.MatchMakesSaid:=over
theorem card:Rows.MatchMakesCardSaid :=
 Claim7.holds_tied_plain_at .later [] [.data,.data,.data] true (true,"71b95219783978807a5e312949c1857bb101b606efcdcbb5cb281e078c2e1b57") true
  over (fun _ h=>by cases h) (by kernel_rfl) (fun _ h=>by cases h) matchMakes_row_tie rfl ⟨rfl,rfl⟩ (by kernel_rfl) rfl
  (fun f fn hf hfn=>by
   obtain rfl:f=3:=Option.some.inj ((show Tryz.prog.funcNamed Rows.matchMakesRow.func=some 3 by kernel_rfl).symm.trans hf) |>.symm;obtain rfl:fn=Tryz.f3:=(Option.some.inj (Tryz.func3.symm.trans hfn)).symm
   exact⟨by kernel_rfl,fun j t ht=>by
    rw[Tryz.params3] at ht;have hm:t∈[28,3,3]:=by simpa using Array.mem_of_getElem? ht
    have hall:([28,3,3].all fun u=>!Tryz.prog.wantsStandIn u)=true:=by kernel_rfl
    exact(show Tryz.prog.wantsStandIn t=false by simpa using List.all_eq_true.1 hall t hm)⟩)
  (by kernel_rfl)
end Go.Proofs.YtdmcjhnbmgmgoaaGreatDoor
