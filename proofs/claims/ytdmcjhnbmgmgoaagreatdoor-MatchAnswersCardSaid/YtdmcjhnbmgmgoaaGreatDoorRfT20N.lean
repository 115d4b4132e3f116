import Derived.Test.YtdmcjhnbmgmgoaaGreatDoorRfP20
/- MatchAnswers returns true at every automaton, every list and number, and leaves them as they were; no conditions. -/
set_option linter.unusedVariables false
set_option linter.unusedSimpArgs false
set_option linter.unusedSectionVars false
namespace Go.Proofs.YtdmcjhnbmgmgoaaGreatDoor
open Go.ChangeShapes Go.WideShapes Go.ChangeAt Go.WideMaps Go.WideElems Go.RowKit Go.Rf
theorem is4:Is Tryz.prog 4 (Rj 8 13 14 15 16 17 19 20 18) [6] 3:=.k Tryz.func4 (by kernel_rfl)
theorem Zl7(d:aB)(l:List Int)(p:Int)(g:GA d)(_:O5 l)(_:vZ p):aM Tryz.prog 4 [aH d,au l,Rf.ak p] (aG true):=
 is4.uU yC rfl (Z9P d l p Zpf (Dl d 100) (wF.P5W d g.ok 100 (by omega)) (wF.P5p P5 d g.ok) (wF.P58 P5 d g.ok) (fun _ hl=>
  ⟨wF.cAt d g.ok l (by omega) p,wF.XT d g.ok l (by omega) p,wF.P5I P5 d g.ok l (by omega),wF.P59 P5 d g.ok l (by omega),
   wF.X5 _ (by have:=Sb d l l.length;omega),wF.X5 _ (by have:=Zjk d;omega)⟩))
theorem own:ownKnob Tryz.prog.godebug=none:=by kernel_rfl
theorem Uw:laidOutB Tryz.prog=true:=by kernel_rfl
theorem ZmE:∃fs,Tryz.prog.underlying 34=some (.struct fs)∨∃n e,Tryz.prog.underlying 34=some (.array n e):=by first | exact⟨_,.inl abD⟩ | exact ZpS
theorem ZpJ:(match Tryz.prog.underlying 23 with | some (.struct _)=>false | some (.array _ _)=>false | _=>true)=true:=by kernel_rfl
theorem ZpQ:(∀fs,Tryz.prog.underlying 23≠some (.struct fs))∧∀n e,Tryz.prog.underlying 23≠some (.array n e):=⟨fun fs h=>(by have:=ZpJ;rw[h] at this;cases this),fun n e h=>(by have:=ZpJ;rw[h] at this;cases this)⟩
theorem ZrQ:(match Tryz.prog.underlying 3 with | some (.struct _)=>false | some (.array _ _)=>false | _=>true)=true:=by kernel_rfl
theorem Zrr:(∀fs,Tryz.prog.underlying 3≠some (.struct fs))∧∀n e,Tryz.prog.underlying 3≠some (.array n e):=⟨fun fs h=>(by have:=ZrQ;rw[h] at this;cases this),fun n e h=>(by have:=ZrQ;rw[h] at this;cases this)⟩
set_option maxRecDepth 100000 in
theorem ZpK(os:Os)(started:os.Started)(H:Type)(enc:TypeId×Value→H) :
  ReturnsInHanded {} Tryz.checked os 4 .any (fun w args=>(Rows.matchAnswersSpec.pre enc Tryz.prog Tryz.f4 [] false w args∧laidMetH Tryz.prog JL w)∧sizedMet enc Tryz.prog Tryz.f4 (OpenSpec.ofChange Rows.matchAnswersSpec) false w args) (Rows.matchAnswersSpec.post enc Tryz.prog Tryz.f4 false true false false):=by
 refine returnsInHanded_of_change_and (C:=Tryz.checked) (X:=fun w _=>laidMetH Tryz.prog JL w) (fun _ _ _ hh h=>h.of_heap hh) own started (by kernel_rfl) Tryz.func4
  (ChangeSpec.witness_shaped (enc:=enc) (C:=Tryz.checked) (os:=os) (X:=fun w _=>laidMetH Tryz.prog JL w) false (World.doorLaid Tryz.prog 400 os) #[.agg #[.int .i64 0,.slice none 0 0,.slice none 0 0],.slice none 0 0,.int .i64 0] 8 rfl (World.shaped_of_RefB (by kernel_rfl) (by kernel_rfl)) (by kernel_rfl) (by kernel_rfl) (by kernel_rfl) (Zlb os _)) ?_
 intro W base args ds gs before hval0 hW hcnd hsz0 hlaid _;have hsz:(DataW.weightsEach Tryz.prog (Tryz.f4.params.toList++Rows.matchAnswersSpec.plain.varTypes Tryz.prog) (ds++gs)).all (·≤reachBytes)=true:=hsz0;have hval:∀(j:Nat) t v,Tryz.f4.params[j]? = some t→args[j]? = some v→Value.okWide Tryz.prog W .any base t v:=hval0;have hW':=hW;obtain⟨p,q,hA0,hV,rfl,hfz,hnd⟩:=hW;have hA:DataW.TrodAll enc Tryz.prog W 0 (fun _=>true) true Tryz.f4.params.toList args.toList ds p:=hA0;rw[Tryz.params4] at hA hval hsz;obtain⟨v0,vs0,d0,ds0,p0,q0,ha0,rfl,rfl,h0,r0⟩:=trodAll_cons hA;obtain⟨v1,vs1,d1,ds1,p1,q1,ha1,rfl,rfl,h1,r1⟩:=trodAll_cons r0;obtain⟨v2,vs2,d2,ds2,p2,q2,ha2,rfl,rfl,h2,r2⟩:=trodAll_cons r1;obtain⟨rfl,rfl,rfl⟩:=trodAll_nil r2;obtain rfl:args=#[v0,v1,v2]:=by cases args;simp_all
 obtain⟨rfl,rfl⟩:=trodVars_none hV;obtain⟨x0,g0,abj⟩:=iP.val Zrd (hval 0 34 v0 rfl rfl) (.inl (by first | exact⟨_,fun _=>rfl,ZmE⟩ | exact⟨_,Zp9,ZmE⟩)) h0 (TV hsz (j:=0) rfl rfl);have lt0:∀x∈p0,x.block < W.heap.size:=by obtain⟨m,hm⟩:=h0;exact DataW.trod_lt m _ _ _ hm
 obtain⟨x1,g1,abk⟩:=iP.val Zrc (hval 1 23 v1 rfl rfl) (.inr ⟨fun _=>rfl,ZpQ⟩) h1 (TV hsz (j:=1) rfl rfl);have lt1:∀x∈p1,x.block < W.heap.size:=by obtain⟨m,hm⟩:=h1;exact DataW.trod_lt m _ _ _ hm
 obtain⟨x2,g2,abl⟩:=iP.val Zs0 (hval 2 3 v2 rfl rfl) (.inr ⟨fun _=>rfl,Zrr⟩) h2 (TV hsz (j:=2) rfl rfl);have lt2:∀x∈p2,x.block < W.heap.size:=by obtain⟨m,hm⟩:=h2;exact DataW.trod_lt m _ _ _ hm
 clear hA0 hval0 hsz0 hsz;refine((Zl7 x0 x1 x2 g0 g1 g2).calls W (Zs4 W hlaid) (ZhM abj abk abl)).mono fun e W' ⟨he,OW⟩=>?_
 subst he;exact⟨_,rfl,_,_,_,[],_,[],hW',trodAll_mk1 (shut_bool Tryz.underlying4 _),(Tj (Below.trod Uw (by kernel_rfl) (of_decide_eq_true (by kernel_rfl)) h0 OW lt0) (Tj (Below.trod Uw (by kernel_rfl) (of_decide_eq_true (by kernel_rfl)) h1 OW lt1) (Tj (Below.trod Uw (by kernel_rfl) (of_decide_eq_true (by kernel_rfl)) h2 OW lt2) Zkc))),rfl,OW.frame _,fun h=>by cases h⟩
theorem over:Rows.matchAnswersRow.holds Tryz.pinned (OpenSpec.ofChange Rows.matchAnswersSpec):=
 OpenClaim.holds_of_wide 4 Tryz.f4 rfl rfl rfl rfl rfl rfl rfl ⟨rfl,rfl,rfl,rfl,rfl⟩ rfl rfl rfl rfl rfl (by kernel_rfl) Tryz.func4 (by kernel_rfl)
  (of_decide_eq_true (by kernel_rfl)) (by unfold Func.isWrapper;first | (rw[if_pos (by decide +kernel)];kernel_rfl) | (rw[if_neg (by decide +kernel)];exact⟨rfl,rfl⟩))
  (fun os started H enc _=>ZpK os started H enc)
theorem proved:Rows.MatchAnswersSaid:=over
theorem card:Rows.MatchAnswersCardSaid:=
 Claim7.holds_tied_plain_at .later [] [.data,.data,.data] true (true,"71b95219783978807a5e312949c1857bb101b606efcdcbb5cb281e078c2e1b57") true
  over (fun _ h=>by cases h) (by kernel_rfl) (fun _ h=>by cases h) matchAnswers_row_tie rfl ⟨rfl,rfl⟩ (by kernel_rfl) rfl
  (fun f fn hf hfn=>by
   obtain rfl:f=4:=Option.some.inj ((show Tryz.prog.funcNamed Rows.matchAnswersRow.func=some 4 by kernel_rfl).symm.trans hf) |>.symm;obtain rfl:fn=Tryz.f4:=(Option.some.inj (Tryz.func4.symm.trans hfn)).symm
   exact⟨by kernel_rfl,fun j t ht=>by
    rw[Tryz.params4] at ht;have hm:t∈[34,23,3]:=by simpa using Array.mem_of_getElem? ht
    have hall:([34,23,3].all fun u=>!Tryz.prog.wantsStandIn u)=true:=by kernel_rfl
    exact(show Tryz.prog.wantsStandIn t=false by simpa using List.all_eq_true.1 hall t hm)⟩)
  (by kernel_rfl)
end Go.Proofs.YtdmcjhnbmgmgoaaGreatDoor
