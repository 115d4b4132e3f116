import Derived.Test.YtdmcjhnbmgmgoaaGreatDoorRfW20
/- MatchWhere returns true at every rule and list, and leaves them as they were; no conditions. -/
set_option linter.unusedVariables false
set_option linter.unusedSimpArgs false
set_option linter.unusedSectionVars false
namespace Go.Proofs.YtdmcjhnbmgmgoaaGreatDoor
open Go.ChangeShapes Go.WideShapes Go.ChangeAt Go.WideMaps Go.WideElems Go.RowKit Go.Rf
theorem is5:Is Tryz.prog 5 (Vd 8 9 10 16 21 22) [4] 2:=.k Tryz.func5 (by kernel_rfl)
theorem Zo5(r:lN)(l:List Int)(g:Nb r)(_:SY l):aJ Tryz.prog 5 [mq r,aj l] (aD true):=by
 refine is5.lV Aw rfl (ZbA r l ZsJ (Ga r 9) (U6 r g 9 (by omega) (by omega)) (fun hs hl hr=>?_));have h:=Zp3 (m:=9) g.b.good g.a.good (by omega) hs;refine⟨vk r 3 400,Dm.P5Y r h.b h.a 3 400,ZjI (by omega) (by omega) (by omega) (by omega) (by have:=h.nb;omega) (by have:=h.na;omega),fun he=>⟨?_,fun k hk=>⟨GQ r l (k+1:Nat),?_,Dm.P5c seW r h.b h.a l (by omega) _⟩⟩⟩
 ·have:=Dm.P5s seW _ (ZfC r 3 400)
  rw[ZfT he] at this;exact this
 ·have:=Dm.cAt _ (ZfC r 3 400) l (by omega) (k+1:Nat)
  rw[ZoB he hr (by omega) hk] at this;exact this
theorem own:ownKnob Tryz.prog.godebug=none:=by kernel_rfl
theorem Zm8:laidOutB Tryz.prog=true:=by kernel_rfl
theorem ZpO:∃fs,Tryz.prog.underlying 28=some (.struct fs)∨∃n e,Tryz.prog.underlying 28=some (.array n e):=by first | exact⟨_,.inl abv⟩ | exact Ztv
theorem Ztg:(match Tryz.prog.underlying 23 with | some (.struct _)=>false | some (.array _ _)=>false | _=>true)=true:=by kernel_rfl
theorem Ztt:(∀fs,Tryz.prog.underlying 23≠some (.struct fs))∧∀n e,Tryz.prog.underlying 23≠some (.array n e):=⟨fun fs h=>(by have:=Ztg;rw[h] at this;cases this),fun n e h=>(by have:=Ztg;rw[h] at this;cases this)⟩
set_option maxRecDepth 100000 in
theorem Ztk(os:Os)(started:os.Started)(H:Type)(enc:TypeId×Value→H) :
  ReturnsInHanded {} Tryz.checked os 5 .any (fun w args=>(Rows.matchWhereSpec.pre enc Tryz.prog Tryz.f5 [] false w args∧laidMetH Tryz.prog M8 w)∧sizedMet enc Tryz.prog Tryz.f5 (OpenSpec.ofChange Rows.matchWhereSpec) false w args) (Rows.matchWhereSpec.post enc Tryz.prog Tryz.f5 false true false false):=by
 refine returnsInHanded_of_change_and (C:=Tryz.checked) (X:=fun w _=>laidMetH Tryz.prog M8 w) (fun _ _ _ hh h=>h.of_heap hh) own started (by kernel_rfl) Tryz.func5
  (ChangeSpec.witness_shaped (enc:=enc) (C:=Tryz.checked) (os:=os) (X:=fun w _=>laidMetH Tryz.prog M8 w) false (World.doorLaid Tryz.prog 400 os) #[.agg #[.int .i64 0,.bool false,.int .i64 0,.slice none 0 0,.slice none 0 0,.slice none 0 0,.int .i64 0,.slice none 0 0,.slice none 0 0,.slice none 0 0,.int .i64 0],.slice none 0 0] 8 rfl (World.shaped_of_RefB (by kernel_rfl) (by kernel_rfl)) (by kernel_rfl) (by kernel_rfl) (by kernel_rfl) (Zoa os _)) ?_
 intro W base args ds gs before hval0 hW hcnd hsz0 hlaid _;have hsz:(DataW.weightsEach Tryz.prog (Tryz.f5.params.toList++Rows.matchWhereSpec.plain.varTypes Tryz.prog) (ds++gs)).all (·≤reachBytes)=true:=hsz0;have hval:∀(j:Nat) t v,Tryz.f5.params[j]? = some t→args[j]? = some v→Value.okWide Tryz.prog W .any base t v:=hval0;have hW':=hW;obtain⟨p,q,hA0,hV,rfl,hfz,hnd⟩:=hW;have hA:DataW.TrodAll enc Tryz.prog W 0 (fun _=>true) true Tryz.f5.params.toList args.toList ds p:=hA0;rw[Tryz.params5] at hA hval hsz;obtain⟨v0,vs0,d0,ds0,p0,q0,ha0,rfl,rfl,h0,r0⟩:=trodAll_cons hA;obtain⟨v1,vs1,d1,ds1,p1,q1,ha1,rfl,rfl,h1,r1⟩:=trodAll_cons r0;obtain⟨rfl,rfl,rfl⟩:=trodAll_nil r1;obtain rfl:args=#[v0,v1]:=by cases args;simp_all
 obtain⟨rfl,rfl⟩:=trodVars_none hV;obtain⟨x0,g0,abf⟩:=jl.val ZuO (hval 0 28 v0 rfl rfl) (.inl (by first | exact⟨_,fun _=>rfl,ZpO⟩ | exact⟨_,ZsE,ZpO⟩)) h0 (Zin hsz (j:=0) rfl rfl);have lt0:∀x∈p0,x.block < W.heap.size:=by obtain⟨m,hm⟩:=h0;exact DataW.trod_lt m _ _ _ hm
 obtain⟨x1,g1,abg⟩:=jl.val ZuN (hval 1 23 v1 rfl rfl) (.inr ⟨fun _=>rfl,Ztt⟩) h1 (Zin hsz (j:=1) rfl rfl);have lt1:∀x∈p1,x.block < W.heap.size:=by obtain⟨m,hm⟩:=h1;exact DataW.trod_lt m _ _ _ hm
 clear hA0 hval0 hsz0 hsz;refine((Zo5 x0 x1 g0 g1).calls W (ZvR W hlaid) (ZoT abf abg)).mono fun e W' ⟨he,YH⟩=>?_
 subst he;exact⟨_,rfl,_,_,_,[],_,[],hW',trodAll_mk1 (shut_bool Tryz.underlying4 _),(Zgc (Below.trod Zm8 (by kernel_rfl) (of_decide_eq_true (by kernel_rfl)) h0 YH lt0) (Zgc (Below.trod Zm8 (by kernel_rfl) (of_decide_eq_true (by kernel_rfl)) h1 YH lt1) Zni)),rfl,YH.frame _,fun h=>by cases h⟩
theorem over:Rows.matchWhereRow.holds Tryz.pinned (OpenSpec.ofChange Rows.matchWhereSpec):=
 OpenClaim.holds_of_wide 5 Tryz.f5 rfl rfl rfl rfl rfl rfl rfl ⟨rfl,rfl,rfl,rfl,rfl⟩ rfl rfl rfl rfl rfl (by kernel_rfl) Tryz.func5 (by kernel_rfl)
  (of_decide_eq_true (by kernel_rfl)) (by unfold Func.isWrapper;first | (rw[if_pos (by decide +kernel)];kernel_rfl) | (rw[if_neg (by decide +kernel)];exact⟨rfl,rfl⟩))
  (fun os started H enc _=>Ztk os started H enc)
theorem proved:Rows.MatchWhereSaid:=over
theorem card:Rows.MatchWhereCardSaid:=
 Claim7.holds_tied_plain_at .later [] [.data,.data,.data] true (true,"71b95219783978807a5e312949c1857bb101b606efcdcbb5cb281e078c2e1b57") true
  over (fun _ h=>by cases h) (by kernel_rfl) (fun _ h=>by cases h) matchWhere_row_tie rfl ⟨rfl,rfl⟩ (by kernel_rfl) rfl
  (fun f fn hf hfn=>by
   obtain rfl:f=5:=Option.some.inj ((show Tryz.prog.funcNamed Rows.matchWhereRow.func=some 5 by kernel_rfl).symm.trans hf) |>.symm;obtain rfl:fn=Tryz.f5:=(Option.some.inj (Tryz.func5.symm.trans hfn)).symm
   exact⟨by kernel_rfl,fun j t ht=>by
    rw[Tryz.params5] at ht;have hm:t∈[28,23]:=by simpa using Array.mem_of_getElem? ht
    have hall:([28,23].all fun u=>!Tryz.prog.wantsStandIn u)=true:=by kernel_rfl
    exact(show Tryz.prog.wantsStandIn t=false by simpa using List.all_eq_true.1 hall t hm)⟩)
  (by kernel_rfl)
end Go.Proofs.YtdmcjhnbmgmgoaaGreatDoor
