import Derived.Test.YtdmcjhnbmgmgoaaGreatDoorRfZ8
/- MatchPlaces returns true at every rule, list and cut, and leaves them as they were; no conditions. -/
set_option linter.unusedVariables false
set_option linter.unusedSimpArgs false
set_option linter.unusedSectionVars false
namespace Go.Proofs.YtdmcjhnbmgmgoaaGreatDoor
open Go.ChangeShapes Go.WideShapes Go.ChangeAt Go.WideMaps Go.WideElems Go.RowKit Go.Rf
theorem is6:Is Tryz.prog 6 (Vs 8 9 10 19 14 16) [6] 3:=.k Tryz.func6 (by kernel_rfl)
def ZtZ(n:Int):AV:=.v (.int .u8 n)
def In8(n:Int):Prop:=IntKind.u8.min≤n∧n≤IntKind.u8.max
theorem Zwy(n:Nat):iW Tryz.prog n 5 ZtZ In8:=iW.int (by kernel_rfl) (by kernel_rfl) n
theorem Zp4(r:oF)(l:List Int)(c:Int)(g:M9 r)(_:Tn l)(gc:In8 c):aO Tryz.prog 6 [qG r,aA l,ZtZ c] (aH true):=by
 have c0:0≤c:=gc.1;have c1:c≤255:=gc.2;refine is6.rX Af rfl (Zbj r l c c0 c1 ZtB (FU r 9) (Vk r g 9 (by omega) (by omega)) (fun hs hl hr=>?_));have h:=Zq7 (m:=9) g.b.good g.a.good (by omega) hs;refine⟨xX r 3 400,BH.P5R r h.b h.a 3 400,Zko (by omega) (by omega) (by omega) (by omega) (by have:=h.nb;omega) (by have:=h.na;omega),fun he=>?_⟩;have M:=(ZdM (ZpS he)).1;have ok:=ZmW r 3 400;generalize(xX r 3 400).1=d at *
 have hK:(c % ((l.length:Int)+1)).toNat≤l.length:=by
  have h1:=Int.emod_nonneg c (show(l.length:Int)+1≠0 by omega);have h2:=Int.emod_lt_of_pos c (show(0:Int) < (l.length:Int)+1 by omega);omega
 refine⟨qC d l l.length,qC d (l.take _) (l.take _).length,jG d,(yZ d:Nat),nZ d,BH.P5d Z9 d ok l (by omega),BH.P5d Z9 d ok (l.take _) (by rw[List.length_take];omega),
  by have:=V5 d (l.take (c % ((l.length:Int)+1)).toNat) (l.take (c % ((l.length:Int)+1)).toNat).length;rw[List.length_take] at this;rw[List.length_take];omega,ZhR M hr hK,by have:=V5 d l l.length;omega,Zf0 _ _ _,Zno M hr,
  BH.P5k Z9 d ok,Zgd d,fun h=>Zv1 M hr h,fun h=>⟨?_,Zo4 M hr h⟩⟩
 have:=BH.cAt d ok (jG d) (by have:=Zgd d;omega) (yZ d:Nat);rw[Zv0 M h] at this;exact this
theorem own:ownKnob Tryz.prog.godebug=none:=by kernel_rfl
theorem XM:laidOutB Tryz.prog=true:=by kernel_rfl
theorem ZqM:∃fs,Tryz.prog.underlying 28=some (.struct fs)∨∃n e,Tryz.prog.underlying 28=some (.array n e):=by first | exact⟨_,.inl abP⟩ | exact Zuo
theorem Zuc:(match Tryz.prog.underlying 23 with | some (.struct _)=>false | some (.array _ _)=>false | _=>true)=true:=by kernel_rfl
theorem Zum:(∀fs,Tryz.prog.underlying 23≠some (.struct fs))∧∀n e,Tryz.prog.underlying 23≠some (.array n e):=⟨fun fs h=>(by have:=Zuc;rw[h] at this;cases this),fun n e h=>(by have:=Zuc;rw[h] at this;cases this)⟩
theorem Zwl:(match Tryz.prog.underlying 5 with | some (.struct _)=>false | some (.array _ _)=>false | _=>true)=true:=by kernel_rfl
theorem ZvZ:(∀fs,Tryz.prog.underlying 5≠some (.struct fs))∧∀n e,Tryz.prog.underlying 5≠some (.array n e):=⟨fun fs h=>(by have:=Zwl;rw[h] at this;cases this),fun n e h=>(by have:=Zwl;rw[h] at this;cases this)⟩
set_option maxRecDepth 100000 in
theorem Zue(os:Os)(started:os.Started)(H:Type)(enc:TypeId×Value→H) :
  ReturnsInHanded {} Tryz.checked os 6 .any (fun w args=>(Rows.matchPlacesSpec.pre enc Tryz.prog Tryz.f6 [] false w args∧laidMetH Tryz.prog M0 w)∧sizedMet enc Tryz.prog Tryz.f6 (OpenSpec.ofChange Rows.matchPlacesSpec) false w args) (Rows.matchPlacesSpec.post enc Tryz.prog Tryz.f6 false true false false):=by
 refine returnsInHanded_of_change_and (C:=Tryz.checked) (X:=fun w _=>laidMetH Tryz.prog M0 w) (fun _ _ _ hh h=>h.of_heap hh) own started (by kernel_rfl) Tryz.func6
  (ChangeSpec.witness_shaped (enc:=enc) (C:=Tryz.checked) (os:=os) (X:=fun w _=>laidMetH Tryz.prog M0 w) false (World.doorLaid Tryz.prog 400 os) #[.agg #[.int .i64 0,.bool false,.int .i64 0,.slice none 0 0,.slice none 0 0,.slice none 0 0,.int .i64 0,.slice none 0 0,.slice none 0 0,.slice none 0 0,.int .i64 0],.slice none 0 0,.int .u8 0] 8 rfl (World.shaped_of_RefB (by kernel_rfl) (by kernel_rfl)) (by kernel_rfl) (by kernel_rfl) (by kernel_rfl) (Zp9 os _)) ?_
 intro W base args ds gs before hval0 hW hcnd hsz0 hlaid _;have hsz:(DataW.weightsEach Tryz.prog (Tryz.f6.params.toList++Rows.matchPlacesSpec.plain.varTypes Tryz.prog) (ds++gs)).all (·≤reachBytes)=true:=hsz0;have hval:∀(j:Nat) t v,Tryz.f6.params[j]? = some t→args[j]? = some v→Value.okWide Tryz.prog W .any base t v:=hval0;have hW':=hW;obtain⟨p,q,hA0,hV,rfl,hfz,hnd⟩:=hW;have hA:DataW.TrodAll enc Tryz.prog W 0 (fun _=>true) true Tryz.f6.params.toList args.toList ds p:=hA0;rw[Tryz.params6] at hA hval hsz;obtain⟨v0,vs0,d0,ds0,p0,q0,ha0,rfl,rfl,h0,r0⟩:=trodAll_cons hA;obtain⟨v1,vs1,d1,ds1,p1,q1,ha1,rfl,rfl,h1,r1⟩:=trodAll_cons r0;obtain⟨v2,vs2,d2,ds2,p2,q2,ha2,rfl,rfl,h2,r2⟩:=trodAll_cons r1;obtain⟨rfl,rfl,rfl⟩:=trodAll_nil r2;obtain rfl:args=#[v0,v1,v2]:=by cases args;simp_all
 obtain⟨rfl,rfl⟩:=trodVars_none hV;obtain⟨x0,g0,abt⟩:=iW.val ZvK (hval 0 28 v0 rfl rfl) (.inl (by first | exact⟨_,fun _=>rfl,ZqM⟩ | exact⟨_,Ztw,ZqM⟩)) h0 (Xh hsz (j:=0) rfl rfl);have lt0:∀x∈p0,x.block < W.heap.size:=by obtain⟨m,hm⟩:=h0;exact DataW.trod_lt m _ _ _ hm
 obtain⟨x1,g1,abu⟩:=iW.val ZvJ (hval 1 23 v1 rfl rfl) (.inr ⟨fun _=>rfl,Zum⟩) h1 (Xh hsz (j:=1) rfl rfl);have lt1:∀x∈p1,x.block < W.heap.size:=by obtain⟨m,hm⟩:=h1;exact DataW.trod_lt m _ _ _ hm
 obtain⟨x2,g2,abv⟩:=iW.val Zwy (hval 2 5 v2 rfl rfl) (.inr ⟨fun _=>rfl,ZvZ⟩) h2 (Xh hsz (j:=2) rfl rfl);have lt2:∀x∈p2,x.block < W.heap.size:=by obtain⟨m,hm⟩:=h2;exact DataW.trod_lt m _ _ _ hm
 clear hA0 hval0 hsz0 hsz;refine((Zp4 x0 x1 x2 g0 g1 g2).calls W (ZwD W hlaid) (ZkB abt abu abv)).mono fun e W' ⟨he,Tc⟩=>?_
 subst he;exact⟨_,rfl,_,_,_,[],_,[],hW',trodAll_mk1 (shut_bool Tryz.underlying4 _),(Xc (Below.trod XM (by kernel_rfl) (of_decide_eq_true (by kernel_rfl)) h0 Tc lt0) (Xc (Below.trod XM (by kernel_rfl) (of_decide_eq_true (by kernel_rfl)) h1 Tc lt1) (Xc (Below.trod XM (by kernel_rfl) (of_decide_eq_true (by kernel_rfl)) h2 Tc lt2) Zo1))),rfl,Tc.frame _,fun h=>by cases h⟩
theorem over:Rows.matchPlacesRow.holds Tryz.pinned (OpenSpec.ofChange Rows.matchPlacesSpec):=
 OpenClaim.holds_of_wide 6 Tryz.f6 rfl rfl rfl rfl rfl rfl rfl ⟨rfl,rfl,rfl,rfl,rfl⟩ rfl rfl rfl rfl rfl (by kernel_rfl) Tryz.func6 (by kernel_rfl)
  (of_decide_eq_true (by kernel_rfl)) (by unfold Func.isWrapper;first | (rw[if_pos (by decide +kernel)];kernel_rfl) | (rw[if_neg (by decide +kernel)];exact⟨rfl,rfl⟩))
  (fun os started H enc _=>Zue os started H enc)
theorem proved:Rows.MatchPlacesSaid:=over
theorem card:Rows.MatchPlacesCardSaid:=
 Claim7.holds_tied_plain_at .later [] [.data,.data,.data] true (true,"71b95219783978807a5e312949c1857bb101b606efcdcbb5cb281e078c2e1b57") true
  over (fun _ h=>by cases h) (by kernel_rfl) (fun _ h=>by cases h) matchPlaces_row_tie rfl ⟨rfl,rfl⟩ (by kernel_rfl) rfl
  (fun f fn hf hfn=>by
   obtain rfl:f=6:=Option.some.inj ((show Tryz.prog.funcNamed Rows.matchPlacesRow.func=some 6 by kernel_rfl).symm.trans hf) |>.symm;obtain rfl:fn=Tryz.f6:=(Option.some.inj (Tryz.func6.symm.trans hfn)).symm
   exact⟨by kernel_rfl,fun j t ht=>by
    rw[Tryz.params6] at ht;have hm:t∈[28,23,5]:=by simpa using Array.mem_of_getElem? ht
    have hall:([28,23,5].all fun u=>!Tryz.prog.wantsStandIn u)=true:=by kernel_rfl
    exact(show Tryz.prog.wantsStandIn t=false by simpa using List.all_eq_true.1 hall t hm)⟩)
  (by kernel_rfl)
end Go.Proofs.YtdmcjhnbmgmgoaaGreatDoor
