import Derived.Test.YtdmcjhnbmgmgoaaGreatDoorRfZC
/- MatchEmpty returns true at every two numbers; no conditions. -/
set_option linter.unusedVariables false
set_option linter.unusedSimpArgs false
set_option linter.unusedSectionVars false
namespace Go.Proofs.YtdmcjhnbmgmgoaaGreatDoor
open Go.ChangeShapes Go.WideShapes Go.ChangeAt Go.WideMaps Go.WideElems Go.RowKit Go.Rf
theorem is7:Is Tryz.prog 7 (U5 8 10 14 19) [4] 2:=.k Tryz.func7 (by kernel_rfl)
def X4(n:Int):AV:=.v (.int .u8 n)
def TP(n:Int):Prop:=IntKind.u8.min≤n∧n≤IntKind.u8.max
theorem Zv7(n:Nat):mK Tryz.prog n 5 X4 TP:=mK.int (by kernel_rfl) (by kernel_rfl) n
theorem Ww(d:aD)(ok:rP d)(l:List Int)(hl:l.length≤100000):rW Tryz.prog 19 [aT d,aA l] (aA (qP d l l.length)):=
 G6.places.UY yS rfl (ZaG d l hl (fun i _=>zh.cAt d ok l (by omega) i))
theorem ZtL(j k:Int):Wk (Gl j k) (FJ (sK (.mk j [] [] []) (.mk k [] [] []))):=by
 have e:FJ (sK (.mk j [] [] []) (.mk k [] [] []))=.agg [.v (.int .i64 0),.v (.bool false),.v (.int .i64 j),.sl false [],.sl false [],.sl false [],.v (.int .i64 k),.sl false [],.sl false [],.sl false [],.v (.int .i64 0)]:=by
  simp[FJ,sK,rV,AV.cells,Rf.aj,aH,Ct,aA]
 rw[e];have s:Wk (.sl true []) (.sl false []):=Wk.sl' (.refl _);exact Wk.agg' (.cons (.refl _) (.cons (.refl _) (.cons (.refl _) (.cons s (.cons s (.cons s (.cons (.refl _) (.cons s (.cons s (.cons s (.cons (.refl _) .nil)))))))))))
theorem okS(j:Int):xG (.mk j [] [] []):=by simp[xG,zK]
theorem K8(j k n:Int)(h:(xu (sK (.mk j [] [] []) (.mk k [] [] [])) n 10).2=0):aN Tryz.prog 10 [Gl j k,Rf.aj n,Rf.aj 10] (jV ((xu (sK (.mk j [] [] []) (.mk k [] [] [])) n 10).1,0)):=by
 have:=zh.P5R (sK (.mk j [] [] []) (.mk k [] [] [])) (okS j) (okS k) n 10;rw[P9 h] at this;exact this.wk (.cons (ZtL j k) (.refl _))
theorem Zte(n:Int)(hn:1≤n)(k:Nat):qO n (mL n k):=by
 intro x hx;simp only[mL,List.mem_map,List.mem_range] at hx;obtain⟨i,_,rfl⟩:=hx;exact⟨Int.emod_nonneg _ (by omega),Int.emod_lt_of_pos _ (by omega)⟩
theorem Zo5(sg nd:Int)(gs:TP sg)(gd:TP nd):aN Tryz.prog 7 [X4 sg,X4 nd] (aH true):=by
 have s0:0≤sg:=gs.1;have s1:sg≤255:=gs.2;have n0:0≤nd:=gd.1;have n1:nd≤255:=gd.2;obtain⟨n,hn⟩:∃n,1+sg % 4=n:=⟨_,rfl⟩;obtain⟨e1,e2,e3⟩:=Zql (n:=n) (by omega) (by omega);obtain⟨a0,a4⟩:=XU e1;obtain⟨b0,b4⟩:=XU e2;obtain⟨c0,c4⟩:=XU e3;have A:=(Pt (P9 a0)).1;have B:=(Pt (P9 b0)).1;have C:=(Pt (P9 c0)).1;have oa:=Wn (sK uL uL) n 10;have ob:=Wn (sK zZ uL) n 10;have oc:=Wn (sK uL zZ) n 10;have ka:=K8 1 1 n a0;have kb:=K8 2 1 n b0;have kc:=K8 1 2 n c0;have hl:(mL n (nd % 20).toNat).length≤100000:=by simp[mL];omega
 have hr:=Zte n (by omega) (nd % 20).toNat;have wa:=zh.UO G6 _ oa;have wb:=zh.UO G6 _ ob;have wc:=zh.UO G6 _ oc;rw[Zoi A (by omega) (fun l p h=>Zm0 l p h)] at wa;rw[Xn B (fun l p=>Zm2 l p)] at wb;rw[Xn C (fun l p=>Zm1 l p)] at wc;have qb:=zh.UR G6 _ ob _ hl;have qc:=zh.UR G6 _ oc _ hl;have pb:=Ww _ ob _ hl;have pc:=Ww _ oc _ hl;rw[Zcl B (fun l p=>Zm2 l p) hr] at qb pb;rw[Zcl C (fun l p=>Zm1 l p) hr] at qc pc;subst hn;exact is7.sS yS rfl (Zby sg nd s0 s1 n0 n1 ZsD _ _ _ _ _ _ _ _ _ ka kb kc wa wb wc _ (Zje A (fun l p h=>Zm0 l p h) hr) (Ww _ oa _ hl) pb pc (zh.UR G6 _ oa _ hl) qb qc a4 b4 c4)
theorem own:ownKnob Tryz.prog.godebug=none:=by kernel_rfl
theorem ZlQ:laidOutB Tryz.prog=true:=by kernel_rfl
theorem Zvc:(match Tryz.prog.underlying 5 with | some (.struct _)=>false | some (.array _ _)=>false | _=>true)=true:=by kernel_rfl
theorem Ztk:(∀fs,Tryz.prog.underlying 5≠some (.struct fs))∧∀n e,Tryz.prog.underlying 5≠some (.array n e):=⟨fun fs h=>(by have:=Zvc;rw[h] at this;cases this),fun n e h=>(by have:=Zvc;rw[h] at this;cases this)⟩
set_option maxRecDepth 100000 in
theorem Ztb(os:Os)(started:os.Started)(H:Type)(enc:TypeId×Value→H) :
  ReturnsInHanded {} Tryz.checked os 7 .any (fun w args=>(Rows.matchEmptySpec.pre enc Tryz.prog Tryz.f7 [] false w args∧laidMetH Tryz.prog Mv w)∧sizedMet enc Tryz.prog Tryz.f7 (OpenSpec.ofChange Rows.matchEmptySpec) false w args) (Rows.matchEmptySpec.post enc Tryz.prog Tryz.f7 false true false false):=by
 refine returnsInHanded_of_change_and (C:=Tryz.checked) (X:=fun w _=>laidMetH Tryz.prog Mv w) (fun _ _ _ hh h=>h.of_heap hh) own started (by kernel_rfl) Tryz.func7
  (ChangeSpec.witness_shaped (enc:=enc) (C:=Tryz.checked) (os:=os) (X:=fun w _=>laidMetH Tryz.prog Mv w) false (World.doorLaid Tryz.prog 400 os) #[.int .u8 0,.int .u8 0] 8 rfl (World.shaped_of_RefB (by kernel_rfl) (by kernel_rfl)) (by kernel_rfl) (by kernel_rfl) (by kernel_rfl) (Zoa os _)) ?_
 intro W base args ds gs before hval0 hW hcnd hsz0 hlaid _;have hsz:(DataW.weightsEach Tryz.prog (Tryz.f7.params.toList++Rows.matchEmptySpec.plain.varTypes Tryz.prog) (ds++gs)).all (·≤reachBytes)=true:=hsz0;have hval:∀(j:Nat) t v,Tryz.f7.params[j]? = some t→args[j]? = some v→Value.okWide Tryz.prog W .any base t v:=hval0;have hW':=hW;obtain⟨p,q,hA0,hV,rfl,hfz,hnd⟩:=hW;have hA:DataW.TrodAll enc Tryz.prog W 0 (fun _=>true) true Tryz.f7.params.toList args.toList ds p:=hA0;rw[Tryz.params7] at hA hval hsz;obtain⟨v0,vs0,d0,ds0,p0,q0,ha0,rfl,rfl,h0,r0⟩:=trodAll_cons hA;obtain⟨v1,vs1,d1,ds1,p1,q1,ha1,rfl,rfl,h1,r1⟩:=trodAll_cons r0;obtain⟨rfl,rfl,rfl⟩:=trodAll_nil r1;obtain rfl:args=#[v0,v1]:=by cases args;simp_all
 obtain⟨rfl,rfl⟩:=trodVars_none hV;obtain⟨x0,g0,abp⟩:=mK.val Zv7 (hval 0 5 v0 rfl rfl) (.inr ⟨fun _=>rfl,Ztk⟩) h0 (Zin hsz (j:=0) rfl rfl);have lt0:∀x∈p0,x.block < W.heap.size:=by obtain⟨m,hm⟩:=h0;exact DataW.trod_lt m _ _ _ hm
 obtain⟨x1,g1,abq⟩:=mK.val Zv7 (hval 1 5 v1 rfl rfl) (.inr ⟨fun _=>rfl,Ztk⟩) h1 (Zin hsz (j:=1) rfl rfl);have lt1:∀x∈p1,x.block < W.heap.size:=by obtain⟨m,hm⟩:=h1;exact DataW.trod_lt m _ _ _ hm
 clear hA0 hval0 hsz0 hsz;refine((Zo5 x0 x1 g0 g1).calls W (Zvv W hlaid) (ZoY abp abq)).mono fun e W' ⟨he,YK⟩=>?_
 subst he;exact⟨_,rfl,_,_,_,[],_,[],hW',trodAll_mk1 (shut_bool Tryz.underlying4 _),(Zgh (Below.trod ZlQ (by kernel_rfl) (of_decide_eq_true (by kernel_rfl)) h0 YK lt0) (Zgh (Below.trod ZlQ (by kernel_rfl) (of_decide_eq_true (by kernel_rfl)) h1 YK lt1) Zn3)),rfl,YK.frame _,fun h=>by cases h⟩
theorem over:Rows.matchEmptyRow.holds Tryz.pinned (OpenSpec.ofChange Rows.matchEmptySpec):=
 OpenClaim.holds_of_wide 7 Tryz.f7 rfl rfl rfl rfl rfl rfl rfl ⟨rfl,rfl,rfl,rfl,rfl⟩ rfl rfl rfl rfl rfl (by kernel_rfl) Tryz.func7 (by kernel_rfl)
  (of_decide_eq_true (by kernel_rfl)) (by unfold Func.isWrapper;first | (rw[if_pos (by decide +kernel)];kernel_rfl) | (rw[if_neg (by decide +kernel)];exact⟨rfl,rfl⟩))
  (fun os started H enc _=>Ztb os started H enc)
theorem proved:Rows.MatchEmptySaid:=over
theorem card:Rows.MatchEmptyCardSaid:=
 Claim7.holds_tied_plain_at .later [] [.data,.data,.data] true (true,"71b95219783978807a5e312949c1857bb101b606efcdcbb5cb281e078c2e1b57") true
  over (fun _ h=>by cases h) (by kernel_rfl) (fun _ h=>by cases h) matchEmpty_row_tie rfl ⟨rfl,rfl⟩ (by kernel_rfl) rfl
  (fun f fn hf hfn=>by
   obtain rfl:f=7:=Option.some.inj ((show Tryz.prog.funcNamed Rows.matchEmptyRow.func=some 7 by kernel_rfl).symm.trans hf) |>.symm;obtain rfl:fn=Tryz.f7:=(Option.some.inj (Tryz.func7.symm.trans hfn)).symm
   exact⟨by kernel_rfl,fun j t ht=>by
    rw[Tryz.params7] at ht;have hm:t∈[5,5]:=by simpa using Array.mem_of_getElem? ht
    have hall:([5,5].all fun u=>!Tryz.prog.wantsStandIn u)=true:=by kernel_rfl
    exact(show Tryz.prog.wantsStandIn t=false by simpa using List.all_eq_true.1 hall t hm)⟩)
  (by kernel_rfl)
end Go.Proofs.YtdmcjhnbmgmgoaaGreatDoor
