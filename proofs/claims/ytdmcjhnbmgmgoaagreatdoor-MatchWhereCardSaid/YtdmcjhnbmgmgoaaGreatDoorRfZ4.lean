import Derived.Test.YtdmcjhnbmgmgoaaGreatDoorRfW6
set_option linter.unusedVariables false
set_option linter.unusedSimpArgs false
set_option linter.unusedSectionVars false
namespace Go.Rf
open Go.RowKit
attribute [local simp] mW mV oF pG pJ pQ pK nA qy pO ow pq mK oz kD qw pY qO qL qK qE qN oO oL ql pR qz qG qF qA qo pU qm qI qH oK kT pI pV pW pz o7 eG iB iU iy iR iN iM iT iO gG iP fH iF iQ iE eT eU gD ig je jf gZ jk fU fQ fE eO gV gW gX gP gQ jg iV iH jc iX iZ iY jd jh iK iq gT gU gM iw dO eP gI iL ji ex aH fF dF eY cK dn aL bT fJ gH eZ gN iD iC iW iJ bS dN dV fZ fV gY fu bD pE ny dL eH qc o8 pX oh fC gB gq gy fM dA eX eB d9 bB qx oD oq qj o9 qg qh p9 kZ qd p8 qb S0 ah aD rA q9 rC om og qp rJ rz rH rP rG rO rE rM rD tO gL.cl bW.cl aW dY aT jR jG tN tK tL mM sO sP sN tX jM jS kU tY qW qD r9 uh um uj tV nZ oH uq rW tT rX ou sM jy uy dW mF bN oV
def Bf(KV P3S P27 rT Uz UL P4h P4S KR:FuncId):AC:= (sq [ro 2 (.box 1 (.t 0)),ro 3 (.box 4 (.t 1)),ro 4 (.alloc (.agg [(.v (.bool false)),(.sl true []),(.sl true [])]) 3)] (.seq (sq [rF 8 0 3,rL 9 8] (.block 0 (sq [ro 11 (.bin .eql (.t 9) (ci 1)),rm 10 11] (.cond (.t 10) (sq [ro 12 (.build (.agg [(.v (.bool false)),(.sl true []),(.sl true [])]) [(0,1)] [(0,(.c (.v (.bool true))))]),rn (.store 3 (.t 4) (.t 12))] .ret) (sq [ro 14 (.bin .eql (.t 9) (ci 2)),rm 13 14] (.cond (.t 13) (.seq (.xk [(0,⟨(some 15),.load none (.t 2),none,none⟩,[]),(1,⟨(some 16),.cu 2 (.t 3),none,none⟩,[]),(2,⟨(some 17),.load none (.t 16),none,none⟩,[]),(3,⟨(some 18),.mv (.c .junk),none,(some ((.c (.aP KV [] [])),[(.t 17)]))⟩,[0]),(4,⟨(some 19),.A8 P3S [] [(.t 2)],none,none⟩,[]),(5,⟨(some 20),.mv (.c .junk),none,(some ((.c (.aP P27 [] [])),[(.t 18),(.t 19)]))⟩,[0]),(6,⟨(some 21),.mv (.c .junk),none,(some ((.c (.aP rT [] [])),[(.t 20)]))⟩,[0]),(7,⟨(some 22),.mv (.c .junk),none,(some ((.c (.aP Uz [] [])),[(.t 15),(.t 21)]))⟩,[]),(8,⟨(some 23),.dH 1 1 (.v (.int .i64 0)) [(0,(.t 22))],none,none⟩,[]),(9,⟨(some 5),.mv (.t 23),none,none⟩,[])]) (sq [rm 24 5,rm 25 5,ro 26 (.build (.agg [(.v (.bool false)),(.sl true []),(.sl true [])]) [(0,1),(1,1),(2,1)] [(0,(.c (.v (.bool false)))),(1,(.t 24)),(2,(.t 25))]),rn (.store 3 (.t 4) (.t 26))] .ret)) (sq [ro 28 (.bin .eql (.t 9) (ci 3)),rm 27 28] (.cond (.t 27) (.seq (.xk [(0,⟨(some 29),.load none (.t 2),none,none⟩,[]),(1,⟨(some 30),.load none (.t 2),none,none⟩,[]),(2,⟨(some 31),.cu 3 (.t 3),none,none⟩,[]),(3,⟨(some 32),.load none (.t 31),none,none⟩,[]),(4,⟨(some 33),.mv (.c .junk),none,(some ((.c (.aP UL [] [])),[(.t 30),(.t 32)]))⟩,[0]),(5,⟨(some 34),.mv (.c .junk),none,(some ((.c (.aP P4h [] [])),[(.t 29),(.t 33)]))⟩,[]),(6,⟨none,.store 3 (.t 4) (.t 34),none,none⟩,[])]) .ret) (sq [ro 36 (.bin .eql (.t 9) (ci 4)),rm 35 36] (.cond (.t 35) (sq [rL 37 2,rF 38 3 3,rL 39 38,rk 40 UL [(.t 37),(.t 39)],rk 41 P4S [(.t 40)],rn (.store 3 (.t 4) (.t 41))] .ret) .skip)))))))))) (sq [rL 42 2,rF 43 3 3,rL 44 43,rk 45 UL [(.t 42),(.t 44)],rm 6 45] (.seq (sq [rm 46 6,ro 47 (.len (.t 46)),ro 48 (.bin .neq (.t 47) (ci 1)),rm 49 48,rg 50 49 false (.cu 0 (.t 3)),rg 51 49 false (.load none (.t 50)),rg 52 49 false (.bin .lss (.t 51) (ci 5)),ro 53 (.pick (.t 49) (.c (.v (.bool true))) (.t 52)),rm 54 53,rg 55 54 false (.cu 0 (.t 3)),rg 56 54 false (.load none (.t 55)),rg 57 54 false (.bin .gtr (.t 56) (ci 7)),ro 58 (.pick (.t 54) (.c (.v (.bool true))) (.t 57))] (.cond (.t 58) (sq [ro 59 (.build (.agg [(.v (.bool false)),(.sl true []),(.sl true [])]) [] []),rn (.store 3 (.t 4) (.t 59))] .ret) .skip)) (sq [rm 60 6,ro 61 (.aM 3 (.t 60) (ci 0)),ro 62 (.load (some 3) (.t 61)),ro 7 (.alloc (.agg [(.v (.bool false)),(.sl true []),(.sl true [])]) 3),rn (.store 3 (.t 7) (.t 62))] (.seq (sq [rF 63 0 3,rL 64 63,ro 65 (.bin .neq (.t 64) (ci 7))] (.cond (.t 65) (.reg none [rL 66 2,rF 67 2 7,rL 68 67,rF 69 1 7,rL 70 69,rk 71 KR [(.t 66),(.t 68),(.t 70)]]) .skip)) (sq [rF 72 0 7,rL 73 72,rm 74 73,rg 75 74 false (.cu 0 (.t 3)),rg 76 74 false (.load none (.t 75)),rg 77 74 false (.bin .neq (.t 76) (ci 6)),ro 78 (.pick (.t 74) (.c (.v (.bool true))) (.t 77)),rF 79 0 7,rn (.store 1 (.t 79) (.t 78))] (sq [ro 80 (.load (some 3) (.t 7)),rn (.store 3 (.t 4) (.t 80))] .ret))))))))
structure Q7(P:Program)(sg:Int)(ff fc f1 fd nJ fst fe fj tu sF:FuncId):Prop where
 clone:xw P fc (q8 1 8 (.v (.int .i64 0))) [.t 2] 1
 del:∀(l:List Int),l.length≤17592186043904→∀(o:Bool),(o=true∨l=[])→∀(st:Gs),aN P fd [vV o 4 (l.map ah),.aP f1 [] [.ptr 3 0 0]] ⟨5,bn (ni sg o st l)⟩ (XA sg o st l)
 set:JF P nJ
 state:∀(o:Bool) (b:List Int) (st:Gs),st.fo.length=st.au.length→st.au.length≤100000→nS P fst [aj b] sg o st ⟨st.au++[b],st.fo++[[]]⟩ (ah st.au.length)
 each:∀(ks:List aF),ks.length≤100000→(∀q∈ks,FR P ff sg q)→∀(st:Gs),qZ st→st.au.length+jZ ks≤10000→nS P fe [.sl false (ks.map cB)] sg true st (cZ sg ks st).2 (.sl false ((cZ sg ks st).1.map dR))
 join:∀(es:List Ed),es.length≤100000→∀(st:Gs),qZ st→(∀e∈es,uM st.au.length e)→st.au.length≤10000→nS P fj [.sl false (es.map dR)] sg true st (kE es (nk true) st).2 (dR (kE es (nk true) st).1)
 either:∀(es:List Ed),es.length≤100000→(∀e∈es,uM 100000 e)→aJ P tu [.sl false (es.map dR)] (dR (tZ es (nk false)))
 follow:∀(ss be:List Int) (st:Gs),qZ st→jD st.au.length ss→jD st.au.length be→st.au.length≤100000→nS P sF [aj ss,aj be] sg true st ⟨st.au,jN st.fo ss be⟩ (.aO [])
theorem y9(sg:Int)(o:Bool)(st:Gs)(x:Option aB):bn (mG sg o st 0 3 4++[(5,x)]) 5=x:=by simp[mG,bn]
theorem Zjz{P:Program}(hm:P.follows .mixedOrders=true){sg:Int}{ff fc f1 fd nJ fst fe fj tu sF:FuncId}(F:Q7 P sg ff fc f1 fd nJ fst fe fj tu sF)(h:xA P ff (Bf fc f1 fd nJ fst fe fj tu sF) [.c 4 (some 3)] 2)
  {k:Int} {ps:List Rg} {pg:List Int} {ks:List aF} (hks:ks.length≤100000) (hpg:pg.length≤17592186043904) (hq:∀q∈ks,FR P ff sg q):FR P ff sg (.mk k ps pg ks):=by
 intro st hst hb;have hbl:st.au.length≤10000:=by omega
 have hF:∀(d:Option Nat) (a:AF),a 2=.ptr 3 0 0→Fq ⟨d,.load none (.t 2),none,none⟩ a=[3]:=fun d a h=>Zq4 none (.t 2) 3 0 0 (by simpa[dF] using h)
 refine h.wM hm rfl ?_;by_cases k1:k=1
 ·subst k1
  have hres:dU sg (.mk 1 ps pg ks) st=(⟨true,[],[]⟩,st):=by simp[dU]
  simp[Bf,cO,mG,bM,bD,jr,gJ,JG];refine⟨jm [(4,.ptr 5 0 0)],⟨10,bn (mG sg true st 0 3 4++[(5,some (.arr 3 [dR ⟨true,[],[]⟩]))])⟩,aX.of [(0,0),(3,1),(4,2),(5,5)] [] (by omega) ⟨by simp,by simp⟩ ?_ ?_,?_⟩
  ·simp[mG,bM,dR]
   exact .loose (by simp)
  ·simp
  ·simp[bL,bP,RV.ev,eF,bV,y9,lJ,hres]
   first | exact .of | exact⟨rfl,.of⟩
 have k1':(k == 1)=false:=by simpa using k1
 by_cases k2:k=2
 ·subst k2
  have hres:dU sg (.mk 2 ps pg ks) st=(⟨false,[(st.au.length:Int)],[(st.au.length:Int)]⟩,⟨st.au++[Ap sg pg],st.fo++[[]]⟩):=by simp[dU]
  have ho:HZ pg=true∨pg=[]:=by cases pg<;>simp[HZ]
  have hfl:(pg.filter (kM sg)).length≤pg.length:=List.length_filter_le _ _;simp[Bf,cO,mG,bM,bD,Zhn,XC,WV,Zhv,Zf2,k1'];refine Zf6 F.clone pg (by omega) (by simp) ?_;refine⟨(by simp[xQ,hF,aH,aL]),?_⟩;refine Zo9 (F.del pg (by omega) (HZ pg) ho st) (id:=0) (b:=1) (c:=2) (bx:=3) (q:=27) (by simp[bM]) (by simp) (by simp) (by simp) (by simp) (by simp) (by simp[bT]) ?_;intro xs hx1 hx2;refine⟨(by simp[xQ,hF,aH,aL]),?_⟩;refine aN.gives [27] (F.set (pg.filter (kM sg)) (by omega)) (dJ.cons (ZqW ho (by simp) hx1 hx2) dJ.nil) (aT _) ?_;refine⟨(by simp[xQ,hF,aH,aL,CQ]),?_⟩;refine nS.use (F.state true (Ap sg pg) st hst.len (by omega)) (fun _=>.cl (aG (aT _) aQ)) (aW _) (id:=0) (b:=1) (c:=2) (by simp[bM,CQ,dW]) (by simp[CQ,bN]) (by simp[CQ,bN]) (by simp) (by simp[ZpM]) ?_;simp[Zq8,XC,WV,xQ,mE,CQ,ZpM,jr,gJ];refine⟨jm [(4,.ptr 5 0 0)],⟨10,bn (mG sg true ⟨st.au++[Ap sg pg],st.fo++[[]]⟩ 0 3 4++[(5,some (.arr 3 [dR ⟨false,[(st.au.length:Int)],[(st.au.length:Int)]⟩]))])⟩,aX.of [(0,0),(3,34),(4,35),(5,5)] [] (by omega) ⟨by simp,by simp⟩ ?_ ?_,?_⟩
  ·simp[mG,bM,dR]
   exact .loose (aG (sO _) aQ)
  ·simp
  ·simp[bL,bP,RV.ev,eF,bV,y9,lJ,hres]
   first | exact .of | exact⟨rfl,.of⟩
 have k2':(k == 2)=false:=by simpa using k2
 have hE:=F.each ks hks hq st hst (by simp only[jE] at hb;rw[if_neg k1,if_neg k2] at hb;exact hb);obtain⟨n1,n2,n3⟩:=QH sg ks st hst;have hcn:jE (.mk k ps pg ks)=jZ ks:=by simp only[jE];rw[if_neg k1,if_neg k2]
 have hel:=Qd sg ks st;by_cases k3:k=3
 ·subst k3
  have hres:dU sg (.mk 3 ps pg ks) st=kE (cZ sg ks st).1 (nk true) (cZ sg ks st).2:=by simp[dU,nk]
  simp[Bf,cO,mG,bM,bD,Zhn,XC,WV,Zhv,Zf2,k1',k2'];refine nS.use hE (fun _=>.cl (aG (vS ks) aQ)) (yU _) (id:=0) (b:=1) (c:=2) (by simp[bM,dW]) (by simp[bN]) (by simp[bN]) (by simp) (by simp) ?_;refine⟨(by simp[xQ,hF,aH,aL,mE]),?_⟩;refine nS.use (F.join _ (by omega) _ n1 n2 (by omega)) (fun _=>.cl (aG (yU _) aQ)) (FI _) (id:=0) (b:=21) (c:=22) (by simp[bM,mE,dW]) (by simp[mE,bN]) (by simp[mE,bN]) (by simp) (by simp[mE]) ?_;simp[xQ,mE,lJ,Jh];refine⟨jm [(4,.ptr 5 0 0)],⟨10,bn (mG sg true (kE (cZ sg ks st).1 (nk true) (cZ sg ks st).2).2 0 3 4++[(5,some (.arr 3 [dR (kE (cZ sg ks st).1 (nk true) (cZ sg ks st).2).1]))])⟩,aX.of [(0,0),(3,28),(4,29),(5,5)] [] (by omega) ⟨by simp,by simp⟩ ?_ ?_,?_⟩
  ·simp[mG,bM,dR]
  ·simp
  ·simp[bL,bP,RV.ev,eF,bV,y9,lJ,QT,hres]
   first | exact .of | exact⟨rfl,.of⟩
 have k3':(k == 3)=false:=by simpa using k3
 by_cases k4:k=4
 ·subst k4
  have hres:dU sg (.mk 4 ps pg ks) st=(tZ (cZ sg ks st).1 (nk false),(cZ sg ks st).2):=by simp[dU,nk]
  simp[Bf,cO,mG,bM,bD,k1',k2',k3'];refine nS.use hE (fun _=>.cl (aG (vS ks) aQ)) (yU _) (id:=0) (b:=1) (c:=2) (by simp[bM,dW]) (by simp[bN]) (by simp[bN]) (by simp) (by simp) ?_;simp[mE];refine aN.pure (F.either _ (by omega) (fun e he=>(n2 e he).mono (by omega))) (aG (yU _) aQ) (FI _) ?_;simp[lJ,Jh,bM];refine⟨jm [(4,.ptr 5 0 0)],⟨10,bn (mG sg true (cZ sg ks st).2 0 3 4++[(5,some (.arr 3 [dR (tZ (cZ sg ks st).1 (nk false))]))])⟩,aX.of [(0,0),(3,22),(4,23),(5,5)] [] (by omega) ⟨by simp,by simp⟩ ?_ ?_,?_⟩
  ·simp[mG,bM,dR]
  ·simp
  ·simp[bL,bP,RV.ev,eF,bV,y9,lJ,QT,hres]
   first | exact .of | exact⟨rfl,.of⟩
 have k4':(k == 4)=false:=by simpa using k4
 ·have hres:dU sg (.mk k ps pg ks) st=uW (cZ sg ks st).1 k (cZ sg ks st).2:=by simp[dU,k1,k2,k3,k4]
  simp[Bf,cO,mG,bM,bD,k1',k2',k3',k4'];refine nS.use hE (fun _=>.cl (aG (vS ks) aQ)) (yU _) (id:=0) (b:=1) (c:=2) (by simp[bM,dW]) (by simp[bN]) (by simp[bN]) (by simp) (by simp) ?_;have hle:=Qd sg ks st;generalize hge:cZ sg ks st=ge at *;obtain⟨es,st1⟩:=ge;simp only at n1 n2 n3 hle hres ⊢;by_cases hk1:es.length=1
  ·obtain⟨e,rfl⟩:=List.length_eq_one_iff.mp hk1
   have he:=n2 e (by simp);by_cases h57:5≤k∧k≤7
   ·have a1:¬k < 5:=by omega
    have a2:¬7 < k:=by omega
    have hres2:dU sg (.mk k ps pg ks) st=(⟨e.bH || decide (k≠6),e.fst,e.aS⟩,if k=7 then st1 else ⟨st1.au,jN st1.fo e.aS e.fst⟩):=by rw[hres];simp only[uW];rw[if_pos h57]
    by_cases h7:k=7
    ·subst h7
     rw[if_pos rfl] at hres2;have hdk:(e.bH || decide ((7:Int)≠6))=true:=by simp
     rw[hdk] at hres2;cases hn:e.bH
     ·simp[mE,bM,bD,lJ,hn]
      refine⟨jm [(4,.ptr 5 0 0)],⟨10,bn (mG sg true st1 0 3 4++[(5,some (.arr 3 [dR ⟨true,e.fst,e.aS⟩]))])⟩,aX.of [(0,0),(3,21),(4,22),(5,5)] [] (by omega) ⟨by simp,by simp⟩ ?_ ?_,?_⟩
      ·simp[mG,bM,dR]
      ·simp
      ·simp[bL,bP,RV.ev,eF,bV,y9,lJ,hres2]
       first | exact .of | exact⟨rfl,.of⟩
     ·simp[mE,bM,bD,lJ,hn]
      refine⟨jm [(4,.ptr 5 0 0)],⟨10,bn (mG sg true st1 0 3 4++[(5,some (.arr 3 [dR ⟨true,e.fst,e.aS⟩]))])⟩,aX.of [(0,0),(3,21),(4,22),(5,5)] [] (by omega) ⟨by simp,by simp⟩ ?_ ?_,?_⟩
      ·simp[mG,bM,dR]
      ·simp
      ·simp[bL,bP,RV.ev,eF,bV,y9,lJ,hres2]
       first | exact .of | exact⟨rfl,.of⟩
    ·have h7':(k == 7)=false:=by simpa using h7
     have aas:(k != 7)=true:=by simpa using h7
     rw[if_neg h7] at hres2;have hfo:=F.follow e.aS e.fst st1 n1 he.l he.f (by omega);simp[mE,bM,bD,lJ,a1,a2,aas];refine nS.use hfo (fun _=>.cl (aG (aT _) (aG (aT _) aQ))) (.aO _ (by simp)) (id:=0) (b:=21) (c:=22) (by simp[bM,dW]) (by simp[bN]) (by simp[bN]) (by simp) (by simp) ?_;cases hn:e.bH
     ·by_cases h6:k=6
      ·subst h6
       have hdk:(e.bH || decide ((6:Int)≠6))=false:=by simp[hn]
       rw[hdk] at hres2;simp[mE,bM];refine⟨jm [(4,.ptr 5 0 0)],⟨10,bn (mG sg true ⟨st1.au,jN st1.fo e.aS e.fst⟩ 0 3 4++[(5,some (.arr 3 [dR ⟨false,e.fst,e.aS⟩]))])⟩,aX.of [(0,0),(3,55),(4,56),(5,5)] [] (by omega) ⟨by simp,by simp⟩ ?_ ?_,?_⟩
       ·simp[mG,bM,dR]
       ·simp
       ·simp[bL,bP,RV.ev,eF,bV,y9,lJ,hres2]
        first | exact .of | exact⟨rfl,.of⟩
      ·have h6':(k != 6)=true:=by simpa using h6
       have hdk:(e.bH || decide (k≠6))=true:=by simp[h6]
       rw[hdk] at hres2;simp[mE,bM,h6'];refine⟨jm [(4,.ptr 5 0 0)],⟨10,bn (mG sg true ⟨st1.au,jN st1.fo e.aS e.fst⟩ 0 3 4++[(5,some (.arr 3 [dR ⟨true,e.fst,e.aS⟩]))])⟩,aX.of [(0,0),(3,55),(4,56),(5,5)] [] (by omega) ⟨by simp,by simp⟩ ?_ ?_,?_⟩
       ·simp[mG,bM,dR]
       ·simp
       ·simp[bL,bP,RV.ev,eF,bV,y9,lJ,hres2]
        first | exact .of | exact⟨rfl,.of⟩
     ·have hdk:(e.bH || decide (k≠6))=true:=by simp[hn]
      rw[hdk] at hres2;simp[mE,bM];refine⟨jm [(4,.ptr 5 0 0)],⟨10,bn (mG sg true ⟨st1.au,jN st1.fo e.aS e.fst⟩ 0 3 4++[(5,some (.arr 3 [dR ⟨true,e.fst,e.aS⟩]))])⟩,aX.of [(0,0),(3,55),(4,56),(5,5)] [] (by omega) ⟨by simp,by simp⟩ ?_ ?_,?_⟩
      ·simp[mG,bM,dR]
      ·simp
      ·simp[bL,bP,RV.ev,eF,bV,y9,lJ,hres2]
       first | exact .of | exact⟨rfl,.of⟩
   ·have hres2:dU sg (.mk k ps pg ks) st=(⟨false,[],[]⟩,st1):=by rw[hres];simp only[uW];rw[if_neg h57]
    by_cases h5:k < 5
    ·simp[mE,bM,h5,jr,gJ]
     refine⟨jm [(4,.ptr 5 0 0)],⟨10,bn (mG sg true st1 0 3 4++[(5,some (.arr 3 [dR ⟨false,[],[]⟩]))])⟩,aX.of [(0,0),(3,21),(4,22),(5,5)] [] (by omega) ⟨by simp,by simp⟩ ?_ ?_,?_⟩
     ·simp[mG,bM,dR]
      exact .loose (by simp)
     ·simp
     ·simp[bL,bP,RV.ev,eF,bV,y9,lJ,hres2]
      first | exact .of | exact⟨rfl,.of⟩
    ·have h7:7 < k:=by omega
     simp[mE,bM,h5,h7,jr,gJ];refine⟨jm [(4,.ptr 5 0 0)],⟨10,bn (mG sg true st1 0 3 4++[(5,some (.arr 3 [dR ⟨false,[],[]⟩]))])⟩,aX.of [(0,0),(3,21),(4,22),(5,5)] [] (by omega) ⟨by simp,by simp⟩ ?_ ?_,?_⟩
     ·simp[mG,bM,dR]
      exact .loose (by simp)
     ·simp
     ·simp[bL,bP,RV.ev,eF,bV,y9,lJ,hres2]
      first | exact .of | exact⟨rfl,.of⟩
  ·have hne:((es.length:Int) == 1)=false:=by simp;omega
   have hne2:¬((es.length:Int)=1):=by omega
   have hres2:dU sg (.mk k ps pg ks) st=(⟨false,[],[]⟩,st1):=by
    rw[hres]
    match es,hk1 with
    | [],_=>rfl
    | _::_::_,_=>rfl
   have aaU:((es.length:Int) != 1)=true:=by simp;omega
   simp[mE,bM,aaU,jr,gJ];refine⟨jm [(4,.ptr 5 0 0)],⟨10,bn (mG sg true st1 0 3 4++[(5,some (.arr 3 [dR ⟨false,[],[]⟩]))])⟩,aX.of [(0,0),(3,21),(4,22),(5,5)] [] (by omega) ⟨by simp,by simp⟩ ?_ ?_,?_⟩
   ·simp[mG,bM,dR]
    exact .loose (by simp)
   ·simp
   ·simp[bL,bP,RV.ev,eF,bV,y9,lJ,hres2]
    first | exact .of | exact⟨rfl,.of⟩
def Zl0(Lf:FuncId):AC:= (.loop (sq [ro 10 (.bin .lss (.t 9) (.t 8))] (.seq (.cond (.t 10) .skip (.exit 0)) (.seq (.block 1 (sq [ro 11 (.aM 4 (.t 7) (.t 9)),ro 12 (.load (some 4) (.t 11)),ro 5 (.alloc (.agg [(.v (.int .i64 0)),(.sl true []),(.sl true []),(.sl true [])]) 4),rn (.store 4 (.t 5) (.t 12))] (.reg none [rm 13 3,ro 14 (.load (some 4) (.t 5)),rk 15 Lf [(.t 14)],ro 16 (.bin .add (.t 13) (.t 15)),ro 17 (.mm false (ci 100000) (.t 16)),rm 3 17]))) (.reg none [ro 18 (.bin .add (.t 9) (ci 1)),rm 9 18])))))
def IV(Lf:FuncId):AC:= (sq [ro 1 (.box 4 (.t 0)),ro 2 (.mv (ci 0))] (sq [ro 3 (.mv (ci 1))] (.seq (sq [rF 6 3 1,rL 7 6,ro 8 (.len (.t 7)),ro 9 (.mv (ci 0))] (.block 0 (Zl0 Lf))) (sq [rm 19 3,rm 2 19] .ret))))
mutual
theorem Zi9{P:Program}(hm:P.follows .mixedOrders=true){sg:Int}{ff fc f1 fd nJ fst fe fj tu sF:FuncId}(F:Q7 P sg ff fc f1 fd nJ fst fe fj tu sF)(h:xA P ff (Bf fc f1 fd nJ fst fe fj tu sF) [.c 4 (some 3)] 2) :
  ∀(p:aF),oP p→FR P ff sg p
 | .mk k ps pg ks,hp=>by
  simp only[oP] at hp;exact Zjz hm F h hp.2.1 hp.1 (Zfo hm F h ks hp.2.2)
theorem Zfo{P:Program}(hm:P.follows .mixedOrders=true){sg:Int}{ff fc f1 fd nJ fst fe fj tu sF:FuncId}(F:Q7 P sg ff fc f1 fd nJ fst fe fj tu sF)(h:xA P ff (Bf fc f1 fd nJ fst fe fj tu sF) [.c 4 (some 3)] 2) :
  ∀(ks:List aF),yB ks→∀q∈ks,FR P ff sg q
 | [],_,q,hq=>by simp at hq
 | p::ps,hp,q,hq=>by
  simp only[yB] at hp;rcases List.mem_cons.mp hq with e | hq
  ·rw[e];exact Zi9 hm F h p hp.1
  ·exact Zfo hm F h ps hp.2 q hq
end
mutual
def uL:aF→Nat
 | .mk _ _ _ ks=>1+uK ks
def uK:List aF→Nat
 | []=>0
 | q::qs=>uL q+uK qs
end
def xq(p:aF):Int:=min 100000 (uL p)
theorem Zdi:∀(a b:List aF),uK (a++b)=uK a+uK b
 | [],b=>by simp[uK]
 | p::a,b=>by simp only[List.cons_append,uK];rw[Zdi a b];omega
mutual
theorem QX:∀(p:aF),jE p≤uL p
 | .mk k _ _ ks=>by
  have:=Zlg ks;simp only[jE,uL];split
  ·omega
  ·split<;>omega
theorem Zlg:∀(ks:List aF),jZ ks≤uK ks
 | []=>by simp[jZ,uK]
 | q::qs=>by have:=QX q;have:=Zlg qs;simp only[jZ,uK];omega
end
theorem Znc{most:Int}:∀{ws:List Int} {s:Int},(∀w∈ws,0≤w)→qM most s ws≤most→qM most s ws=s+ws.sum
 | [],s,_,h=>by simp[qM]
 | w::ws,s,h0,h=>by
  simp only[qM] at h ⊢;have hw:=h0 w (by simp);split at h
  ·rename_i hs
   rw[if_pos hs,Znc (fun x hx=>h0 x (by simp[hx])) h,List.sum_cons];omega
  ·omega
theorem Zdy{f:aF→Int}{g:aF→Nat}:∀{ks:List aF},(∀q∈ks,(g q:Int)≤f q)→((ks.map g).sum:Int)≤(ks.map f).sum
 | [],_=>by simp
 | q::qs,h=>by
  have h1:=h q (by simp);have h2:=Zdy (ks:=qs) fun x hx=>h x (by simp[hx])
  simp only[List.map_cons,List.sum_cons] at h2 ⊢
  push_cast at h2 ⊢
  omega
theorem Zml:∀(ks:List aF),uK ks=(ks.map uL).sum
 | []=>rfl
 | q::qs=>by simp only[uK,List.map_cons,List.sum_cons];rw[Zml qs]
def vzI(_:Nat)(_:Unit):Prop:=True
def Ot(ks:List aF)(k:Nat)(_:Unit):List (Nat×AV):=[(3,ah (min 100000 (1+uK (ks.take k):Nat))),(7,.sl false (ks.map cB)),(8,ah ks.length),(9,ah k)]
def Ou(_:Nat)(_:Unit):List (Nat×Option aB):=[]
theorem Zn1{P:Program}{fz:FuncId}(k:Int)(ps:List Rg)(pg:List Int)(ks:List aF)(hl:ks.length≤100000)(hq:∀q∈ks,aJ P fz [cB q] (ah (xq q))) :
  bq P 0 (IV fz) (dw [2] (dM (ah (xq (.mk k ps pg ks))))) (bF [cB (.mk k ps pg ks)]) S0:=by
 simp[IV,cO,Zl0];refine lg ks.length vzI (Ot ks) 5 Ou () trivial ?_ ?_
 ·refine aX.of [] [] (by omega) ⟨by simp,by simp⟩ ?_ ?_
  ·simp[Ou]
  ·simp[Ot,uK,vS]
   omega
 ·rintro i _ hi _
  by_cases hlt:i < ks.length
  ·have hsk:ks[i]? = some ks[i]:=List.getElem?_eq_getElem hlt
   have htk:ks.take (i+1)=ks.take i++[ks[i]]:=by rw[List.take_add_one,hsk];rfl
   have hqk:=hq _ (List.getElem_mem hlt);have hcp:=pF ks[i];have hnd:uK (ks.take (i+1))=uK (ks.take i)+uL ks[i]:=by rw[htk,Zdi];simp[uK]
   have hsz:xq ks[i]=min 100000 (uL ks[i]:Int):=rfl
   obtain⟨x1,x2,x3,x4,hx⟩:∃x1 x2 x3 x4:AV,cB ks[i]=.agg [x1,x2,x3,x4]:=by
    obtain⟨k,s,g,ks⟩:=ks[i];rw[cO];exact⟨_,_,_,_,rfl⟩
   rw[hx] at hqk hcp;generalize hnn:uK (ks.take i)=nn at *;generalize xq ks[i]=zz at *;have Zj:IntKind.i64.wrap (min 100000 (1+(nn:Int))+zz)=min 100000 (1+(nn:Int))+zz:=bE _ (by omega);simp[Ot,Ou,hlt,hx,bD,hnn];refine aN.pure hqk (aG hcp aQ) (aW _) ?_;simp[Zj];rw[bE _ (by omega)];refine⟨hlt,(),trivial,aX.of [] [] (by omega) ⟨by simp,by simp⟩ ?_ ?_⟩
   ·simp[Ou]
   ·simp[Ot,hnd,vS]
    omega
  ·have hke:i=ks.length:=by omega
   subst hke;simp[Ot,Ou];have e:xq (.mk k ps pg ks)=min 100000 (1+(uK ks:Int)):=by simp only[xq,uL];push_cast;rfl
   rw[e];exact zh _ _
mutual
theorem Zn3{P:Program}(hm:P.follows .mixedOrders=true){f:FuncId}(h:Is P f (IV f) [2] 1):∀(p:aF),oP p→aJ P f [cB p] (ah (xq p))
 | .mk k ps pg ks,hp=>by
  simp only[oP] at hp;exact h.lV hm rfl (Zn1 k ps pg ks hp.2.1 (ZiQ hm h ks hp.2.2))
theorem ZiQ{P:Program}(hm:P.follows .mixedOrders=true){f:FuncId}(h:Is P f (IV f) [2] 1):∀(ks:List aF),yB ks→∀q∈ks,aJ P f [cB q] (ah (xq q))
 | [],_,q,hq=>by simp at hq
 | p::ps,hp,q,hq=>by
  simp only[yB] at hp;rcases List.mem_cons.mp hq with e | hq
  ·rw[e];exact Zn3 hm h p hp.1
  ·exact ZiQ hm h ps hp.2 q hq
end
def FL(Lf Uz KZ KV rT:FuncId):AC:= (sq [ro 2 (.box 4 (.t 0)),ro 4 (.alloc (.agg [(.v (.int .i64 0)),(.sl true []),(.sl true []),(.sl true [])]) 4),ro 5 (.mv (ci 0))] (.seq (.block 0 (sq [rm 9 1,ro 10 (.bin .lss (.t 9) (ci 1)),rm 11 10,rg 12 11 false (.mv (.t 1)),rg 13 11 false (.bin .gtr (.t 12) (ci 400)),ro 14 (.pick (.t 11) (.c (.v (.bool true))) (.t 13)),rm 8 14] (.cond (.t 8) (sq [ro 15 (.build (.agg [(.v (.int .i64 0)),(.sl true []),(.sl true []),(.sl true [])]) [] []),rn (.store 4 (.t 4) (.t 15)),ro 5 (.mv (ci 1))] .ret) (sq [ro 17 (.load (some 4) (.t 2)),rk 18 Lf [(.t 17)],ro 19 (.bin .gtr (.t 18) (ci 300)),rm 16 19] (.cond (.t 16) (sq [ro 20 (.build (.agg [(.v (.int .i64 0)),(.sl true []),(.sl true []),(.sl true [])]) [] []),rn (.store 4 (.t 4) (.t 20)),ro 5 (.mv (ci 9))] .ret) .skip))))) (sq [rm 21 1,ro 22 (.build (.agg [(.v (.int .i64 0)),(.sl true []),(.sl true []),(.sl true [])]) [(0,1)] [(0,(.t 21))]),ro 23 (.build (.agg [(.v (.int .i64 0)),(.sl true []),(.sl true []),(.sl true [])]) [(0,4)] [(0,(.t 22))]),ro 24 (.box 4 (.t 23)),rm 6 24] (sq [rm 25 6,rk 26 Uz [(.t 25),(.c (.sl true []))]] (sq [rm 27 6,ro 28 (.load (some 4) (.t 2)),rk 29 KZ [(.t 27),(.t 28)],ro 7 (.alloc (.agg [(.v (.bool false)),(.sl true []),(.sl true [])]) 3),rn (.store 3 (.t 7) (.t 29))] (.seq (.reg (some [[],[],[],[],[],[],[],[],[],[],[],[false,true,true,false,false,true]]) [rm 30 6,ro 31 (.fO (.t 30)),rF 32 0 31,rF 33 2 32,rL 34 33,rm 35 6,rF 36 1 7,rL 37 36,rF 38 2 7,rL 39 38,ro 40 (.aM 1 (.t 34) (ci 0)),rn (.store 1 (.t 40) (.t 37)),ro 41 (.fO (.t 35)),rF 42 0 41,rF 43 3 42,rn (.store 1 (.t 43) (.t 39))]) (.seq (sq [rF 44 0 7,rL 45 44] (.cond (.t 45) (.reg none [rm 46 6,rF 47 2 7,rL 48 47,rk 49 KV [(.t 48)],ro 50 (.dH 1 1 (.v (.int .i64 0)) [(0,(ci 0))]),ro 51 (.app 1 8 (.t 49) (.t 50)),rk 52 rT [(.t 51)],ro 53 (.fO (.t 46)),rF 54 0 53,rF 55 3 54,rn (.store 1 (.t 55) (.t 52))]) .skip)) (sq [rm 56 6,ro 57 (.fO (.t 56)),rF 58 0 57,ro 59 (.load (some 4) (.t 58)),rn (.store 4 (.t 4) (.t 59)),ro 5 (.mv (ci 0))] .ret))))))))
def BL:Net:=⟨0,[],[],[]⟩
def qB(p:aF)(sg:Int):Net×Int:=if sg < 1∨400 < sg then (BL,1) else if 300 < xq p then (BL,9) else (jT p sg,0)
def Ej(r:Net×Int):AV:=.aO [jA r.1,ah r.2]
theorem Zle(r:Net×Int):aY (Ej r):=.aO _ (aG (Cm _) (aG (aW _) aQ))
theorem Xj(g:Nat→Option aB)(e:Int):Fz g (.aO [.agg [.v (.int .i64 0),.sl true [],.sl true [],.sl true []],.v (.int .i64 e)]) (Ej (BL,e)):=
 .Fp (.cons (.Iy (.cons (.closed _ (.v _)) (.cons Jt (.cons Jt (.cons Jt .nil))))) (.cons (.closed _ (.v _)) .nil))
theorem Yl{p:aF}(h:¬300 < xq p):jE p≤300:=by
 have:=QX p;unfold xq at h;omega
theorem Zia{g:Nat→Option aB}{id n:Nat}{l:List (List Int)}(hg:g id=some (.arr 1 (l.map aj)))(hn:n=l.length):Fz g (.own id 0 n) (aU l):=by
 have:=wo (g:=g) (o:=true) (id:=id) (xs:=l.map aj) (by rw[bN];exact hg) (kU l);rw[dW,List.length_map,←hn] at this;exact this
theorem ZqX{g:Nat→Option aB}{id n:Nat}{l:List Int}(hg:g id=some (.arr 1 (l.map ah)))(hn:n=l.length):Fz g (.own id 0 n) (aj l):=by
 have:=wo (g:=g) (o:=true) (id:=id) (xs:=l.map ah) (by rw[bN];exact hg) (jM l);rw[dW,List.length_map,←hn] at this;exact this
theorem ZlH{g:Nat→Option aB}{sg:Int}{b c:Nat}{au fo:List (List Int)}{x l:List Int}(h1:g b=some (.arr 1 (au.map aj)))(h2:g c=some (.arr 1 ((fo.set 0 x).map aj))) :
  Fz g (.aO [.agg [.v (.int .i64 sg),.own b 0 au.length,.own c 0 fo.length,aj l],.v (.int .i64 0)]) (Ej (⟨sg,au,fo.set 0 x,l⟩,0)):=
 .Fp (.cons (.Iy (.cons (.closed _ (.v _)) (.cons (Zia h1 rfl) (.cons (Zia h2 (by simp)) (.cons (.closed _ (aT _)) .nil))))) (.cons (.closed _ (.v _)) .nil))
theorem Lr{P:Program}{fz fst ff fc nJ:FuncId}{p:aF}{sg:Int}(hz:aJ P fz [cB p] (ah (xq p)))(hs:nS P fst [aj []] sg false ⟨[],[]⟩ st0 (ah 0))(hf:FR P ff sg p)
  (hc:xw P fc (q8 1 8 (.v (.int .i64 0))) [.t 2] 1) (hset:JF P nJ) :
  bq P 0 (FL fz fst ff fc nJ) (bL [.c 4 (some 4),.t 5] (dM (Ej (qB p sg)))) (bF [cB p,ah sg]) S0:=by
 obtain⟨k,ps,pg,ks⟩:=p;have hcp:=pF (.mk k ps pg ks);by_cases h1:sg < 1
 ·have hr:qB (.mk k ps pg ks) sg=(BL,1):=by rw[qB,if_pos (.inl h1)]
  rw[hr];simp[FL,cO,bD,jr,gJ,h1,bL,bP,RV.ev,eF,bV];exact Xj _ 1
 by_cases h2:400 < sg
 ·have hr:qB (.mk k ps pg ks) sg=(BL,1):=by rw[qB,if_pos (.inr h2)]
  rw[hr];simp[FL,cO,bD,jr,gJ,h1,h2,bL,bP,RV.ev,eF,bV];exact Xj _ 1
 have hsz:=hz;simp only[cO,ah] at hsz hcp;by_cases h3:300 < xq (.mk k ps pg ks)
 ·have hr:qB (.mk k ps pg ks) sg=(BL,9):=by rw[qB,if_neg (by omega),if_pos h3]
  rw[hr];simp[FL,cO,bD,h1,h2];refine aN.pure hsz (aG hcp aQ) (aW _) ?_;simp[jr,gJ,h3,bL,bP,RV.ev,eF,bV];exact Xj _ 9
 have hr:qB (.mk k ps pg ks) sg=(jT (.mk k ps pg ks) sg,0):=by rw[qB,if_neg (by omega),if_neg h3]
 rw[hr];have hcnt:=Yl h3;have hN0:qZ st0:=⟨rfl,fun r hr=>by simp[st0] at hr;subst hr;exact jD.nil⟩;have NU:=hf st0 hN0 (by show 1+_≤_;omega);obtain⟨n1,n2,n3⟩:=ZlN sg (.mk k ps pg ks) st0 hN0;simp only[cO,ah] at NU;have hno:jT (.mk k ps pg ks) sg=⟨sg,(dU sg (.mk k ps pg ks) st0).2.au,(dU sg (.mk k ps pg ks) st0).2.fo.set 0 (dU sg (.mk k ps pg ks) st0).1.fst,if (dU sg (.mk k ps pg ks) st0).1.bH=true then jo ((dU sg (.mk k ps pg ks) st0).1.aS++[0]) else (dU sg (.mk k ps pg ks) st0).1.aS⟩:=rfl;rw[hno];have hb1:st0.au.length=1:=rfl;generalize dU sg (.mk k ps pg ks) st0=ge at *;obtain⟨e,st1⟩:=ge;simp only at n1 n2 n3 NU ⊢;have hl:=n1.len;have hfl:0 < st1.fo.length:=by omega
 have hll:=n2.l.len;simp[FL,cO,bD,h1,h2];refine aN.pure hsz (aG hcp aQ) (aW _) ?_;simp[jr,gJ,h3];refine nS.use hs (fun _=>.cons (.loose (by simp)) .nil) (aW _) (id:=17) (b:=2) (c:=3) (by simp[bM,mF]) (by simp[oV]) (by simp[oV]) (by simp) (by simp) ?_;simp[mE];refine nS.use NU (fun _=>.cl (aG hcp aQ)) (FI _) (id:=17) (b:=21) (c:=22) (by simp[bM,dW]) (by simp[bN]) (by simp[bN]) (by simp) (by simp) ?_;cases hn:e.bH
 ·rw[if_neg (by simp)]
  simp[mE,bM,bD,lJ,Jh,hfl,kg,hn,bL,bP,RV.ev,eF,bV];exact ZlH (by simp) (by simp[List.map_set])
 ·rw[if_pos rfl]
  simp[mE,bM,bD,lJ,Jh,hfl,kg,hn];have hap:bY 8 e.aS.length 1:=by unfold bY;omega
  have hst:=hset (e.aS++[0]) (by rw[List.length_append];simp;omega);refine Zf6 hc e.aS (by omega) (by simp) ?_;simp[hap];refine aN.gives [63] hst (dJ.cons ?_ dJ.nil) (aT _) ?_
  ·exact ZqX (l:=e.aS++[0]) (by simp[Ec,aL,ah]) (by simp)
  simp[kg,CQ,kT,kZ,bL,bP,RV.ev,eF,bV];exact ZlH (by simp[CQ]) (by simp[List.map_set,CQ])
def Zqt(wL:FuncId):AC:= (.loop (.seq (sq [rm 6 5,rm 7 1,ro 8 (.len (.t 7)),ro 9 (.bin .lss (.t 6) (.t 8))] (.cond (.t 9) .skip (.exit 0))) (.seq (.block 1 (.reg none [rm 12 0,rm 13 1,rm 14 5,ro 15 (.aM 1 (.t 13) (.t 14)),rL 16 15,rk 17 wL [(.t 12),(.t 16)],rm 0 17])) (.reg none [rm 10 5,ro 11 (.bin .add (.t 10) (ci 1)),rm 5 11]))))
def Z9O(wL:FuncId):AC:= (sq [ro 4 (.mv (.c (.sl true [])))] (.seq (sq [ro 5 (.mv (ci 0))] (.block 0 (Zqt wL))) (sq [rm 18 0,rm 4 18] .ret)))
def Zqu(yR:FuncId):AC:= (.loop (.seq (sq [rm 7 6,rm 8 1,ro 9 (.len (.t 8)),ro 10 (.bin .lss (.t 7) (.t 9))] (.cond (.t 10) .skip (.exit 0))) (.seq (.block 1 (.reg (some []) [rm 13 0,ro 14 (.fO (.t 13)),rF 15 0 14,rF 16 2 15,rL 17 16,rm 18 1,rm 19 6,ro 20 (.aM 1 (.t 18) (.t 19)),rL 21 20,rm 22 0,ro 23 (.fO (.t 22)),rF 24 0 23,rF 25 2 24,rL 26 25,rm 27 1,rm 28 6,ro 29 (.aM 1 (.t 27) (.t 28)),rL 30 29,ro 31 (.aM 1 (.t 26) (.t 30)),rL 32 31,rm 33 2,rk 34 yR [(.t 32),(.t 33)],ro 35 (.aM 1 (.t 17) (.t 21)),rn (.store 1 (.t 35) (.t 34))])) (.reg none [rm 11 6,ro 12 (.bin .add (.t 11) (ci 1)),rm 6 12]))))
def Z78(yR:FuncId):AC:= (sq [ro 6 (.mv (ci 0))] (.block 0 (Zqu yR)))
def Zqv(yg:FuncId):AC:= (.loop (.seq (sq [rm 6 5,rF 7 3 3,rL 8 7,ro 9 (.len (.t 8)),ro 10 (.bin .lss (.t 6) (.t 9))] (.cond (.t 10) .skip (.exit 0))) (.seq (.block 1 (.reg none [rm 13 0,rF 14 3 3,rL 15 14,rm 16 5,ro 17 (.aM 4 (.t 15) (.t 16)),ro 18 (.load (some 4) (.t 17)),rk 19 yg [(.t 13),(.t 18)]])) (.reg none [rm 11 5,ro 12 (.bin .add (.t 11) (ci 1)),rm 5 12]))))
def Z7w(yg:FuncId):AC:= (sq [ro 3 (.box 4 (.t 1)),ro 4 (.alloc (.agg [(.v (.bool false)),(.sl true []),(.sl true [])]) 3)] (.seq (sq [ro 5 (.mv (ci 0))] (.block 0 (Zqv yg))) (sq [ro 20 (.build (.agg [(.v (.bool false)),(.sl true []),(.sl true [])]) [] []),rn (.store 3 (.t 4) (.t 20))] .ret)))
def Zqy(KM:FuncId):AC:= (.loop (.seq (sq [rm 5 4,rF 6 3 1,rL 7 6,ro 8 (.len (.t 7)),ro 9 (.bin .lss (.t 5) (.t 8))] (.cond (.t 9) .skip (.exit 0))) (.seq (.block 1 (.reg none [rm 12 3,rF 13 3 1,rL 14 13,rm 15 4,ro 16 (.aM 4 (.t 14) (.t 15)),ro 17 (.load (some 4) (.t 16)),rk 18 KM [(.t 17)],ro 19 (.bin .add (.t 12) (.t 18)),ro 20 (.mm false (ci 100000) (.t 19)),rm 3 20])) (.reg none [rm 10 4,ro 11 (.bin .add (.t 10) (ci 1)),rm 4 11]))))
def Z9l(KM:FuncId):AC:= (sq [ro 1 (.box 4 (.t 0)),ro 2 (.mv (ci 0))] (sq [ro 3 (.mv (ci 1))] (.seq (sq [ro 4 (.mv (ci 0))] (.block 0 (Zqy KM))) (sq [rm 21 3,rm 2 21] .ret))))
end Go.Rf
namespace Go.Rf
open Go.RowKit
structure Aj(P:Program)(EB fz fst ff fc nJ fe fj tu sF fd fi f1 zD Dg:FuncId):Prop where
 of:kS P EB (FL fz fst ff fc nJ) [.c 4 (some 4),.t 5] 2
 size:Is P fz (IV fz) [2] 1
 state:Is P fst PG [4] 2
 form:xA P ff (Bf fc f1 fd nJ fst fe fj tu sF) [.c 4 (some 3)] 2
 clone:xw P fc (q8 1 8 (.v (.int .i64 0))) [.t 2] 1
 del:Is P fd (Pq fi) [4] 2
 idx:Is P fi LH [4] 2
 f1:Is P f1 IB [3] 2
 each:Is P fe (PI ff) [4] 2
 join:kS P fj (PK sF zD nJ) [.c 4 (some 3)] 2
 either:kS P tu (PV zD nJ) [.c 2 (some 3)] 1
 follow:Is P sF (Px zD nJ) [] 3
 cat:Is P zD (Me 1 8 Dg) [2] 1
 grow:Is P Dg (ME 1 8 (.v (.int .i64 0))) [4] 2
 set:JF P nJ
section
variable{P:Program}{EB fz fst ff fc nJ fe fj tu sF fd fi f1 zD Dg:FuncId}
theorem Aj.hgrow(N:Aj P EB fz fst ff fc nJ fe fj tu sF fd fi f1 zD Dg)(hm:P.follows .mixedOrders=true):MP P Dg 1 (.v (.int .i64 0)):=Zhq hm (by omega) rfl (by omega) N.grow
theorem Aj.xE(N:Aj P EB fz fst ff fc nJ fe fj tu sF fd fi f1 zD Dg)(hm:P.follows .mixedOrders=true):Sg P zD:=fun a b h=>by
 have:=VH hm (N.hgrow hm) (au:=8) (by omega) N.cat (enc:=ah) aW (fun _=>rfl) [(false,a),(false,b)] (by simp) (by simp;omega);simpa[aj] using this
theorem Aj.P6h(N:Aj P EB fz fst ff fc nJ fe fj tu sF fd fi f1 zD Dg)(hm:P.follows .mixedOrders=true):Zsq P zD:=fun b h=>by
 have:=VH hm (N.hgrow hm) (au:=8) (by omega) N.cat (enc:=ah) aW (fun _=>rfl) [(true,[]),(false,b)] (by simp) (by simp;omega);simpa[aj] using this
theorem Aj.fns(N:Aj P EB fz fst ff fc nJ fe fj tu sF fd fi f1 zD Dg)(hm:P.follows .mixedOrders=true)(sg:Int):Q7 P sg ff fc f1 fd nJ fst fe fj tu sF where
 clone:=N.clone
 del:=fun l hl o ho st=>ZqN hm N.del l hl o ho
  (N.idx.pure hm rfl (Vi (enc:=ah) (by unfold Len;omega) (fun _=>rfl) aW (aG (Zjn sg) aQ) (fun x _=>N.f1.lV hm rfl (Zd7 sg x))))
  (fun n=>N.f1.lV hm rfl (Zd7 sg n)) st
 set:=N.set
 state:=fun o b st h1 h2=>ZiT hm N.state sg o b st h1 h2
 each:=fun ks hl hq st hst hb=>Zoc hm N.each hl hq st hst hb
 join:=fun es hl st hst he hb=>Zor hm N.join (N.xE hm) (N.P6h hm) N.set (fun ss be st h1 h2 h3 h4=>Zfn hm N.follow (N.xE hm) N.set sg ss be st h1 h2 h3 h4) es hl st hst he hb
 either:=fun es hl he=>N.either.lV hm rfl (ZgS (N.xE hm) N.set es hl he)
 follow:=fun ss be st h1 h2 h3 h4=>Zfn hm N.follow (N.xE hm) N.set sg ss be st h1 h2 h3 h4
theorem Aj.ok(N:Aj P EB fz fst ff fc nJ fe fj tu sF fd fi f1 zD Dg)(hm:P.follows .mixedOrders=true)(p:aF)(hp:oP p)(sg:Int):aJ P EB [cB p,ah sg] (Ej (qB p sg)):=
 N.of.lV hm rfl (Lr (Zn3 hm N.size p hp) (ZiT hm N.state sg false [] ⟨[],[]⟩ rfl (by simp)) (Zi9 hm (N.fns hm sg) N.form p hp) N.clone N.set)
end
end Go.Rf
namespace Go.Rf
open Go.RowKit
attribute [local simp] mW mV oF pG pJ pQ pK nA qy pO ow pq mK oz kD qw pY qO qL qK qE qN oO oL ql pR qz qG qF qA qo pU qm qI qH oK kT pI pV pW pz o7 eG iB iU iy iR iN iM iT iO gG iP fH iF iQ iE eT eU gD ig je jf gZ jk fU fQ fE eO gV gW gX gP gQ jg iV iH jc iX iZ iY jd jh iK iq gT gU gM iw dO eP gI iL ji ex aH fF dF eY cK dn aL bT fJ gH eZ gN iD iC iW iJ bS dN dV fZ fV gY fu bD pE ny dL eH qc o8 pX oh fC gB gq gy fM dA eX eB d9 bB qx oD oq qj o9 qg qh p9 kZ qd p8 qb S0 ah aD rA q9 rC om og qp rJ rz rH rP rG rO rE rM rD tO gL.cl bW.cl aW dY aT jR jG tN tK tL mM sO sP sN tX jM jS kU tY qW qD r9 uh um uj tV nZ oH uq rW tT rX ou sM jy uy
def ZsM(wL:FuncId):AC:= (.loop (.seq (sq [rm 30 7,rF 31 2 3,rL 32 31,ro 33 (.len (.t 32)),ro 34 (.bin .lss (.t 30) (.t 33))] (.cond (.t 34) .skip (.exit 1))) (.seq (.block 2 (.seq (.reg (some []) [rF 37 2 3,rL 38 37,rm 39 7,ro 40 (.aM 1 (.t 38) (.t 39)),rL 41 40,ro 42 (.bin .geq (.t 41) (ci 0)),rm 43 42,rg 44 43 true (.cu 2 (.t 3)),rg 45 43 true (.load none (.t 44)),rg 46 43 true (.mv (.t 7)),rg 47 43 true (.aM 1 (.t 45) (.t 46)),rg 48 43 true (.load none (.t 47)),rg 49 43 true (.mv (.t 0)),rg 50 43 true (.fO (.t 49)),rg 51 43 true (.cu 0 (.t 50)),rg 52 43 true (.cu 0 (.t 51)),rg 53 43 true (.load none (.t 52)),rg 54 43 true (.bin .lss (.t 48) (.t 53)),ro 55 (.pick (.t 43) (.t 54) (.c (.v (.bool false))))]) (.cond (.t 55) (.reg none [rm 56 6,rF 57 2 3,rL 58 57,rm 59 7,ro 60 (.aM 1 (.t 58) (.t 59)),rL 61 60,rk 62 wL [(.t 56),(.t 61)],rm 6 62]) .skip))) (.reg none [rm 35 7,ro 36 (.bin .add (.t 35) (ci 1)),rm 7 36]))))
def ZsK(yg OG yR:FuncId):AC:= (.loop (.seq (sq [rm 96 9,rF 97 3 3,rL 98 97,ro 99 (.len (.t 98)),ro 100 (.bin .lss (.t 96) (.t 99))] (.cond (.t 100) .skip (.exit 3))) (.seq (.block 4 (sq [rm 103 0,rF 104 3 3,rL 105 104,rm 106 9,ro 107 (.aM 4 (.t 105) (.t 106)),ro 108 (.load (some 4) (.t 107)),rk 109 yg [(.t 103),(.t 108)],ro 10 (.alloc (.agg [(.v (.bool false)),(.sl true []),(.sl true [])]) 3),rn (.store 3 (.t 10) (.t 109))] (sq [rm 110 0,rF 111 2 8,rL 112 111,rF 113 1 10,rL 114 113,rk 115 OG [(.t 110),(.t 112),(.t 114)]] (.seq (sq [rF 116 0 8,rL 117 116] (.cond (.t 117) (.reg none [rF 118 1 8,rL 119 118,rF 120 1 10,rL 121 120,rk 122 yR [(.t 119),(.t 121)],rF 123 1 8,rn (.store 1 (.t 123) (.t 122))]) .skip)) (.seq (sq [rF 124 0 10,rL 125 124] (.cond (.t 125) (.reg none [rF 126 2 8,rL 127 126,rF 128 2 10,rL 129 128,rk 130 yR [(.t 127),(.t 129)],rF 131 2 8,rn (.store 1 (.t 131) (.t 130))]) (.reg none [rF 132 2 10,rL 133 132,rF 134 2 8,rn (.store 1 (.t 134) (.t 133))]))) (.reg none [rF 135 0 8,rL 136 135,rm 137 136,rg 138 137 true (.cu 0 (.t 10)),rg 139 137 true (.load none (.t 138)),ro 140 (.pick (.t 137) (.t 139) (.c (.v (.bool false)))),rF 141 0 8,rn (.store 1 (.t 141) (.t 140))])))))) (.reg none [rm 101 9,ro 102 (.bin .add (.t 101) (ci 1)),rm 9 102]))))
def ZsL(yg yR:FuncId):AC:= (.loop (.seq (sq [rm 147 12,rF 148 3 3,rL 149 148,ro 150 (.len (.t 149)),ro 151 (.bin .lss (.t 147) (.t 150))] (.cond (.t 151) .skip (.exit 5))) (.seq (.block 6 (sq [rm 154 0,rF 155 3 3,rL 156 155,rm 157 12,ro 158 (.aM 4 (.t 156) (.t 157)),ro 159 (.load (some 4) (.t 158)),rk 160 yg [(.t 154),(.t 159)],ro 13 (.alloc (.agg [(.v (.bool false)),(.sl true []),(.sl true [])]) 3),rn (.store 3 (.t 13) (.t 160))] (.reg (some []) [rF 161 0 11,rL 162 161,rm 163 162,rg 164 163 false (.cu 0 (.t 13)),rg 165 163 false (.load none (.t 164)),ro 166 (.pick (.t 163) (.c (.v (.bool true))) (.t 165)),rF 167 1 11,rL 168 167,rF 169 1 13,rL 170 169,rk 171 yR [(.t 168),(.t 170)],rF 172 2 11,rL 173 172,rF 174 2 13,rL 175 174,rk 176 yR [(.t 173),(.t 175)],ro 177 (.build (.agg [(.v (.bool false)),(.sl true []),(.sl true [])]) [(0,1),(1,1),(2,1)] [(0,(.t 166)),(1,(.t 171)),(2,(.t 176))]),rn (.store 3 (.t 11) (.t 177))]))) (.reg none [rm 152 12,ro 153 (.bin .add (.t 152) (ci 1)),rm 12 153]))))
def Z7v(wL yg OG yR P2w:FuncId):AC:= (sq [ro 3 (.box 4 (.t 1)),ro 4 (.alloc (.agg [(.v (.bool false)),(.sl true []),(.sl true [])]) 3)] (.seq (.block 0 (sq [rF 16 0 3,rL 17 16,ro 18 (.bin .eql (.t 17) (ci 1)),rm 15 18] (.cond (.t 15) (sq [ro 19 (.build (.agg [(.v (.bool false)),(.sl true []),(.sl true [])]) [(0,1)] [(0,(.c (.v (.bool true))))]),rn (.store 3 (.t 4) (.t 19))] .ret) (sq [rF 21 0 3,rL 22 21,ro 23 (.bin .eql (.t 22) (ci 2)),rm 20 23] (.cond (.t 20) (sq [rm 24 0,ro 25 (.fO (.t 24)),rF 26 0 25,rF 27 1 26,rL 28 27,ro 29 (.len (.t 28)),rm 5 29] (sq [ro 6 (.mv (.c (.sl true [])))] (.seq (sq [ro 7 (.mv (ci 0))] (.block 1 (ZsM wL))) (.seq (.reg (some [[],[],[],[],[],[],[],[],[],[false,false,false,false,false,false,false,true,true],[true],[false,true],[false,false,true],[false,false,false,true],[false,false,false,false,true],[false,false,false,false,false,true],[false,false,false,false,false,false,false,false,false,false,false,false,false,false,true,true],[],[],[],[false,false,false,false,false,false,false,false,false,false,false,false,false,false,false,false,false,false,true]]) [rm 63 0,rm 64 0,rm 65 0,ro 66 (.fO (.t 65)),rF 67 0 66,rF 68 1 67,rL 69 68,rm 70 6,ro 71 (.dH 1 1 (.sl true []) [(0,(.t 70))]),ro 72 (.app 1 24 (.t 69) (.t 71)),rm 73 0,ro 74 (.fO (.t 73)),rF 75 0 74,rF 76 2 75,rL 77 76,ro 78 (.dH 1 1 (.sl true []) [(0,(.c (.sl true [])))]),ro 79 (.app 1 24 (.t 77) (.t 78)),ro 80 (.fO (.t 63)),rF 81 0 80,rF 82 1 81,rn (.store 1 (.t 82) (.t 72)),ro 83 (.fO (.t 64)),rF 84 0 83,rF 85 2 84,rn (.store 1 (.t 85) (.t 79))]) (sq [rm 86 5,ro 87 (.dH 1 1 (.v (.int .i64 0)) [(0,(.t 86))]),rm 88 5,ro 89 (.dH 1 1 (.v (.int .i64 0)) [(0,(.t 88))]),ro 90 (.build (.agg [(.v (.bool false)),(.sl true []),(.sl true [])]) [(1,1),(2,1)] [(1,(.t 87)),(2,(.t 89))]),rn (.store 3 (.t 4) (.t 90))] .ret))))) (sq [rF 92 0 3,rL 93 92,ro 94 (.bin .eql (.t 93) (ci 3)),rm 91 94] (.cond (.t 91) (sq [ro 95 (.build (.agg [(.v (.bool false)),(.sl true []),(.sl true [])]) [(0,1)] [(0,(.c (.v (.bool true))))]),ro 8 (.alloc (.agg [(.v (.bool false)),(.sl true []),(.sl true [])]) 3),rn (.store 3 (.t 8) (.t 95))] (.seq (sq [ro 9 (.mv (ci 0))] (.block 3 (ZsK yg OG yR))) (sq [ro 142 (.load (some 3) (.t 8)),rn (.store 3 (.t 4) (.t 142))] .ret))) (sq [rF 144 0 3,rL 145 144,ro 146 (.bin .eql (.t 145) (ci 4)),rm 143 146] (.cond (.t 143) (sq [ro 11 (.alloc (.agg [(.v (.bool false)),(.sl true []),(.sl true [])]) 3)] (.seq (sq [ro 12 (.mv (ci 0))] (.block 5 (ZsL yg yR))) (sq [ro 178 (.load (some 3) (.t 11)),rn (.store 3 (.t 4) (.t 178))] .ret))) (sq [rF 180 0 3,rL 181 180,ro 182 (.bin .eql (.t 181) (ci 5)),rm 183 182,rg 184 183 false (.cu 0 (.t 3)),rg 185 183 false (.load none (.t 184)),rg 186 183 false (.bin .eql (.t 185) (ci 6)),ro 187 (.pick (.t 183) (.c (.v (.bool true))) (.t 186)),rm 188 187,rg 189 188 false (.cu 0 (.t 3)),rg 190 188 false (.load none (.t 189)),rg 191 188 false (.bin .eql (.t 190) (ci 7)),ro 192 (.pick (.t 188) (.c (.v (.bool true))) (.t 191)),rm 193 192,rg 194 193 true (.cu 3 (.t 3)),rg 195 193 true (.load none (.t 194)),rg 196 193 true (.len (.t 195)),rg 197 193 true (.bin .eql (.t 196) (ci 1)),ro 198 (.pick (.t 193) (.t 197) (.c (.v (.bool false)))),rm 179 198] (.cond (.t 179) (sq [rm 199 0,rF 200 3 3,rL 201 200,ro 202 (.aM 4 (.t 201) (ci 0)),ro 203 (.load (some 4) (.t 202)),rk 204 yg [(.t 199),(.t 203)],ro 14 (.alloc (.agg [(.v (.bool false)),(.sl true []),(.sl true [])]) 3),rn (.store 3 (.t 14) (.t 204))] (.seq (sq [rF 205 0 3,rL 206 205,ro 207 (.bin .neq (.t 206) (ci 7))] (.cond (.t 207) (.reg none [rm 208 0,rF 209 2 14,rL 210 209,rF 211 1 14,rL 212 211,rk 213 OG [(.t 208),(.t 210),(.t 212)]]) .skip)) (sq [rF 214 0 14,rL 215 214,rm 216 215,rg 217 216 false (.cu 0 (.t 3)),rg 218 216 false (.load none (.t 217)),rg 219 216 false (.bin .neq (.t 218) (ci 6)),ro 220 (.pick (.t 216) (.c (.v (.bool true))) (.t 219)),rF 221 1 14,rL 222 221,rF 223 2 14,rL 224 223,ro 225 (.build (.agg [(.v (.bool false)),(.sl true []),(.sl true [])]) [(0,1),(1,1),(2,1)] [(0,(.t 220)),(1,(.t 222)),(2,(.t 224))]),rn (.store 3 (.t 4) (.t 225))] .ret))) .skip))))))))))) (sq [rm 226 0,ro 227 (.load (some 4) (.t 3)),rk 228 P2w [(.t 226),(.t 227)],rn (.store 3 (.t 4) (.t 228))] .ret)))
end Go.Rf
namespace Go.Rf
open Go.RowKit
attribute [local simp] mW mV oF pG pJ pQ pK nA qy pO ow pq mK oz kD qw pY qO qL qK qE qN oO oL ql pR qz qG qF qA qo pU qm qI qH oK kT pI pV pW pz o7 eG iB iU iy iR iN iM iT iO gG iP fH iF iQ iE eT eU gD ig je jf gZ jk fU fQ fE eO gV gW gX gP gQ jg iV iH jc iX iZ iY jd jh iK iq gT gU gM iw dO eP gI iL ji ex aH fF dF eY cK dn aL bT fJ gH eZ gN iD iC iW iJ bS dN dV fZ fV gY fu bD pE ny dL eH qc o8 pX oh fC gB gq gy fM dA eX eB d9 bB qx oD oq qj o9 qg qh p9 kZ qd p8 qb S0 ah aD rA q9 rC om og qp rJ rz rH rP rG rO rE rM rD
def VY(Fb E9:FuncId):AC:= (sq [ro 3 (.box 3 (.t 0)),ro 6 (.mv (.c (.v (.bool false))))] (sq [rm 8 1,rm 9 2,rk 10 Fb [(.t 8),(.t 9)],rm 7 10] (sq [rm 11 7,ro 12 (.len (.t 11)),ro 13 (.bin .gtr (.t 12) (ci 0)),rm 14 13,rg 15 14 true (.load (some 3) (.t 3)),rg 16 14 true (.mv (.t 7)),rl 17 14 true E9 [(.t 15),(.t 16)],ro 18 (.pick (.t 14) (.t 17) (.c (.v (.bool false)))),rm 6 18] .ret)))
def atF(d:aC)(l:List Int)(p:Int):Bool:=decide (0 < (qX l p).length) && uE d (qX l p)
theorem Zqq{P:Program}{fw fa:FuncId}(d:aC)(l:List Int)(p:Int)(hw:aJ P fw [aj l,ah p] (aj (qX l p)))(ha:aJ P fa [aR d,aj (qX l p)] (aD (uE d (qX l p)))) :
  bq P 0 (VY fw fa) (dw [6] (dM (aD (atF d l p)))) (bF [aR d,aj l,ah p]) S0:=by
 unfold atF;generalize qX l p=w at *;generalize uE d w=ac at *;have hd:=dZ d;simp[VY];refine aN.pure hw (aG (aT _) (aG (aW _) aQ)) (aT _) ?_;by_cases h0:0 < w.length
 ·simp[h0]
  refine aN.pure ha (aG hd (aG (aT _) aQ)) (dY _) ?_;simp;exact bO _ _
 ·simp[h0]
  exact bO false _
def Zao(KM yg wL:FuncId):AC:= (sq [ro 2 (.box 4 (.t 0)),ro 4 (.alloc (.agg [(.v (.int .i64 0)),(.sl true []),(.sl true []),(.sl true [])]) 4),ro 5 (.mv (ci 0))] (.seq (.block 0 (sq [rm 9 1,ro 10 (.bin .lss (.t 9) (ci 1)),rm 11 10,rg 12 11 false (.mv (.t 1)),rg 13 11 false (.bin .gtr (.t 12) (ci 400)),ro 14 (.pick (.t 11) (.c (.v (.bool true))) (.t 13)),rm 8 14] (.cond (.t 8) (sq [ro 15 (.build (.agg [(.v (.int .i64 0)),(.sl true []),(.sl true []),(.sl true [])]) [] []),rn (.store 4 (.t 4) (.t 15)),ro 5 (.mv (ci 1))] .ret) (sq [ro 17 (.load (some 4) (.t 2)),rk 18 KM [(.t 17)],ro 19 (.bin .gtr (.t 18) (ci 300)),rm 16 19] (.cond (.t 16) (sq [ro 20 (.build (.agg [(.v (.int .i64 0)),(.sl true []),(.sl true []),(.sl true [])]) [] []),rn (.store 4 (.t 4) (.t 20)),ro 5 (.mv (ci 9))] .ret) .skip))))) (sq [rm 21 1,ro 22 (.app 1 24 (.c (.sl true [])) (.c (.sl true [(.sl true [])]))),ro 23 (.app 1 24 (.c (.sl true [])) (.c (.sl true [(.sl true [])]))),ro 24 (.build (.agg [(.v (.int .i64 0)),(.sl true []),(.sl true []),(.sl true [])]) [(0,1),(1,1),(2,1)] [(0,(.t 21)),(1,(.t 22)),(2,(.t 23))]),ro 25 (.build (.agg [(.v (.int .i64 0)),(.sl true []),(.sl true []),(.sl true [])]) [(0,4)] [(0,(.t 24))]),ro 26 (.box 4 (.t 25)),rm 6 26] (sq [rm 27 6,ro 28 (.load (some 4) (.t 2)),rk 29 yg [(.t 27),(.t 28)],ro 7 (.alloc (.agg [(.v (.bool false)),(.sl true []),(.sl true [])]) 3),rn (.store 3 (.t 7) (.t 29))] (.seq (.reg (some []) [rm 30 6,ro 31 (.fO (.t 30)),rF 32 0 31,rF 33 2 32,rL 34 33,rF 35 1 7,rL 36 35,ro 37 (.aM 1 (.t 34) (ci 0)),rn (.store 1 (.t 37) (.t 36))]) (sq [rm 38 6,rF 39 2 7,rL 40 39,ro 41 (.fO (.t 38)),rF 42 0 41,rF 43 3 42,rn (.store 1 (.t 43) (.t 40))] (.seq (sq [rF 44 0 7,rL 45 44] (.cond (.t 45) (.reg none [rm 46 6,rm 47 6,ro 48 (.fO (.t 47)),rF 49 0 48,rF 50 3 49,rL 51 50,rk 52 wL [(.t 51),(ci 0)],ro 53 (.fO (.t 46)),rF 54 0 53,rF 55 3 54,rn (.store 1 (.t 55) (.t 52))]) .skip)) (sq [rm 56 6,ro 57 (.fO (.t 56)),rF 58 0 57,ro 59 (.load (some 4) (.t 58)),rn (.store 4 (.t 4) (.t 59)),ro 5 (.mv (ci 0))] .ret))))))))
end Go.Rf
namespace Go.Rf
open Go.RowKit
attribute [local simp] mW mV oF pG pJ pQ pK nA qy pO ow pq mK oz kD qw pY qO qL qK qE qN oO oL ql pR qz qG qF qA qo pU qm qI qH oK kT pI pV pW pz o7 eG iB iU iy iR iN iM iT iO gG iP fH iF iQ iE eT eU gD ig je jf gZ jk fU fQ fE eO gV gW gX gP gQ jg iV iH jc iX iZ iY jd jh iK iq gT gU gM iw dO eP gI iL ji ex aH fF dF eY cK dn aL bT fJ gH eZ gN iD iC iW iJ bS dN dV fZ fV gY fu bD pE ny dL eH qc o8 pX oh fC gB gq gy fM dA eX eB d9 bB qx oD oq qj o9 qg qh p9 kZ qd p8 qb S0 ah aD
def Z92(Uq:FuncId):AC:= (sq [ro 2 (.box 4 (.t 0)),ro 4 (.alloc (.agg [(.v (.int .i64 0)),(.sl true []),(.sl true [])]) 3),ro 5 (.mv (ci 0))] (sq [ro 6 (.load (some 4) (.t 2)),rm 7 1,rk 8 Uq [(.t 6),(.t 7),(ci 1)],ro 9 (.ext 0 (.t 8)),ro 10 (.ext 1 (.t 8)),rn (.store 3 (.t 4) (.t 9)),rm 5 10] .ret))
def Z91(Uq:FuncId):AC:= (sq [ro 2 (.box 4 (.t 0)),ro 4 (.alloc (.agg [(.v (.int .i64 0)),(.sl true []),(.sl true [])]) 3),ro 5 (.mv (ci 0))] (sq [ro 6 (.load (some 4) (.t 2)),rm 7 1,rk 8 Uq [(.t 6),(.t 7),(ci 2)],ro 9 (.ext 0 (.t 8)),ro 10 (.ext 1 (.t 8)),rn (.store 3 (.t 4) (.t 9)),rm 5 10] .ret))
theorem Zie{kd:Kd}{n:Net}{most:Int}:∀(f i:Nat) {st st':qV},nO kd n most i=some st→BQ kd n most f i st=some st'→∃j,i≤j∧nO kd n most j=some st'∧j=st'.1.length
 | 0,i,st,st',h,e=>by cases e
 | f+1,i,st,st',h,e=>by
  simp only[BQ] at e;split at e
  ·rename_i hi;cases e;exact⟨i,Nat.le_refl _,h,hi⟩
  ·cases hn:uY kd n most i st with
   | none=>rw[hn] at e;cases e
   | some s2=>
    rw[hn] at e;obtain⟨j,h1,h2,h3⟩:=Zie f (i+1) (st:=s2) (by simp only[nO,h,hn]) e;exact⟨j,by omega,h2,h3⟩
theorem Zd2{kd:Kd}{n:Net}{most:Int}{st:qV}(h:y8 kd n most=some st):nO kd n most st.1.length=some st:=by
 obtain⟨j,_,h2,h3⟩:=Zie _ 0 (st:=([[0]],[],[])) rfl h;rwa[h3] at h2
theorem ZrO(kd:Kd)(n:Net)(most:Int):nU (lK kd n most).1:=by
 unfold lK;split
 ·rename_i h
  have R:=(Bh n).mp h.1;cases hm:y8 kd n most with
  | none=>exact⟨by simp[Len],by simp[Len],by simp,by simp⟩
  | some st=>
   have ok:=JD R h.2.1 _ (Zd2 hm);have h1:=ok.ss.l;have h2:=ok.nx;have h3:=ok.en;have h4:=R.s1;have h5:=R.s2;refine⟨by unfold Len;simp only;omega,by unfold Len;simp only;omega,fun r hr=>?_,by simp only;omega⟩;have:=ok.row r hr;unfold Len;omega
 ·exact⟨by simp[Len],by simp[Len],by simp,by simp⟩
end Go.Rf
namespace Go.Rf
open Go.RowKit
theorem Zn6{X:Type}{p:List X→Prop}(h0:p [])(h1:∀l x,p l→p (l++[x]))(l:List X):p l:=by
 have:∀r:List X,p r.reverse:=by
  intro r;induction r with
  | nil=>exact h0
  | cons x r ih=>rw[List.reverse_cons];exact h1 _ _ ih
 rw[←List.reverse_reverse l];exact this _
theorem Zmo{most:Int}{ss ss':List (List Int)}{x:List Int}{j:Int}(h:yF most ss x=some (ss',j)):(∀(i:Nat) (y:List Int),ss[i]? = some y→ss'[i]? = some y)∧∃k:Nat,j=k∧ss'[k]? = some x:=by
 unfold yF at h;split at h
 ·rename_i hin
  cases h;have hlt:=List.idxOf_lt_length_of_mem hin;exact⟨fun i y hy=>hy,_,rfl,by rw[List.getElem?_eq_getElem hlt,List.getElem_idxOf hlt]⟩
 ·split at h
  ·cases h
  ·cases h
   refine⟨fun i y hy=>?_,ss.length,rfl,by simp⟩;have hl:=(List.getElem?_eq_some_iff.mp hy).1;rw[List.getElem?_append_left hl];exact hy
theorem ZfV{most:Int}{b:Int→List Int}{ss:List (List Int)}:∀(k:Nat) {ss':List (List Int)} {r:List Int},uH most b k ss=some (ss',r)→
  (∀(i:Nat) (y:List Int),ss[i]? = some y→ss'[i]? = some y)∧r.length=k∧∀s:Nat,s < k→∃j:Nat,r[s]? = some (j:Int)∧ss'[j]? = some (b s)
 | 0,ss',r,h=>by
  simp only[uH,Option.some.injEq,Prod.mk.injEq] at h;obtain⟨rfl,rfl⟩:=h;exact⟨fun _ _ h=>h,rfl,fun s hs=>by omega⟩
 | k+1,ss',r,h=>by
  simp only[uH] at h;split at h
  ·cases h
  ·rename_i s1 r1 h1
   obtain⟨i1,i2,i3⟩:=ZfV k h1;split at h
   ·cases h
   ·rename_i s2 j h2
    cases h;obtain⟨j1,q,rfl,j2⟩:=Zmo h2;refine⟨fun i y hy=>j1 i y (i1 i y hy),by simp[i2],fun s hs=>?_⟩;by_cases hsk:s=k
    ·subst hsk
     refine⟨q,?_,j2⟩;rw[List.getElem?_append_right (by omega),i2];simp
    ·obtain⟨j,a1,a2⟩:=i3 s (by omega)
     refine⟨j,?_,j1 _ _ a2⟩;rw[List.getElem?_append_left (by omega)];exact a1
structure ZvJ(kd:Kd)(n:Net)(i:Nat)(st:qV):Prop where
 zero:st.1[0]? = some [0]
 row:∀k < i,∃set r,st.1[k]? = some set∧st.2.2[k]? = some (kW n set)∧st.2.1[k]? = some r∧∀s:Nat,s < n.signs.toNat→∃j:Nat,r[s]? = some (j:Int)∧st.1[j]? = some (kL kd n set s)
theorem ZiR{kd:Kd}{n:Net}(R:mY n){most:Int}(hm:1≤most):∀(i:Nat) {st:qV},nO kd n most i=some st→ZvJ kd n i st
 | 0,st,e=>by
  simp only[nO,Option.some.injEq] at e;subst e;exact⟨rfl,fun k hk=>by omega⟩
 | i+1,st,e=>by
  simp only[nO] at e;split at e
  ·cases e
  ·rename_i st0 h0
   have ih:=ZiR R hm i h0;have ok:=JD R hm i h0;unfold uY at e;split at e
   ·cases e
   ·rename_i set hset
    split at e
    ·cases e
    ·rename_i s2 r hr
     cases e;obtain⟨a1,a2,a3⟩:=ZfV _ hr;refine⟨a1 _ _ ih.zero,fun k hk=>?_⟩;by_cases hki:k=i
     ·subst hki
      refine⟨set,r,a1 _ _ hset,?_,?_,a3⟩
      ·simp only;rw[List.getElem?_append_right (by have:=ok.en;omega)];simp[ok.en]
      ·simp only;rw[List.getElem?_append_right (by have:=ok.nx;omega)];simp[ok.nx]
     ·obtain⟨set',r',b1,b2,b3,b4⟩:=ih.row k (by omega)
      refine⟨set',r',a1 _ _ b1,?_,?_,fun s hs=>?_⟩
      ·have:=(List.getElem?_eq_some_iff.mp b2).1
       simp only;rw[List.getElem?_append_left this];exact b2
      ·have:=(List.getElem?_eq_some_iff.mp b3).1
       simp only;rw[List.getElem?_append_left this];exact b3
      ·obtain⟨j,c1,c2⟩:=b4 s hs
       exact⟨j,c1,a1 _ _ c2⟩
def setAt(kd:Kd)(n:Net)(set l:List Int):List Int:=l.foldl (kL kd n) set
theorem Zfb{kd:Kd}{n:Net}(R:mY n){most:Int}(hm:1≤most)(h3:most≤3000){st:qV}(h:y8 kd n most=some st) :
  dP ⟨n.signs,st.2.1,st.2.2⟩∧∀l:List Int,(∀s∈l,0≤s∧s < n.signs)→uE ⟨n.signs,st.2.1,st.2.2⟩ l=kW n (setAt kd n [0] l):=by
 have hst:=Zd2 h;have ok:=JD R hm _ hst;have sp:=ZiR R hm _ hst;have hl:=ok.ss.l;have hnx:=ok.nx;have hen:=ok.en;have h0:=(List.getElem?_eq_some_iff.mp sp.zero).1
 have D:dP ⟨n.signs,st.2.1,st.2.2⟩:=by
  refine⟨R.s1,R.s2,by simp only;omega,by simp only;omega,by simp only;omega,fun i hi=>?_,fun i hi j hj=>?_⟩
  ·simp only at hi ⊢
   have h7:(st.2.1[i]).length=n.signs.toNat:=ok.row _ (List.getElem_mem hi);have:=R.s1;omega
  ·simp only at hi hj ⊢
   obtain⟨set,r,b1,b2,b3,b4⟩:=sp.row i (by omega);rw[List.getElem?_eq_getElem hi] at b3;cases b3;have hrl:=ok.row _ (List.getElem_mem hi);obtain⟨q,c1,c2⟩:=b4 j (by omega);obtain⟨_,c3⟩:=List.getElem?_eq_some_iff.mp c1;have:=(List.getElem?_eq_some_iff.mp c2).1;rw[c3];omega
 refine⟨D,fun l hls=>?_⟩
 have key:∀(l:List Int) (a:Nat) (set:List Int),(∀s∈l,0≤s∧s < n.signs)→st.1[a]? = some set→∃a',vW ⟨n.signs,st.2.1,st.2.2⟩ a l=some a'∧st.1[a']? = some (setAt kd n set l):=by
  intro l;induction l with
  | nil=>intro a set _ ha;exact⟨a,rfl,ha⟩
  | cons s l ih=>
   intro a set hs ha;have hs0:=hs s (by simp);have hal:=(List.getElem?_eq_some_iff.mp ha).1;obtain⟨set',r,b1,b2,b3,b4⟩:=sp.row a hal;rw[ha] at b1;cases b1;obtain⟨j,c1,c2⟩:=b4 s.toNat (by omega);have hst:((s.toNat:Nat):Int)=s:=by omega
   rw[hst] at c2
   have hstep:bK ⟨n.signs,st.2.1,st.2.2⟩ a s=j:=by
    simp[bK,List.getD_eq_getElem?_getD,b3,c1]
   obtain⟨a',d1,d2⟩:=ih j _ (fun x hx=>hs x (by simp[hx])) c2;exact⟨a',by rw[vW,if_pos hs0,hstep];exact d1,d2⟩
 obtain⟨a',e1,e2⟩:=key l 0 [0] hls sp.zero;have hal:=(List.getElem?_eq_some_iff.mp e2).1;obtain⟨set',r,b1,b2,b3,b4⟩:=sp.row a' hal;rw[e2] at b1;cases b1;have hrun:yG ⟨n.signs,st.2.1,st.2.2⟩ l=some a':=by rw[yG,if_pos ((uQ _).mpr D)];exact e1
 simp[uE,hrun,List.getD_eq_getElem?_getD,b2]
theorem Wo{n:Net}{set:List Int}:kW n set=true↔∃x∈set,x∈n.last:=by simp[kW]
theorem I9{n:Net}(h:qC n=true)(l:List Int):zq n l=kW n (vG n l):=by simp[zq,h,kW]
theorem Zdr(kd:Kd)(n:Net)(set l:List Int)(s:Int):setAt kd n set (l++[s])=kL kd n (setAt kd n set l) s:=by simp[setAt]
theorem Zg6{n:Net}(l:List Int):∀q:Int,q∈setAt .tails n [0] l↔∃i≤l.length,q∈vG n (l.drop i):=by
 refine Zn6 (p:=fun l=>∀q:Int,q∈setAt .tails n [0] l↔∃i≤l.length,q∈vG n (l.drop i)) ?_ ?_ l
 ·intro q;simp[setAt,vG]
 ·intro l s ih q
  rw[Zdr];simp only[kL,List.mem_cons];constructor
  ·rintro(rfl | hq)
   ·exact⟨(l++[s]).length,Nat.le_refl _,by rw[List.drop_length];simp[vG]⟩
   ·rw[IZ] at hq
    obtain⟨p,hp,he⟩:=hq;obtain⟨i,hi,hpi⟩:=(ih p).mp hp;refine⟨i,by simp;omega,?_⟩;rw[List.drop_append_of_le_length hi,Wz,IZ];exact⟨p,hpi,he⟩
  ·rintro⟨i,hi,hq⟩
   simp only[List.length_append,List.length_cons,List.length_nil] at hi;by_cases hil:i≤l.length
   ·right
    rw[List.drop_append_of_le_length hil,Wz,IZ] at hq;obtain⟨p,hp,he⟩:=hq;rw[IZ];exact⟨p,(ih p).mpr ⟨i,hil,hp⟩,he⟩
   ·left
    have:(l++[s]).drop i=[]:=List.drop_eq_nil_of_le (by simp;omega);rw[this] at hq;simpa[vG] using hq
theorem L9{p:Nat→Bool}{i:Nat}:0 < (MZ p i).length↔∃k < i,p k=true:=by
 simp only[MZ,List.length_map,List.length_pos_iff_exists_mem,List.mem_filter,List.mem_range]
theorem Znf{n:Net}(h:qC n=true)(l:List Int):kW n (setAt .tails n [0] l)=decide (0 < (MZ (TM n l) (l.length+1)).length):=by
 rw[Bool.eq_iff_iff,Wo,decide_eq_true_iff,L9];constructor
 ·rintro⟨q,hq,hl⟩
  obtain⟨i,hi,hqi⟩:=(Zg6 l q).mp hq;refine⟨l.length - i,by omega,?_⟩;have e:l.length - (l.length - i)=i:=by omega
  rw[TM,e,I9 h,Wo];exact⟨q,hqi,hl⟩
 ·rintro⟨k,hk,hp⟩
  rw[TM,I9 h,Wo] at hp;obtain⟨q,hq,hl⟩:=hp;exact⟨q,(Zg6 l q).mpr ⟨l.length - k,by omega,hq⟩,hl⟩
theorem ZlV{n:Net}(h:qC n=true)(l:List Int):if ∃k < l.length+1,xV n l k=true then kW n (setAt .heads n [0] l)=true else setAt .heads n [0] l=vG n l:=by
 refine Zn6 (p:=fun l=>if ∃k < l.length+1,xV n l k=true then kW n (setAt .heads n [0] l)=true else setAt .heads n [0] l=vG n l) ?_ ?_ l
 ·split
  ·rename_i hk
   obtain⟨k,hk,hp⟩:=hk;simp only[xV,List.take_nil] at hp;rw[I9 h] at hp;exact hp
  ·rfl
 ·intro l s ih
  rw[Zdr];have htk:∀k,k≤l.length→xV n (l++[s]) k=xV n l k:=fun k hk=>by simp only[xV];rw[List.take_append_of_le_length hk]
  by_cases hex:∃k < l.length+1,xV n l k=true
  ·rw[if_pos hex] at ih
   obtain⟨k,hk,hp⟩:=hex;rw[if_pos ⟨k,by simp;omega,by rw[htk k (by omega)];exact hp⟩];simp only[kL,ih,if_true]
  ·rw[if_neg hex] at ih
   have hno:kW n (vG n l)=false:=by
    cases hb:kW n (vG n l) with
    | false=>rfl
    | true=>exact(hex ⟨l.length,by omega,by rw[xV,List.take_length,I9 h];exact hb⟩).elim
   have hst:kL .heads n (setAt .heads n [0] l) s=vG n (l++[s]):=by simp only[kL,ih,hno,Bool.false_eq_true,if_false];rw[Wz]
   rw[hst];split
   ·rename_i hk
    obtain⟨k,hk,hp⟩:=hk;simp only[List.length_append,List.length_cons,List.length_nil] at hk;by_cases hkl:k≤l.length
    ·rw[htk k hkl] at hp
     exact(hex ⟨k,by omega,hp⟩).elim
    ·rw[xV,List.take_of_length_le (by simp;omega),I9 h] at hp
     exact hp
   ·rfl
theorem ZlU{n:Net}(h:qC n=true)(l:List Int):kW n (setAt .heads n [0] l)=decide (0 < (MZ (xV n l) (l.length+1)).length):=by
 have:=ZlV h l;by_cases hex:∃k < l.length+1,xV n l k=true
 ·rw[if_pos hex] at this
  rw[this];exact(decide_eq_true (L9.mpr hex)).symm
 ·rw[if_neg hex] at this
  rw[this];have hd:decide (0 < (MZ (xV n l) (l.length+1)).length)=false:=decide_eq_false (fun hp=>hex (L9.mp hp));rw[hd];cases hb:kW n (vG n l) with
  | false=>rfl
  | true=>exact(hex ⟨l.length,by omega,by rw[xV,List.take_length,I9 h];exact hb⟩).elim
end Go.Rf
namespace Go.Rf
open Go.RowKit
attribute [local simp] mW mV oF pG pJ pQ pK nA qy pO ow pq mK oz kD qw pY qO qL qK qE qN oO oL ql pR qz qG qF qA qo pU qm qI qH oK kT pI pV pW pz o7 eG iB iU iy iR iN iM iT iO gG iP fH iF iQ iE eT eU gD ig je jf gZ jk fU fQ fE eO gV gW gX gP gQ jg iV iH jc iX iZ iY jd jh iK iq gT gU gM iw dO eP gI iL ji ex aH fF dF eY cK dn aL bT fJ gH eZ gN iD iC iW iJ bS dN dV fZ fV fu bD pE ny dL eH qc o8 pX oh fC gB gq gy eX eB d9 bB qx oD oq qj o9 qg qh p9 kZ qd p8 qb S0 ah aD rA q9 rC om og qp rJ rz rH rP rG rO rE rM rD Q6 R9 TN TP SF SG SH Sb M9 Rk Qy yX
def Z9p:AC:= (sq [ro 4 (.box 3 (.t 0)),ro 5 (.box 3 (.t 1)),ro 6 (.box 2 (.t 2)),ro 8 (.alloc (.agg [(.v (.int .i64 0)),(.v (.int .i64 0))]) 2)] (sq [rm 11 3,ro 12 (.bin .quo (.t 11) (ci 2)),rm 13 3,ro 14 (.bin .rem (.t 13) (ci 2)),ro 15 (.bin .eql (.t 14) (ci 1)),rm 9 12,rm 10 15] (.seq (.block 0 (sq [rF 17 0 6,rL 18 17,ro 19 (.bin .leq (.t 18) (ci 1)),rm 20 19,rg 21 20 true (.mv (.t 10)),rg 22 20 true (.un .not (.t 21)),ro 23 (.pick (.t 20) (.t 22) (.c (.v (.bool false)))),rm 16 23] (.cond (.t 16) (sq [rF 24 1 4,rL 25 24,rF 26 1 6,rL 27 26,ro 28 (.aM 1 (.t 25) (.t 27)),rL 29 28,rm 30 9,ro 31 (.aM 1 (.t 29) (.t 30)),rL 32 31,ro 33 (.build (.agg [(.v (.int .i64 0)),(.v (.int .i64 0))]) [(0,1),(1,1)] [(0,(ci 1)),(1,(.t 32))]),rn (.store 2 (.t 8) (.t 33))] .ret) (sq [rF 35 0 6,rL 36 35,ro 37 (.bin .eql (.t 36) (ci 1)),rm 38 37,rg 39 38 true (.cu 2 (.t 4)),rg 40 38 true (.load none (.t 39)),rg 41 38 true (.cu 1 (.t 6)),rg 42 38 true (.load none (.t 41)),rg 43 38 true (.aM 1 (.t 40) (.t 42)),rg 44 38 true (.load none (.t 43)),ro 45 (.pick (.t 38) (.t 44) (.c (.v (.bool false)))),rm 34 45] (.cond (.t 34) (sq [rF 46 1 5,rL 47 46,ro 48 (.aM 1 (.t 47) (ci 0)),rL 49 48,rm 50 9,ro 51 (.aM 1 (.t 49) (.t 50)),rL 52 51,ro 53 (.build (.agg [(.v (.int .i64 0)),(.v (.int .i64 0))]) [(0,1),(1,1)] [(0,(ci 2)),(1,(.t 52))]),rn (.store 2 (.t 8) (.t 53))] .ret) (sq [rF 55 0 6,rL 56 55,ro 57 (.bin .eql (.t 56) (ci 2)),rm 58 57,rg 59 58 true (.mv (.t 10)),rg 60 58 true (.un .not (.t 59)),ro 61 (.pick (.t 58) (.t 60) (.c (.v (.bool false)))),rm 54 61] (.cond (.t 54) (sq [rF 62 1 5,rL 63 62,rF 64 1 6,rL 65 64,ro 66 (.aM 1 (.t 63) (.t 65)),rL 67 66,rm 68 9,ro 69 (.aM 1 (.t 67) (.t 68)),rL 70 69,ro 71 (.build (.agg [(.v (.int .i64 0)),(.v (.int .i64 0))]) [(0,1),(1,1)] [(0,(ci 2)),(1,(.t 70))]),rn (.store 2 (.t 8) (.t 71))] .ret) .skip))))))) (sq [ro 72 (.build (.agg [(.v (.int .i64 0)),(.v (.int .i64 0))]) [(0,1),(1,1)] [(0,(ci 3)),(1,(ci 0))]),rn (.store 2 (.t 8) (.t 72))] .ret))))
def zW:AC:= (sq [ro 5 (.box 2 (.t 1)),ro 8 (.alloc (.agg [(.v (.int .i64 0)),(.v (.int .i64 0))]) 2)] (.seq (sq [rm 9 3] (.cond (.t 9) (.seq (.seq (.reg (some []) [rF 10 0 5,rL 11 10,ro 12 (.bin .eql (.t 11) (ci 1)),rm 13 12,rg 14 13 true (.mv (.t 0)),rg 15 13 true (.fO (.t 14)),rg 16 13 true (.cu 0 (.t 15)),rg 17 13 true (.cu 2 (.t 16)),rg 18 13 true (.load none (.t 17)),rg 19 13 true (.cu 1 (.t 5)),rg 20 13 true (.load none (.t 19)),rg 21 13 true (.aM 1 (.t 18) (.t 20)),rg 22 13 true (.load none (.t 21)),ro 23 (.pick (.t 13) (.t 22) (.c (.v (.bool false))))]) (.cond (.t 23) (sq [rm 24 0,ro 25 (.fO (.t 24)),rF 26 3 25,rF 27 1 26,rL 28 27,ro 29 (.aM 1 (.t 28) (ci 0)),rL 30 29,rm 31 2,ro 32 (.aM 1 (.t 30) (.t 31)),rL 33 32,ro 34 (.build (.agg [(.v (.int .i64 0)),(.v (.int .i64 0))]) [(0,1),(1,1)] [(0,(ci 2)),(1,(.t 33))]),rn (.store 2 (.t 8) (.t 34))] .ret) .skip)) (sq [ro 35 (.build (.agg [(.v (.int .i64 0)),(.v (.int .i64 0))]) [(0,1)] [(0,(ci 3))]),rn (.store 2 (.t 8) (.t 35))] .ret)) .skip)) (.seq (sq [rF 36 0 5,rL 37 36] (.block 0 (.seq (sq [ro 39 (.bin .eql (.t 37) (ci 0)),rm 38 39] (.cond (.t 38) .skip (.reg none [ro 40 (.bin .eql (.t 37) (ci 1)),rm 38 40]))) (.cond (.t 38) (.seq (.reg (some []) [rm 41 0,ro 42 (.fO (.t 41)),rF 43 0 42,rF 44 1 43,rL 45 44,rF 46 1 5,rL 47 46,ro 48 (.aM 1 (.t 45) (.t 47)),rL 49 48,rm 50 2,ro 51 (.aM 1 (.t 49) (.t 50)),rL 52 51,ro 53 (.build (.agg [(.v (.int .i64 0)),(.v (.int .i64 0))]) [(0,1),(1,1)] [(0,(ci 1)),(1,(.t 52))]),rn (.store 2 (.t 8) (.t 53))]) .ret) (sq [ro 55 (.bin .eql (.t 37) (ci 2)),rm 54 55] (.cond (.t 54) (.seq (.reg (some []) [rm 56 0,ro 57 (.fO (.t 56)),rF 58 3 57,rF 59 1 58,rL 60 59,rF 61 1 5,rL 62 61,ro 63 (.aM 1 (.t 60) (.t 62)),rL 64 63,rm 65 2,ro 66 (.aM 1 (.t 64) (.t 65)),rL 67 66,ro 68 (.build (.agg [(.v (.int .i64 0)),(.v (.int .i64 0))]) [(0,1),(1,1)] [(0,(ci 2)),(1,(.t 67))]),rn (.store 2 (.t 8) (.t 68))]) .ret) .skip)))))) (sq [ro 69 (.load (some 2) (.t 5)),rn (.store 2 (.t 8) (.t 69))] .ret))))
theorem Cz(x y:Int)(S:St):dM (.agg [.v (.int .i64 x),.v (.int .i64 y)]) (.agg [.v (.int .i64 x),.v (.int .i64 y)]) S:=.closed _ (yV (x,y))
theorem Ri{d:aC}(R:dP d){q:Int}(h0:0≤q)(h1:q < d.next.length){h:Nat}(hs:(h:Int) < d.signs) :
  ∃row,d.next[q.toNat]?.getD []=row∧(∀hh:q.toNat < d.next.length,d.next[q.toNat]=row)∧h < row.length∧row[h]?.getD 0=((bK d q.toNat h:Nat):Int)∧∀hh:h < row.length,row[h]=((bK d q.toNat h:Nat):Int):=by
 have hq:q.toNat < d.next.length:=by omega
 have hr:=R.row _ hq;have hh:h < (d.next[q.toNat]).length:=by omega
 have ha:=R.at_ _ hq h hh
 have e1:d.next[q.toNat]? = some d.next[q.toNat]:=List.getElem?_eq_getElem hq
 have e2:(d.next[q.toNat])[h]? = some (d.next[q.toNat])[h]:=List.getElem?_eq_getElem hh
 have e:(d.next[q.toNat])[h]=((bK d q.toNat h:Nat):Int):=by
  unfold bK;simp only[List.getD_eq_getElem?_getD,e1,Option.getD_some,Int.toNat_natCast,e2];omega
 exact⟨d.next[q.toNat],by rw[e1];rfl,fun _=>rfl,hh,by rw[e2];exact e,fun _=>e⟩
theorem ZpD{d:aC}(i:Nat):d.fin[i]?.getD false=dG d i∧∀h:i < d.fin.length,d.fin[i]=dG d i:=⟨by simp[dG,List.getD_eq_getElem?_getD],fun h=>by simp[dG,List.getD_eq_getElem?_getD,h]⟩
def zM(b a:aC):AV:=.bJ (.agg [ah b.signs,aU b.next,bA b.fin,ah a.signs,aU a.next,bA a.fin]) 0
theorem Zgz{P:Program}{b a:aC}(Rb:dP b)(Ra:dP a)(hs:b.signs=a.signs)(x:Int×Int)(hx:vM b a x)(s:Nat)(hlt:s < (2*b.signs).toNat) :
  bq P 0 zW (bL [.c 8 (some 2)] (dM (bZ (nD b a x s)))) (bF [zM b a,bZ x,ah (s / 2:Nat),aD (decide (s % 2=1))]) S0:=by
 obtain⟨v0,v1,v2,v3,v4,v5⟩:=hx;have hsb:=Rb.s2;have hbf:=Rb.fin;have hbn:=Rb.n1;have han:=Ra.n1;have aa1:0 < a.next.length:=by omega
 have abl:a.next≠[]:=List.length_pos_iff.mp aa1
 obtain⟨p,q⟩:=x;simp only at v0 v1 v2 v3 v4 v5;unfold nD;have hhs:((s / 2:Nat):Int) < b.signs:=by omega
 have aa5:((s / 2:Nat):Int) < a.signs:=by omega
 generalize s / 2=h at *;by_cases hodd:s % 2=1
 ·rw[if_pos hodd,decide_eq_true hodd]
  obtain rfl | rfl | rfl | rfl:p=0∨p=1∨p=2∨p=3:=by omega
  ·simp[zW,zM,bL,bP,RV.ev,eF,bV,jr,gJ,bZ]
   exact Cz _ _ _
  ·have Tt:q < (b.fin.length:Int):=by rw[hbf];exact v3 (by omega)
   obtain⟨row,r1,r1',r2,r3,r3'⟩:=Ri Ra (q:=0) (by omega) (by omega) aa5;simp only[Int.toNat_zero] at r1 r1' r3 r3';obtain⟨hfi,Kh⟩:=ZpD (d:=b) q.toNat;cases Kg:dG b q.toNat with
   | true=>
    rw[Kg] at hfi Kh;simp[zW,zM,kg,v2,Tt,Kh,r1',r2,r3',aa1,bL,bP,RV.ev,eF,bV,jr,gJ,bZ];exact Cz _ _ _
   | false=>
    rw[Kg] at hfi Kh;simp[zW,zM,kg,v2,Tt,Kh,bL,bP,RV.ev,eF,bV,jr,gJ,bZ];exact Cz _ _ _
  ·simp[zW,zM,bL,bP,RV.ev,eF,bV,jr,gJ,bZ]
   exact Cz _ _ _
  ·simp[zW,zM,bL,bP,RV.ev,eF,bV,jr,gJ,bZ]
   exact Cz _ _ _
 ·rw[if_neg hodd,decide_eq_false hodd]
  obtain rfl | rfl | rfl | rfl:p=0∨p=1∨p=2∨p=3:=by omega
  ·obtain⟨row,r1,r1',r2,r3,r3'⟩:=Ri Rb v2 (v3 (by omega)) hhs
   have Dj:=v3 (by omega);simp[zW,zM,kg,v2,Dj,r1',r2,r3',bL,bP,RV.ev,eF,bV,jr,gJ,bZ];exact Cz _ _ _
  ·obtain⟨row,r1,r1',r2,r3,r3'⟩:=Ri Rb v2 (v3 (by omega)) hhs
   have Dj:=v3 (by omega);simp[zW,zM,kg,v2,Dj,r1',r2,r3',bL,bP,RV.ev,eF,bV,jr,gJ,bZ];exact Cz _ _ _
  ·obtain⟨row,r1,r1',r2,r3,r3'⟩:=Ri Ra v2 (v4 (by omega)) aa5
   have Dj:=v4 (by omega);simp[zW,zM,kg,v2,Dj,r1',r2,r3',bL,bP,RV.ev,eF,bV,jr,gJ,bZ];exact Cz _ _ _
  ·have h0:=v5 rfl
   subst h0;simp[zW,zM,bL,bP,RV.ev,eF,bV,bZ];exact Cz _ _ _
end Go.Rf
namespace Go.Rf
open Go.RowKit
attribute [local simp] mW mV oF pG pJ pQ pK nA qy pO ow pq mK oz kD qw pY qO qL qK qE qN oO oL ql pR qz qG qF qA qo pU qm qI qH oK kT pI pV pW pz o7 eG iB iU iy iR iN iM iT iO gG iP fH iF iQ iE eT eU gD ig je jf gZ jk fU fQ fE eO gV gW gX gP gQ jg iV iH jc iX iZ iY jd jh iK iq gT gU gM iw dO eP gI iL ji ex aH fF dF eY cK dn aL bT fJ gH eZ gN iD iC iW iJ bS dN dV fZ fV fu bD pE ny dL eH qc o8 pX oh fC gB gq gy eX eB d9 bB qx oD oq qj o9 qg qh p9 kZ qd p8 qb S0 ah aD rA q9 rC om og qp rJ rz rH rP rG rO rE rM rD Q6 R9 TN TP SF SG SH Sb M9 Rk Qy yX tO gL.cl bW.cl aW dY aT jR jG tN tK tL mM sO sP sN tX jM jS kU tY qW qD r9 uh um uj tV nZ oH uq rW tT rX ou sM jy uy dW mF bN oV
def Zl1:AC:= (.block 4 (.loop (.seq (.seq (.reg (some []) [rm 70 14,rm 71 8,ro 72 (.len (.t 71)),ro 73 (.bin .lss (.t 70) (.t 72)),rm 74 73,rg 75 74 true (.mv (.t 8)),rg 76 74 true (.mv (.t 14)),rg 77 74 true (.aM 2 (.t 75) (.t 76)),rg 78 74 true (.load (some 2) (.t 77)),rg 79 74 true (.load (some 2) (.t 13)),rg 80 74 true (.seq true [0,1] (.t 78) (.t 79)),ro 81 (.pick (.t 74) (.t 80) (.c (.v (.bool false))))]) (.cond (.t 81) .skip (.exit 4))) (.block 5 (.reg none [rm 82 14,ro 83 (.bin .add (.t 82) (ci 1)),rm 14 83])))))
def ZnV(KN:FuncId):AC:= (.block 2 (.loop (.seq (sq [rm 56 12,rF 57 0 9,rL 58 57,ro 59 (.bin .lss (.t 56) (.t 58))] (.cond (.t 59) .skip (.exit 2))) (.seq (.block 3 (.seq (.reg (some [[],[],[],[],[],[],[],[],[true,true,true,true,true,true,true,true]]) [ro 62 (.load (some 3) (.t 3)),ro 63 (.load (some 3) (.t 4)),rm 64 8,rm 65 10,ro 66 (.aM 2 (.t 64) (.t 65)),ro 67 (.load (some 2) (.t 66)),rm 68 12,rk 69 KN [(.t 62),(.t 63),(.t 67),(.t 68)],ro 13 (.alloc (.agg [(.v (.int .i64 0)),(.v (.int .i64 0))]) 2),rn (.store 2 (.t 13) (.t 69))]) (sq [ro 14 (.mv (ci 0))] (.seq Zl1 (.seq (sq [rm 84 14,rm 85 8,ro 86 (.len (.t 85)),ro 87 (.bin .eql (.t 84) (.t 86))] (.cond (.t 87) (.seq (sq [rm 88 14,rm 89 2,ro 90 (.bin .eql (.t 88) (.t 89))] (.cond (.t 90) (sq [ro 91 (.build (.agg [(.v (.int .i64 0)),(.sl true []),(.sl true [])]) [] []),rn (.store 3 (.t 6) (.t 91)),ro 7 (.mv (ci 13))] .ret) .skip)) (.reg none [rm 92 8,ro 93 (.load (some 2) (.t 13)),ro 94 (.dH 2 1 (.agg [(.v (.int .i64 0)),(.v (.int .i64 0))]) [(0,(.t 93))]),ro 95 (.app 2 16 (.t 92) (.t 94)),rm 8 95])) .skip)) (.reg none [rm 96 11,rm 97 14,ro 98 (.dH 1 1 (.v (.int .i64 0)) [(0,(.t 97))]),ro 99 (.app 1 8 (.t 96) (.t 98)),rm 11 99])))))) (.reg none [rm 60 12,ro 61 (.bin .add (.t 60) (ci 1)),rm 12 61])))))
def Zl2:AC:= (.reg (some [[],[],[],[],[],[true],[false,true],[false,false,true],[false,false,false,true],[false,false,false,false,true],[false,false,false,false,false,true],[false,false,false,false,false,false,true],[false,false,false,false,false,false,false,true],[],[],[],[],[],[],[],[],[],[],[],[],[],[true]]) [rF 100 1 9,rL 101 100,rm 102 11,ro 103 (.dH 1 1 (.sl true []) [(0,(.t 102))]),ro 104 (.app 1 24 (.t 101) (.t 103)),rF 105 2 9,rL 106 105,rm 107 8,rm 108 10,ro 109 (.aM 2 (.t 107) (.t 108)),rF 110 0 109,rL 111 110,ro 112 (.bin .eql (.t 111) (ci 2)),rm 113 112,rg 114 113 true (.cu 2 (.t 4)),rg 115 113 true (.load none (.t 114)),rg 116 113 true (.mv (.t 8)),rg 117 113 true (.mv (.t 10)),rg 118 113 true (.aM 2 (.t 116) (.t 117)),rg 119 113 true (.cu 1 (.t 118)),rg 120 113 true (.load none (.t 119)),rg 121 113 true (.aM 1 (.t 115) (.t 120)),rg 122 113 true (.load none (.t 121)),ro 123 (.pick (.t 113) (.t 122) (.c (.v (.bool false)))),ro 124 (.dH 1 1 (.v (.bool false)) [(0,(.t 123))]),ro 125 (.app 1 1 (.t 106) (.t 124)),rF 126 1 9,rn (.store 1 (.t 126) (.t 104)),rF 127 2 9,rn (.store 1 (.t 127) (.t 125))])
def ZnU(KN:FuncId):AC:= (.block 0 (.loop (.seq (sq [rm 50 10,rm 51 8,ro 52 (.len (.t 51)),ro 53 (.bin .lss (.t 50) (.t 52))] (.cond (.t 53) .skip (.exit 0))) (.seq (.block 1 (sq [ro 11 (.mv (.c (.sl true [])))] (.seq (sq [ro 12 (.mv (ci 0))] (ZnV KN)) Zl2))) (.reg none [rm 54 10,ro 55 (.bin .add (.t 54) (ci 1)),rm 10 55])))))
def ZnT:AC:= (sq [ro 128 (.load (some 3) (.t 9)),rn (.store 3 (.t 6) (.t 128)),ro 7 (.mv (ci 0))] .ret)
def Zap(Dw KN:FuncId):AC:= (sq [ro 3 (.box 3 (.t 0)),ro 4 (.box 3 (.t 1)),ro 6 (.alloc (.agg [(.v (.int .i64 0)),(.sl true []),(.sl true [])]) 3),ro 7 (.mv (ci 0))] (.seq (sq [ro 15 (.load (some 3) (.t 3)),rk 16 Dw [(.t 15)],ro 17 (.un .not (.t 16)),rm 18 17,rg 19 18 false (.load (some 3) (.t 4)),rl 20 18 false Dw [(.t 19)],rg 21 18 false (.un .not (.t 20)),ro 22 (.pick (.t 18) (.c (.v (.bool true))) (.t 21)),rm 23 22,rg 24 23 false (.cu 0 (.t 3)),rg 25 23 false (.load none (.t 24)),rg 26 23 false (.cu 0 (.t 4)),rg 27 23 false (.load none (.t 26)),rg 28 23 false (.bin .neq (.t 25) (.t 27)),ro 29 (.pick (.t 23) (.c (.v (.bool true))) (.t 28)),rm 30 29,rg 31 30 false (.cu 0 (.t 3)),rg 32 30 false (.load none (.t 31)),rg 33 30 false (.bin .gtr (.t 32) (ci 200)),ro 34 (.pick (.t 30) (.c (.v (.bool true))) (.t 33)),rm 35 34,rg 36 35 false (.mv (.t 2)),rg 37 35 false (.bin .lss (.t 36) (ci 1)),ro 38 (.pick (.t 35) (.c (.v (.bool true))) (.t 37)),rm 39 38,rg 40 39 false (.mv (.t 2)),rg 41 39 false (.bin .gtr (.t 40) (ci 3000)),ro 42 (.pick (.t 39) (.c (.v (.bool true))) (.t 41))] (.cond (.t 42) (sq [ro 43 (.build (.agg [(.v (.int .i64 0)),(.sl true []),(.sl true [])]) [] []),rn (.store 3 (.t 6) (.t 43)),ro 7 (.mv (ci 1))] .ret) .skip)) (sq [ro 44 (.build (.agg [(.v (.int .i64 0)),(.v (.int .i64 0))]) [(0,1),(1,1)] [(0,(ci 0)),(1,(ci 0))]),ro 45 (.dH 2 1 (.agg [(.v (.int .i64 0)),(.v (.int .i64 0))]) [(0,(.t 44))]),rm 8 45] (sq [rF 46 0 3,rL 47 46,ro 48 (.bin .mul (ci 2) (.t 47)),ro 49 (.build (.agg [(.v (.int .i64 0)),(.sl true []),(.sl true [])]) [(0,1)] [(0,(.t 48))]),ro 9 (.alloc (.agg [(.v (.int .i64 0)),(.sl true []),(.sl true [])]) 3),rn (.store 3 (.t 9) (.t 49))] (.seq (sq [ro 10 (.mv (ci 0))] (ZnU KN)) ZnT)))))
section
variable(b a:aC)(most:Int)
end
def PE:AC:= (sq [ro 3 (.box 2 (.t 1)),ro 4 (.mv (ci 0))] (.seq (.reg (some []) [rm 8 0,ro 9 (.fO (.t 8)),rF 10 6 9,rL 11 10,ro 12 (.load (some 2) (.t 3)),ro 13 (.look (.ints 2) (.v (.int .i64 0)) true (.t 11) (.t 12)),rm 7 13,ro 14 (.ext 0 (.t 7)),ro 15 (.ext 1 (.t 7)),rm 5 14,rm 6 15]) (.seq (sq [rm 16 6,ro 17 (.un .not (.t 16))] (.cond (.t 17) (sq [rm 18 0,ro 19 (.fO (.t 18)),rF 20 7 19,rL 21 20,ro 22 (.len (.t 21)),rm 5 22] (.seq (.reg (some []) [rm 23 0,ro 24 (.fO (.t 23)),rF 25 6 24,rL 26 25,ro 27 (.load (some 2) (.t 3)),rm 28 5,rn (.BX (.ints 2) (.t 26) (.t 27) (.t 28))]) (.reg (some [[],[],[],[],[],[],[],[false,false,false,false,false,false,true]]) [rm 29 0,rm 30 0,ro 31 (.fO (.t 30)),rF 32 7 31,rL 33 32,ro 34 (.load (some 2) (.t 3)),ro 35 (.dH 2 1 (.agg [(.v (.int .i64 0)),(.v (.int .i64 0))]) [(0,(.t 34))]),ro 36 (.app 2 16 (.t 33) (.t 35)),ro 37 (.fO (.t 29)),rF 38 7 37,rn (.store 1 (.t 38) (.t 36))]))) .skip)) (sq [rm 39 5,rm 4 39] .ret))))
theorem R5:Bv (.ints 2) (fun _:Int×Int=>True) bZ:=⟨fun _=>rfl,fun x y _ _=>by
 obtain⟨a,b⟩:=x;obtain⟨c,d⟩:=y;by_cases h1:a=c<;>by_cases h2:b=d<;>simp[sW,bZ,BK,h1,h2]⟩
section
variable{K:Type}[DecidableEq K]{d:KK}{good:K→Prop}{enc:K→AV}
theorem Ztl(h:Bv d good enc){ks:List K}{x:K}(hx:good x)(hs:∀s∈ks,good s){km aA:Nat}{S:St}(hg:S.g km=some (.map (gK enc 0 ks))) :
  (Bu d (.v (.int .i64 0)) true (.mp km) (enc x)).runT S aA=some (.aO [.v (.int .i64 (if x∈ks then (ks.idxOf x:Int) else 0)),.v (.bool (decide (x∈ks)))],S,[km],[]):=by
 have hk:=LY h ks 0;simp only[Bu,eP,hg,Option.bind_some,if_pos (show isK d (enc x)=true∧∀e∈gK enc 0 ks,isK d e.1=true from⟨h.k x,hk⟩),X8 h hx ks 0 hs];by_cases hin:x∈ks
 ·simp[hin,ah]
 ·simp[hin]
theorem Ztr(h:Bv d good enc){ks:List K}{x:K}(hx:good x)(hs:∀s∈ks,good s)(hn:x∉ks){km aA:Nat}{S:St}(hg:S.g km=some (.map (gK enc 0 ks))) :
  (CP d (.mp km) (enc x) (.v (.int .i64 ks.length))).runT S aA=some (.junk,S.set km (some (.map (gK enc 0 (ks++[x])))),[km],[km]):=by
 have hk:=LY h ks 0;have h2:=YD h hx ks 0 hs hn;rw[Nat.zero_add] at h2;have h':nX (enc x) (.v (.int .i64 ks.length)) (gK enc 0 ks)=gK enc 0 (ks++[x]):=h2;simp only[CP,gI,hg,Option.bind_some,if_pos (show isK d (enc x)=true∧∀e∈gK enc 0 ks,isK d e.1=true from⟨h.k x,hk⟩),h',Option.map_some]
end
theorem DJ{gF:Nat→Option aB}{R:Nat→Nat→Prop}(ss:List (Int×Int)):BI gF R (some (.map (gK bZ 0 ss))) (some (.map (gK bZ 0 ss))):=Ae (Ag yV _ _)
def mD(b a:aC)(km:Nat)(lv:AV):AV:=.agg [ah b.signs,aU b.next,bA b.fin,ah a.signs,aU a.next,bA a.fin,.mp km,lv]
def kG(b a:aC)(o:Bool)(ss:List (Int×Int))(id il km:Nat):List (Nat×Option aB):=
 [(id,some (.arr 8 [mD b a km (vV o il (ss.map bZ))])),(il,vB o 2 (ss.map bZ)),(km,some (.map (gK bZ 0 ss)))]
def Yu(b a:aC)(ss:List (Int×Int))(S:St):Prop:=S.n=10∧S.g 0=some (.arr 8 [mD b a 2 (.own 3 0 ss.length)])∧S.g 3=some (.arr 2 (ss.map bZ))∧S.g 2=some (.map (gK bZ 0 ss))
theorem Yu.of{b a:aC}{ss:List (Int×Int)}{G:List (Nat×Option aB)}:Yu b a ss ⟨10,bn (kG b a true ss 0 3 2++G)⟩:=⟨rfl,by simp[kG,dW],by simp[kG,bn,bN],by simp[kG,bn]⟩
def Db(ss:List (Int×Int))(x:Int×Int):List (Int×Int):=if x∈ss then ss else ss++[x]
def Ep(ss:List (Int×Int))(x:Int×Int):Int:=if x∈ss then (@List.idxOf _ instBEqOfDecidableEq x ss:Int) else ss.length
def JE(P:Program)(f:FuncId)(b a:aC)(o:Bool)(ss:List (Int×Int))(x:Int×Int):Prop:=
 aN P f [.ptr 0 0 0,bZ x] ⟨3,bn (kG b a o ss 0 1 2)⟩ fun r' S'=>r'=ah (Ep ss x)∧Yu b a (Db ss x) S'
def GJ(b a:aC)(ss:List (Int×Int))(id il km:Nat)(S:St):St:=
 (((((St.mk (S.n+7) S.g).set id (some (.arr 8 [mD b a km (.own S.n 0 ss.length)]))).set il none).set km (some (.map (gK bZ 0 ss)))).set S.n (some (.arr 2 (ss.map bZ))))
theorem JE.use{P:Program}{f:FuncId}{b a:aC}{o:Bool}{ss:List (Int×Int)}{x:Int×Int}(h:JE P f b a o ss x){S:St}{K:AV→St→Prop}{id il km:Nat}
  (h1:S.g id=some (.arr 8 [mD b a km (vV o il (ss.map bZ))])) (h2:S.g il=vB o 2 (ss.map bZ)) (h3:S.g km=some (.map (gK bZ 0 ss)))
  (hd:id≠il∧id≠km∧il≠km) (hl:id < S.n∧il < S.n∧km < S.n) (hk:K (ah (Ep ss x)) (GJ b a (Db ss x) id il km S)):aN P f [.ptr id 0 0,bZ x] S K:=by
 refine aN.frame 3 [(0,id),(1,il),(2,km)] (kG b a o ss 0 1 2) [.ptr 0 0 0,bZ x] _ (by simp;omega) (by simp;omega) ?_ ?_ h ?_
 ·intro p hp
  simp only[kG,List.mem_cons,List.not_mem_nil,or_false] at hp;rcases hp with rfl | rfl | rfl
  ·refine .inr ⟨id,by simp,?_⟩
   rw[h1,jy];refine⟨rfl,?_⟩;simp only[mD,nZ,oH,and_true,ou,rX];exact⟨.cl (aW _),.cl (jR _),.cl (jG _),.cl (aW _),.cl (jR _),.cl (jG _),by simp,qW (by simp) (Bt _)⟩
  ·exact .inr ⟨il,by simp,by rw[h2];exact qD (Bt _)⟩
  ·exact .inr ⟨km,by simp,by rw[h3];exact Ae (Ag yV _ _)⟩
 ·exact .cons (.ptr _ _ _ _ (by simp)) (.cons (.cl (yV _)) .nil)
 ·rintro r1 S1 hn ⟨rfl,q1,q2,q3,q4⟩
  refine⟨_,_,hk,.cl (aW _),by simp[GJ,bT,q1],fun i k hi=>?_⟩;simp only[GJ,aL] at hi;by_cases e4:i=S.n
  ·rw[if_pos e4] at hi
   refine .inr ⟨3,.inr ⟨by omega,by omega⟩,?_⟩;rw[←hi,q3,jy];exact⟨rfl,.cl (Bt _)⟩
  rw[if_neg e4] at hi;by_cases ec:i=km
  ·rw[if_pos ec] at hi
   refine .inr ⟨2,.inl ⟨by omega,by simp[ec]⟩,?_⟩;rw[←hi,q4];exact Ae (Ag yV _ _)
  rw[if_neg ec] at hi;by_cases eb:i=il
  ·rw[if_pos eb] at hi;cases hi
  rw[if_neg eb] at hi;by_cases ea:i=id
  ·rw[if_pos ea] at hi
   refine .inr ⟨0,.inl ⟨by omega,by simp[ea]⟩,?_⟩;rw[←hi,q2,jy];refine⟨rfl,?_⟩;simp only[mD,nZ,oH,and_true,ou,rW,rX];exact⟨.cl (aW _),.cl (jR _),.cl (jG _),.cl (aW _),.cl (jR _),.cl (jG _),.inl ⟨by omega,by simp⟩,.inr ⟨by omega,by omega⟩⟩
  ·rw[if_neg ea] at hi
   refine .inl ⟨?_,hi⟩;simp;omega
theorem Zmt{P:Program}(hm:P.follows .mixedOrders=true){f:FuncId}(h:Is P f PE [4] 2)(b a:aC)(o:Bool)(ss:List (Int×Int))(ho:o=true∨ss=[])(hl:ss.length≤100000)(x:Int×Int):JE P f b a o ss x:=by
 refine h.wM hm rfl ?_;have ok1:bY 16 ss.length 1:=by unfold bY;omega
 have aa9:=fun(aA:Nat) (S:St) (hg:S.g 2=some (.map (gK bZ 0 ss)))=>Ztl (x:=x) (aA:=aA) R5 trivial (fun _ _=>trivial) hg
 have AZ:=fun(aA:Nat) (S:St) (hg:S.g 2=some (.map (gK bZ 0 ss)))=>Yi (x:=x) (aA:=aA) R5 trivial (fun _ _=>trivial) hg
 have hax:AV.agg [.v (.int .i64 x.1),.v (.int .i64 x.2)]=bZ x:=rfl;by_cases hin:x∈ss
 ·have ho':o=true:=by
   rcases ho with h | h
   ·exact h
   ·subst h;simp at hin
  subst ho';simp only[hin,if_true,decide_true] at aa9 AZ;rw[Db,Ep,if_pos hin,if_pos hin];simp[PE,kG,mD,kg,hax,AZ];refine⟨jm [(4,.v (.int .i64 (@List.idxOf _ instBEqOfDecidableEq x ss:Int)))],⟨10,bn (kG b a true ss 0 3 2++[])⟩,aX.of [(0,0),(2,2),(3,1)] [] (by omega) ⟨by simp,by simp⟩ ?_ ?_,by simp[jm],.of⟩
  ·simp[kG,mD,DJ,Bt]
  ·simp
 ·have hmT:=fun(aA:Nat) (S:St) (hg:S.g 2=some (.map (gK bZ 0 ss)))=>Ztr (x:=x) (aA:=aA) R5 trivial (fun _ _=>trivial) hin hg
  simp only[hin,if_false,decide_false] at aa9 AZ;have hm0:=fun(aA:Nat) (S:St) (hg:S.g 2=some (.map (gK bZ 0 ss)))=>RO (x:=x) (aA:=aA) R5 trivial (fun _ _=>trivial) hin hg
  rw[Db,Ep,if_neg hin,if_neg hin];simp[PE,kG,mD,ok1,kg,hax,AZ,hm0];refine⟨jm [(4,ah ss.length)],⟨10,bn (kG b a true (ss++[x]) 0 3 2++[])⟩,aX.of [(0,0),(2,2),(3,38)] [] (by omega) ⟨by simp,by simp⟩ ?_ ?_,by simp[jm,ah],.of⟩
  ·simp[kG,mD,DJ,Bt,yV]
  ·simp
def ZhP(Il KO:FuncId):AC:= (.block 2 (.loop (sq [ro 77 (.bin .lss (.t 76) (.t 75))] (.seq (.cond (.t 77) .skip (.exit 2)) (.seq (.block 3 (sq [rm 78 76,rm 13 78] (sq [rm 79 12,rm 80 13,rm 81 8,rm 82 8,ro 83 (.load (some 2) (.t 11)),rm 84 13,ro 85 (.bin .quo (.t 84) (ci 2)),rm 86 13,ro 87 (.bin .and (.t 86) (ci 1)),ro 88 (.bin .eql (.t 87) (ci 1)),rk 89 KO [(.t 82),(.t 83),(.t 85),(.t 88)],rk 90 Il [(.t 81),(.t 89)],ro 91 (.aM 1 (.t 79) (.t 80)),rn (.store 1 (.t 91) (.t 90))] (sq [rm 92 8,ro 93 (.fO (.t 92)),rF 94 7 93,rL 95 94,ro 96 (.len (.t 95)),rm 97 2,ro 98 (.bin .gtr (.t 96) (.t 97))] (.cond (.t 98) (sq [ro 99 (.build (.agg [(.v (.int .i64 0)),(.sl true []),(.sl true [])]) [] []),rn (.store 3 (.t 6) (.t 99)),ro 7 (.mv (ci 13))] .ret) .skip))))) (.reg none [ro 100 (.bin .add (.t 76) (ci 1)),rm 76 100]))))))
def Wm:AC:= (.reg (some [[],[],[],[],[],[true],[false,true],[false,false,true],[false,false,false,true],[false,false,false,false,true],[],[],[],[],[],[],[],[],[],[],[true]]) [rF 101 1 9,rL 102 101,rm 103 12,ro 104 (.dH 1 1 (.sl true []) [(0,(.t 103))]),ro 105 (.app 1 24 (.t 102) (.t 104)),rF 106 2 9,rL 107 106,rF 108 0 11,rL 109 108,ro 110 (.bin .eql (.t 109) (ci 2)),rm 111 110,rg 112 111 true (.cu 2 (.t 4)),rg 113 111 true (.load none (.t 112)),rg 114 111 true (.cu 1 (.t 11)),rg 115 111 true (.load none (.t 114)),rg 116 111 true (.aM 1 (.t 113) (.t 115)),rg 117 111 true (.load none (.t 116)),ro 118 (.pick (.t 111) (.t 117) (.c (.v (.bool false)))),ro 119 (.dH 1 1 (.v (.bool false)) [(0,(.t 118))]),ro 120 (.app 1 1 (.t 107) (.t 119)),rF 121 1 9,rn (.store 1 (.t 121) (.t 105)),rF 122 2 9,rn (.store 1 (.t 122) (.t 120))])
def ZhO(Il KO:FuncId):AC:= (.block 0 (.loop (.seq (sq [rm 55 10,rm 56 8,ro 57 (.fO (.t 56)),rF 58 7 57,rL 59 58,ro 60 (.len (.t 59)),ro 61 (.bin .lss (.t 55) (.t 60))] (.cond (.t 61) .skip (.exit 0))) (.seq (.block 1 (sq [rm 64 8,ro 65 (.fO (.t 64)),rF 66 7 65,rL 67 66,rm 68 10,ro 69 (.aM 2 (.t 67) (.t 68)),ro 70 (.load (some 2) (.t 69)),ro 11 (.alloc (.agg [(.v (.int .i64 0)),(.v (.int .i64 0))]) 2),rn (.store 2 (.t 11) (.t 70))] (sq [rF 71 0 9,rL 72 71,ro 73 (.zL 1 8 (.v (.int .i64 0)) (.t 72) (.t 72)),rm 12 73] (.seq (sq [rm 74 12,ro 75 (.len (.t 74)),ro 76 (.mv (ci 0))] (ZhP Il KO)) Wm)))) (.reg none [rm 62 10,ro 63 (.bin .add (.t 62) (ci 1)),rm 10 63])))))
def ZhN:AC:= (sq [ro 123 (.load (some 3) (.t 9)),rn (.store 3 (.t 6) (.t 123)),ro 7 (.mv (ci 0))] .ret)
def Wj(Dx Il KO:FuncId):AC:= (sq [ro 3 (.box 3 (.t 0)),ro 4 (.box 3 (.t 1)),ro 6 (.alloc (.agg [(.v (.int .i64 0)),(.sl true []),(.sl true [])]) 3),ro 7 (.mv (ci 0))] (.seq (sq [ro 14 (.load (some 3) (.t 3)),rk 15 Dx [(.t 14)],ro 16 (.un .not (.t 15)),rm 17 16,rg 18 17 false (.load (some 3) (.t 4)),rl 19 17 false Dx [(.t 18)],rg 20 17 false (.un .not (.t 19)),ro 21 (.pick (.t 17) (.c (.v (.bool true))) (.t 20)),rm 22 21,rg 23 22 false (.cu 0 (.t 3)),rg 24 22 false (.load none (.t 23)),rg 25 22 false (.cu 0 (.t 4)),rg 26 22 false (.load none (.t 25)),rg 27 22 false (.bin .neq (.t 24) (.t 26)),ro 28 (.pick (.t 22) (.c (.v (.bool true))) (.t 27)),rm 29 28,rg 30 29 false (.cu 0 (.t 3)),rg 31 29 false (.load none (.t 30)),rg 32 29 false (.bin .gtr (.t 31) (ci 200)),ro 33 (.pick (.t 29) (.c (.v (.bool true))) (.t 32)),rm 34 33,rg 35 34 false (.mv (.t 2)),rg 36 34 false (.bin .lss (.t 35) (ci 1)),ro 37 (.pick (.t 34) (.c (.v (.bool true))) (.t 36)),rm 38 37,rg 39 38 false (.mv (.t 2)),rg 40 38 false (.bin .gtr (.t 39) (ci 3000)),ro 41 (.pick (.t 38) (.c (.v (.bool true))) (.t 40))] (.cond (.t 41) (sq [ro 42 (.build (.agg [(.v (.int .i64 0)),(.sl true []),(.sl true [])]) [] []),rn (.store 3 (.t 6) (.t 42)),ro 7 (.mv (ci 1))] .ret) .skip)) (sq [ro 43 (.load (some 3) (.t 3)),ro 44 (.load (some 3) (.t 4)),ro 45 (.EK),ro 46 (.build (.agg [(.v (.int .i64 0)),(.sl true []),(.sl true []),(.v (.int .i64 0)),(.sl true []),(.sl true []),(.v (.map none)),(.sl true [])]) [(0,3),(3,3),(6,1)] [(0,(.t 43)),(1,(.t 44)),(2,(.t 45))]),ro 47 (.box 8 (.t 46)),rm 8 47] (sq [rm 48 8,ro 49 (.build (.agg [(.v (.int .i64 0)),(.v (.int .i64 0))]) [] []),rk 50 Il [(.t 48),(.t 49)]] (sq [rF 51 0 3,rL 52 51,ro 53 (.bin .mul (ci 2) (.t 52)),ro 54 (.build (.agg [(.v (.int .i64 0)),(.sl true []),(.sl true [])]) [(0,1)] [(0,(.t 53))]),ro 9 (.alloc (.agg [(.v (.int .i64 0)),(.sl true []),(.sl true [])]) 3),rn (.store 3 (.t 9) (.t 54))] (.seq (sq [ro 10 (.mv (ci 0))] (ZhO Il KO)) ZhN))))))
abbrev Ya:=u6 (Int×Int)×(Bool×Bool)
section
variable(b a:aC)(most:Int)(n:Nat)
def yx(i:Nat):List (Nat×AV):=[(2,ah most),(3,.ptr 0 0 0),(4,.ptr 1 0 0),(6,.ptr 2 0 0),(8,.ptr 3 0 0),(9,.ptr 6 0 0),(10,ah i)]
def yA(ss:List (Int×Int))(nx:List (List Int))(en:List Bool)(oN oE:Bool):List (Nat×Option aB):=
 [(0,some (.arr 3 [aR b])),(1,some (.arr 3 [aR a])),(2,some (.arr 3 [lM])),(3,some (.arr 8 [mD b a 5 (.own 4 0 ss.length)])),(4,some (.arr 2 (ss.map bZ))),(5,some (.map (gK bZ 0 ss))),
  (6,some (.arr 3 [.agg [.v (.int .i64 n),vV oN 7 (nx.map aj),vV oE 8 (en.map aD)]])),(7,vB oN 1 (nx.map aj)),(8,vB oE 1 (en.map aD))]
def Zvp(i:Nat)(s:Ya):Prop:=nY (qU b a) most i=some s.1∧∀m,m < i→∀nP,nY (qU b a) most m=some nP→m≠nP.1.length
def Jv(i:Nat)(s:Ya):List (Nat×AV):=yx most i
def Jw(_:Nat)(s:Ya):List (Nat×Option aB):=yA b a n s.1.1 s.1.2.1 s.1.2.2 s.2.1 s.2.2
def Zvq(x:Int×Int)(sK:List (Int×Int))(k:Nat)(s:List (Int×Int)×List Int):Prop:=
 wE most (nD b a x) k sK=some (s.1,s.2.take k)∧s.2.length=n∧∀j (h:j < sK.length),s.1[j]? = some sK[j]
def Gp(i:Nat)(k:Nat)(s:List (Int×Int)×List Int):List (Nat×AV):=(11,.ptr 9 0 0)::(12,.own 10 0 n)::(75,ah n)::(76,ah k)::yx most i
def Gq(x:Int×Int)(nx:List (List Int))(en:List Bool)(oN oE:Bool)(_:Nat)(s:List (Int×Int)×List Int):List (Nat×Option aB):=
 (9,some (.arr 2 [bZ x]))::(10,some (.arr 1 (s.2.map ah)))::yA b a n s.1 nx en oN oE
theorem ZcS{gF:Nat→Option aB}{R:Nat→Nat→Prop}(fB:List Int)(k:Nat)(v:Int):gL gF R ((List.map ah fB).set k (.v (.int .i64 v))) ((List.map ah fB).set k (.v (.int .i64 v))):=by
 have:(List.map ah fB).set k (.v (.int .i64 v))=List.map ah (fB.set k v):=by rw[List.map_set];rfl
 rw[this];exact gL.cl (jM _)
theorem Zdz(l:List Int)(k:Nat)(v:Int)(h:k < l.length):(l.set k v).take (k+1)=l.take k++[v]:=by
 rw[List.take_succ_eq_append_getElem (by simpa using h),List.take_set_of_le (Nat.le_refl _)];simp
theorem Zt6{g:Nat→Option aB}{b a:aC}{km:Nat}{lv:AV}(h:g 3=some (.arr 8 [mD b a km lv])):Fz g (.ptr 3 0 0) (zM b a):=
 .pre 3 8 [ah b.signs,aU b.next,bA b.fin,ah a.signs,aU a.next,bA a.fin] [.mp km,lv] h (aG (aW _) (aG (jR _) (aG (jG _) (aG (aW _) (aG (jR _) (aG (jG _) aQ))))))
end
theorem ZoP(p:Int×Int):xO (bZ p):=.agg _ fun y hy=>by simp at hy;rcases hy with rfl | rfl<;>exact .v _
theorem Zqm{k:Nat}(h:k≤1000):(IntKind.i64.wrap ((k % 2 ^ IntKind.i64.bits &&& 1 % 2 ^ IntKind.i64.bits:Nat):Int) == 1)=decide (k % 2=1):=by
 have e1:k % 2 ^ IntKind.i64.bits=k:=Nat.mod_eq_of_lt (by show k < 2 ^ 64;omega);have e2:1 % 2 ^ IntKind.i64.bits=1:=rfl;rw[e1,e2,Nat.and_one_is_mod,bE _ (by omega)];by_cases h:k % 2=1
 ·simp[h]
 ·have h0:k % 2=0:=by omega
  simp[h0]
theorem Zh8{P:Program}{fr uI fb:FuncId}(b a:aC)(most:Int)(hrb:aJ P fr [aR b] (aD (fK b)))(hra:aJ P fr [aR a] (aD (fK a)))
  (hn:∀o ss x,(o=true∨ss=[])→ss.length≤100000→JE P uI b a o ss x)
  (hb:dP b→dP a→b.signs=a.signs→∀x (s:Nat),vM b a x→s < (2*b.signs).toNat→aJ P fb [zM b a,bZ x,ah (s / 2:Nat),aD (decide (s % 2=1))] (bZ (nD b a x s))) :
  bq P 0 (Wj fr uI fb) (bL [.c 6 (some 3),.t 7] (dM (jQ (kF b a most)))) (bF [aR b,aR a,ah most]) S0:=by
 simp[Wj];refine aN.pure hrb (aG (dZ b) aQ) (dY _) ?_;cases hRb:fK b with
 | false=>
  have hres:kF b a most=(⟨0,[],[]⟩,1):=by simp[kF,hRb]
  rw[hres];simp[bL,bP,RV.ev,eF,bV,jr,gJ];exact u7 _ 1
 | true=>
 simp;refine aN.pure hra (aG (dZ a) aQ) (dY _) ?_;cases Y0:fK a with
 | false=>
  have hres:kF b a most=(⟨0,[],[]⟩,1):=by simp[kF,Y0]
  rw[hres];simp[bL,bP,RV.ev,eF,bV,jr,gJ];exact u7 _ 1
 | true=>
 have Rb:=(uQ b).mp hRb;have Ra:=(uQ a).mp Y0;by_cases hsg:b.signs=a.signs;rotate_left
 ·have hres:kF b a most=(⟨0,[],[]⟩,1):=by rw[kF,if_neg (by simp[hsg])]
  have hne:(b.signs != a.signs)=true:=by simp[hsg]
  rw[hres];simp[hne,bL,bP,RV.ev,eF,bV,jr,gJ];exact u7 _ 1
 have hne:(b.signs != a.signs)=false:=by simp[hsg]
 by_cases h2:200 < b.signs
 ·have hres:kF b a most=(⟨0,[],[]⟩,1):=by rw[kF,if_neg (by omega)]
  rw[hres];simp[hne,h2,bL,bP,RV.ev,eF,bV,jr,gJ];exact u7 _ 1
 by_cases h1:most < 1
 ·have hres:kF b a most=(⟨0,[],[]⟩,1):=by rw[kF,if_neg (by omega)]
  rw[hres];simp[hne,h2,h1,bL,bP,RV.ev,eF,bV,jr,gJ];exact u7 _ 1
 by_cases h3:3000 < most
 ·have hres:kF b a most=(⟨0,[],[]⟩,1):=by rw[kF,if_neg (by omega)]
  rw[hres];simp[hne,h2,h1,h3,bL,bP,RV.ev,eF,bV,jr,gJ];exact u7 _ 1
 have hres:kF b a most=(match Gj (qU b a) most with | some st=>(⟨2*b.signs,st.2.1,st.2.2⟩,0) | none=>(⟨0,[],[]⟩,13)):=by rw[kF,if_pos ⟨hRb,Y0,hsg,by omega,by omega,by omega⟩];cases Gj (qU b a) most<;>rfl
 have hs1:=Rb.s1;obtain⟨n,hn2⟩:∃n:Nat,2*b.signs=(n:Int):=⟨(2*b.signs).toNat,by omega⟩;have Zj:IntKind.i64.wrap (2*b.signs)=(n:Int):=by rw[hn2];exact bE _ (by omega)
 have I:=ZvC Rb Ra hsg;have hb':=hb Rb Ra hsg;have aa0:(qU b a).sg=n:=by show(2*b.signs).toNat=n;omega
 have YX:(qU b a).b=nD b a:=rfl;simp[hne,h2,h1,h3,jr,gJ,Gd];refine JE.use (hn false [] (0,0) (.inr rfl) (by simp)) (id:=36) (il:=3) (km:=34) (by simp[mD,mF]) (by simp[oV]) (by simp[gK]) (by simp) (by simp) ?_;have hn0:Db [] (0,0)=[(0,0)]:=rfl;simp[GJ,hn0,Zj,jr,gJ,ZhN,ZhO];refine lg most.toNat (Zvp b a most) (Jv most) 10 (Jw b a n) (([(0,0)],[],[]),false,false) ⟨rfl,fun m hm=>by omega⟩ ?_ ?_
 ·refine aX.of [(0,0),(1,1),(2,2),(3,36),(4,41),(5,34),(6,52)] [] (by omega) ⟨by simp,by simp⟩ ?_ ?_
  ·simp[Jw,yA,lM,dZ,mD,DJ,yV]
  ·simp[Jv,yx,bZ]
 ·rintro i ⟨⟨ss,nx,fin⟩,oN,oE⟩ hi' ⟨heq,hmin⟩
  simp only at heq hmin;have ok:=ML I (by omega) i heq;have hle:=ok.le;have hsl:=ok.ss.l;simp only at hle hsl;by_cases hlt:i < ss.length
  ·obtain⟨x,hx⟩:∃x,ss[i]? = some x:=⟨_,List.getElem?_eq_getElem hlt⟩
   have hxe:ss[i]=x:=by rw[List.getElem?_eq_getElem hlt] at hx;exact Option.some.inj hx
   have Tw:vM b a x:=ok.ss.v x (by rw[←hxe];exact List.getElem_mem hlt);have Ki:nY (qU b a) most (i+1)=yN (qU b a) most i (ss,nx,fin):=by simp only[nY,heq]
   have hax:AV.agg [.v (.int .i64 x.1),.v (.int .i64 x.2)]=bZ x:=rfl;have lF:(i:Int) < (ss.length:Int):=by omega
   have hmk:8*(n:Int)≤281474976710656:=by omega
   have qQ:(n:Int)≤9223372036854775807:=by omega
   have EH:8*n≤281474976710656:=by omega
   have EI:n≤9223372036854775807:=by omega
   simp[Jv,yx,Jw,yA,mD,hlt,lF,hxe,ZhP,kg,sU,hmk,qQ];refine lg n (Zvq b a most n x ss) (Gp most n i) 11 (Gq b a n x nx fin oN oE) (ss,List.replicate n 0) ⟨rfl,by simp,fun j hj=>List.getElem?_eq_getElem hj⟩ ?_ ?_
   ·refine aX.of [(0,0),(1,1),(2,2),(3,3),(4,4),(5,5),(6,6),(7,7),(8,8),(9,24),(10,28)] [] (by omega) ⟨by simp,by simp⟩ ?_ ?_
    ·simp[Gq,yA,lM,dZ,mD,DJ,Bt,yV,hax]
    ·simp[Gp,yx]
   ·rintro k ⟨ss1,fB⟩ hk ⟨hrow,Km,hpre⟩
    simp only at hrow Km hpre;have hsx:∀s,s < n→s < (qU b a).sg:=fun s hs=>by omega
    obtain⟨hok,hlen1,hrl⟩:=Xq (V:=vM b a) (n:=n) (fun s hs=>I.next x s Tw (hsx s hs)) ok.ss k hk hrow;simp only at hok hlen1 hrl;have hl1:=hok.l;have hi1:i < ss1.length:=by omega
    by_cases hkl:k < n
    ·have Hq:(k:Int) < (n:Int):=by omega
     have hxn:=hb' x k Tw (by omega);have hvb:=I.next x k Tw (hsx k hkl)
     have hcn:=hn true ss1 (nD b a x k) (.inl rfl) (by omega);rw[YX] at hvb;generalize hto:nD b a x k=to at *;have hqq:((k / 2:Nat):Int)=(k:Int) / 2:=by omega
     have hq:IntKind.i64.wrap ((k:Int) / 2)=(k:Int) / 2:=by rw[←hqq];exact bE _ (by omega)
     have hand:=Zqm (k:=k) (by omega);rw[hqq] at hxn;simp[Gp,yx,Gq,yA,mD,Hq,hax,hq,hand];refine aN.looks hxn (dJ.cons (Zt6 (km:=5) (lv:=.own 4 0 ss1.length) (by simp[mD])) (dJ.cons (.closed _ (yV x)) (dJ.cons (.closed _ (aW _)) (dJ.cons (.closed _ (dY _)) dJ.nil)))) (ZoP _) ?_;simp;refine JE.use hcn (id:=3) (il:=4) (km:=5) (by simp[mD,dW]) (by simp[bN]) (by simp) (by simp) (by simp) ?_;have BU:k < fB.length:=by omega
     have hrwn:n≤fB.length:=by omega
     by_cases hin:to∈ss1
     ·have hnl:Db ss1 to=ss1:=by rw[Db,if_pos hin]
      have Tk:Ep ss1 to=(@List.idxOf _ instBEqOfDecidableEq to ss1:Int):=by rw[Ep,if_pos hin]
      have hnf:AJ most ss1 (nD b a x k)=some (ss1,(@List.idxOf _ instBEqOfDecidableEq to ss1:Int)):=by unfold AJ;rw[hto,if_pos hin]
      have hle2:¬most < (ss1.length:Int):=by omega
      simp[GJ,hnl,Tk,mD,kg,Hq,BU,hrwn,hle2];rw[bE ((k:Int)+1) (by omega)];refine⟨hkl,(ss1,fB.set k (@List.idxOf _ instBEqOfDecidableEq to ss1:Int)),⟨by rw[Zdz _ _ _ BU];simp only[wE,hrow,hnf],by simpa using Km,hpre⟩,aX.of [(0,0),(1,1),(2,2),(3,3),(4,28),(5,5),(6,6),(7,7),(8,8),(9,9),(10,10)] [] (by omega) ⟨by simp,by simp⟩ ?_ ?_⟩
      ·simp[Gq,yA,lM,dZ,mD,DJ,Bt,yV,ZcS]
      ·simp[Gp,yx]
     ·have hnl:Db ss1 to=ss1++[to]:=by rw[Db,if_neg hin]
      have Tk:Ep ss1 to=(ss1.length:Int):=by rw[Ep,if_neg hin]
      by_cases hfull:(ss1.length:Int)=most
      ·have hnf:AJ most ss1 (nD b a x k)=none:=by unfold AJ;rw[hto,if_neg hin,if_pos hfull]
       have hgt:most < (ss1.length:Int)+1:=by omega
       have hrn:wE most (nD b a x) n ss=none:=ZfW (k:=k+1) (by simp only[wE,hrow,hnf]) _ (by omega)
       have hnone:Gj (qU b a) most=none:=by
        refine Zig (most.toNat+1) 0 rfl i (Nat.zero_le _) (by rw[Ki];simp only[yN,hx,aa0,YX,hrn]) (fun m _ h2 nP uJ=>?_);by_cases nL:m=i
        ·subst nL
         rw[heq] at uJ;cases uJ;simp only;omega
        ·exact hmin m (by omega) nP uJ
       rw[hnone] at hres;simp only at hres;rw[hres];simp[GJ,hnl,Tk,mD,kg,Hq,BU,hrwn,hgt,bL,bP,RV.ev,eF,bV,jr,gJ,lM];exact u7 _ 13
      ·have hnf:AJ most ss1 (nD b a x k)=some (ss1++[to],(ss1.length:Int)):=by unfold AJ;rw[hto,if_neg hin,if_neg hfull]
       have hgt:¬most < (ss1.length:Int)+1:=by omega
       simp[GJ,hnl,Tk,mD,kg,Hq,BU,hrwn,hgt];rw[bE ((k:Int)+1) (by omega)];refine⟨hkl,(ss1++[to],fB.set k ss1.length),⟨by rw[Zdz _ _ _ BU];simp only[wE,hrow,hnf],by simpa using Km,fun a ha=>?_⟩,aX.of [(0,0),(1,1),(2,2),(3,3),(4,28),(5,5),(6,6),(7,7),(8,8),(9,9),(10,10)] [] (by omega) ⟨by simp,by simp⟩ ?_ ?_⟩
       ·have:=hpre a ha
        have hal:=(List.getElem?_eq_some_iff.mp this).1;simp only;rw[List.getElem?_append_left hal];exact this
       ·simp[Gq,yA,lM,dZ,mD,DJ,Bt,yV,ZcS]
       ·simp[Gp,yx]
    ·have hke:k=n:=by omega
     subst hke;have hrt:fB.take k=fB:=by rw[←Km,List.take_length]
     rw[hrt] at hrow;have hnx:=ok.nx;have hfn:=ok.en;simp only at hnx hfn;have Kk:bY 24 nx.length 1:=by unfold bY;omega
     have Kj:bY 1 fin.length 1:=by unfold bY;omega
     have hsr:yN (qU b a) most i (ss,nx,fin)=some (ss1,nx++[fB],fin++[wz a x]):=by simp only[yN,hx,aa0,YX,hrow];rfl
     obtain⟨v0,v1,v2,v3,v4,v5⟩:=Tw;by_cases h2x:x.1=2
     ·have hme:wz a x=dG a x.2.toNat:=by simp[wz,h2x]
      have haf:=Ra.fin;have Tt:x.2 < (a.fin.length:Int):=by have:=v4 h2x;omega
      obtain⟨hfi,Kh⟩:=ZpD (d:=a) x.2.toNat;simp[Gp,yx,Gq,yA,mD,Wm,Kk,Kj,h2x,v2,Tt,Kh];refine⟨by rintro j (⟨_,rfl⟩ | rfl)<;>simp,by rintro j (⟨_,rfl⟩ | rfl)<;>simp,?_⟩;rw[bE ((i:Int)+1) (by omega)];refine⟨by omega,((ss1,nx++[fB],fin++[wz a x]),true,true),⟨by rw[Ki,hsr],fun m hm nP uJ=>?_⟩,aX.of [(0,0),(1,1),(2,2),(3,3),(4,4),(5,5),(6,6),(7,16),(8,31)] [10] (by omega) ⟨by simp,by simp⟩ ?_ ?_⟩
      ·by_cases nL:m=i
       ·subst nL
        rw[heq] at uJ;cases uJ;simp only;omega
       ·exact hmin m (by omega) nP uJ
      ·simp[Jw,yA,lM,dZ,mD,DJ,Bt,hme,Km]
      ·simp[Jv,yx]
     ·have hme:wz a x=false:=by simp[wz,h2x]
      have aaq:(x.1 == 2)=false:=by simp[h2x]
      simp[Gp,yx,Gq,yA,mD,Wm,Kk,Kj,aaq];refine⟨by rintro j (⟨_,rfl⟩ | rfl)<;>simp,by rintro j (⟨_,rfl⟩ | rfl)<;>simp,?_⟩;rw[bE ((i:Int)+1) (by omega)];refine⟨by omega,((ss1,nx++[fB],fin++[wz a x]),true,true),⟨by rw[Ki,hsr],fun m hm nP uJ=>?_⟩,aX.of [(0,0),(1,1),(2,2),(3,3),(4,4),(5,5),(6,6),(7,16),(8,31)] [10] (by omega) ⟨by simp,by simp⟩ ?_ ?_⟩
      ·by_cases nL:m=i
       ·subst nL
        rw[heq] at uJ;cases uJ;simp only;omega
       ·exact hmin m (by omega) nP uJ
      ·simp[Jw,yA,lM,dZ,mD,DJ,Bt,hme,Km]
      ·simp[Jv,yx]
  ·have hie:i=ss.length:=by omega
   subst hie;have Di:Gj (qU b a) most=some (ss,nx,fin):=ZlQ I (by omega) (most.toNat+1) 0 rfl (by omega) ss.length (ss,nx,fin) (Nat.zero_le _) heq rfl (fun m _ h2=>hmin m h2);rw[Di] at hres;simp only at hres;rw[hres,hn2];simp[Jv,yx,Jw,yA,mD,kg,bL,bP,RV.ev,eF,bV,lM];refine .Fp (.cons (.Iy (.cons (.closed _ (.v _)) (.cons (wo ?_ (kU _)) (.cons (wo ?_ (jS _)) .nil)))) (.cons (.closed _ (.v _)) .nil))
   ·simp
   ·simp
end Go.Rf
namespace Go.Rf
open Go.RowKit
attribute [local simp] mW mV oF pG pJ pQ pK nA qy pO ow pq mK oz kD qw pY qO qL qK qE qN oO oL ql pR qz qG qF qA qo pU qm qI qH oK kT pI pV pW pz o7 eG iB iU iy iR iN iM iT iO gG iP fH iF iQ iE eT eU gD ig je jf gZ jk fU fQ fE eO gV gW gX gP gQ jg iV iH jc iX iZ iY jd jh iK iq gT gU gM iw dO eP gI iL ji ex aH fF dF eY cK dn aL bT fJ gH eZ gN iD iC iW iJ bS dN dV fZ fV gY fu bD pE ny dL eH qc o8 pX oh fC gB gq gy fM dA eX eB d9 bB qx oD oq qj o9 qg qh p9 kZ qd p8 qb S0 ah aD rA q9 rC om og qp rJ rz rH rP rG rO rE rM rD
def VE(P5t:FuncId):AC:= (sq [ro 4 (.box 4 (.t 0)),ro 8 (.alloc (.agg [(.v (.int .i64 0)),(.sl true []),(.sl true [])]) 3),ro 9 (.mv (ci 0))] (sq [ro 13 (.load (some 4) (.t 4)),rm 14 1,rk 15 P5t [(.t 13),(.t 14)],rm 12 15,ro 16 (.ext 0 (.t 12)),ro 17 (.ext 1 (.t 12)),ro 10 (.alloc (.agg [(.v (.int .i64 0)),(.sl true []),(.sl true []),(.sl true [])]) 4),rn (.store 4 (.t 10) (.t 16)),rm 11 17] (.seq (sq [rm 18 11,ro 19 (.bin .neq (.t 18) (ci 0))] (.cond (.t 19) (sq [ro 20 (.build (.agg [(.v (.int .i64 0)),(.sl true []),(.sl true [])]) [] []),rm 21 11,rn (.store 3 (.t 8) (.t 20)),rm 9 21] .ret) .skip)) (sq [rm 22 3,ro 23 (.load (some 4) (.t 10)),rm 24 2,⟨(some 25),.mv (.c .junk),none,(some ((.t 22),[(.t 23),(.t 24)]))⟩,ro 26 (.ext 0 (.t 25)),ro 27 (.ext 1 (.t 25)),rn (.store 3 (.t 8) (.t 26)),rm 9 27] .ret))))
def FD(P4b P51 P50 P5o U1:FuncId):AC:= (sq [ro 3 (.box 11 (.t 0)),ro 6 (.alloc (.agg [(.v (.int .i64 0)),(.sl true []),(.sl true [])]) 3),ro 7 (.mv (ci 0))] (.seq (sq [rm 12 1,ro 13 (.bin .lss (.t 12) (ci 1)),rm 14 13,rg 15 14 false (.mv (.t 1)),rg 16 14 false (.bin .gtr (.t 15) (ci 200)),ro 17 (.pick (.t 14) (.c (.v (.bool true))) (.t 16)),rm 18 17,rg 19 18 false (.mv (.t 2)),rg 20 18 false (.bin .lss (.t 19) (ci 1)),ro 21 (.pick (.t 18) (.c (.v (.bool true))) (.t 20)),rm 22 21,rg 23 22 false (.mv (.t 2)),rg 24 22 false (.bin .gtr (.t 23) (ci 3000)),ro 25 (.pick (.t 22) (.c (.v (.bool true))) (.t 24))] (.cond (.t 25) (sq [ro 26 (.build (.agg [(.v (.int .i64 0)),(.sl true []),(.sl true [])]) [] []),rn (.store 3 (.t 6) (.t 26)),ro 7 (.mv (ci 1))] .ret) .skip)) (sq [rF 28 2 3,ro 29 (.load (some 4) (.t 28)),rm 30 1,rm 31 2,rk 32 P4b [(.t 29),(.t 30),(.t 31),(.c (.aP P51 [] []))],rm 27 32,ro 33 (.ext 0 (.t 27)),ro 34 (.ext 1 (.t 27)),ro 8 (.alloc (.agg [(.v (.int .i64 0)),(.sl true []),(.sl true [])]) 3),rn (.store 3 (.t 8) (.t 33)),rm 9 34] (.seq (sq [rm 35 9,ro 36 (.bin .neq (.t 35) (ci 0))] (.cond (.t 36) (sq [ro 37 (.build (.agg [(.v (.int .i64 0)),(.sl true []),(.sl true [])]) [] []),rm 38 9,rn (.store 3 (.t 6) (.t 37)),rm 7 38] .ret) .skip)) (sq [rF 40 6 3,ro 41 (.load (some 4) (.t 40)),rm 42 1,rm 43 2,rk 44 P4b [(.t 41),(.t 42),(.t 43),(.c (.aP P50 [] []))],rm 39 44,ro 45 (.ext 0 (.t 39)),ro 46 (.ext 1 (.t 39)),ro 10 (.alloc (.agg [(.v (.int .i64 0)),(.sl true []),(.sl true [])]) 3),rn (.store 3 (.t 10) (.t 45)),rm 9 46] (.seq (sq [rm 47 9,ro 48 (.bin .neq (.t 47) (ci 0))] (.cond (.t 48) (sq [ro 49 (.build (.agg [(.v (.int .i64 0)),(.sl true []),(.sl true [])]) [] []),rm 50 9,rn (.store 3 (.t 6) (.t 49)),rm 7 50] .ret) .skip)) (sq [ro 52 (.load (some 3) (.t 8)),ro 53 (.load (some 3) (.t 10)),rm 54 2,rk 55 P5o [(.t 52),(.t 53),(.t 54)],rm 51 55,ro 56 (.ext 0 (.t 51)),ro 57 (.ext 1 (.t 51)),ro 11 (.alloc (.agg [(.v (.int .i64 0)),(.sl true []),(.sl true [])]) 3),rn (.store 3 (.t 11) (.t 56)),rm 9 57] (.seq (sq [rm 58 9,ro 59 (.bin .neq (.t 58) (ci 0))] (.cond (.t 59) (sq [ro 60 (.build (.agg [(.v (.int .i64 0)),(.sl true []),(.sl true [])]) [] []),rm 61 9,rn (.store 3 (.t 6) (.t 60)),rm 7 61] .ret) .skip)) (sq [ro 62 (.load (some 3) (.t 11)),rk 63 U1 [(.t 62)],ro 64 (.ext 0 (.t 63)),ro 65 (.ext 1 (.t 63)),rn (.store 3 (.t 6) (.t 64)),rm 7 65] .ret)))))))))
def Zar(Z7 P3h P3g P46 Uy:FuncId):AC:= (sq [ro 3 (.box 11 (.t 0)),ro 6 (.alloc (.agg [(.v (.int .i64 0)),(.sl true []),(.sl true [])]) 3),ro 7 (.mv (ci 0))] (.seq (sq [rm 14 1,ro 15 (.bin .lss (.t 14) (ci 1)),rm 16 15,rg 17 16 false (.mv (.t 1)),rg 18 16 false (.bin .gtr (.t 17) (ci 200)),ro 19 (.pick (.t 16) (.c (.v (.bool true))) (.t 18)),rm 20 19,rg 21 20 false (.mv (.t 2)),rg 22 20 false (.bin .lss (.t 21) (ci 1)),ro 23 (.pick (.t 20) (.c (.v (.bool true))) (.t 22)),rm 24 23,rg 25 24 false (.mv (.t 2)),rg 26 24 false (.bin .gtr (.t 25) (ci 3000)),ro 27 (.pick (.t 24) (.c (.v (.bool true))) (.t 26))] (.cond (.t 27) (sq [ro 28 (.build (.agg [(.v (.int .i64 0)),(.sl true []),(.sl true [])]) [] []),rn (.store 3 (.t 6) (.t 28)),ro 7 (.mv (ci 1))] .ret) .skip)) (sq [rF 30 2 3,ro 31 (.load (some 4) (.t 30)),rm 32 1,rk 33 Z7 [(.t 31),(.t 32)],rm 29 33,ro 34 (.ext 0 (.t 29)),ro 35 (.ext 1 (.t 29)),ro 8 (.alloc (.agg [(.v (.int .i64 0)),(.sl true []),(.sl true []),(.sl true [])]) 4),rn (.store 4 (.t 8) (.t 34)),rm 9 35] (.seq (sq [rm 36 9,ro 37 (.bin .neq (.t 36) (ci 0))] (.cond (.t 37) (sq [ro 38 (.build (.agg [(.v (.int .i64 0)),(.sl true []),(.sl true [])]) [] []),rm 39 9,rn (.store 3 (.t 6) (.t 38)),rm 7 39] .ret) .skip)) (sq [ro 41 (.load (some 4) (.t 8)),rm 42 2,rk 43 P3h [(.t 41),(.t 42)],rm 40 43,ro 44 (.ext 0 (.t 40)),ro 45 (.ext 1 (.t 40)),ro 10 (.alloc (.agg [(.v (.int .i64 0)),(.sl true []),(.sl true [])]) 3),rn (.store 3 (.t 10) (.t 44)),rm 9 45] (.seq (sq [rm 46 9,ro 47 (.bin .neq (.t 46) (ci 0))] (.cond (.t 47) (sq [ro 48 (.build (.agg [(.v (.int .i64 0)),(.sl true []),(.sl true [])]) [] []),rm 49 9,rn (.store 3 (.t 6) (.t 48)),rm 7 49] .ret) .skip)) (sq [rF 51 6 3,ro 52 (.load (some 4) (.t 51)),rm 53 1,rk 54 Z7 [(.t 52),(.t 53)],rm 50 54,ro 55 (.ext 0 (.t 50)),ro 56 (.ext 1 (.t 50)),ro 11 (.alloc (.agg [(.v (.int .i64 0)),(.sl true []),(.sl true []),(.sl true [])]) 4),rn (.store 4 (.t 11) (.t 55)),rm 9 56] (.seq (sq [rm 57 9,ro 58 (.bin .neq (.t 57) (ci 0))] (.cond (.t 58) (sq [ro 59 (.build (.agg [(.v (.int .i64 0)),(.sl true []),(.sl true [])]) [] []),rm 60 9,rn (.store 3 (.t 6) (.t 59)),rm 7 60] .ret) .skip)) (sq [ro 62 (.load (some 4) (.t 11)),rm 63 2,rk 64 P3g [(.t 62),(.t 63)],rm 61 64,ro 65 (.ext 0 (.t 61)),ro 66 (.ext 1 (.t 61)),ro 12 (.alloc (.agg [(.v (.int .i64 0)),(.sl true []),(.sl true [])]) 3),rn (.store 3 (.t 12) (.t 65)),rm 9 66] (.seq (sq [rm 67 9,ro 68 (.bin .neq (.t 67) (ci 0))] (.cond (.t 68) (sq [ro 69 (.build (.agg [(.v (.int .i64 0)),(.sl true []),(.sl true [])]) [] []),rm 70 9,rn (.store 3 (.t 6) (.t 69)),rm 7 70] .ret) .skip)) (sq [ro 72 (.load (some 3) (.t 10)),ro 73 (.load (some 3) (.t 12)),rm 74 2,rk 75 P46 [(.t 72),(.t 73),(.t 74)],rm 71 75,ro 76 (.ext 0 (.t 71)),ro 77 (.ext 1 (.t 71)),ro 13 (.alloc (.agg [(.v (.int .i64 0)),(.sl true []),(.sl true [])]) 3),rn (.store 3 (.t 13) (.t 76)),rm 9 77] (.seq (sq [rm 78 9,ro 79 (.bin .neq (.t 78) (ci 0))] (.cond (.t 79) (sq [ro 80 (.build (.agg [(.v (.int .i64 0)),(.sl true []),(.sl true [])]) [] []),rm 81 9,rn (.store 3 (.t 6) (.t 80)),rm 7 81] .ret) .skip)) (sq [ro 82 (.load (some 3) (.t 13)),rk 83 Uy [(.t 82)],ro 84 (.ext 0 (.t 83)),ro 85 (.ext 1 (.t 83)),rn (.store 3 (.t 6) (.t 84)),rm 7 85] .ret)))))))))))))
def Dn:aC:=⟨0,[],[]⟩
def kH(kd:Kd)(p:aF)(sg most:Int):aC×Int:=if (qB p sg).2=0 then lK kd (qB p sg).1 most else (Dn,(qB p sg).2)
def BF(x:aC×Int)(f:aC→aC×Int):aC×Int:=if x.2=0 then f x.1 else (Dn,x.2)
def vk(r:lN)(sg most:Int):aC×Int:=
 if sg < 1∨200 < sg∨most < 1∨3000 < most then (Dn,1) else
  BF (kH .tails r.before sg most) fun b=>BF (kH .heads r.after sg most) fun a=>BF (kF b a most) oQ
theorem Zg2{P:Program}{fn fk:FuncId}(p:aF)(sg most:Int)(kd:Kd)(hn:aJ P fn [cB p,ah sg] (Ej (qB p sg)))
  (hk:aJ P fk [jA (qB p sg).1,ah most] (jQ (lK kd (qB p sg).1 most))) :
  bq P 0 (VE fn) (bL [.c 8 (some 3),.t 9] (dM (jQ (kH kd p sg most)))) (bF [cB p,ah sg,ah most,.aP fk [] []]) S0:=by
 unfold kH;have hcp:=pF p;have hcn:=Zle (qB p sg);obtain⟨pk,ps,pg,EO⟩:=p;have hpp:AV.agg [.v (.int .i64 pk),Bz ps,aj pg,.sl false (EO.map cB)]=cB (.mk pk ps pg EO):=by rw[cO];rfl
 have hpc:(cB (.mk pk ps pg EO)).cells=[.v (.int .i64 pk),Bz ps,aj pg,.sl false (EO.map cB)]:=by rw[cO];rfl
 have hps:(cB (.mk pk ps pg EO)).solid=true:=by rw[cO];rfl
 generalize qB (.mk pk ps pg EO) sg=ne at *;obtain⟨n,e⟩:=ne;simp only[Ej] at hn hcn;simp only at hk;simp[VE,hpp,hpc,hps];refine aN.pure hn (aG hcp (aG (aW _) aQ)) hcn ?_;have ec:(jA n).cells=[ah n.signs,aU n.au,aU n.follow,aj n.last]:=rfl;have es:(jA n).solid=true:=rfl;have hae:AV.agg [.v (.int .i64 n.signs),aU n.au,aU n.follow,aj n.last]=jA n:=rfl;by_cases h0:e=0
 ·subst h0
  have hcd:=Bn (lK kd n most);generalize lK kd n most=r at *;obtain⟨d,f⟩:=r;simp only[jQ] at hk hcd;simp[bD,ec,es,hae];refine aN.pure hk (aG (Cm n) (aG (aW _) aQ)) hcd ?_;simp[bL,bP,RV.ev,eF,bV];exact .closed _ hcd
 ·have h0':(e != 0)=true:=by simp[h0]
  simp[bD,ec,es,h0,h0',bL,bP,RV.ev,eF,bV,jr,gJ];exact u7 _ _
theorem PY{num:Int}{cut:Bool}{b a:aF}{pos:Int}{bk:Int}{bs:List Rg}{bg:List Int}{J7:List aF}{ak:Int}{J6:List Rg}{ag:List Int}{J4:List aF}(hb:b=.mk bk bs bg J7)(ha:a=.mk ak J6 ag J4) :
  mq ⟨num,cut,b,a,pos⟩=.agg [.v (.int .i64 num),.v (.bool cut),.v (.int .i64 bk),Bz bs,aj bg,.sl false (J7.map cB),.v (.int .i64 ak),Bz J6,aj ag,.sl false (J4.map cB),.v (.int .i64 pos)]:=by
 subst hb;subst ha;unfold mq;simp[cO,AV.cells,ah,aD]
theorem DW(p:aF):∃k s g ks,p=.mk k s g ks∧AV.agg [.v (.int .i64 k),Bz s,aj g,.sl false (ks.map cB)]=cB p:=by
 obtain⟨k,s,g,ks⟩:=p;exact⟨k,s,g,ks,rfl,by rw[cO];rfl⟩
theorem ZfD{P:Program}{fs ft fh fm fl:FuncId}(r:lN)(sg most:Int)
  (h1:aJ P fs [cB r.before,ah sg,ah most,.aP ft [] []] (jQ (kH .tails r.before sg most)))
  (h2:aJ P fs [cB r.after,ah sg,ah most,.aP fh [] []] (jQ (kH .heads r.after sg most)))
  (h3:(kH .tails r.before sg most).2=0→(kH .heads r.after sg most).2=0→aJ P fm [aR (kH .tails r.before sg most).1,aR (kH .heads r.after sg most).1,ah most] (jQ (kF (kH .tails r.before sg most).1 (kH .heads r.after sg most).1 most)))
  (h4:(kH .tails r.before sg most).2=0→(kH .heads r.after sg most).2=0→(kF (kH .tails r.before sg most).1 (kH .heads r.after sg most).1 most).2=0→
   aJ P fl [aR (kF (kH .tails r.before sg most).1 (kH .heads r.after sg most).1 most).1] (jQ (oQ (kF (kH .tails r.before sg most).1 (kH .heads r.after sg most).1 most).1))) :
  bq P 0 (FD fs ft fh fm fl) (bL [.c 6 (some 3),.t 7] (dM (jQ (vk r sg most)))) (bF [mq r,ah sg,ah most]) S0:=by
 obtain⟨num,cut,b,a,pos⟩:=r;simp only at h1 h2 h3 h4;obtain⟨bk,bs,bg,J7,hb,hpb⟩:=DW b;obtain⟨ak,J6,ag,J4,ha,hpa⟩:=DW a;have hcl:=PY (num:=num) (cut:=cut) (pos:=pos) hb ha;have hcb:=pF b;have hca:=pF a;unfold vk;rw[hcl];by_cases g1:sg < 1
 ·rw[if_pos (.inl g1)]
  simp[FD,g1,bL,bP,RV.ev,eF,bV,jr,gJ,bD];exact u7 _ _
 by_cases g2:200 < sg
 ·rw[if_pos (.inr (.inl g2))]
  simp[FD,g1,g2,bL,bP,RV.ev,eF,bV,jr,gJ,bD];exact u7 _ _
 by_cases g3:most < 1
 ·rw[if_pos (.inr (.inr (.inl g3)))]
  simp[FD,g1,g2,g3,bL,bP,RV.ev,eF,bV,jr,gJ,bD];exact u7 _ _
 by_cases g4:3000 < most
 ·rw[if_pos (.inr (.inr (.inr g4)))]
  simp[FD,g1,g2,g3,g4,bL,bP,RV.ev,eF,bV,jr,gJ,bD];exact u7 _ _
 rw[if_neg (by omega)];have k1:=Bn (kH .tails b sg most);have k2:=Bn (kH .heads a sg most);generalize kH .tails b sg most=x at *;generalize kH .heads a sg most=y at *;obtain⟨xd,xe⟩:=x;obtain⟨yd,ye⟩:=y;simp only[jQ] at h1 h2 k1 k2;simp only at h3 h4;unfold BF;simp only;simp[FD,g1,g2,g3,g4,bD,hpb];refine aN.pure h1 (aG hcb (aG (aW _) (aG (aW _) (aG (.aP _ _ _ aQ aQ) aQ)))) k1 ?_;by_cases hx:xe=0;rotate_left
 ·rw[if_neg hx]
  have NM:(xe != 0)=true:=by simp[hx]
  simp[NM,bL,bP,RV.ev,eF,bV,jr,gJ,bD];exact u7 _ _
 subst hx;rw[if_pos rfl];simp[bD,hpa];refine aN.pure h2 (aG hca (aG (aW _) (aG (aW _) (aG (.aP _ _ _ aQ aQ) aQ)))) k2 ?_;by_cases hy:ye=0;rotate_left
 ·rw[if_neg hy]
  have NM:(ye != 0)=true:=by simp[hy]
  simp[NM,bL,bP,RV.ev,eF,bV,jr,gJ,bD];exact u7 _ _
 subst hy;rw[if_pos rfl];have h3:=h3 (by trivial) (by trivial);have h4:=h4 (by trivial) (by trivial);have k3:=Bn (kF xd yd most);generalize kF xd yd most=z at *;obtain⟨zd,ze⟩:=z;simp only[jQ] at h3 k3;simp only at h4;simp only;simp[bD];refine aN.pure h3 (aG (dZ _) (aG (dZ _) (aG (aW _) aQ))) k3 ?_;by_cases hz:ze=0;rotate_left
 ·rw[if_neg hz]
  have NM:(ze != 0)=true:=by simp[hz]
  simp[NM,bL,bP,RV.ev,eF,bV,jr,gJ,bD];exact u7 _ _
 subst hz;rw[if_pos rfl];have h4:=h4 rfl;have k4:=Bn (oQ zd);generalize oQ zd=w at *;obtain⟨wd,we⟩:=w;simp only[jQ] at h4 k4;simp[bD];refine aN.pure h4 (aG (dZ _) aQ) k4 ?_;simp[bL,bP,RV.ev,eF,bV,jQ];exact .closed _ k4
end Go.Rf
namespace Go.Rf
open Go.RowKit
theorem ZrZ{n:Int}{u:List Int}(hu:rU n u):BZ n u=jX u:=by
 funext g a b;apply propext;unfold BZ jX;constructor
 ·rintro⟨h1,h2,h3,h4⟩;exact⟨h1,h2,h3,(Ziq.mp h4).1⟩
 ·rintro⟨h1,h2,h3,h4⟩
  refine⟨h1,h2,h3,Ziq.mpr ⟨h4,?_⟩⟩;have hlt:a.toNat < u.length:=by omega
  have:u.getD a.toNat 0=u[a.toNat]:=by simp[List.getD_eq_getElem?_getD,hlt]
  rw[this];exact hu _ (List.getElem_mem hlt)
theorem Zhx{p:aF}{n:Int}(h1:1≤n)(h2:n≤400)(hc:jE p≤300){u:List Int}(hu:rU n u):zq (jT p n) u=jU p u 0 u.length:=by
 rw[Zrl h1 h2 hc]
 have:jU (Dh n p) u 0 u.length=true↔jU p u 0 u.length=true:=by
  rw[DU,DU,←Gl,ZrZ hu]
 cases e1:jU (Dh n p) u 0 u.length<;>cases e2:jU p u 0 u.length<;>simp_all
theorem ZfR{kd:Kd}{N:Net}{most:Int}{d:aC}(h:lK kd N most=(d,0)):mY N∧1≤most∧most≤3000∧∃st,y8 kd N most=some st∧d=⟨N.signs,st.2.1,st.2.2⟩:=by
 unfold lK at h;split at h
 ·rename_i hc
  refine⟨(Bh _).mp hc.1,hc.2.1,hc.2.2,?_⟩;split at h
  ·rename_i st hst
   cases h;exact⟨st,hst,rfl⟩
  ·cases h
 ·cases h
def Sr(p:aF)(u:List Int):Bool:=(List.range (u.length+1)).any fun i=>jU p u (i:Nat) u.length
def Sl(p:aF)(u:List Int):Bool:=(List.range (u.length+1)).any fun j=>jU p u 0 (j:Nat)
theorem Jd{a b:Bool}(h:a=true↔b=true):a=b:=by cases a<;>cases b<;>simp_all
theorem Zdv{p:aF}{n most:Int}{d:aC}(h1:1≤n)(h2:n≤200)(hc:jE p≤300)(h:lK .tails (jT p n) most=(d,0)) :
  dP d∧d.signs=n∧∀u,rU n u→uE d u=Sr p u:=by
 obtain⟨R,hm,hm2,st,hst,rfl⟩:=ZfR h;obtain⟨D,hacc⟩:=Zfb R hm hm2 hst;refine⟨D,rfl,fun u hu=>?_⟩;rw[hacc u hu,Znf ((Bh _).mpr R)];apply Jd;simp only[decide_eq_true_eq,L9,Sr,List.any_eq_true,List.mem_range,TM]
 have key:∀i,i≤u.length→zq (jT p n) (u.drop i)=jU p u (i:Nat) u.length:=fun i hi=>by
  rw[Zhx h1 (by omega) hc (hu.drop i)];have:=ZfB p u i u.length hi (Nat.le_refl _);rw[←this];have e1:(u.drop i).take (u.length - i)=u.drop i:=List.take_of_length_le (by simp);rw[e1,List.length_drop];congr 1;omega
 constructor
 ·rintro⟨k,hk,e⟩
  refine⟨u.length - k,by omega,?_⟩;rw[←key _ (by omega)];exact e
 ·rintro⟨i,hi,e⟩
  refine⟨u.length - i,by omega,?_⟩;have:u.length - (u.length - i)=i:=by omega
  rw[this,key _ (by omega)];exact e
theorem Zdu{p:aF}{n most:Int}{d:aC}(h1:1≤n)(h2:n≤200)(hc:jE p≤300)(h:lK .heads (jT p n) most=(d,0)) :
  dP d∧d.signs=n∧∀u,rU n u→uE d u=Sl p u:=by
 obtain⟨R,hm,hm2,st,hst,rfl⟩:=ZfR h;obtain⟨D,hacc⟩:=Zfb R hm hm2 hst;refine⟨D,rfl,fun u hu=>?_⟩;rw[hacc u hu,ZlU ((Bh _).mpr R)];apply Jd;simp only[decide_eq_true_eq,L9,Sl,List.any_eq_true,List.mem_range,xV]
 have key:∀j,j≤u.length→zq (jT p n) (u.take j)=jU p u 0 (j:Nat):=fun j hj=>by
  rw[Zhx h1 (by omega) hc (hu.take j)];have:=Qe p u 0 j (Nat.zero_le _) hj;rw[List.length_take,Nat.min_eq_left hj];exact this
 constructor
 ·rintro⟨k,hk,e⟩;exact⟨k,hk,by rw[←key _ (by omega)];exact e⟩
 ·rintro⟨k,hk,e⟩;exact⟨k,hk,by rw[key _ (by omega)];exact e⟩
def Sy(r:lN)(l:List Int)(p:Nat):Bool:=((List.range (p+1)).any fun i=>jU r.before l (i:Nat) (p:Nat)) && ((List.range (l.length+1)).any fun j=>jU r.after l (p:Nat) (j:Nat))
theorem Zrk{p:aF}{l:List Int}{a b:Int}(h:jU p l a b=true):0≤a∧a≤b∧b≤l.length:=by
 have h':=DU.mp h;have h1:=D9 (QS l) p a b h'.2.2;by_cases hb:(l.length:Int) < b
 ·rw[ZoA p l a b hb] at h;cases h
 ·exact⟨h'.1,h1,by omega⟩
theorem Zln(P:aF){l:List Int}{p:Nat}(hp:p≤l.length):Sr P (l.take p)=(List.range (p+1)).any fun i=>jU P l (i:Nat) (p:Nat):=by
 unfold Sr;rw[List.length_take,Nat.min_eq_left hp];apply Jd;simp only[List.any_eq_true,List.mem_range];constructor
 ·rintro⟨i,hi,e⟩;exact⟨i,hi,by rw[←Qe P l i p (by omega) hp];exact e⟩
 ·rintro⟨i,hi,e⟩;exact⟨i,hi,by rw[Qe P l i p (by omega) hp];exact e⟩
theorem ZkA(P:aF){l:List Int}{p:Nat}(hp:p≤l.length):Sl P (l.drop p)=(List.range (l.length+1)).any fun j=>jU P l (p:Nat) (j:Nat):=by
 unfold Sl;rw[List.length_drop];apply Jd;simp only[List.any_eq_true,List.mem_range]
 have key:∀j,j≤l.length - p→jU P (l.drop p) 0 (j:Nat)=jU P l (p:Nat) ((p+j:Nat):Int):=fun j hj=>by
  have e1:=ZfB P l p (p+j) (by omega) (by omega);have e2:=Qe P (l.drop p) 0 j (Nat.zero_le _) (by simp;omega);have e3:p+j - p=j:=by omega
  rw[e3] at e1;have e4:((p+j:Nat):Int) - (p:Nat)=(j:Nat):=by omega
  rw[e4] at e1;have e0:((0:Nat):Int)=0:=rfl;rw[e0] at e2;rw[←e2,e1]
 constructor
 ·rintro⟨j,hj,e⟩;exact⟨p+j,by omega,by rw[←key j (by omega)];exact e⟩
 ·rintro⟨j,hj,e⟩
  have:=Zrk e;refine⟨j - p,by omega,?_⟩;rw[key _ (by omega)];have:p+(j - p)=j:=by omega
  rw[this];exact e
theorem VU{x:aC×Int}{f:aC→aC×Int}{d:aC}(h:BF x f=(d,0)):x.2=0∧f x.1=(d,0):=by
 unfold BF at h;split at h
 ·rename_i hx;exact⟨hx,h⟩
 ·rename_i hx;simp only[Prod.mk.injEq] at h;exact(hx h.2).elim
theorem Zmg{x d:aC}(h:oQ x=(d,0)):dP x∧d=kV x:=by
 unfold oQ at h;split at h
 ·rename_i hr;simp only[Prod.mk.injEq] at h;exact⟨(uQ x).mp hr,h.1.symm⟩
 ·simp at h
theorem Zdt{kd:Kd}{p:aF}{n most:Int}{d:aC}(h:kH kd p n most=(d,0)):jE p≤300∧lK kd (jT p n) most=(d,0):=by
 unfold kH at h;split at h
 ·rename_i hn
  unfold qB at hn h;split at hn
  ·simp at hn
  ·rename_i h0
   rw[if_neg h0] at h;split at hn
   ·simp at hn
   ·rename_i h3
    rw[if_neg h3] at h;exact⟨Yl h3,h⟩
 ·rename_i hn;simp only[Prod.mk.injEq] at h;exact(hn h.2).elim
theorem VQ{r:lN}{n most:Int}{d:aC}(h:vk r n most=(d,0)):xM d n (Sy r)∧kV d=d∧(d.next.length:Int)≤most∧1≤n∧n≤200:=by
 unfold vk at h;split at h
 ·simp at h
 rename_i hg;have hn1:1≤n:=by omega
 have hn2:n≤200:=by omega
 obtain⟨hb,h⟩:=VU h;obtain⟨ha,h⟩:=VU h;obtain⟨hm,h⟩:=VU h;obtain⟨hR,rfl⟩:=Zmg h;generalize hx:kH .tails r.before n most=x at *;generalize hy:kH .heads r.after n most=y at *;obtain⟨xd,xe⟩:=x;obtain⟨yd,ye⟩:=y;simp only at hb ha hm hR ⊢;subst hb;subst ha;obtain⟨cb,hb⟩:=Zdt hx;obtain⟨ca,ha⟩:=Zdt hy;obtain⟨Rb,sb,accb⟩:=Zdv hn1 hn2 cb hb;obtain⟨Ra,sa,acca⟩:=Zdu hn1 hn2 ca ha;generalize hz:kF xd yd most=z at *;obtain⟨zd,ze⟩:=z;simp only at hm;subst hm;obtain⟨M,hl⟩:=Wu hz;rw[sb] at M
 have M2:xM zd n (Sy r):=M.congr fun l p hl h1 h2=>by
  rw[accb _ (hl.take p),acca _ (hl.drop p),Zln _ (by omega),ZkA _ (by omega)];rfl
 refine⟨M2.least,ZjE hR,?_,hn1,hn2⟩;have:=Zow hR;simp only at this hl ⊢;omega
def jH(a b:List Bool):List Bool:=List.zipWith (fun x y=>x || y) a b
def jV(f:List Bool→List Bool):Nat→List Bool×List Bool→List Bool×List Bool
 | 0,s=>s
 | n+1,s=>(f (jV f n s).1,jH (jV f n s).2 (f (jV f n s).1))
def yD(l g:List Int)(a:List Bool):List Bool:=false::List.zipWith (fun b x=>b && g.contains x) a l
mutual
def dx(l:List Int):aF→List Bool→List Bool
 | .mk k _ g ks,a=>if k=1 then a else if k=2 then yD l g a else if k=3 then wY l ks a else if k=4 then wH l ks a (List.replicate a.length false) else wX l ks k a
def wY(l:List Int):List aF→List Bool→List Bool
 | [],a=>a
 | q::qs,a=>wY l qs (dx l q a)
def wH(l:List Int):List aF→List Bool→List Bool→List Bool
 | [],_,out=>out
 | q::qs,a,out=>wH l qs a (jH out (dx l q a))
def wX(l:List Int):List aF→Int→List Bool→List Bool
 | [q],k,a=>if k=7 then jH (jH (List.replicate a.length false) a) (dx l q a)
  else if k=5 then (jV (fun x=>dx l q x) (l.length+1) (a,jH (List.replicate a.length false) a)).2
  else if k=6 then (jV (fun x=>dx l q x) (l.length+1) (a,List.replicate a.length false)).2
  else List.replicate a.length false
 | [],_,a=>List.replicate a.length false
 | _::_::_,_,a=>List.replicate a.length false
end
theorem xH{a b:List Bool}(h:a.length=b.length):(jH a b).length=a.length:=by simp[jH,h]
theorem D8{f:List Bool→List Bool}{n:Nat}(hf:∀a,a.length=n→(f a).length=n):∀(m:Nat) (s:List Bool×List Bool),s.1.length=n→s.2.length=n→(jV f m s).1.length=n∧(jV f m s).2.length=n
 | 0,s,h1,h2=>⟨h1,h2⟩
 | m+1,s,h1,h2=>by
  obtain⟨i1,i2⟩:=D8 hf m s h1 h2;have:=hf _ i1;exact⟨this,by simp only[jV];rw[xH (by rw[i2,this]),i2]⟩
theorem Ma{l g:List Int}{a:List Bool}(h:a.length=l.length+1):(yD l g a).length=l.length+1:=by simp[yD,h]
mutual
theorem rY(l:List Int):∀(p:aF) (a:List Bool),a.length=l.length+1→(dx l p a).length=l.length+1
 | .mk k s g ks,a,h=>by
  rw[dx];split
  ·exact h
  split
  ·exact Ma h
  split
  ·exact Xo l ks a h
  split
  ·exact QI l ks a _ h (by simp[h])
  ·exact Zr0 l ks k a h
theorem Xo(l:List Int):∀(ks:List aF) (a:List Bool),a.length=l.length+1→(wY l ks a).length=l.length+1
 | [],a,h=>h
 | q::qs,a,h=>by rw[wY];exact Xo l qs _ (rY l q a h)
theorem QI(l:List Int):∀(ks:List aF) (a out:List Bool),a.length=l.length+1→out.length=l.length+1→(wH l ks a out).length=l.length+1
 | [],a,out,h,h2=>h2
 | q::qs,a,out,h,h2=>by rw[wH];exact QI l qs a _ h (by rw[xH (by rw[h2,rY l q a h]),h2])
theorem Zr0(l:List Int):∀(ks:List aF) (k:Int) (a:List Bool),a.length=l.length+1→(wX l ks k a).length=l.length+1
 | [q],k,a,h=>by
  rw[wX];have hz:(List.replicate a.length false).length=l.length+1:=by simp[h]
  have hz2:(jH (List.replicate a.length false) a).length=l.length+1:=by rw[xH (by simp)];exact hz
  split
  ·rw[xH (by rw[hz2,rY l q a h])];exact hz2
  split
  ·exact(D8 (fun a h=>rY l q a h) _ _ h hz2).2
  split
  ·exact(D8 (fun a h=>rY l q a h) _ _ h hz).2
  ·exact hz
 | [],k,a,h=>by rw[wX];simp[h]
 | _::_::_,k,a,h=>by rw[wX];simp[h]
end
def mk(a:List Bool)(j:Int):Prop:=0≤j∧a.getD j.toNat false=true
theorem RL{a:List Bool}{j:Int}(h:mk a j):0≤j∧j < a.length:=by
 refine⟨h.1,?_⟩;by_cases hl:j.toNat < a.length
 ·omega
 ·have:=h.2
  rw[List.getD_eq_getElem?_getD,List.getElem?_eq_none (by omega)] at this;cases this
theorem RN{a b:List Bool}(h:a.length=b.length)(j:Int):mk (jH a b) j↔mk a j∨mk b j:=by
 unfold mk
 have key:∀i:Nat,(jH a b).getD i false=(a.getD i false || b.getD i false):=fun i=>by
  unfold jH;simp only[List.getD_eq_getElem?_getD,List.getElem?_zipWith];by_cases hi:i < a.length
  ·rw[List.getElem?_eq_getElem hi,List.getElem?_eq_getElem (by omega)];rfl
  ·rw[List.getElem?_eq_none (by omega),List.getElem?_eq_none (by omega)];rfl
 rw[key,Bool.or_eq_true];constructor
 ·rintro⟨h1,h2 | h2⟩
  ·exact .inl ⟨h1,h2⟩
  ·exact .inr ⟨h1,h2⟩
 ·rintro(⟨h1,h2⟩ | ⟨h1,h2⟩)
  ·exact⟨h1,.inl h2⟩
  ·exact⟨h1,.inr h2⟩
theorem JJ(n:Nat)(j:Int):¬mk (List.replicate n false) j:=by
 rintro⟨_,h⟩;simp only[List.getD_eq_getElem?_getD,List.getElem?_replicate] at h;split at h<;>cases h
theorem Ztp{l g:List Int}{a:List Bool}(h:a.length=l.length+1)(j:Int):mk (yD l g a) j↔∃i,mk a i∧jX l g i j:=by
 unfold yD jX;constructor
 ·rintro⟨h1,h2⟩
  obtain⟨m,hm⟩:∃m:Nat,j=m:=⟨j.toNat,by omega⟩;subst hm;rw[Int.toNat_natCast] at h2;cases m with
  | zero=>simp at h2
  | succ m=>
   simp only[List.getD_eq_getElem?_getD,List.getElem?_cons_succ,List.getElem?_zipWith] at h2;by_cases hi:m < l.length
   ·rw[List.getElem?_eq_getElem (l:=a) (i:=m) (by omega),List.getElem?_eq_getElem hi] at h2
    simp only[Option.getD_some,Bool.and_eq_true,List.contains_iff_mem] at h2;refine⟨m,⟨by omega,?_⟩,by omega,by omega,by omega,?_⟩
    ·rw[Int.toNat_natCast,List.getD_eq_getElem?_getD,List.getElem?_eq_getElem (by omega)];exact h2.1
    ·rw[Int.toNat_natCast,List.getD_eq_getElem?_getD,List.getElem?_eq_getElem hi];exact h2.2
   ·rw[List.getElem?_eq_none (l:=l) (by omega)] at h2
    cases a[m]?<;>simp at h2
 ·rintro⟨i,⟨h1,h2⟩,rfl,h3,h4,h5⟩
  obtain⟨m,hm⟩:∃m:Nat,i=m:=⟨i.toNat,by omega⟩;subst hm;have hi:m < l.length:=by omega
  rw[Int.toNat_natCast,List.getD_eq_getElem?_getD,List.getElem?_eq_getElem (by omega)] at h2;rw[Int.toNat_natCast,List.getD_eq_getElem?_getD,List.getElem?_eq_getElem hi] at h5;refine⟨by omega,?_⟩;have e:((m:Int)+1).toNat=m+1:=by omega
  rw[e];simp only[List.getD_eq_getElem?_getD,List.getElem?_cons_succ,List.getElem?_zipWith];rw[List.getElem?_eq_getElem (l:=a) (i:=m) (by omega),List.getElem?_eq_getElem hi];simp only[Option.getD_some,Bool.and_eq_true,List.contains_iff_mem];exact⟨h2,h5⟩
def yE(r:Int→Int→Prop):Nat→Int→Int→Prop
 | 0,i,j=>i=j
 | n+1,i,j=>∃m,yE r n i m∧r m j
theorem yE.aP{r:Int→Int→Prop}:∀(n:Nat) {i j:Int},yE r (n+1) i j→kC r i j
 | 0,i,j,⟨m,h1,h2⟩=>by cases h1;exact .one h2
 | n+1,i,j,⟨m,h1,h2⟩=>.more (yE.aP n h1) h2
theorem ZqH{r:Int→Int→Prop}(hr:∀a b,r a b→a≤b){i j:Int}(h:kC r i j):∃n:Nat,yE r (n+1) i j∧((n:Int)+1≤(j - i)∨n=0):=by
 induction h with
 | one h=>exact⟨0,⟨_,rfl,h⟩,.inr rfl⟩
 | @more b c h k ih=>
  obtain⟨n,h1,h2⟩:=ih;have hab:=MF hr h;have hbc:=hr _ _ k;by_cases hb:b=c
  ·subst hb;exact⟨n,h1,h2⟩
  ·by_cases ha:i=b
   ·subst ha;exact⟨0,⟨_,rfl,k⟩,.inr rfl⟩
   ·refine⟨n+1,⟨b,h1,k⟩,.inl ?_⟩
    rcases h2 with h2 | h2<;>omega
theorem Zth{f:List Bool→List Bool}{r:Int→Int→Prop}{N:Nat}(hl:∀a,a.length=N→(f a).length=N)(hf:∀a,a.length=N→∀j,mk (f a) j↔∃i,mk a i∧r i j){a out:List Bool}(ha:a.length=N)(ho:out.length=N):∀(n:Nat),
  (∀j,mk (jV f n (a,out)).1 j↔∃i,mk a i∧yE r n i j)∧(∀j,mk (jV f n (a,out)).2 j↔mk out j∨∃m:Nat,m < n∧∃i,mk a i∧yE r (m+1) i j)
 | 0=>⟨fun j=>⟨fun h=>⟨j,h,rfl⟩,fun⟨i,h,e⟩=>by cases e;exact h⟩,fun j=>⟨fun h=>.inl h,fun h=>by rcases h with h | ⟨m,h,_⟩;exact h;omega⟩⟩
 | n+1=>by
  obtain⟨i1,i2⟩:=Zth hl hf ha ho n;obtain⟨l1,l2⟩:=D8 hl n (a,out) ha ho
  have e1:∀j,mk (jV f (n+1) (a,out)).1 j↔∃i,mk a i∧yE r (n+1) i j:=fun j=>by
   simp only[jV];rw[hf _ l1];constructor
   ·rintro⟨m,h1,h2⟩
    obtain⟨i,h3,h4⟩:=(i1 m).mp h1;exact⟨i,h3,m,h4,h2⟩
   ·rintro⟨i,h3,m,h4,h2⟩
    exact⟨m,(i1 m).mpr ⟨i,h3,h4⟩,h2⟩
  refine⟨e1,fun j=>?_⟩;have e2:(jV f (n+1) (a,out)).2=jH (jV f n (a,out)).2 (jV f (n+1) (a,out)).1:=rfl;rw[e2,RN (by rw[l2];exact(hl _ l1).symm),i2,e1];constructor
  ·rintro((h | ⟨m,h1,h2⟩) | h)
   ·exact .inl h
   ·exact .inr ⟨m,by omega,h2⟩
   ·exact .inr ⟨n,by omega,h⟩
  ·rintro(h | ⟨m,h1,h2⟩)
   ·exact .inl (.inl h)
   ·by_cases hm:m=n
    ·subst hm;exact .inr h2
    ·exact .inl (.inr ⟨m,by omega,h2⟩)
mutual
theorem El(l:List Int):∀(p:aF) (a:List Bool),a.length=l.length+1→∀j,mk (dx l p a) j↔∃i,mk a i∧MR (jX l) p i j
 | .mk k s g ks,a,h,j=>by
  rw[dx];simp only[MR];by_cases h1:k=1
  ·simp only[h1,if_true]
   exact⟨fun h=>⟨j,h,rfl⟩,fun⟨i,h,e⟩=>by cases e;exact h⟩
  simp only[h1,if_false];by_cases h2:k=2
  ·simp only[h2,if_true]
   exact Ztp h j
  simp only[h2,if_false];by_cases h3:k=3
  ·simp only[h3,if_true]
   exact ZpH l ks a h j
  simp only[h3,if_false];by_cases h4:k=4
  ·simp only[h4,if_true]
   rw[ZpI l ks a _ h (by simp[h]) j];constructor
   ·rintro(h | h)
    ·exact(JJ _ _ h).elim
    ·exact h
   ·exact fun h=>.inr h
  simp only[h4,if_false];exact Ztd l ks k a h j
theorem ZpH(l:List Int):∀(ks:List aF) (a:List Bool),a.length=l.length+1→∀j,mk (wY l ks a) j↔∃i,mk a i∧MA (jX l) ks i j
 | [],a,h,j=>by
  simp only[wY,MA];exact⟨fun h=>⟨j,h,rfl⟩,fun⟨i,h,e⟩=>by cases e;exact h⟩
 | q::qs,a,h,j=>by
  simp only[wY,MA];rw[ZpH l qs _ (rY l q a h) j];constructor
  ·rintro⟨m,h1,h2⟩
   obtain⟨i,h3,h4⟩:=(El l q a h m).mp h1;exact⟨i,h3,m,h4,h2⟩
  ·rintro⟨i,h3,m,h4,h2⟩
   exact⟨m,(El l q a h m).mpr ⟨i,h3,h4⟩,h2⟩
theorem ZpI(l:List Int):∀(ks:List aF) (a out:List Bool),a.length=l.length+1→out.length=l.length+1→∀j,mk (wH l ks a out) j↔mk out j∨∃i,mk a i∧MO (jX l) ks i j
 | [],a,out,h,ho,j=>by
  simp only[wH,MO];exact⟨fun h=>.inl h,fun h=>by rcases h with h | ⟨_,_,h⟩;exact h;exact h.elim⟩
 | q::qs,a,out,h,ho,j=>by
  have hq:=rY l q a h;simp only[wH,MO];rw[ZpI l qs a _ h (by rw[xH (by rw[ho,hq]),ho]) j,RN (by rw[ho,hq]),El l q a h j];constructor
  ·rintro((h | ⟨i,h1,h2⟩) | ⟨i,h1,h2⟩)
   ·exact .inl h
   ·exact .inr ⟨i,h1,.inl h2⟩
   ·exact .inr ⟨i,h1,.inr h2⟩
  ·rintro(h | ⟨i,h1,h2 | h2⟩)
   ·exact .inl (.inl h)
   ·exact .inl (.inr ⟨i,h1,h2⟩)
   ·exact .inr ⟨i,h1,h2⟩
theorem Ztd(l:List Int):∀(ks:List aF) (k:Int) (a:List Bool),a.length=l.length+1→∀j,mk (wX l ks k a) j↔∃i,mk a i∧(if k=7∨k=5∨k=6 then MG (jX l) ks k i j else False)
 | [q],k,a,h,j=>by
  have hz:(List.replicate a.length false).length=l.length+1:=by simp[h]
  have hz2:(jH (List.replicate a.length false) a).length=l.length+1:=by rw[xH (by simp)];exact hz
  have hq:=rY l q a h
  have hor:∀j,mk (jH (List.replicate a.length false) a) j↔mk a j:=fun j=>by
   rw[RN (by simp)];exact⟨fun h=>by rcases h with h | h;exact(JJ _ _ h).elim;exact h,.inr⟩
  rw[wX];by_cases h7:k=7
  ·simp only[h7,if_true,true_or,MG]
   rw[RN (by rw[hz2,hq]),hor,El l q a h j];constructor
   ·rintro(h | ⟨i,h1,h2⟩)
    ·exact⟨j,h,.inl ⟨by omega,rfl⟩⟩
    ·exact⟨i,h1,.inr h2⟩
   ·rintro⟨i,h1,⟨_,rfl⟩ | h2⟩
    ·exact .inl h1
    ·exact .inr ⟨i,h1,h2⟩
  simp only[h7,if_false,false_or];have hI:=fun out (ho:out.length=l.length+1)=>(Zth (f:=fun x=>dx l q x) (r:=MR (jX l) q) (N:=l.length+1) (fun a h=>rY l q a h) (fun a h=>El l q a h) (a:=a) (out:=out) h ho (l.length+1)).2 j
  have hcl:(∃m:Nat,m < l.length+1∧∃i,mk a i∧yE (MR (jX l) q) (m+1) i j)↔∃i,mk a i∧kC (MR (jX l) q) i j:=by
   constructor
   ·rintro⟨m,_,i,h1,h2⟩;exact⟨i,h1,yE.aP m h2⟩
   ·rintro⟨i,h1,h2⟩
    have hle:=fun a b (h:MR (jX l) q a b)=>D9 (QS l) q a b h
    obtain⟨n,h3,h4⟩:=ZqH hle h2;refine⟨n,?_,i,h1,h3⟩;have hi:=RL h1
    have hj:j≤l.length:=by
     obtain⟨m,h5,h6⟩:=h3;by_cases hjl:j≤l.length
     ·exact hjl
     ·have hm:0≤m:=by
       cases n with
       | zero=>have e5:i=m:=h5;omega
       | succ n=>have:=MF hle (yE.aP n h5);omega
      have hb:=(El l q (List.replicate (l.length+1) true) (by simp) j);by_cases hml:m≤l.length
      ·have hmm:mk (List.replicate (l.length+1) true) m:=⟨hm,by simp only[List.getD_eq_getElem?_getD,List.getElem?_replicate];rw[if_pos (by omega)];rfl⟩
       have:=RL (hb.mpr ⟨m,hmm,h6⟩);rw[rY l q _ (by simp)] at this;omega
      ·exfalso
       have key:∀(n:Nat) {x:Int},yE (MR (jX l) q) n i x→x≤l.length:=by
        intro n;induction n with
        | zero=>intro x e;have e:i=x:=e;omega
        | succ n ih=>
         rintro x ⟨y,hy1,hy2⟩;have hyl:=ih hy1
         have hy0:0≤y:=by
          cases n with
          | zero=>have e5:i=y:=hy1;omega
          | succ n=>have:=MF hle (yE.aP n hy1);omega
         have hmm:mk (List.replicate (l.length+1) true) y:=⟨hy0,by simp only[List.getD_eq_getElem?_getD,List.getElem?_replicate];rw[if_pos (by omega)];rfl⟩;have:=RL ((El l q (List.replicate (l.length+1) true) (by simp) x).mpr ⟨y,hmm,hy2⟩);rw[rY l q _ (by simp)] at this;omega
       have:=key n h5;omega
    rcases h4 with h4 | h4<;>omega
  by_cases h5:k=5
  ·simp only[h5,if_true,true_or,MG]
   rw[hI _ hz2,hor,hcl];constructor
   ·rintro(h | ⟨i,h1,h2⟩)
    ·exact⟨j,h,.inl ⟨by omega,rfl⟩⟩
    ·exact⟨i,h1,.inr (by simpa using h2)⟩
   ·rintro⟨i,h1,⟨_,rfl⟩ | h2⟩
    ·exact .inl h1
    ·exact .inr ⟨i,h1,by simpa using h2⟩
  simp only[h5,if_false,false_or];by_cases h6:k=6
  ·simp only[h6,if_true,MG]
   rw[hI _ hz,hcl];constructor
   ·rintro(h | ⟨i,h1,h2⟩)
    ·exact(JJ _ _ h).elim
    ·exact⟨i,h1,.inr (by simpa using h2)⟩
   ·rintro⟨i,h1,⟨h,_⟩ | h2⟩
    ·exact(h rfl).elim
    ·exact .inr ⟨i,h1,by simpa using h2⟩
  simp only[h6,if_false];exact⟨fun h=>(JJ _ _ h).elim,fun⟨_,_,h⟩=>h.elim⟩
 | [],k,a,h,j=>by
  rw[wX];exact⟨fun h=>(JJ _ _ h).elim,fun⟨_,_,h⟩=>by split at h<;>simp[MG] at h⟩
 | _::_::_,k,a,h,j=>by
  rw[wX];exact⟨fun h=>(JJ _ _ h).elim,fun⟨_,_,h⟩=>by split at h<;>simp[MG] at h⟩
end
def wU(n:Nat)(i:Nat):List Bool:=(List.replicate n false).set i true
theorem ZpN{n i:Nat}(h:i < n)(j:Int):mk (wU n i) j↔j=i:=by
 unfold mk wU;constructor
 ·rintro⟨h1,h2⟩
  rw[List.getD_eq_getElem?_getD,List.getElem?_set] at h2;split at h2
  ·omega
  ·rw[List.getElem?_replicate] at h2
   split at h2<;>cases h2
 ·rintro rfl
  refine⟨by omega,?_⟩;rw[Int.toNat_natCast,List.getD_eq_getElem?_getD,List.getElem?_set];simp[h]
def Ay(r:List Bool)(k:Nat):List Int:=((List.range k).filter fun i=>r.getD i false).map fun i:Nat=>(i:Int)
theorem Zm1(r:List Bool)(k:Nat):Ay r (k+1)=Ay r k++(if r.getD k false=true then [(k:Int)] else []):=by
 unfold Ay;rw[List.range_succ,List.filter_append,List.map_append];congr 1;by_cases h:r.getD k false=true
 ·simp only[List.filter_cons,h,if_true,List.filter_nil,List.map_cons,List.map_nil]
 ·simp only[List.filter_cons,h,if_false,List.filter_nil,List.map_nil,Bool.false_eq_true]
theorem Zop(r:List Bool)(k:Nat):(Ay r k).length≤k:=by
 unfold Ay;rw[List.length_map];have:=List.length_filter_le (fun i:Nat=>r.getD i false) (List.range k);simpa using this
theorem ZfF{p:Nat→Bool}:∀n,(((List.range n).filter p).map fun i:Nat=>(i:Int)).Pairwise (· < ·):=by
 intro n;rw[List.pairwise_map];exact(List.Pairwise.filter p List.pairwise_lt_range).imp fun h=>by omega
theorem ZqQ(p:aF)(l:List Int){i:Nat}(hi:i≤l.length):Ay (dx l p (wU (l.length+1) i)) (l.length+1)=rQ p l i:=by
 refine Rs (ZfF _) (Zff _ _ _) fun x=>?_
 rw[Zi1];have hgo:=El l p (wU (l.length+1) i) (by simp[wU]);simp only[Ay,List.mem_map,List.mem_filter,List.mem_range];constructor
 ·rintro⟨k,⟨h1,h2⟩,rfl⟩
  obtain⟨m,h3,h4⟩:=(hgo k).mp ⟨by omega,h2⟩;rw[ZpN (by omega)] at h3;subst h3;exact⟨by omega,by omega,h4⟩
 ·rintro⟨h1,h2,h3⟩
  obtain⟨h4,h5⟩:=(hgo x).mpr ⟨i,(ZpN (by omega) _).mpr rfl,h3⟩;have:=(RL ⟨h4,h5⟩).2;rw[rY l p _ (by simp[wU])] at this;exact⟨x.toNat,⟨by omega,h5⟩,by omega⟩
def yj(p:aF)(l:List Int)(to:Int)(k:Nat):List Int:=((List.range k).filter fun i=>jU p l (i:Nat) to).map fun i:Nat=>(i:Int)
theorem ZeT(p:aF)(l:List Int)(to:Int)(k:Nat):yj p l to (k+1)=yj p l to k++(if jU p l (k:Nat) to=true then [(k:Int)] else []):=by
 unfold yj;rw[List.range_succ,List.filter_append,List.map_append];congr 1;by_cases h:jU p l (k:Nat) to=true
 ·simp[h]
 ·simp[h]
theorem Zgx(p:aF)(l:List Int)(to:Int)(k:Nat):(yj p l to k).length≤k:=by
 unfold yj;rw[List.length_map];have:=List.length_filter_le (fun i:Nat=>jU p l (i:Nat) to) (List.range k);simpa using this
def uN(p:aF)(l:List Int)(to:Int):List Int:=if to≤l.length then yj p l to (to+1).toNat else []
def GQ(r:lN)(l:List Int)(p:Int):Bool:=decide (0≤p) && (decide (p≤l.length) && (decide (0 < (uN r.before l p).length) && decide (0 < (rQ r.after l p).length)))
theorem Zsa(r:lN)(l:List Int)(p:Int):GQ r l p=(decide (0≤p∧p≤l.length) && Sy r l p.toNat):=by
 unfold GQ;by_cases h:0≤p∧p≤l.length
 ·obtain⟨k,rfl⟩:∃k:Nat,p=k:=⟨p.toNat,by omega⟩
  have h1:decide (0≤(k:Int))=true:=by simp
  have h2:decide ((k:Int)≤l.length)=true:=by simpa using h.2
  have h3:decide (0≤(k:Int)∧(k:Int)≤l.length)=true:=by simpa using h.2
  rw[h1,h2,h3,Bool.true_and,Bool.true_and,Bool.true_and,Int.toNat_natCast];unfold Sy;congr 1
  ·apply Jd
   unfold uN yj;rw[if_pos h.2];have e:((k:Int)+1).toNat=k+1:=by omega
   rw[e];simp only[List.length_map,decide_eq_true_eq,List.any_eq_true,List.mem_range];constructor
   ·intro hp
    obtain⟨x,hx⟩:=List.exists_mem_of_length_pos hp;rw[List.mem_filter,List.mem_range] at hx;exact⟨x,hx⟩
   ·rintro⟨x,hx⟩
    exact List.length_pos_of_mem (List.mem_filter.mpr ⟨List.mem_range.mpr hx.1,hx.2⟩)
  ·apply Jd
   simp only[decide_eq_true_eq,List.any_eq_true,List.mem_range];constructor
   ·intro hp
    obtain⟨x,hx⟩:=List.exists_mem_of_length_pos hp;have hb:=Zi2 x hx;refine⟨x.toNat,by omega,?_⟩;have:((x.toNat:Nat):Int)=x:=by omega
    rw[this];unfold jU;simpa using hx
   ·rintro⟨x,_,hx⟩
    exact List.length_pos_of_mem (a:=(x:Int)) (by simpa[jU] using hx)
 ·have h3:decide (0≤p∧p≤(l.length:Int))=false:=by simpa using h
  rw[h3,Bool.false_and];by_cases h0:0≤p
  ·have:decide (p≤(l.length:Int))=false:=by simp;omega
   rw[this];simp
  ·have:decide (0≤p)=false:=by simpa using h0
   rw[this];rfl
end Go.Rf
