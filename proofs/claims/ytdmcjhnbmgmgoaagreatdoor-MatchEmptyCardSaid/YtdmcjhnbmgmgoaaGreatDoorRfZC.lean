import Derived.Test.YtdmcjhnbmgmgoaaGreatDoorRfY5
import Derived.Test.YtdmcjhnbmgmgoaaGreatDoorRows
import Derived.WalkKit
import Derived.ProofKit
import Derived.Below
import Derived.SizedLaws
import Derived.KernelRfl
import Derived.Test.YtdmcjhnbmgmgoaaGreatDoorCards
import Derived.Test.YtdmcjhnbmgmgoaaGreatDoorTie
import Derived.LaidMore
import Derived.OpenShut
import Derived.Stop.Joined
import Derived.SevenTiedAt
set_option linter.unusedVariables false
set_option linter.unusedSimpArgs false
set_option linter.unusedSectionVars false
namespace Go.Rf
open Go.RowKit
attribute [local simp] kZ kN kW lH lK lI lM kY lN lG lF dO iA fI gI ig fH gJ iq gX gT gY eY gN gZ gM eB eD gQ iJ iG iI iH iK fV fK fG dY fZ gu gy fO fP iL iw gP iE iB iD iC iF iM gV fQ fE fF fJ fU dx dL eZ gW iN ex au cu dM dX bM bU aG bB dV eX dR fM gL gK iy gU bL dw dz dZ d9 gD dS bA bW dA dJ dD fq eu eU eO eT dW dn dU dQ dP bq AV.solid S0 aj aH
def GY(l:List Int):Bool:=!l.isEmpty
theorem Zf7{P:Program}{fc:FuncId}(H:wT P fc (rU 1 8 (.v (.int .i64 0))) [.t 2] 1)(l:List Int)(hl:l.length≤17592186043904){S:St}{K:AV→St→Prop}(hg:S.g (S.n+5)=none)
  (hk:K (vV (GY l) (S.n+5) (l.map aj)) ((St.mk (S.n+7) S.g).set (S.n+5) (vB (GY l) 1 (l.map aj)))):aQ P fc [aA l] S K:=by
 refine H rfl ?_;have hb:dw 1 0 (.v (.int .i64 0)) []=some (.sl true []):=Vt _ _;by_cases h0:l=[]
 ·subst h0
  have hr:∀n aC,(kP 1 8 (.sl true []) (.sl false [])).run ⟨n,S.g⟩ aC=some (.sl true [],⟨n,S.g⟩):=by
   intro n aC;simp[kP,mq,AV.kF,Eff.run,St.fD,St.iU,dF]
  have hs:∀n,(St.mk n S.g).set (S.n+5) none=St.mk n S.g:=fun n=>by
   simp only[St.set,St.mk.injEq,true_and];funext j;simp only[bF];split
   ·rename_i h;subst h;exact hg.symm
   ·rfl
  simp only[GY,List.isEmpty_nil,Bool.not_true,List.map_nil,jO,kQ,hs] at hk;simp[rU,aA,hr];refine⟨[.sl true []],by simp[bV,RV.ev,au],?_⟩;simp[cK];exact hk
 ·have hn:GY l=true:=by cases l with
   | nil=>exact(h0 rfl).elim
   | cons x l=>rfl
  have hr:∀n aC,(kP 1 8 (.sl true []) (.sl false (l.map aj))).run ⟨n,S.g⟩ aC=some (.own aC 0 l.length,(⟨n,S.g⟩:St).set aC (some (.arr 1 (l.map aj)))):=by
   intro n aC;have hc:=BQ l;have ha:dF 8 0 l.length:=by unfold dF;omega
   have hc2:∀x∈l.map aj,x.cells.length=1:=hc;have h3:mq 1 [] (.sl false (l.map aj))=some (l.map aj):=by simp only[mq];rw[if_pos hc2]
   have h4:¬(l.map aj).length=0:=by simp;exact h0
   simp only[kP,Eff.run,AV.kF,List.mapM_nil,Option.pure_def,h3,Option.bind_some,List.length_nil,Nat.zero_add,List.length_map,ha,and_true];rw[if_pos (by simp),if_neg (by simpa using h0)];simp[St.fD,St.iU]
  rw[hn,bZ,bE,List.length_map] at hk;simp[rU,aA,hr];refine⟨[.own (S.n+5) 0 l.length],by simp[bV,RV.ev,au],?_⟩;simp[cK];exact hk
def MK(o:Bool)(q k:Nat):AV:=if o=true then .own q 0 k else .sl true []
theorem Zo9{P:Program}{f f1:FuncId}{sg:Int}{o:Bool}{st:Gs}{l:List Int}(h:aQ P f [vV o 4 (l.map aj),.aP f1 [] [.ptr 3 0 0]] ⟨5,bY (nQ sg o st l)⟩ (Xz sg o st l)){S:St}{K:AV→St→Prop}{id b c bx q:Nat}
  (h1:S.g id=some (.arr 4 [bN sg (.own b 0 st.aB.length) (.own c 0 st.fo.length)])) (h2:S.g b=some (.arr 1 (st.aB.map aA))) (h3:S.g c=some (.arr 1 (st.fo.map aA)))
  (h4:S.g bx=some (.arr 1 [.ptr id 0 0])) (h5:S.g q=vB o 1 (l.map aj)) (hd:[(0,id),(1,b),(2,c),(3,bx),(4,q)].Pairwise fun p q=>p.1≠q.1∧p.2≠q.2) (hl:id < S.n∧b < S.n∧c < S.n∧bx < S.n∧q < S.n)
  (hk:∀xs:List Int,xs.take (l.filter (kE sg)).length=l.filter (kE sg)→xs.length=l.length→K (MK o q (l.filter (kE sg)).length) ((St.mk (S.n+5) S.g).set q (vB o 1 (xs.map aj)))) :
  aQ P f [vV o q (l.map aj),.aP f1 [] [.ptr bx 0 0]] S K:=by
 refine aQ.frame 5 [(0,id),(1,b),(2,c),(3,bx),(4,q)] (nQ sg o st l) [vV o 4 (l.map aj),.aP f1 [] [.ptr 3 0 0]] _ hd (by simp;omega) ?_ ?_ h ?_
 ·intro p hp
  simp only[nQ,mG,List.mem_cons,List.not_mem_nil,or_false] at hp;rcases hp with rfl | rfl | rfl | rfl | rfl
  ·exact .inr ⟨q,by simp,by rw[h5];exact kX (jr _)⟩
  ·refine .inr ⟨bx,by simp,?_⟩
   rw[h4,jh];exact⟨rfl,.cons (.ptr _ _ _ _ (by simp)) .nil⟩
  ·refine .inr ⟨id,by simp,?_⟩
   rw[h1,jh];refine⟨rfl,?_⟩;simp only[bN,kM,kJ,and_true,kK,bZ,List.length_map];exact⟨.cl (aW _),.own _ _ _ _ (by simp),.own _ _ _ _ (by simp),.cl (jZ _)⟩
  ·exact .inr ⟨b,by simp,by rw[h2,bE,jh];exact⟨rfl,.cl (jw _)⟩⟩
  ·exact .inr ⟨c,by simp,by rw[h3,bE,jh];exact⟨rfl,.cl (jw _)⟩⟩
 ·exact .cons (lQ (by simp) (jr _)) (.cons (QK (by simp)) .nil)
 ·rintro r1 S1 hn ⟨xs,rfl,q1,q2,rfl⟩
  refine⟨MK o q (l.filter (kE sg)).length,_,hk xs q1 q2,?_,by simp[bB],fun i k hi=>?_⟩
  ·unfold MK
   cases o with
   | true=>simp only[if_true];exact .own _ _ _ _ (.inl ⟨by omega,by simp⟩)
   | false=>simp only[Bool.false_eq_true,if_false];exact .cl (jZ _)
  ·simp only[aG] at hi
   by_cases eq:i=q
   ·rw[if_pos eq] at hi
    refine .inr ⟨4,.inl ⟨by omega,by simp[eq]⟩,?_⟩;rw[←hi];simp only[nQ,bY,if_true];exact kX (jr _)
   rw[if_neg eq] at hi;by_cases e0:i=id
   ·refine .inr ⟨0,.inl ⟨by omega,by simp[e0]⟩,?_⟩
    rw[←hi,e0,h1];simp only[nQ,mG,bY,show(0:Nat)=4↔False by simp,show(0:Nat)=3↔False by simp,if_false,if_true];rw[jh];refine⟨rfl,?_⟩;simp only[bN,kM,kJ,and_true,kK,bZ,List.length_map];exact⟨.cl (aW _),.own _ _ _ _ (.inl ⟨by omega,by simp⟩),.own _ _ _ _ (.inl ⟨by omega,by simp⟩),.cl (jZ _)⟩
   by_cases e1:i=b
   ·refine .inr ⟨1,.inl ⟨by omega,by simp[e1]⟩,?_⟩
    rw[←hi,e1,h2];simp only[nQ,mG,bY,show(1:Nat)=4↔False by simp,show(1:Nat)=3↔False by simp,show(1:Nat)=0↔False by simp,if_false,if_true,bE];rw[jh];exact⟨rfl,.cl (jw _)⟩
   by_cases e2:i=c
   ·refine .inr ⟨2,.inl ⟨by omega,by simp[e2]⟩,?_⟩
    rw[←hi,e2,h3];simp only[nQ,mG,bY,show(2:Nat)=4↔False by simp,show(2:Nat)=3↔False by simp,show(2:Nat)=0↔False by simp,show(2:Nat)=1↔False by simp,if_false,if_true,bE];rw[jh];exact⟨rfl,.cl (jw _)⟩
   by_cases e3:i=bx
   ·refine .inr ⟨3,.inl ⟨by omega,by simp[e3]⟩,?_⟩
    rw[←hi,e3,h4];simp only[nQ,mG,bY,show(3:Nat)=4↔False by simp,if_false,if_true];rw[jh];exact⟨rfl,.cons (.ptr _ _ _ _ (.inl ⟨by omega,by simp⟩)) .nil⟩
   exact .inl ⟨by simp;omega,hi⟩
theorem ZqV{o:Bool}{q:Nat}{l xs:List Int}{sg:Int}{g:Nat→Option aF}(ho:o=true∨l=[])(hg:g q=vB o 1 (xs.map aj))(h1:xs.take (l.filter (kE sg)).length=l.filter (kE sg))(h2:xs.length=l.length) :
  Fz (only [q] g) (MK o q (l.filter (kE sg)).length) (aA (l.filter (kE sg))):=by
 unfold MK;cases o with
 | true=>
  rw[if_pos rfl];rw[bE] at hg;have hle:(l.filter (kE sg)).length≤l.length:=List.length_filter_le _ _;refine .own q 0 _ 1 (xs.map aj) ((l.filter (kE sg)).map aj) (by rw[DL,if_pos (by simp)];exact hg) (by simp;omega) (by simp) (fun i h3 h4=>?_);have e:((xs.map aj).drop 0).take (l.filter (kE sg)).length=(l.filter (kE sg)).map aj:=by rw[List.drop_zero,←List.map_take,h1]
  simp only[e];exact .closed _ (jr _ _ (List.getElem_mem _))
 | false=>
  rcases ho with h | rfl
  ·cases h
  ·rw[if_neg (by simp)]
   exact .loose true [] (.sl _ _ (by simp))
theorem Zhs{P:Program}{b:Nat}{Q:Exit→AF→St→Prop}{a:AF}{S:St}{l:List mQ}:bG P b (.wR l) Q a S=jD P S.n l [] (nK Q) a ⟨S.n+l.length,S.g⟩:=by simp only[bG];rw[Zq2]
end Go.Rf
namespace Go.Rf
open Go.RowKit
attribute [local simp] oJ oH oD pF pJ pQ pK oI qm pO oF o9 jK jT jU kr pY qM qK qJ qA qL oP oL qp pR qo qG qF qC qx pU qw qI qH oK kL pG pV pW pq o8 dO iA fI gI ig fH gJ iq gX gT gY eY gN gZ gM eB eD gQ iJ iG iI iH iK fV fK fG dY fZ gu gy fO fP iL iw gP iE iB iD iC iF iM gV fQ fE fF fJ fU dx dL eZ gW iN ex au cu dM dX bM bU aG bB dV eX dR fM gL gK iy gU bL dw dz dZ d9 gD dS bA pE ow dA dJ pI oZ pX oz eu eU eO eT dW dn dU dQ dP bq qz oG oC qh o7 qd qg qj kV p9 p8 ql S0 aj aH ru qZ rA q9 qY rz rH q8 rG rO rE rM rD rJ rC mR iZ.cl bQ.cl aW dN aS jo jL mX mV mW jZ mH nu mY nk jr lu jw ny lQ kX mh nA nD nC ni kM kJ nE lZ mZ l6 kK mF jh nG bZ jO bE kQ
def Av(Ku P3N P1V rZ Ug Un P4a P4R Kq:FuncId):AC:= (sq [ro 2 (.box 1 (.t 0)),ro 3 (.box 4 (.t 1)),ro 4 (.alloc (.agg [(.v (.bool false)),(.sl true []),(.sl true [])]) 3)] (.seq (sq [rF 8 0 3,rL 9 8] (.block 0 (sq [ro 11 (.bin .eql (.t 9) (ci 1)),rm 10 11] (.cond (.t 10) (sq [ro 12 (.build (.agg [(.v (.bool false)),(.sl true []),(.sl true [])]) [(0,1)] [(0,(.c (.v (.bool true))))]),rn (.store 3 (.t 4) (.t 12))] .ret) (sq [ro 14 (.bin .eql (.t 9) (ci 2)),rm 13 14] (.cond (.t 13) (.seq (.wR [(0,⟨(some 15),.load none (.t 2),none,none⟩,[]),(1,⟨(some 16),.cZ 2 (.t 3),none,none⟩,[]),(2,⟨(some 17),.load none (.t 16),none,none⟩,[]),(3,⟨(some 18),.mv (.c .junk),none,(some ((.c (.aP Ku [] [])),[(.t 17)]))⟩,[0]),(4,⟨(some 19),.Ak P3N [] [(.t 2)],none,none⟩,[]),(5,⟨(some 20),.mv (.c .junk),none,(some ((.c (.aP P1V [] [])),[(.t 18),(.t 19)]))⟩,[0]),(6,⟨(some 21),.mv (.c .junk),none,(some ((.c (.aP rZ [] [])),[(.t 20)]))⟩,[0]),(7,⟨(some 22),.mv (.c .junk),none,(some ((.c (.aP Ug [] [])),[(.t 15),(.t 21)]))⟩,[]),(8,⟨(some 23),.cO 1 1 (.v (.int .i64 0)) [(0,(.t 22))],none,none⟩,[]),(9,⟨(some 5),.mv (.t 23),none,none⟩,[])]) (sq [rm 24 5,rm 25 5,ro 26 (.build (.agg [(.v (.bool false)),(.sl true []),(.sl true [])]) [(0,1),(1,1),(2,1)] [(0,(.c (.v (.bool false)))),(1,(.t 24)),(2,(.t 25))]),rn (.store 3 (.t 4) (.t 26))] .ret)) (sq [ro 28 (.bin .eql (.t 9) (ci 3)),rm 27 28] (.cond (.t 27) (.seq (.wR [(0,⟨(some 29),.load none (.t 2),none,none⟩,[]),(1,⟨(some 30),.load none (.t 2),none,none⟩,[]),(2,⟨(some 31),.cZ 3 (.t 3),none,none⟩,[]),(3,⟨(some 32),.load none (.t 31),none,none⟩,[]),(4,⟨(some 33),.mv (.c .junk),none,(some ((.c (.aP Un [] [])),[(.t 30),(.t 32)]))⟩,[0]),(5,⟨(some 34),.mv (.c .junk),none,(some ((.c (.aP P4a [] [])),[(.t 29),(.t 33)]))⟩,[]),(6,⟨none,.store 3 (.t 4) (.t 34),none,none⟩,[])]) .ret) (sq [ro 36 (.bin .eql (.t 9) (ci 4)),rm 35 36] (.cond (.t 35) (sq [rL 37 2,rF 38 3 3,rL 39 38,rk 40 Un [(.t 37),(.t 39)],rk 41 P4R [(.t 40)],rn (.store 3 (.t 4) (.t 41))] .ret) .skip)))))))))) (sq [rL 42 2,rF 43 3 3,rL 44 43,rk 45 Un [(.t 42),(.t 44)],rm 6 45] (.seq (sq [rm 46 6,ro 47 (.len (.t 46)),ro 48 (.bin .neq (.t 47) (ci 1)),rm 49 48,rg 50 49 false (.cZ 0 (.t 3)),rg 51 49 false (.load none (.t 50)),rg 52 49 false (.bin .lss (.t 51) (ci 5)),ro 53 (.pick (.t 49) (.c (.v (.bool true))) (.t 52)),rm 54 53,rg 55 54 false (.cZ 0 (.t 3)),rg 56 54 false (.load none (.t 55)),rg 57 54 false (.bin .gtr (.t 56) (ci 7)),ro 58 (.pick (.t 54) (.c (.v (.bool true))) (.t 57))] (.cond (.t 58) (sq [ro 59 (.build (.agg [(.v (.bool false)),(.sl true []),(.sl true [])]) [] []),rn (.store 3 (.t 4) (.t 59))] .ret) .skip)) (sq [rm 60 6,ro 61 (.aI 3 (.t 60) (ci 0)),ro 62 (.load (some 3) (.t 61)),ro 7 (.alloc (.agg [(.v (.bool false)),(.sl true []),(.sl true [])]) 3),rn (.store 3 (.t 7) (.t 62))] (.seq (sq [rF 63 0 3,rL 64 63,ro 65 (.bin .neq (.t 64) (ci 7))] (.cond (.t 65) (.reg none [rL 66 2,rF 67 2 7,rL 68 67,rF 69 1 7,rL 70 69,rk 71 Kq [(.t 66),(.t 68),(.t 70)]]) .skip)) (sq [rF 72 0 7,rL 73 72,rm 74 73,rg 75 74 false (.cZ 0 (.t 3)),rg 76 74 false (.load none (.t 75)),rg 77 74 false (.bin .neq (.t 76) (ci 6)),ro 78 (.pick (.t 74) (.c (.v (.bool true))) (.t 77)),rF 79 0 7,rn (.store 1 (.t 79) (.t 78))] (sq [ro 80 (.load (some 3) (.t 7)),rn (.store 3 (.t 4) (.t 80))] .ret))))))))
structure QC(P:Program)(sg:Int)(ff fc f1 fd og fst fe fj tJ sM:FuncId):Prop where
 clone:wT P fc (rU 1 8 (.v (.int .i64 0))) [.t 2] 1
 del:∀(l:List Int),l.length≤17592186043904→∀(o:Bool),(o=true∨l=[])→∀(st:Gs),aQ P fd [vV o 4 (l.map aj),.aP f1 [] [.ptr 3 0 0]] ⟨5,bY (nQ sg o st l)⟩ (Xz sg o st l)
 set:Jm P og
 state:∀(o:Bool) (b:List Int) (st:Gs),st.fo.length=st.aB.length→st.aB.length≤100000→oM P fst [aA b] sg o st ⟨st.aB++[b],st.fo++[[]]⟩ (aj st.aB.length)
 each:∀(ks:List aO),ks.length≤100000→(∀q∈ks,Fv P ff sg q)→∀(st:Gs),rT st→st.aB.length+jR ks≤10000→oM P fe [.sl false (ks.map jM)] sg true st (dG sg ks st).2 (.sl false ((dG sg ks st).1.map eG))
 join:∀(es:List Ed),es.length≤100000→∀(st:Gs),rT st→(∀e∈es,uw st.aB.length e)→st.aB.length≤10000→oM P fj [.sl false (es.map eG)] sg true st (ku es (nR true) st).2 (eG (ku es (nR true) st).1)
 either:∀(es:List Ed),es.length≤100000→(∀e∈es,uw 100000 e)→aN P tJ [.sl false (es.map eG)] (eG (tQ es (nR false)))
 follow:∀(ss be:List Int) (st:Gs),rT st→jm st.aB.length ss→jm st.aB.length be→st.aB.length≤100000→oM P sM [aA ss,aA be] sg true st ⟨st.aB,jG st.fo ss be⟩ (.aM [])
theorem yH(sg:Int)(o:Bool)(st:Gs)(x:Option aF):bY (mG sg o st 0 3 4++[(5,x)]) 5=x:=by simp[mG,bY]
theorem Zjz{P:Program}(hm:P.follows .mixedOrders=true){sg:Int}{ff fc f1 fd og fst fe fj tJ sM:FuncId}(F:QC P sg ff fc f1 fd og fst fe fj tJ sM)(h:vJ P ff (Av fc f1 fd og fst fe fj tJ sM) [.c 4 (some 3)] 2)
  {k:Int} {ps:List Rg} {pg:List Int} {ks:List aO} (hks:ks.length≤100000) (hpg:pg.length≤17592186043904) (hq:∀q∈ks,Fv P ff sg q):Fv P ff sg (.mk k ps pg ks):=by
 intro st hst hb;have hbl:st.aB.length≤10000:=by omega
 have hF:∀(d:Option Nat) (a:AF),a 2=.ptr 3 0 0→Fq ⟨d,.load none (.t 2),none,none⟩ a=[3]:=fun d a h=>Zq6 none (.t 2) 3 0 0 (by simpa[dM] using h)
 refine h.uR hm rfl ?_;by_cases k1:k=1
 ·subst k1
  have hres:eP sg (.mk 1 ps pg ks) st=(⟨true,[],[]⟩,st):=by simp[eP]
  simp[Av,rV,mG,bN,bA,jc,iR,Js];refine⟨jk [(4,.ptr 5 0 0)],⟨10,bY (mG sg true st 0 3 4++[(5,some (.arr 3 [eG ⟨true,[],[]⟩]))])⟩,bR.of [(0,0),(3,1),(4,2),(5,5)] [] (by omega) ⟨by simp,by simp⟩ ?_ ?_,?_⟩
  ·simp[mG,bN,eG]
   exact .loose (by simp)
  ·simp
  ·simp[bK,bV,RV.ev,gH,cK,yH,lX,hres]
   first | exact .of | exact⟨rfl,.of⟩
 have k1':(k == 1)=false:=by simpa using k1
 by_cases k2:k=2
 ·subst k2
  have hres:eP sg (.mk 2 ps pg ks) st=(⟨false,[(st.aB.length:Int)],[(st.aB.length:Int)]⟩,⟨st.aB++[zQ sg pg],st.fo++[[]]⟩):=by simp[eP]
  have ho:GY pg=true∨pg=[]:=by cases pg<;>simp[GY]
  have hfl:(pg.filter (kE sg)).length≤pg.length:=List.length_filter_le _ _;simp[Av,rV,mG,bN,bA,Zhs,XC,WU,Zhz,Zf4,k1'];refine Zf7 F.clone pg (by omega) (by simp) ?_;refine⟨(by simp[xE,hF,au,aG]),?_⟩;refine Zo9 (F.del pg (by omega) (GY pg) ho st) (id:=0) (b:=1) (c:=2) (bx:=3) (q:=27) (by simp[bN]) (by simp) (by simp) (by simp) (by simp) (by simp) (by simp[bB]) ?_;intro xs hx1 hx2;refine⟨(by simp[xE,hF,au,aG]),?_⟩;refine aQ.gives [27] (F.set (pg.filter (kE sg)) (by omega)) (fC.cons (ZqV ho (by simp) hx1 hx2) fC.nil) (aS _) ?_;refine⟨(by simp[xE,hF,au,aG,Ci]),?_⟩;refine oM.use (F.state true (zQ sg pg) st hst.len (by omega)) (fun _=>.cl (aK (aS _) aU)) (aW _) (id:=0) (b:=1) (c:=2) (by simp[bN,Ci,bZ]) (by simp[Ci,bE]) (by simp[Ci,bE]) (by simp) (by simp[ZpL]) ?_;simp[Zqa,XC,WU,xE,nJ,Ci,ZpL,jc,iR];refine⟨jk [(4,.ptr 5 0 0)],⟨10,bY (mG sg true ⟨st.aB++[zQ sg pg],st.fo++[[]]⟩ 0 3 4++[(5,some (.arr 3 [eG ⟨false,[(st.aB.length:Int)],[(st.aB.length:Int)]⟩]))])⟩,bR.of [(0,0),(3,34),(4,35),(5,5)] [] (by omega) ⟨by simp,by simp⟩ ?_ ?_,?_⟩
  ·simp[mG,bN,eG]
   exact .loose (aK (mH _) aU)
  ·simp
  ·simp[bK,bV,RV.ev,gH,cK,yH,lX,hres]
   first | exact .of | exact⟨rfl,.of⟩
 have k2':(k == 2)=false:=by simpa using k2
 have hE:=F.each ks hks hq st hst (by simp only[jv] at hb;rw[if_neg k1,if_neg k2] at hb;exact hb);obtain⟨n1,n2,n3⟩:=Qn sg ks st hst;have hcn:jv (.mk k ps pg ks)=jR ks:=by simp only[jv];rw[if_neg k1,if_neg k2]
 have hel:=PI sg ks st;by_cases k3:k=3
 ·subst k3
  have hres:eP sg (.mk 3 ps pg ks) st=ku (dG sg ks st).1 (nR true) (dG sg ks st).2:=by simp[eP,nR]
  simp[Av,rV,mG,bN,bA,Zhs,XC,WU,Zhz,Zf4,k1',k2'];refine oM.use hE (fun _=>.cl (aK (EY ks) aU)) (yC _) (id:=0) (b:=1) (c:=2) (by simp[bN,bZ]) (by simp[bE]) (by simp[bE]) (by simp) (by simp) ?_;refine⟨(by simp[xE,hF,au,aG,nJ]),?_⟩;refine oM.use (F.join _ (by omega) _ n1 n2 (by omega)) (fun _=>.cl (aK (yC _) aU)) (Fe _) (id:=0) (b:=21) (c:=22) (by simp[bN,nJ,bZ]) (by simp[nJ,bE]) (by simp[nJ,bE]) (by simp) (by simp[nJ]) ?_;simp[xE,nJ,lX,IW];refine⟨jk [(4,.ptr 5 0 0)],⟨10,bY (mG sg true (ku (dG sg ks st).1 (nR true) (dG sg ks st).2).2 0 3 4++[(5,some (.arr 3 [eG (ku (dG sg ks st).1 (nR true) (dG sg ks st).2).1]))])⟩,bR.of [(0,0),(3,28),(4,29),(5,5)] [] (by omega) ⟨by simp,by simp⟩ ?_ ?_,?_⟩
  ·simp[mG,bN,eG]
  ·simp
  ·simp[bK,bV,RV.ev,gH,cK,yH,lX,Qt,hres]
   first | exact .of | exact⟨rfl,.of⟩
 have k3':(k == 3)=false:=by simpa using k3
 by_cases k4:k=4
 ·subst k4
  have hres:eP sg (.mk 4 ps pg ks) st=(tQ (dG sg ks st).1 (nR false),(dG sg ks st).2):=by simp[eP,nR]
  simp[Av,rV,mG,bN,bA,k1',k2',k3'];refine oM.use hE (fun _=>.cl (aK (EY ks) aU)) (yC _) (id:=0) (b:=1) (c:=2) (by simp[bN,bZ]) (by simp[bE]) (by simp[bE]) (by simp) (by simp) ?_;simp[nJ];refine aQ.pure (F.either _ (by omega) (fun e he=>(n2 e he).mono (by omega))) (aK (yC _) aU) (Fe _) ?_;simp[lX,IW,bN];refine⟨jk [(4,.ptr 5 0 0)],⟨10,bY (mG sg true (dG sg ks st).2 0 3 4++[(5,some (.arr 3 [eG (tQ (dG sg ks st).1 (nR false))]))])⟩,bR.of [(0,0),(3,22),(4,23),(5,5)] [] (by omega) ⟨by simp,by simp⟩ ?_ ?_,?_⟩
  ·simp[mG,bN,eG]
  ·simp
  ·simp[bK,bV,RV.ev,gH,cK,yH,lX,Qt,hres]
   first | exact .of | exact⟨rfl,.of⟩
 have k4':(k == 4)=false:=by simpa using k4
 ·have hres:eP sg (.mk k ps pg ks) st=uK (dG sg ks st).1 k (dG sg ks st).2:=by simp[eP,k1,k2,k3,k4]
  simp[Av,rV,mG,bN,bA,k1',k2',k3',k4'];refine oM.use hE (fun _=>.cl (aK (EY ks) aU)) (yC _) (id:=0) (b:=1) (c:=2) (by simp[bN,bZ]) (by simp[bE]) (by simp[bE]) (by simp) (by simp) ?_;have hle:=PI sg ks st;generalize hge:dG sg ks st=ge at *;obtain⟨es,st1⟩:=ge;simp only at n1 n2 n3 hle hres ⊢;by_cases hk1:es.length=1
  ·obtain⟨e,rfl⟩:=List.length_eq_one_iff.mp hk1
   have he:=n2 e (by simp);by_cases h57:5≤k∧k≤7
   ·have a1:¬k < 5:=by omega
    have a2:¬7 < k:=by omega
    have hres2:eP sg (.mk k ps pg ks) st=(⟨e.bH || decide (k≠6),e.fst,e.aR⟩,if k=7 then st1 else ⟨st1.aB,jG st1.fo e.aR e.fst⟩):=by rw[hres];simp only[uK];rw[if_pos h57]
    by_cases h7:k=7
    ·subst h7
     rw[if_pos rfl] at hres2;have hdk:(e.bH || decide ((7:Int)≠6))=true:=by simp
     rw[hdk] at hres2;cases hn:e.bH
     ·simp[nJ,bN,bA,lX,hn]
      refine⟨jk [(4,.ptr 5 0 0)],⟨10,bY (mG sg true st1 0 3 4++[(5,some (.arr 3 [eG ⟨true,e.fst,e.aR⟩]))])⟩,bR.of [(0,0),(3,21),(4,22),(5,5)] [] (by omega) ⟨by simp,by simp⟩ ?_ ?_,?_⟩
      ·simp[mG,bN,eG]
      ·simp
      ·simp[bK,bV,RV.ev,gH,cK,yH,lX,hres2]
       first | exact .of | exact⟨rfl,.of⟩
     ·simp[nJ,bN,bA,lX,hn]
      refine⟨jk [(4,.ptr 5 0 0)],⟨10,bY (mG sg true st1 0 3 4++[(5,some (.arr 3 [eG ⟨true,e.fst,e.aR⟩]))])⟩,bR.of [(0,0),(3,21),(4,22),(5,5)] [] (by omega) ⟨by simp,by simp⟩ ?_ ?_,?_⟩
      ·simp[mG,bN,eG]
      ·simp
      ·simp[bK,bV,RV.ev,gH,cK,yH,lX,hres2]
       first | exact .of | exact⟨rfl,.of⟩
    ·have h7':(k == 7)=false:=by simpa using h7
     have aax:(k != 7)=true:=by simpa using h7
     rw[if_neg h7] at hres2;have hfo:=F.follow e.aR e.fst st1 n1 he.l he.f (by omega);simp[nJ,bN,bA,lX,a1,a2,aax];refine oM.use hfo (fun _=>.cl (aK (aS _) (aK (aS _) aU))) (.aM _ (by simp)) (id:=0) (b:=21) (c:=22) (by simp[bN,bZ]) (by simp[bE]) (by simp[bE]) (by simp) (by simp) ?_;cases hn:e.bH
     ·by_cases h6:k=6
      ·subst h6
       have hdk:(e.bH || decide ((6:Int)≠6))=false:=by simp[hn]
       rw[hdk] at hres2;simp[nJ,bN];refine⟨jk [(4,.ptr 5 0 0)],⟨10,bY (mG sg true ⟨st1.aB,jG st1.fo e.aR e.fst⟩ 0 3 4++[(5,some (.arr 3 [eG ⟨false,e.fst,e.aR⟩]))])⟩,bR.of [(0,0),(3,55),(4,56),(5,5)] [] (by omega) ⟨by simp,by simp⟩ ?_ ?_,?_⟩
       ·simp[mG,bN,eG]
       ·simp
       ·simp[bK,bV,RV.ev,gH,cK,yH,lX,hres2]
        first | exact .of | exact⟨rfl,.of⟩
      ·have h6':(k != 6)=true:=by simpa using h6
       have hdk:(e.bH || decide (k≠6))=true:=by simp[h6]
       rw[hdk] at hres2;simp[nJ,bN,h6'];refine⟨jk [(4,.ptr 5 0 0)],⟨10,bY (mG sg true ⟨st1.aB,jG st1.fo e.aR e.fst⟩ 0 3 4++[(5,some (.arr 3 [eG ⟨true,e.fst,e.aR⟩]))])⟩,bR.of [(0,0),(3,55),(4,56),(5,5)] [] (by omega) ⟨by simp,by simp⟩ ?_ ?_,?_⟩
       ·simp[mG,bN,eG]
       ·simp
       ·simp[bK,bV,RV.ev,gH,cK,yH,lX,hres2]
        first | exact .of | exact⟨rfl,.of⟩
     ·have hdk:(e.bH || decide (k≠6))=true:=by simp[hn]
      rw[hdk] at hres2;simp[nJ,bN];refine⟨jk [(4,.ptr 5 0 0)],⟨10,bY (mG sg true ⟨st1.aB,jG st1.fo e.aR e.fst⟩ 0 3 4++[(5,some (.arr 3 [eG ⟨true,e.fst,e.aR⟩]))])⟩,bR.of [(0,0),(3,55),(4,56),(5,5)] [] (by omega) ⟨by simp,by simp⟩ ?_ ?_,?_⟩
      ·simp[mG,bN,eG]
      ·simp
      ·simp[bK,bV,RV.ev,gH,cK,yH,lX,hres2]
       first | exact .of | exact⟨rfl,.of⟩
   ·have hres2:eP sg (.mk k ps pg ks) st=(⟨false,[],[]⟩,st1):=by rw[hres];simp only[uK];rw[if_neg h57]
    by_cases h5:k < 5
    ·simp[nJ,bN,h5,jc,iR]
     refine⟨jk [(4,.ptr 5 0 0)],⟨10,bY (mG sg true st1 0 3 4++[(5,some (.arr 3 [eG ⟨false,[],[]⟩]))])⟩,bR.of [(0,0),(3,21),(4,22),(5,5)] [] (by omega) ⟨by simp,by simp⟩ ?_ ?_,?_⟩
     ·simp[mG,bN,eG]
      exact .loose (by simp)
     ·simp
     ·simp[bK,bV,RV.ev,gH,cK,yH,lX,hres2]
      first | exact .of | exact⟨rfl,.of⟩
    ·have h7:7 < k:=by omega
     simp[nJ,bN,h5,h7,jc,iR];refine⟨jk [(4,.ptr 5 0 0)],⟨10,bY (mG sg true st1 0 3 4++[(5,some (.arr 3 [eG ⟨false,[],[]⟩]))])⟩,bR.of [(0,0),(3,21),(4,22),(5,5)] [] (by omega) ⟨by simp,by simp⟩ ?_ ?_,?_⟩
     ·simp[mG,bN,eG]
      exact .loose (by simp)
     ·simp
     ·simp[bK,bV,RV.ev,gH,cK,yH,lX,hres2]
      first | exact .of | exact⟨rfl,.of⟩
  ·have hne:((es.length:Int) == 1)=false:=by simp;omega
   have hne2:¬((es.length:Int)=1):=by omega
   have hres2:eP sg (.mk k ps pg ks) st=(⟨false,[],[]⟩,st1):=by
    rw[hres]
    match es,hk1 with
    | [],_=>rfl
    | _::_::_,_=>rfl
   have ab2:((es.length:Int) != 1)=true:=by simp;omega
   simp[nJ,bN,ab2,jc,iR];refine⟨jk [(4,.ptr 5 0 0)],⟨10,bY (mG sg true st1 0 3 4++[(5,some (.arr 3 [eG ⟨false,[],[]⟩]))])⟩,bR.of [(0,0),(3,21),(4,22),(5,5)] [] (by omega) ⟨by simp,by simp⟩ ?_ ?_,?_⟩
   ·simp[mG,bN,eG]
    exact .loose (by simp)
   ·simp
   ·simp[bK,bV,RV.ev,gH,cK,yH,lX,hres2]
    first | exact .of | exact⟨rfl,.of⟩
def ZkS(KL:FuncId):AC:= (.loop (sq [ro 10 (.bin .lss (.t 9) (.t 8))] (.seq (.cond (.t 10) .skip (.exit 0)) (.seq (.block 1 (sq [ro 11 (.aI 4 (.t 7) (.t 9)),ro 12 (.load (some 4) (.t 11)),ro 5 (.alloc (.agg [(.v (.int .i64 0)),(.sl true []),(.sl true []),(.sl true [])]) 4),rn (.store 4 (.t 5) (.t 12))] (.reg none [rm 13 3,ro 14 (.load (some 4) (.t 5)),rk 15 KL [(.t 14)],ro 16 (.bin .add (.t 13) (.t 15)),ro 17 (.mm false (ci 100000) (.t 16)),rm 3 17]))) (.reg none [ro 18 (.bin .add (.t 9) (ci 1)),rm 9 18])))))
def Ig(KL:FuncId):AC:= (sq [ro 1 (.box 4 (.t 0)),ro 2 (.mv (ci 0))] (sq [ro 3 (.mv (ci 1))] (.seq (sq [rF 6 3 1,rL 7 6,ro 8 (.len (.t 7)),ro 9 (.mv (ci 0))] (.block 0 (ZkS KL))) (sq [rm 19 3,rm 2 19] .ret))))
mutual
theorem Zi9{P:Program}(hm:P.follows .mixedOrders=true){sg:Int}{ff fc f1 fd og fst fe fj tJ sM:FuncId}(F:QC P sg ff fc f1 fd og fst fe fj tJ sM)(h:vJ P ff (Av fc f1 fd og fst fe fj tJ sM) [.c 4 (some 3)] 2) :
  ∀(p:aO),xG p→Fv P ff sg p
 | .mk k ps pg ks,hp=>by
  simp only[xG] at hp;exact Zjz hm F h hp.2.1 hp.1 (Zft hm F h ks hp.2.2)
theorem Zft{P:Program}(hm:P.follows .mixedOrders=true){sg:Int}{ff fc f1 fd og fst fe fj tJ sM:FuncId}(F:QC P sg ff fc f1 fd og fst fe fj tJ sM)(h:vJ P ff (Av fc f1 fd og fst fe fj tJ sM) [.c 4 (some 3)] 2) :
  ∀(ks:List aO),zK ks→∀q∈ks,Fv P ff sg q
 | [],_,q,hq=>by simp at hq
 | p::ps,hp,q,hq=>by
  simp only[zK] at hp;rcases List.mem_cons.mp hq with e | hq
  ·rw[e];exact Zi9 hm F h p hp.1
  ·exact Zft hm F h ps hp.2 q hq
end
mutual
def GX:aO→Nat
 | .mk _ _ _ ks=>1+vH ks
def vH:List aO→Nat
 | []=>0
 | q::qs=>GX q+vH qs
end
def yu(p:aO):Int:=min 100000 (GX p)
theorem Zdq:∀(a b:List aO),vH (a++b)=vH a+vH b
 | [],b=>by simp[vH]
 | p::a,b=>by simp only[List.cons_append,vH];rw[Zdq a b];omega
mutual
theorem Zpu:∀(p:aO),jv p≤GX p
 | .mk k _ _ ks=>by
  have:=Zl3 ks;simp only[jv,GX];split
  ·omega
  ·split<;>omega
theorem Zl3:∀(ks:List aO),jR ks≤vH ks
 | []=>by simp[jR,vH]
 | q::qs=>by have:=Zpu q;have:=Zl3 qs;simp only[jR,vH];omega
end
def vzI(_:Nat)(_:Unit):Prop:=True
def NW(ks:List aO)(k:Nat)(_:Unit):List (Nat×AV):=[(3,aj (min 100000 (1+vH (ks.take k):Nat))),(7,.sl false (ks.map jM)),(8,aj ks.length),(9,aj k)]
def NY(_:Nat)(_:Unit):List (Nat×Option aF):=[]
theorem ZmR{P:Program}{fz:FuncId}(k:Int)(ps:List Rg)(pg:List Int)(ks:List aO)(hl:ks.length≤100000)(hq:∀q∈ks,aN P fz [jM q] (aj (yu q))) :
  bG P 0 (Ig fz) (gG [2] (iQ (aj (yu (.mk k ps pg ks))))) (bP [jM (.mk k ps pg ks)]) S0:=by
 simp[Ig,rV,ZkS];refine wG ks.length vzI (NW ks) 5 NY () trivial ?_ ?_
 ·refine bR.of [] [] (by omega) ⟨by simp,by simp⟩ ?_ ?_
  ·simp[NY]
  ·simp[NW,vH,EY]
   omega
 ·rintro i _ hi _
  by_cases hlt:i < ks.length
  ·have hsk:ks[i]? = some ks[i]:=List.getElem?_eq_getElem hlt
   have htk:ks.take (i+1)=ks.take i++[ks[i]]:=by rw[List.take_add_one,hsk];rfl
   have hqk:=hq _ (List.getElem_mem hlt);have hcp:=Dl ks[i];have hnd:vH (ks.take (i+1))=vH (ks.take i)+GX ks[i]:=by rw[htk,Zdq];simp[vH]
   have hsz:yu ks[i]=min 100000 (GX ks[i]:Int):=rfl
   obtain⟨x1,x2,x3,x4,hx⟩:∃x1 x2 x3 x4:AV,jM ks[i]=.agg [x1,x2,x3,x4]:=by
    obtain⟨k,s,g,ks⟩:=ks[i];rw[rV];exact⟨_,_,_,_,rfl⟩
   rw[hx] at hqk hcp;generalize hnn:vH (ks.take i)=nn at *;generalize yu ks[i]=zz at *;have Zj:IntKind.i64.wrap (min 100000 (1+(nn:Int))+zz)=min 100000 (1+(nn:Int))+zz:=bI _ (by omega);simp[NW,NY,hlt,hx,bA,hnn];refine aQ.pure hqk (aK hcp aU) (aW _) ?_;simp[Zj];rw[bI _ (by omega)];refine⟨hlt,(),trivial,bR.of [] [] (by omega) ⟨by simp,by simp⟩ ?_ ?_⟩
   ·simp[NY]
   ·simp[NW,hnd,EY]
    omega
  ·have hke:i=ks.length:=by omega
   subst hke;simp[NW,NY];have e:yu (.mk k ps pg ks)=min 100000 (1+(vH ks:Int)):=by simp only[yu,GX];push_cast;rfl
   rw[e];exact Cm _ _
mutual
theorem ZmT{P:Program}(hm:P.follows .mixedOrders=true){f:FuncId}(h:Is P f (Ig f) [2] 1):∀(p:aO),xG p→aN P f [jM p] (aj (yu p))
 | .mk k ps pg ks,hp=>by
  simp only[xG] at hp;exact h.sS hm rfl (ZmR k ps pg ks hp.2.1 (ZiV hm h ks hp.2.2))
theorem ZiV{P:Program}(hm:P.follows .mixedOrders=true){f:FuncId}(h:Is P f (Ig f) [2] 1):∀(ks:List aO),zK ks→∀q∈ks,aN P f [jM q] (aj (yu q))
 | [],_,q,hq=>by simp at hq
 | p::ps,hp,q,hq=>by
  simp only[zK] at hp;rcases List.mem_cons.mp hq with e | hq
  ·rw[e];exact ZmT hm h p hp.1
  ·exact ZiV hm h ps hp.2 q hq
end
def Fj(KL Ug Kz Ku rZ:FuncId):AC:= (sq [ro 2 (.box 4 (.t 0)),ro 4 (.alloc (.agg [(.v (.int .i64 0)),(.sl true []),(.sl true []),(.sl true [])]) 4),ro 5 (.mv (ci 0))] (.seq (.block 0 (sq [rm 9 1,ro 10 (.bin .lss (.t 9) (ci 1)),rm 11 10,rg 12 11 false (.mv (.t 1)),rg 13 11 false (.bin .gtr (.t 12) (ci 400)),ro 14 (.pick (.t 11) (.c (.v (.bool true))) (.t 13)),rm 8 14] (.cond (.t 8) (sq [ro 15 (.build (.agg [(.v (.int .i64 0)),(.sl true []),(.sl true []),(.sl true [])]) [] []),rn (.store 4 (.t 4) (.t 15)),ro 5 (.mv (ci 1))] .ret) (sq [ro 17 (.load (some 4) (.t 2)),rk 18 KL [(.t 17)],ro 19 (.bin .gtr (.t 18) (ci 300)),rm 16 19] (.cond (.t 16) (sq [ro 20 (.build (.agg [(.v (.int .i64 0)),(.sl true []),(.sl true []),(.sl true [])]) [] []),rn (.store 4 (.t 4) (.t 20)),ro 5 (.mv (ci 9))] .ret) .skip))))) (sq [rm 21 1,ro 22 (.build (.agg [(.v (.int .i64 0)),(.sl true []),(.sl true []),(.sl true [])]) [(0,1)] [(0,(.t 21))]),ro 23 (.build (.agg [(.v (.int .i64 0)),(.sl true []),(.sl true []),(.sl true [])]) [(0,4)] [(0,(.t 22))]),ro 24 (.box 4 (.t 23)),rm 6 24] (sq [rm 25 6,rk 26 Ug [(.t 25),(.c (.sl true []))]] (sq [rm 27 6,ro 28 (.load (some 4) (.t 2)),rk 29 Kz [(.t 27),(.t 28)],ro 7 (.alloc (.agg [(.v (.bool false)),(.sl true []),(.sl true [])]) 3),rn (.store 3 (.t 7) (.t 29))] (.seq (.reg (some [[],[],[],[],[],[],[],[],[],[],[],[false,true,true,false,false,true]]) [rm 30 6,ro 31 (.iP (.t 30)),rF 32 0 31,rF 33 2 32,rL 34 33,rm 35 6,rF 36 1 7,rL 37 36,rF 38 2 7,rL 39 38,ro 40 (.aI 1 (.t 34) (ci 0)),rn (.store 1 (.t 40) (.t 37)),ro 41 (.iP (.t 35)),rF 42 0 41,rF 43 3 42,rn (.store 1 (.t 43) (.t 39))]) (.seq (sq [rF 44 0 7,rL 45 44] (.cond (.t 45) (.reg none [rm 46 6,rF 47 2 7,rL 48 47,rk 49 Ku [(.t 48)],ro 50 (.cO 1 1 (.v (.int .i64 0)) [(0,(ci 0))]),ro 51 (.app 1 8 (.t 49) (.t 50)),rk 52 rZ [(.t 51)],ro 53 (.iP (.t 46)),rF 54 0 53,rF 55 3 54,rn (.store 1 (.t 55) (.t 52))]) .skip)) (sq [rm 56 6,ro 57 (.iP (.t 56)),rF 58 0 57,ro 59 (.load (some 4) (.t 58)),rn (.store 4 (.t 4) (.t 59)),ro 5 (.mv (ci 0))] .ret))))))))
def Bj:Net:=⟨0,[],[],[]⟩
def qE(p:aO)(sg:Int):Net×Int:=if sg < 1∨400 < sg then (Bj,1) else if 300 < yu p then (Bj,9) else (nP p sg,0)
def DV(r:Net×Int):AV:=.aM [ji r.1,aj r.2]
theorem ZkZ(r:Net×Int):aY (DV r):=.aM _ (aK (BF _) (aK (aW _) aU))
theorem Xd(g:Nat→Option aF)(e:Int):Fz g (.aM [.agg [.v (.int .i64 0),.sl true [],.sl true [],.sl true []],.v (.int .i64 e)]) (DV (Bj,e)):=
 .H8 (.cons (.K6 (.cons (.closed _ (.v _)) (.cons Mi (.cons Mi (.cons Mi .nil))))) (.cons (.closed _ (.v _)) .nil))
theorem Yk{p:aO}(h:¬300 < yu p):jv p≤300:=by
 have:=Zpu p;unfold yu at h;omega
theorem Zia{g:Nat→Option aF}{id n:Nat}{l:List (List Int)}(hg:g id=some (.arr 1 (l.map aA)))(hn:n=l.length):Fz g (.own id 0 n) (aX l):=by
 have:=Bb (g:=g) (o:=true) (id:=id) (xs:=l.map aA) (by rw[bE];exact hg) (jw l);rw[bZ,List.length_map,←hn] at this;exact this
theorem ZqW{g:Nat→Option aF}{id n:Nat}{l:List Int}(hg:g id=some (.arr 1 (l.map aj)))(hn:n=l.length):Fz g (.own id 0 n) (aA l):=by
 have:=Bb (g:=g) (o:=true) (id:=id) (xs:=l.map aj) (by rw[bE];exact hg) (jr l);rw[bZ,List.length_map,←hn] at this;exact this
theorem Zlu{g:Nat→Option aF}{sg:Int}{b c:Nat}{aB fo:List (List Int)}{x l:List Int}(h1:g b=some (.arr 1 (aB.map aA)))(h2:g c=some (.arr 1 ((fo.set 0 x).map aA))) :
  Fz g (.aM [.agg [.v (.int .i64 sg),.own b 0 aB.length,.own c 0 fo.length,aA l],.v (.int .i64 0)]) (DV (⟨sg,aB,fo.set 0 x,l⟩,0)):=
 .H8 (.cons (.K6 (.cons (.closed _ (.v _)) (.cons (Zia h1 rfl) (.cons (Zia h2 (by simp)) (.cons (.closed _ (aS _)) .nil))))) (.cons (.closed _ (.v _)) .nil))
theorem K3{P:Program}{fz fst ff fc og:FuncId}{p:aO}{sg:Int}(hz:aN P fz [jM p] (aj (yu p)))(hs:oM P fst [aA []] sg false ⟨[],[]⟩ st0 (aj 0))(hf:Fv P ff sg p)
  (hc:wT P fc (rU 1 8 (.v (.int .i64 0))) [.t 2] 1) (hset:Jm P og) :
  bG P 0 (Fj fz fst ff fc og) (bK [.c 4 (some 4),.t 5] (iQ (DV (qE p sg)))) (bP [jM p,aj sg]) S0:=by
 obtain⟨k,ps,pg,ks⟩:=p;have hcp:=Dl (.mk k ps pg ks);by_cases h1:sg < 1
 ·have hr:qE (.mk k ps pg ks) sg=(Bj,1):=by rw[qE,if_pos (.inl h1)]
  rw[hr];simp[Fj,rV,bA,jc,iR,h1,bK,bV,RV.ev,gH,cK];exact Xd _ 1
 by_cases h2:400 < sg
 ·have hr:qE (.mk k ps pg ks) sg=(Bj,1):=by rw[qE,if_pos (.inr h2)]
  rw[hr];simp[Fj,rV,bA,jc,iR,h1,h2,bK,bV,RV.ev,gH,cK];exact Xd _ 1
 have hsz:=hz;simp only[rV,aj] at hsz hcp;by_cases h3:300 < yu (.mk k ps pg ks)
 ·have hr:qE (.mk k ps pg ks) sg=(Bj,9):=by rw[qE,if_neg (by omega),if_pos h3]
  rw[hr];simp[Fj,rV,bA,h1,h2];refine aQ.pure hsz (aK hcp aU) (aW _) ?_;simp[jc,iR,h3,bK,bV,RV.ev,gH,cK];exact Xd _ 9
 have hr:qE (.mk k ps pg ks) sg=(nP (.mk k ps pg ks) sg,0):=by rw[qE,if_neg (by omega),if_neg h3]
 rw[hr];have hcnt:=Yk h3;have hN0:rT st0:=⟨rfl,fun r hr=>by simp[st0] at hr;subst hr;exact jm.nil⟩;have Nq:=hf st0 hN0 (by show 1+_≤_;omega);obtain⟨n1,n2,n3⟩:=ZlA sg (.mk k ps pg ks) st0 hN0;simp only[rV,aj] at Nq;have hno:nP (.mk k ps pg ks) sg=⟨sg,(eP sg (.mk k ps pg ks) st0).2.aB,(eP sg (.mk k ps pg ks) st0).2.fo.set 0 (eP sg (.mk k ps pg ks) st0).1.fst,if (eP sg (.mk k ps pg ks) st0).1.bH=true then je ((eP sg (.mk k ps pg ks) st0).1.aR++[0]) else (eP sg (.mk k ps pg ks) st0).1.aR⟩:=rfl;rw[hno];have hb1:st0.aB.length=1:=rfl;generalize eP sg (.mk k ps pg ks) st0=ge at *;obtain⟨e,st1⟩:=ge;simp only at n1 n2 n3 Nq ⊢;have hl:=n1.len;have hfl:0 < st1.fo.length:=by omega
 have hll:=n2.l.len;simp[Fj,rV,bA,h1,h2];refine aQ.pure hsz (aK hcp aU) (aW _) ?_;simp[jc,iR,h3];refine oM.use hs (fun _=>.cons (.loose (by simp)) .nil) (aW _) (id:=17) (b:=2) (c:=3) (by simp[bN,jO]) (by simp[kQ]) (by simp[kQ]) (by simp) (by simp) ?_;simp[nJ];refine oM.use Nq (fun _=>.cl (aK hcp aU)) (Fe _) (id:=17) (b:=21) (c:=22) (by simp[bN,bZ]) (by simp[bE]) (by simp[bE]) (by simp) (by simp) ?_;cases hn:e.bH
 ·rw[if_neg (by simp)]
  simp[nJ,bN,bA,lX,IW,hfl,jW,hn,bK,bV,RV.ev,gH,cK];exact Zlu (by simp) (by simp[List.map_set])
 ·rw[if_pos rfl]
  simp[nJ,bN,bA,lX,IW,hfl,jW,hn];have hap:dF 8 e.aR.length 1:=by unfold dF;omega
  have hst:=hset (e.aR++[0]) (by rw[List.length_append];simp;omega);refine Zf7 hc e.aR (by omega) (by simp) ?_;simp[hap];refine aQ.gives [63] hst (fC.cons ?_ fC.nil) (aS _) ?_
  ·exact ZqW (l:=e.aR++[0]) (by simp[DL,aG,aj]) (by simp)
  simp[jW,Ci,kL,kV,bK,bV,RV.ev,gH,cK];exact Zlu (by simp[Ci]) (by simp[List.map_set,Ci])
def Zqw(wE:FuncId):AC:= (.loop (.seq (sq [rm 6 5,rm 7 1,ro 8 (.len (.t 7)),ro 9 (.bin .lss (.t 6) (.t 8))] (.cond (.t 9) .skip (.exit 0))) (.seq (.block 1 (.reg none [rm 12 0,rm 13 1,rm 14 5,ro 15 (.aI 1 (.t 13) (.t 14)),rL 16 15,rk 17 wE [(.t 12),(.t 16)],rm 0 17])) (.reg none [rm 10 5,ro 11 (.bin .add (.t 10) (ci 1)),rm 5 11]))))
def Z9S(wE:FuncId):AC:= (sq [ro 4 (.mv (.c (.sl true [])))] (.seq (sq [ro 5 (.mv (ci 0))] (.block 0 (Zqw wE))) (sq [rm 18 0,rm 4 18] .ret)))
def Zqx(yx:FuncId):AC:= (.loop (.seq (sq [rm 7 6,rm 8 1,ro 9 (.len (.t 8)),ro 10 (.bin .lss (.t 7) (.t 9))] (.cond (.t 10) .skip (.exit 0))) (.seq (.block 1 (.reg (some []) [rm 13 0,ro 14 (.iP (.t 13)),rF 15 0 14,rF 16 2 15,rL 17 16,rm 18 1,rm 19 6,ro 20 (.aI 1 (.t 18) (.t 19)),rL 21 20,rm 22 0,ro 23 (.iP (.t 22)),rF 24 0 23,rF 25 2 24,rL 26 25,rm 27 1,rm 28 6,ro 29 (.aI 1 (.t 27) (.t 28)),rL 30 29,ro 31 (.aI 1 (.t 26) (.t 30)),rL 32 31,rm 33 2,rk 34 yx [(.t 32),(.t 33)],ro 35 (.aI 1 (.t 17) (.t 21)),rn (.store 1 (.t 35) (.t 34))])) (.reg none [rm 11 6,ro 12 (.bin .add (.t 11) (ci 1)),rm 6 12]))))
def Z6S(yx:FuncId):AC:= (sq [ro 6 (.mv (ci 0))] (.block 0 (Zqx yx)))
def Zqy(xO:FuncId):AC:= (.loop (.seq (sq [rm 6 5,rF 7 3 3,rL 8 7,ro 9 (.len (.t 8)),ro 10 (.bin .lss (.t 6) (.t 9))] (.cond (.t 10) .skip (.exit 0))) (.seq (.block 1 (.reg none [rm 13 0,rF 14 3 3,rL 15 14,rm 16 5,ro 17 (.aI 4 (.t 15) (.t 16)),ro 18 (.load (some 4) (.t 17)),rk 19 xO [(.t 13),(.t 18)]])) (.reg none [rm 11 5,ro 12 (.bin .add (.t 11) (ci 1)),rm 5 12]))))
def Z7l(xO:FuncId):AC:= (sq [ro 3 (.box 4 (.t 1)),ro 4 (.alloc (.agg [(.v (.bool false)),(.sl true []),(.sl true [])]) 3)] (.seq (sq [ro 5 (.mv (ci 0))] (.block 0 (Zqy xO))) (sq [ro 20 (.build (.agg [(.v (.bool false)),(.sl true []),(.sl true [])]) [] []),rn (.store 3 (.t 4) (.t 20))] .ret)))
def ZqD(Kl:FuncId):AC:= (.loop (.seq (sq [rm 5 4,rF 6 3 1,rL 7 6,ro 8 (.len (.t 7)),ro 9 (.bin .lss (.t 5) (.t 8))] (.cond (.t 9) .skip (.exit 0))) (.seq (.block 1 (.reg none [rm 12 3,rF 13 3 1,rL 14 13,rm 15 4,ro 16 (.aI 4 (.t 14) (.t 15)),ro 17 (.load (some 4) (.t 16)),rk 18 Kl [(.t 17)],ro 19 (.bin .add (.t 12) (.t 18)),ro 20 (.mm false (ci 100000) (.t 19)),rm 3 20])) (.reg none [rm 10 4,ro 11 (.bin .add (.t 10) (ci 1)),rm 4 11]))))
def Z9j(Kl:FuncId):AC:= (sq [ro 1 (.box 4 (.t 0)),ro 2 (.mv (ci 0))] (sq [ro 3 (.mv (ci 1))] (.seq (sq [ro 4 (.mv (ci 0))] (.block 0 (ZqD Kl))) (sq [rm 21 3,rm 2 21] .ret))))
end Go.Rf
namespace Go.Rf
open Go.RowKit
structure zO(P:Program)(Ef fz fst ff fc og fe fj tJ sM fd fi f1 yX CP:FuncId):Prop where
 of:jS P Ef (Fj fz fst ff fc og) [.c 4 (some 4),.t 5] 2
 size:Is P fz (Ig fz) [2] 1
 state:Is P fst O6 [4] 2
 form:vJ P ff (Av fc f1 fd og fst fe fj tJ sM) [.c 4 (some 3)] 2
 clone:wT P fc (rU 1 8 (.v (.int .i64 0))) [.t 2] 1
 del:Is P fd (O0 fi) [4] 2
 idx:Is P fi Ld [4] 2
 f1:Is P f1 Ia [3] 2
 each:Is P fe (O8 ff) [4] 2
 join:jS P fj (O9 sM yX og) [.c 4 (some 3)] 2
 either:jS P tJ (Pf yX og) [.c 2 (some 3)] 1
 follow:Is P sM (O5 yX og) [] 3
 cat:Is P yX (LG 1 8 CP) [2] 1
 grow:Is P CP (Mc 1 8 (.v (.int .i64 0))) [4] 2
 set:Jm P og
section
variable{P:Program}{Ef fz fst ff fc og fe fj tJ sM fd fi f1 yX CP:FuncId}
theorem zO.hgrow(N:zO P Ef fz fst ff fc og fe fj tJ sM fd fi f1 yX CP)(hm:P.follows .mixedOrders=true):Mq P CP 1 (.v (.int .i64 0)):=Zhv hm (by omega) rfl (by omega) N.grow
theorem zO.wW(N:zO P Ef fz fst ff fc og fe fj tJ sM fd fi f1 yX CP)(hm:P.follows .mixedOrders=true):RQ P yX:=fun a b h=>by
 have:=Vw hm (N.hgrow hm) (aB:=8) (by omega) N.cat (enc:=aj) aW (fun _=>rfl) [(false,a),(false,b)] (by simp) (by simp;omega);simpa[aA] using this
theorem zO.P69(N:zO P Ef fz fst ff fc og fe fj tJ sM fd fi f1 yX CP)(hm:P.follows .mixedOrders=true):Zsl P yX:=fun b h=>by
 have:=Vw hm (N.hgrow hm) (aB:=8) (by omega) N.cat (enc:=aj) aW (fun _=>rfl) [(true,[]),(false,b)] (by simp) (by simp;omega);simpa[aA] using this
theorem zO.fns(N:zO P Ef fz fst ff fc og fe fj tJ sM fd fi f1 yX CP)(hm:P.follows .mixedOrders=true)(sg:Int):QC P sg ff fc f1 fd og fst fe fj tJ sM where
 clone:=N.clone
 del:=fun l hl o ho st=>ZqM hm N.del l hl o ho
  (N.idx.pure hm rfl (U6 (enc:=aj) (by unfold Len;omega) (fun _=>rfl) aW (aK (Zjo sg) aU) (fun x _=>N.f1.sS hm rfl (Zdf sg x))))
  (fun n=>N.f1.sS hm rfl (Zdf sg n)) st
 set:=N.set
 state:=fun o b st h1 h2=>ZiY hm N.state sg o b st h1 h2
 each:=fun ks hl hq st hst hb=>Zoc hm N.each hl hq st hst hb
 join:=fun es hl st hst he hb=>Zov hm N.join (N.wW hm) (N.P69 hm) N.set (fun ss be st h1 h2 h3 h4=>Zfs hm N.follow (N.wW hm) N.set sg ss be st h1 h2 h3 h4) es hl st hst he hb
 either:=fun es hl he=>N.either.sS hm rfl (ZgS (N.wW hm) N.set es hl he)
 follow:=fun ss be st h1 h2 h3 h4=>Zfs hm N.follow (N.wW hm) N.set sg ss be st h1 h2 h3 h4
theorem zO.ok(N:zO P Ef fz fst ff fc og fe fj tJ sM fd fi f1 yX CP)(hm:P.follows .mixedOrders=true)(p:aO)(hp:xG p)(sg:Int):aN P Ef [jM p,aj sg] (DV (qE p sg)):=
 N.of.sS hm rfl (K3 (ZmT hm N.size p hp) (ZiY hm N.state sg false [] ⟨[],[]⟩ rfl (by simp)) (Zi9 hm (N.fns hm sg) N.form p hp) N.clone N.set)
end
end Go.Rf
namespace Go.Rf
open Go.RowKit
attribute [local simp] oJ oH oD pF pJ pQ pK oI qm pO oF o9 jK jT jU kr pY qM qK qJ qA qL oP oL qp pR qo qG qF qC qx pU qw qI qH oK kL pG pV pW pq o8 dO iA fI gI ig fH gJ iq gX gT gY eY gN gZ gM eB eD gQ iJ iG iI iH iK fV fK fG dY fZ gu gy fO fP iL iw gP iE iB iD iC iF iM gV fQ fE fF fJ fU dx dL eZ gW iN ex au cu dM dX bM bU aG bB dV eX dR fM gL gK iy gU bL dw dz dZ d9 gD dS bA pE ow dA dJ pI oZ pX oz eu eU eO eT dW dn dU dQ dP bq qz oG oC qh o7 qd qg qj kV p9 p8 ql S0 aj aH ru qZ rA q9 qY rz rH q8 rG rO rE rM rD rJ rC mR iZ.cl bQ.cl aW dN aS jo jL mX mV mW jZ mH nu mY nk jr lu jw ny lQ kX mh nA nD nC ni kM kJ nE lZ mZ l6 kK mF jh nG
def ZsM(wE:FuncId):AC:= (.loop (.seq (sq [rm 30 7,rF 31 2 3,rL 32 31,ro 33 (.len (.t 32)),ro 34 (.bin .lss (.t 30) (.t 33))] (.cond (.t 34) .skip (.exit 1))) (.seq (.block 2 (.seq (.reg (some []) [rF 37 2 3,rL 38 37,rm 39 7,ro 40 (.aI 1 (.t 38) (.t 39)),rL 41 40,ro 42 (.bin .geq (.t 41) (ci 0)),rm 43 42,rg 44 43 true (.cZ 2 (.t 3)),rg 45 43 true (.load none (.t 44)),rg 46 43 true (.mv (.t 7)),rg 47 43 true (.aI 1 (.t 45) (.t 46)),rg 48 43 true (.load none (.t 47)),rg 49 43 true (.mv (.t 0)),rg 50 43 true (.iP (.t 49)),rg 51 43 true (.cZ 0 (.t 50)),rg 52 43 true (.cZ 0 (.t 51)),rg 53 43 true (.load none (.t 52)),rg 54 43 true (.bin .lss (.t 48) (.t 53)),ro 55 (.pick (.t 43) (.t 54) (.c (.v (.bool false))))]) (.cond (.t 55) (.reg none [rm 56 6,rF 57 2 3,rL 58 57,rm 59 7,ro 60 (.aI 1 (.t 58) (.t 59)),rL 61 60,rk 62 wE [(.t 56),(.t 61)],rm 6 62]) .skip))) (.reg none [rm 35 7,ro 36 (.bin .add (.t 35) (ci 1)),rm 7 36]))))
def ZsK(xO Oh yx:FuncId):AC:= (.loop (.seq (sq [rm 96 9,rF 97 3 3,rL 98 97,ro 99 (.len (.t 98)),ro 100 (.bin .lss (.t 96) (.t 99))] (.cond (.t 100) .skip (.exit 3))) (.seq (.block 4 (sq [rm 103 0,rF 104 3 3,rL 105 104,rm 106 9,ro 107 (.aI 4 (.t 105) (.t 106)),ro 108 (.load (some 4) (.t 107)),rk 109 xO [(.t 103),(.t 108)],ro 10 (.alloc (.agg [(.v (.bool false)),(.sl true []),(.sl true [])]) 3),rn (.store 3 (.t 10) (.t 109))] (sq [rm 110 0,rF 111 2 8,rL 112 111,rF 113 1 10,rL 114 113,rk 115 Oh [(.t 110),(.t 112),(.t 114)]] (.seq (sq [rF 116 0 8,rL 117 116] (.cond (.t 117) (.reg none [rF 118 1 8,rL 119 118,rF 120 1 10,rL 121 120,rk 122 yx [(.t 119),(.t 121)],rF 123 1 8,rn (.store 1 (.t 123) (.t 122))]) .skip)) (.seq (sq [rF 124 0 10,rL 125 124] (.cond (.t 125) (.reg none [rF 126 2 8,rL 127 126,rF 128 2 10,rL 129 128,rk 130 yx [(.t 127),(.t 129)],rF 131 2 8,rn (.store 1 (.t 131) (.t 130))]) (.reg none [rF 132 2 10,rL 133 132,rF 134 2 8,rn (.store 1 (.t 134) (.t 133))]))) (.reg none [rF 135 0 8,rL 136 135,rm 137 136,rg 138 137 true (.cZ 0 (.t 10)),rg 139 137 true (.load none (.t 138)),ro 140 (.pick (.t 137) (.t 139) (.c (.v (.bool false)))),rF 141 0 8,rn (.store 1 (.t 141) (.t 140))])))))) (.reg none [rm 101 9,ro 102 (.bin .add (.t 101) (ci 1)),rm 9 102]))))
def ZsL(xO yx:FuncId):AC:= (.loop (.seq (sq [rm 147 12,rF 148 3 3,rL 149 148,ro 150 (.len (.t 149)),ro 151 (.bin .lss (.t 147) (.t 150))] (.cond (.t 151) .skip (.exit 5))) (.seq (.block 6 (sq [rm 154 0,rF 155 3 3,rL 156 155,rm 157 12,ro 158 (.aI 4 (.t 156) (.t 157)),ro 159 (.load (some 4) (.t 158)),rk 160 xO [(.t 154),(.t 159)],ro 13 (.alloc (.agg [(.v (.bool false)),(.sl true []),(.sl true [])]) 3),rn (.store 3 (.t 13) (.t 160))] (.reg (some []) [rF 161 0 11,rL 162 161,rm 163 162,rg 164 163 false (.cZ 0 (.t 13)),rg 165 163 false (.load none (.t 164)),ro 166 (.pick (.t 163) (.c (.v (.bool true))) (.t 165)),rF 167 1 11,rL 168 167,rF 169 1 13,rL 170 169,rk 171 yx [(.t 168),(.t 170)],rF 172 2 11,rL 173 172,rF 174 2 13,rL 175 174,rk 176 yx [(.t 173),(.t 175)],ro 177 (.build (.agg [(.v (.bool false)),(.sl true []),(.sl true [])]) [(0,1),(1,1),(2,1)] [(0,(.t 166)),(1,(.t 171)),(2,(.t 176))]),rn (.store 3 (.t 11) (.t 177))]))) (.reg none [rm 152 12,ro 153 (.bin .add (.t 152) (ci 1)),rm 12 153]))))
def Z7k(wE xO Oh yx P2o:FuncId):AC:= (sq [ro 3 (.box 4 (.t 1)),ro 4 (.alloc (.agg [(.v (.bool false)),(.sl true []),(.sl true [])]) 3)] (.seq (.block 0 (sq [rF 16 0 3,rL 17 16,ro 18 (.bin .eql (.t 17) (ci 1)),rm 15 18] (.cond (.t 15) (sq [ro 19 (.build (.agg [(.v (.bool false)),(.sl true []),(.sl true [])]) [(0,1)] [(0,(.c (.v (.bool true))))]),rn (.store 3 (.t 4) (.t 19))] .ret) (sq [rF 21 0 3,rL 22 21,ro 23 (.bin .eql (.t 22) (ci 2)),rm 20 23] (.cond (.t 20) (sq [rm 24 0,ro 25 (.iP (.t 24)),rF 26 0 25,rF 27 1 26,rL 28 27,ro 29 (.len (.t 28)),rm 5 29] (sq [ro 6 (.mv (.c (.sl true [])))] (.seq (sq [ro 7 (.mv (ci 0))] (.block 1 (ZsM wE))) (.seq (.reg (some [[],[],[],[],[],[],[],[],[],[false,false,false,false,false,false,false,true,true],[true],[false,true],[false,false,true],[false,false,false,true],[false,false,false,false,true],[false,false,false,false,false,true],[false,false,false,false,false,false,false,false,false,false,false,false,false,false,true,true],[],[],[],[false,false,false,false,false,false,false,false,false,false,false,false,false,false,false,false,false,false,true]]) [rm 63 0,rm 64 0,rm 65 0,ro 66 (.iP (.t 65)),rF 67 0 66,rF 68 1 67,rL 69 68,rm 70 6,ro 71 (.cO 1 1 (.sl true []) [(0,(.t 70))]),ro 72 (.app 1 24 (.t 69) (.t 71)),rm 73 0,ro 74 (.iP (.t 73)),rF 75 0 74,rF 76 2 75,rL 77 76,ro 78 (.cO 1 1 (.sl true []) [(0,(.c (.sl true [])))]),ro 79 (.app 1 24 (.t 77) (.t 78)),ro 80 (.iP (.t 63)),rF 81 0 80,rF 82 1 81,rn (.store 1 (.t 82) (.t 72)),ro 83 (.iP (.t 64)),rF 84 0 83,rF 85 2 84,rn (.store 1 (.t 85) (.t 79))]) (sq [rm 86 5,ro 87 (.cO 1 1 (.v (.int .i64 0)) [(0,(.t 86))]),rm 88 5,ro 89 (.cO 1 1 (.v (.int .i64 0)) [(0,(.t 88))]),ro 90 (.build (.agg [(.v (.bool false)),(.sl true []),(.sl true [])]) [(1,1),(2,1)] [(1,(.t 87)),(2,(.t 89))]),rn (.store 3 (.t 4) (.t 90))] .ret))))) (sq [rF 92 0 3,rL 93 92,ro 94 (.bin .eql (.t 93) (ci 3)),rm 91 94] (.cond (.t 91) (sq [ro 95 (.build (.agg [(.v (.bool false)),(.sl true []),(.sl true [])]) [(0,1)] [(0,(.c (.v (.bool true))))]),ro 8 (.alloc (.agg [(.v (.bool false)),(.sl true []),(.sl true [])]) 3),rn (.store 3 (.t 8) (.t 95))] (.seq (sq [ro 9 (.mv (ci 0))] (.block 3 (ZsK xO Oh yx))) (sq [ro 142 (.load (some 3) (.t 8)),rn (.store 3 (.t 4) (.t 142))] .ret))) (sq [rF 144 0 3,rL 145 144,ro 146 (.bin .eql (.t 145) (ci 4)),rm 143 146] (.cond (.t 143) (sq [ro 11 (.alloc (.agg [(.v (.bool false)),(.sl true []),(.sl true [])]) 3)] (.seq (sq [ro 12 (.mv (ci 0))] (.block 5 (ZsL xO yx))) (sq [ro 178 (.load (some 3) (.t 11)),rn (.store 3 (.t 4) (.t 178))] .ret))) (sq [rF 180 0 3,rL 181 180,ro 182 (.bin .eql (.t 181) (ci 5)),rm 183 182,rg 184 183 false (.cZ 0 (.t 3)),rg 185 183 false (.load none (.t 184)),rg 186 183 false (.bin .eql (.t 185) (ci 6)),ro 187 (.pick (.t 183) (.c (.v (.bool true))) (.t 186)),rm 188 187,rg 189 188 false (.cZ 0 (.t 3)),rg 190 188 false (.load none (.t 189)),rg 191 188 false (.bin .eql (.t 190) (ci 7)),ro 192 (.pick (.t 188) (.c (.v (.bool true))) (.t 191)),rm 193 192,rg 194 193 true (.cZ 3 (.t 3)),rg 195 193 true (.load none (.t 194)),rg 196 193 true (.len (.t 195)),rg 197 193 true (.bin .eql (.t 196) (ci 1)),ro 198 (.pick (.t 193) (.t 197) (.c (.v (.bool false)))),rm 179 198] (.cond (.t 179) (sq [rm 199 0,rF 200 3 3,rL 201 200,ro 202 (.aI 4 (.t 201) (ci 0)),ro 203 (.load (some 4) (.t 202)),rk 204 xO [(.t 199),(.t 203)],ro 14 (.alloc (.agg [(.v (.bool false)),(.sl true []),(.sl true [])]) 3),rn (.store 3 (.t 14) (.t 204))] (.seq (sq [rF 205 0 3,rL 206 205,ro 207 (.bin .neq (.t 206) (ci 7))] (.cond (.t 207) (.reg none [rm 208 0,rF 209 2 14,rL 210 209,rF 211 1 14,rL 212 211,rk 213 Oh [(.t 208),(.t 210),(.t 212)]]) .skip)) (sq [rF 214 0 14,rL 215 214,rm 216 215,rg 217 216 false (.cZ 0 (.t 3)),rg 218 216 false (.load none (.t 217)),rg 219 216 false (.bin .neq (.t 218) (ci 6)),ro 220 (.pick (.t 216) (.c (.v (.bool true))) (.t 219)),rF 221 1 14,rL 222 221,rF 223 2 14,rL 224 223,ro 225 (.build (.agg [(.v (.bool false)),(.sl true []),(.sl true [])]) [(0,1),(1,1),(2,1)] [(0,(.t 220)),(1,(.t 222)),(2,(.t 224))]),rn (.store 3 (.t 4) (.t 225))] .ret))) .skip))))))))))) (sq [rm 226 0,ro 227 (.load (some 4) (.t 3)),rk 228 P2o [(.t 226),(.t 227)],rn (.store 3 (.t 4) (.t 228))] .ret)))
end Go.Rf
namespace Go.Rf
open Go.RowKit
attribute [local simp] oJ oH oD pF pJ pQ pK oI qm pO oF o9 jK jT jU kr pY qM qK qJ qA qL oP oL qp pR qo qG qF qC qx pU qw qI qH oK kL pG pV pW pq o8 dO iA fI gI ig fH gJ iq gX gT gY eY gN gZ gM eB eD gQ iJ iG iI iH iK fV fK fG dY fZ gu gy fO fP iL iw gP iE iB iD iC iF iM gV fQ fE fF fJ fU dx dL eZ gW iN ex au cu dM dX bM bU aG bB dV eX dR fM gL gK iy gU bL dw dz dZ d9 gD dS bA pE ow dA dJ pI oZ pX oz eu eU eO eT dW dn dU dQ dP bq qz oG oC qh o7 qd qg qj kV p9 p8 ql S0 aj aH ru qZ rA q9 qY rz rH q8 rG rO rE rM rD rJ rC
def Vs(P5l:FuncId):AC:= (sq [ro 4 (.box 4 (.t 0)),ro 8 (.alloc (.agg [(.v (.int .i64 0)),(.sl true []),(.sl true [])]) 3),ro 9 (.mv (ci 0))] (sq [ro 13 (.load (some 4) (.t 4)),rm 14 1,rk 15 P5l [(.t 13),(.t 14)],rm 12 15,ro 16 (.ext 0 (.t 12)),ro 17 (.ext 1 (.t 12)),ro 10 (.alloc (.agg [(.v (.int .i64 0)),(.sl true []),(.sl true []),(.sl true [])]) 4),rn (.store 4 (.t 10) (.t 16)),rm 11 17] (.seq (sq [rm 18 11,ro 19 (.bin .neq (.t 18) (ci 0))] (.cond (.t 19) (sq [ro 20 (.build (.agg [(.v (.int .i64 0)),(.sl true []),(.sl true [])]) [] []),rm 21 11,rn (.store 3 (.t 8) (.t 20)),rm 9 21] .ret) .skip)) (sq [rm 22 3,ro 23 (.load (some 4) (.t 10)),rm 24 2,⟨(some 25),.mv (.c .junk),none,(some ((.t 22),[(.t 23),(.t 24)]))⟩,ro 26 (.ext 0 (.t 25)),ro 27 (.ext 1 (.t 25)),rn (.store 3 (.t 8) (.t 26)),rm 9 27] .ret))))
def EW(P44 P4Z P4Y P5f P5b:FuncId):AC:= (sq [ro 3 (.box 11 (.t 0)),ro 6 (.alloc (.agg [(.v (.int .i64 0)),(.sl true []),(.sl true [])]) 3),ro 7 (.mv (ci 0))] (.seq (sq [rm 12 1,ro 13 (.bin .lss (.t 12) (ci 1)),rm 14 13,rg 15 14 false (.mv (.t 1)),rg 16 14 false (.bin .gtr (.t 15) (ci 200)),ro 17 (.pick (.t 14) (.c (.v (.bool true))) (.t 16)),rm 18 17,rg 19 18 false (.mv (.t 2)),rg 20 18 false (.bin .lss (.t 19) (ci 1)),ro 21 (.pick (.t 18) (.c (.v (.bool true))) (.t 20)),rm 22 21,rg 23 22 false (.mv (.t 2)),rg 24 22 false (.bin .gtr (.t 23) (ci 3000)),ro 25 (.pick (.t 22) (.c (.v (.bool true))) (.t 24))] (.cond (.t 25) (sq [ro 26 (.build (.agg [(.v (.int .i64 0)),(.sl true []),(.sl true [])]) [] []),rn (.store 3 (.t 6) (.t 26)),ro 7 (.mv (ci 1))] .ret) .skip)) (sq [rF 28 2 3,ro 29 (.load (some 4) (.t 28)),rm 30 1,rm 31 2,rk 32 P44 [(.t 29),(.t 30),(.t 31),(.c (.aP P4Z [] []))],rm 27 32,ro 33 (.ext 0 (.t 27)),ro 34 (.ext 1 (.t 27)),ro 8 (.alloc (.agg [(.v (.int .i64 0)),(.sl true []),(.sl true [])]) 3),rn (.store 3 (.t 8) (.t 33)),rm 9 34] (.seq (sq [rm 35 9,ro 36 (.bin .neq (.t 35) (ci 0))] (.cond (.t 36) (sq [ro 37 (.build (.agg [(.v (.int .i64 0)),(.sl true []),(.sl true [])]) [] []),rm 38 9,rn (.store 3 (.t 6) (.t 37)),rm 7 38] .ret) .skip)) (sq [rF 40 6 3,ro 41 (.load (some 4) (.t 40)),rm 42 1,rm 43 2,rk 44 P44 [(.t 41),(.t 42),(.t 43),(.c (.aP P4Y [] []))],rm 39 44,ro 45 (.ext 0 (.t 39)),ro 46 (.ext 1 (.t 39)),ro 10 (.alloc (.agg [(.v (.int .i64 0)),(.sl true []),(.sl true [])]) 3),rn (.store 3 (.t 10) (.t 45)),rm 9 46] (.seq (sq [rm 47 9,ro 48 (.bin .neq (.t 47) (ci 0))] (.cond (.t 48) (sq [ro 49 (.build (.agg [(.v (.int .i64 0)),(.sl true []),(.sl true [])]) [] []),rm 50 9,rn (.store 3 (.t 6) (.t 49)),rm 7 50] .ret) .skip)) (sq [ro 52 (.load (some 3) (.t 8)),ro 53 (.load (some 3) (.t 10)),rm 54 2,rk 55 P5f [(.t 52),(.t 53),(.t 54)],rm 51 55,ro 56 (.ext 0 (.t 51)),ro 57 (.ext 1 (.t 51)),ro 11 (.alloc (.agg [(.v (.int .i64 0)),(.sl true []),(.sl true [])]) 3),rn (.store 3 (.t 11) (.t 56)),rm 9 57] (.seq (sq [rm 58 9,ro 59 (.bin .neq (.t 58) (ci 0))] (.cond (.t 59) (sq [ro 60 (.build (.agg [(.v (.int .i64 0)),(.sl true []),(.sl true [])]) [] []),rm 61 9,rn (.store 3 (.t 6) (.t 60)),rm 7 61] .ret) .skip)) (sq [ro 62 (.load (some 3) (.t 11)),rk 63 P5b [(.t 62)],ro 64 (.ext 0 (.t 63)),ro 65 (.ext 1 (.t 63)),rn (.store 3 (.t 6) (.t 64)),rm 7 65] .ret)))))))))
def Zas(ZQ P3f P3e P41 P40:FuncId):AC:= (sq [ro 3 (.box 11 (.t 0)),ro 6 (.alloc (.agg [(.v (.int .i64 0)),(.sl true []),(.sl true [])]) 3),ro 7 (.mv (ci 0))] (.seq (sq [rm 14 1,ro 15 (.bin .lss (.t 14) (ci 1)),rm 16 15,rg 17 16 false (.mv (.t 1)),rg 18 16 false (.bin .gtr (.t 17) (ci 200)),ro 19 (.pick (.t 16) (.c (.v (.bool true))) (.t 18)),rm 20 19,rg 21 20 false (.mv (.t 2)),rg 22 20 false (.bin .lss (.t 21) (ci 1)),ro 23 (.pick (.t 20) (.c (.v (.bool true))) (.t 22)),rm 24 23,rg 25 24 false (.mv (.t 2)),rg 26 24 false (.bin .gtr (.t 25) (ci 3000)),ro 27 (.pick (.t 24) (.c (.v (.bool true))) (.t 26))] (.cond (.t 27) (sq [ro 28 (.build (.agg [(.v (.int .i64 0)),(.sl true []),(.sl true [])]) [] []),rn (.store 3 (.t 6) (.t 28)),ro 7 (.mv (ci 1))] .ret) .skip)) (sq [rF 30 2 3,ro 31 (.load (some 4) (.t 30)),rm 32 1,rk 33 ZQ [(.t 31),(.t 32)],rm 29 33,ro 34 (.ext 0 (.t 29)),ro 35 (.ext 1 (.t 29)),ro 8 (.alloc (.agg [(.v (.int .i64 0)),(.sl true []),(.sl true []),(.sl true [])]) 4),rn (.store 4 (.t 8) (.t 34)),rm 9 35] (.seq (sq [rm 36 9,ro 37 (.bin .neq (.t 36) (ci 0))] (.cond (.t 37) (sq [ro 38 (.build (.agg [(.v (.int .i64 0)),(.sl true []),(.sl true [])]) [] []),rm 39 9,rn (.store 3 (.t 6) (.t 38)),rm 7 39] .ret) .skip)) (sq [ro 41 (.load (some 4) (.t 8)),rm 42 2,rk 43 P3f [(.t 41),(.t 42)],rm 40 43,ro 44 (.ext 0 (.t 40)),ro 45 (.ext 1 (.t 40)),ro 10 (.alloc (.agg [(.v (.int .i64 0)),(.sl true []),(.sl true [])]) 3),rn (.store 3 (.t 10) (.t 44)),rm 9 45] (.seq (sq [rm 46 9,ro 47 (.bin .neq (.t 46) (ci 0))] (.cond (.t 47) (sq [ro 48 (.build (.agg [(.v (.int .i64 0)),(.sl true []),(.sl true [])]) [] []),rm 49 9,rn (.store 3 (.t 6) (.t 48)),rm 7 49] .ret) .skip)) (sq [rF 51 6 3,ro 52 (.load (some 4) (.t 51)),rm 53 1,rk 54 ZQ [(.t 52),(.t 53)],rm 50 54,ro 55 (.ext 0 (.t 50)),ro 56 (.ext 1 (.t 50)),ro 11 (.alloc (.agg [(.v (.int .i64 0)),(.sl true []),(.sl true []),(.sl true [])]) 4),rn (.store 4 (.t 11) (.t 55)),rm 9 56] (.seq (sq [rm 57 9,ro 58 (.bin .neq (.t 57) (ci 0))] (.cond (.t 58) (sq [ro 59 (.build (.agg [(.v (.int .i64 0)),(.sl true []),(.sl true [])]) [] []),rm 60 9,rn (.store 3 (.t 6) (.t 59)),rm 7 60] .ret) .skip)) (sq [ro 62 (.load (some 4) (.t 11)),rm 63 2,rk 64 P3e [(.t 62),(.t 63)],rm 61 64,ro 65 (.ext 0 (.t 61)),ro 66 (.ext 1 (.t 61)),ro 12 (.alloc (.agg [(.v (.int .i64 0)),(.sl true []),(.sl true [])]) 3),rn (.store 3 (.t 12) (.t 65)),rm 9 66] (.seq (sq [rm 67 9,ro 68 (.bin .neq (.t 67) (ci 0))] (.cond (.t 68) (sq [ro 69 (.build (.agg [(.v (.int .i64 0)),(.sl true []),(.sl true [])]) [] []),rm 70 9,rn (.store 3 (.t 6) (.t 69)),rm 7 70] .ret) .skip)) (sq [ro 72 (.load (some 3) (.t 10)),ro 73 (.load (some 3) (.t 12)),rm 74 2,rk 75 P41 [(.t 72),(.t 73),(.t 74)],rm 71 75,ro 76 (.ext 0 (.t 71)),ro 77 (.ext 1 (.t 71)),ro 13 (.alloc (.agg [(.v (.int .i64 0)),(.sl true []),(.sl true [])]) 3),rn (.store 3 (.t 13) (.t 76)),rm 9 77] (.seq (sq [rm 78 9,ro 79 (.bin .neq (.t 78) (ci 0))] (.cond (.t 79) (sq [ro 80 (.build (.agg [(.v (.int .i64 0)),(.sl true []),(.sl true [])]) [] []),rm 81 9,rn (.store 3 (.t 6) (.t 80)),rm 7 81] .ret) .skip)) (sq [ro 82 (.load (some 3) (.t 13)),rk 83 P40 [(.t 82)],ro 84 (.ext 0 (.t 83)),ro 85 (.ext 1 (.t 83)),rn (.store 3 (.t 6) (.t 84)),rm 7 85] .ret)))))))))))))
def Al:aD:=⟨0,[],[]⟩
def lD(kd:Kd)(p:aO)(sg most:Int):aD×Int:=if (qE p sg).2=0 then uj kd (qE p sg).1 most else (Al,(qE p sg).2)
def Ba(x:aD×Int)(f:aD→aD×Int):aD×Int:=if x.2=0 then f x.1 else (Al,x.2)
def xu(r:wX)(sg most:Int):aD×Int:=
 if sg < 1∨200 < sg∨most < 1∨3000 < most then (Al,1) else
  Ba (lD .tails r.before sg most) fun b=>Ba (lD .heads r.after sg most) fun a=>Ba (lY b a most) wM
theorem Zg7{P:Program}{fn fk:FuncId}(p:aO)(sg most:Int)(kd:Kd)(hn:aN P fn [jM p,aj sg] (DV (qE p sg)))
  (hk:aN P fk [ji (qE p sg).1,aj most] (jV (uj kd (qE p sg).1 most))) :
  bG P 0 (Vs fn) (bK [.c 8 (some 3),.t 9] (iQ (jV (lD kd p sg most)))) (bP [jM p,aj sg,aj most,.aP fk [] []]) S0:=by
 unfold lD;have hcp:=Dl p;have hcn:=ZkZ (qE p sg);obtain⟨pk,ps,pg,Ew⟩:=p;have hpp:AV.agg [.v (.int .i64 pk),Ct ps,aA pg,.sl false (Ew.map jM)]=jM (.mk pk ps pg Ew):=by rw[rV];rfl
 have hpc:(jM (.mk pk ps pg Ew)).cells=[.v (.int .i64 pk),Ct ps,aA pg,.sl false (Ew.map jM)]:=by rw[rV];rfl
 have hps:(jM (.mk pk ps pg Ew)).solid=true:=by rw[rV];rfl
 generalize qE (.mk pk ps pg Ew) sg=ne at *;obtain⟨n,e⟩:=ne;simp only[DV] at hn hcn;simp only at hk;simp[Vs,hpp,hpc,hps];refine aQ.pure hn (aK hcp (aK (aW _) aU)) hcn ?_;have ec:(ji n).cells=[aj n.signs,aX n.aB,aX n.follow,aA n.last]:=rfl;have es:(ji n).solid=true:=rfl;have hae:AV.agg [.v (.int .i64 n.signs),aX n.aB,aX n.follow,aA n.last]=ji n:=rfl;by_cases h0:e=0
 ·subst h0
  have hcd:=BI (uj kd n most);generalize uj kd n most=r at *;obtain⟨d,f⟩:=r;simp only[jV] at hk hcd;simp[bA,ec,es,hae];refine aQ.pure hk (aK (BF n) (aK (aW _) aU)) hcd ?_;simp[bK,bV,RV.ev,gH,cK];exact .closed _ hcd
 ·have h0':(e != 0)=true:=by simp[h0]
  simp[bA,ec,es,h0,h0',bK,bV,RV.ev,gH,cK,jc,iR];exact vU _ _
theorem Zfk{num:Int}{cut:Bool}{b a:aO}{pos:Int}{bk:Int}{bs:List Rg}{bg:List Int}{YM:List aO}{ak:Int}{YJ:List Rg}{ag:List Int}{YI:List aO}(hb:b=.mk bk bs bg YM)(ha:a=.mk ak YJ ag YI) :
  FJ ⟨num,cut,b,a,pos⟩=.agg [.v (.int .i64 num),.v (.bool cut),.v (.int .i64 bk),Ct bs,aA bg,.sl false (YM.map jM),.v (.int .i64 ak),Ct YJ,aA ag,.sl false (YI.map jM),.v (.int .i64 pos)]:=by
 subst hb;subst ha;unfold FJ;simp[rV,AV.cells,aj,aH]
theorem Zmq(p:aO):∃k s g ks,p=.mk k s g ks∧AV.agg [.v (.int .i64 k),Ct s,aA g,.sl false (ks.map jM)]=jM p:=by
 obtain⟨k,s,g,ks⟩:=p;exact⟨k,s,g,ks,rfl,by rw[rV];rfl⟩
theorem ZfJ{P:Program}{fs ft fh fm fl:FuncId}(r:wX)(sg most:Int)
  (h1:aN P fs [jM r.before,aj sg,aj most,.aP ft [] []] (jV (lD .tails r.before sg most)))
  (h2:aN P fs [jM r.after,aj sg,aj most,.aP fh [] []] (jV (lD .heads r.after sg most)))
  (h3:(lD .tails r.before sg most).2=0→(lD .heads r.after sg most).2=0→aN P fm [aT (lD .tails r.before sg most).1,aT (lD .heads r.after sg most).1,aj most] (jV (lY (lD .tails r.before sg most).1 (lD .heads r.after sg most).1 most)))
  (h4:(lD .tails r.before sg most).2=0→(lD .heads r.after sg most).2=0→(lY (lD .tails r.before sg most).1 (lD .heads r.after sg most).1 most).2=0→
   aN P fl [aT (lY (lD .tails r.before sg most).1 (lD .heads r.after sg most).1 most).1] (jV (wM (lY (lD .tails r.before sg most).1 (lD .heads r.after sg most).1 most).1))) :
  bG P 0 (EW fs ft fh fm fl) (bK [.c 6 (some 3),.t 7] (iQ (jV (xu r sg most)))) (bP [FJ r,aj sg,aj most]) S0:=by
 obtain⟨num,cut,b,a,pos⟩:=r;simp only at h1 h2 h3 h4;obtain⟨bk,bs,bg,YM,hb,hpb⟩:=Zmq b;obtain⟨ak,YJ,ag,YI,ha,hpa⟩:=Zmq a;have hcl:=Zfk (num:=num) (cut:=cut) (pos:=pos) hb ha;have hcb:=Dl b;have hca:=Dl a;unfold xu;rw[hcl];by_cases g1:sg < 1
 ·rw[if_pos (.inl g1)]
  simp[EW,g1,bK,bV,RV.ev,gH,cK,jc,iR,bA];exact vU _ _
 by_cases g2:200 < sg
 ·rw[if_pos (.inr (.inl g2))]
  simp[EW,g1,g2,bK,bV,RV.ev,gH,cK,jc,iR,bA];exact vU _ _
 by_cases g3:most < 1
 ·rw[if_pos (.inr (.inr (.inl g3)))]
  simp[EW,g1,g2,g3,bK,bV,RV.ev,gH,cK,jc,iR,bA];exact vU _ _
 by_cases g4:3000 < most
 ·rw[if_pos (.inr (.inr (.inr g4)))]
  simp[EW,g1,g2,g3,g4,bK,bV,RV.ev,gH,cK,jc,iR,bA];exact vU _ _
 rw[if_neg (by omega)];have k1:=BI (lD .tails b sg most);have k2:=BI (lD .heads a sg most);generalize lD .tails b sg most=x at *;generalize lD .heads a sg most=y at *;obtain⟨xd,xe⟩:=x;obtain⟨yd,ye⟩:=y;simp only[jV] at h1 h2 k1 k2;simp only at h3 h4;unfold Ba;simp only;simp[EW,g1,g2,g3,g4,bA,hpb];refine aQ.pure h1 (aK hcb (aK (aW _) (aK (aW _) (aK (.aP _ _ _ aU aU) aU)))) k1 ?_;by_cases hx:xe=0;rotate_left
 ·rw[if_neg hx]
  have Ng:(xe != 0)=true:=by simp[hx]
  simp[Ng,bK,bV,RV.ev,gH,cK,jc,iR,bA];exact vU _ _
 subst hx;rw[if_pos rfl];simp[bA,hpa];refine aQ.pure h2 (aK hca (aK (aW _) (aK (aW _) (aK (.aP _ _ _ aU aU) aU)))) k2 ?_;by_cases hy:ye=0;rotate_left
 ·rw[if_neg hy]
  have Ng:(ye != 0)=true:=by simp[hy]
  simp[Ng,bK,bV,RV.ev,gH,cK,jc,iR,bA];exact vU _ _
 subst hy;rw[if_pos rfl];have h3:=h3 (by trivial) (by trivial);have h4:=h4 (by trivial) (by trivial);have k3:=BI (lY xd yd most);generalize lY xd yd most=z at *;obtain⟨zd,ze⟩:=z;simp only[jV] at h3 k3;simp only at h4;simp only;simp[bA];refine aQ.pure h3 (aK (iV _) (aK (iV _) (aK (aW _) aU))) k3 ?_;by_cases hz:ze=0;rotate_left
 ·rw[if_neg hz]
  have Ng:(ze != 0)=true:=by simp[hz]
  simp[Ng,bK,bV,RV.ev,gH,cK,jc,iR,bA];exact vU _ _
 subst hz;rw[if_pos rfl];have h4:=h4 rfl;have k4:=BI (wM zd);generalize wM zd=w at *;obtain⟨wd,we⟩:=w;simp only[jV] at h4 k4;simp[bA];refine aQ.pure h4 (aK (iV _) aU) k4 ?_;simp[bK,bV,RV.ev,gH,cK,jV];exact .closed _ k4
def Zao(Kl xO wE:FuncId):AC:= (sq [ro 2 (.box 4 (.t 0)),ro 4 (.alloc (.agg [(.v (.int .i64 0)),(.sl true []),(.sl true []),(.sl true [])]) 4),ro 5 (.mv (ci 0))] (.seq (.block 0 (sq [rm 9 1,ro 10 (.bin .lss (.t 9) (ci 1)),rm 11 10,rg 12 11 false (.mv (.t 1)),rg 13 11 false (.bin .gtr (.t 12) (ci 400)),ro 14 (.pick (.t 11) (.c (.v (.bool true))) (.t 13)),rm 8 14] (.cond (.t 8) (sq [ro 15 (.build (.agg [(.v (.int .i64 0)),(.sl true []),(.sl true []),(.sl true [])]) [] []),rn (.store 4 (.t 4) (.t 15)),ro 5 (.mv (ci 1))] .ret) (sq [ro 17 (.load (some 4) (.t 2)),rk 18 Kl [(.t 17)],ro 19 (.bin .gtr (.t 18) (ci 300)),rm 16 19] (.cond (.t 16) (sq [ro 20 (.build (.agg [(.v (.int .i64 0)),(.sl true []),(.sl true []),(.sl true [])]) [] []),rn (.store 4 (.t 4) (.t 20)),ro 5 (.mv (ci 9))] .ret) .skip))))) (sq [rm 21 1,ro 22 (.app 1 24 (.c (.sl true [])) (.c (.sl true [(.sl true [])]))),ro 23 (.app 1 24 (.c (.sl true [])) (.c (.sl true [(.sl true [])]))),ro 24 (.build (.agg [(.v (.int .i64 0)),(.sl true []),(.sl true []),(.sl true [])]) [(0,1),(1,1),(2,1)] [(0,(.t 21)),(1,(.t 22)),(2,(.t 23))]),ro 25 (.build (.agg [(.v (.int .i64 0)),(.sl true []),(.sl true []),(.sl true [])]) [(0,4)] [(0,(.t 24))]),ro 26 (.box 4 (.t 25)),rm 6 26] (sq [rm 27 6,ro 28 (.load (some 4) (.t 2)),rk 29 xO [(.t 27),(.t 28)],ro 7 (.alloc (.agg [(.v (.bool false)),(.sl true []),(.sl true [])]) 3),rn (.store 3 (.t 7) (.t 29))] (.seq (.reg (some []) [rm 30 6,ro 31 (.iP (.t 30)),rF 32 0 31,rF 33 2 32,rL 34 33,rF 35 1 7,rL 36 35,ro 37 (.aI 1 (.t 34) (ci 0)),rn (.store 1 (.t 37) (.t 36))]) (sq [rm 38 6,rF 39 2 7,rL 40 39,ro 41 (.iP (.t 38)),rF 42 0 41,rF 43 3 42,rn (.store 1 (.t 43) (.t 40))] (.seq (sq [rF 44 0 7,rL 45 44] (.cond (.t 45) (.reg none [rm 46 6,rm 47 6,ro 48 (.iP (.t 47)),rF 49 0 48,rF 50 3 49,rL 51 50,rk 52 wE [(.t 51),(ci 0)],ro 53 (.iP (.t 46)),rF 54 0 53,rF 55 3 54,rn (.store 1 (.t 55) (.t 52))]) .skip)) (sq [rm 56 6,ro 57 (.iP (.t 56)),rF 58 0 57,ro 59 (.load (some 4) (.t 58)),rn (.store 4 (.t 4) (.t 59)),ro 5 (.mv (ci 0))] .ret))))))))
end Go.Rf
namespace Go.Rf
open Go.RowKit
theorem ZrT{n:Int}{u:List Int}(hu:qO n u):Bt n u=nO u:=by
 funext g a b;apply propext;unfold Bt nO;constructor
 ·rintro⟨h1,h2,h3,h4⟩;exact⟨h1,h2,h3,(Zis.mp h4).1⟩
 ·rintro⟨h1,h2,h3,h4⟩
  refine⟨h1,h2,h3,Zis.mpr ⟨h4,?_⟩⟩;have hlt:a.toNat < u.length:=by omega
  have:u.getD a.toNat 0=u[a.toNat]:=by simp[List.getD_eq_getElem?_getD,hlt]
  rw[this];exact hu _ (List.getElem_mem hlt)
theorem ZhC{p:aO}{n:Int}(h1:1≤n)(h2:n≤400)(hc:jv p≤300){u:List Int}(hu:qO n u):yO (nP p n) u=mO p u 0 u.length:=by
 rw[Zrh h1 h2 hc]
 have:mO (CQ n p) u 0 u.length=true↔mO p u 0 u.length=true:=by
  rw[AP,AP,←F4,ZrT hu]
 cases e1:mO (CQ n p) u 0 u.length<;>cases e2:mO p u 0 u.length<;>simp_all
theorem ZfW{kd:Kd}{N:Net}{most:Int}{d:aD}(h:uj kd N most=(d,0)):nT N∧1≤most∧most≤3000∧∃st,yG kd N most=some st∧d=⟨N.signs,st.2.1,st.2.2⟩:=by
 unfold uj at h;split at h
 ·rename_i hc
  refine⟨(BG _).mp hc.1,hc.2.1,hc.2.2,?_⟩;split at h
  ·rename_i st hst
   cases h;exact⟨st,hst,rfl⟩
  ·cases h
 ·cases h
def R5(p:aO)(u:List Int):Bool:=(List.range (u.length+1)).any fun i=>mO p u (i:Nat) u.length
def RY(p:aO)(u:List Int):Bool:=(List.range (u.length+1)).any fun j=>mO p u 0 (j:Nat)
theorem PV{a b:Bool}(h:a=true↔b=true):a=b:=by cases a<;>cases b<;>simp_all
theorem ZjU{p:aO}{n most:Int}{d:aD}(h1:1≤n)(h2:n≤200)(hc:jv p≤300)(h:uj .tails (nP p n) most=(d,0)) :
  bD d∧d.signs=n∧∀u,qO n u→mM d u=R5 p u:=by
 obtain⟨R,hm,hm2,st,hst,rfl⟩:=ZfW h;obtain⟨D,hacc⟩:=Zfg R hm hm2 hst;refine⟨D,rfl,fun u hu=>?_⟩;rw[hacc u hu,Zn1 ((BG _).mpr R)];apply PV;simp only[decide_eq_true_eq,Lx,R5,List.any_eq_true,List.mem_range,TD]
 have key:∀i,i≤u.length→yO (nP p n) (u.drop i)=mO p u (i:Nat) u.length:=fun i hi=>by
  rw[ZhC h1 (by omega) hc (hu.drop i)];have:=ZfI p u i u.length hi (Nat.le_refl _);rw[←this];have e1:(u.drop i).take (u.length - i)=u.drop i:=List.take_of_length_le (by simp);rw[e1,List.length_drop];congr 1;omega
 constructor
 ·rintro⟨k,hk,e⟩
  refine⟨u.length - k,by omega,?_⟩;rw[←key _ (by omega)];exact e
 ·rintro⟨i,hi,e⟩
  refine⟨u.length - i,by omega,?_⟩;have:u.length - (u.length - i)=i:=by omega
  rw[this,key _ (by omega)];exact e
theorem ZjT{p:aO}{n most:Int}{d:aD}(h1:1≤n)(h2:n≤200)(hc:jv p≤300)(h:uj .heads (nP p n) most=(d,0)) :
  bD d∧d.signs=n∧∀u,qO n u→mM d u=RY p u:=by
 obtain⟨R,hm,hm2,st,hst,rfl⟩:=ZfW h;obtain⟨D,hacc⟩:=Zfg R hm hm2 hst;refine⟨D,rfl,fun u hu=>?_⟩;rw[hacc u hu,ZlF ((BG _).mpr R)];apply PV;simp only[decide_eq_true_eq,Lx,RY,List.any_eq_true,List.mem_range,xK]
 have key:∀j,j≤u.length→yO (nP p n) (u.take j)=mO p u 0 (j:Nat):=fun j hj=>by
  rw[ZhC h1 (by omega) hc (hu.take j)];have:=PL p u 0 j (Nat.zero_le _) hj;rw[List.length_take,Nat.min_eq_left hj];exact this
 constructor
 ·rintro⟨k,hk,e⟩;exact⟨k,hk,by rw[←key _ (by omega)];exact e⟩
 ·rintro⟨k,hk,e⟩;exact⟨k,hk,by rw[key _ (by omega)];exact e⟩
def D7(r:wX)(l:List Int)(p:Nat):Bool:=((List.range (p+1)).any fun i=>mO r.before l (i:Nat) (p:Nat)) && ((List.range (l.length+1)).any fun j=>mO r.after l (p:Nat) (j:Nat))
theorem Zrc{p:aO}{l:List Int}{a b:Int}(h:mO p l a b=true):0≤a∧a≤b∧b≤l.length:=by
 have h':=AP.mp h;have h1:=FI (Xq l) p a b h'.2.2;by_cases hb:(l.length:Int) < b
 ·rw[ZoF p l a b hb] at h;cases h
 ·exact⟨h'.1,h1,by omega⟩
theorem Zlb(P:aO){l:List Int}{p:Nat}(hp:p≤l.length):R5 P (l.take p)=(List.range (p+1)).any fun i=>mO P l (i:Nat) (p:Nat):=by
 unfold R5;rw[List.length_take,Nat.min_eq_left hp];apply PV;simp only[List.any_eq_true,List.mem_range];constructor
 ·rintro⟨i,hi,e⟩;exact⟨i,hi,by rw[←PL P l i p (by omega) hp];exact e⟩
 ·rintro⟨i,hi,e⟩;exact⟨i,hi,by rw[PL P l i p (by omega) hp];exact e⟩
theorem ZkA(P:aO){l:List Int}{p:Nat}(hp:p≤l.length):RY P (l.drop p)=(List.range (l.length+1)).any fun j=>mO P l (p:Nat) (j:Nat):=by
 unfold RY;rw[List.length_drop];apply PV;simp only[List.any_eq_true,List.mem_range]
 have key:∀j,j≤l.length - p→mO P (l.drop p) 0 (j:Nat)=mO P l (p:Nat) ((p+j:Nat):Int):=fun j hj=>by
  have e1:=ZfI P l p (p+j) (by omega) (by omega);have e2:=PL P (l.drop p) 0 j (Nat.zero_le _) (by simp;omega);have e3:p+j - p=j:=by omega
  rw[e3] at e1;have e4:((p+j:Nat):Int) - (p:Nat)=(j:Nat):=by omega
  rw[e4] at e1;have e0:((0:Nat):Int)=0:=rfl;rw[e0] at e2;rw[←e2,e1]
 constructor
 ·rintro⟨j,hj,e⟩;exact⟨p+j,by omega,by rw[←key j (by omega)];exact e⟩
 ·rintro⟨j,hj,e⟩
  have:=Zrc e;refine⟨j - p,by omega,?_⟩;rw[key _ (by omega)];have:p+(j - p)=j:=by omega
  rw[this];exact e
theorem VH{x:aD×Int}{f:aD→aD×Int}{d:aD}(h:Ba x f=(d,0)):x.2=0∧f x.1=(d,0):=by
 unfold Ba at h;split at h
 ·rename_i hx;exact⟨hx,h⟩
 ·rename_i hx;simp only[Prod.mk.injEq] at h;exact(hx h.2).elim
theorem ZlZ{x d:aD}(h:wM x=(d,0)):bD x∧d=nU x:=by
 unfold wM at h;split at h
 ·rename_i hr;simp only[Prod.mk.injEq] at h;exact⟨(xP x).mp hr,h.1.symm⟩
 ·simp at h
theorem ZdC{kd:Kd}{p:aO}{n most:Int}{d:aD}(h:lD kd p n most=(d,0)):jv p≤300∧uj kd (nP p n) most=(d,0):=by
 unfold lD at h;split at h
 ·rename_i hn
  unfold qE at hn h;split at hn
  ·simp at hn
  ·rename_i h0
   rw[if_neg h0] at h;split at hn
   ·simp at hn
   ·rename_i h3
    rw[if_neg h3] at h;exact⟨Yk h3,h⟩
 ·rename_i hn;simp only[Prod.mk.injEq] at h;exact(hn h.2).elim
theorem Pt{r:wX}{n most:Int}{d:aD}(h:xu r n most=(d,0)):sD d n (D7 r)∧nU d=d∧(d.next.length:Int)≤most∧1≤n∧n≤200:=by
 unfold xu at h;split at h
 ·simp at h
 rename_i hg;have hn1:1≤n:=by omega
 have hn2:n≤200:=by omega
 obtain⟨hb,h⟩:=VH h;obtain⟨ha,h⟩:=VH h;obtain⟨hm,h⟩:=VH h;obtain⟨hR,rfl⟩:=ZlZ h;generalize hx:lD .tails r.before n most=x at *;generalize hy:lD .heads r.after n most=y at *;obtain⟨xd,xe⟩:=x;obtain⟨yd,ye⟩:=y;simp only at hb ha hm hR ⊢;subst hb;subst ha;obtain⟨cb,hb⟩:=ZdC hx;obtain⟨ca,ha⟩:=ZdC hy;obtain⟨Rb,sb,accb⟩:=ZjU hn1 hn2 cb hb;obtain⟨Ra,sa,acca⟩:=ZjT hn1 hn2 ca ha;generalize hz:lY xd yd most=z at *;obtain⟨zd,ze⟩:=z;simp only at hm;subst hm;obtain⟨M,hl⟩:=ZfG hz;rw[sb] at M
 have M2:sD zd n (D7 r):=M.congr fun l p hl h1 h2=>by
  rw[accb _ (hl.take p),acca _ (hl.drop p),Zlb _ (by omega),ZkA _ (by omega)];rfl
 refine⟨M2.least,ZjD hR,?_,hn1,hn2⟩;have:=ZoA hR;simp only at this hl ⊢;omega
def Zvj(a b:List Bool):List Bool:=List.zipWith (fun x y=>x || y) a b
def mk(a:List Bool)(j:Int):Prop:=0≤j∧a.getD j.toNat false=true
def RX(r:Int→Int→Prop):Nat→Int→Int→Prop
 | 0,i,j=>i=j
 | n+1,i,j=>∃m,RX r n i m∧r m j
theorem RX.aP{r:Int→Int→Prop}:∀(n:Nat) {i j:Int},RX r (n+1) i j→kS r i j
 | 0,i,j,⟨m,h1,h2⟩=>by cases h1;exact .one h2
 | n+1,i,j,⟨m,h1,h2⟩=>.more (RX.aP n h1) h2
end Go.Rf
namespace Go.Rf
open Go.RowKit
attribute [local simp] oJ oH oD pF pJ pQ pK oI qm pO oF o9 jK jT jU kr pY qM qK qJ qA qL oP oL qp pR qo qG qF qC qx pU qw qI qH oK kL pG pV pW pq o8 dO iA fI gI ig fH gJ iq gX gT gY eY gN gZ gM eB eD gQ iJ iG iI iH iK fV fK fG dY fZ gu gy fO fP iL iw gP iE iB iD iC iF iM gV fQ fE fF fJ fU dx dL eZ gW iN ex au cu dM dX bM bU aG bB dV eX dR fM gL gK iy gU bL dw dz dZ d9 gD dS bA pE ow dA dJ pI oZ pX oz eu eU eO eT dW dn dU dQ dP bq qz oG oC qh o7 qd qg qj kV p9 p8 ql S0 aj aH ru qZ rA q9 qY rz rH q8 rG rO rE rM rD rJ rC mR iZ.cl bQ.cl aW dN aS jo jL mX mV mW jZ mH nu mY nk jr lu jw ny lQ kX mh nA nD nC ni kM kJ nE lZ mZ l6 kK mF jh nG bZ jO bE kQ
def Zsq(P:Program)(f:FuncId)(n:Nat):Prop:=∀a b:List Bool,a.length=n→b.length=n→
 aQ P f [.own 0 0 n,iY b] ⟨1,bY [(0,some (.arr 1 (a.map aH)))]⟩ fun r S'=>r=.aM []∧S'.n=10∧S'.g 0=some (.arr 1 ((Zvj a b).map aH))
def Yn(l:List Bool)(id:Nat)(S:St):St:=(St.mk (S.n+9) S.g).set id (some (.arr 1 (l.map aH)))
theorem Zsq.use{P:Program}{f:FuncId}{n:Nat}(h:Zsq P f n){a b:List Bool}(ha:a.length=n)(hb:b.length=n){S:St}{K:AV→St→Prop}{id:Nat}(hg:S.g id=some (.arr 1 (a.map aH)))(hid:id < S.n)
  (hk:K (.aM []) (Yn (Zvj a b) id S)):aQ P f [.own id 0 n,iY b] S K:=by
 refine aQ.frame 1 [(0,id)] [(0,some (.arr 1 (a.map aH)))] [.own 0 0 n,iY b] _ (by simp) (by simp;omega) ?_ ?_ (h a b ha hb) ?_
 ·intro p hp
  simp only[List.mem_cons,List.not_mem_nil,or_false] at hp;subst hp;refine .inr ⟨id,by simp,?_⟩;rw[hg,jh];exact⟨rfl,.cl (lu _)⟩
 ·exact .cons (.own _ _ _ _ (by simp)) (.cons (.cl (jL _)) .nil)
 ·rintro r1 S1 hn ⟨rfl,q1,q2⟩
  refine⟨_,_,hk,.cl (.aM _ (by simp)),by simp[Yn,bB,q1],fun i k hi=>?_⟩;simp only[Yn,aG] at hi;by_cases e:i=id
  ·rw[if_pos e] at hi
   refine .inr ⟨0,.inl ⟨by omega,by simp[e]⟩,?_⟩;rw[←hi,q2,jh];exact⟨rfl,.cl (lu _)⟩
  ·rw[if_neg e] at hi
   refine .inl ⟨?_,hi⟩;simp;omega
section
variable{P:Program}{fh fg fm:FuncId}{k:Int}{ps:List Rg}{pg l:List Int}{ks:List aO}{a:List Bool}
end
def Zqz(Hz:FuncId):AC:= (.loop (.seq (sq [rm 9 6,rF 10 3 2,rL 11 10,ro 12 (.len (.t 11)),ro 13 (.bin .lss (.t 9) (.t 12)),rm 14 13,rg 15 14 true (.mv (.t 5)),rg 16 14 true (.mv (.t 1)),rg 17 14 true (.bin .leq (.t 15) (.t 16)),ro 18 (.pick (.t 14) (.t 17) (.c (.v (.bool false))))] (.cond (.t 18) .skip (.exit 0))) (.seq (.block 1 (.reg none [rm 21 5,rF 22 3 2,rL 23 22,rm 24 6,ro 25 (.aI 4 (.t 23) (.t 24)),ro 26 (.load (some 4) (.t 25)),rm 27 1,ro 28 (.bin .sub (.t 27) (ci 1)),rk 29 Hz [(.t 26),(.t 28)],ro 30 (.bin .add (.t 21) (.t 29)),rm 5 30])) (.reg none [rm 19 6,ro 20 (.bin .add (.t 19) (ci 1)),rm 6 20]))))
def Z95(Hz:FuncId):AC:= (sq [ro 2 (.box 4 (.t 0)),ro 4 (.mv (ci 0))] (sq [ro 5 (.mv (ci 1))] (.seq (sq [rm 7 1,ro 8 (.bin .lss (.t 7) (ci 0))] (.cond (.t 8) (sq [ro 4 (.mv (ci 1000))] .ret) .skip)) (.seq (sq [ro 6 (.mv (ci 0))] (.block 0 (Zqz Hz))) (sq [rm 31 5,rm 4 31] .ret)))))
def Z94(Hz:FuncId):AC:= (sq [ro 2 (.box 11 (.t 0)),ro 4 (.mv (.c (.v (.bool false))))] (sq [rF 5 2 2,ro 6 (.load (some 4) (.t 5)),rm 7 1,rk 8 Hz [(.t 6),(.t 7)],rm 9 1,ro 10 (.bin .leq (.t 8) (.t 9)),rm 11 10,rg 12 11 true (.cZ 6 (.t 2)),rg 13 11 true (.load (some 4) (.t 12)),rg 14 11 true (.mv (.t 1)),rl 15 11 true Hz [(.t 13),(.t 14)],rg 16 11 true (.mv (.t 1)),rg 17 11 true (.bin .leq (.t 15) (.t 16)),ro 18 (.pick (.t 11) (.t 17) (.c (.v (.bool false)))),rm 4 18] .ret))
def Ve(P4H:FuncId):AC:= (sq [ro 1 (.box 3 (.t 0)),ro 2 (.mv (.c (.sl true []))),ro 3 (.mv (ci 0)),ro 4 (.mv (.c (.v (.bool false))))] (sq [ro 5 (.load (some 3) (.t 1)),rk 6 P4H [(.t 5)],ro 7 (.ext 0 (.t 6)),ro 8 (.ext 1 (.t 6)),ro 9 (.ext 2 (.t 6)),rm 2 7,rm 3 8,rm 4 9] .ret))
def Zar(Kk Kw:FuncId):AC:= (sq [ro 3 (.box 3 (.t 0)),ro 6 (.mv (.c (.v (.bool false))))] (sq [rm 8 1,rm 9 2,rk 10 Kk [(.t 8),(.t 9)],rm 7 10] (sq [rm 11 7,ro 12 (.len (.t 11)),ro 13 (.bin .gtr (.t 12) (ci 0)),rm 14 13,rg 15 14 true (.load (some 3) (.t 3)),rg 16 14 true (.mv (.t 7)),rl 17 14 true Kw [(.t 15),(.t 16)],ro 18 (.pick (.t 14) (.t 17) (.c (.v (.bool false)))),rm 6 18] .ret)))
def WX(UM:FuncId):AC:= (.loop (sq [ro 10 (.bin .lss (.t 9) (.t 8))] (.seq (.cond (.t 10) .skip (.exit 0)) (.seq (.block 1 (sq [rm 11 9,rm 6 11] (sq [ro 12 (.load (some 3) (.t 2)),rm 13 1,rm 14 6,rk 15 UM [(.t 12),(.t 13),(.t 14)]] (.cond (.t 15) (.reg none [rm 16 5,rm 17 6,ro 18 (.cO 1 1 (.v (.int .i64 0)) [(0,(.t 17))]),ro 19 (.app 1 8 (.t 16) (.t 18)),rm 5 19]) .skip)))) (.reg none [ro 20 (.bin .add (.t 9) (ci 1)),rm 9 20])))))
def Lg(UM:FuncId):AC:= (sq [ro 2 (.box 3 (.t 0)),ro 4 (.mv (.c (.sl true [])))] (sq [ro 5 (.mv (.c (.sl true [])))] (.seq (sq [rm 7 1,ro 8 (.len (.t 7)),ro 9 (.mv (ci 0))] (.block 0 (WX UM))) (sq [rm 21 5,rm 4 21] .ret))))
def ZqB(Uf:FuncId):AC:= (.loop (.seq (sq [rm 7 6,rm 8 1,ro 9 (.len (.t 8)),ro 10 (.bin .lss (.t 7) (.t 9))] (.cond (.t 10) .skip (.exit 0))) (.seq (.block 1 (sq [ro 13 (.load (some 3) (.t 2)),rm 14 1,rm 15 6,rk 16 Uf [(.t 13),(.t 14),(.t 15)]] (.cond (.t 16) (.reg none [rm 17 5,rm 18 6,ro 19 (.cO 1 1 (.v (.int .i64 0)) [(0,(.t 18))]),ro 20 (.app 1 8 (.t 17) (.t 19)),rm 5 20]) .skip))) (.reg none [rm 11 6,ro 12 (.bin .add (.t 11) (ci 1)),rm 6 12]))))
def Z8l(Uf:FuncId):AC:= (sq [ro 2 (.box 3 (.t 0)),ro 4 (.mv (.c (.sl true [])))] (sq [ro 5 (.mv (.c (.sl true [])))] (.seq (sq [ro 6 (.mv (ci 0))] (.block 0 (ZqB Uf))) (sq [rm 21 5,rm 4 21] .ret))))
def qP(d:aD)(l:List Int)(k:Nat):List Int:=((List.range k).filter fun i=>yV d l (i:Nat)).map fun i:Nat=>(i:Int)
theorem Zb0(d:aD)(l:List Int)(k:Nat):qP d l (k+1)=qP d l k++(if yV d l (k:Nat)=true then [(k:Int)] else []):=by
 unfold qP;rw[List.range_succ,List.filter_append,List.map_append];congr 1;by_cases h:yV d l (k:Nat)=true
 ·simp[h]
 ·simp[h]
theorem Zcp(d:aD)(l:List Int)(k:Nat):(qP d l k).length≤k:=by
 unfold qP;rw[List.length_map];have:=List.length_filter_le (fun i:Nat=>yV d l (i:Nat)) (List.range k);simpa using this
def mpI(_:Nat)(_:Bool):Prop:=True
def y8(d:aD)(l:List Int)(k:Nat)(o:Bool):List (Nat×AV):=[(1,aA l),(2,.ptr 0 0 0),(5,vV o 1 ((qP d l k).map aj)),(8,aj l.length),(9,aj k)]
def y9(d:aD)(l:List Int)(k:Nat)(o:Bool):List (Nat×Option aF):=[(0,some (.arr 3 [aT d])),(1,vB o 1 ((qP d l k).map aj))]
theorem Zb9{P:Program}{fa:FuncId}(d:aD)(l:List Int)(hl:l.length≤100000)(ha:∀i:Nat,i < l.length→aN P fa [aT d,aA l,aj i] (aH (yV d l (i:Nat)))) :
  bG P 0 (Lg fa) (gG [4] (iQ (aA (qP d l l.length)))) (bP [aT d,aA l]) S0:=by
 simp[Lg,WX];refine wG l.length mpI (y8 d l) 3 (y9 d l) false trivial ?_ ?_
 ·refine bR.of [(0,0)] [] (by omega) ⟨by simp,by simp⟩ ?_ ?_
  ·simp[y9,iV]
  ·simp[y8,qP]
 ·rintro i o hi _
  by_cases hlt:i < l.length
  ·have hat:=ha i hlt
   have vD:(i:Int) < (l.length:Int):=by omega
   have hpl:=Zcp d l i;have hok:dF 8 (qP d l i).length 1:=by unfold dF;omega
   have hsu:=Zb0 d l i;simp[y8,y9,vD];refine aQ.pure hat (aK (iV _) (aK (aS _) (aK (aW _) aU))) (dN _) ?_;cases hb:yV d l (i:Nat) with
   | true=>
    rw[hb] at hsu;simp only[if_true] at hsu;simp[hok];rw[bI _ (by omega)];refine⟨hlt,true,trivial,bR.of [(0,0),(1,13)] [] (by omega) ⟨by simp,by simp⟩ ?_ ?_⟩
    ·simp[y9,iV,hsu]
    ·simp[y8,hsu]
   | false=>
    rw[hb] at hsu;simp only[Bool.false_eq_true,if_false,List.append_nil] at hsu;simp;rw[bI _ (by omega)];refine⟨hlt,o,trivial,bR.of [(0,0),(1,1)] [] (by omega) ⟨by simp,by simp⟩ ?_ ?_⟩
    ·simp[y9,iV,hsu]
    ·simp[y8,hsu]
  ·have hke:i=l.length:=by omega
   subst hke;simp[y8,y9];refine Bb ?_ (jr _);simp
theorem ZeT{P:Program}{fm:FuncId}(d:aD)(s:List Int)(p:Int)(b:Bool)(hm:aN P fm [aT d] (.aM [aA s,aj p,aH b])) :
  bG P 0 (Ve fm) (gG [2,3,4] (iQ (.aM [aA s,aj p,aH b]))) (bP [aT d]) S0:=by
 simp[Ve];refine aQ.pure hm (aK (iV _) aU) (.aM _ (aK (aS _) (aK (aW _) (aK (dN _) aU)))) ?_;simp;exact .closed _ (.aM _ (aK (aS _) (aK (aW _) (aK (dN _) aU))))
end Go.Rf
namespace Go.Rf
open Go.RowKit
structure Hg where
 Ou:FuncId
 ZM:FuncId
 ZP:FuncId
 Uu:FuncId
 Uv:FuncId
 EH:FuncId
 Uk:FuncId
 Oc:FuncId
 EL:FuncId
 KJ:FuncId
 OC:FuncId
 Od:FuncId
 EB:FuncId
 TU:FuncId
 Kt:FuncId
 OI:FuncId
 KI:FuncId
 N9:FuncId
 Hw:FuncId
 Oa:FuncId
 Dh:FuncId
 Kj:FuncId
 Dg:FuncId
 Aq:FuncId
 OQ:FuncId
 OG:FuncId
 KT:FuncId
 KD:FuncId
 KH:FuncId
 Oe:FuncId
 OA:FuncId
 Om:FuncId
 Oo:FuncId
 OH:FuncId
 KA:FuncId
 KX:FuncId
 Ov:FuncId
 Ht:FuncId
 Kv:FuncId
 TW:FuncId
 Oy:FuncId
 T9:FuncId
 Uw:FuncId
 Ur:FuncId
 Oj:FuncId
 Uj:FuncId
 Ud:FuncId
 KU:FuncId
 Oz:FuncId
 UC:FuncId
 UL:FuncId
 KF:FuncId
 KE:FuncId
 Hu:FuncId
 KO:FuncId
 OD:FuncId
 KN:FuncId
 OB:FuncId
 Um:FuncId
 Ul:FuncId
 Ow:FuncId
 Us:FuncId
 Ox:FuncId
 Ub:FuncId
 Ua:FuncId
 UG:FuncId
 KR:FuncId
 UH:FuncId
 Oq:FuncId
 OO:FuncId
 Uc:FuncId
 Uo:FuncId
 Ux:FuncId
 Ui:FuncId
 Uh:FuncId
 OJ:FuncId
 Ue:FuncId
 Uy:FuncId
 KS:FuncId
 UQ:FuncId
 ZH:FuncId
 Ot:FuncId
 ZN:FuncId
 KC:FuncId
 HY:FuncId
 Ol:FuncId
 OP:FuncId
 Uz:FuncId
 Di:FuncId
 Df:FuncId
 strconv_Itoa:FuncId
 Og:FuncId
 Oi:FuncId
 Ob:FuncId
 KP:FuncId
 UK:FuncId
 OW:Nat
 OX:Nat
structure Au(P:Program)(F:Hg):Prop where
 hm:P.follows .mixedOrders=true
 P3h:Is P F.Ou Z9i [4] 2
 P2Y:Is P F.ZM Z8Y [4] 2
 P3k:Is P F.ZP (Z9l F.Uu F.Uv) [4] 2
 P2V:Is P F.Uu (Z8V F.Ou) [4] 2
 P2X:Is P F.Uv Z8X [4] 2
 P30:Is P F.EH Z90 [2] 1
 P3D:Is P F.Uk (Z9T F.EH) [4] 2
 P2E:Is P F.Oc (O1 F.Uk) [4] 2
 P46:Is P F.EL (Dk F.KJ F.OC F.Od) [2] 1
 Z6:Is P F.KJ Ph [3] 2
 Z7:Is P F.OC (Pj F.EB) [4] 3
 Zu:Is P F.Od (O4 F.TU) [4] 2
 Zv:Is P F.EB (O4 F.Kt) [4] 2
 Zw:Is P F.TU Ld [4] 2
 TT:Is P F.Kt Ld [4] 2
 P4x:Is P F.OI (VZ F.EL) [4] 2
 Z4:Is P F.KI (O1 F.OI) [4] 2
 ZC:Is P F.N9 O3 [4] 2
 ZA:Is P F.Hw (U4 F.Oa) [4] 2
 ZE:Is P F.Oa U7 [4] 2
 ZB:Is P F.Dh (ET 1 8 (.v (.int .i64 0))) [2] 1
 TY:Is P F.Kj (Mc 1 8 (.v (.int .i64 0))) [4] 2
 TV:Is P F.Dg (LG 1 8 F.Kj) [2] 1
 P4z:Is P F.Aq (Py F.Dh F.Di F.Df) [2] 1
 P4q:Is P F.OQ (Io F.Aq F.N9) [6] 3
 P48:Is P F.OG (BD F.OQ) [2] 1
 P49:Is P F.KT (Ig F.KT) [2] 1
 ZO:Is P F.KD O6 [4] 2
 ZV:vJ P F.KH (Av F.Dh F.OA F.Oe F.Aq F.KD F.Om F.Oo F.OH F.KA) [.c 4 (some 3)] 2
 Zx:Is P F.Oe (O0 F.Kt) [4] 2
 ZL:Is P F.OA Ia [3] 2
 ZU:Is P F.Om (O8 F.KH) [4] 2
 ZW:jS P F.Oo (O9 F.KA F.Dg F.Aq) [.c 4 (some 3)] 2
 Z0:jS P F.OH (Pf F.Dg F.Aq) [.c 2 (some 3)] 1
 ZK:Is P F.KA (O5 F.Dg F.Aq) [] 3
 P4S:jS P F.KX (Fj F.KT F.KD F.KH F.Dh F.Aq) [.c 4 (some 4),.t 5] 2
 P3i:Is P F.Ov (Z9j F.Ov) [2] 1
 P3C:Is P F.Ht Z6V [4] 2
 P2j:jS P F.Kv (Z7k F.Ht F.Kv F.TW F.Oy F.T9) [.c 4 (some 3)] 2
 P2a:Is P F.TW (Z6S F.Oy) [] 3
 P3A:Is P F.Oy (Z9S F.Ht) [4] 2
 P2k:jS P F.T9 (Z7l F.Kv) [.c 4 (some 3)] 2
 P3P:EA P F.Uw (Zao F.Ov F.Kv F.Ht) [.c 4 (some 4),.t 5] 2
 P2N:Is P F.Ur Z8g [6] 3
 P2W:Is P F.Oj (Z8W F.Ur) [2] 1
 P3B:Is P F.Uj Z6W [4] 2
 P3j:Is P F.Ud (Z9k F.Oj F.Uj F.Ht) [6] 3
 P4m:Is P F.KU (Zd1 F.strconv_Itoa F.Og F.Oi F.Ob) [2] 1
 ZJ:Bv P F.Oz (U9 F.KU F.OW) [.t 4] 2
 ZF:Bv P F.UC (Le F.Oz F.KE) [.c 4 (some 3)] 2
 Z9:Is P F.UL Lh [6] 4
 ZT:Is P F.KF (Vg F.Hw F.Di F.Df) [6] 3
 ZR:Is P F.KE (Vf F.Hu F.EB) [4] 2
 ZI:Is P F.Hu (U8 F.Hw) [3] 2
 P47:jS P F.KO (Pm F.KP F.OD) [.c 4 (some 3),.t 5] 2
 Z8:Is P F.OD (Vj F.KF F.Dg) [6] 3
 P45:jS P F.KN (Pm F.KP F.OB) [.c 4 (some 3),.t 5] 2
 Z5:Is P F.OB (Vi F.KE F.KF) [6] 3
 P3F:Is P F.Um Z6V [4] 2
 P3E:Is P F.Ul Z6W [4] 2
 P3l:Is P F.Ow (Z9m F.Ul) [4] 2
 P2O:Is P F.Us (Z8h F.Ow F.Ud F.Um) [8] 4
 P3m:jS P F.Ox (Z9n F.Oj F.Us F.Ou F.Ow) [.c 6 (some 3),.t 7] 3
 P31:jS P F.Ub (Z91 F.Ox) [.c 4 (some 3),.t 5] 2
 P2Z:jS P F.Ua (Z8Z F.Ox) [.c 4 (some 3),.t 5] 2
 ZX:Is P F.UG Vp [2] 1
 ZY:Is P F.KR (ZaS F.strconv_Itoa F.Og F.Oi F.Ob) [6] 3
 P3u:Is P F.UH (Vk F.KR) [4,5] 2
 ZG:Is P F.Oq (Vd F.UG F.UH) [2] 1
 P4n:jS P F.OO (VN F.EL F.Oq) [.c 2 (some 3),.t 3] 1
 P32:Is P F.Uc Z92 [2] 1
 P2F:Is P F.Uo (Z89 F.EH F.Uc) [2] 1
 P3Q:jS P F.Ux (Zap F.EH F.Uo) [.c 2 (some 3),.t 3] 1
 Zz:Is P F.Ui O7 [4] 2
 Zy:jS P F.Uh zu [.c 8 (some 2)] 4
 P4y:jS P F.OJ (V3 F.EL F.Ui F.Uh) [.c 6 (some 3),.t 7] 3
 P3n:jS P F.Ue Z9p [.c 8 (some 2)] 4
 P3R:jS P F.Uy (Zaq F.EH F.Ue) [.c 6 (some 3),.t 7] 3
 UD:jS P F.KS (Vs F.KX) [.c 8 (some 3),.t 9] 4
 P4p:jS P F.UQ (EW F.KS F.KO F.KN F.OJ F.OO) [.c 6 (some 3),.t 7] 3
 P3T:jS P F.ZH (Zas F.Uw F.Ub F.Ua F.Uy F.Ux) [.c 6 (some 3),.t 7] 3
 P35:Is P F.Ot (Z95 F.Ot) [4] 2
 P34:Is P F.ZN (Z94 F.Ot) [4] 2
 UF:Is P F.KC Pb [2] 1
 UE:Is P F.HY (Ii F.KC F.EB) [4] 2
 P33:Is P F.Ol Z93 [4] 2
 P4o:Is P F.OP (VO F.HY F.KI) [6] 3
 P3S:Is P F.Uz (Zar F.Ol F.Oc) [6] 3
 m1:JI P F.KP=some (FZ F.OG F.UK F.UL F.UC)
 P6g:F5 P F.UK=some (5,2,Fx F.OW,16)
 P5q:AO P F.KU F.OX
 P5r:AO P F.KR F.OX
 sort:Co P F.Di
 comp:Cn P F.Df
 EO:aN P F.Di [.sl true []] (.aM [])
 EN:aN P F.Df [.sl true []] (.sl true [])
 YN:Bc P F.Og F.Oi F.Ob F.OX 5
 itoa:Da P F.strconv_Itoa (fun n=>0≤n∧n < 10000)
theorem ZlW{X:Type}{l:List X}{k:Nat}(h:l.length≤k)(hk:k≤140737488351232):Len l:=by unfold Len;omega
structure xQ(n:Net):Prop where
 rows:∀l∈n.rows,l.length≤1000
 aB:n.aB.length≤1000
 follow:n.follow.length≤1000
theorem xQ.ok{n:Net}(h:xQ n):Zsr n:=by
 have h1:=h.aB;have h2:=h.follow;have h3:=fun l hl=>h.rows l hl
 refine⟨by unfold Len;omega,by unfold Len;omega,?_,fun r hr=>?_,fun r hr=>?_⟩
 ·have:=h3 n.last (by simp[Net.rows]);unfold Len;omega
 ·have:=h3 r (by simp[Net.rows,hr]);unfold Len;omega
 ·have:=h3 r (by simp[Net.rows,hr]);unfold Len;omega
theorem Zg9{n:Net}(R:nT n):xQ n:=by
 have h1:=R.n2;have h2:=R.len;have h3:=R.s2;refine⟨fun l hl=>?_,by omega,by omega⟩;simp only[Net.rows,List.mem_cons,List.mem_append] at hl;rcases hl with rfl | hl | hl
 ·have:=Jj R.last.1 R.last.2;omega
 ·obtain⟨i,hi,rfl⟩:=List.getElem_of_mem hl
  have:=Jj (R.aB i hi).1 (R.aB i hi).2;omega
 ·obtain⟨i,hi,rfl⟩:=List.getElem_of_mem hl
  have:=VD R hi;omega
theorem ZdD:xQ Bj:=⟨fun l hl=>by simp[Bj,Net.rows] at hl;subst hl;simp,by simp[Bj],by simp[Bj]⟩
theorem Zb3(p:aO)(sg:Int):xQ (qE p sg).1:=by
 unfold qE;split
 ·exact ZdD
 ·split
  ·exact ZdD
  ·exact Zg9 (Zix (p:=p) (sg:=sg) (by omega) (by omega) (Yk (by assumption))).R
theorem Zvr:∀k < 10000,(Lib.decDigits k).length≤4:=by
 intro k hk;rw[Lib.decDigits];split
 ·simp
 ·rw[Lib.decDigits]
  split
  ·simp
  ·rw[Lib.decDigits]
   split
   ·simp
   ·rw[Lib.decDigits,dif_pos (by omega)];simp
theorem ZdG:∀{l:List Int},(∀x∈l,0≤x∧x < 10000)→(jQ l).length≤5*l.length
 | [],_=>by simp[jQ]
 | n::l,h=>by
  have h1:=h n (by simp);have h2:=Zvr n.toNat (by omega);have h3:=ZdG (l:=l) (fun x hx=>h x (by simp[hx]));rw[Lr,L6 h1.1];simp only[List.length_append,List.length_cons];omega
namespace Au
variable{P:Program}{F:Hg}(S:Au P F)
include S
theorem OE(l:List Int)(p:Int→Bool)(g:FuncId)(cap:List AV)(hl:Len l)(hcap:∀y∈cap,aY y)(hp:∀x∈l,aN P g (aj x::cap) (aH (p x))):aN P F.EB [aA l,.aP g [] cap] (aH (l.any p)):=
 S.Zv.pure S.hm rfl (Z5u (enc:=aj) aW hcap (S.TT.pure S.hm rfl (U6 (enc:=aj) hl (fun _=>rfl) aW hcap hp)))
theorem P57(l:List (List Int))(p:List Int→Bool)(g:FuncId)(cap:List AV)(hl:Len l)(hcap:∀y∈cap,aY y)(hp:∀x∈l,aN P g (aA x::cap) (aH (p x))):aN P F.Od [aX l,.aP g [] cap] (aH (l.any p)):=
 S.Zu.pure S.hm rfl (Z5u (enc:=aA) aS hcap (S.Zw.pure S.hm rfl (U6 (enc:=aA) hl (fun _=>rfl) aS hcap hp)))
omit S in
theorem P59(k:Nat):aY (.aP F.KJ [] [.bJ (aj k) 0]):=.aP _ _ _ aU (aK (.bJ _ _ (aW _)) aU)
theorem KM(d:aD)(ok:rP d):aN P F.EL [aT d] (aH (lg d)):=by
 refine S.P46.pure S.hm rfl (ZcI d ok ?_);refine S.P57 d.next (Ck d) F.OC _ ok.next (aK (.bJ _ _ (iV d)) (aK (.bJ _ _ (P59 _)) aU)) (fun r hr=>?_)
 refine S.Z7.pure S.hm rfl (Zb7 d r ?_);exact S.OE r (Gj d.next.length) F.KJ _ (ok.rows r hr) (aK (.bJ _ _ (aW _)) aU) (fun t _=>S.Z6.pure S.hm rfl (Zb6 _ t _))
theorem P5A(d:aD)(ok:rP d)(l:List Int)(hl:Len l):aN P F.OI [aT d,aA l] (aj (Bl (xH d l))):=S.P4x.pure S.hm rfl (Zff d l hl (S.KM d ok))
theorem P4i(d:aD)(ok:rP d)(l:List Int)(hl:Len l):aN P F.KI [aT d,aA l] (aH (mM d l)):=S.Z4.pure S.hm rfl (Z7b d l (S.P5A d ok l hl))
theorem KZ:wT P F.Dh (rU 1 8 (.v (.int .i64 0))) [.t 2] 1:=Zhu S.hm S.ZB
theorem P6l:Zv4 P F.Dh F.Di F.Df:=⟨S.KZ,S.sort,S.comp,S.EO,S.EN⟩
theorem P6d(l:List Int)(hl:l.length≤17592186043904):aN P F.Aq [aA l] (aA (je l)):=S.P4z.pure S.hm rfl (ZfK S.P6l l hl)
theorem P5O(a b:List Int)(ha:Len a)(hb:Len b):aN P F.N9 [aA a,aA b] (aH (a == b)):=S.ZC.pure S.hm rfl (ZaJ a b ha hb)
theorem P62(l:List Int)(a b:Int)(hl:l.length≤17592186043904):aN P F.OQ [aA l,aj a,aj b] (aH (su l a b)):=S.P4q.pure S.hm rfl (Zeo l a b hl (S.P6d l hl) S.P5O)
theorem P5d(n:Net)(h:xQ n):aN P F.OG [ji n] (aH (qQ n)):=S.P48.pure S.hm rfl (ZcO n h.ok (fun l hl a b=>S.P62 l a b (by have:=h.rows l hl;omega)))
theorem P6a:zO P F.KX F.KT F.KD F.KH F.Dh F.Aq F.Om F.Oo F.OH F.KA F.Oe F.Kt F.OA F.Dg F.Kj:=
 ⟨S.P4S,S.P49,S.ZO,S.ZV,S.KZ,S.Zx,S.TT,S.ZL,S.ZU,S.ZW,S.Z0,S.ZK,S.TV,S.TY,S.P6d⟩
theorem P5v(p:aO)(hp:xG p)(sg:Int):aN P F.KX [jM p,aj sg] (DV (qE p sg)):=S.P6a.ok S.hm p hp sg
theorem P5P(l:List Int)(x:Int)(hl:Len l):aN P F.Oa [aA l,aj x] (aj (sH (fun y=>x == y) l)):=S.ZE.pure S.hm rfl (ZaK l x hl)
theorem P4P(l:List Int)(x:Int)(hl:Len l):aN P F.Hw [aA l,aj x] (aH (l.contains x)):=S.ZA.pure S.hm rfl (Z97 l x (S.P5P l x hl))
theorem P63(l:List Int)(hx:∀x∈l,0≤x∧x < 10000)(hl:l.length≤1000000):aN P F.KU [aA l] (sF (jQ l)):=by
 have h1:=ZdG hx;exact Ze7 S.hm S.P4m S.P5q S.YN S.itoa hx (by omega) (by omega)
theorem P6k(n:Net)(h:n.follow.length≤1000):JD P F.Oz F.OW n:=by
 intro id km most ss v set St K X M hv hs hm h1 h2 h3;refine S.ZJ.EM S.hm rfl ?_;exact Zhg M (S.P63 set (fun x hx=>⟨(hv.1 x hx).1,by have:=(hv.1 x hx).2;omega⟩) (by have:=hv.2;omega)) hv.nn (fun s h=>(hs.v s h).nn) hs.l hm h1 h2 h3
theorem P68:Zsm P F.Hw F.Di F.Df:=⟨S.P4P,S.sort,S.comp,S.EO,S.EN⟩
theorem P6f(n:Net)(R:nT n):RS P F.KF n:=fun set s hv=>S.ZT.P5Y S.hm rfl (Ze6 R S.P68 set (by have:=hv.2;omega) hv.1 s)
theorem K8(n:Net)(h:xQ n)(s:Int):aN P F.Hu [aj s,.bJ (oU n) 0] (aH (n.last.contains s)):=S.ZI.pure S.hm rfl (Zc0 n s (S.P4P n.last s h.ok.last))
omit S in
theorem P58(n:Net):∀y∈[AV.bJ (oU n) 0],aY y:=aK (.bJ _ _ (ZbX n)) aU
theorem P6j(n:Net)(h:xQ n)(a:List Int)(ha:Len a):aN P F.EB [aA a,.aP F.Hu [] [.bJ (oU n) 0]] (aH (a.any fun s=>n.last.contains s)):=
 S.OE a _ F.Hu _ ha (P58 n) (fun x _=>S.K8 n h x)
theorem P5W(n:Net)(h:xQ n):Q6 P F.KE n:=fun set hv=>S.ZR.pure S.hm rfl (Ze5 n set (S.P6j n h set (ZlW hv.2 (by omega))))
theorem P67:Mq P F.Kj 1 (.v (.int .i64 0)):=Zhv S.hm (by omega) rfl (by omega) S.TY
theorem P5z(l:List Int)(hl:l.length≤1000):aN P F.Dg [.sl true [.sl true [aj 0],aA l]] (aA (0::l)):=by
 have:=Vw S.hm S.P67 (by omega) S.TV (enc:=aj) aW (fun _=>rfl) [(true,[0]),(false,l)] (by simp) (by simp;omega);simpa[aA] using this
theorem P5u(n:Net)(h:xQ n)(most:Int)(kd:Kd)(fb:FuncId)(hb:nT n→HB P fb n kd):aN P F.KP [ji n,aj most,.aP fb [] []] (jV (uj kd n most)):=by
 have:=ZoC S.hm S.m1 S.P6g S.ZF S.Z9 (most:=most) (S.P5d n h) (fun R=>S.P6k n h.follow) (fun R=>hb ((BG n).mp R)) (fun _=>S.P5W n h);rw[Zla] at this;exact this.pure (aK (BF n) (aK (aW _) (aK (.aP _ _ _ aU aU) aU))) (BI _)
theorem P5w(n:Net)(h:xQ n)(most:Int):aN P F.KO [ji n,aj most] (jV (uj .tails n most)):=
 S.P47.pure S.hm rfl (Z99 (S.P5u n h most .tails F.OD (fun R=>.tails S.hm R (S.P6f n R) S.Z8 S.P5z)))
theorem P5s(n:Net)(h:xQ n)(most:Int):aN P F.KN [ji n,aj most] (jV (uj .heads n most)):=
 S.P45.pure S.hm rfl (Z99 (S.P5u n h most .heads F.OB (fun R=>.heads S.hm (S.P6f n R) (S.P5W n h) S.Z5)))
theorem P64{d:aD}(R:bD d){c:List Int}(hcl:c.length=d.next.length)(hc:∀n∈c,xM n)(s:Nat)(hs:s < d.next.length):aN P F.KR [aT d,aA c,aj s] (yQ (uV d c s)):=
 Zn5 S.hm S.ZY S.P5r S.YN S.itoa R hcl hc hs
theorem P5c{d:aD}(R:bD d):aN P F.Oq [aT d] (aA (vO d)):=
 S.ZG.sS S.hm rfl (Zf5 R (S.ZX.sS S.hm rfl (ZgK d (by have:=R.fin;have:=R.n2;omega))) (fun c hcl hc=>S.P3u.sS S.hm rfl (Zjy R hcl hc (S.P64 R hcl hc))))
theorem P5t(d:aD)(ok:rP d):aN P F.OO [aT d] (jV (wM d)):=S.P4n.sS S.hm rfl (Zek (S.KM d ok) S.P5c)
theorem P5Q(b a:aD)(most:Int)(ob:rP b)(oa:rP a):aN P F.OJ [aT b,aT a,aj most] (jV (lY b a most)):=
 S.P4y.sS S.hm rfl (Zhb b a most (S.KM b ob) (S.KM a oa) (fun o ss x ho hl=>Zmd S.hm S.Zz b a o ss ho hl x)
  (fun Rb Ra hs x s hx hlt=>S.Zy.sS S.hm rfl (Zgw Rb Ra hs x hx s hlt)))
end Au
theorem QW:rP Al:=⟨by simp[Al,Len],by simp[Al,Len],by simp[Al],by simp[Al]⟩
theorem ZiU(kd:Kd)(p:aO)(sg most:Int):rP (lD kd p sg most).1:=by
 unfold lD;split
 ·exact ZrL _ _ _
 ·exact QW
theorem ZoD(b a:aD)(most:Int):rP (lY b a most).1:=by
 cases h:lY b a most with
 | mk d e=>
  by_cases he:e=0
  ·subst he;exact ZfY (ZfG h).1.R
  ·unfold lY at h
   split at h
   ·split at h
    ·cases h;exact(he rfl).elim
    ·cases h;exact QW
   ·cases h;exact QW
namespace Au
variable{P:Program}{F:Hg}(S:Au P F)
include S
theorem P5U(p:aO)(hp:xG p)(sg most:Int):aN P F.KS [jM p,aj sg,aj most,.aP F.KO [] []] (jV (lD .tails p sg most)):=
 S.UD.sS S.hm rfl (Zg7 p sg most .tails (S.P5v p hp sg) (S.P5w _ (Zb3 p sg) most))
theorem P5T(p:aO)(hp:xG p)(sg most:Int):aN P F.KS [jM p,aj sg,aj most,.aP F.KN [] []] (jV (lD .heads p sg most)):=
 S.UD.sS S.hm rfl (Zg7 p sg most .heads (S.P5v p hp sg) (S.P5s _ (Zb3 p sg) most))
theorem P5R(r:wX)(hb:xG r.before)(ha:xG r.after)(sg most:Int):aN P F.UQ [FJ r,aj sg,aj most] (jV (xu r sg most)):=
 S.P4p.sS S.hm rfl (ZfJ r sg most (S.P5U r.before hb sg most) (S.P5T r.after ha sg most) (fun _ _=>S.P5Q _ _ most (ZiU _ _ _ _) (ZiU _ _ _ _)) (fun _ _ _=>S.P5t _ (ZoD _ _ _)))
theorem P5x(s:List Int)(p:Int)(hs:s.length≤1000000):aN P F.HY [aA s,aj p] (aA (jd s p)):=
 S.UE.pure S.hm rfl (Zco s p hs (S.OE s vg F.KC [] (by unfold Len;omega) aU (fun x _=>S.UF.pure S.hm rfl (Z7w _ x))))
theorem P5C(s:List Int)(p:Int)(hs:s.length≤1000000):rW P F.HY [aA s,aj p] (aA (jd s p)):=
 S.UE.P5Y S.hm rfl (Z87 s p hs (S.OE s vg F.KC [] (by unfold Len;omega) aU (fun x _=>S.UF.pure S.hm rfl (Z7w _ x))))
omit S in
theorem P5k(s:List Int)(p:Int)(hs:s.length≤1000000):Len (jd s p):=by
 have:(jd s p).length≤s.length:=by
  unfold jd;split
  ·rw[uD];exact Nat.le_refl _
  ·simp
 unfold Len;omega
theorem cAt(d:aD)(ok:rP d)(l:List Int)(hl:l.length≤1000000)(p:Int):aN P F.OP [aT d,aA l,aj p] (aH (yV d l p)):=
 S.P4o.sS S.hm rfl (Zqs d l p (S.P5x l p hl) (S.P4i d ok _ (P5k l p hl)))
end Au
end Go.Rf
namespace Go.Proofs.YtdmcjhnbmgmgoaaGreatDoor
open Go.ChangeShapes Go.WideShapes Go.ChangeAt Go.RowKit Go.Rf
theorem yS:Tryz.prog.follows .mixedOrders=true:=by kernel_rfl
theorem ZsN:Is Tryz.prog 80 (ET 1 8 (.v (.int .i64 0))) [2] 1:=.k Tryz.func80 (by kernel_rfl)
theorem KZ:wT Tryz.prog 80 (rU 1 8 (.v (.int .i64 0))) [.t 2] 1:=Zhu yS ZsN
noncomputable def MX:Tab:=YA Tryz.prog (fun f=>bif Nat.beq f 80 then some (rU 1 8 (.v (.int .i64 0)),[.t 2],1) else none) (fun _=>none)
theorem ZpZ:zL Tryz.prog MX:=by
 refine Zs0 yS (fun f p h=>?_) (fun f g args v h=>by cases h);cases hb:Nat.beq f 80 with
 | true=>
  rw[hb] at h;have:f=80:=Nat.eq_of_beq_eq_true hb;subst this;cases h;exact @KZ
 | false=>rw[hb] at h;cases h
theorem ZmJ:Eh MX (zX MX 500) 66 [.sl true []]=some (.aM [],true):=by kernel_rfl
theorem ZmG:Eh MX (zX MX 500) 67 [.sl true []]=some (.sl true [],true):=by kernel_rfl
theorem Zp3:aN Tryz.prog 66 [.sl true []] (.aM []):=.UZ yS ZpZ 500 ZmJ
theorem Zp2:aN Tryz.prog 67 [.sl true []] (.sl true []):=.UZ yS ZpZ 500 ZmG
theorem ZrS:Co Tryz.prog 66:=ZuJ
theorem ZrP:Cn Tryz.prog 67:=ZuH
theorem ZtM:Bc Tryz.prog 133 135 136 167 5:=Zvw
theorem ZrQ:Da Tryz.prog 134 (fun n=>0≤n∧n < 10000):=ZuI
theorem ZmL:AO Tryz.prog 132 167:=by unfold AO;kernel_rfl
theorem ZmM:AO Tryz.prog 115 167:=by unfold AO;kernel_rfl
theorem ZuU:JI Tryz.prog 48=some (FZ 81 82 84 83):=by kernel_rfl
theorem ZrR:F5 Tryz.prog 82=some (5,2,Fx 122,16):=by kernel_rfl
def fnM:Hg:={ Ou:=18,ZM:=13,ZP:=12,Uu:=35,Uv:=36,EH:=38,Uk:=70,Oc:=41,EL:=54,KJ:=88,OC:=90,Od:=89,EB:=72,TU:=114,Kt:=102,OI:=73,KI:=44,N9:=131,Hw:=86,Oa:=113,Dh:=80,Kj:=85,Dg:=50,Aq:=79,OQ:=111,OG:=81,KT:=76,KD:=77,KH:=78,Oe:=105,OA:=106,Om:=108,Oo:=107,OH:=109,KA:=110,KX:=47,Ov:=58,Ht:=60,Kv:=59,TW:=93,Oy:=94,T9:=95,Uw:=30,Ur:=116,Oj:=96,Uj:=137,Ud:=117,KU:=132,Oz:=112,UC:=83,UL:=84,KF:=51,KE:=53,Hu:=87,KO:=26,OD:=49,KN:=27,OB:=52,Um:=118,Ul:=119,Ow:=98,Us:=97,Ox:=61,Ub:=31,Ua:=32,UG:=91,KR:=115,UH:=92,Oq:=57,OO:=29,Uc:=99,Uo:=63,Ux:=34,Ui:=55,Uh:=56,OJ:=28,Ue:=62,Uy:=33,KS:=25,UQ:=10,ZH:=11,Ot:=24,ZN:=9,KC:=71,HY:=43,Ol:=42,OP:=16,Uz:=17,Di:=66,Df:=67,strconv_Itoa:=134,Og:=133,Oi:=135,Ob:=136,KP:=48,UK:=82,OW:=122,OX:=167 }
theorem zh:Au Tryz.prog fnM:={ hm:=yS,P3h:=.k Tryz.func18 (by kernel_rfl),P2Y:=.k Tryz.func13 (by kernel_rfl),P3k:=.k Tryz.func12 (by kernel_rfl),P2V:=.k Tryz.func35 (by kernel_rfl),P2X:=.k Tryz.func36 (by kernel_rfl),P30:=.k Tryz.func38 (by kernel_rfl),P3D:=.k Tryz.func70 (by kernel_rfl),P2E:=.k Tryz.func41 (by kernel_rfl),P46:=.k Tryz.func54 (by kernel_rfl),Z6:=.k Tryz.func88 (by kernel_rfl),Z7:=.k Tryz.func90 (by kernel_rfl),Zu:=.k Tryz.func89 (by kernel_rfl),Zv:=.k Tryz.func72 (by kernel_rfl),Zw:=.k Tryz.func114 (by kernel_rfl),TT:=.k Tryz.func102 (by kernel_rfl),P4x:=.k Tryz.func73 (by kernel_rfl),Z4:=.k Tryz.func44 (by kernel_rfl),ZC:=.k Tryz.func131 (by kernel_rfl),ZA:=.k Tryz.func86 (by kernel_rfl),ZE:=.k Tryz.func113 (by kernel_rfl),ZB:=.k Tryz.func80 (by kernel_rfl),TY:=.k Tryz.func85 (by kernel_rfl),TV:=.k Tryz.func50 (by kernel_rfl),P4z:=.k Tryz.func79 (by kernel_rfl),P4q:=.k Tryz.func111 (by kernel_rfl),P48:=.k Tryz.func81 (by kernel_rfl),P49:=.k Tryz.func76 (by kernel_rfl),ZO:=.k Tryz.func77 (by kernel_rfl),ZV:=.k Tryz.func78 (by kernel_rfl),Zx:=.k Tryz.func105 (by kernel_rfl),ZL:=.k Tryz.func106 (by kernel_rfl),ZU:=.k Tryz.func108 (by kernel_rfl),ZW:=.k Tryz.func107 (by kernel_rfl),Z0:=.k Tryz.func109 (by kernel_rfl),ZK:=.k Tryz.func110 (by kernel_rfl),P4S:=.k Tryz.func47 (by kernel_rfl),P3i:=.k Tryz.func58 (by kernel_rfl),P3C:=.k Tryz.func60 (by kernel_rfl),P2j:=.k Tryz.func59 (by kernel_rfl),P2a:=.k Tryz.func93 (by kernel_rfl),P3A:=.k Tryz.func94 (by kernel_rfl),P2k:=.k Tryz.func95 (by kernel_rfl),P3P:=.k Tryz.func30 (by kernel_rfl),P2N:=.k Tryz.func116 (by kernel_rfl),P2W:=.k Tryz.func96 (by kernel_rfl),P3B:=.k Tryz.func137 (by kernel_rfl),P3j:=.k Tryz.func117 (by kernel_rfl),P4m:=.k Tryz.func132 (by kernel_rfl),ZJ:=.k Tryz.func112 (by kernel_rfl),ZF:=.k Tryz.func83 (by kernel_rfl),Z9:=.k Tryz.func84 (by kernel_rfl),ZT:=.k Tryz.func51 (by kernel_rfl),ZR:=.k Tryz.func53 (by kernel_rfl),ZI:=.k Tryz.func87 (by kernel_rfl),P47:=.k Tryz.func26 (by kernel_rfl),Z8:=.k Tryz.func49 (by kernel_rfl),P45:=.k Tryz.func27 (by kernel_rfl),Z5:=.k Tryz.func52 (by kernel_rfl),P3F:=.k Tryz.func118 (by kernel_rfl),P3E:=.k Tryz.func119 (by kernel_rfl),P3l:=.k Tryz.func98 (by kernel_rfl),P2O:=.k Tryz.func97 (by kernel_rfl),P3m:=.k Tryz.func61 (by kernel_rfl),P31:=.k Tryz.func31 (by kernel_rfl),P2Z:=.k Tryz.func32 (by kernel_rfl),ZX:=.k Tryz.func91 (by kernel_rfl),ZY:=.k Tryz.func115 (by kernel_rfl),P3u:=.k Tryz.func92 (by kernel_rfl),ZG:=.k Tryz.func57 (by kernel_rfl),P4n:=.k Tryz.func29 (by kernel_rfl),P32:=.k Tryz.func99 (by kernel_rfl),P2F:=.k Tryz.func63 (by kernel_rfl),P3Q:=.k Tryz.func34 (by kernel_rfl),Zz:=.k Tryz.func55 (by kernel_rfl),Zy:=.k Tryz.func56 (by kernel_rfl),P4y:=.k Tryz.func28 (by kernel_rfl),P3n:=.k Tryz.func62 (by kernel_rfl),P3R:=.k Tryz.func33 (by kernel_rfl),UD:=.k Tryz.func25 (by kernel_rfl),P4p:=.k Tryz.func10 (by kernel_rfl),P3T:=.k Tryz.func11 (by kernel_rfl),P35:=.k Tryz.func24 (by kernel_rfl),P34:=.k Tryz.func9 (by kernel_rfl),UF:=.k Tryz.func71 (by kernel_rfl),UE:=.k Tryz.func43 (by kernel_rfl),P33:=.k Tryz.func42 (by kernel_rfl),P4o:=.k Tryz.func16 (by kernel_rfl),P3S:=.k Tryz.func17 (by kernel_rfl),m1:=ZuU,P6g:=ZrR,P5q:=ZmL,P5r:=ZmM,sort:=ZrS,comp:=ZrP,EO:=Zp3,EN:=Zp2,YN:=ZtM,itoa:=ZrQ }
end Go.Proofs.YtdmcjhnbmgmgoaaGreatDoor
namespace Go.Proofs.YtdmcjhnbmgmgoaaGreatDoor
open Go.ChangeShapes Go.WideShapes Go.ChangeAt Go.RowKit Go.Rf
theorem ZvA:Is Tryz.prog 37 (EU 54 64 65 66 67 43 44) [2,3,4] 1:=⟨Tryz.f37,Tryz.f37.body.getD .skip,Tryz.func37,by kernel_rfl,by kernel_rfl,by kernel_rfl,by kernel_rfl,by rw[Tryz.ntmps37];decide⟩
theorem ZfM{n:Net}(h:Tq n=true):xQ n:=by
 simp only[Tq,Bool.and_eq_true,List.all_eq_true,Nat.ble_eq] at h;obtain⟨⟨h1,h2⟩,h3⟩:=h;exact⟨h1,by omega,by omega⟩
def ZuB:List (Nat×AC×List RV×Nat):=[(80,rU 1 8 (.v (.int .i64 0)),[.t 2],1),(37,EU 54 64 65 66 67 43 44,[.t 2,.t 3,.t 4],1)]
def ZuP:List (Nat×(List AV→Option AV)):=[(26,TI .tails),(27,TI .heads),(28,Zr fun b a m=>jV (lY b a m)),(29,x1 fun d=>jV (wM d))]
noncomputable def tab:Tab:=Sj Tryz.prog (FY ZuB) (fun _=>none) (FY ZuP)
theorem ZuY:zL Tryz.prog tab:=
 ZrX yS (all_cons @KZ (all_cons (ZvA.P6i yS) Zks))
  (all_cons (fun _ _ h=>Zq1 (fun n m hk=>zh.P5w n (ZfM hk) m) h) (all_cons (fun _ _ h=>Zq1 (fun n m hk=>zh.P5s n (ZfM hk) m) h)
   (all_cons (fun _ _ h=>ZtY (fun b a m hb ha=>zh.P5Q b a m hb ha) h) (all_cons (fun _ _ h=>Zv0 (fun d hd=>zh.P5t d hd) h) Zks))))
theorem Zr5:Eh tab (zX tab 500) 8 []=some (aH true,true):=by kernel_rfl
theorem ZsD:aN Tryz.prog 8 [] (aH true):=.UZ yS ZuY 500 Zr5
end Go.Proofs.YtdmcjhnbmgmgoaaGreatDoor
namespace Go.Rf
open Go.RowKit
theorem Wn(r:wX)(n most:Int):rP (xu r n most).1:=by
 cases h:xu r n most with
 | mk d e=>
  by_cases he:e=0
  ·subst he;exact ZfY (Pt h).1.R
  ·have:d=Al:=by
    unfold xu at h;split at h
    ·cases h;rfl
    unfold Ba at h;split at h
    ·split at h
     ·dsimp only at h
      split at h
      ·unfold wM at h
       split at h
       ·cases h;exact(he rfl).elim
       ·cases h;rfl
      ·cases h;rfl
     ·cases h;rfl
    ·cases h;rfl
   subst this;exact QW
theorem P9{x:aD×Int}(h:x.2=0):x=(x.1,0):=by rw[←h]
end Go.Rf
namespace Go.Proofs.YtdmcjhnbmgmgoaaGreatDoor
open Go.ChangeShapes Go.WideShapes Go.ChangeAt Go.RowKit Go.Rf
abbrev Mv:List (String×DataW Unit):=[("math/bits.deBruijn32tab",Rows.laid_math_bits_deBruijn32tab),("math/bits.deBruijn64tab",Rows.laid_math_bits_deBruijn64tab),("internal/strconv.uint64pow10",Rows.laid_internal_strconv_uint64pow10)]
theorem Zoa(os:Os)(args:Array Value):laidMetH Tryz.prog Mv ((World.doorLaid Tryz.prog 400 os).forCall (fun _ _=>0) ⟨#[],args,[]⟩).memory:=
 laidMetH_of_parts3 (fuel:=8) (laidMet_of_run' 8 (by kernel_rfl) (by kernel_rfl)) (by kernel_rfl) (by kernel_rfl)
theorem Zvv(W:World)(h:laidMetH Tryz.prog Mv W):jI Tryz.prog (E0 W).H:=
 Zoo h (by kernel_rfl) (List.mem_cons_of_mem _ (List.mem_cons_of_mem _ (List.mem_singleton.mpr (by kernel_rfl)))) (g:=0) (t:=194) (e:=162) (n:=20) (by kernel_rfl) (by kernel_rfl) (by kernel_rfl) (by kernel_rfl) (by kernel_rfl) (by kernel_rfl)
end Go.Proofs.YtdmcjhnbmgmgoaaGreatDoor
namespace Go.Rf
structure TL where
 marked:FuncId
 phased:FuncId
 H7:FuncId
 OL:FuncId
 K4:FuncId
 halves:FuncId
 K9:FuncId
 KY:FuncId
 witness:FuncId
 places:FuncId
 OM:FuncId
structure SeP(P:Program)(F:Hg)(G:TL):Prop where
 marked:Is P G.marked (EU F.EL G.phased G.H7 F.Di F.Df F.HY F.KI) [2,3,4] 1
 phased:jS P G.phased Vm [.c 2 (some 2)] 1
 H7:Is P G.H7 Vh [2] 1
 OL:Is P G.OL (Z8i F.EH G.K4 G.halves F.Ol F.Oc) [2,3,4] 1
 K4:Is P G.K4 (Z8k G.K9 G.KY) [4] 2
 halves:Is P G.halves Z8j [6] 3
 K9:Is P G.K9 Z9o [4] 2
 KY:Is P G.KY (Z8a G.halves) [4] 2
 witness:Is P G.witness (Ve G.marked) [2,3,4] 1
 places:Is P G.places (Lg F.OP) [4] 2
 OM:Is P G.OM (Z8l F.Uz) [4] 2
namespace Au
variable{P:Program}{F:Hg}{G:TL}(S:Au P F)(T:SeP P F G)
include S
include T
theorem P5B(d:aD)(ok:rP d):aN P G.marked [aT d] (.aM [aA (jX d),aj (DT d),aH (qD d)]):=
 T.marked.pure S.hm rfl (Zba S.sort S.comp d (S.KM d ok) (fun R=>T.phased.pure S.hm rfl (Zbb d R)) (fun R=>T.H7.pure S.hm rfl (Z9z _ _ (Sg R)))
  (fun s p hs=>⟨S.P5x s p hs,S.P5C s p hs⟩) (fun l hl=>S.P4i d ok l hl))
theorem UO(d:aD)(ok:rP d):aN P G.witness [aT d] (.aM [aA (jX d),aj (DT d),aH (qD d)]):=
 T.witness.pure S.hm rfl (ZeT d _ _ _ (S.P5B T d ok))
theorem UR(d:aD)(ok:rP d)(l:List Int)(hl:l.length≤100000):aN P G.places [aT d,aA l] (aA (qP d l l.length)):=
 T.places.sS S.hm rfl (Zb9 d l hl (fun i _=>S.cAt d ok l (by omega) i))
end Au
end Go.Rf
namespace Go.Proofs.YtdmcjhnbmgmgoaaGreatDoor
open Go.ChangeShapes Go.WideShapes Go.ChangeAt Go.RowKit Go.Rf
def fnP:TL:={ marked:=37,phased:=64,H7:=65,OL:=15,K4:=39,halves:=40,K9:=68,KY:=69,witness:=14,places:=19,OM:=20 }
theorem G6:SeP Tryz.prog fnM fnP:={ marked:=.k Tryz.func37 (by kernel_rfl),phased:=.k Tryz.func64 (by kernel_rfl),H7:=.k Tryz.func65 (by kernel_rfl),OL:=.k Tryz.func15 (by kernel_rfl),K4:=.k Tryz.func39 (by kernel_rfl),halves:=.k Tryz.func40 (by kernel_rfl),K9:=.k Tryz.func68 (by kernel_rfl),KY:=.k Tryz.func69 (by kernel_rfl),witness:=.k Tryz.func14 (by kernel_rfl),places:=.k Tryz.func19 (by kernel_rfl),OM:=.k Tryz.func20 (by kernel_rfl) }
end Go.Proofs.YtdmcjhnbmgmgoaaGreatDoor
namespace Go.Rf
theorem ZjH{d:aD}{l:List Int}{k:Nat}{x:Int}:x∈qP d l k↔∃i:Nat,i < k∧yV d l (i:Nat)=true∧x=(i:Int):=by
 simp only[qP,List.mem_map,List.mem_filter,List.mem_range];constructor
 ·rintro⟨i,⟨h1,h2⟩,rfl⟩;exact⟨i,h1,h2,rfl⟩
 ·rintro⟨i,h1,h2,rfl⟩;exact⟨i,⟨h1,h2⟩,rfl⟩
section
variable{d:aD}{n:Int}{r:wX}{F:List Int→Nat→Bool}
theorem ZtW(M:sD d n F){l:List Int}(hl:qO n l)(hok:qD d=false):qP d l l.length=[]:=by
 cases h:qP d l l.length with
 | nil=>rfl
 | cons x xs=>
  have hx:x∈qP d l l.length:=by rw[h];simp
  rw[ZjH] at hx;obtain⟨i,h1,h2,rfl⟩:=hx;rw[M.at_ hl] at h2;simp only[Bool.and_eq_true,decide_eq_true_eq] at h2;have:=M.UW.mpr ⟨l,i,hl,by omega,by omega,by simpa using h2.2⟩;rw[hok] at this;cases this
end
def uL:aO:=.mk 1 [] [] []
def zZ:aO:=.mk 2 [] [] []
def sK(b a:aO):wX:=⟨0,false,b,a,0⟩
def RH(kd:Kd)(p:aO)(sg most:Int):aD×Int:=if (qE p sg).2=0 then Si kd (qE p sg).1 most else (Al,(qE p sg).2)
theorem Zp9(kd:Kd)(p:aO)(sg most:Int):RH kd p sg most=lD kd p sg most:=by unfold RH lD;rw[Zmz]
def QU(r:wX)(sg most:Int):aD×Int:=
 if sg < 1∨200 < sg∨most < 1∨3000 < most then (Al,1) else
  Ba (RH .tails r.before sg most) fun b=>Ba (RH .heads r.after sg most) fun a=>Ba (lY b a most) wM
theorem Zm3(r:wX)(sg most:Int):QU r sg most=xu r sg most:=by unfold QU xu;simp only[Zp9]
def Ey(r:wX)(n:Int)(k:Nat):Bool:=decide ((QU r n 10).2=0) && Nat.beq (QU r n 10).1.next.length k
def Zvq:Bool:=[1,2,3,4].all fun n=>Ey (sK uL uL) n 4 && Ey (sK zZ uL) n 1 && Ey (sK uL zZ) n 1
theorem Zqm:Zvq=true:=by kernel_rfl
theorem Zql{n:Int}(h1:1≤n)(h2:n≤4):Ey (sK uL uL) n 4=true∧Ey (sK zZ uL) n 1=true∧Ey (sK uL zZ) n 1=true:=by
 have h:=List.all_eq_true.mp Zqm n (by
  have:n=1∨n=2∨n=3∨n=4:=by omega
  simpa using this)
 simp only[Bool.and_eq_true] at h;exact⟨h.1.1,h.1.2,h.2⟩
theorem XU{r:wX}{n:Int}{k:Nat}(h:Ey r n k=true):(xu r n 10).2=0∧(xu r n 10).1.next.length=k:=by
 simp only[Ey,Zm3,Bool.and_eq_true,decide_eq_true_eq] at h;exact⟨h.1,Nat.eq_of_beq_eq_true h.2⟩
theorem ZpN(l:List Int)(p:Nat)(hp:p≤l.length):mO uL l p p=true:=AP.mpr ⟨by omega,by omega,by unfold uL;simp[MR]⟩
theorem ZpO(l:List Int)(a b:Int):mO zZ l a b=false:=by
 cases h:mO zZ l a b with
 | false=>rfl
 | true=>
  have:=(AP.mp h).2.2;unfold zZ at this;simp[MR,nO] at this
theorem Zm0(l:List Int)(p:Nat)(hp:p≤l.length):D7 (sK uL uL) l p=true:=by
 simp only[D7,sK,Bool.and_eq_true,List.any_eq_true,List.mem_range];exact⟨⟨p,by omega,ZpN l p hp⟩,p,by omega,ZpN l p hp⟩
theorem Zm2(l:List Int)(p:Nat):D7 (sK zZ uL) l p=false:=by simp[D7,sK,ZpO]
theorem Zm1(l:List Int)(p:Nat):D7 (sK uL zZ) l p=false:=by simp[D7,sK,ZpO]
section
variable{d:aD}{n:Int}{F:List Int→Nat→Bool}
theorem Xn(M:sD d n F)(hF:∀l p,F l p=false):qD d=false:=by
 cases h:qD d with
 | false=>rfl
 | true=>
  obtain⟨l,p,_,_,_,h4⟩:=M.UW.mp h;rw[hF] at h4;cases h4
theorem Zcl(M:sD d n F)(hF:∀l p,F l p=false){l:List Int}(hl:qO n l):qP d l l.length=[]:=ZtW M hl (Xn M hF)
theorem ZfR:∀k:Nat,((List.range k).filter fun i=>decide (1≤i)).length=k - 1
 | 0=>rfl
 | k+1=>by
  rw[List.range_succ,List.filter_append,List.length_append,ZfR k];by_cases h:1≤k
  ·simp[h]
   try omega
  ·have:k=0:=by omega
   subst this;simp
theorem Zje(M:sD d n F)(hF:∀l p,p≤l.length→F l p=true){l:List Int}(hl:qO n l):(qP d l l.length).length=l.length - 1:=by
 unfold qP;rw[List.length_map,←ZfR l.length];congr 1;refine List.filter_congr fun i hi=>?_
 have hi':=List.mem_range.mp hi;rw[M.at_ hl];have hF':=hF l i (by omega);by_cases h:1≤i
 ·have h':(1:Int)≤(i:Int):=by omega
  have h2:(i:Int) < (l.length:Int):=by omega
  simp only[h,hF',h',h2,Int.toNat_natCast,and_self,decide_true,Bool.and_self]
 ·have h':¬(1:Int)≤(i:Int):=by omega
  simp only[h,h',false_and,decide_false,Bool.false_and]
theorem Zoi(M:sD d n F)(hn:1≤n)(hF:∀l p,p≤l.length→F l p=true):qD d=true:=
 M.UW.mpr ⟨[0,0],1,fun x hx=>by simp at hx;subst hx;omega,by omega,by simp,hF _ _ (by simp)⟩
end
end Go.Rf
namespace Go.Rf
open Go.RowKit
attribute [local simp] oJ oH oD pF pJ pQ pK oI qm pO oF o9 jK jT jU kr pY qM qK qJ qA qL oP oL qp pR qo qG qF qC qx pU qw qI qH oK kL pG pV pW pq o8 dO iA fI gI ig fH gJ iq gX gT gY eY gN gZ gM eB eD gQ iJ iG iI iH iK fV fK fG dY fZ gu gy fO fP iL iw gP iE iB iD iC iF iM gV fQ fE fF fJ fU dx dL eZ gW iN ex au cu dM dX bM bU aG bB dV eX dR fM gL gK iy gU bL dw dz dZ d9 gD dS bA pE ow dA dJ pI oZ pX oz eu eU eO eT dW dn dU dQ dP bq qz oG oC qh o7 qd qg qj kV p9 p8 ql S0 aj aH ru qZ rA q9 qY rz rH q8 rG rO rE rM rD rJ rC
def mpJ(d:aD)(l:List Int)(k:Nat)(o:Bool):Prop:=o=false→qP d l k=[]
theorem ZtV{g:Nat→Option aF}{o:Bool}{id:Nat}{l:List Int}(hg:g id=vB o 1 (l.map aj))(h0:o=false→l=[]):kI g (vV o id (l.map aj)) (aA l):=by
 cases o with
 | true=>
  rw[bE] at hg;rw[bZ];refine .own id 0 _ 1 (l.map aj) _ hg (by simp) (by simp) fun i h1 h2=>?_
  simp only[List.drop_zero,List.take_length] at h1 ⊢;simp only[List.getElem_map,aj];exact .v _
 | false=>
  rw[h0 rfl];exact .nil true false (by simp)
theorem ZaG{P:Program}{fa:FuncId}(d:aD)(l:List Int)(hl:l.length≤100000)(ha:∀i:Nat,i < l.length→aN P fa [aT d,aA l,aj i] (aH (yV d l (i:Nat)))) :
  bG P 0 (Lg fa) (gG [4] (JB (aA (qP d l l.length)))) (bP [aT d,aA l]) S0:=by
 simp[Lg,WX];refine wG l.length (mpJ d l) (y8 d l) 3 (y9 d l) false (fun _=>rfl) ?_ ?_
 ·refine bR.of [(0,0)] [] (by omega) ⟨by simp,by simp⟩ ?_ ?_
  ·simp[mR,iZ.cl,bQ.cl,aW,dN,aS,jo,jL,mX,mV,mW,jZ,mH,nu,mY,nk,jr,lu,jw,ny,lQ,kX,mh,nA,nD,nC,ni,kM,kJ,nE,lZ,mZ,l6,kK,mF,jh,nG,au,cu,aG,bB,jK,jT,jU,kr,bM,bU,bZ,jO,bE,kQ,aj,aH,y9,iV]
  ·simp[mR,iZ.cl,bQ.cl,aW,dN,aS,jo,jL,mX,mV,mW,jZ,mH,nu,mY,nk,jr,lu,jw,ny,lQ,kX,mh,nA,nD,nC,ni,kM,kJ,nE,lZ,mZ,l6,kK,mF,jh,nG,au,cu,aG,bB,jK,jT,jU,kr,bM,bU,bZ,jO,bE,kQ,aj,aH,y8,qP]
 ·rintro i o hi hJ
  by_cases hlt:i < l.length
  ·have hat:=ha i hlt
   have vD:(i:Int) < (l.length:Int):=by omega
   have hpl:=Zcp d l i;have hok:dF 8 (qP d l i).length 1:=by unfold dF;omega
   have hsu:=Zb0 d l i;simp[y8,y9,hlt,vD];refine aQ.pure hat (aK (iV _) (aK (aS _) (aK (aW _) aU))) (dN _) ?_;cases hb:yV d l (i:Nat) with
   | true=>
    rw[hb] at hsu;simp only[if_true] at hsu;simp[hok];rw[bI _ (by omega)];refine⟨hlt,true,(fun h=>by cases h),bR.of [(0,0),(1,13)] [] (by omega) ⟨by simp,by simp⟩ ?_ ?_⟩
    ·simp[mR,iZ.cl,bQ.cl,aW,dN,aS,jo,jL,mX,mV,mW,jZ,mH,nu,mY,nk,jr,lu,jw,ny,lQ,kX,mh,nA,nD,nC,ni,kM,kJ,nE,lZ,mZ,l6,kK,mF,jh,nG,au,cu,aG,bB,jK,jT,jU,kr,bM,bU,bZ,jO,bE,kQ,aj,aH,y9,iV,hsu]
    ·simp[mR,iZ.cl,bQ.cl,aW,dN,aS,jo,jL,mX,mV,mW,jZ,mH,nu,mY,nk,jr,lu,jw,ny,lQ,kX,mh,nA,nD,nC,ni,kM,kJ,nE,lZ,mZ,l6,kK,mF,jh,nG,au,cu,aG,bB,jK,jT,jU,kr,bM,bU,bZ,jO,bE,kQ,aj,aH,y8,hsu]
   | false=>
    rw[hb] at hsu;simp only[Bool.false_eq_true,if_false,List.append_nil] at hsu;simp;rw[bI _ (by omega)];refine⟨hlt,o,(fun h=>by rw[hsu];exact hJ h),bR.of [(0,0),(1,1)] [] (by omega) ⟨by simp,by simp⟩ ?_ ?_⟩
    ·simp[mR,iZ.cl,bQ.cl,aW,dN,aS,jo,jL,mX,mV,mW,jZ,mH,nu,mY,nk,jr,lu,jw,ny,lQ,kX,mh,nA,nD,nC,ni,kM,kJ,nE,lZ,mZ,l6,kK,mF,jh,nG,au,cu,aG,bB,jK,jT,jU,kr,bM,bU,bZ,jO,bE,kQ,aj,aH,y9,iV,hsu]
    ·simp[mR,iZ.cl,bQ.cl,aW,dN,aS,jo,jL,mX,mV,mW,jZ,mH,nu,mY,nk,jr,lu,jw,ny,lQ,kX,mh,nA,nD,nC,ni,kM,kJ,nE,lZ,mZ,l6,kK,mF,jh,nG,au,cu,aG,bB,jK,jT,jU,kr,bM,bU,bZ,jO,bE,kQ,aj,aH,y8,hsu]
  ·have hke:i=l.length:=by omega
   subst hke;simp[y8,y9];refine ZtV ?_ hJ;simp[mR,iZ.cl,bQ.cl,aW,dN,aS,jo,jL,mX,mV,mW,jZ,mH,nu,mY,nk,jr,lu,jw,ny,lQ,kX,mh,nA,nD,nC,ni,kM,kJ,nE,lZ,mZ,l6,kK,mF,jh,nG,au,cu,aG,bB,jK,jT,jU,kr,bM,bU,bZ,jO,bE,kQ,aj,aH]
def ZkI:AC:= (.loop (.seq (sq [rm 75 24,rm 76 1,ro 77 (.conv .i64 (.t 76)),ro 78 (.bin .rem (.t 77) (ci 20)),ro 79 (.bin .lss (.t 75) (.t 78))] (.cond (.t 79) .skip (.exit 0))) (.seq (.block 1 (.reg none [rm 82 23,rm 83 24,rm 84 5,ro 85 (.bin .rem (.t 83) (.t 84)),ro 86 (.cO 1 1 (.v (.int .i64 0)) [(0,(.t 85))]),ro 87 (.app 1 8 (.t 82) (.t 86)),rm 23 87])) (.reg none [rm 80 24,ro 81 (.bin .add (.t 80) (ci 1)),rm 24 81]))))
def ZhN(KG:FuncId):AC:= (.seq (.reg (some []) [rm 88 9,ro 89 (.bin .eql (.t 88) (ci 0)),rm 90 89,rg 91 90 true (.mv (.t 11)),rg 92 90 true (.bin .eql (.t 91) (ci 0)),ro 93 (.pick (.t 90) (.t 92) (.c (.v (.bool false)))),rm 94 93,rg 95 94 true (.mv (.t 13)),rg 96 94 true (.bin .eql (.t 95) (ci 0)),ro 97 (.pick (.t 94) (.t 96) (.c (.v (.bool false)))),rm 98 97,rg 99 98 true (.mv (.t 16)),ro 100 (.pick (.t 98) (.t 99) (.c (.v (.bool false)))),rm 101 100,rg 102 101 true (.mv (.t 19)),rg 103 101 true (.un .not (.t 102)),ro 104 (.pick (.t 101) (.t 103) (.c (.v (.bool false)))),rm 105 104,rg 106 105 true (.mv (.t 22)),rg 107 105 true (.un .not (.t 106)),ro 108 (.pick (.t 105) (.t 107) (.c (.v (.bool false)))),rm 109 108,rg 110 109 true (.load (some 3) (.t 8)),rg 111 109 true (.mv (.t 23)),rl 112 109 true KG [(.t 110),(.t 111)],rg 113 109 true (.len (.t 112)),rg 114 109 true (.mv (.t 23)),rg 115 109 true (.len (.t 114)),rg 116 109 true (.bin .sub (.t 115) (ci 1)),rg 117 109 true (.mm true (ci 0) (.t 116)),rg 118 109 true (.bin .eql (.t 113) (.t 117)),ro 119 (.pick (.t 109) (.t 118) (.c (.v (.bool false)))),rm 120 119,rg 121 120 true (.load (some 3) (.t 10)),rg 122 120 true (.mv (.t 23)),rl 123 120 true KG [(.t 121),(.t 122)],rg 124 120 true (.len (.t 123)),rg 125 120 true (.load (some 3) (.t 12)),rg 126 120 true (.mv (.t 23)),rl 127 120 true KG [(.t 125),(.t 126)],rg 128 120 true (.len (.t 127)),rg 129 120 true (.bin .add (.t 124) (.t 128)),rg 130 120 true (.bin .eql (.t 129) (ci 0)),ro 131 (.pick (.t 120) (.t 130) (.c (.v (.bool false)))),rm 132 131,rg 133 132 true (.cZ 1 (.t 8)),rg 134 132 true (.load none (.t 133)),rg 135 132 true (.len (.t 134)),rg 136 132 true (.bin .eql (.t 135) (ci 4)),ro 137 (.pick (.t 132) (.t 136) (.c (.v (.bool false)))),rm 138 137,rg 139 138 true (.cZ 1 (.t 10)),rg 140 138 true (.load none (.t 139)),rg 141 138 true (.len (.t 140)),rg 142 138 true (.bin .eql (.t 141) (ci 1)),ro 143 (.pick (.t 138) (.t 142) (.c (.v (.bool false)))),rm 144 143,rg 145 144 true (.cZ 1 (.t 12)),rg 146 144 true (.load none (.t 145)),rg 147 144 true (.len (.t 146)),rg 148 144 true (.bin .eql (.t 147) (ci 1)),ro 149 (.pick (.t 144) (.t 148) (.c (.v (.bool false)))),rm 4 149]) .ret)
def U5(P3b UN UA KG:FuncId):AC:= (sq [ro 4 (.mv (.c (.v (.bool false))))] (.seq (sq [rk 25 P3b [],ro 26 (.un .not (.t 25))] (.cond (.t 26) (sq [ro 4 (.mv (.c (.v (.bool false))))] .ret) .skip)) (sq [rm 27 0,ro 28 (.conv .i64 (.t 27)),ro 29 (.bin .rem (.t 28) (ci 4)),ro 30 (.bin .add (ci 1) (.t 29)),rm 5 30] (sq [ro 31 (.build (.agg [(.v (.int .i64 0)),(.sl true []),(.sl true []),(.sl true [])]) [(0,1)] [(0,(ci 1))]),ro 6 (.alloc (.agg [(.v (.int .i64 0)),(.sl true []),(.sl true []),(.sl true [])]) 4),rn (.store 4 (.t 6) (.t 31))] (sq [ro 32 (.build (.agg [(.v (.int .i64 0)),(.sl true []),(.sl true []),(.sl true [])]) [(0,1)] [(0,(ci 2))]),ro 7 (.alloc (.agg [(.v (.int .i64 0)),(.sl true []),(.sl true []),(.sl true [])]) 4),rn (.store 4 (.t 7) (.t 32))] (sq [ro 34 (.load (some 4) (.t 6)),ro 35 (.load (some 4) (.t 6)),ro 36 (.build (.agg [(.v (.int .i64 0)),(.v (.bool false)),(.v (.int .i64 0)),(.sl true []),(.sl true []),(.sl true []),(.v (.int .i64 0)),(.sl true []),(.sl true []),(.sl true []),(.v (.int .i64 0))]) [(2,4),(6,4)] [(2,(.t 34)),(3,(.t 35))]),rm 37 5,rk 38 UN [(.t 36),(.t 37),(ci 10)],rm 33 38,ro 39 (.ext 0 (.t 33)),ro 40 (.ext 1 (.t 33)),ro 8 (.alloc (.agg [(.v (.int .i64 0)),(.sl true []),(.sl true [])]) 3),rn (.store 3 (.t 8) (.t 39)),rm 9 40] (sq [ro 42 (.load (some 4) (.t 7)),ro 43 (.load (some 4) (.t 6)),ro 44 (.build (.agg [(.v (.int .i64 0)),(.v (.bool false)),(.v (.int .i64 0)),(.sl true []),(.sl true []),(.sl true []),(.v (.int .i64 0)),(.sl true []),(.sl true []),(.sl true []),(.v (.int .i64 0))]) [(2,4),(6,4)] [(2,(.t 42)),(3,(.t 43))]),rm 45 5,rk 46 UN [(.t 44),(.t 45),(ci 10)],rm 41 46,ro 47 (.ext 0 (.t 41)),ro 48 (.ext 1 (.t 41)),ro 10 (.alloc (.agg [(.v (.int .i64 0)),(.sl true []),(.sl true [])]) 3),rn (.store 3 (.t 10) (.t 47)),rm 11 48] (sq [ro 50 (.load (some 4) (.t 6)),ro 51 (.load (some 4) (.t 7)),ro 52 (.build (.agg [(.v (.int .i64 0)),(.v (.bool false)),(.v (.int .i64 0)),(.sl true []),(.sl true []),(.sl true []),(.v (.int .i64 0)),(.sl true []),(.sl true []),(.sl true []),(.v (.int .i64 0))]) [(2,4),(6,4)] [(2,(.t 50)),(3,(.t 51))]),rm 53 5,rk 54 UN [(.t 52),(.t 53),(ci 10)],rm 49 54,ro 55 (.ext 0 (.t 49)),ro 56 (.ext 1 (.t 49)),ro 12 (.alloc (.agg [(.v (.int .i64 0)),(.sl true []),(.sl true [])]) 3),rn (.store 3 (.t 12) (.t 55)),rm 13 56] (sq [ro 58 (.load (some 3) (.t 8)),rk 59 UA [(.t 58)],rm 57 59,ro 60 (.ext 0 (.t 57)),ro 61 (.ext 1 (.t 57)),ro 62 (.ext 2 (.t 57)),rm 14 60,rm 15 61,rm 16 62] (sq [ro 64 (.load (some 3) (.t 10)),rk 65 UA [(.t 64)],rm 63 65,ro 66 (.ext 0 (.t 63)),ro 67 (.ext 1 (.t 63)),ro 68 (.ext 2 (.t 63)),rm 17 66,rm 18 67,rm 19 68] (sq [ro 70 (.load (some 3) (.t 12)),rk 71 UA [(.t 70)],rm 69 71,ro 72 (.ext 0 (.t 69)),ro 73 (.ext 1 (.t 69)),ro 74 (.ext 2 (.t 69)),rm 20 72,rm 21 73,rm 22 74] (sq [ro 23 (.mv (.c (.sl true [])))] (.seq (sq [ro 24 (.mv (ci 0))] (.block 0 ZkI)) (ZhN KG))))))))))))))
def Gl(k j:Int):AV:=.agg [.v (.int .i64 0),.v (.bool false),.v (.int .i64 k),.sl true [],.sl true [],.sl true [],.v (.int .i64 j),.sl true [],.sl true [],.sl true [],.v (.int .i64 0)]
theorem EZ:aY (.sl true []):=.sl _ _ (by simp)
theorem ZgH(k j:Int):aY (Gl k j):=
 .agg _ (aK (.v _) (aK (.v _) (aK (.v _) (aK EZ (aK EZ (aK EZ (aK (.v _) (aK EZ (aK EZ (aK EZ (aK (.v _) aU)))))))))))
def mL(n:Int)(k:Nat):List Int:=(List.range k).map fun i:Nat=>(i:Int) % n
def meJ(k:Nat)(o:Bool):Prop:=o=false→k=0
def NI(n nd:Int)(k:Nat)(o:Bool):List (Nat×AV):=[(1,.v (.int .u8 nd)),(5,aj n),(8,.ptr 0 0 0),(9,aj 0),(10,.ptr 1 0 0),(11,aj 0),(12,.ptr 2 0 0),(13,aj 0),(16,aH true),(19,aH false),(22,aH false),(23,vV o 3 ((mL n k).map aj)),(24,aj k)]
def NJ(a b c:aD)(n:Int)(k:Nat)(o:Bool):List (Nat×Option aF):=[(0,some (.arr 3 [aT a])),(1,some (.arr 3 [aT b])),(2,some (.arr 3 [aT c])),(3,vB o 1 ((mL n k).map aj))]
theorem Zby{P:Program}{fal fo fw fp:FuncId}(sg nd:Int)(s0:0≤sg)(s1:sg≤255)(n0:0≤nd)(n1:nd≤255)(hal:aN P fal [] (aH true))(a b c:aD)(x y z:List Int)(px py pz:Int)
  (ha:aN P fo [Gl 1 1,aj (1+sg % 4),aj 10] (jV (a,0))) (hb:aN P fo [Gl 2 1,aj (1+sg % 4),aj 10] (jV (b,0))) (hc:aN P fo [Gl 1 2,aj (1+sg % 4),aj 10] (jV (c,0)))
  (wa:aN P fw [aT a] (.aM [aA x,aj px,aH true])) (wb:aN P fw [aT b] (.aM [aA y,aj py,aH false])) (wc:aN P fw [aT c] (.aM [aA z,aj pz,aH false]))
  (za:List Int) (zl:za.length=(mL (1+sg % 4) (nd % 20).toNat).length - 1) (pa:rW P fp [aT a,aA (mL (1+sg % 4) (nd % 20).toNat)] (aA za)) (pb:rW P fp [aT b,aA (mL (1+sg % 4) (nd % 20).toNat)] (aA []))
  (pc:rW P fp [aT c,aA (mL (1+sg % 4) (nd % 20).toNat)] (aA [])) (qa:aN P fp [aT a,aA (mL (1+sg % 4) (nd % 20).toNat)] (aA za)) (qb:aN P fp [aT b,aA (mL (1+sg % 4) (nd % 20).toNat)] (aA []))
  (qc:aN P fp [aT c,aA (mL (1+sg % 4) (nd % 20).toNat)] (aA [])) (la:a.next.length=4) (lb:b.next.length=1) (lc:c.next.length=1) :
  bG P 0 (U5 fal fo fw fp) (gG [4] (iQ (aH true))) (bP [.v (.int .u8 sg),.v (.int .u8 nd)]) S0:=by
 have c3:=fun s (q:Int) b=>(aY.aM _ (aK (aS s) (aK (aW q) (aK (dN b) aU))):aY (.aM [aA s,aj q,aH b]))
 obtain⟨n,hn⟩:∃n,1+sg % 4=n:=⟨_,rfl⟩;obtain⟨m,hm⟩:∃m,(nd % 20).toNat=m:=⟨_,rfl⟩;rw[hn] at ha hb hc;rw[hn,hm] at zl pa pb pc qa qb qc;have hcs:IntKind.i64.wrap sg=sg:=bI _ (by omega);have hts:sg.tmod 4=sg % 4:=Int.tmod_eq_emod_of_nonneg s0;have hwn:IntKind.i64.wrap (1+sg % 4)=n:=by rw[bI _ (by omega)];exact hn
 have hcn:IntKind.i64.wrap nd=nd:=bI _ (by omega);have htn:nd.tmod 20=(m:Int):=by rw[Int.tmod_eq_emod_of_nonneg n0];omega
 have abB:m < 20:=by omega
 have hn1:1≤n:=by omega
 simp[U5];refine aQ.pure hal aU (dN _) ?_;have kR:=ZgH;simp only[Gl] at ha hb hc kR;have k1:=fun d:aD=>BI (d,0)
 simp only[jV] at ha hb hc k1;have k4:=fun k j=>aK (kR k j) (aK (aW n) (aK (aW 10) aU))
 simp[ex,Jd,hcs,hts,hwn,jc,iR,bA];refine aQ.pure ha (k4 1 1) (k1 a) ?_;simp[jc,iR,bA];refine aQ.pure hb (k4 2 1) (k1 b) ?_;simp[jc,iR,bA];refine aQ.pure hc (k4 1 2) (k1 c) ?_;simp[bA];refine aQ.pure wa (aK (iV _) aU) (c3 x px true) ?_;simp;refine aQ.pure wb (aK (iV _) aU) (c3 y py false) ?_;simp;refine aQ.pure wc (aK (iV _) aU) (c3 z pz false) ?_;simp[ZkI];refine wG m meJ (NI n nd) 4 (NJ a b c n) false (fun _=>rfl) ?_ ?_
 ·refine bR.of [(0,22),(1,33),(2,44)] [] (by omega) ⟨by simp,by simp⟩ ?_ ?_
  ·simp[mR,iZ.cl,bQ.cl,aW,dN,aS,jo,jL,mX,mV,mW,jZ,mH,nu,mY,nk,jr,lu,jw,ny,lQ,kX,mh,nA,nD,nC,ni,kM,kJ,nE,lZ,mZ,l6,kK,mF,jh,nG,au,cu,aG,bB,jK,jT,jU,kr,bM,bU,bZ,jO,bE,kQ,aj,aH,NJ,iV,mL]
  ·simp[mR,iZ.cl,bQ.cl,aW,dN,aS,jo,jL,mX,mV,mW,jZ,mH,nu,mY,nk,jr,lu,jw,ny,lQ,kX,mh,nA,nD,nC,ni,kM,kJ,nE,lZ,mZ,l6,kK,mF,jh,nG,au,cu,aG,bB,jK,jT,jU,kr,bM,bU,bZ,jO,bE,kQ,aj,aH,NI,mL]
 ·rintro k o hk hJ
  by_cases hlt:k < m
  ·have vD:(k:Int) < (m:Int):=by omega
   have hz:¬n=0:=by omega
   have htk:(k:Int).tmod n=(k:Int) % n:=Int.tmod_eq_emod_of_nonneg (by omega);have hln:(mL n k).length=k:=by simp[mL]
   have hok:dF 8 (mL n k).length 1:=by unfold dF;omega
   have hsu:mL n (k+1)=mL n k++[(k:Int) % n]:=by simp[mL,List.range_succ]
   simp[NI,NJ,hlt,vD,ex,Jd,hcn,htn,hz,htk,hok];rw[bI _ (by omega)];refine⟨hlt,true,(fun h=>by cases h),bR.of [(0,0),(1,1),(2,2),(3,14)] [] (by omega) ⟨by simp,by simp⟩ ?_ ?_⟩
   ·simp[mR,iZ.cl,bQ.cl,aW,dN,aS,jo,jL,mX,mV,mW,jZ,mH,nu,mY,nk,jr,lu,jw,ny,lQ,kX,mh,nA,nD,nC,ni,kM,kJ,nE,lZ,mZ,l6,kK,mF,jh,nG,au,cu,aG,bB,jK,jT,jU,kr,bM,bU,bZ,jO,bE,kQ,aj,aH,NJ,iV,hsu]
   ·simp[mR,iZ.cl,bQ.cl,aW,dN,aS,jo,jL,mX,mV,mW,jZ,mH,nu,mY,nk,jr,lu,jw,ny,lQ,kX,mh,nA,nD,nC,ni,kM,kJ,nE,lZ,mZ,l6,kK,mF,jh,nG,au,cu,aG,bB,jK,jT,jU,kr,bM,bU,bZ,jO,bE,kQ,aj,aH,NI,hsu]
  ·have hke:k=m:=by omega
   subst hke;have hzl:((mL n k).length:Int)≤20:=by simp[mL];omega
   have hwl:IntKind.i64.wrap (((mL n k).length:Int) - 1)=((mL n k).length:Int) - 1:=bI _ (by omega);have hw0:IntKind.i64.wrap 0=0:=rfl;simp[NI,NJ,ex,Jd,hcn,htn,ZhN];cases o with
   | false=>
    have:=hJ rfl;subst this;have e0:mL n 0=[]:=rfl;rw[e0] at qa qb qc zl ⊢;have hza:za=[]:=by simpa using zl
    subst hza;have W:∀d:aD,kU [aT d,.sl true []] [aT d,aA []]:=fun d=>.cons (.refl _) (.cons (Wk.sl' (.refl _)) .nil)
    have cc:∀d:aD,∀y∈[aT d,AV.sl true []],aY y:=fun d=>aK (iV d) (aK EZ aU)
    have D1:=fun n' g'=>mo.cd (S:=⟨n',g'⟩) (qa.wk (W a)) (cc a) (aS _)
    have D2:=fun n' g'=>mo.cd (S:=⟨n',g'⟩) (qb.wk (W b)) (cc b) (aS _)
    have D3:=fun n' g'=>mo.cd (S:=⟨n',g'⟩) (qc.wk (W c)) (cc c) (aS _)
    simp;have hw1:IntKind.i64.wrap (-1) = -1:=rfl;refine⟨_,⟨_,D1 _ _⟩,?_⟩;simp[hw1];refine⟨_,⟨_,D2 _ _⟩,?_⟩;simp;refine⟨_,⟨_,D3 _ _⟩,?_⟩;simp[hw0,la,lb,lc];exact jF _ _
   | true=>
    have FL:∀(d:aD) n' g',g' 3=some (.arr 1 ((mL n k).map aj))→fC (only [3] (St.mk n' g').g) [aT d,.own 3 0 (mL n k).length] [aT d,aA (mL n k)]:=fun d n' g' hg=>
     .cons (.closed _ (iV d)) (.cons (.own 3 0 _ 1 ((mL n k).map aj) _ (by simp[only,hg]) (by simp) (by simp) (fun i h1 h2=>by simp at h1 h2 ⊢;exact .closed _ (aW _))) .nil)
    have DD:∀(d:aD) (u:List Int),aN P fp [aT d,aA (mL n k)] (aA u)→rW P fp [aT d,aA (mL n k)] (aA u)→∀n' g',g' 3=some (.arr 1 ((mL n k).map aj))→mo P fp [aT d,.own 3 0 (mL n k).length] ⟨n',g'⟩ [3] (aA u):=
     fun d u q p n' g' hg=>⟨_,q,(FL d n' g' hg).1,(FL d n' g' hg).2,.inr (.inr ⟨aS _,p⟩)⟩
    have hb3:vB true 1 ((mL n k).map aj)=some (.arr 1 ((mL n k).map aj)):=bE _ _;rw[hb3];simp[bZ];refine⟨_,⟨_,DD a za qa pa _ _ (by simp)⟩,?_⟩
    have hzz:((za.length:Int) == if 1 < ((mL n k).length:Int) then ((mL n k).length:Int) - 1 else 0)=true:=by
     rw[beq_iff_eq];split<;>omega
    simp[hwl,hzz];refine⟨_,⟨_,DD b [] qb pb _ _ (by simp)⟩,?_⟩;simp;refine⟨_,⟨_,DD c [] qc pc _ _ (by simp)⟩,?_⟩;simp[hw0,la,lb,lc];exact jF _ _
end Go.Rf
