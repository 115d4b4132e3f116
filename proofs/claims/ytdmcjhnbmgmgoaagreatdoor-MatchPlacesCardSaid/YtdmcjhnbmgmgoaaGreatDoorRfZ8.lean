import Derived.Test.YtdmcjhnbmgmgoaaGreatDoorRfY5
import Derived.Test.YtdmcjhnbmgmgoaaGreatDoorRows
import Derived.WalkKit
import Derived.ProofKit
import Derived.Below
import Derived.SizedLaws
import Derived.KernelRfl
import Derived.Test.YtdmcjhnbmgmgoaaGreatDoorCards
import Derived.Test.YtdmcjhnbmgmgoaaGreatDoorTie
import Derived.LaidMore
import Derived.OpenShut
import Derived.Stop.Joined
import Derived.SevenTiedAt
set_option linter.unusedVariables false
set_option linter.unusedSimpArgs false
set_option linter.unusedSectionVars false
namespace Go.Rf
open Go.RowKit
attribute [local simp] l9 lT l6 mI mJ mM mK l7 mP mH mF dN gL fJ gJ ig fI gK iq gX gV gY eZ gQ gZ gP d9 eF gU iN iK iM iL iO gD fM fH dZ fQ fU fV fP fE iH iw gT iF iC iE iD iG iI iA gu fF fG fK gy dx dL fq iB iJ ex au bS dM dY bF bJ aG bf dU eY dQ fO gN gM iy gW bO dw dz eD eu fZ dR bC bZ dD dJ dF fu eB eX eP eU dW dh dS dP dO bB AV.solid S0 aj aH
def He(l:List Int):Bool:=!l.isEmpty
theorem ZfC{P:Program}{fc:FuncId}(H:wW P fc (rZ 1 8 (.v (.int .i64 0))) [.t 2] 1)(l:List Int)(hl:l.length≤17592186043904){S:St}{K:AV→St→Prop}(hg:S.g (S.n+5)=none)
  (hk:K (vV (He l) (S.n+5) (l.map aj)) ((St.mk (S.n+7) S.g).set (S.n+5) (vB (He l) 1 (l.map aj)))):aQ P fc [aA l] S K:=by
 refine H rfl ?_;have hb:dw 1 0 (.v (.int .i64 0)) []=some (.sl true []):=VW _ _;by_cases h0:l=[]
 ·subst h0
  have hr:∀n aC,(lU 1 8 (.sl true []) (.sl false [])).run ⟨n,S.g⟩ aC=some (.sl true [],⟨n,S.g⟩):=by
   intro n aC;simp[lU,nk,AV.lK,Eff.run,St.fD,St.iY,dV]
  have hs:∀n,(St.mk n S.g).set (S.n+5) none=St.mk n S.g:=fun n=>by
   simp only[St.set,St.mk.injEq,true_and];funext j;simp only[bI];split
   ·rename_i h;subst h;exact hg.symm
   ·rfl
  simp only[He,List.isEmpty_nil,Bool.not_true,List.map_nil,jr,jN,hs] at hk;simp[rZ,aA,hr];refine⟨[.sl true []],by simp[bX,RV.ev,au],?_⟩;simp[cO];exact hk
 ·have hn:He l=true:=by cases l with
   | nil=>exact(h0 rfl).elim
   | cons x l=>rfl
  have hr:∀n aC,(lU 1 8 (.sl true []) (.sl false (l.map aj))).run ⟨n,S.g⟩ aC=some (.own aC 0 l.length,(⟨n,S.g⟩:St).set aC (some (.arr 1 (l.map aj)))):=by
   intro n aC;have hc:=Ch l;have ha:dV 8 0 l.length:=by unfold dV;omega
   have hc2:∀x∈l.map aj,x.cells.length=1:=hc;have h3:nk 1 [] (.sl false (l.map aj))=some (l.map aj):=by simp only[nk];rw[if_pos hc2]
   have h4:¬(l.map aj).length=0:=by simp;exact h0
   simp only[lU,Eff.run,AV.lK,List.mapM_nil,Option.pure_def,h3,Option.bind_some,List.length_nil,Nat.zero_add,List.length_map,ha,and_true];rw[if_pos (by simp),if_neg (by simpa using h0)];simp[St.fD,St.iY]
  rw[hn,bT,bA,List.length_map] at hk;simp[rZ,aA,hr];refine⟨[.own (S.n+5) 0 l.length],by simp[bX,RV.ev,au],?_⟩;simp[cO];exact hk
def Nc(o:Bool)(q k:Nat):AV:=if o=true then .own q 0 k else .sl true []
theorem Zp8{P:Program}{f f1:FuncId}{sg:Int}{o:Bool}{st:Gs}{l:List Int}(h:aQ P f [vV o 4 (l.map aj),.aP f1 [] [.ptr 3 0 0]] ⟨5,cB (nS sg o st l)⟩ (Yc sg o st l)){S:St}{K:AV→St→Prop}{id b c bx q:Nat}
  (h1:S.g id=some (.arr 4 [bP sg (.own b 0 st.aB.length) (.own c 0 st.fo.length)])) (h2:S.g b=some (.arr 1 (st.aB.map aA))) (h3:S.g c=some (.arr 1 (st.fo.map aA)))
  (h4:S.g bx=some (.arr 1 [.ptr id 0 0])) (h5:S.g q=vB o 1 (l.map aj)) (hd:[(0,id),(1,b),(2,c),(3,bx),(4,q)].Pairwise fun p q=>p.1≠q.1∧p.2≠q.2) (hl:id < S.n∧b < S.n∧c < S.n∧bx < S.n∧q < S.n)
  (hk:∀xs:List Int,xs.take (l.filter (lJ sg)).length=l.filter (lJ sg)→xs.length=l.length→K (Nc o q (l.filter (lJ sg)).length) ((St.mk (S.n+5) S.g).set q (vB o 1 (xs.map aj)))) :
  aQ P f [vV o q (l.map aj),.aP f1 [] [.ptr bx 0 0]] S K:=by
 refine aQ.frame 5 [(0,id),(1,b),(2,c),(3,bx),(4,q)] (nS sg o st l) [vV o 4 (l.map aj),.aP f1 [] [.ptr 3 0 0]] _ hd (by simp;omega) ?_ ?_ h ?_
 ·intro p hp
  simp only[nS,mG,List.mem_cons,List.not_mem_nil,or_false] at hp;rcases hp with rfl | rfl | rfl | rfl | rfl
  ·exact .inr ⟨q,by simp,by rw[h5];exact jO (iZ _)⟩
  ·refine .inr ⟨bx,by simp,?_⟩
   rw[h4,iQ];exact⟨rfl,.cons (.ptr _ _ _ _ (by simp)) .nil⟩
  ·refine .inr ⟨id,by simp,?_⟩
   rw[h1,iQ];refine⟨rfl,?_⟩;simp only[bP,jJ,jL,and_true,jM,bT,List.length_map];exact⟨.cl (aS _),.own _ _ _ _ (by simp),.own _ _ _ _ (by simp),.cl (jD _)⟩
  ·exact .inr ⟨b,by simp,by rw[h2,bA,iQ];exact⟨rfl,.cl (jd _)⟩⟩
  ·exact .inr ⟨c,by simp,by rw[h3,bA,iQ];exact⟨rfl,.cl (jd _)⟩⟩
 ·exact .cons (jQ (by simp) (iZ _)) (.cons (Ru (by simp)) .nil)
 ·rintro r1 S1 hn ⟨xs,rfl,q1,q2,rfl⟩
  refine⟨Nc o q (l.filter (lJ sg)).length,_,hk xs q1 q2,?_,by simp[bf],fun i k hi=>?_⟩
  ·unfold Nc
   cases o with
   | true=>simp only[if_true];exact .own _ _ _ _ (.inl ⟨by omega,by simp⟩)
   | false=>simp only[Bool.false_eq_true,if_false];exact .cl (jD _)
  ·simp only[aG] at hi
   by_cases eq:i=q
   ·rw[if_pos eq] at hi
    refine .inr ⟨4,.inl ⟨by omega,by simp[eq]⟩,?_⟩;rw[←hi];simp only[nS,cB,if_true];exact jO (iZ _)
   rw[if_neg eq] at hi;by_cases e0:i=id
   ·refine .inr ⟨0,.inl ⟨by omega,by simp[e0]⟩,?_⟩
    rw[←hi,e0,h1];simp only[nS,mG,cB,show(0:Nat)=4↔False by simp,show(0:Nat)=3↔False by simp,if_false,if_true];rw[iQ];refine⟨rfl,?_⟩;simp only[bP,jJ,jL,and_true,jM,bT,List.length_map];exact⟨.cl (aS _),.own _ _ _ _ (.inl ⟨by omega,by simp⟩),.own _ _ _ _ (.inl ⟨by omega,by simp⟩),.cl (jD _)⟩
   by_cases e1:i=b
   ·refine .inr ⟨1,.inl ⟨by omega,by simp[e1]⟩,?_⟩
    rw[←hi,e1,h2];simp only[nS,mG,cB,show(1:Nat)=4↔False by simp,show(1:Nat)=3↔False by simp,show(1:Nat)=0↔False by simp,if_false,if_true,bA];rw[iQ];exact⟨rfl,.cl (jd _)⟩
   by_cases e2:i=c
   ·refine .inr ⟨2,.inl ⟨by omega,by simp[e2]⟩,?_⟩
    rw[←hi,e2,h3];simp only[nS,mG,cB,show(2:Nat)=4↔False by simp,show(2:Nat)=3↔False by simp,show(2:Nat)=0↔False by simp,show(2:Nat)=1↔False by simp,if_false,if_true,bA];rw[iQ];exact⟨rfl,.cl (jd _)⟩
   by_cases e3:i=bx
   ·refine .inr ⟨3,.inl ⟨by omega,by simp[e3]⟩,?_⟩
    rw[←hi,e3,h4];simp only[nS,mG,cB,show(3:Nat)=4↔False by simp,if_false,if_true];rw[iQ];exact⟨rfl,.cons (.ptr _ _ _ _ (.inl ⟨by omega,by simp⟩)) .nil⟩
   exact .inl ⟨by simp;omega,hi⟩
theorem ZrT{o:Bool}{q:Nat}{l xs:List Int}{sg:Int}{g:Nat→Option aF}(ho:o=true∨l=[])(hg:g q=vB o 1 (xs.map aj))(h1:xs.take (l.filter (lJ sg)).length=l.filter (lJ sg))(h2:xs.length=l.length) :
  Fz (only [q] g) (Nc o q (l.filter (lJ sg)).length) (aA (l.filter (lJ sg))):=by
 unfold Nc;cases o with
 | true=>
  rw[if_pos rfl];rw[bA] at hg;have hle:(l.filter (lJ sg)).length≤l.length:=List.length_filter_le _ _;refine .own q 0 _ 1 (xs.map aj) ((l.filter (lJ sg)).map aj) (by rw[DX,if_pos (by simp)];exact hg) (by simp;omega) (by simp) (fun i h3 h4=>?_);have e:((xs.map aj).drop 0).take (l.filter (lJ sg)).length=(l.filter (lJ sg)).map aj:=by rw[List.drop_zero,←List.map_take,h1]
  simp only[e];exact .closed _ (iZ _ _ (List.getElem_mem _))
 | false=>
  rcases ho with h | rfl
  ·cases h
  ·rw[if_neg (by simp)]
   exact .loose true [] (.sl _ _ (by simp))
theorem Zi2{P:Program}{b:Nat}{Q:Exit→AF→St→Prop}{a:AF}{S:St}{l:List nG}:bM P b (.wT l) Q a S=jV P S.n l [] (nK Q) a ⟨S.n+l.length,S.g⟩:=by simp only[bM];rw[Zr0]
end Go.Rf
namespace Go.Rf
open Go.RowKit
attribute [local simp] oP oM oH pU pK pR pO oO qw pQ oI pI jv jE jF jK qm qQ qO qN qH qP oZ oU qy qd qx qK qJ qF qA qg qz qM qL oQ lQ pV qh qj pJ pG dN gL fJ gJ ig fI gK iq gX gV gY eZ gQ gZ gP d9 eF gU iN iK iM iL iO gD fM fH dZ fQ fU fV fP fE iH iw gT iF iC iE iD iG iI iA gu fF fG fK gy dx dL fq iB iJ ex au bS dM dY bF bJ aG bf dU eY dQ fO gN gM iy gW bO dw dz eD eu fZ dR bC pz oG dD dJ pW pE ql oK eB eX eP eU dW dh dS dP dO bB qD oJ oL qc pF pY qb qp lZ pX qo qE S0 aj aH rA rD rO rz rC rG rJ rE rH rU rR rT rQ rM rP kP dX.cl bH.cl aS bY aR iT jq kL kJ kK jD kF kI kE kQ iZ jP jd kR jQ jO jY kS kU kT kN jJ jL kV jW kM jX jM kH iQ kW bT jr bA jN
def AO(KP P3O P1X sD UJ UR P49 P4Q KM:FuncId):AC:= (sq [ro 2 (.box 1 (.t 0)),ro 3 (.box 4 (.t 1)),ro 4 (.alloc (.agg [(.v (.bool false)),(.sl true []),(.sl true [])]) 3)] (.seq (sq [rF 8 0 3,rL 9 8] (.block 0 (sq [ro 11 (.bin .eql (.t 9) (ci 1)),rm 10 11] (.cond (.t 10) (sq [ro 12 (.build (.agg [(.v (.bool false)),(.sl true []),(.sl true [])]) [(0,1)] [(0,(.c (.v (.bool true))))]),rn (.store 3 (.t 4) (.t 12))] .ret) (sq [ro 14 (.bin .eql (.t 9) (ci 2)),rm 13 14] (.cond (.t 13) (.seq (.wT [(0,⟨(some 15),.load none (.t 2),none,none⟩,[]),(1,⟨(some 16),.dA 2 (.t 3),none,none⟩,[]),(2,⟨(some 17),.load none (.t 16),none,none⟩,[]),(3,⟨(some 18),.mv (.c .junk),none,(some ((.c (.aP KP [] [])),[(.t 17)]))⟩,[0]),(4,⟨(some 19),.Aw P3O [] [(.t 2)],none,none⟩,[]),(5,⟨(some 20),.mv (.c .junk),none,(some ((.c (.aP P1X [] [])),[(.t 18),(.t 19)]))⟩,[0]),(6,⟨(some 21),.mv (.c .junk),none,(some ((.c (.aP sD [] [])),[(.t 20)]))⟩,[0]),(7,⟨(some 22),.mv (.c .junk),none,(some ((.c (.aP UJ [] [])),[(.t 15),(.t 21)]))⟩,[]),(8,⟨(some 23),.dn 1 1 (.v (.int .i64 0)) [(0,(.t 22))],none,none⟩,[]),(9,⟨(some 5),.mv (.t 23),none,none⟩,[])]) (sq [rm 24 5,rm 25 5,ro 26 (.build (.agg [(.v (.bool false)),(.sl true []),(.sl true [])]) [(0,1),(1,1),(2,1)] [(0,(.c (.v (.bool false)))),(1,(.t 24)),(2,(.t 25))]),rn (.store 3 (.t 4) (.t 26))] .ret)) (sq [ro 28 (.bin .eql (.t 9) (ci 3)),rm 27 28] (.cond (.t 27) (.seq (.wT [(0,⟨(some 29),.load none (.t 2),none,none⟩,[]),(1,⟨(some 30),.load none (.t 2),none,none⟩,[]),(2,⟨(some 31),.dA 3 (.t 3),none,none⟩,[]),(3,⟨(some 32),.load none (.t 31),none,none⟩,[]),(4,⟨(some 33),.mv (.c .junk),none,(some ((.c (.aP UR [] [])),[(.t 30),(.t 32)]))⟩,[0]),(5,⟨(some 34),.mv (.c .junk),none,(some ((.c (.aP P49 [] [])),[(.t 29),(.t 33)]))⟩,[]),(6,⟨none,.store 3 (.t 4) (.t 34),none,none⟩,[])]) .ret) (sq [ro 36 (.bin .eql (.t 9) (ci 4)),rm 35 36] (.cond (.t 35) (sq [rL 37 2,rF 38 3 3,rL 39 38,rk 40 UR [(.t 37),(.t 39)],rk 41 P4Q [(.t 40)],rn (.store 3 (.t 4) (.t 41))] .ret) .skip)))))))))) (sq [rL 42 2,rF 43 3 3,rL 44 43,rk 45 UR [(.t 42),(.t 44)],rm 6 45] (.seq (sq [rm 46 6,ro 47 (.len (.t 46)),ro 48 (.bin .neq (.t 47) (ci 1)),rm 49 48,rg 50 49 false (.dA 0 (.t 3)),rg 51 49 false (.load none (.t 50)),rg 52 49 false (.bin .lss (.t 51) (ci 5)),ro 53 (.pick (.t 49) (.c (.v (.bool true))) (.t 52)),rm 54 53,rg 55 54 false (.dA 0 (.t 3)),rg 56 54 false (.load none (.t 55)),rg 57 54 false (.bin .gtr (.t 56) (ci 7)),ro 58 (.pick (.t 54) (.c (.v (.bool true))) (.t 57))] (.cond (.t 58) (sq [ro 59 (.build (.agg [(.v (.bool false)),(.sl true []),(.sl true [])]) [] []),rn (.store 3 (.t 4) (.t 59))] .ret) .skip)) (sq [rm 60 6,ro 61 (.aI 3 (.t 60) (ci 0)),ro 62 (.load (some 3) (.t 61)),ro 7 (.alloc (.agg [(.v (.bool false)),(.sl true []),(.sl true [])]) 3),rn (.store 3 (.t 7) (.t 62))] (.seq (sq [rF 63 0 3,rL 64 63,ro 65 (.bin .neq (.t 64) (ci 7))] (.cond (.t 65) (.reg none [rL 66 2,rF 67 2 7,rL 68 67,rF 69 1 7,rL 70 69,rk 71 KM [(.t 66),(.t 68),(.t 70)]]) .skip)) (sq [rF 72 0 7,rL 73 72,rm 74 73,rg 75 74 false (.dA 0 (.t 3)),rg 76 74 false (.load none (.t 75)),rg 77 74 false (.bin .neq (.t 76) (ci 6)),ro 78 (.pick (.t 74) (.c (.v (.bool true))) (.t 77)),rF 79 0 7,rn (.store 1 (.t 79) (.t 78))] (sq [ro 80 (.load (some 3) (.t 7)),rn (.store 3 (.t 4) (.t 80))] .ret))))))))
structure QV(P:Program)(sg:Int)(ff fc f1 fd ou fst fe fj tN sP:FuncId):Prop where
 clone:wW P fc (rZ 1 8 (.v (.int .i64 0))) [.t 2] 1
 del:∀(l:List Int),l.length≤17592186043904→∀(o:Bool),(o=true∨l=[])→∀(st:Gs),aQ P fd [vV o 4 (l.map aj),.aP f1 [] [.ptr 3 0 0]] ⟨5,cB (nS sg o st l)⟩ (Yc sg o st l)
 set:Jz P ou
 state:∀(o:Bool) (b:List Int) (st:Gs),st.fo.length=st.aB.length→st.aB.length≤100000→oV P fst [aA b] sg o st ⟨st.aB++[b],st.fo++[[]]⟩ (aj st.aB.length)
 each:∀(ks:List aM),ks.length≤100000→(∀q∈ks,FH P ff sg q)→∀(st:Gs),rY st→st.aB.length+lq ks≤10000→oV P fe [.sl false (ks.map jf)] sg true st (dG sg ks st).2 (.sl false ((dG sg ks st).1.map eH))
 join:∀(es:List Ed),es.length≤100000→∀(st:Gs),rY st→(∀e∈es,uF st.aB.length e)→st.aB.length≤10000→oV P fj [.sl false (es.map eH)] sg true st (lF es (nT true) st).2 (eH (lF es (nT true) st).1)
 either:∀(es:List Ed),es.length≤100000→(∀e∈es,uF 100000 e)→aO P tN [.sl false (es.map eH)] (eH (tY es (nT false)))
 follow:∀(ss be:List Int) (st:Gs),rY st→jC st.aB.length ss→jC st.aB.length be→st.aB.length≤100000→oV P sP [aA ss,aA be] sg true st ⟨st.aB,kr st.fo ss be⟩ (.aN [])
theorem yR(sg:Int)(o:Bool)(st:Gs)(x:Option aF):cB (mG sg o st 0 3 4++[(5,x)]) 5=x:=by simp[mG,cB]
theorem Zkg{P:Program}(hm:P.follows .mixedOrders=true){sg:Int}{ff fc f1 fd ou fst fe fj tN sP:FuncId}(F:QV P sg ff fc f1 fd ou fst fe fj tN sP)(h:wX P ff (AO fc f1 fd ou fst fe fj tN sP) [.c 4 (some 3)] 2)
  {k:Int} {ps:List Rg} {pg:List Int} {ks:List aM} (hks:ks.length≤100000) (hpg:pg.length≤17592186043904) (hq:∀q∈ks,FH P ff sg q):FH P ff sg (.mk k ps pg ks):=by
 intro st hst hb;have hbl:st.aB.length≤10000:=by omega
 have hF:∀(d:Option Nat) (a:AF),a 2=.ptr 3 0 0→Fq ⟨d,.load none (.t 2),none,none⟩ a=[3]:=fun d a h=>Zr4 none (.t 2) 3 0 0 (by simpa[dM] using h)
 refine h.xg hm rfl ?_;by_cases k1:k=1
 ·subst k1
  have hres:eT sg (.mk 1 ps pg ks) st=(⟨true,[],[]⟩,st):=by simp[eT]
  simp[AO,lY,mG,bP,bC,jw,jh,JA];refine⟨jA [(4,.ptr 5 0 0)],⟨10,cB (mG sg true st 0 3 4++[(5,some (.arr 3 [eH ⟨true,[],[]⟩]))])⟩,bL.of [(0,0),(3,1),(4,2),(5,5)] [] (by omega) ⟨by simp,by simp⟩ ?_ ?_,?_⟩
  ·simp[mG,bP,eH]
   exact .loose (by simp)
  ·simp
  ·simp[bR,bX,RV.ev,gH,cO,yR,mX,hres]
   first | exact .of | exact⟨rfl,.of⟩
 have k1':(k == 1)=false:=by simpa using k1
 by_cases k2:k=2
 ·subst k2
  have hres:eT sg (.mk 2 ps pg ks) st=(⟨false,[(st.aB.length:Int)],[(st.aB.length:Int)]⟩,⟨st.aB++[z8 sg pg],st.fo++[[]]⟩):=by simp[eT]
  have ho:He pg=true∨pg=[]:=by cases pg<;>simp[He]
  have hfl:(pg.filter (lJ sg)).length≤pg.length:=List.length_filter_le _ _;simp[AO,lY,mG,bP,bC,Zi2,Yf,Xn,Zia,Zfz,k1'];refine ZfC F.clone pg (by omega) (by simp) ?_;refine⟨(by simp[xK,hF,au,aG]),?_⟩;refine Zp8 (F.del pg (by omega) (He pg) ho st) (id:=0) (b:=1) (c:=2) (bx:=3) (q:=27) (by simp[bP]) (by simp) (by simp) (by simp) (by simp) (by simp) (by simp[bf]) ?_;intro xs hx1 hx2;refine⟨(by simp[xK,hF,au,aG]),?_⟩;refine aQ.gives [27] (F.set (pg.filter (lJ sg)) (by omega)) (gI.cons (ZrT ho (by simp) hx1 hx2) gI.nil) (aR _) ?_;refine⟨(by simp[xK,hF,au,aG,Ct]),?_⟩;refine oV.use (F.state true (z8 sg pg) st hst.len (by omega)) (fun _=>.cl (aL (aR _) aU)) (aS _) (id:=0) (b:=1) (c:=2) (by simp[bP,Ct,bT]) (by simp[Ct,bA]) (by simp[Ct,bA]) (by simp) (by simp[ZqL]) ?_;simp[Zr8,Yf,Xn,xK,nM,Ct,ZqL,jw,jh];refine⟨jA [(4,.ptr 5 0 0)],⟨10,cB (mG sg true ⟨st.aB++[z8 sg pg],st.fo++[[]]⟩ 0 3 4++[(5,some (.arr 3 [eH ⟨false,[(st.aB.length:Int)],[(st.aB.length:Int)]⟩]))])⟩,bL.of [(0,0),(3,34),(4,35),(5,5)] [] (by omega) ⟨by simp,by simp⟩ ?_ ?_,?_⟩
  ·simp[mG,bP,eH]
   exact .loose (aL (kF _) aU)
  ·simp
  ·simp[bR,bX,RV.ev,gH,cO,yR,mX,hres]
   first | exact .of | exact⟨rfl,.of⟩
 have k2':(k == 2)=false:=by simpa using k2
 have hE:=F.each ks hks hq st hst (by simp only[jH] at hb;rw[if_neg k1,if_neg k2] at hb;exact hb);obtain⟨n1,n2,n3⟩:=QG sg ks st hst;have hcn:jH (.mk k ps pg ks)=lq ks:=by simp only[jH];rw[if_neg k1,if_neg k2]
 have hel:=Qh sg ks st;by_cases k3:k=3
 ·subst k3
  have hres:eT sg (.mk 3 ps pg ks) st=lF (dG sg ks st).1 (nT true) (dG sg ks st).2:=by simp[eT,nT]
  simp[AO,lY,mG,bP,bC,Zi2,Yf,Xn,Zia,Zfz,k1',k2'];refine oV.use hE (fun _=>.cl (aL (BO ks) aU)) (yN _) (id:=0) (b:=1) (c:=2) (by simp[bP,bT]) (by simp[bA]) (by simp[bA]) (by simp) (by simp) ?_;refine⟨(by simp[xK,hF,au,aG,nM]),?_⟩;refine oV.use (F.join _ (by omega) _ n1 n2 (by omega)) (fun _=>.cl (aL (yN _) aU)) (Fp _) (id:=0) (b:=21) (c:=22) (by simp[bP,nM,bT]) (by simp[nM,bA]) (by simp[nM,bA]) (by simp) (by simp[nM]) ?_;simp[xK,nM,mX,Ja];refine⟨jA [(4,.ptr 5 0 0)],⟨10,cB (mG sg true (lF (dG sg ks st).1 (nT true) (dG sg ks st).2).2 0 3 4++[(5,some (.arr 3 [eH (lF (dG sg ks st).1 (nT true) (dG sg ks st).2).1]))])⟩,bL.of [(0,0),(3,28),(4,29),(5,5)] [] (by omega) ⟨by simp,by simp⟩ ?_ ?_,?_⟩
  ·simp[mG,bP,eH]
  ·simp
  ·simp[bR,bX,RV.ev,gH,cO,yR,mX,Q8,hres]
   first | exact .of | exact⟨rfl,.of⟩
 have k3':(k == 3)=false:=by simpa using k3
 by_cases k4:k=4
 ·subst k4
  have hres:eT sg (.mk 4 ps pg ks) st=(tY (dG sg ks st).1 (nT false),(dG sg ks st).2):=by simp[eT,nT]
  simp[AO,lY,mG,bP,bC,k1',k2',k3'];refine oV.use hE (fun _=>.cl (aL (BO ks) aU)) (yN _) (id:=0) (b:=1) (c:=2) (by simp[bP,bT]) (by simp[bA]) (by simp[bA]) (by simp) (by simp) ?_;simp[nM];refine aQ.pure (F.either _ (by omega) (fun e he=>(n2 e he).mono (by omega))) (aL (yN _) aU) (Fp _) ?_;simp[mX,Ja,bP];refine⟨jA [(4,.ptr 5 0 0)],⟨10,cB (mG sg true (dG sg ks st).2 0 3 4++[(5,some (.arr 3 [eH (tY (dG sg ks st).1 (nT false))]))])⟩,bL.of [(0,0),(3,22),(4,23),(5,5)] [] (by omega) ⟨by simp,by simp⟩ ?_ ?_,?_⟩
  ·simp[mG,bP,eH]
  ·simp
  ·simp[bR,bX,RV.ev,gH,cO,yR,mX,Q8,hres]
   first | exact .of | exact⟨rfl,.of⟩
 have k4':(k == 4)=false:=by simpa using k4
 ·have hres:eT sg (.mk k ps pg ks) st=uQ (dG sg ks st).1 k (dG sg ks st).2:=by simp[eT,k1,k2,k3,k4]
  simp[AO,lY,mG,bP,bC,k1',k2',k3',k4'];refine oV.use hE (fun _=>.cl (aL (BO ks) aU)) (yN _) (id:=0) (b:=1) (c:=2) (by simp[bP,bT]) (by simp[bA]) (by simp[bA]) (by simp) (by simp) ?_;have hle:=Qh sg ks st;generalize hge:dG sg ks st=ge at *;obtain⟨es,st1⟩:=ge;simp only at n1 n2 n3 hle hres ⊢;by_cases hk1:es.length=1
  ·obtain⟨e,rfl⟩:=List.length_eq_one_iff.mp hk1
   have he:=n2 e (by simp);by_cases h57:5≤k∧k≤7
   ·have a1:¬k < 5:=by omega
    have a2:¬7 < k:=by omega
    have hres2:eT sg (.mk k ps pg ks) st=(⟨e.bK || decide (k≠6),e.fst,e.aT⟩,if k=7 then st1 else ⟨st1.aB,kr st1.fo e.aT e.fst⟩):=by rw[hres];simp only[uQ];rw[if_pos h57]
    by_cases h7:k=7
    ·subst h7
     rw[if_pos rfl] at hres2;have hdk:(e.bK || decide ((7:Int)≠6))=true:=by simp
     rw[hdk] at hres2;cases hn:e.bK
     ·simp[nM,bP,bC,mX,hn]
      refine⟨jA [(4,.ptr 5 0 0)],⟨10,cB (mG sg true st1 0 3 4++[(5,some (.arr 3 [eH ⟨true,e.fst,e.aT⟩]))])⟩,bL.of [(0,0),(3,21),(4,22),(5,5)] [] (by omega) ⟨by simp,by simp⟩ ?_ ?_,?_⟩
      ·simp[mG,bP,eH]
      ·simp
      ·simp[bR,bX,RV.ev,gH,cO,yR,mX,hres2]
       first | exact .of | exact⟨rfl,.of⟩
     ·simp[nM,bP,bC,mX,hn]
      refine⟨jA [(4,.ptr 5 0 0)],⟨10,cB (mG sg true st1 0 3 4++[(5,some (.arr 3 [eH ⟨true,e.fst,e.aT⟩]))])⟩,bL.of [(0,0),(3,21),(4,22),(5,5)] [] (by omega) ⟨by simp,by simp⟩ ?_ ?_,?_⟩
      ·simp[mG,bP,eH]
      ·simp
      ·simp[bR,bX,RV.ev,gH,cO,yR,mX,hres2]
       first | exact .of | exact⟨rfl,.of⟩
    ·have h7':(k == 7)=false:=by simpa using h7
     have aay:(k != 7)=true:=by simpa using h7
     rw[if_neg h7] at hres2;have hfo:=F.follow e.aT e.fst st1 n1 he.l he.f (by omega);simp[nM,bP,bC,mX,a1,a2,aay];refine oV.use hfo (fun _=>.cl (aL (aR _) (aL (aR _) aU))) (.aN _ (by simp)) (id:=0) (b:=21) (c:=22) (by simp[bP,bT]) (by simp[bA]) (by simp[bA]) (by simp) (by simp) ?_;cases hn:e.bK
     ·by_cases h6:k=6
      ·subst h6
       have hdk:(e.bK || decide ((6:Int)≠6))=false:=by simp[hn]
       rw[hdk] at hres2;simp[nM,bP];refine⟨jA [(4,.ptr 5 0 0)],⟨10,cB (mG sg true ⟨st1.aB,kr st1.fo e.aT e.fst⟩ 0 3 4++[(5,some (.arr 3 [eH ⟨false,e.fst,e.aT⟩]))])⟩,bL.of [(0,0),(3,55),(4,56),(5,5)] [] (by omega) ⟨by simp,by simp⟩ ?_ ?_,?_⟩
       ·simp[mG,bP,eH]
       ·simp
       ·simp[bR,bX,RV.ev,gH,cO,yR,mX,hres2]
        first | exact .of | exact⟨rfl,.of⟩
      ·have h6':(k != 6)=true:=by simpa using h6
       have hdk:(e.bK || decide (k≠6))=true:=by simp[h6]
       rw[hdk] at hres2;simp[nM,bP,h6'];refine⟨jA [(4,.ptr 5 0 0)],⟨10,cB (mG sg true ⟨st1.aB,kr st1.fo e.aT e.fst⟩ 0 3 4++[(5,some (.arr 3 [eH ⟨true,e.fst,e.aT⟩]))])⟩,bL.of [(0,0),(3,55),(4,56),(5,5)] [] (by omega) ⟨by simp,by simp⟩ ?_ ?_,?_⟩
       ·simp[mG,bP,eH]
       ·simp
       ·simp[bR,bX,RV.ev,gH,cO,yR,mX,hres2]
        first | exact .of | exact⟨rfl,.of⟩
     ·have hdk:(e.bK || decide (k≠6))=true:=by simp[hn]
      rw[hdk] at hres2;simp[nM,bP];refine⟨jA [(4,.ptr 5 0 0)],⟨10,cB (mG sg true ⟨st1.aB,kr st1.fo e.aT e.fst⟩ 0 3 4++[(5,some (.arr 3 [eH ⟨true,e.fst,e.aT⟩]))])⟩,bL.of [(0,0),(3,55),(4,56),(5,5)] [] (by omega) ⟨by simp,by simp⟩ ?_ ?_,?_⟩
      ·simp[mG,bP,eH]
      ·simp
      ·simp[bR,bX,RV.ev,gH,cO,yR,mX,hres2]
       first | exact .of | exact⟨rfl,.of⟩
   ·have hres2:eT sg (.mk k ps pg ks) st=(⟨false,[],[]⟩,st1):=by rw[hres];simp only[uQ];rw[if_neg h57]
    by_cases h5:k < 5
    ·simp[nM,bP,h5,jw,jh]
     refine⟨jA [(4,.ptr 5 0 0)],⟨10,cB (mG sg true st1 0 3 4++[(5,some (.arr 3 [eH ⟨false,[],[]⟩]))])⟩,bL.of [(0,0),(3,21),(4,22),(5,5)] [] (by omega) ⟨by simp,by simp⟩ ?_ ?_,?_⟩
     ·simp[mG,bP,eH]
      exact .loose (by simp)
     ·simp
     ·simp[bR,bX,RV.ev,gH,cO,yR,mX,hres2]
      first | exact .of | exact⟨rfl,.of⟩
    ·have h7:7 < k:=by omega
     simp[nM,bP,h5,h7,jw,jh];refine⟨jA [(4,.ptr 5 0 0)],⟨10,cB (mG sg true st1 0 3 4++[(5,some (.arr 3 [eH ⟨false,[],[]⟩]))])⟩,bL.of [(0,0),(3,21),(4,22),(5,5)] [] (by omega) ⟨by simp,by simp⟩ ?_ ?_,?_⟩
     ·simp[mG,bP,eH]
      exact .loose (by simp)
     ·simp
     ·simp[bR,bX,RV.ev,gH,cO,yR,mX,hres2]
      first | exact .of | exact⟨rfl,.of⟩
  ·have hne:((es.length:Int) == 1)=false:=by simp;omega
   have hne2:¬((es.length:Int)=1):=by omega
   have hres2:eT sg (.mk k ps pg ks) st=(⟨false,[],[]⟩,st1):=by
    rw[hres]
    match es,hk1 with
    | [],_=>rfl
    | _::_::_,_=>rfl
   have ab5:((es.length:Int) != 1)=true:=by simp;omega
   simp[nM,bP,ab5,jw,jh];refine⟨jA [(4,.ptr 5 0 0)],⟨10,cB (mG sg true st1 0 3 4++[(5,some (.arr 3 [eH ⟨false,[],[]⟩]))])⟩,bL.of [(0,0),(3,21),(4,22),(5,5)] [] (by omega) ⟨by simp,by simp⟩ ?_ ?_,?_⟩
   ·simp[mG,bP,eH]
    exact .loose (by simp)
   ·simp
   ·simp[bR,bX,RV.ev,gH,cO,yR,mX,hres2]
    first | exact .of | exact⟨rfl,.of⟩
def ZlD(La:FuncId):AC:= (.loop (sq [ro 10 (.bin .lss (.t 9) (.t 8))] (.seq (.cond (.t 10) .skip (.exit 0)) (.seq (.block 1 (sq [ro 11 (.aI 4 (.t 7) (.t 9)),ro 12 (.load (some 4) (.t 11)),ro 5 (.alloc (.agg [(.v (.int .i64 0)),(.sl true []),(.sl true []),(.sl true [])]) 4),rn (.store 4 (.t 5) (.t 12))] (.reg none [rm 13 3,ro 14 (.load (some 4) (.t 5)),rk 15 La [(.t 14)],ro 16 (.bin .add (.t 13) (.t 15)),ro 17 (.mm false (ci 100000) (.t 16)),rm 3 17]))) (.reg none [ro 18 (.bin .add (.t 9) (ci 1)),rm 9 18])))))
def Iu(La:FuncId):AC:= (sq [ro 1 (.box 4 (.t 0)),ro 2 (.mv (ci 0))] (sq [ro 3 (.mv (ci 1))] (.seq (sq [rF 6 3 1,rL 7 6,ro 8 (.len (.t 7)),ro 9 (.mv (ci 0))] (.block 0 (ZlD La))) (sq [rm 19 3,rm 2 19] .ret))))
mutual
theorem ZiM{P:Program}(hm:P.follows .mixedOrders=true){sg:Int}{ff fc f1 fd ou fst fe fj tN sP:FuncId}(F:QV P sg ff fc f1 fd ou fst fe fj tN sP)(h:wX P ff (AO fc f1 fd ou fst fe fj tN sP) [.c 4 (some 3)] 2) :
  ∀(p:aM),uP p→FH P ff sg p
 | .mk k ps pg ks,hp=>by
  simp only[uP] at hp;exact Zkg hm F h hp.2.1 hp.1 (ZfZ hm F h ks hp.2.2)
theorem ZfZ{P:Program}(hm:P.follows .mixedOrders=true){sg:Int}{ff fc f1 fd ou fst fe fj tN sP:FuncId}(F:QV P sg ff fc f1 fd ou fst fe fj tN sP)(h:wX P ff (AO fc f1 fd ou fst fe fj tN sP) [.c 4 (some 3)] 2) :
  ∀(ks:List aM),zW ks→∀q∈ks,FH P ff sg q
 | [],_,q,hq=>by simp at hq
 | p::ps,hp,q,hq=>by
  simp only[zW] at hp;rcases List.mem_cons.mp hq with e | hq
  ·rw[e];exact ZiM hm F h p hp.1
  ·exact ZfZ hm F h ps hp.2 q hq
end
mutual
def uD:aM→Nat
 | .mk _ _ _ ks=>1+uz ks
def uz:List aM→Nat
 | []=>0
 | q::qs=>uD q+uz qs
end
def wU(p:aM):Int:=min 100000 (uD p)
theorem ZdQ:∀(a b:List aM),uz (a++b)=uz a+uz b
 | [],b=>by simp[uz]
 | p::a,b=>by simp only[List.cons_append,uz];rw[ZdQ a b];omega
mutual
theorem Ri:∀(p:aM),jH p≤uD p
 | .mk k _ _ ks=>by
  have:=ZlU ks;simp only[jH,uD];split
  ·omega
  ·split<;>omega
theorem ZlU:∀(ks:List aM),lq ks≤uz ks
 | []=>by simp[lq,uz]
 | q::qs=>by have:=Ri q;have:=ZlU qs;simp only[lq,uz];omega
end
theorem ZnW{most:Int}:∀{ws:List Int} {s:Int},(∀w∈ws,0≤w)→qX most s ws≤most→qX most s ws=s+ws.sum
 | [],s,_,h=>by simp[qX]
 | w::ws,s,h0,h=>by
  simp only[qX] at h ⊢;have hw:=h0 w (by simp);split at h
  ·rename_i hs
   rw[if_pos hs,ZnW (fun x hx=>h0 x (by simp[hx])) h,List.sum_cons];omega
  ·omega
theorem Ze7{f:aM→Int}{g:aM→Nat}:∀{ks:List aM},(∀q∈ks,(g q:Int)≤f q)→((ks.map g).sum:Int)≤(ks.map f).sum
 | [],_=>by simp
 | q::qs,h=>by
  have h1:=h q (by simp);have h2:=Ze7 (ks:=qs) fun x hx=>h x (by simp[hx])
  simp only[List.map_cons,List.sum_cons] at h2 ⊢
  push_cast at h2 ⊢
  omega
theorem Zn1:∀(ks:List aM),uz ks=(ks.map uD).sum
 | []=>rfl
 | q::qs=>by simp only[uz,List.map_cons,List.sum_cons];rw[Zn1 qs]
def vzI(_:Nat)(_:Unit):Prop:=True
def Ox(ks:List aM)(k:Nat)(_:Unit):List (Nat×AV):=[(3,aj (min 100000 (1+uz (ks.take k):Nat))),(7,.sl false (ks.map jf)),(8,aj ks.length),(9,aj k)]
def Oy(_:Nat)(_:Unit):List (Nat×Option aF):=[]
theorem ZnL{P:Program}{fz:FuncId}(k:Int)(ps:List Rg)(pg:List Int)(ks:List aM)(hl:ks.length≤100000)(hq:∀q∈ks,aO P fz [jf q] (aj (wU q))) :
  bM P 0 (Iu fz) (gG [2] (iP (aj (wU (.mk k ps pg ks))))) (bU [jf (.mk k ps pg ks)]) S0:=by
 simp[Iu,lY,ZlD];refine uJ ks.length vzI (Ox ks) 5 Oy () trivial ?_ ?_
 ·refine bL.of [] [] (by omega) ⟨by simp,by simp⟩ ?_ ?_
  ·simp[Oy]
  ·simp[Ox,uz,BO]
   omega
 ·rintro i _ hi _
  by_cases hlt:i < ks.length
  ·have hsk:ks[i]? = some ks[i]:=List.getElem?_eq_getElem hlt
   have htk:ks.take (i+1)=ks.take i++[ks[i]]:=by rw[List.take_add_one,hsk];rfl
   have hqk:=hq _ (List.getElem_mem hlt);have hcp:=xV ks[i];have hnd:uz (ks.take (i+1))=uz (ks.take i)+uD ks[i]:=by rw[htk,ZdQ];simp[uz]
   have hsz:wU ks[i]=min 100000 (uD ks[i]:Int):=rfl
   obtain⟨x1,x2,x3,x4,hx⟩:∃x1 x2 x3 x4:AV,jf ks[i]=.agg [x1,x2,x3,x4]:=by
    obtain⟨k,s,g,ks⟩:=ks[i];rw[lY];exact⟨_,_,_,_,rfl⟩
   rw[hx] at hqk hcp;generalize hnn:uz (ks.take i)=nn at *;generalize wU ks[i]=zz at *;have Z0:IntKind.i64.wrap (min 100000 (1+(nn:Int))+zz)=min 100000 (1+(nn:Int))+zz:=bG _ (by omega);simp[Ox,Oy,hlt,hx,bC,hnn];refine aQ.pure hqk (aL hcp aU) (aS _) ?_;simp[Z0];rw[bG _ (by omega)];refine⟨hlt,(),trivial,bL.of [] [] (by omega) ⟨by simp,by simp⟩ ?_ ?_⟩
   ·simp[Oy]
   ·simp[Ox,hnd,BO]
    omega
  ·have hke:i=ks.length:=by omega
   subst hke;simp[Ox,Oy];have e:wU (.mk k ps pg ks)=min 100000 (1+(uz ks:Int)):=by simp only[wU,uD];push_cast;rfl
   rw[e];exact yV _ _
mutual
theorem ZnN{P:Program}(hm:P.follows .mixedOrders=true){f:FuncId}(h:Is P f (Iu f) [2] 1):∀(p:aM),uP p→aO P f [jf p] (aj (wU p))
 | .mk k ps pg ks,hp=>by
  simp only[uP] at hp;exact h.rX hm rfl (ZnL k ps pg ks hp.2.1 (Zjw hm h ks hp.2.2))
theorem Zjw{P:Program}(hm:P.follows .mixedOrders=true){f:FuncId}(h:Is P f (Iu f) [2] 1):∀(ks:List aM),zW ks→∀q∈ks,aO P f [jf q] (aj (wU q))
 | [],_,q,hq=>by simp at hq
 | p::ps,hp,q,hq=>by
  simp only[zW] at hp;rcases List.mem_cons.mp hq with e | hq
  ·rw[e];exact ZnN hm h p hp.1
  ·exact Zjw hm h ps hp.2 q hq
end
def Fw(La UJ KT KP sD:FuncId):AC:= (sq [ro 2 (.box 4 (.t 0)),ro 4 (.alloc (.agg [(.v (.int .i64 0)),(.sl true []),(.sl true []),(.sl true [])]) 4),ro 5 (.mv (ci 0))] (.seq (.block 0 (sq [rm 9 1,ro 10 (.bin .lss (.t 9) (ci 1)),rm 11 10,rg 12 11 false (.mv (.t 1)),rg 13 11 false (.bin .gtr (.t 12) (ci 400)),ro 14 (.pick (.t 11) (.c (.v (.bool true))) (.t 13)),rm 8 14] (.cond (.t 8) (sq [ro 15 (.build (.agg [(.v (.int .i64 0)),(.sl true []),(.sl true []),(.sl true [])]) [] []),rn (.store 4 (.t 4) (.t 15)),ro 5 (.mv (ci 1))] .ret) (sq [ro 17 (.load (some 4) (.t 2)),rk 18 La [(.t 17)],ro 19 (.bin .gtr (.t 18) (ci 300)),rm 16 19] (.cond (.t 16) (sq [ro 20 (.build (.agg [(.v (.int .i64 0)),(.sl true []),(.sl true []),(.sl true [])]) [] []),rn (.store 4 (.t 4) (.t 20)),ro 5 (.mv (ci 9))] .ret) .skip))))) (sq [rm 21 1,ro 22 (.build (.agg [(.v (.int .i64 0)),(.sl true []),(.sl true []),(.sl true [])]) [(0,1)] [(0,(.t 21))]),ro 23 (.build (.agg [(.v (.int .i64 0)),(.sl true []),(.sl true []),(.sl true [])]) [(0,4)] [(0,(.t 22))]),ro 24 (.box 4 (.t 23)),rm 6 24] (sq [rm 25 6,rk 26 UJ [(.t 25),(.c (.sl true []))]] (sq [rm 27 6,ro 28 (.load (some 4) (.t 2)),rk 29 KT [(.t 27),(.t 28)],ro 7 (.alloc (.agg [(.v (.bool false)),(.sl true []),(.sl true [])]) 3),rn (.store 3 (.t 7) (.t 29))] (.seq (.reg (some [[],[],[],[],[],[],[],[],[],[],[],[false,true,true,false,false,true]]) [rm 30 6,ro 31 (.iU (.t 30)),rF 32 0 31,rF 33 2 32,rL 34 33,rm 35 6,rF 36 1 7,rL 37 36,rF 38 2 7,rL 39 38,ro 40 (.aI 1 (.t 34) (ci 0)),rn (.store 1 (.t 40) (.t 37)),ro 41 (.iU (.t 35)),rF 42 0 41,rF 43 3 42,rn (.store 1 (.t 43) (.t 39))]) (.seq (sq [rF 44 0 7,rL 45 44] (.cond (.t 45) (.reg none [rm 46 6,rF 47 2 7,rL 48 47,rk 49 KP [(.t 48)],ro 50 (.dn 1 1 (.v (.int .i64 0)) [(0,(ci 0))]),ro 51 (.app 1 8 (.t 49) (.t 50)),rk 52 sD [(.t 51)],ro 53 (.iU (.t 46)),rF 54 0 53,rF 55 3 54,rn (.store 1 (.t 55) (.t 52))]) .skip)) (sq [rm 56 6,ro 57 (.iU (.t 56)),rF 58 0 57,ro 59 (.load (some 4) (.t 58)),rn (.store 4 (.t 4) (.t 59)),ro 5 (.mv (ci 0))] .ret))))))))
def Bv:Net:=⟨0,[],[],[]⟩
def qU(p:aM)(sg:Int):Net×Int:=if sg < 1∨400 < sg then (Bv,1) else if 300 < wU p then (Bv,9) else (kX p sg,0)
def DZ(r:Net×Int):AV:=.aN [jy r.1,aj r.2]
theorem ZlR(r:Net×Int):aY (DZ r):=.aN _ (aL (BQ _) (aL (aS _) aU))
theorem X6(g:Nat→Option aF)(e:Int):Fz g (.aN [.agg [.v (.int .i64 0),.sl true [],.sl true [],.sl true []],.v (.int .i64 e)]) (DZ (Bv,e)):=
 .Ig (.cons (.Ls (.cons (.closed _ (.v _)) (.cons MH (.cons MH (.cons MH .nil))))) (.cons (.closed _ (.v _)) .nil))
theorem Y0{p:aM}(h:¬300 < wU p):jH p≤300:=by
 have:=Ri p;unfold wU at h;omega
theorem ZiN{g:Nat→Option aF}{id n:Nat}{l:List (List Int)}(hg:g id=some (.arr 1 (l.map aA)))(hn:n=l.length):Fz g (.own id 0 n) (aX l):=by
 have:=Bp (g:=g) (o:=true) (id:=id) (xs:=l.map aA) (by rw[bA];exact hg) (jd l);rw[bT,List.length_map,←hn] at this;exact this
theorem ZrU{g:Nat→Option aF}{id n:Nat}{l:List Int}(hg:g id=some (.arr 1 (l.map aj)))(hn:n=l.length):Fz g (.own id 0 n) (aA l):=by
 have:=Bp (g:=g) (o:=true) (id:=id) (xs:=l.map aj) (by rw[bA];exact hg) (iZ l);rw[bT,List.length_map,←hn] at this;exact this
theorem Zml{g:Nat→Option aF}{sg:Int}{b c:Nat}{aB fo:List (List Int)}{x l:List Int}(h1:g b=some (.arr 1 (aB.map aA)))(h2:g c=some (.arr 1 ((fo.set 0 x).map aA))) :
  Fz g (.aN [.agg [.v (.int .i64 sg),.own b 0 aB.length,.own c 0 fo.length,aA l],.v (.int .i64 0)]) (DZ (⟨sg,aB,fo.set 0 x,l⟩,0)):=
 .Ig (.cons (.Ls (.cons (.closed _ (.v _)) (.cons (ZiN h1 rfl) (.cons (ZiN h2 (by simp)) (.cons (.closed _ (aR _)) .nil))))) (.cons (.closed _ (.v _)) .nil))
theorem Lm{P:Program}{fz fst ff fc ou:FuncId}{p:aM}{sg:Int}(hz:aO P fz [jf p] (aj (wU p)))(hs:oV P fst [aA []] sg false ⟨[],[]⟩ st0 (aj 0))(hf:FH P ff sg p)
  (hc:wW P fc (rZ 1 8 (.v (.int .i64 0))) [.t 2] 1) (hset:Jz P ou) :
  bM P 0 (Fw fz fst ff fc ou) (bR [.c 4 (some 4),.t 5] (iP (DZ (qU p sg)))) (bU [jf p,aj sg]) S0:=by
 obtain⟨k,ps,pg,ks⟩:=p;have hcp:=xV (.mk k ps pg ks);by_cases h1:sg < 1
 ·have hr:qU (.mk k ps pg ks) sg=(Bv,1):=by rw[qU,if_pos (.inl h1)]
  rw[hr];simp[Fw,lY,bC,jw,jh,h1,bR,bX,RV.ev,gH,cO];exact X6 _ 1
 by_cases h2:400 < sg
 ·have hr:qU (.mk k ps pg ks) sg=(Bv,1):=by rw[qU,if_pos (.inr h2)]
  rw[hr];simp[Fw,lY,bC,jw,jh,h1,h2,bR,bX,RV.ev,gH,cO];exact X6 _ 1
 have hsz:=hz;simp only[lY,aj] at hsz hcp;by_cases h3:300 < wU (.mk k ps pg ks)
 ·have hr:qU (.mk k ps pg ks) sg=(Bv,9):=by rw[qU,if_neg (by omega),if_pos h3]
  rw[hr];simp[Fw,lY,bC,h1,h2];refine aQ.pure hsz (aL hcp aU) (aS _) ?_;simp[jw,jh,h3,bR,bX,RV.ev,gH,cO];exact X6 _ 9
 have hr:qU (.mk k ps pg ks) sg=(kX (.mk k ps pg ks) sg,0):=by rw[qU,if_neg (by omega),if_neg h3]
 rw[hr];have hcnt:=Y0 h3;have hN0:rY st0:=⟨rfl,fun r hr=>by simp[st0] at hr;subst hr;exact jC.nil⟩;have NU:=hf st0 hN0 (by show 1+_≤_;omega);obtain⟨n1,n2,n3⟩:=Zmr sg (.mk k ps pg ks) st0 hN0;simp only[lY,aj] at NU;have hno:kX (.mk k ps pg ks) sg=⟨sg,(eT sg (.mk k ps pg ks) st0).2.aB,(eT sg (.mk k ps pg ks) st0).2.fo.set 0 (eT sg (.mk k ps pg ks) st0).1.fst,if (eT sg (.mk k ps pg ks) st0).1.bK=true then jl ((eT sg (.mk k ps pg ks) st0).1.aT++[0]) else (eT sg (.mk k ps pg ks) st0).1.aT⟩:=rfl;rw[hno];have hb1:st0.aB.length=1:=rfl;generalize eT sg (.mk k ps pg ks) st0=ge at *;obtain⟨e,st1⟩:=ge;simp only at n1 n2 n3 NU ⊢;have hl:=n1.len;have hfl:0 < st1.fo.length:=by omega
 have hll:=n2.l.len;simp[Fw,lY,bC,h1,h2];refine aQ.pure hsz (aL hcp aU) (aS _) ?_;simp[jw,jh,h3];refine oV.use hs (fun _=>.cons (.loose (by simp)) .nil) (aS _) (id:=17) (b:=2) (c:=3) (by simp[bP,jr]) (by simp[jN]) (by simp[jN]) (by simp) (by simp) ?_;simp[nM];refine oV.use NU (fun _=>.cl (aL hcp aU)) (Fp _) (id:=17) (b:=21) (c:=22) (by simp[bP,bT]) (by simp[bA]) (by simp[bA]) (by simp) (by simp) ?_;cases hn:e.bK
 ·rw[if_neg (by simp)]
  simp[nM,bP,bC,mX,Ja,hfl,lu,hn,bR,bX,RV.ev,gH,cO];exact Zml (by simp) (by simp[List.map_set])
 ·rw[if_pos rfl]
  simp[nM,bP,bC,mX,Ja,hfl,lu,hn];have hap:dV 8 e.aT.length 1:=by unfold dV;omega
  have hst:=hset (e.aT++[0]) (by rw[List.length_append];simp;omega);refine ZfC hc e.aT (by omega) (by simp) ?_;simp[hap];refine aQ.gives [63] hst (gI.cons ?_ gI.nil) (aR _) ?_
  ·exact ZrU (l:=e.aT++[0]) (by simp[DX,aG,aj]) (by simp)
  simp[lu,Ct,lQ,lZ,bR,bX,RV.ev,gH,cO];exact Zml (by simp[Ct]) (by simp[List.map_set,Ct])
def Zrt(wI:FuncId):AC:= (.loop (.seq (sq [rm 6 5,rm 7 1,ro 8 (.len (.t 7)),ro 9 (.bin .lss (.t 6) (.t 8))] (.cond (.t 9) .skip (.exit 0))) (.seq (.block 1 (.reg none [rm 12 0,rm 13 1,rm 14 5,ro 15 (.aI 1 (.t 13) (.t 14)),rL 16 15,rk 17 wI [(.t 12),(.t 16)],rm 0 17])) (.reg none [rm 10 5,ro 11 (.bin .add (.t 10) (ci 1)),rm 5 11]))))
def Za4(wI:FuncId):AC:= (sq [ro 4 (.mv (.c (.sl true [])))] (.seq (sq [ro 5 (.mv (ci 0))] (.block 0 (Zrt wI))) (sq [rm 18 0,rm 4 18] .ret)))
def Zru(yJ:FuncId):AC:= (.loop (.seq (sq [rm 7 6,rm 8 1,ro 9 (.len (.t 8)),ro 10 (.bin .lss (.t 7) (.t 9))] (.cond (.t 10) .skip (.exit 0))) (.seq (.block 1 (.reg (some []) [rm 13 0,ro 14 (.iU (.t 13)),rF 15 0 14,rF 16 2 15,rL 17 16,rm 18 1,rm 19 6,ro 20 (.aI 1 (.t 18) (.t 19)),rL 21 20,rm 22 0,ro 23 (.iU (.t 22)),rF 24 0 23,rF 25 2 24,rL 26 25,rm 27 1,rm 28 6,ro 29 (.aI 1 (.t 27) (.t 28)),rL 30 29,ro 31 (.aI 1 (.t 26) (.t 30)),rL 32 31,rm 33 2,rk 34 yJ [(.t 32),(.t 33)],ro 35 (.aI 1 (.t 17) (.t 21)),rn (.store 1 (.t 35) (.t 34))])) (.reg none [rm 11 6,ro 12 (.bin .add (.t 11) (ci 1)),rm 6 12]))))
def Z6V(yJ:FuncId):AC:= (sq [ro 6 (.mv (ci 0))] (.block 0 (Zru yJ)))
def Zrv(xU:FuncId):AC:= (.loop (.seq (sq [rm 6 5,rF 7 3 3,rL 8 7,ro 9 (.len (.t 8)),ro 10 (.bin .lss (.t 6) (.t 9))] (.cond (.t 10) .skip (.exit 0))) (.seq (.block 1 (.reg none [rm 13 0,rF 14 3 3,rL 15 14,rm 16 5,ro 17 (.aI 4 (.t 15) (.t 16)),ro 18 (.load (some 4) (.t 17)),rk 19 xU [(.t 13),(.t 18)]])) (.reg none [rm 11 5,ro 12 (.bin .add (.t 11) (ci 1)),rm 5 12]))))
def Z7n(xU:FuncId):AC:= (sq [ro 3 (.box 4 (.t 1)),ro 4 (.alloc (.agg [(.v (.bool false)),(.sl true []),(.sl true [])]) 3)] (.seq (sq [ro 5 (.mv (ci 0))] (.block 0 (Zrv xU))) (sq [ro 20 (.build (.agg [(.v (.bool false)),(.sl true []),(.sl true [])]) [] []),rn (.store 3 (.t 4) (.t 20))] .ret)))
def Zrz(KH:FuncId):AC:= (.loop (.seq (sq [rm 5 4,rF 6 3 1,rL 7 6,ro 8 (.len (.t 7)),ro 9 (.bin .lss (.t 5) (.t 8))] (.cond (.t 9) .skip (.exit 0))) (.seq (.block 1 (.reg none [rm 12 3,rF 13 3 1,rL 14 13,rm 15 4,ro 16 (.aI 4 (.t 14) (.t 15)),ro 17 (.load (some 4) (.t 16)),rk 18 KH [(.t 17)],ro 19 (.bin .add (.t 12) (.t 18)),ro 20 (.mm false (ci 100000) (.t 19)),rm 3 20])) (.reg none [rm 10 4,ro 11 (.bin .add (.t 10) (ci 1)),rm 4 11]))))
def Z9u(KH:FuncId):AC:= (sq [ro 1 (.box 4 (.t 0)),ro 2 (.mv (ci 0))] (sq [ro 3 (.mv (ci 1))] (.seq (sq [ro 4 (.mv (ci 0))] (.block 0 (Zrz KH))) (sq [rm 21 3,rm 2 21] .ret))))
end Go.Rf
namespace Go.Rf
open Go.RowKit
structure zV(P:Program)(Eo fz fst ff fc ou fe fj tN sP fd fi f1 zl CW:FuncId):Prop where
 of:lN P Eo (Fw fz fst ff fc ou) [.c 4 (some 4),.t 5] 2
 size:Is P fz (Iu fz) [2] 1
 state:Is P fst PI [4] 2
 form:wX P ff (AO fc f1 fd ou fst fe fj tN sP) [.c 4 (some 3)] 2
 clone:wW P fc (rZ 1 8 (.v (.int .i64 0))) [.t 2] 1
 del:Is P fd (Px fi) [4] 2
 idx:Is P fi LD [4] 2
 f1:Is P f1 Ii [3] 2
 each:Is P fe (PK ff) [4] 2
 join:lN P fj (PL sP zl ou) [.c 4 (some 3)] 2
 either:lN P tN (PU zl ou) [.c 2 (some 3)] 1
 follow:Is P sP (PD zl ou) [] 3
 cat:Is P zl (Ma 1 8 CW) [2] 1
 grow:Is P CW (MF 1 8 (.v (.int .i64 0))) [4] 2
 set:Jz P ou
section
variable{P:Program}{Eo fz fst ff fc ou fe fj tN sP fd fi f1 zl CW:FuncId}
theorem zV.hgrow(N:zV P Eo fz fst ff fc ou fe fj tN sP fd fi f1 zl CW)(hm:P.follows .mixedOrders=true):MP P CW 1 (.v (.int .i64 0)):=Zi5 hm (by omega) rfl (by omega) N.grow
theorem zV.xq(N:zV P Eo fz fst ff fc ou fe fj tN sP fd fi f1 zl CW)(hm:P.follows .mixedOrders=true):Sr P zl:=fun a b h=>by
 have:=V8 hm (N.hgrow hm) (aB:=8) (by omega) N.cat (enc:=aj) aS (fun _=>rfl) [(false,a),(false,b)] (by simp) (by simp;omega);simpa[aA] using this
theorem zV.P69(N:zV P Eo fz fst ff fc ou fe fj tN sP fd fi f1 zl CW)(hm:P.follows .mixedOrders=true):Zth P zl:=fun b h=>by
 have:=V8 hm (N.hgrow hm) (aB:=8) (by omega) N.cat (enc:=aj) aS (fun _=>rfl) [(true,[]),(false,b)] (by simp) (by simp;omega);simpa[aA] using this
theorem zV.fns(N:zV P Eo fz fst ff fc ou fe fj tN sP fd fi f1 zl CW)(hm:P.follows .mixedOrders=true)(sg:Int):QV P sg ff fc f1 fd ou fst fe fj tN sP where
 clone:=N.clone
 del:=fun l hl o ho st=>ZrL hm N.del l hl o ho
  (N.idx.pure hm rfl (Vu (enc:=aj) (by unfold Len;omega) (fun _=>rfl) aS (aL (Zk3 sg) aU) (fun x _=>N.f1.rX hm rfl (ZdE sg x))))
  (fun n=>N.f1.rX hm rfl (ZdE sg n)) st
 set:=N.set
 state:=fun o b st h1 h2=>Zjz hm N.state sg o b st h1 h2
 each:=fun ks hl hq st hst hb=>Zpb hm N.each hl hq st hst hb
 join:=fun es hl st hst he hb=>Zpt hm N.join (N.xq hm) (N.P69 hm) N.set (fun ss be st h1 h2 h3 h4=>ZfY hm N.follow (N.xq hm) N.set sg ss be st h1 h2 h3 h4) es hl st hst he hb
 either:=fun es hl he=>N.either.rX hm rfl (Zhq (N.xq hm) N.set es hl he)
 follow:=fun ss be st h1 h2 h3 h4=>ZfY hm N.follow (N.xq hm) N.set sg ss be st h1 h2 h3 h4
theorem zV.ok(N:zV P Eo fz fst ff fc ou fe fj tN sP fd fi f1 zl CW)(hm:P.follows .mixedOrders=true)(p:aM)(hp:uP p)(sg:Int):aO P Eo [jf p,aj sg] (DZ (qU p sg)):=
 N.of.rX hm rfl (Lm (ZnN hm N.size p hp) (Zjz hm N.state sg false [] ⟨[],[]⟩ rfl (by simp)) (ZiM hm (N.fns hm sg) N.form p hp) N.clone N.set)
end
end Go.Rf
namespace Go.Rf
open Go.RowKit
attribute [local simp] oP oM oH pU pK pR pO oO qw pQ oI pI jv jE jF jK qm qQ qO qN qH qP oZ oU qy qd qx qK qJ qF qA qg qz qM qL oQ lQ pV qh qj pJ pG dN gL fJ gJ ig fI gK iq gX gV gY eZ gQ gZ gP d9 eF gU iN iK iM iL iO gD fM fH dZ fQ fU fV fP fE iH iw gT iF iC iE iD iG iI iA gu fF fG fK gy dx dL fq iB iJ ex au bS dM dY bF bJ aG bf dU eY dQ fO gN gM iy gW bO dw dz eD eu fZ dR bC pz oG dD dJ pW pE ql oK eB eX eP eU dW dh dS dP dO bB qD oJ oL qc pF pY qb qp lZ pX qo qE S0 aj aH rA rD rO rz rC rG rJ rE rH rU rR rT rQ rM rP kP dX.cl bH.cl aS bY aR iT jq kL kJ kK jD kF kI kE kQ iZ jP jd kR jQ jO jY kS kU kT kN jJ jL kV jW kM jX jM kH iQ kW
def ZtK(wI:FuncId):AC:= (.loop (.seq (sq [rm 30 7,rF 31 2 3,rL 32 31,ro 33 (.len (.t 32)),ro 34 (.bin .lss (.t 30) (.t 33))] (.cond (.t 34) .skip (.exit 1))) (.seq (.block 2 (.seq (.reg (some []) [rF 37 2 3,rL 38 37,rm 39 7,ro 40 (.aI 1 (.t 38) (.t 39)),rL 41 40,ro 42 (.bin .geq (.t 41) (ci 0)),rm 43 42,rg 44 43 true (.dA 2 (.t 3)),rg 45 43 true (.load none (.t 44)),rg 46 43 true (.mv (.t 7)),rg 47 43 true (.aI 1 (.t 45) (.t 46)),rg 48 43 true (.load none (.t 47)),rg 49 43 true (.mv (.t 0)),rg 50 43 true (.iU (.t 49)),rg 51 43 true (.dA 0 (.t 50)),rg 52 43 true (.dA 0 (.t 51)),rg 53 43 true (.load none (.t 52)),rg 54 43 true (.bin .lss (.t 48) (.t 53)),ro 55 (.pick (.t 43) (.t 54) (.c (.v (.bool false))))]) (.cond (.t 55) (.reg none [rm 56 6,rF 57 2 3,rL 58 57,rm 59 7,ro 60 (.aI 1 (.t 58) (.t 59)),rL 61 60,rk 62 wI [(.t 56),(.t 61)],rm 6 62]) .skip))) (.reg none [rm 35 7,ro 36 (.bin .add (.t 35) (ci 1)),rm 7 36]))))
def ZtI(xU OL yJ:FuncId):AC:= (.loop (.seq (sq [rm 96 9,rF 97 3 3,rL 98 97,ro 99 (.len (.t 98)),ro 100 (.bin .lss (.t 96) (.t 99))] (.cond (.t 100) .skip (.exit 3))) (.seq (.block 4 (sq [rm 103 0,rF 104 3 3,rL 105 104,rm 106 9,ro 107 (.aI 4 (.t 105) (.t 106)),ro 108 (.load (some 4) (.t 107)),rk 109 xU [(.t 103),(.t 108)],ro 10 (.alloc (.agg [(.v (.bool false)),(.sl true []),(.sl true [])]) 3),rn (.store 3 (.t 10) (.t 109))] (sq [rm 110 0,rF 111 2 8,rL 112 111,rF 113 1 10,rL 114 113,rk 115 OL [(.t 110),(.t 112),(.t 114)]] (.seq (sq [rF 116 0 8,rL 117 116] (.cond (.t 117) (.reg none [rF 118 1 8,rL 119 118,rF 120 1 10,rL 121 120,rk 122 yJ [(.t 119),(.t 121)],rF 123 1 8,rn (.store 1 (.t 123) (.t 122))]) .skip)) (.seq (sq [rF 124 0 10,rL 125 124] (.cond (.t 125) (.reg none [rF 126 2 8,rL 127 126,rF 128 2 10,rL 129 128,rk 130 yJ [(.t 127),(.t 129)],rF 131 2 8,rn (.store 1 (.t 131) (.t 130))]) (.reg none [rF 132 2 10,rL 133 132,rF 134 2 8,rn (.store 1 (.t 134) (.t 133))]))) (.reg none [rF 135 0 8,rL 136 135,rm 137 136,rg 138 137 true (.dA 0 (.t 10)),rg 139 137 true (.load none (.t 138)),ro 140 (.pick (.t 137) (.t 139) (.c (.v (.bool false)))),rF 141 0 8,rn (.store 1 (.t 141) (.t 140))])))))) (.reg none [rm 101 9,ro 102 (.bin .add (.t 101) (ci 1)),rm 9 102]))))
def ZtJ(xU yJ:FuncId):AC:= (.loop (.seq (sq [rm 147 12,rF 148 3 3,rL 149 148,ro 150 (.len (.t 149)),ro 151 (.bin .lss (.t 147) (.t 150))] (.cond (.t 151) .skip (.exit 5))) (.seq (.block 6 (sq [rm 154 0,rF 155 3 3,rL 156 155,rm 157 12,ro 158 (.aI 4 (.t 156) (.t 157)),ro 159 (.load (some 4) (.t 158)),rk 160 xU [(.t 154),(.t 159)],ro 13 (.alloc (.agg [(.v (.bool false)),(.sl true []),(.sl true [])]) 3),rn (.store 3 (.t 13) (.t 160))] (.reg (some []) [rF 161 0 11,rL 162 161,rm 163 162,rg 164 163 false (.dA 0 (.t 13)),rg 165 163 false (.load none (.t 164)),ro 166 (.pick (.t 163) (.c (.v (.bool true))) (.t 165)),rF 167 1 11,rL 168 167,rF 169 1 13,rL 170 169,rk 171 yJ [(.t 168),(.t 170)],rF 172 2 11,rL 173 172,rF 174 2 13,rL 175 174,rk 176 yJ [(.t 173),(.t 175)],ro 177 (.build (.agg [(.v (.bool false)),(.sl true []),(.sl true [])]) [(0,1),(1,1),(2,1)] [(0,(.t 166)),(1,(.t 171)),(2,(.t 176))]),rn (.store 3 (.t 11) (.t 177))]))) (.reg none [rm 152 12,ro 153 (.bin .add (.t 152) (ci 1)),rm 12 153]))))
def Z7m(wI xU OL yJ P2p:FuncId):AC:= (sq [ro 3 (.box 4 (.t 1)),ro 4 (.alloc (.agg [(.v (.bool false)),(.sl true []),(.sl true [])]) 3)] (.seq (.block 0 (sq [rF 16 0 3,rL 17 16,ro 18 (.bin .eql (.t 17) (ci 1)),rm 15 18] (.cond (.t 15) (sq [ro 19 (.build (.agg [(.v (.bool false)),(.sl true []),(.sl true [])]) [(0,1)] [(0,(.c (.v (.bool true))))]),rn (.store 3 (.t 4) (.t 19))] .ret) (sq [rF 21 0 3,rL 22 21,ro 23 (.bin .eql (.t 22) (ci 2)),rm 20 23] (.cond (.t 20) (sq [rm 24 0,ro 25 (.iU (.t 24)),rF 26 0 25,rF 27 1 26,rL 28 27,ro 29 (.len (.t 28)),rm 5 29] (sq [ro 6 (.mv (.c (.sl true [])))] (.seq (sq [ro 7 (.mv (ci 0))] (.block 1 (ZtK wI))) (.seq (.reg (some [[],[],[],[],[],[],[],[],[],[false,false,false,false,false,false,false,true,true],[true],[false,true],[false,false,true],[false,false,false,true],[false,false,false,false,true],[false,false,false,false,false,true],[false,false,false,false,false,false,false,false,false,false,false,false,false,false,true,true],[],[],[],[false,false,false,false,false,false,false,false,false,false,false,false,false,false,false,false,false,false,true]]) [rm 63 0,rm 64 0,rm 65 0,ro 66 (.iU (.t 65)),rF 67 0 66,rF 68 1 67,rL 69 68,rm 70 6,ro 71 (.dn 1 1 (.sl true []) [(0,(.t 70))]),ro 72 (.app 1 24 (.t 69) (.t 71)),rm 73 0,ro 74 (.iU (.t 73)),rF 75 0 74,rF 76 2 75,rL 77 76,ro 78 (.dn 1 1 (.sl true []) [(0,(.c (.sl true [])))]),ro 79 (.app 1 24 (.t 77) (.t 78)),ro 80 (.iU (.t 63)),rF 81 0 80,rF 82 1 81,rn (.store 1 (.t 82) (.t 72)),ro 83 (.iU (.t 64)),rF 84 0 83,rF 85 2 84,rn (.store 1 (.t 85) (.t 79))]) (sq [rm 86 5,ro 87 (.dn 1 1 (.v (.int .i64 0)) [(0,(.t 86))]),rm 88 5,ro 89 (.dn 1 1 (.v (.int .i64 0)) [(0,(.t 88))]),ro 90 (.build (.agg [(.v (.bool false)),(.sl true []),(.sl true [])]) [(1,1),(2,1)] [(1,(.t 87)),(2,(.t 89))]),rn (.store 3 (.t 4) (.t 90))] .ret))))) (sq [rF 92 0 3,rL 93 92,ro 94 (.bin .eql (.t 93) (ci 3)),rm 91 94] (.cond (.t 91) (sq [ro 95 (.build (.agg [(.v (.bool false)),(.sl true []),(.sl true [])]) [(0,1)] [(0,(.c (.v (.bool true))))]),ro 8 (.alloc (.agg [(.v (.bool false)),(.sl true []),(.sl true [])]) 3),rn (.store 3 (.t 8) (.t 95))] (.seq (sq [ro 9 (.mv (ci 0))] (.block 3 (ZtI xU OL yJ))) (sq [ro 142 (.load (some 3) (.t 8)),rn (.store 3 (.t 4) (.t 142))] .ret))) (sq [rF 144 0 3,rL 145 144,ro 146 (.bin .eql (.t 145) (ci 4)),rm 143 146] (.cond (.t 143) (sq [ro 11 (.alloc (.agg [(.v (.bool false)),(.sl true []),(.sl true [])]) 3)] (.seq (sq [ro 12 (.mv (ci 0))] (.block 5 (ZtJ xU yJ))) (sq [ro 178 (.load (some 3) (.t 11)),rn (.store 3 (.t 4) (.t 178))] .ret))) (sq [rF 180 0 3,rL 181 180,ro 182 (.bin .eql (.t 181) (ci 5)),rm 183 182,rg 184 183 false (.dA 0 (.t 3)),rg 185 183 false (.load none (.t 184)),rg 186 183 false (.bin .eql (.t 185) (ci 6)),ro 187 (.pick (.t 183) (.c (.v (.bool true))) (.t 186)),rm 188 187,rg 189 188 false (.dA 0 (.t 3)),rg 190 188 false (.load none (.t 189)),rg 191 188 false (.bin .eql (.t 190) (ci 7)),ro 192 (.pick (.t 188) (.c (.v (.bool true))) (.t 191)),rm 193 192,rg 194 193 true (.dA 3 (.t 3)),rg 195 193 true (.load none (.t 194)),rg 196 193 true (.len (.t 195)),rg 197 193 true (.bin .eql (.t 196) (ci 1)),ro 198 (.pick (.t 193) (.t 197) (.c (.v (.bool false)))),rm 179 198] (.cond (.t 179) (sq [rm 199 0,rF 200 3 3,rL 201 200,ro 202 (.aI 4 (.t 201) (ci 0)),ro 203 (.load (some 4) (.t 202)),rk 204 xU [(.t 199),(.t 203)],ro 14 (.alloc (.agg [(.v (.bool false)),(.sl true []),(.sl true [])]) 3),rn (.store 3 (.t 14) (.t 204))] (.seq (sq [rF 205 0 3,rL 206 205,ro 207 (.bin .neq (.t 206) (ci 7))] (.cond (.t 207) (.reg none [rm 208 0,rF 209 2 14,rL 210 209,rF 211 1 14,rL 212 211,rk 213 OL [(.t 208),(.t 210),(.t 212)]]) .skip)) (sq [rF 214 0 14,rL 215 214,rm 216 215,rg 217 216 false (.dA 0 (.t 3)),rg 218 216 false (.load none (.t 217)),rg 219 216 false (.bin .neq (.t 218) (ci 6)),ro 220 (.pick (.t 216) (.c (.v (.bool true))) (.t 219)),rF 221 1 14,rL 222 221,rF 223 2 14,rL 224 223,ro 225 (.build (.agg [(.v (.bool false)),(.sl true []),(.sl true [])]) [(0,1),(1,1),(2,1)] [(0,(.t 220)),(1,(.t 222)),(2,(.t 224))]),rn (.store 3 (.t 4) (.t 225))] .ret))) .skip))))))))))) (sq [rm 226 0,ro 227 (.load (some 4) (.t 3)),rk 228 P2p [(.t 226),(.t 227)],rn (.store 3 (.t 4) (.t 228))] .ret)))
end Go.Rf
namespace Go.Rf
open Go.RowKit
attribute [local simp] oP oM oH pU pK pR pO oO qw pQ oI pI jv jE jF jK qm qQ qO qN qH qP oZ oU qy qd qx qK qJ qF qA qg qz qM qL oQ lQ pV qh qj pJ pG dN gL fJ gJ ig fI gK iq gX gV gY eZ gQ gZ gP d9 eF gU iN iK iM iL iO gD fM fH dZ fQ fU fV fP fE iH iw gT iF iC iE iD iG iI iA gu fF fG fK gy dx dL fq iB iJ ex au bS dM dY bF bJ aG bf dU eY dQ fO gN gM iy gW bO dw dz eD eu fZ dR bC pz oG dD dJ pW pE ql oK eB eX eP eU dW dh dS dP dO bB qD oJ oL qc pF pY qb qp lZ pX qo qE S0 aj aH rA rD rO rz rC rG rJ rE rH rU rR rT rQ rM rP
def VR(P5l:FuncId):AC:= (sq [ro 4 (.box 4 (.t 0)),ro 8 (.alloc (.agg [(.v (.int .i64 0)),(.sl true []),(.sl true [])]) 3),ro 9 (.mv (ci 0))] (sq [ro 13 (.load (some 4) (.t 4)),rm 14 1,rk 15 P5l [(.t 13),(.t 14)],rm 12 15,ro 16 (.ext 0 (.t 12)),ro 17 (.ext 1 (.t 12)),ro 10 (.alloc (.agg [(.v (.int .i64 0)),(.sl true []),(.sl true []),(.sl true [])]) 4),rn (.store 4 (.t 10) (.t 16)),rm 11 17] (.seq (sq [rm 18 11,ro 19 (.bin .neq (.t 18) (ci 0))] (.cond (.t 19) (sq [ro 20 (.build (.agg [(.v (.int .i64 0)),(.sl true []),(.sl true [])]) [] []),rm 21 11,rn (.store 3 (.t 8) (.t 20)),rm 9 21] .ret) .skip)) (sq [rm 22 3,ro 23 (.load (some 4) (.t 10)),rm 24 2,⟨(some 25),.mv (.c .junk),none,(some ((.t 22),[(.t 23),(.t 24)]))⟩,ro 26 (.ext 0 (.t 25)),ro 27 (.ext 1 (.t 25)),rn (.store 3 (.t 8) (.t 26)),rm 9 27] .ret))))
def Fa(P43 P4X P4W P5g P59:FuncId):AC:= (sq [ro 3 (.box 11 (.t 0)),ro 6 (.alloc (.agg [(.v (.int .i64 0)),(.sl true []),(.sl true [])]) 3),ro 7 (.mv (ci 0))] (.seq (sq [rm 12 1,ro 13 (.bin .lss (.t 12) (ci 1)),rm 14 13,rg 15 14 false (.mv (.t 1)),rg 16 14 false (.bin .gtr (.t 15) (ci 200)),ro 17 (.pick (.t 14) (.c (.v (.bool true))) (.t 16)),rm 18 17,rg 19 18 false (.mv (.t 2)),rg 20 18 false (.bin .lss (.t 19) (ci 1)),ro 21 (.pick (.t 18) (.c (.v (.bool true))) (.t 20)),rm 22 21,rg 23 22 false (.mv (.t 2)),rg 24 22 false (.bin .gtr (.t 23) (ci 3000)),ro 25 (.pick (.t 22) (.c (.v (.bool true))) (.t 24))] (.cond (.t 25) (sq [ro 26 (.build (.agg [(.v (.int .i64 0)),(.sl true []),(.sl true [])]) [] []),rn (.store 3 (.t 6) (.t 26)),ro 7 (.mv (ci 1))] .ret) .skip)) (sq [rF 28 2 3,ro 29 (.load (some 4) (.t 28)),rm 30 1,rm 31 2,rk 32 P43 [(.t 29),(.t 30),(.t 31),(.c (.aP P4X [] []))],rm 27 32,ro 33 (.ext 0 (.t 27)),ro 34 (.ext 1 (.t 27)),ro 8 (.alloc (.agg [(.v (.int .i64 0)),(.sl true []),(.sl true [])]) 3),rn (.store 3 (.t 8) (.t 33)),rm 9 34] (.seq (sq [rm 35 9,ro 36 (.bin .neq (.t 35) (ci 0))] (.cond (.t 36) (sq [ro 37 (.build (.agg [(.v (.int .i64 0)),(.sl true []),(.sl true [])]) [] []),rm 38 9,rn (.store 3 (.t 6) (.t 37)),rm 7 38] .ret) .skip)) (sq [rF 40 6 3,ro 41 (.load (some 4) (.t 40)),rm 42 1,rm 43 2,rk 44 P43 [(.t 41),(.t 42),(.t 43),(.c (.aP P4W [] []))],rm 39 44,ro 45 (.ext 0 (.t 39)),ro 46 (.ext 1 (.t 39)),ro 10 (.alloc (.agg [(.v (.int .i64 0)),(.sl true []),(.sl true [])]) 3),rn (.store 3 (.t 10) (.t 45)),rm 9 46] (.seq (sq [rm 47 9,ro 48 (.bin .neq (.t 47) (ci 0))] (.cond (.t 48) (sq [ro 49 (.build (.agg [(.v (.int .i64 0)),(.sl true []),(.sl true [])]) [] []),rm 50 9,rn (.store 3 (.t 6) (.t 49)),rm 7 50] .ret) .skip)) (sq [ro 52 (.load (some 3) (.t 8)),ro 53 (.load (some 3) (.t 10)),rm 54 2,rk 55 P5g [(.t 52),(.t 53),(.t 54)],rm 51 55,ro 56 (.ext 0 (.t 51)),ro 57 (.ext 1 (.t 51)),ro 11 (.alloc (.agg [(.v (.int .i64 0)),(.sl true []),(.sl true [])]) 3),rn (.store 3 (.t 11) (.t 56)),rm 9 57] (.seq (sq [rm 58 9,ro 59 (.bin .neq (.t 58) (ci 0))] (.cond (.t 59) (sq [ro 60 (.build (.agg [(.v (.int .i64 0)),(.sl true []),(.sl true [])]) [] []),rm 61 9,rn (.store 3 (.t 6) (.t 60)),rm 7 61] .ret) .skip)) (sq [ro 62 (.load (some 3) (.t 11)),rk 63 P59 [(.t 62)],ro 64 (.ext 0 (.t 63)),ro 65 (.ext 1 (.t 63)),rn (.store 3 (.t 6) (.t 64)),rm 7 65] .ret)))))))))
def ZaD(P2o P3d P3c P42 P41:FuncId):AC:= (sq [ro 3 (.box 11 (.t 0)),ro 6 (.alloc (.agg [(.v (.int .i64 0)),(.sl true []),(.sl true [])]) 3),ro 7 (.mv (ci 0))] (.seq (sq [rm 14 1,ro 15 (.bin .lss (.t 14) (ci 1)),rm 16 15,rg 17 16 false (.mv (.t 1)),rg 18 16 false (.bin .gtr (.t 17) (ci 200)),ro 19 (.pick (.t 16) (.c (.v (.bool true))) (.t 18)),rm 20 19,rg 21 20 false (.mv (.t 2)),rg 22 20 false (.bin .lss (.t 21) (ci 1)),ro 23 (.pick (.t 20) (.c (.v (.bool true))) (.t 22)),rm 24 23,rg 25 24 false (.mv (.t 2)),rg 26 24 false (.bin .gtr (.t 25) (ci 3000)),ro 27 (.pick (.t 24) (.c (.v (.bool true))) (.t 26))] (.cond (.t 27) (sq [ro 28 (.build (.agg [(.v (.int .i64 0)),(.sl true []),(.sl true [])]) [] []),rn (.store 3 (.t 6) (.t 28)),ro 7 (.mv (ci 1))] .ret) .skip)) (sq [rF 30 2 3,ro 31 (.load (some 4) (.t 30)),rm 32 1,rk 33 P2o [(.t 31),(.t 32)],rm 29 33,ro 34 (.ext 0 (.t 29)),ro 35 (.ext 1 (.t 29)),ro 8 (.alloc (.agg [(.v (.int .i64 0)),(.sl true []),(.sl true []),(.sl true [])]) 4),rn (.store 4 (.t 8) (.t 34)),rm 9 35] (.seq (sq [rm 36 9,ro 37 (.bin .neq (.t 36) (ci 0))] (.cond (.t 37) (sq [ro 38 (.build (.agg [(.v (.int .i64 0)),(.sl true []),(.sl true [])]) [] []),rm 39 9,rn (.store 3 (.t 6) (.t 38)),rm 7 39] .ret) .skip)) (sq [ro 41 (.load (some 4) (.t 8)),rm 42 2,rk 43 P3d [(.t 41),(.t 42)],rm 40 43,ro 44 (.ext 0 (.t 40)),ro 45 (.ext 1 (.t 40)),ro 10 (.alloc (.agg [(.v (.int .i64 0)),(.sl true []),(.sl true [])]) 3),rn (.store 3 (.t 10) (.t 44)),rm 9 45] (.seq (sq [rm 46 9,ro 47 (.bin .neq (.t 46) (ci 0))] (.cond (.t 47) (sq [ro 48 (.build (.agg [(.v (.int .i64 0)),(.sl true []),(.sl true [])]) [] []),rm 49 9,rn (.store 3 (.t 6) (.t 48)),rm 7 49] .ret) .skip)) (sq [rF 51 6 3,ro 52 (.load (some 4) (.t 51)),rm 53 1,rk 54 P2o [(.t 52),(.t 53)],rm 50 54,ro 55 (.ext 0 (.t 50)),ro 56 (.ext 1 (.t 50)),ro 11 (.alloc (.agg [(.v (.int .i64 0)),(.sl true []),(.sl true []),(.sl true [])]) 4),rn (.store 4 (.t 11) (.t 55)),rm 9 56] (.seq (sq [rm 57 9,ro 58 (.bin .neq (.t 57) (ci 0))] (.cond (.t 58) (sq [ro 59 (.build (.agg [(.v (.int .i64 0)),(.sl true []),(.sl true [])]) [] []),rm 60 9,rn (.store 3 (.t 6) (.t 59)),rm 7 60] .ret) .skip)) (sq [ro 62 (.load (some 4) (.t 11)),rm 63 2,rk 64 P3c [(.t 62),(.t 63)],rm 61 64,ro 65 (.ext 0 (.t 61)),ro 66 (.ext 1 (.t 61)),ro 12 (.alloc (.agg [(.v (.int .i64 0)),(.sl true []),(.sl true [])]) 3),rn (.store 3 (.t 12) (.t 65)),rm 9 66] (.seq (sq [rm 67 9,ro 68 (.bin .neq (.t 67) (ci 0))] (.cond (.t 68) (sq [ro 69 (.build (.agg [(.v (.int .i64 0)),(.sl true []),(.sl true [])]) [] []),rm 70 9,rn (.store 3 (.t 6) (.t 69)),rm 7 70] .ret) .skip)) (sq [ro 72 (.load (some 3) (.t 10)),ro 73 (.load (some 3) (.t 12)),rm 74 2,rk 75 P42 [(.t 72),(.t 73),(.t 74)],rm 71 75,ro 76 (.ext 0 (.t 71)),ro 77 (.ext 1 (.t 71)),ro 13 (.alloc (.agg [(.v (.int .i64 0)),(.sl true []),(.sl true [])]) 3),rn (.store 3 (.t 13) (.t 76)),rm 9 77] (.seq (sq [rm 78 9,ro 79 (.bin .neq (.t 78) (ci 0))] (.cond (.t 79) (sq [ro 80 (.build (.agg [(.v (.int .i64 0)),(.sl true []),(.sl true [])]) [] []),rm 81 9,rn (.store 3 (.t 6) (.t 80)),rm 7 81] .ret) .skip)) (sq [ro 82 (.load (some 3) (.t 13)),rk 83 P41 [(.t 82)],ro 84 (.ext 0 (.t 83)),ro 85 (.ext 1 (.t 83)),rn (.store 3 (.t 6) (.t 84)),rm 7 85] .ret)))))))))))))
def Dg:aD:=⟨0,[],[]⟩
def lH(kd:Kd)(p:aM)(sg most:Int):aD×Int:=if (qU p sg).2=0 then mY kd (qU p sg).1 most else (Dg,(qU p sg).2)
def Bo(x:aD×Int)(f:aD→aD×Int):aD×Int:=if x.2=0 then f x.1 else (Dg,x.2)
def xX(r:oF)(sg most:Int):aD×Int:=
 if sg < 1∨200 < sg∨most < 1∨3000 < most then (Dg,1) else
  Bo (lH .tails r.before sg most) fun b=>Bo (lH .heads r.after sg most) fun a=>Bo (lG b a most) wN
theorem ZgH{P:Program}{fn fk:FuncId}(p:aM)(sg most:Int)(kd:Kd)(hn:aO P fn [jf p,aj sg] (DZ (qU p sg)))
  (hk:aO P fk [jy (qU p sg).1,aj most] (mo (mY kd (qU p sg).1 most))) :
  bM P 0 (VR fn) (bR [.c 8 (some 3),.t 9] (iP (mo (lH kd p sg most)))) (bU [jf p,aj sg,aj most,.aP fk [] []]) S0:=by
 unfold lH;have hcp:=xV p;have hcn:=ZlR (qU p sg);obtain⟨pk,ps,pg,EF⟩:=p;have hpp:AV.agg [.v (.int .i64 pk),Bh ps,aA pg,.sl false (EF.map jf)]=jf (.mk pk ps pg EF):=by rw[lY];rfl
 have hpc:(jf (.mk pk ps pg EF)).cells=[.v (.int .i64 pk),Bh ps,aA pg,.sl false (EF.map jf)]:=by rw[lY];rfl
 have hps:(jf (.mk pk ps pg EF)).solid=true:=by rw[lY];rfl
 generalize qU (.mk pk ps pg EF) sg=ne at *;obtain⟨n,e⟩:=ne;simp only[DZ] at hn hcn;simp only at hk;simp[VR,hpp,hpc,hps];refine aQ.pure hn (aL hcp (aL (aS _) aU)) hcn ?_;have ec:(jy n).cells=[aj n.signs,aX n.aB,aX n.follow,aA n.last]:=rfl;have es:(jy n).solid=true:=rfl;have hae:AV.agg [.v (.int .i64 n.signs),aX n.aB,aX n.follow,aA n.last]=jy n:=rfl;by_cases h0:e=0
 ·subst h0
  have hcd:=BS (mY kd n most);generalize mY kd n most=r at *;obtain⟨d,f⟩:=r;simp only[mo] at hk hcd;simp[bC,ec,es,hae];refine aQ.pure hk (aL (BQ n) (aL (aS _) aU)) hcd ?_;simp[bR,bX,RV.ev,gH,cO];exact .closed _ hcd
 ·have h0':(e != 0)=true:=by simp[h0]
  simp[bC,ec,es,h0,h0',bR,bX,RV.ev,gH,cO,jw,jh];exact vX _ _
theorem VU{num:Int}{cut:Bool}{b a:aM}{pos:Int}{bk:Int}{bs:List Rg}{bg:List Int}{Nz:List aM}{ak:Int}{Ny:List Rg}{ag:List Int}{Nv:List aM}(hb:b=.mk bk bs bg Nz)(ha:a=.mk ak Ny ag Nv) :
  qG ⟨num,cut,b,a,pos⟩=.agg [.v (.int .i64 num),.v (.bool cut),.v (.int .i64 bk),Bh bs,aA bg,.sl false (Nz.map jf),.v (.int .i64 ak),Bh Ny,aA ag,.sl false (Nv.map jf),.v (.int .i64 pos)]:=by
 subst hb;subst ha;unfold qG;simp[lY,AV.cells,aj,aH]
theorem Jc(p:aM):∃k s g ks,p=.mk k s g ks∧AV.agg [.v (.int .i64 k),Bh s,aA g,.sl false (ks.map jf)]=jf p:=by
 obtain⟨k,s,g,ks⟩:=p;exact⟨k,s,g,ks,rfl,by rw[lY];rfl⟩
theorem Zgg{P:Program}{fs ft fh fm fl:FuncId}(r:oF)(sg most:Int)
  (h1:aO P fs [jf r.before,aj sg,aj most,.aP ft [] []] (mo (lH .tails r.before sg most)))
  (h2:aO P fs [jf r.after,aj sg,aj most,.aP fh [] []] (mo (lH .heads r.after sg most)))
  (h3:(lH .tails r.before sg most).2=0→(lH .heads r.after sg most).2=0→aO P fm [aW (lH .tails r.before sg most).1,aW (lH .heads r.after sg most).1,aj most] (mo (lG (lH .tails r.before sg most).1 (lH .heads r.after sg most).1 most)))
  (h4:(lH .tails r.before sg most).2=0→(lH .heads r.after sg most).2=0→(lG (lH .tails r.before sg most).1 (lH .heads r.after sg most).1 most).2=0→
   aO P fl [aW (lG (lH .tails r.before sg most).1 (lH .heads r.after sg most).1 most).1] (mo (wN (lG (lH .tails r.before sg most).1 (lH .heads r.after sg most).1 most).1))) :
  bM P 0 (Fa fs ft fh fm fl) (bR [.c 6 (some 3),.t 7] (iP (mo (xX r sg most)))) (bU [qG r,aj sg,aj most]) S0:=by
 obtain⟨num,cut,b,a,pos⟩:=r;simp only at h1 h2 h3 h4;obtain⟨bk,bs,bg,Nz,hb,hpb⟩:=Jc b;obtain⟨ak,Ny,ag,Nv,ha,hpa⟩:=Jc a;have hcl:=VU (num:=num) (cut:=cut) (pos:=pos) hb ha;have hcb:=xV b;have hca:=xV a;unfold xX;rw[hcl];by_cases g1:sg < 1
 ·rw[if_pos (.inl g1)]
  simp[Fa,g1,bR,bX,RV.ev,gH,cO,jw,jh,bC];exact vX _ _
 by_cases g2:200 < sg
 ·rw[if_pos (.inr (.inl g2))]
  simp[Fa,g1,g2,bR,bX,RV.ev,gH,cO,jw,jh,bC];exact vX _ _
 by_cases g3:most < 1
 ·rw[if_pos (.inr (.inr (.inl g3)))]
  simp[Fa,g1,g2,g3,bR,bX,RV.ev,gH,cO,jw,jh,bC];exact vX _ _
 by_cases g4:3000 < most
 ·rw[if_pos (.inr (.inr (.inr g4)))]
  simp[Fa,g1,g2,g3,g4,bR,bX,RV.ev,gH,cO,jw,jh,bC];exact vX _ _
 rw[if_neg (by omega)];have k1:=BS (lH .tails b sg most);have k2:=BS (lH .heads a sg most);generalize lH .tails b sg most=x at *;generalize lH .heads a sg most=y at *;obtain⟨xd,xe⟩:=x;obtain⟨yd,ye⟩:=y;simp only[mo] at h1 h2 k1 k2;simp only at h3 h4;unfold Bo;simp only;simp[Fa,g1,g2,g3,g4,bC,hpb];refine aQ.pure h1 (aL hcb (aL (aS _) (aL (aS _) (aL (.aP _ _ _ aU aU) aU)))) k1 ?_;by_cases hx:xe=0;rotate_left
 ·rw[if_neg hx]
  have NK:(xe != 0)=true:=by simp[hx]
  simp[NK,bR,bX,RV.ev,gH,cO,jw,jh,bC];exact vX _ _
 subst hx;rw[if_pos rfl];simp[bC,hpa];refine aQ.pure h2 (aL hca (aL (aS _) (aL (aS _) (aL (.aP _ _ _ aU aU) aU)))) k2 ?_;by_cases hy:ye=0;rotate_left
 ·rw[if_neg hy]
  have NK:(ye != 0)=true:=by simp[hy]
  simp[NK,bR,bX,RV.ev,gH,cO,jw,jh,bC];exact vX _ _
 subst hy;rw[if_pos rfl];have h3:=h3 (by trivial) (by trivial);have h4:=h4 (by trivial) (by trivial);have k3:=BS (lG xd yd most);generalize lG xd yd most=z at *;obtain⟨zd,ze⟩:=z;simp only[mo] at h3 k3;simp only at h4;simp only;simp[bC];refine aQ.pure h3 (aL (iV _) (aL (iV _) (aL (aS _) aU))) k3 ?_;by_cases hz:ze=0;rotate_left
 ·rw[if_neg hz]
  have NK:(ze != 0)=true:=by simp[hz]
  simp[NK,bR,bX,RV.ev,gH,cO,jw,jh,bC];exact vX _ _
 subst hz;rw[if_pos rfl];have h4:=h4 rfl;have k4:=BS (wN zd);generalize wN zd=w at *;obtain⟨wd,we⟩:=w;simp only[mo] at h4 k4;simp[bC];refine aQ.pure h4 (aL (iV _) aU) k4 ?_;simp[bR,bX,RV.ev,gH,cO,mo];exact .closed _ k4
def Zaz(KH xU wI:FuncId):AC:= (sq [ro 2 (.box 4 (.t 0)),ro 4 (.alloc (.agg [(.v (.int .i64 0)),(.sl true []),(.sl true []),(.sl true [])]) 4),ro 5 (.mv (ci 0))] (.seq (.block 0 (sq [rm 9 1,ro 10 (.bin .lss (.t 9) (ci 1)),rm 11 10,rg 12 11 false (.mv (.t 1)),rg 13 11 false (.bin .gtr (.t 12) (ci 400)),ro 14 (.pick (.t 11) (.c (.v (.bool true))) (.t 13)),rm 8 14] (.cond (.t 8) (sq [ro 15 (.build (.agg [(.v (.int .i64 0)),(.sl true []),(.sl true []),(.sl true [])]) [] []),rn (.store 4 (.t 4) (.t 15)),ro 5 (.mv (ci 1))] .ret) (sq [ro 17 (.load (some 4) (.t 2)),rk 18 KH [(.t 17)],ro 19 (.bin .gtr (.t 18) (ci 300)),rm 16 19] (.cond (.t 16) (sq [ro 20 (.build (.agg [(.v (.int .i64 0)),(.sl true []),(.sl true []),(.sl true [])]) [] []),rn (.store 4 (.t 4) (.t 20)),ro 5 (.mv (ci 9))] .ret) .skip))))) (sq [rm 21 1,ro 22 (.app 1 24 (.c (.sl true [])) (.c (.sl true [(.sl true [])]))),ro 23 (.app 1 24 (.c (.sl true [])) (.c (.sl true [(.sl true [])]))),ro 24 (.build (.agg [(.v (.int .i64 0)),(.sl true []),(.sl true []),(.sl true [])]) [(0,1),(1,1),(2,1)] [(0,(.t 21)),(1,(.t 22)),(2,(.t 23))]),ro 25 (.build (.agg [(.v (.int .i64 0)),(.sl true []),(.sl true []),(.sl true [])]) [(0,4)] [(0,(.t 24))]),ro 26 (.box 4 (.t 25)),rm 6 26] (sq [rm 27 6,ro 28 (.load (some 4) (.t 2)),rk 29 xU [(.t 27),(.t 28)],ro 7 (.alloc (.agg [(.v (.bool false)),(.sl true []),(.sl true [])]) 3),rn (.store 3 (.t 7) (.t 29))] (.seq (.reg (some []) [rm 30 6,ro 31 (.iU (.t 30)),rF 32 0 31,rF 33 2 32,rL 34 33,rF 35 1 7,rL 36 35,ro 37 (.aI 1 (.t 34) (ci 0)),rn (.store 1 (.t 37) (.t 36))]) (sq [rm 38 6,rF 39 2 7,rL 40 39,ro 41 (.iU (.t 38)),rF 42 0 41,rF 43 3 42,rn (.store 1 (.t 43) (.t 40))] (.seq (sq [rF 44 0 7,rL 45 44] (.cond (.t 45) (.reg none [rm 46 6,rm 47 6,ro 48 (.iU (.t 47)),rF 49 0 48,rF 50 3 49,rL 51 50,rk 52 wI [(.t 51),(ci 0)],ro 53 (.iU (.t 46)),rF 54 0 53,rF 55 3 54,rn (.store 1 (.t 55) (.t 52))]) .skip)) (sq [rm 56 6,ro 57 (.iU (.t 56)),rF 58 0 57,ro 59 (.load (some 4) (.t 58)),rn (.store 4 (.t 4) (.t 59)),ro 5 (.mv (ci 0))] .ret))))))))
end Go.Rf
namespace Go.Rf
open Go.RowKit
theorem ZsP{n:Int}{u:List Int}(hu:nX n u):BI n u=nW u:=by
 funext g a b;apply propext;unfold BI nW;constructor
 ·rintro⟨h1,h2,h3,h4⟩;exact⟨h1,h2,h3,(Zj4.mp h4).1⟩
 ·rintro⟨h1,h2,h3,h4⟩
  refine⟨h1,h2,h3,Zj4.mpr ⟨h4,?_⟩⟩;have hlt:a.toNat < u.length:=by omega
  have:u.getD a.toNat 0=u[a.toNat]:=by simp[List.getD_eq_getElem?_getD,hlt]
  rw[this];exact hu _ (List.getElem_mem hlt)
theorem Zid{p:aM}{n:Int}(h1:1≤n)(h2:n≤400)(hc:jH p≤300){u:List Int}(hu:nX n u):za (kX p n) u=nO p u 0 u.length:=by
 rw[Zsd h1 h2 hc]
 have:nO (CX n p) u 0 u.length=true↔nO p u 0 u.length=true:=by
  rw[DJ,DJ,←F9,ZsP hu]
 cases e1:nO (CX n p) u 0 u.length<;>cases e2:nO p u 0 u.length<;>simp_all
theorem Zgw{kd:Kd}{N:Net}{most:Int}{d:aD}(h:mY kd N most=(d,0)):nR N∧1≤most∧most≤3000∧∃st,yQ kd N most=some st∧d=⟨N.signs,st.2.1,st.2.2⟩:=by
 unfold mY at h;split at h
 ·rename_i hc
  refine⟨(AQ _).mp hc.1,hc.2.1,hc.2.2,?_⟩;split at h
  ·rename_i st hst
   cases h;exact⟨st,hst,rfl⟩
  ·cases h
 ·cases h
def SG(p:aM)(u:List Int):Bool:=(List.range (u.length+1)).any fun i=>nO p u (i:Nat) u.length
def SA(p:aM)(u:List Int):Bool:=(List.range (u.length+1)).any fun j=>nO p u 0 (j:Nat)
theorem QA{a b:Bool}(h:a=true↔b=true):a=b:=by cases a<;>cases b<;>simp_all
theorem Ze4{p:aM}{n most:Int}{d:aD}(h1:1≤n)(h2:n≤200)(hc:jH p≤300)(h:mY .tails (kX p n) most=(d,0)) :
  bD d∧d.signs=n∧∀u,nX n u→nD d u=SG p u:=by
 obtain⟨R,hm,hm2,st,hst,rfl⟩:=Zgw h;obtain⟨D,hacc⟩:=ZfM R hm hm2 hst;refine⟨D,rfl,fun u hu=>?_⟩;rw[hacc u hu,ZnZ ((AQ _).mpr R)];apply QA;simp only[decide_eq_true_eq,L6,SG,List.any_eq_true,List.mem_range,Ug]
 have key:∀i,i≤u.length→za (kX p n) (u.drop i)=nO p u (i:Nat) u.length:=fun i hi=>by
  rw[Zid h1 (by omega) hc (hu.drop i)];have:=Zgf p u i u.length hi (Nat.le_refl _);rw[←this];have e1:(u.drop i).take (u.length - i)=u.drop i:=List.take_of_length_le (by simp);rw[e1,List.length_drop];congr 1;omega
 constructor
 ·rintro⟨k,hk,e⟩
  refine⟨u.length - k,by omega,?_⟩;rw[←key _ (by omega)];exact e
 ·rintro⟨i,hi,e⟩
  refine⟨u.length - i,by omega,?_⟩;have:u.length - (u.length - i)=i:=by omega
  rw[this,key _ (by omega)];exact e
theorem Ze3{p:aM}{n most:Int}{d:aD}(h1:1≤n)(h2:n≤200)(hc:jH p≤300)(h:mY .heads (kX p n) most=(d,0)) :
  bD d∧d.signs=n∧∀u,nX n u→nD d u=SA p u:=by
 obtain⟨R,hm,hm2,st,hst,rfl⟩:=Zgw h;obtain⟨D,hacc⟩:=ZfM R hm hm2 hst;refine⟨D,rfl,fun u hu=>?_⟩;rw[hacc u hu,Zmx ((AQ _).mpr R)];apply QA;simp only[decide_eq_true_eq,L6,SA,List.any_eq_true,List.mem_range,xP]
 have key:∀j,j≤u.length→za (kX p n) (u.take j)=nO p u 0 (j:Nat):=fun j hj=>by
  rw[Zid h1 (by omega) hc (hu.take j)];have:=IX p u 0 j (Nat.zero_le _) hj;rw[List.length_take,Nat.min_eq_left hj];exact this
 constructor
 ·rintro⟨k,hk,e⟩;exact⟨k,hk,by rw[←key _ (by omega)];exact e⟩
 ·rintro⟨k,hk,e⟩;exact⟨k,hk,by rw[key _ (by omega)];exact e⟩
def JW(r:oF)(l:List Int)(p:Nat):Bool:=((List.range (p+1)).any fun i=>nO r.before l (i:Nat) (p:Nat)) && ((List.range (l.length+1)).any fun j=>nO r.after l (p:Nat) (j:Nat))
theorem ZmV{p:aM}{l:List Int}{a b:Int}(h:nO p l a b=true):0≤a∧a≤b∧b≤l.length:=by
 have h':=DJ.mp h;have h1:=FJ (XR l) p a b h'.2.2;by_cases hb:(l.length:Int) < b
 ·rw[ZpD p l a b hb] at h;cases h
 ·exact⟨h'.1,h1,by omega⟩
theorem Zm2(P:aM){l:List Int}{p:Nat}(hp:p≤l.length):SG P (l.take p)=(List.range (p+1)).any fun i=>nO P l (i:Nat) (p:Nat):=by
 unfold SG;rw[List.length_take,Nat.min_eq_left hp];apply QA;simp only[List.any_eq_true,List.mem_range];constructor
 ·rintro⟨i,hi,e⟩;exact⟨i,hi,by rw[←IX P l i p (by omega) hp];exact e⟩
 ·rintro⟨i,hi,e⟩;exact⟨i,hi,by rw[IX P l i p (by omega) hp];exact e⟩
theorem Zlg(P:aM){l:List Int}{p:Nat}(hp:p≤l.length):SA P (l.drop p)=(List.range (l.length+1)).any fun j=>nO P l (p:Nat) (j:Nat):=by
 unfold SA;rw[List.length_drop];apply QA;simp only[List.any_eq_true,List.mem_range]
 have key:∀j,j≤l.length - p→nO P (l.drop p) 0 (j:Nat)=nO P l (p:Nat) ((p+j:Nat):Int):=fun j hj=>by
  have e1:=Zgf P l p (p+j) (by omega) (by omega);have e2:=IX P (l.drop p) 0 j (Nat.zero_le _) (by simp;omega);have e3:p+j - p=j:=by omega
  rw[e3] at e1;have e4:((p+j:Nat):Int) - (p:Nat)=(j:Nat):=by omega
  rw[e4] at e1;have e0:((0:Nat):Int)=0:=rfl;rw[e0] at e2;rw[←e2,e1]
 constructor
 ·rintro⟨j,hj,e⟩;exact⟨p+j,by omega,by rw[←key j (by omega)];exact e⟩
 ·rintro⟨j,hj,e⟩
  have:=ZmV e;refine⟨j - p,by omega,?_⟩;rw[key _ (by omega)];have:p+(j - p)=j:=by omega
  rw[this];exact e
theorem Wt{x:aD×Int}{f:aD→aD×Int}{d:aD}(h:Bo x f=(d,0)):x.2=0∧f x.1=(d,0):=by
 unfold Bo at h;split at h
 ·rename_i hx;exact⟨hx,h⟩
 ·rename_i hx;simp only[Prod.mk.injEq] at h;exact(hx h.2).elim
theorem ZmR{x d:aD}(h:wN x=(d,0)):bD x∧d=nY x:=by
 unfold wN at h;split at h
 ·rename_i hr;simp only[Prod.mk.injEq] at h;exact⟨(uW x).mp hr,h.1.symm⟩
 ·simp at h
theorem Ze2{kd:Kd}{p:aM}{n most:Int}{d:aD}(h:lH kd p n most=(d,0)):jH p≤300∧mY kd (kX p n) most=(d,0):=by
 unfold lH at h;split at h
 ·rename_i hn
  unfold qU at hn h;split at hn
  ·simp at hn
  ·rename_i h0
   rw[if_neg h0] at h;split at hn
   ·simp at hn
   ·rename_i h3
    rw[if_neg h3] at h;exact⟨Y0 h3,h⟩
 ·rename_i hn;simp only[Prod.mk.injEq] at h;exact(hn h.2).elim
theorem ZdM{r:oF}{n most:Int}{d:aD}(h:xX r n most=(d,0)):sI d n (JW r)∧nY d=d∧(d.next.length:Int)≤most∧1≤n∧n≤200:=by
 unfold xX at h;split at h
 ·simp at h
 rename_i hg;have hn1:1≤n:=by omega
 have hn2:n≤200:=by omega
 obtain⟨hb,h⟩:=Wt h;obtain⟨ha,h⟩:=Wt h;obtain⟨hm,h⟩:=Wt h;obtain⟨hR,rfl⟩:=ZmR h;generalize hx:lH .tails r.before n most=x at *;generalize hy:lH .heads r.after n most=y at *;obtain⟨xd,xe⟩:=x;obtain⟨yd,ye⟩:=y;simp only at hb ha hm hR ⊢;subst hb;subst ha;obtain⟨cb,hb⟩:=Ze2 hx;obtain⟨ca,ha⟩:=Ze2 hy;obtain⟨Rb,sb,accb⟩:=Ze4 hn1 hn2 cb hb;obtain⟨Ra,sa,acca⟩:=Ze3 hn1 hn2 ca ha;generalize hz:lG xd yd most=z at *;obtain⟨zd,ze⟩:=z;simp only at hm;subst hm;obtain⟨M,hl⟩:=WI hz;rw[sb] at M
 have M2:sI zd n (JW r):=M.congr fun l p hl h1 h2=>by
  rw[accb _ (hl.take p),acca _ (hl.drop p),Zm2 _ (by omega),Zlg _ (by omega)];rfl
 refine⟨M2.least,Zkk hR,?_,hn1,hn2⟩;have:=Zpy hR;simp only at this hl ⊢;omega
def Zws(a b:List Bool):List Bool:=List.zipWith (fun x y=>x || y) a b
def mk(a:List Bool)(j:Int):Prop:=0≤j∧a.getD j.toNat false=true
def Sz(r:Int→Int→Prop):Nat→Int→Int→Prop
 | 0,i,j=>i=j
 | n+1,i,j=>∃m,Sz r n i m∧r m j
theorem Sz.aP{r:Int→Int→Prop}:∀(n:Nat) {i j:Int},Sz r (n+1) i j→lV r i j
 | 0,i,j,⟨m,h1,h2⟩=>by cases h1;exact .one h2
 | n+1,i,j,⟨m,h1,h2⟩=>.more (Sz.aP n h1) h2
theorem Zgi{p:Nat→Bool}:∀n,(((List.range n).filter p).map fun i:Nat=>(i:Int)).Pairwise (· < ·):=by
 intro n;rw[List.pairwise_map];exact(List.Pairwise.filter p List.pairwise_lt_range).imp fun h=>by omega
end Go.Rf
namespace Go.Rf
open Go.RowKit
attribute [local simp] oP oM oH pU pK pR pO oO qw pQ oI pI jv jE jF jK qm qQ qO qN qH qP oZ oU qy qd qx qK qJ qF qA qg qz qM qL oQ lQ pV qh qj pJ pG dN gL fJ gJ ig fI gK iq gX gV gY eZ gQ gZ gP d9 eF gU iN iK iM iL iO gD fM fH dZ fQ fU fV fP fE iH iw gT iF iC iE iD iG iI iA gu fF fG fK gy dx dL fq iB iJ ex au bS dM dY bF bJ aG bf dU eY dQ fO gN gM iy gW bO dw dz eD eu fZ dR bC pz oG dD dJ pW pE ql oK eB eX eP eU dW dh dS dP dO bB qD oJ oL qc pF pY qb qp lZ pX qo qE S0 aj aH rA rD rO rz rC rG rJ rE rH rU rR rT rQ rM rP kP dX.cl bH.cl aS bY aR iT jq kL kJ kK jD kF kI kE kQ iZ jP jd kR jQ jO jY kS kU kT kN jJ jL kV jW kM jX jM kH iQ kW bT jr bA jN
def Ztm(P:Program)(f:FuncId)(n:Nat):Prop:=∀a b:List Bool,a.length=n→b.length=n→
 aQ P f [.own 0 0 n,ji b] ⟨1,cB [(0,some (.arr 1 (a.map aH)))]⟩ fun r S'=>r=.aN []∧S'.n=10∧S'.g 0=some (.arr 1 ((Zws a b).map aH))
def YW(l:List Bool)(id:Nat)(S:St):St:=(St.mk (S.n+9) S.g).set id (some (.arr 1 (l.map aH)))
theorem Ztm.use{P:Program}{f:FuncId}{n:Nat}(h:Ztm P f n){a b:List Bool}(ha:a.length=n)(hb:b.length=n){S:St}{K:AV→St→Prop}{id:Nat}(hg:S.g id=some (.arr 1 (a.map aH)))(hid:id < S.n)
  (hk:K (.aN []) (YW (Zws a b) id S)):aQ P f [.own id 0 n,ji b] S K:=by
 refine aQ.frame 1 [(0,id)] [(0,some (.arr 1 (a.map aH)))] [.own 0 0 n,ji b] _ (by simp) (by simp;omega) ?_ ?_ (h a b ha hb) ?_
 ·intro p hp
  simp only[List.mem_cons,List.not_mem_nil,or_false] at hp;subst hp;refine .inr ⟨id,by simp,?_⟩;rw[hg,iQ];exact⟨rfl,.cl (jP _)⟩
 ·exact .cons (.own _ _ _ _ (by simp)) (.cons (.cl (jq _)) .nil)
 ·rintro r1 S1 hn ⟨rfl,q1,q2⟩
  refine⟨_,_,hk,.cl (.aN _ (by simp)),by simp[YW,bf,q1],fun i k hi=>?_⟩;simp only[YW,aG] at hi;by_cases e:i=id
  ·rw[if_pos e] at hi
   refine .inr ⟨0,.inl ⟨by omega,by simp[e]⟩,?_⟩;rw[←hi,q2,iQ];exact⟨rfl,.cl (jP _)⟩
  ·rw[if_neg e] at hi
   refine .inl ⟨?_,hi⟩;simp;omega
section
variable{P:Program}{fh fg fm:FuncId}{k:Int}{ps:List Rg}{pg l:List Int}{ks:List aM}{a:List Bool}
end
def Zlp(H8:FuncId):AC:= (.loop (.seq (sq [rm 9 6,rF 10 3 2,rL 11 10,ro 12 (.len (.t 11)),ro 13 (.bin .lss (.t 9) (.t 12)),rm 14 13,rg 15 14 true (.mv (.t 5)),rg 16 14 true (.mv (.t 1)),rg 17 14 true (.bin .leq (.t 15) (.t 16)),ro 18 (.pick (.t 14) (.t 17) (.c (.v (.bool false))))] (.cond (.t 18) .skip (.exit 0))) (.seq (.block 1 (.reg none [rm 21 5,rF 22 3 2,rL 23 22,rm 24 6,ro 25 (.aI 4 (.t 23) (.t 24)),ro 26 (.load (some 4) (.t 25)),rm 27 1,ro 28 (.bin .sub (.t 27) (ci 1)),rk 29 H8 [(.t 26),(.t 28)],ro 30 (.bin .add (.t 21) (.t 29)),rm 5 30])) (.reg none [rm 19 6,ro 20 (.bin .add (.t 19) (ci 1)),rm 6 20]))))
def Ij(H8:FuncId):AC:= (sq [ro 2 (.box 4 (.t 0)),ro 4 (.mv (ci 0))] (sq [ro 5 (.mv (ci 1))] (.seq (sq [rm 7 1,ro 8 (.bin .lss (.t 7) (ci 0))] (.cond (.t 8) (sq [ro 4 (.mv (ci 1000))] .ret) .skip)) (.seq (sq [ro 6 (.mv (ci 0))] (.block 0 (Zlp H8))) (sq [rm 31 5,rm 4 31] .ret)))))
def Vy(H8:FuncId):AC:= (sq [ro 2 (.box 11 (.t 0)),ro 4 (.mv (.c (.v (.bool false))))] (sq [rF 5 2 2,ro 6 (.load (some 4) (.t 5)),rm 7 1,rk 8 H8 [(.t 6),(.t 7)],rm 9 1,ro 10 (.bin .leq (.t 8) (.t 9)),rm 11 10,rg 12 11 true (.dA 6 (.t 2)),rg 13 11 true (.load (some 4) (.t 12)),rg 14 11 true (.mv (.t 1)),rl 15 11 true H8 [(.t 13),(.t 14)],rg 16 11 true (.mv (.t 1)),rg 17 11 true (.bin .leq (.t 15) (.t 16)),ro 18 (.pick (.t 11) (.t 17) (.c (.v (.bool false)))),rm 4 18] .ret))
def VB(P4G:FuncId):AC:= (sq [ro 1 (.box 3 (.t 0)),ro 2 (.mv (.c (.sl true []))),ro 3 (.mv (ci 0)),ro 4 (.mv (.c (.v (.bool false))))] (sq [ro 5 (.load (some 3) (.t 1)),rk 6 P4G [(.t 5)],ro 7 (.ext 0 (.t 6)),ro 8 (.ext 1 (.t 6)),ro 9 (.ext 2 (.t 6)),rm 2 7,rm 3 8,rm 4 9] .ret))
def ZaC(KG KR:FuncId):AC:= (sq [ro 3 (.box 3 (.t 0)),ro 6 (.mv (.c (.v (.bool false))))] (sq [rm 8 1,rm 9 2,rk 10 KG [(.t 8),(.t 9)],rm 7 10] (sq [rm 11 7,ro 12 (.len (.t 11)),ro 13 (.bin .gtr (.t 12) (ci 0)),rm 14 13,rg 15 14 true (.load (some 3) (.t 3)),rg 16 14 true (.mv (.t 7)),rl 17 14 true KR [(.t 15),(.t 16)],ro 18 (.pick (.t 14) (.t 17) (.c (.v (.bool false)))),rm 6 18] .ret)))
def Zlo(Lb:FuncId):AC:= (.loop (sq [ro 10 (.bin .lss (.t 9) (.t 8))] (.seq (.cond (.t 10) .skip (.exit 0)) (.seq (.block 1 (sq [rm 11 9,rm 6 11] (sq [ro 12 (.load (some 3) (.t 2)),rm 13 1,rm 14 6,rk 15 Lb [(.t 12),(.t 13),(.t 14)]] (.cond (.t 15) (.reg none [rm 16 5,rm 17 6,ro 18 (.dn 1 1 (.v (.int .i64 0)) [(0,(.t 17))]),ro 19 (.app 1 8 (.t 16) (.t 18)),rm 5 19]) .skip)))) (.reg none [ro 20 (.bin .add (.t 9) (ci 1)),rm 9 20])))))
def VN(Lb:FuncId):AC:= (sq [ro 2 (.box 3 (.t 0)),ro 4 (.mv (.c (.sl true [])))] (sq [ro 5 (.mv (.c (.sl true [])))] (.seq (sq [rm 7 1,ro 8 (.len (.t 7)),ro 9 (.mv (ci 0))] (.block 0 (Zlo Lb))) (sq [rm 21 5,rm 4 21] .ret))))
def Zrx(UH:FuncId):AC:= (.loop (.seq (sq [rm 7 6,rm 8 1,ro 9 (.len (.t 8)),ro 10 (.bin .lss (.t 7) (.t 9))] (.cond (.t 10) .skip (.exit 0))) (.seq (.block 1 (sq [ro 13 (.load (some 3) (.t 2)),rm 14 1,rm 15 6,rk 16 UH [(.t 13),(.t 14),(.t 15)]] (.cond (.t 16) (.reg none [rm 17 5,rm 18 6,ro 19 (.dn 1 1 (.v (.int .i64 0)) [(0,(.t 18))]),ro 20 (.app 1 8 (.t 17) (.t 19)),rm 5 20]) .skip))) (.reg none [rm 11 6,ro 12 (.bin .add (.t 11) (ci 1)),rm 6 12]))))
def Z8p(UH:FuncId):AC:= (sq [ro 2 (.box 3 (.t 0)),ro 4 (.mv (.c (.sl true [])))] (sq [ro 5 (.mv (.c (.sl true [])))] (.seq (sq [ro 6 (.mv (ci 0))] (.block 0 (Zrx UH))) (sq [rm 21 5,rm 4 21] .ret))))
mutual
def mD:aM→Int→Int
 | .mk _ _ _ ks,m=>if m < 0 then 1000 else M6 ks m 1
def M6:List aM→Int→Int→Int
 | [],_,s=>s
 | p::ps,m,s=>if s≤m then M6 ps m (s+mD p (m - 1)) else s
end
theorem Qs:∀(ks:List aM) (m s:Int),M6 ks m s=qX m s (ks.map (mD · (m - 1)))
 | [],_,_=>by simp[M6,qX]
 | p::ps,m,s=>by simp[M6,qX,Qs ps]
mutual
theorem Zsf:∀(p:aM) (m:Int),-1≤m→m≤100→1≤mD p m∧mD p m≤2000+200*(m+1)
 | .mk k s g ks,m,h0,h1=>by
  rw[mD];split
  ·omega
  ·have hb:=Qr ks m (by omega) h1
   rw[Qs]
   have:=ZnU (most:=m) (B:=2000+200*m) (M:=2000+200*(m+1)) (by omega) (ws:=ks.map (mD · (m - 1))) (s:=1) (fun w hw=>by
    obtain⟨q,hq,rfl⟩:=List.mem_map.mp hw;have:=hb q hq;omega) (by omega)
   omega
theorem Qr:∀(ks:List aM) (m:Int),0≤m→m≤100→∀q∈ks,1≤mD q (m - 1)∧mD q (m - 1)≤2000+200*m
 | [],_,_,_,q,hq=>by simp at hq
 | p::ps,m,h0,h1,q,hq=>by
  rcases List.mem_cons.mp hq with e | hq
  ·rw[e];have:=Zsf p (m - 1) (by omega) (by omega);omega
  ·exact Qr ps m h0 h1 q hq
end
mutual
theorem Wq:∀(p:aM) (m:Int),yY p→m≤100→mD p m≤m→uP p∧(uD p:Int)≤mD p m
 | .mk k s g ks,m,hg,h1,h=>by
  rw[mD] at h ⊢;split at h
  ·omega
  rename_i h0;rw[if_neg h0];rw[Qs] at h ⊢;simp only[yY] at hg;obtain⟨g1,g2,g3,g4⟩:=hg;have hb:=Qr ks m (by omega) h1
  have hpos:∀w∈ks.map (mD · (m - 1)),1≤w:=fun w hw=>by
   obtain⟨q,hq,rfl⟩:=List.mem_map.mp hw;exact(hb q hq).1
  obtain⟨a1,a2,a3⟩:=ZjB (fun w hw=>by have:=hpos w hw;omega) h;rw[ZnW (fun w hw=>by have:=hpos w hw;omega) h];have hl:=ZnY _ hpos;simp only[List.length_map] at hl;have hq:=ZcI ks m g4 h1 (fun q hq=>by have:=a2 _ (List.mem_map_of_mem hq);omega);have hs:=Ze7 (f:=(mD · (m - 1))) (g:=uD) (ks:=ks) (fun q hq'=>(hq q hq').2);refine⟨?_,?_⟩
  ·simp only[uP]
   exact⟨g2,by omega,Zi9 fun q hq'=>(hq q hq').1⟩
  ·simp only[uD]
   rw[Zn1]
   push_cast
   omega
theorem ZcI:∀(ks:List aM) (m:Int),zO ks→m≤100→(∀q∈ks,mD q (m - 1)≤m - 1)→∀q∈ks,uP q∧(uD q:Int)≤mD q (m - 1)
 | [],_,_,_,_,q,hq=>by simp at hq
 | p::ps,m,hg,h1,h,q,hq=>by
  simp only[zO] at hg;rcases List.mem_cons.mp hq with e | hq
  ·rw[e];exact Wq p (m - 1) hg.1 (by omega) (h p (by simp))
  ·exact ZcI ps m hg.2 h1 (fun q hq=>h q (by simp[hq])) q hq
end
def nqI(m:Int)(ks:List aM)(k:Nat)(s:Int):Prop:=qX m s ((ks.map (mD · (m - 1))).drop k)=qX m 1 (ks.map (mD · (m - 1)))∧1≤s∧s≤30000
def Kr(m:Int)(k:Nat)(s:Int):List (Nat×AV):=[(1,aj m),(2,.ptr 0 0 0),(5,aj s),(6,aj k)]
def Kt(p:aM)(_:Nat)(_:Int):List (Nat×Option aF):=[(0,some (.arr 4 [jf p]))]
theorem Zkq{P:Program}{fn:FuncId}(k:Int)(ps:List Rg)(pg:List Int)(ks:List aM)(hl:Len ks)(m:Int)(h0:-1≤m)(h1:m≤100)(hq:0≤m→∀q∈ks,aO P fn [jf q,aj (m - 1)] (aj (mD q (m - 1)))) :
  bM P 0 (Ij fn) (gG [4] (iP (aj (mD (.mk k ps pg ks) m)))) (bU [jf (.mk k ps pg ks),aj m]) S0:=by
 rw[mD];by_cases hm:m < 0
 ·rw[if_pos hm]
  simp[Ij,lY,hm];exact yV _ _
 rw[if_neg hm,Qs];have hq:=hq (by omega);have hb:=Qr ks m (by omega) h1;unfold Len at hl;simp[Ij,lY,hm,Zlp];refine uJ ks.length (nqI m ks) (Kr m) 5 (Kt (.mk k ps pg ks)) 1 ⟨by simp,by omega,by omega⟩ ?_ ?_
 ·refine bL.of [(0,0)] [] (by omega) ⟨by simp,by simp⟩ ?_ ?_
  ·simp[Kt,lY,WW,BO]
  ·simp[Kr]
 ·rintro i s hi ⟨hs,hs1,hs2⟩
  by_cases hlt:i < ks.length
  ·have hsk:ks[i]? = some ks[i]:=List.getElem?_eq_getElem hlt
   have hqk:=hq _ (List.getElem_mem hlt);have hbk:=hb _ (List.getElem_mem hlt);have hcp:=xV ks[i];obtain⟨x1,x2,x3,x4,hx⟩:=Zpc ks[i];rw[hx] at hqk hcp;by_cases hsm:s≤m
   ·have hw1:IntKind.i64.wrap (m - 1)=m - 1:=bG _ (by omega)
    have hst:qX m s ((ks.map (mD · (m - 1))).drop i)=qX m (s+mD ks[i] (m - 1)) ((ks.map (mD · (m - 1))).drop (i+1)):=by
     have:=ZnV (most:=m) (s:=s) (ws:=ks.map (mD · (m - 1))) (i:=i) (by simpa using hlt) hsm;rw[this];simp
    have sU:(i:Int) < (ks.length:Int):=by omega
    generalize mD ks[i] (m - 1)=z at *;have hw2:IntKind.i64.wrap (s+z)=s+z:=bG _ (by omega);simp[Kr,Kt,lY,hlt,sU,hx,hsm,hw1];refine aQ.pure hqk (aL hcp (aL (aS _) aU)) (aS _) ?_;simp[hw2];rw[bG _ (by omega)];refine⟨hlt,s+z,⟨by rw[←hst];exact hs,by omega,by omega⟩,bL.of [(0,0)] [] (by omega) ⟨by simp,by simp⟩ ?_ ?_⟩
    ·simp[Kt,lY,WW,BO]
    ·simp[Kr]
   ·rw[ZnX hsm] at hs
    have sU:(i:Int) < (ks.length:Int):=by omega
    simp[Kr,Kt,lY,sU,hsm];rw[hs];exact yV _ _
  ·have hke:i=ks.length:=by omega
   subst hke;have hdr:(ks.map (mD · (m - 1))).drop ks.length=[]:=List.drop_eq_nil_of_le (by simp);rw[hdr] at hs;simp only[qX] at hs;simp[Kr,Kt,lY];rw[hs];exact yV _ _
mutual
theorem Xk{P:Program}(hm:P.follows .mixedOrders=true){f:FuncId}(h:Is P f (Ij f) [4] 2):∀(p:aM) (m:Int),yY p → -1≤m→m≤100→aO P f [jf p,aj m] (aj (mD p m))
 | .mk k ps pg ks,m,hp,h0,h1=>by
  simp only[yY] at hp;exact h.rX hm rfl (Zkq k ps pg ks hp.2.2.1 m h0 h1 (fun h2=>Zgk hm h ks m hp.2.2.2 h2 h1))
theorem Zgk{P:Program}(hm:P.follows .mixedOrders=true){f:FuncId}(h:Is P f (Ij f) [4] 2):∀(ks:List aM) (m:Int),zO ks→0≤m→m≤100→∀q∈ks,aO P f [jf q,aj (m - 1)] (aj (mD q (m - 1)))
 | [],_,_,_,_,q,hq=>by simp at hq
 | p::ps,m,hg,h0,h1,q,hq=>by
  simp only[zO] at hg;rcases List.mem_cons.mp hq with e | hq
  ·rw[e];exact Xk hm h p (m - 1) hg.1 (by omega) (by omega)
  ·exact Zgk hm h ps m hg.2 h0 h1 q hq
end
def FU(r:oF)(m:Int):Bool:=decide (mD r.before m≤m) && decide (mD r.after m≤m)
theorem ZjN{P:Program}{fn:FuncId}(r:oF)(m:Int)(h1:aO P fn [jf r.before,aj m] (aj (mD r.before m)))(h2:aO P fn [jf r.after,aj m] (aj (mD r.after m))) :
  bM P 0 (Vy fn) (gG [4] (iP (aH (FU r m)))) (bU [qG r,aj m]) S0:=by
 obtain⟨num,cut,b,a,pos⟩:=r;simp only at h1 h2;unfold FU;simp only;obtain⟨bk,bs,bg,Nz,hb,hpb⟩:=Jc b;obtain⟨ak,Ny,ag,Nv,ha,hpa⟩:=Jc a;have hcl:=VU (num:=num) (cut:=cut) (pos:=pos) hb ha;have hcb:=xV b;have hca:=xV a;rw[hcl];generalize mD b m=x at *;generalize mD a m=y at *;simp[Vy,hpb];refine aQ.pure h1 (aL hcb (aL (aS _) aU)) (aS _) ?_;by_cases hx:x≤m
 ·simp[hx,hpa]
  refine aQ.pure h2 (aL hca (aL (aS _) aU)) (aS _) ?_;by_cases hy:y≤m
  ·simp[hy]
   exact jk _ _
  ·simp[hy]
   exact jk _ _
 ·simp[hx]
  exact jk _ _
def qC(d:aD)(l:List Int)(k:Nat):List Int:=((List.range k).filter fun i=>yC d l (i:Nat)).map fun i:Nat=>(i:Int)
theorem Zgp(d:aD)(l:List Int)(k:Nat):qC d l (k+1)=qC d l k++(if yC d l (k:Nat)=true then [(k:Int)] else []):=by
 unfold qC;rw[List.range_succ,List.filter_append,List.map_append];congr 1;by_cases h:yC d l (k:Nat)=true
 ·simp[h]
 ·simp[h]
theorem V5(d:aD)(l:List Int)(k:Nat):(qC d l k).length≤k:=by
 unfold qC;rw[List.length_map];have:=List.length_filter_le (fun i:Nat=>yC d l (i:Nat)) (List.range k);simpa using this
def mpI(_:Nat)(_:Bool):Prop:=True
def Ko(d:aD)(l:List Int)(k:Nat)(o:Bool):List (Nat×AV):=[(1,aA l),(2,.ptr 0 0 0),(5,vV o 1 ((qC d l k).map aj)),(8,aj l.length),(9,aj k)]
def Kq(d:aD)(l:List Int)(k:Nat)(o:Bool):List (Nat×Option aF):=[(0,some (.arr 3 [aW d])),(1,vB o 1 ((qC d l k).map aj))]
theorem Zbq{P:Program}{fa:FuncId}(d:aD)(l:List Int)(hl:l.length≤100000)(ha:∀i:Nat,i < l.length→aO P fa [aW d,aA l,aj i] (aH (yC d l (i:Nat)))) :
  bM P 0 (VN fa) (gG [4] (iP (aA (qC d l l.length)))) (bU [aW d,aA l]) S0:=by
 simp[VN,Zlo];refine uJ l.length mpI (Ko d l) 3 (Kq d l) false trivial ?_ ?_
 ·refine bL.of [(0,0)] [] (by omega) ⟨by simp,by simp⟩ ?_ ?_
  ·simp[Kq,iV]
  ·simp[Ko,qC]
 ·rintro i o hi _
  by_cases hlt:i < l.length
  ·have hat:=ha i hlt
   have sU:(i:Int) < (l.length:Int):=by omega
   have hpl:=V5 d l i;have hok:dV 8 (qC d l i).length 1:=by unfold dV;omega
   have hsu:=Zgp d l i;simp[Ko,Kq,sU];refine aQ.pure hat (aL (iV _) (aL (aR _) (aL (aS _) aU))) (bY _) ?_;cases hb:yC d l (i:Nat) with
   | true=>
    rw[hb] at hsu;simp only[if_true] at hsu;simp[hok];rw[bG _ (by omega)];refine⟨hlt,true,trivial,bL.of [(0,0),(1,13)] [] (by omega) ⟨by simp,by simp⟩ ?_ ?_⟩
    ·simp[Kq,iV,hsu]
    ·simp[Ko,hsu]
   | false=>
    rw[hb] at hsu;simp only[Bool.false_eq_true,if_false,List.append_nil] at hsu;simp;rw[bG _ (by omega)];refine⟨hlt,o,trivial,bL.of [(0,0),(1,1)] [] (by omega) ⟨by simp,by simp⟩ ?_ ?_⟩
    ·simp[Kq,iV,hsu]
    ·simp[Ko,hsu]
  ·have hke:i=l.length:=by omega
   subst hke;simp[Ko,Kq];refine Bp ?_ (iZ _);simp
theorem Zfo{P:Program}{fm:FuncId}(d:aD)(s:List Int)(p:Int)(b:Bool)(hm:aO P fm [aW d] (.aN [aA s,aj p,aH b])) :
  bM P 0 (VB fm) (gG [2,3,4] (iP (.aN [aA s,aj p,aH b]))) (bU [aW d]) S0:=by
 simp[VB];refine aQ.pure hm (aL (iV _) aU) (.aN _ (aL (aR _) (aL (aS _) (aL (bY _) aU)))) ?_;simp;exact .closed _ (.aN _ (aL (aR _) (aL (aS _) (aL (bY _) aU))))
theorem Zka(r:oF):∃x1 x2 x3 x4 x5 x6 x7 x8 x9 x10 x11:AV,qG r=.agg [x1,x2,x3,x4,x5,x6,x7,x8,x9,x10,x11]:=by
 obtain⟨num,cut,b,a,pos⟩:=r;obtain⟨bk,bs,bg,Nz,hb,_⟩:=Jc b;obtain⟨ak,Ny,ag,Nv,ha,_⟩:=Jc a;exact⟨_,_,_,_,_,_,_,_,_,_,_,VU hb ha⟩
def mwI(l:List Int)(k:Nat)(_:Unit):Prop:=∀x∈l.take k,0≤x∧x < 3
def G9(r:oF)(_:Nat)(_:Unit):List (Nat×Option aF):=[(0,some (.arr 11 [qG r]))]
def mvI(_:Nat)(_:Unit):Prop:=True
theorem Zqc{n:Int}{l:List Int}{k:Nat}(h:k < l.length)(h1:∀x∈l.take k,0≤x∧x < n)(h2:0≤l[k]∧l[k] < n):∀x∈l.take (k+1),0≤x∧x < n:=by
 intro x hx;rw[List.take_add_one,List.getElem?_eq_getElem h] at hx;rcases List.mem_append.mp hx with hx | hx
 ·exact h1 x hx
 ·simp at hx;subst hx;exact h2
end Go.Rf
namespace Go.Rf
open Go.RowKit
structure Hu where
 OV:FuncId
 P2i:FuncId
 P2n:FuncId
 U2:FuncId
 U3:FuncId
 EN:FuncId
 UN:FuncId
 OG:FuncId
 ES:FuncId
 K4:FuncId
 O5:FuncId
 OH:FuncId
 EI:FuncId
 Uv:FuncId
 KO:FuncId
 Pb:FuncId
 K3:FuncId
 OC:FuncId
 H6:FuncId
 OD:FuncId
 Dp:FuncId
 KF:FuncId
 Dn:FuncId
 AB:FuncId
 Pm:FuncId
 O9:FuncId
 Le:FuncId
 KW:FuncId
 KZ:FuncId
 OI:FuncId
 O1:FuncId
 OT:FuncId
 OU:FuncId
 O8:FuncId
 KU:FuncId
 Li:FuncId
 OW:FuncId
 HY:FuncId
 KQ:FuncId
 Ux:FuncId
 OZ:FuncId
 Uz:FuncId
 U4:FuncId
 UZ:FuncId
 OO:FuncId
 UM:FuncId
 UF:FuncId
 Lf:FuncId
 O0:FuncId
 U8:FuncId
 Vg:FuncId
 KY:FuncId
 KX:FuncId
 HZ:FuncId
 K8:FuncId
 O6:FuncId
 K7:FuncId
 O4:FuncId
 UQ:FuncId
 UO:FuncId
 OX:FuncId
 U0:FuncId
 OY:FuncId
 UC:FuncId
 UA:FuncId
 Vd:FuncId
 Ld:FuncId
 Ve:FuncId
 O3:FuncId
 Pj:FuncId
 UD:FuncId
 UW:FuncId
 U5:FuncId
 UL:FuncId
 UK:FuncId
 Pf:FuncId
 UG:FuncId
 U6:FuncId
 K5:FuncId
 Vi:FuncId
 P2R:FuncId
 OQ:FuncId
 UE:FuncId
 KV:FuncId
 Ia:FuncId
 OP:FuncId
 Pk:FuncId
 U7:FuncId
 Dq:FuncId
 Dm:FuncId
 strconv_Itoa:FuncId
 OJ:FuncId
 OM:FuncId
 OE:FuncId
 K9:FuncId
 Vf:FuncId
 Pq:Nat
 Pt:Nat
structure AL(P:Program)(F:Hu):Prop where
 hm:P.follows .mixedOrders=true
 P3g:Is P F.OV Z9t [4] 2
 P2Y:Is P F.P2i Z98 [4] 2
 P3j:Is P F.P2n (Z9w F.U2 F.U3) [4] 2
 P2V:Is P F.U2 (Z95 F.OV) [4] 2
 P2X:Is P F.U3 Z97 [4] 2
 P30:Is P F.EN Z9a [2] 1
 P3D:Is P F.UN (Za5 F.EN) [4] 2
 P2F:Is P F.OG (Pz F.UN) [4] 2
 P45:Is P F.ES (Dt F.K4 F.O5 F.OH) [2] 1
 P3q:Is P F.K4 PN [3] 2
 P3r:Is P F.O5 (PO F.EI) [4] 3
 P0P:Is P F.OH (PE F.Uv) [4] 2
 P0W:Is P F.EI (PE F.KO) [4] 2
 P10:Is P F.Uv LD [4] 2
 Uu:Is P F.KO LD [4] 2
 P4x:Is P F.Pb (WE F.ES) [4] 2
 P3o:Is P F.K3 (Pz F.Pb) [4] 2
 P1p:Is P F.OC Py [4] 2
 P1a:Is P F.H6 (Vr F.OD) [4] 2
 P1q:Is P F.OD Vt [4] 2
 P1o:Is P F.Dp (E8 1 8 (.v (.int .i64 0))) [2] 1
 Uy:Is P F.KF (MF 1 8 (.v (.int .i64 0))) [4] 2
 Uw:Is P F.Dn (Ma 1 8 F.KF) [2] 1
 P4z:Is P F.AB (Qc F.Dp F.Dq F.Dm) [2] 1
 P4q:Is P F.Pm (IB F.AB F.OC) [6] 3
 P47:Is P F.O9 (BP F.Pm) [2] 1
 P48:Is P F.Le (Iu F.Le) [2] 1
 P2j:Is P F.KW PI [4] 2
 P2x:wX P F.KZ (AO F.Dp F.O1 F.OI F.AB F.KW F.OT F.OU F.O8 F.KU) [.c 4 (some 3)] 2
 P11:Is P F.OI (Px F.KO) [4] 2
 P2f:Is P F.O1 Ii [3] 2
 P2w:Is P F.OT (PK F.KZ) [4] 2
 P2y:lN P F.OU (PL F.KU F.Dn F.AB) [.c 4 (some 3)] 2
 P3W:lN P F.O8 (PU F.Dn F.AB) [.c 2 (some 3)] 1
 P2e:Is P F.KU (PD F.Dn F.AB) [] 3
 P4R:lN P F.Li (Fw F.Le F.KW F.KZ F.Dp F.AB) [.c 4 (some 4),.t 5] 2
 P3h:Is P F.OW (Z9u F.OW) [2] 1
 P3C:Is P F.HY Z6Z [4] 2
 P2k:lN P F.KQ (Z7m F.HY F.KQ F.Ux F.OZ F.Uz) [.c 4 (some 3)] 2
 P2b:Is P F.Ux (Z6V F.OZ) [] 3
 P3A:Is P F.OZ (Za4 F.HY) [4] 2
 P2l:lN P F.Uz (Z7n F.KQ) [.c 4 (some 3)] 2
 P3Q:EH P F.U4 (Zaz F.OW F.KQ F.HY) [.c 4 (some 4),.t 5] 2
 P2O:Is P F.UZ Z8k [6] 3
 P2W:Is P F.OO (Z96 F.UZ) [2] 1
 P3B:Is P F.UM Z70 [4] 2
 P3i:Is P F.UF (Z9v F.OO F.UM F.HY) [6] 3
 P4m:Is P F.Lf (Zdr F.strconv_Itoa F.OJ F.OM F.OE) [2] 1
 P2d:BK P F.O0 (Vw F.Lf F.Pq) [.t 4] 2
 P2J:BK P F.U8 (LC F.O0 F.KX) [.c 4 (some 3)] 2
 P3t:Is P F.Vg LG [6] 4
 P2v:Is P F.KY (VE F.H6 F.Dq F.Dm) [6] 3
 P2u:Is P F.KX (VD F.HZ F.EI) [4] 2
 P2c:Is P F.HZ (Vv F.H6) [3] 2
 P46:lN P F.K8 (PX F.K9 F.O6) [.c 4 (some 3),.t 5] 2
 P3s:Is P F.O6 (VH F.KY F.Dn) [6] 3
 P44:lN P F.K7 (PX F.K9 F.O4) [.c 4 (some 3),.t 5] 2
 P3p:Is P F.O4 (VG F.KX F.KY) [6] 3
 P3F:Is P F.UQ Z6Z [4] 2
 P3E:Is P F.UO Z70 [4] 2
 P3k:Is P F.OX (Z9x F.UO) [4] 2
 P2P:Is P F.U0 (Z8l F.OX F.UF F.UQ) [8] 4
 P3l:lN P F.OY (Z9y F.OO F.U0 F.OV F.OX) [.c 6 (some 3),.t 7] 3
 P31:lN P F.UC (Z9b F.OY) [.c 4 (some 3),.t 5] 2
 P2Z:lN P F.UA (Z99 F.OY) [.c 4 (some 3),.t 5] 2
 P34:Is P F.Vd VL [2] 1
 P3V:Is P F.Ld (Zb5 F.strconv_Itoa F.OJ F.OM F.OE) [6] 3
 P3u:Is P F.Ve (VI F.Ld) [4,5] 2
 P2K:Is P F.O3 (VA F.Vd F.Ve) [2] 1
 P4n:lN P F.Pj (Wi F.ES F.O3) [.c 2 (some 3),.t 3] 1
 P32:Is P F.UD Z9c [2] 1
 P2G:Is P F.UW (Z8e F.EN F.UD) [2] 1
 P3R:lN P F.U5 (ZaA F.EN F.UW) [.c 2 (some 3),.t 3] 1
 P1Z:Is P F.UL PG [4] 2
 P1Y:lN P F.UK zD [.c 8 (some 2)] 4
 P4y:lN P F.Pf (WH F.ES F.UL F.UK) [.c 6 (some 3),.t 7] 3
 P3m:lN P F.UG Z9A [.c 8 (some 2)] 4
 P3S:lN P F.U6 (ZaB F.EN F.UG) [.c 6 (some 3),.t 7] 3
 U9:lN P F.K5 (VR F.Li) [.c 8 (some 3),.t 9] 4
 P4p:lN P F.Vi (Fa F.K5 F.K8 F.K7 F.Pf F.Pj) [.c 6 (some 3),.t 7] 3
 P3U:lN P F.P2R (ZaD F.U4 F.UC F.UA F.U6 F.U5) [.c 6 (some 3),.t 7] 3
 UU:Is P F.OQ (Ij F.OQ) [4] 2
 P1Q:Is P F.UE (Vy F.OQ) [4] 2
 Vb:Is P F.KV PS [2] 1
 Va:Is P F.Ia (Iq F.KV F.EI) [4] 2
 P33:Is P F.OP Z9d [4] 2
 P4o:Is P F.Pk (Wj F.Ia F.K3) [6] 3
 P3T:Is P F.U7 (ZaC F.OP F.OG) [6] 3
 m1:JV P F.K9=some (F7 F.O9 F.Vf F.Vg F.U8)
 P6g:Ga P F.Vf=some (5,2,Fy F.Pq,16)
 P5q:Ba P F.Lf F.Pt
 P5r:Ba P F.Ld F.Pt
 sort:Cz P F.Dq
 comp:Cy P F.Dm
 EW:aO P F.Dq [.sl true []] (.aN [])
 EU:aO P F.Dm [.sl true []] (.sl true [])
 Zn:Bq P F.OJ F.OM F.OE F.Pt 5
 itoa:Dj P F.strconv_Itoa (fun n=>0≤n∧n < 10000)
theorem ZmO{X:Type}{l:List X}{k:Nat}(h:l.length≤k)(hk:k≤140737488351232):Len l:=by unfold Len;omega
structure xW(n:Net):Prop where
 rows:∀l∈n.rows,l.length≤1000
 aB:n.aB.length≤1000
 follow:n.follow.length≤1000
theorem xW.ok{n:Net}(h:xW n):Ztn n:=by
 have h1:=h.aB;have h2:=h.follow;have h3:=fun l hl=>h.rows l hl
 refine⟨by unfold Len;omega,by unfold Len;omega,?_,fun r hr=>?_,fun r hr=>?_⟩
 ·have:=h3 n.last (by simp[Net.rows]);unfold Len;omega
 ·have:=h3 r (by simp[Net.rows,hr]);unfold Len;omega
 ·have:=h3 r (by simp[Net.rows,hr]);unfold Len;omega
theorem ZgJ{n:Net}(R:nR n):xW n:=by
 have h1:=R.n2;have h2:=R.len;have h3:=R.s2;refine⟨fun l hl=>?_,by omega,by omega⟩;simp only[Net.rows,List.mem_cons,List.mem_append] at hl;rcases hl with rfl | hl | hl
 ·have:=Jl R.last.1 R.last.2;omega
 ·obtain⟨i,hi,rfl⟩:=List.getElem_of_mem hl
  have:=Jl (R.aB i hi).1 (R.aB i hi).2;omega
 ·obtain⟨i,hi,rfl⟩:=List.getElem_of_mem hl
  have:=Wn R hi;omega
theorem Ze5:xW Bv:=⟨fun l hl=>by simp[Bv,Net.rows] at hl;subst hl;simp,by simp[Bv],by simp[Bv]⟩
theorem Zbg(p:aM)(sg:Int):xW (qU p sg).1:=by
 unfold qU;split
 ·exact Ze5
 ·split
  ·exact Ze5
  ·exact ZgJ (Qq (p:=p) (sg:=sg) (by omega) (by omega) (Y0 (by assumption))).R
theorem Zwz:∀k < 10000,(Lib.decDigits k).length≤4:=by
 intro k hk;rw[Lib.decDigits];split
 ·simp
 ·rw[Lib.decDigits]
  split
  ·simp
  ·rw[Lib.decDigits]
   split
   ·simp
   ·rw[Lib.decDigits,dif_pos (by omega)];simp
theorem Ze9:∀{l:List Int},(∀x∈l,0≤x∧x < 10000)→(lg l).length≤5*l.length
 | [],_=>by simp[lg]
 | n::l,h=>by
  have h1:=h n (by simp);have h2:=Zwz n.toNat (by omega);have h3:=Ze9 (l:=l) (fun x hx=>h x (by simp[hx]));rw[LQ,Mv h1.1];simp only[List.length_append,List.length_cons];omega
namespace AL
variable{P:Program}{F:Hu}(S:AL P F)
include S
theorem O7(l:List Int)(p:Int→Bool)(g:FuncId)(cap:List AV)(hl:Len l)(hcap:∀y∈cap,aY y)(hp:∀x∈l,aO P g (aj x::cap) (aH (p x))):aO P F.EI [aA l,.aP g [] cap] (aH (l.any p)):=
 S.P0W.pure S.hm rfl (Z5x (enc:=aj) aS hcap (S.Uu.pure S.hm rfl (Vu (enc:=aj) hl (fun _=>rfl) aS hcap hp)))
theorem P55(l:List (List Int))(p:List Int→Bool)(g:FuncId)(cap:List AV)(hl:Len l)(hcap:∀y∈cap,aY y)(hp:∀x∈l,aO P g (aA x::cap) (aH (p x))):aO P F.OH [aX l,.aP g [] cap] (aH (l.any p)):=
 S.P0P.pure S.hm rfl (Z5x (enc:=aA) aR hcap (S.P10.pure S.hm rfl (Vu (enc:=aA) hl (fun _=>rfl) aR hcap hp)))
omit S in
theorem P57(k:Nat):aY (.aP F.K4 [] [.bN (aj k) 0]):=.aP _ _ _ aU (aL (.bN _ _ (aS _)) aU)
theorem K6(d:aD)(ok:r9 d):aO P F.ES [aW d] (aH (lS d)):=by
 refine S.P45.pure S.hm rfl (Zd8 d ok ?_);refine S.P55 d.next (Cv d) F.O5 _ ok.next (aL (.bN _ _ (iV d)) (aL (.bN _ _ (P57 _)) aU)) (fun r hr=>?_)
 refine S.P3r.pure S.hm rfl (Zbm d r ?_);exact S.O7 r (Gv d.next.length) F.K4 _ (ok.rows r hr) (aL (.bN _ _ (aS _)) aU) (fun t _=>S.P3q.pure S.hm rfl (Zbl _ t _))
theorem P5A(d:aD)(ok:r9 d)(l:List Int)(hl:Len l):aO P F.Pb [aW d,aA l] (aj (Bw (xM d l))):=S.P4x.pure S.hm rfl (ZfL d l hl (S.K6 d ok))
theorem P4h(d:aD)(ok:r9 d)(l:List Int)(hl:Len l):aO P F.K3 [aW d,aA l] (aH (nD d l)):=S.P3o.pure S.hm rfl (Z7e d l (S.P5A d ok l hl))
theorem Ll:wW P F.Dp (rZ 1 8 (.v (.int .i64 0))) [.t 2] 1:=Zi4 S.hm S.P1o
theorem P6m:Zwf P F.Dp F.Dq F.Dm:=⟨S.Ll,S.sort,S.comp,S.EW,S.EU⟩
theorem P6d(l:List Int)(hl:l.length≤17592186043904):aO P F.AB [aA l] (aA (jl l)):=S.P4z.pure S.hm rfl (Zgj S.P6m l hl)
theorem P5O(a b:List Int)(ha:Len a)(hb:Len b):aO P F.OC [aA a,aA b] (aH (a == b)):=S.P1p.pure S.hm rfl (ZaW a b ha hb)
theorem P62(l:List Int)(a b:Int)(hl:l.length≤17592186043904):aO P F.Pm [aA l,aj a,aj b] (aH (sH l a b)):=S.P4q.pure S.hm rfl (ZeQ l a b hl (S.P6d l hl) S.P5O)
theorem P5c(n:Net)(h:xW n):aO P F.O9 [jy n] (aH (qV n)):=S.P47.pure S.hm rfl (Zdf n h.ok (fun l hl a b=>S.P62 l a b (by have:=h.rows l hl;omega)))
theorem P6a:zV P F.Li F.Le F.KW F.KZ F.Dp F.AB F.OT F.OU F.O8 F.KU F.OI F.KO F.O1 F.Dn F.KF:=
 ⟨S.P4R,S.P48,S.P2j,S.P2x,S.Ll,S.P11,S.Uu,S.P2f,S.P2w,S.P2y,S.P3W,S.P2e,S.Uw,S.Uy,S.P6d⟩
theorem P5v(p:aM)(hp:uP p)(sg:Int):aO P F.Li [jf p,aj sg] (DZ (qU p sg)):=S.P6a.ok S.hm p hp sg
theorem P5P(l:List Int)(x:Int)(hl:Len l):aO P F.OD [aA l,aj x] (aj (sM (fun y=>x == y) l)):=S.P1q.pure S.hm rfl (ZaX l x hl)
theorem P4O(l:List Int)(x:Int)(hl:Len l):aO P F.H6 [aA l,aj x] (aH (l.contains x)):=S.P1a.pure S.hm rfl (Z9g l x (S.P5P l x hl))
theorem P63(l:List Int)(hx:∀x∈l,0≤x∧x < 10000)(hl:l.length≤1000000):aO P F.Lf [aA l] (sJ (lg l)):=by
 have h1:=Ze9 hx;exact ZeA S.hm S.P4m S.P5q S.Zn S.itoa hx (by omega) (by omega)
theorem P6l(n:Net)(h:n.follow.length≤1000):JM P F.O0 F.Pq n:=by
 intro id km most ss v set St K X M hv hs hm h1 h2 h3;refine S.P2d.ET S.hm rfl ?_;exact ZhP M (S.P63 set (fun x hx=>⟨(hv.1 x hx).1,by have:=(hv.1 x hx).2;omega⟩) (by have:=hv.2;omega)) hv.nn (fun s h=>(hs.v s h).nn) hs.l hm h1 h2 h3
theorem P68:Zti P F.H6 F.Dq F.Dm:=⟨S.P4O,S.sort,S.comp,S.EW,S.EU⟩
theorem P6f(n:Net)(R:nR n):Sv P F.KY n:=fun set s hv=>S.P2v.P5Y S.hm rfl (Zez R S.P68 set (by have:=hv.2;omega) hv.1 s)
theorem P6k(n:Net)(h:xW n)(s:Int):aO P F.HZ [aj s,.bN (o8 n) 0] (aH (n.last.contains s)):=S.P2c.pure S.hm rfl (Zcl n s (S.P4O n.last s h.ok.last))
omit S in
theorem P56(n:Net):∀y∈[AV.bN (o8 n) 0],aY y:=aL (.bN _ _ (Zci n)) aU
theorem P6j(n:Net)(h:xW n)(a:List Int)(ha:Len a):aO P F.EI [aA a,.aP F.HZ [] [.bN (o8 n) 0]] (aH (a.any fun s=>n.last.contains s)):=
 S.O7 a _ F.HZ _ ha (P56 n) (fun x _=>S.P6k n h x)
theorem P5V(n:Net)(h:xW n):RH P F.KX n:=fun set hv=>S.P2u.pure S.hm rfl (Zey n set (S.P6j n h set (ZmO hv.2 (by omega))))
theorem P67:MP P F.KF 1 (.v (.int .i64 0)):=Zi5 S.hm (by omega) rfl (by omega) S.Uy
theorem P5z(l:List Int)(hl:l.length≤1000):aO P F.Dn [.sl true [.sl true [aj 0],aA l]] (aA (0::l)):=by
 have:=V8 S.hm S.P67 (by omega) S.Uw (enc:=aj) aS (fun _=>rfl) [(true,[0]),(false,l)] (by simp) (by simp;omega);simpa[aA] using this
theorem P5u(n:Net)(h:xW n)(most:Int)(kd:Kd)(fb:FuncId)(hb:nR n→HB P fb n kd):aO P F.K9 [jy n,aj most,.aP fb [] []] (mo (mY kd n most)):=by
 have:=ZpA S.hm S.m1 S.P6g S.P2J S.P3t (most:=most) (S.P5c n h) (fun R=>S.P6l n h.follow) (fun R=>hb ((AQ n).mp R)) (fun _=>S.P5V n h);rw[Zm1] at this;exact this.pure (aL (BQ n) (aL (aS _) (aL (.aP _ _ _ aU aU) aU))) (BS _)
theorem P5w(n:Net)(h:xW n)(most:Int):aO P F.K8 [jy n,aj most] (mo (mY .tails n most)):=
 S.P46.pure S.hm rfl (Z9j (S.P5u n h most .tails F.O6 (fun R=>.tails S.hm R (S.P6f n R) S.P3s S.P5z)))
theorem P5s(n:Net)(h:xW n)(most:Int):aO P F.K7 [jy n,aj most] (mo (mY .heads n most)):=
 S.P44.pure S.hm rfl (Z9j (S.P5u n h most .heads F.O4 (fun R=>.heads S.hm (S.P6f n R) (S.P5V n h) S.P3p)))
theorem P64{d:aD}(R:bD d){c:List Int}(hcl:c.length=d.next.length)(hc:∀n∈c,xS n)(s:Nat)(hs:s < d.next.length):aO P F.Ld [aW d,aA c,aj s] (zh (uZ d c s)):=
 Zo3 S.hm S.P3V S.P5r S.Zn S.itoa R hcl hc hs
theorem P5b{d:aD}(R:bD d):aO P F.O3 [aW d] (aA (vS d)):=
 S.P2K.rX S.hm rfl (ZfA R (S.P34.rX S.hm rfl (Zhi d (by have:=R.fin;have:=R.n2;omega))) (fun c hcl hc=>S.P3u.rX S.hm rfl (Zkf R hcl hc (S.P64 R hcl hc))))
theorem P5t(d:aD)(ok:r9 d):aO P F.Pj [aW d] (mo (wN d)):=S.P4n.rX S.hm rfl (ZeL (S.K6 d ok) S.P5b)
theorem P5Q(b a:aD)(most:Int)(ob:r9 b)(oa:r9 a):aO P F.Pf [aW b,aW a,aj most] (mo (lG b a most)):=
 S.P4y.rX S.hm rfl (ZhK b a most (S.K6 b ob) (S.K6 a oa) (fun o ss x ho hl=>Zn8 S.hm S.P1Z b a o ss ho hl x)
  (fun Rb Ra hs x s hx hlt=>S.P1Y.rX S.hm rfl (Zh6 Rb Ra hs x hx s hlt)))
end AL
theorem Rm:r9 Dg:=⟨by simp[Dg,Len],by simp[Dg,Len],by simp[Dg],by simp[Dg]⟩
theorem Zjv(kd:Kd)(p:aM)(sg most:Int):r9 (lH kd p sg most).1:=by
 unfold lH;split
 ·exact ZsH _ _ _
 ·exact Rm
theorem ZpB(b a:aD)(most:Int):r9 (lG b a most).1:=by
 cases h:lG b a most with
 | mk d e=>
  by_cases he:e=0
  ·subst he;exact Zgy (WI h).1.R
  ·unfold lG at h
   split at h
   ·split at h
    ·cases h;exact(he rfl).elim
    ·cases h;exact Rm
   ·cases h;exact Rm
namespace AL
variable{P:Program}{F:Hu}(S:AL P F)
include S
theorem P5T(p:aM)(hp:uP p)(sg most:Int):aO P F.K5 [jf p,aj sg,aj most,.aP F.K8 [] []] (mo (lH .tails p sg most)):=
 S.U9.rX S.hm rfl (ZgH p sg most .tails (S.P5v p hp sg) (S.P5w _ (Zbg p sg) most))
theorem P5S(p:aM)(hp:uP p)(sg most:Int):aO P F.K5 [jf p,aj sg,aj most,.aP F.K7 [] []] (mo (lH .heads p sg most)):=
 S.U9.rX S.hm rfl (ZgH p sg most .heads (S.P5v p hp sg) (S.P5s _ (Zbg p sg) most))
theorem P5R(r:oF)(hb:uP r.before)(ha:uP r.after)(sg most:Int):aO P F.Vi [qG r,aj sg,aj most] (mo (xX r sg most)):=
 S.P4p.rX S.hm rfl (Zgg r sg most (S.P5T r.before hb sg most) (S.P5S r.after ha sg most) (fun _ _=>S.P5Q _ _ most (Zjv _ _ _ _) (Zjv _ _ _ _)) (fun _ _ _=>S.P5t _ (ZpB _ _ _)))
theorem Vk(r:oF)(hb:yY r.before)(ha:yY r.after)(m:Int)(h0:-1≤m)(h1:m≤100):aO P F.UE [qG r,aj m] (aH (FU r m)):=
 S.P1Q.rX S.hm rfl (ZjN r m (Xk S.hm S.UU r.before m hb h0 h1) (Xk S.hm S.UU r.after m ha h0 h1))
theorem P5x(s:List Int)(p:Int)(hs:s.length≤1000000):aO P F.Ia [aA s,aj p] (aA (jg s p)):=
 S.Va.pure S.hm rfl (ZcM s p hs (S.O7 s vG F.KV [] (by unfold Len;omega) aU (fun x _=>S.Vb.pure S.hm rfl (Z7A _ x))))
theorem P5C(s:List Int)(p:Int)(hs:s.length≤1000000):xH P F.Ia [aA s,aj p] (aA (jg s p)):=
 S.Va.P5Y S.hm rfl (Z8b s p hs (S.O7 s vG F.KV [] (by unfold Len;omega) aU (fun x _=>S.Vb.pure S.hm rfl (Z7A _ x))))
omit S in
theorem P5j(s:List Int)(p:Int)(hs:s.length≤1000000):Len (jg s p):=by
 have:(jg s p).length≤s.length:=by
  unfold jg;split
  ·rw[tV];exact Nat.le_refl _
  ·simp
 unfold Len;omega
theorem cAt(d:aD)(ok:r9 d)(l:List Int)(hl:l.length≤1000000)(p:Int):aO P F.Pk [aW d,aA l,aj p] (aH (yC d l p)):=
 S.P4o.rX S.hm rfl (Zrp d l p (S.P5x l p hl) (S.P4h d ok _ (P5j l p hl)))
end AL
end Go.Rf
namespace Go.Proofs.YtdmcjhnbmgmgoaaGreatDoor
open Go.ChangeShapes Go.WideShapes Go.ChangeAt Go.RowKit Go.Rf
theorem Af:Tryz.prog.follows .mixedOrders=true:=by kernel_rfl
theorem ZtM:Is Tryz.prog 80 (E8 1 8 (.v (.int .i64 0))) [2] 1:=.k Tryz.func80 (by kernel_rfl)
theorem Ll:wW Tryz.prog 80 (rZ 1 8 (.v (.int .i64 0))) [.t 2] 1:=Zi4 Af ZtM
noncomputable def Nq:Tab:=Zl Tryz.prog (fun f=>bif Nat.beq f 80 then some (rZ 1 8 (.v (.int .i64 0)),[.t 2],1) else none) (fun _=>none)
theorem ZqX:zX Tryz.prog Nq:=by
 refine ZsW Af (fun f p h=>?_) (fun f g args v h=>by cases h);cases hb:Nat.beq f 80 with
 | true=>
  rw[hb] at h;have:f=80:=Nat.eq_of_beq_eq_true hb;subst this;cases h;exact @Ll
 | false=>rw[hb] at h;cases h
theorem ZnD:Ep Nq (Aj Nq 500) 66 [.sl true []]=some (.aN [],true):=by kernel_rfl
theorem ZnA:Ep Nq (Aj Nq 500) 67 [.sl true []]=some (.sl true [],true):=by kernel_rfl
theorem Zq2:aO Tryz.prog 66 [.sl true []] (.aN []):=.Vm Af ZqX 500 ZnD
theorem Zq1:aO Tryz.prog 67 [.sl true []] (.sl true []):=.Vm Af ZqX 500 ZnA
theorem ZsO:Cz Tryz.prog 66:=ZvR
theorem ZsL:Cy Tryz.prog 67:=ZvP
theorem ZuO:Bq Tryz.prog 133 135 136 167 5:=ZwE
theorem ZsM:Dj Tryz.prog 134 (fun n=>0≤n∧n < 10000):=ZvQ
theorem ZnF:Ba Tryz.prog 132 167:=by unfold Ba;kernel_rfl
theorem ZnG:Ba Tryz.prog 115 167:=by unfold Ba;kernel_rfl
theorem Zw4:JV Tryz.prog 48=some (F7 81 82 84 83):=by kernel_rfl
theorem ZsN:Ga Tryz.prog 82=some (5,2,Fy 122,16):=by kernel_rfl
def fnM:Hu:={ OV:=18,P2i:=13,P2n:=12,U2:=35,U3:=36,EN:=38,UN:=70,OG:=41,ES:=54,K4:=88,O5:=90,OH:=89,EI:=72,Uv:=114,KO:=102,Pb:=73,K3:=44,OC:=131,H6:=86,OD:=113,Dp:=80,KF:=85,Dn:=50,AB:=79,Pm:=111,O9:=81,Le:=76,KW:=77,KZ:=78,OI:=105,O1:=106,OT:=108,OU:=107,O8:=109,KU:=110,Li:=47,OW:=58,HY:=60,KQ:=59,Ux:=93,OZ:=94,Uz:=95,U4:=30,UZ:=116,OO:=96,UM:=137,UF:=117,Lf:=132,O0:=112,U8:=83,Vg:=84,KY:=51,KX:=53,HZ:=87,K8:=26,O6:=49,K7:=27,O4:=52,UQ:=118,UO:=119,OX:=98,U0:=97,OY:=61,UC:=31,UA:=32,Vd:=91,Ld:=115,Ve:=92,O3:=57,Pj:=29,UD:=99,UW:=63,U5:=34,UL:=55,UK:=56,Pf:=28,UG:=62,U6:=33,K5:=25,Vi:=10,P2R:=11,OQ:=24,UE:=9,KV:=71,Ia:=43,OP:=42,Pk:=16,U7:=17,Dq:=66,Dm:=67,strconv_Itoa:=134,OJ:=133,OM:=135,OE:=136,K9:=48,Vf:=82,Pq:=122,Pt:=167 }
theorem BH:AL Tryz.prog fnM:={ hm:=Af,P3g:=.k Tryz.func18 (by kernel_rfl),P2Y:=.k Tryz.func13 (by kernel_rfl),P3j:=.k Tryz.func12 (by kernel_rfl),P2V:=.k Tryz.func35 (by kernel_rfl),P2X:=.k Tryz.func36 (by kernel_rfl),P30:=.k Tryz.func38 (by kernel_rfl),P3D:=.k Tryz.func70 (by kernel_rfl),P2F:=.k Tryz.func41 (by kernel_rfl),P45:=.k Tryz.func54 (by kernel_rfl),P3q:=.k Tryz.func88 (by kernel_rfl),P3r:=.k Tryz.func90 (by kernel_rfl),P0P:=.k Tryz.func89 (by kernel_rfl),P0W:=.k Tryz.func72 (by kernel_rfl),P10:=.k Tryz.func114 (by kernel_rfl),Uu:=.k Tryz.func102 (by kernel_rfl),P4x:=.k Tryz.func73 (by kernel_rfl),P3o:=.k Tryz.func44 (by kernel_rfl),P1p:=.k Tryz.func131 (by kernel_rfl),P1a:=.k Tryz.func86 (by kernel_rfl),P1q:=.k Tryz.func113 (by kernel_rfl),P1o:=.k Tryz.func80 (by kernel_rfl),Uy:=.k Tryz.func85 (by kernel_rfl),Uw:=.k Tryz.func50 (by kernel_rfl),P4z:=.k Tryz.func79 (by kernel_rfl),P4q:=.k Tryz.func111 (by kernel_rfl),P47:=.k Tryz.func81 (by kernel_rfl),P48:=.k Tryz.func76 (by kernel_rfl),P2j:=.k Tryz.func77 (by kernel_rfl),P2x:=.k Tryz.func78 (by kernel_rfl),P11:=.k Tryz.func105 (by kernel_rfl),P2f:=.k Tryz.func106 (by kernel_rfl),P2w:=.k Tryz.func108 (by kernel_rfl),P2y:=.k Tryz.func107 (by kernel_rfl),P3W:=.k Tryz.func109 (by kernel_rfl),P2e:=.k Tryz.func110 (by kernel_rfl),P4R:=.k Tryz.func47 (by kernel_rfl),P3h:=.k Tryz.func58 (by kernel_rfl),P3C:=.k Tryz.func60 (by kernel_rfl),P2k:=.k Tryz.func59 (by kernel_rfl),P2b:=.k Tryz.func93 (by kernel_rfl),P3A:=.k Tryz.func94 (by kernel_rfl),P2l:=.k Tryz.func95 (by kernel_rfl),P3Q:=.k Tryz.func30 (by kernel_rfl),P2O:=.k Tryz.func116 (by kernel_rfl),P2W:=.k Tryz.func96 (by kernel_rfl),P3B:=.k Tryz.func137 (by kernel_rfl),P3i:=.k Tryz.func117 (by kernel_rfl),P4m:=.k Tryz.func132 (by kernel_rfl),P2d:=.k Tryz.func112 (by kernel_rfl),P2J:=.k Tryz.func83 (by kernel_rfl),P3t:=.k Tryz.func84 (by kernel_rfl),P2v:=.k Tryz.func51 (by kernel_rfl),P2u:=.k Tryz.func53 (by kernel_rfl),P2c:=.k Tryz.func87 (by kernel_rfl),P46:=.k Tryz.func26 (by kernel_rfl),P3s:=.k Tryz.func49 (by kernel_rfl),P44:=.k Tryz.func27 (by kernel_rfl),P3p:=.k Tryz.func52 (by kernel_rfl),P3F:=.k Tryz.func118 (by kernel_rfl),P3E:=.k Tryz.func119 (by kernel_rfl),P3k:=.k Tryz.func98 (by kernel_rfl),P2P:=.k Tryz.func97 (by kernel_rfl),P3l:=.k Tryz.func61 (by kernel_rfl),P31:=.k Tryz.func31 (by kernel_rfl),P2Z:=.k Tryz.func32 (by kernel_rfl),P34:=.k Tryz.func91 (by kernel_rfl),P3V:=.k Tryz.func115 (by kernel_rfl),P3u:=.k Tryz.func92 (by kernel_rfl),P2K:=.k Tryz.func57 (by kernel_rfl),P4n:=.k Tryz.func29 (by kernel_rfl),P32:=.k Tryz.func99 (by kernel_rfl),P2G:=.k Tryz.func63 (by kernel_rfl),P3R:=.k Tryz.func34 (by kernel_rfl),P1Z:=.k Tryz.func55 (by kernel_rfl),P1Y:=.k Tryz.func56 (by kernel_rfl),P4y:=.k Tryz.func28 (by kernel_rfl),P3m:=.k Tryz.func62 (by kernel_rfl),P3S:=.k Tryz.func33 (by kernel_rfl),U9:=.k Tryz.func25 (by kernel_rfl),P4p:=.k Tryz.func10 (by kernel_rfl),P3U:=.k Tryz.func11 (by kernel_rfl),UU:=.k Tryz.func24 (by kernel_rfl),P1Q:=.k Tryz.func9 (by kernel_rfl),Vb:=.k Tryz.func71 (by kernel_rfl),Va:=.k Tryz.func43 (by kernel_rfl),P33:=.k Tryz.func42 (by kernel_rfl),P4o:=.k Tryz.func16 (by kernel_rfl),P3T:=.k Tryz.func17 (by kernel_rfl),m1:=Zw4,P6g:=ZsN,P5q:=ZnF,P5r:=ZnG,sort:=ZsO,comp:=ZsL,EW:=Zq2,EU:=Zq1,Zn:=ZuO,itoa:=ZsM }
end Go.Proofs.YtdmcjhnbmgmgoaaGreatDoor
namespace Go.Proofs.YtdmcjhnbmgmgoaaGreatDoor
open Go.ChangeShapes Go.WideShapes Go.ChangeAt Go.RowKit Go.Rf
theorem ZwI:Is Tryz.prog 37 (EZ 54 64 65 66 67 43 44) [2,3,4] 1:=⟨Tryz.f37,Tryz.f37.body.getD .skip,Tryz.func37,by kernel_rfl,by kernel_rfl,by kernel_rfl,by kernel_rfl,by rw[Tryz.ntmps37];decide⟩
theorem Zgm{n:Net}(h:Ub n=true):xW n:=by
 simp only[Ub,Bool.and_eq_true,List.all_eq_true,Nat.ble_eq] at h;obtain⟨⟨h1,h2⟩,h3⟩:=h;exact⟨h1,by omega,by omega⟩
def ZvG:List (Nat×AC×List RV×Nat):=[(80,rZ 1 8 (.v (.int .i64 0)),[.t 2],1),(37,EZ 54 64 65 66 67 43 44,[.t 2,.t 3,.t 4],1)]
def ZvX:List (Nat×(List AV→Option AV)):=[(26,Uk .tails),(27,Uk .heads),(28,x3m fun b a m=>mo (lG b a m)),(29,x1 fun d=>mo (wN d))]
noncomputable def tab:Tab:=SX Tryz.prog (F6 ZvG) (fun _=>none) (F6 ZvX)
theorem Zw8:zX Tryz.prog tab:=
 ZsT Af (all_cons @Ll (all_cons (ZwI.P6i Af) Zl9))
  (all_cons (fun _ _ h=>ZqZ (fun n m hk=>BH.P5w n (Zgm hk) m) h) (all_cons (fun _ _ h=>ZqZ (fun n m hk=>BH.P5s n (Zgm hk) m) h)
   (all_cons (fun _ _ h=>Zv3 (fun b a m hb ha=>BH.P5Q b a m hb ha) h) (all_cons (fun _ _ h=>Zwa (fun d hd=>BH.P5t d hd) h) Zl9))))
theorem Zs3:Ep tab (Aj tab 500) 8 []=some (aH true,true):=by kernel_rfl
theorem ZtB:aO Tryz.prog 8 [] (aH true):=.Vm Af Zw8 500 Zs3
end Go.Proofs.YtdmcjhnbmgmgoaaGreatDoor
namespace Go.Rf
open Go.RowKit
theorem ZuT{p:aM}{m:Nat}(h:uD p≤m)(hm:m≤100000):wU p=uD p:=by unfold wU;omega
structure Ztq(r:oF)(m:Nat):Prop where
 b:uP r.before
 a:uP r.after
 nb:uD r.before≤m
 na:uD r.after≤m
theorem Zq7{r:oF}{m:Nat}(hb:yY r.before)(ha:yY r.after)(hm:m≤100)(h:FU r m=true):Ztq r m:=by
 simp only[FU,Bool.and_eq_true,decide_eq_true_eq] at h;obtain⟨b1,b2⟩:=Wq r.before m hb (by omega) h.1;obtain⟨a1,a2⟩:=Wq r.after m ha (by omega) h.2;exact⟨b1,a1,by omega,by omega⟩
theorem Zbb{p:aM}{n:Int}(h1:1≤n)(h2:n≤400)(hp:uD p≤300):qU p n=(kX p n,0):=by
 have:=ZuT (m:=300) hp (by omega);unfold qU;rw[if_neg (by omega),if_neg (by omega)]
theorem Zjk(kd:Kd){N:Net}{most:Int}(R:nR N)(h1:1≤most)(h2:most≤3000):(mY kd N most).2=0∨(mY kd N most).2=13:=by
 unfold mY;rw[if_pos ⟨(AQ _).mpr R,h1,h2⟩];split
 ·exact .inl rfl
 ·exact .inr rfl
theorem ZmS{b a:aD}{most:Int}(Rb:bD b)(Ra:bD a)(hs:b.signs=a.signs)(aav:b.signs≤200)(h1:1≤most)(h2:most≤3000):(lG b a most).2=0∨(lG b a most).2=13:=by
 unfold lG;rw[if_pos ⟨(uW b).mpr Rb,(uW a).mpr Ra,hs,aav,h1,h2⟩];split
 ·exact .inl rfl
 ·exact .inr rfl
theorem Xb{x:aD×Int}{f:aD→aD×Int}(hx:x.2=0∨x.2=13)(hf:x.2=0→(f x.1).2=0∨(f x.1).2=13):(Bo x f).2=0∨(Bo x f).2=13:=by
 unfold Bo;split
 ·rename_i h;exact hf h
 ·exact hx
theorem Zko{r:oF}{n most:Int}(h1:1≤n)(h2:n≤200)(m1:1≤most)(m2:most≤3000)(hb:uD r.before≤300)(ha:uD r.after≤300):(xX r n most).2=0∨(xX r n most).2=13:=by
 have nb:=Zbb (p:=r.before) h1 (by omega) hb;have na:=Zbb (p:=r.after) h1 (by omega) ha;have cb:jH r.before≤300:=Nat.le_trans (Ri _) hb;have ca:jH r.after≤300:=Nat.le_trans (Ri _) ha;unfold xX;rw[if_neg (by omega)];have sb:lH .tails r.before n most=mY .tails (kX r.before n) most:=by unfold lH;rw[nb];simp
 have sa:lH .heads r.after n most=mY .heads (kX r.after n) most:=by unfold lH;rw[na];simp
 rw[sb,sa];refine Xb (Zjk _ (Qq h1 (by omega) cb).R m1 m2) (fun e1=>Xb (Zjk _ (Qq h1 (by omega) ca).R m1 m2) (fun e2=>?_));have eb:mY .tails (kX r.before n) most=((mY .tails (kX r.before n) most).1,0):=by rw[←e1]
 have ea:mY .heads (kX r.after n) most=((mY .heads (kX r.after n) most).1,0):=by rw[←e2]
 obtain⟨Rb,sb',_⟩:=Ze4 h1 h2 cb eb;obtain⟨Ra,sa',_⟩:=Ze3 h1 h2 ca ea;refine Xb (ZmS Rb Ra (by rw[sb',sa']) (by omega) m1 m2) (fun e3=>?_);have em:lG (mY .tails (kX r.before n) most).1 (mY .heads (kX r.after n) most).1 most=((lG (mY .tails (kX r.before n) most).1 (mY .heads (kX r.after n) most).1 most).1,0):=by rw[←e3]
 have:=(WI em).1.R;left;rw[wN,if_pos ((uW _).mpr this)]
theorem ZmW(r:oF)(n most:Int):r9 (xX r n most).1:=by
 cases h:xX r n most with
 | mk d e=>
  by_cases he:e=0
  ·subst he;exact Zgy (ZdM h).1.R
  ·have:d=Dg:=by
    unfold xX at h;split at h
    ·cases h;rfl
    unfold Bo at h;split at h
    ·split at h
     ·dsimp only at h
      split at h
      ·unfold wN at h
       split at h
       ·cases h;exact(he rfl).elim
       ·cases h;rfl
      ·cases h;rfl
     ·cases h;rfl
    ·cases h;rfl
   subst this;exact Rm
theorem ZpS{x:aD×Int}(h:x.2=0):x=(x.1,0):=by rw[←h]
end Go.Rf
namespace Go.Proofs.YtdmcjhnbmgmgoaaGreatDoor
open Go.ChangeShapes Go.WideShapes Go.ChangeAt Go.RowKit Go.Rf
def tyB:KC:={ i:=3,b:=4,s:=9,is:=23,rg:=212,rgs:=22,p:=26,ps:=24,ru:=28,rus:=0,nd:=0,nds:=0,it:=0,its:=0,vr:=0,vrs:=0,ss:=0,bk:=0 }
def tyD:Ul:={ i:=3,b:=4,is:=23,Z4:=31,bs:=32,d:=34 }
theorem ZuZ:FV Tryz.prog tyB=true:=by kernel_rfl
theorem ZuY:Yi Tryz.prog tyD=true:=by kernel_rfl
theorem ZvK:∀n,iW Tryz.prog n 28 qG M9:=ZtT (T:=tyB) ZuZ (by kernel_rfl) (by kernel_rfl)
theorem ZvJ:∀n,iW Tryz.prog n 23 aA Tn:=ZtR (T:=tyD) ZuY
theorem Ztw:∀x:oF,qG x=.agg ((qG x).cells):=fun x=>by unfold qG;rfl
theorem Zuo:∃fs,Tryz.prog.underlying 28=some (.struct fs)∨∃n e,Tryz.prog.underlying 28=some (.array n e):=⟨(match Tryz.prog.underlying 28 with | some (.struct fs)=>fs | _=>#[]),.inl (by kernel_rfl)⟩
abbrev M0:List (String×DataW Unit):=[("math/bits.deBruijn32tab",Rows.laid_math_bits_deBruijn32tab),("math/bits.deBruijn64tab",Rows.laid_math_bits_deBruijn64tab),("internal/strconv.uint64pow10",Rows.laid_internal_strconv_uint64pow10)]
theorem Zp9(os:Os)(args:Array Value):laidMetH Tryz.prog M0 ((World.doorLaid Tryz.prog 400 os).forCall (fun _ _=>0) ⟨#[],args,[]⟩).memory:=
 laidMetH_of_parts3 (fuel:=8) (laidMet_of_run' 8 (by kernel_rfl) (by kernel_rfl)) (by kernel_rfl) (by kernel_rfl)
theorem ZwD(W:World)(h:laidMetH Tryz.prog M0 W):kC Tryz.prog (E0 W).H:=
 Zpn h (by kernel_rfl) (List.mem_cons_of_mem _ (List.mem_cons_of_mem _ (List.mem_singleton.mpr (by kernel_rfl)))) (g:=0) (t:=194) (e:=162) (n:=20) (by kernel_rfl) (by kernel_rfl) (by kernel_rfl) (by kernel_rfl) (by kernel_rfl) (by kernel_rfl)
theorem Vk(r:oF)(g:M9 r)(m:Int)(h0:-1≤m)(h1:m≤100):aO Tryz.prog 9 [qG r,Rf.aj m] (aH (FU r m)):=BH.Vk r g.b.good g.a.good m h0 h1
end Go.Proofs.YtdmcjhnbmgmgoaaGreatDoor
namespace Go.Rf
structure Uo where
 marked:FuncId
 phased:FuncId
 Ie:FuncId
 Pg:FuncId
 Lp:FuncId
 halves:FuncId
 Lv:FuncId
 Lj:FuncId
 witness:FuncId
 places:FuncId
 Ph:FuncId
structure SeP(P:Program)(F:Hu)(G:Uo):Prop where
 marked:Is P G.marked (EZ F.ES G.phased G.Ie F.Dq F.Dm F.Ia F.K3) [2,3,4] 1
 phased:lN P G.phased VJ [.c 2 (some 2)] 1
 Ie:Is P G.Ie VF [2] 1
 Pg:Is P G.Pg (Z8m F.EN G.Lp G.halves F.OP F.OG) [2,3,4] 1
 Lp:Is P G.Lp (Z8o G.Lv G.Lj) [4] 2
 halves:Is P G.halves Z8n [6] 3
 Lv:Is P G.Lv Z9z [4] 2
 Lj:Is P G.Lj (Z8f G.halves) [4] 2
 witness:Is P G.witness (VB G.marked) [2,3,4] 1
 places:Is P G.places (VN F.Pk) [4] 2
 Ph:Is P G.Ph (Z8p F.U7) [4] 2
theorem Zgd(d:aD):(jG d).length≤9000:=by
 by_cases hR:lS d=true
 ·exact ZpC ((uW d).mp hR)
 ·have hno:nZ d=false:=by simp only[Bool.not_eq_true] at hR;simp[nZ,hR]
  rw[(ZmT hno).1];simp
namespace AL
variable{P:Program}{F:Hu}{G:Uo}(S:AL P F)(T:SeP P F G)
include S
include T
theorem P5B(d:aD)(ok:r9 d):aO P G.marked [aW d] (.aN [aA (jG d),aj (yZ d),aH (nZ d)]):=
 T.marked.pure S.hm rfl (Zbr S.sort S.comp d (S.K6 d ok) (fun R=>T.phased.pure S.hm rfl (Zbs d R)) (fun R=>T.Ie.pure S.hm rfl (Z9M _ _ (SV R)))
  (fun s p hs=>⟨S.P5x s p hs,S.P5C s p hs⟩) (fun l hl=>S.P4h d ok l hl))
theorem P5k(d:aD)(ok:r9 d):aO P G.witness [aW d] (.aN [aA (jG d),aj (yZ d),aH (nZ d)]):=
 T.witness.pure S.hm rfl (Zfo d _ _ _ (S.P5B T d ok))
theorem P5d(d:aD)(ok:r9 d)(l:List Int)(hl:l.length≤100000):aO P G.places [aW d,aA l] (aA (qC d l l.length)):=
 T.places.rX S.hm rfl (Zbq d l hl (fun i _=>S.cAt d ok l (by omega) i))
end AL
end Go.Rf
namespace Go.Proofs.YtdmcjhnbmgmgoaaGreatDoor
open Go.ChangeShapes Go.WideShapes Go.ChangeAt Go.RowKit Go.Rf
def fnP:Uo:={ marked:=37,phased:=64,Ie:=65,Pg:=15,Lp:=39,halves:=40,Lv:=68,Lj:=69,witness:=14,places:=19,Ph:=20 }
theorem Z9:SeP Tryz.prog fnM fnP:={ marked:=.k Tryz.func37 (by kernel_rfl),phased:=.k Tryz.func64 (by kernel_rfl),Ie:=.k Tryz.func65 (by kernel_rfl),Pg:=.k Tryz.func15 (by kernel_rfl),Lp:=.k Tryz.func39 (by kernel_rfl),halves:=.k Tryz.func40 (by kernel_rfl),Lv:=.k Tryz.func68 (by kernel_rfl),Lj:=.k Tryz.func69 (by kernel_rfl),witness:=.k Tryz.func14 (by kernel_rfl),places:=.k Tryz.func19 (by kernel_rfl),Ph:=.k Tryz.func20 (by kernel_rfl) }
end Go.Proofs.YtdmcjhnbmgmgoaaGreatDoor
namespace Go.Rf
theorem Zge{p:aM}{l:List Int}{K a b:Nat}(h:nO p (l.take K) a b=true):nO p l a b=true:=by
 obtain⟨h1,h2,h3⟩:=ZmV h;have hb:b≤(l.take K).length:=by omega
 have hab:a≤b:=by omega
 rw[←IX p (l.take K) a b hab hb] at h;rw[List.length_take] at hb;rw[List.take_take,Nat.min_eq_left (by omega)] at h;rw[←IX p l a b hab (by omega)];exact h
theorem ZmU{r:oF}{l:List Int}{K p:Nat}(h:JW r (l.take K) p=true):JW r l p=true:=by
 simp only[JW,Bool.and_eq_true,List.any_eq_true,List.mem_range] at h ⊢;obtain⟨⟨i,h1,h2⟩,j,h3,h4⟩:=h;rw[List.length_take] at h3;exact⟨⟨i,h1,Zge h2⟩,j,by omega,Zge h4⟩
theorem P9{d:aD}{l:List Int}{k:Nat}{x:Int}:x∈qC d l k↔∃i:Nat,i < k∧yC d l (i:Nat)=true∧x=(i:Int):=by
 simp only[qC,List.mem_map,List.mem_filter,List.mem_range];constructor
 ·rintro⟨i,⟨h1,h2⟩,rfl⟩;exact⟨i,h1,h2,rfl⟩
 ·rintro⟨i,h1,h2,rfl⟩;exact⟨i,⟨h1,h2⟩,rfl⟩
theorem Zf0(d:aD)(l:List Int)(k:Nat):(qC d l k).Pairwise (· < ·):=Zgi k
section
variable{d:aD}{n:Int}{r:oF}{F:List Int→Nat→Bool}
theorem ZhR(M:sI d n (JW r)){l:List Int}(hl:nX n l){K:Nat}(hK:K≤l.length):∀x∈qC d (l.take K) (l.take K).length,x∈qC d l l.length:=by
 intro x hx;rw[P9] at hx ⊢;obtain⟨i,h1,h2,rfl⟩:=hx;have hlK:nX n (l.take K):=fun x hx=>hl x (List.mem_of_mem_take hx)
 rw[M.at_ hlK] at h2;simp only[Bool.and_eq_true,decide_eq_true_eq] at h2;obtain⟨⟨g1,g2⟩,g3⟩:=h2;rw[List.length_take] at h1;refine⟨i,by omega,?_,rfl⟩;rw[M.at_ hl];simp only[Bool.and_eq_true,decide_eq_true_eq];exact⟨⟨g1,by omega⟩,ZmU g3⟩
theorem Zno(M:sI d n F){l:List Int}(hl:nX n l):∀x∈qC d l l.length,1≤x∧x < l.length:=by
 intro x hx;rw[P9] at hx;obtain⟨i,h1,h2,rfl⟩:=hx;rw[M.at_ hl] at h2;simp only[Bool.and_eq_true,decide_eq_true_eq] at h2;exact h2.1
theorem Zv0(M:sI d n F)(hok:nZ d=true):yC d (jG d) (yZ d:Nat)=true:=by
 have hev:d.signs % 2=0:=by rw[M.s];omega
 have hp:=V4 (P7 M.R hev hok);unfold yC;rw[Bool.and_eq_true,decide_eq_true_eq];refine⟨?_,hp.acc⟩;have hv:=((Bc M.R _).mp hp.acc).2;by_cases h0:jg (jG d) (yZ d:Nat)=[]
 ·rw[h0] at hv
  obtain⟨l,q,_,g2,g3,g4,_⟩:=(M.acc [] (fun x hx=>by simp at hx)).mp hv;have:=congrArg List.length g4;rw[tV] at this;have e0:([]:List Int).length=0:=rfl;omega
 ·exact List.length_pos_iff.mpr h0
theorem Zv1(M:sI d n F){l:List Int}(hl:nX n l)(hok:nZ d=false):qC d l l.length=[]:=by
 cases h:qC d l l.length with
 | nil=>rfl
 | cons x xs=>
  have hx:x∈qC d l l.length:=by rw[h];simp
  rw[P9] at hx;obtain⟨i,h1,h2,rfl⟩:=hx;rw[M.at_ hl] at h2;simp only[Bool.and_eq_true,decide_eq_true_eq] at h2;have:=M.P5X.mpr ⟨l,i,hl,by omega,by omega,by simpa using h2.2⟩;rw[hok] at this;cases this
theorem Zo4(M:sI d n F){l:List Int}(hl:nX n l)(hok:nZ d=true):qC d l l.length=[]∨(jG d).length≤l.length:=by
 cases h:qC d l l.length with
 | nil=>exact .inl rfl
 | cons x xs=>
  refine .inr ?_;have hx:x∈qC d l l.length:=by rw[h];simp
  rw[P9] at hx;obtain⟨i,h1,h2,rfl⟩:=hx;have hev:d.signs % 2=0:=by rw[M.s];omega
  unfold yC at h2;simp only[Bool.and_eq_true,decide_eq_true_eq] at h2;obtain⟨_,h3⟩:=Zj3 M.R hev (signs:=l) (place:=i) (List.length_pos_iff.mp h2.1) h2.2;rcases h3 _ (V4 (P7 M.R hev hok)) with h3 | h3
  ·by_cases hle:(jG d).length≤l.length
   ·exact hle
   ·rw[ZjT (by omega)] at h3
    simp only[decide_eq_true_eq] at h3;omega
  ·rw[h3.1];exact Nat.le_refl _
end
end Go.Rf
namespace Go.Rf
open Go.RowKit
attribute [local simp] oP oM oH pU pK pR pO oO qw pQ oI pI jv jE jF jK qm qQ qO qN qH qP oZ oU qy qd qx qK qJ qF qA qg qz qM qL oQ lQ pV qh qj pJ pG dN gL fJ gJ ig fI gK iq gX gV gY eZ gQ gZ gP d9 eF gU iN iK iM iL iO gD fM fH dZ fQ fU fV fP fE iH iw gT iF iC iE iD iG iI iA gu fF fG fK gy dx dL fq iB iJ ex au bS dM dY bF bJ aG bf dU eY dQ fO gN gM iy gW bO dw dz eD eu fZ dR bC pz oG dD dJ pW pE ql oK eB eX eP eU dW dh dS dP dO bB qD oJ oL qc pF pY qb qp lZ pX qo qE S0 aj aH rA rD rO rz rC rG rJ rE rH rU rR rT rQ rM rP
def Zlw:AC:= (.loop (.seq (sq [rm 30 7,rm 31 1,ro 32 (.len (.t 31)),ro 33 (.bin .lss (.t 30) (.t 32))] (.cond (.t 33) .skip (.exit 0))) (.seq (.block 1 (sq [rm 36 1,rm 37 7,ro 38 (.aI 1 (.t 36) (.t 37)),rL 39 38,ro 40 (.bin .lss (.t 39) (ci 0)),rm 41 40,rg 42 41 false (.mv (.t 1)),rg 43 41 false (.mv (.t 7)),rg 44 41 false (.aI 1 (.t 42) (.t 43)),rg 45 41 false (.load none (.t 44)),rg 46 41 false (.bin .gtr (.t 45) (ci 2)),ro 47 (.pick (.t 41) (.c (.v (.bool true))) (.t 46))] (.cond (.t 47) (sq [ro 6 (.mv (.c (.v (.bool true))))] .ret) .skip))) (.reg none [rm 34 7,ro 35 (.bin .add (.t 34) (ci 1)),rm 7 35]))))
def Zlv:AC:= (.loop (.seq (sq [rm 77 15,rm 78 11,ro 79 (.len (.t 78)),ro 80 (.bin .lss (.t 77) (.t 79))] (.cond (.t 80) .skip (.exit 4))) (.seq (.block 5 (.reg (some []) [rm 83 14,rm 84 83,rg 85 84 false (.mv (.t 11)),rg 86 84 false (.mv (.t 15)),rg 87 84 false (.aI 1 (.t 85) (.t 86)),rg 88 84 false (.load none (.t 87)),rg 89 84 false (.mv (.t 12)),rg 90 84 false (.mv (.t 13)),rg 91 84 false (.aI 1 (.t 89) (.t 90)),rg 92 84 false (.load none (.t 91)),rg 93 84 false (.bin .eql (.t 88) (.t 92)),ro 94 (.pick (.t 84) (.c (.v (.bool true))) (.t 93)),rm 14 94])) (.reg none [rm 81 15,ro 82 (.bin .add (.t 81) (ci 1)),rm 15 82]))))
def Zlx:AC:= (.loop (.seq (sq [rm 71 13,rm 72 12,ro 73 (.len (.t 72)),ro 74 (.bin .lss (.t 71) (.t 73))] (.cond (.t 74) .skip (.exit 2))) (.seq (.block 3 (sq [ro 14 (.mv (.c (.v (.bool false))))] (.seq (sq [ro 15 (.mv (ci 0))] (.block 4 Zlv)) (sq [rm 95 14,ro 96 (.un .not (.t 95))] (.cond (.t 96) (sq [ro 6 (.mv (.c (.v (.bool false))))] .ret) .skip))))) (.reg none [rm 75 13,ro 76 (.bin .add (.t 75) (ci 1)),rm 13 76]))))
def Zly:AC:= (.loop (.seq (sq [rm 97 16,rm 98 11,ro 99 (.len (.t 98)),ro 100 (.bin .lss (.t 97) (.t 99))] (.cond (.t 100) .skip (.exit 6))) (.seq (.block 7 (.seq (.reg (some []) [rm 103 11,rm 104 16,ro 105 (.aI 1 (.t 103) (.t 104)),rL 106 105,ro 107 (.bin .lss (.t 106) (ci 1)),rm 108 107,rg 109 108 false (.mv (.t 11)),rg 110 108 false (.mv (.t 16)),rg 111 108 false (.aI 1 (.t 109) (.t 110)),rg 112 108 false (.load none (.t 111)),rg 113 108 false (.mv (.t 1)),rg 114 108 false (.len (.t 113)),rg 115 108 false (.bin .geq (.t 112) (.t 114)),ro 116 (.pick (.t 108) (.c (.v (.bool true))) (.t 115)),rm 117 116,rg 118 117 false (.mv (.t 16)),rg 119 117 false (.bin .gtr (.t 118) (ci 0)),rg 120 117 false (.mv (.t 119)),rg 121 120 true (.mv (.t 11)),rg 122 120 true (.mv (.t 16)),rg 123 120 true (.bin .sub (.t 122) (ci 1)),rg 124 120 true (.aI 1 (.t 121) (.t 123)),rg 125 120 true (.load none (.t 124)),rg 126 120 true (.mv (.t 11)),rg 127 120 true (.mv (.t 16)),rg 128 120 true (.aI 1 (.t 126) (.t 127)),rg 129 120 true (.load none (.t 128)),rg 130 120 true (.bin .geq (.t 125) (.t 129)),rg 131 117 false (.pick (.t 120) (.t 130) (.c (.v (.bool false)))),ro 132 (.pick (.t 117) (.c (.v (.bool true))) (.t 131))]) (.cond (.t 132) (sq [ro 6 (.mv (.c (.v (.bool false))))] .ret) .skip))) (.reg none [rm 101 16,ro 102 (.bin .add (.t 101) (ci 1)),rm 16 102]))))
def Vs(P39 P3f P5a P3n P4k Lb:FuncId):AC:= (sq [ro 3 (.box 11 (.t 0)),ro 6 (.mv (.c (.v (.bool false))))] (.seq (sq [rk 20 P39 [],ro 21 (.un .not (.t 20))] (.cond (.t 21) (sq [ro 6 (.mv (.c (.v (.bool false))))] .ret) .skip)) (.seq (sq [ro 22 (.load (some 11) (.t 3)),rk 23 P3f [(.t 22),(ci 9)],ro 24 (.un .not (.t 23)),rm 25 24,rg 26 25 false (.mv (.t 1)),rg 27 25 false (.len (.t 26)),rg 28 25 false (.bin .gtr (.t 27) (ci 8)),ro 29 (.pick (.t 25) (.c (.v (.bool true))) (.t 28))] (.cond (.t 29) (sq [ro 6 (.mv (.c (.v (.bool true))))] .ret) .skip)) (.seq (sq [ro 7 (.mv (ci 0))] (.block 0 Zlw)) (sq [ro 49 (.load (some 11) (.t 3)),rk 50 P5a [(.t 49),(ci 3),(ci 400)],rm 48 50,ro 51 (.ext 0 (.t 48)),ro 52 (.ext 1 (.t 48)),ro 8 (.alloc (.agg [(.v (.int .i64 0)),(.sl true []),(.sl true [])]) 3),rn (.store 3 (.t 8) (.t 51)),rm 9 52] (.seq (sq [rm 53 9,ro 54 (.bin .neq (.t 53) (ci 0))] (.cond (.t 54) (sq [rm 55 9,ro 56 (.bin .eql (.t 55) (ci 13)),rm 6 56] .ret) .skip)) (sq [rm 57 2,ro 58 (.conv .i64 (.t 57)),rm 59 1,ro 60 (.len (.t 59)),ro 61 (.bin .add (.t 60) (ci 1)),ro 62 (.bin .rem (.t 58) (.t 61)),rm 10 62] (.seq (.reg (some []) [ro 63 (.load (some 3) (.t 8)),rm 64 1,rk 65 P3n [(.t 63),(.t 64)],ro 66 (.load (some 3) (.t 8)),rm 67 1,rm 68 10,ro 69 (.slc 1 (.t 67) none (some (.t 68))),rk 70 P3n [(.t 66),(.t 69)],rm 11 65,rm 12 70]) (.seq (sq [ro 13 (.mv (ci 0))] (.block 2 Zlx)) (.seq (sq [ro 16 (.mv (ci 0))] (.block 6 Zly)) (sq [ro 134 (.load (some 3) (.t 8)),rk 135 P4k [(.t 134)],rm 133 135,ro 136 (.ext 0 (.t 133)),ro 137 (.ext 1 (.t 133)),ro 138 (.ext 2 (.t 133)),rm 17 136,rm 18 137,rm 19 138] (sq [rm 139 19,ro 140 (.un .not (.t 139)),rm 141 140,rg 142 141 true (.mv (.t 11)),rg 143 141 true (.len (.t 142)),rg 144 141 true (.bin .eql (.t 143) (ci 0)),ro 145 (.pick (.t 141) (.t 144) (.c (.v (.bool false)))),rm 146 145,rg 147 146 false (.mv (.t 19)),rg 148 146 false (.mv (.t 147)),rg 149 148 true (.load (some 3) (.t 8)),rg 150 148 true (.mv (.t 17)),rg 151 148 true (.mv (.t 18)),rl 152 148 true Lb [(.t 149),(.t 150),(.t 151)],rg 153 146 false (.pick (.t 148) (.t 152) (.c (.v (.bool false)))),rg 154 146 false (.mv (.t 153)),rg 155 154 true (.mv (.t 11)),rg 156 154 true (.len (.t 155)),rg 157 154 true (.bin .eql (.t 156) (ci 0)),rg 158 154 true (.mv (.t 157)),rg 159 158 false (.mv (.t 17)),rg 160 158 false (.len (.t 159)),rg 161 158 false (.mv (.t 1)),rg 162 158 false (.len (.t 161)),rg 163 158 false (.bin .leq (.t 160) (.t 162)),rg 164 154 true (.pick (.t 158) (.c (.v (.bool true))) (.t 163)),rg 165 146 false (.pick (.t 154) (.t 164) (.c (.v (.bool false)))),ro 166 (.pick (.t 146) (.c (.v (.bool true))) (.t 165)),rm 6 166] .ret))))))))))))
def ML(l al pa:List Int)(k:Nat)(_:Unit):List (Nat×AV):=[(1,aA l),(8,.ptr 0 0 0),(11,aA al),(12,aA pa),(13,aj k)]
def yU(d:aD)(_:Nat)(_:Unit):List (Nat×Option aF):=[(0,some (.arr 3 [aW d]))]
def Ji(al:List Int)(x:Int)(j:Nat)(o:Bool):Prop:=o=(al.take j).contains x
def FN(l al pa:List Int)(i j:Nat)(o:Bool):List (Nat×AV):=[(1,aA l),(8,.ptr 0 0 0),(11,aA al),(12,aA pa),(13,aj i),(14,aH o),(15,aj j)]
def FP(d:aD)(_:Nat)(_:Bool):List (Nat×Option aF):=[(0,some (.arr 3 [aW d]))]
def FR(l al:List Int)(k:Nat)(_:Unit):List (Nat×AV):=[(1,aA l),(8,.ptr 0 0 0),(11,aA al),(16,aj k)]
theorem ZhM{al:List Int}{x:Int}{j:Nat}{o:Bool}(h:j < al.length)(hI:Ji al x j o):Ji al x (j+1) (o || al[j] == x):=by
 unfold Ji at *;rw[hI,List.take_add_one,List.getElem?_eq_getElem h,Bool.eq_iff_iff];simp only[Bool.or_eq_true,Option.toList_some,List.contains_iff_mem,List.mem_append,List.mem_singleton,beq_iff_eq];exact or_congr Iff.rfl eq_comm
def FQ(l:List Int)(c:Int)(k:Nat)(_:Unit):List (Nat×AV):=[(1,aA l),(2,.v (.int .u8 c)),(3,.ptr 0 0 0),(7,aj k)]
theorem ZhN{l:List Int}{K:Nat}(h:K≤l.length):wm 1 (aA l) none (some (.v (.int .i64 (K:Int))))=.val (some (aA (l.take K))):=by
 have h2:∀y∈l.map aj,y.cells.length=1:=fun y hy=>by obtain⟨x,_,rfl⟩:=List.mem_map.mp hy;rfl
 simp[wm,aA,bnd,h]
theorem Zbj{P:Program}{fal fs fo fp fw fa:FuncId}(r:oF)(l:List Int)(c:Int)(c0:0≤c)(c1:c≤255)(hal:aO P fal [] (aH true))(sb:Bool)(hs:aO P fs [qG r,aj 9] (aH sb))
  (h:sb=true→l.length≤8→nX 3 l→∃D:aD×Int,aO P fo [qG r,aj 3,aj 400] (mo D)∧(D.2=0∨D.2=13)∧(D.2=0→∃(al pa s:List Int) (p:Int) (ok:Bool),
   aO P fp [aW D.1,aA l] (aA al)∧aO P fp [aW D.1,aA (l.take (c % ((l.length:Int)+1)).toNat)] (aA pa)∧pa.length≤8∧(∀x∈pa,x∈al)∧al.length≤8∧al.Pairwise (· < ·)∧(∀x∈al,1≤x∧x < l.length)∧
   aO P fw [aW D.1] (.aN [aA s,aj p,aH ok])∧s.length≤9000∧(ok=false→al=[])∧(ok=true→aO P fa [aW D.1,aA s,aj p] (aH true)∧(al=[]∨s.length≤l.length)))) :
  bM P 0 (Vs fal fs fo fp fw fa) (gG [6] (iP (aH true))) (bU [qG r,aA l,.v (.int .u8 c)]) S0:=by
 have hcr:=Zk2 r;obtain⟨x1,x2,x3,x4,x5,x6,x7,x8,x9,x10,x11,hx⟩:=Zka r
 have hcx:Cls [x1,x2,x3,x4,x5,x6,x7,x8,x9,x10,x11]:=by
  rw[hx] at hcr;intro y hy;exact hcr.cells y (by simpa[AV.cells] using hy)
 simp only[kE,kI,and_true] at hcx;rw[hx] at hs h hcr ⊢;simp[Vs];refine aQ.pure hal aU (bY _) ?_;simp;refine aQ.pure hs (aL hcr (aL (aS _) aU)) (bY _) ?_;cases sb with
 | false=>
  simp;exact jk _ _
 | true=>
 by_cases h8:8 < l.length
 ·have Zx:(8:Int) < (l.length:Int):=by omega
  simp[h8,Zx];exact jk _ _
 have Zx:¬(8:Int) < (l.length:Int):=by omega
 simp[h8,Zx,Zlw];refine uJ l.length (mwI l) (FQ l c) 3 (G9 r) () (fun x hx=>by simp at hx) ?_ ?_
 ·refine bL.of [(0,0)] [] (by omega) ⟨by simp,by simp⟩ ?_ ?_
  ·simp[kP,dX.cl,bH.cl,aS,bY,aR,iT,jq,kL,kJ,kK,jD,kF,kI,kE,kQ,iZ,jP,jd,kR,jQ,jO,jY,kS,kU,kT,kN,jJ,jL,kV,jW,kM,jX,jM,kH,iQ,kW,au,bS,aG,bf,jv,jE,jF,jK,bF,bJ,bT,jr,bA,jN,aj,aH,G9,hx,hcx]
  ·simp[kP,dX.cl,bH.cl,aS,bY,aR,iT,jq,kL,kJ,kK,jD,kF,kI,kE,kQ,iZ,jP,jd,kR,jQ,jO,jY,kS,kU,kT,kN,jJ,jL,kV,jW,kM,jX,jM,kH,iQ,kW,au,bS,aG,bf,jv,jE,jF,jK,bF,bJ,bT,jr,bA,jN,aj,aH,FQ]
 ·rintro k _ hk hI
  by_cases hlt:k < l.length
  ·have sU:(k:Int) < (l.length:Int):=by omega
   have hld:=MI hlt;by_cases n1:l[k] < 0
   ·simp[FQ,G9,hlt,sU,hld,n1]
    exact jk _ _
   by_cases n2:2 < l[k]
   ·simp[FQ,G9,hlt,sU,hld,n1,n2]
    exact jk _ _
   simp[FQ,G9,hlt,sU,hld,n1,n2];rw[bG _ (by omega)];refine⟨hlt,(),Zqc hlt hI ⟨by omega,by omega⟩,bL.of [(0,0)] [] (by omega) ⟨by simp,by simp⟩ ?_ ?_⟩
   ·simp[kP,dX.cl,bH.cl,aS,bY,aR,iT,jq,kL,kJ,kK,jD,kF,kI,kE,kQ,iZ,jP,jd,kR,jQ,jO,jY,kS,kU,kT,kN,jJ,jL,kV,jW,kM,jX,jM,kH,iQ,kW,au,bS,aG,bf,jv,jE,jF,jK,bF,bJ,bT,jr,bA,jN,aj,aH,G9,hx,hcx]
   ·simp[kP,dX.cl,bH.cl,aS,bY,aR,iT,jq,kL,kJ,kK,jD,kF,kI,kE,kQ,iZ,jP,jd,kR,jQ,jO,jY,kS,kU,kT,kN,jJ,jL,kV,jW,kM,jX,jM,kH,iQ,kW,au,bS,aG,bf,jv,jE,jF,jK,bF,bJ,bT,jr,bA,jN,aj,aH,FQ]
  ·have hke:k=l.length:=by omega
   subst hke;have hR:nX 3 l:=fun x hx=>hI x (by rw[List.take_length];exact hx)
   obtain⟨⟨d,e⟩,h1,h2,h3⟩:=h rfl (by omega) hR;simp only at h2 h3;have k1:=BS (d,e);simp only[mo] at h1 k1;simp[FQ,G9,hx];refine aQ.pure h1 (aL hcr (aL (aS _) (aL (aS _) aU))) k1 ?_;rcases h2 with h2 | h2
   rotate_left
   ·subst h2
    simp[bC];exact jk _ _
   ·subst h2
    obtain⟨al,pa,s,p,ok,p1,p2,p3,p4,p5,p6,p7,p8,p9,p10,p11⟩:=h3 rfl;have D1:=fun n' g'=>nJ.cd (S:=⟨n',g'⟩) p1 (aL (iV _) (aL (aR _) aU)) (aR _)
    have D2:=fun n' g'=>nJ.cd (S:=⟨n',g'⟩) p2 (aL (iV _) (aL (aR _) aU)) (aR _)
    have hcv:IntKind.i64.wrap c=c:=bG _ (by omega);have hw1:IntKind.i64.wrap ((l.length:Int)+1)=(l.length:Int)+1:=bG _ (by omega);have hz1:¬((l.length:Int)+1=0):=by omega
    obtain⟨K,hK,hKe,hKl⟩:∃K:Nat,c.tmod ((l.length:Int)+1)=(K:Int)∧(c % ((l.length:Int)+1)).toNat=K∧K≤l.length:=by
     have h1:=Int.emod_nonneg c hz1;have h2:=Int.emod_lt_of_pos c (show(0:Int) < (l.length:Int)+1 by omega);exact⟨(c % ((l.length:Int)+1)).toNat,by rw[Int.tmod_eq_emod_of_nonneg c0];omega,rfl,by omega⟩
    rw[hKe] at p2 D2;simp[bC,ex,QZ,hcv,hw1,hz1,hK,ZhN hKl];refine⟨_,⟨_,D1 _ _⟩,_,⟨_,D2 _ _⟩,?_⟩;simp[Zlx];refine uJ pa.length mvI (ML l al pa) 2 (yU d) () trivial ?_ ?_
    ·refine bL.of [(0,12)] [] (by omega) ⟨by simp,by simp⟩ ?_ ?_
     ·simp[kP,dX.cl,bH.cl,aS,bY,aR,iT,jq,kL,kJ,kK,jD,kF,kI,kE,kQ,iZ,jP,jd,kR,jQ,jO,jY,kS,kU,kT,kN,jJ,jL,kV,jW,kM,jX,jM,kH,iQ,kW,au,bS,aG,bf,jv,jE,jF,jK,bF,bJ,bT,jr,bA,jN,aj,aH,yU,iV]
     ·simp[kP,dX.cl,bH.cl,aS,bY,aR,iT,jq,kL,kJ,kK,jD,kF,kI,kE,kQ,iZ,jP,jd,kR,jQ,jO,jY,kS,kU,kT,kN,jJ,jL,kV,jW,kM,jX,jM,kH,iQ,kW,au,bS,aG,bf,jv,jE,jF,jK,bF,bJ,bT,jr,bA,jN,aj,aH,ML]
    rintro i _ hi _;by_cases hlp:i < pa.length
    ·have ab3:(i:Int) < (pa.length:Int):=by omega
     have N8:=MI hlp;have hin:=p4 _ (List.getElem_mem hlp);simp[ML,yU,hlp,ab3,Zlv];refine uJ al.length (Ji al pa[i]) (FN l al pa i) 2 (FP d) false (by simp[Ji]) ?_ ?_
     ·refine bL.of [(0,0)] [] (by omega) ⟨by simp,by simp⟩ ?_ ?_
      ·simp[kP,dX.cl,bH.cl,aS,bY,aR,iT,jq,kL,kJ,kK,jD,kF,kI,kE,kQ,iZ,jP,jd,kR,jQ,jO,jY,kS,kU,kT,kN,jJ,jL,kV,jW,kM,jX,jM,kH,iQ,kW,au,bS,aG,bf,jv,jE,jF,jK,bF,bJ,bT,jr,bA,jN,aj,aH,FP,iV]
      ·simp[kP,dX.cl,bH.cl,aS,bY,aR,iT,jq,kL,kJ,kK,jD,kF,kI,kE,kQ,iZ,jP,jd,kR,jQ,jO,jY,kS,kU,kT,kN,jJ,jL,kV,jW,kM,jX,jM,kH,iQ,kW,au,bS,aG,bf,jv,jE,jF,jK,bF,bJ,bT,jr,bA,jN,aj,aH,FN]
     rintro j o hj Ke;by_cases hla:j < al.length
     ·have NW:(j:Int) < (al.length:Int):=by omega
      have had:=MI hla;have hst:=ZhM hla Ke;cases o with
      | true=>
       simp[FN,FP,hla,NW];rw[bG _ (by omega)];refine⟨hla,true,hst,bL.of [(0,0)] [] (by omega) ⟨by simp,by simp⟩ ?_ ?_⟩
       ·simp[kP,dX.cl,bH.cl,aS,bY,aR,iT,jq,kL,kJ,kK,jD,kF,kI,kE,kQ,iZ,jP,jd,kR,jQ,jO,jY,kS,kU,kT,kN,jJ,jL,kV,jW,kM,jX,jM,kH,iQ,kW,au,bS,aG,bf,jv,jE,jF,jK,bF,bJ,bT,jr,bA,jN,aj,aH,FP,iV]
       ·simp[kP,dX.cl,bH.cl,aS,bY,aR,iT,jq,kL,kJ,kK,jD,kF,kI,kE,kQ,iZ,jP,jd,kR,jQ,jO,jY,kS,kU,kT,kN,jJ,jL,kV,jW,kM,jX,jM,kH,iQ,kW,au,bS,aG,bf,jv,jE,jF,jK,bF,bJ,bT,jr,bA,jN,aj,aH,FN]
      | false=>
       simp[FN,FP,hla,NW,N8,had,hlp];rw[bG _ (by omega)];refine⟨hla,al[j] == pa[i],by simpa using hst,bL.of [(0,0)] [] (by omega) ⟨by simp,by simp⟩ ?_ ?_⟩
       ·simp[kP,dX.cl,bH.cl,aS,bY,aR,iT,jq,kL,kJ,kK,jD,kF,kI,kE,kQ,iZ,jP,jd,kR,jQ,jO,jY,kS,kU,kT,kN,jJ,jL,kV,jW,kM,jX,jM,kH,iQ,kW,au,bS,aG,bf,jv,jE,jF,jK,bF,bJ,bT,jr,bA,jN,aj,aH,FP,iV]
       ·simp[kP,dX.cl,bH.cl,aS,bY,aR,iT,jq,kL,kJ,kK,jD,kF,kI,kE,kQ,iZ,jP,jd,kR,jQ,jO,jY,kS,kU,kT,kN,jJ,jL,kV,jW,kM,jX,jM,kH,iQ,kW,au,bS,aG,bf,jv,jE,jF,jK,bF,bJ,bT,jr,bA,jN,aj,aH,FN]
     ·have ZP:¬((j:Int) < (al.length:Int)):=by omega
      have ho:o=true:=by
       unfold Ji at Ke;rw[Ke,List.take_of_length_le (by omega)];simpa using hin
      subst ho;simp[FN,FP,hla,ZP];rw[bG _ (by omega)];refine⟨by omega,(),trivial,bL.of [(0,0)] [] (by omega) ⟨by simp,by simp⟩ ?_ ?_⟩
      ·simp[kP,dX.cl,bH.cl,aS,bY,aR,iT,jq,kL,kJ,kK,jD,kF,kI,kE,kQ,iZ,jP,jd,kR,jQ,jO,jY,kS,kU,kT,kN,jJ,jL,kV,jW,kM,jX,jM,kH,iQ,kW,au,bS,aG,bf,jv,jE,jF,jK,bF,bJ,bT,jr,bA,jN,aj,aH,yU,iV]
      ·simp[kP,dX.cl,bH.cl,aS,bY,aR,iT,jq,kL,kJ,kK,jD,kF,kI,kE,kQ,iZ,jP,jd,kR,jQ,jO,jY,kS,kU,kT,kN,jJ,jL,kV,jW,kM,jX,jM,kH,iQ,kW,au,bS,aG,bf,jv,jE,jF,jK,bF,bJ,bT,jr,bA,jN,aj,aH,ML]
    have ZP:¬((i:Int) < (pa.length:Int)):=by omega
    simp[ML,yU,hlp,ZP,Zly];refine uJ al.length mvI (FR l al) 2 (yU d) () trivial ?_ ?_
    ·refine bL.of [(0,0)] [] (by omega) ⟨by simp,by simp⟩ ?_ ?_
     ·simp[kP,dX.cl,bH.cl,aS,bY,aR,iT,jq,kL,kJ,kK,jD,kF,kI,kE,kQ,iZ,jP,jd,kR,jQ,jO,jY,kS,kU,kT,kN,jJ,jL,kV,jW,kM,jX,jM,kH,iQ,kW,au,bS,aG,bf,jv,jE,jF,jK,bF,bJ,bT,jr,bA,jN,aj,aH,yU,iV]
     ·simp[kP,dX.cl,bH.cl,aS,bY,aR,iT,jq,kL,kJ,kK,jD,kF,kI,kE,kQ,iZ,jP,jd,kR,jQ,jO,jY,kS,kU,kT,kN,jJ,jL,kV,jW,kM,jX,jM,kH,iQ,kW,au,bS,aG,bf,jv,jE,jF,jK,bF,bJ,bT,jr,bA,jN,aj,aH,FR]
    rintro j _ hj _;by_cases hla:j < al.length
    ·have NW:(j:Int) < (al.length:Int):=by omega
     have had:=MI hla;obtain⟨q1,q2⟩:=p7 _ (List.getElem_mem hla);have q1':¬al[j] < 1:=by omega
     have q2':¬(l.length:Int)≤al[j]:=by omega
     by_cases hj0:j=0
     ·subst hj0
      simp[FR,yU,hla,NW,had,q1',q2'];rw[bG _ (by omega)];refine⟨by omega,(),trivial,bL.of [(0,0)] [] (by omega) ⟨by simp,by simp⟩ ?_ ?_⟩
      ·simp[kP,dX.cl,bH.cl,aS,bY,aR,iT,jq,kL,kJ,kK,jD,kF,kI,kE,kQ,iZ,jP,jd,kR,jQ,jO,jY,kS,kU,kT,kN,jJ,jL,kV,jW,kM,jX,jM,kH,iQ,kW,au,bS,aG,bf,jv,jE,jF,jK,bF,bJ,bT,jr,bA,jN,aj,aH,yU,iV]
      ·simp[kP,dX.cl,bH.cl,aS,bY,aR,iT,jq,kL,kJ,kK,jD,kF,kI,kE,kQ,iZ,jP,jd,kR,jQ,jO,jY,kS,kU,kT,kN,jJ,jL,kV,jW,kM,jX,jM,kH,iQ,kW,au,bS,aG,bf,jv,jE,jF,jK,bF,bJ,bT,jr,bA,jN,aj,aH,FR]
     ·obtain⟨i',rfl⟩:∃i',j=i'+1:=⟨j - 1,by omega⟩
      have ZM:i' < al.length:=by omega
      have aaD:=MI ZM
      have q3:¬al[i'+1]≤al[i']:=by
       have:=List.pairwise_iff_getElem.mp p6 i' (i'+1) ZM hla (by omega);omega
      generalize hjj:i'+1=j at *;have ZY:IntKind.i64.wrap ((j:Int) - 1)=(i':Int):=by rw[bG _ (by omega)];omega
      have hj1:0 < j:=by omega
      simp[FR,yU,hla,NW,had,aaD,ZM,q1',q2',q3,ZY,hj1];rw[bG _ (by omega)];refine⟨by omega,(),trivial,bL.of [(0,0)] [] (by omega) ⟨by simp,by simp⟩ ?_ ?_⟩
      ·simp[kP,dX.cl,bH.cl,aS,bY,aR,iT,jq,kL,kJ,kK,jD,kF,kI,kE,kQ,iZ,jP,jd,kR,jQ,jO,jY,kS,kU,kT,kN,jJ,jL,kV,jW,kM,jX,jM,kH,iQ,kW,au,bS,aG,bf,jv,jE,jF,jK,bF,bJ,bT,jr,bA,jN,aj,aH,yU,iV]
      ·simp[kP,dX.cl,bH.cl,aS,bY,aR,iT,jq,kL,kJ,kK,jD,kF,kI,kE,kQ,iZ,jP,jd,kR,jQ,jO,jY,kS,kU,kT,kN,jJ,jL,kV,jW,kM,jX,jM,kH,iQ,kW,au,bS,aG,bf,jv,jE,jF,jK,bF,bJ,bT,jr,bA,jN,aj,aH,FR]
    have hnJ:¬((j:Int) < (al.length:Int)):=by omega
    have c3:aY (.aN [aA s,aj p,aH ok]):=.aN _ (aL (aR s) (aL (aS p) (aL (bY ok) aU)));simp[FR,yU,hla,hnJ];refine aQ.pure p8 (aL (iV _) aU) c3 ?_;cases ok with
    | false=>
     have:=p10 rfl;subst this;simp;exact jk _ _
    | true=>
     obtain⟨z1,z2⟩:=p11 rfl;simp;refine aQ.pure z1 (aL (iV _) (aL (aR _) (aL (aS _) aU))) (bY _) ?_;rcases z2 with z2 | z2
     ·subst z2
      simp;exact jk _ _
     ·have z2I:(s.length:Int)≤(l.length:Int):=by omega
      by_cases ha0:al.length=0
      ·simp[ha0]
       exact jk _ _
      ·have ha1:¬al=[]:=fun h=>ha0 (by simp[h])
       have hb0:((al.length:Int) == 0)=false:=beq_eq_false_iff_ne.mpr (by omega);simp[ha0,ha1,hb0,z2,z2I];exact jk _ _
end Go.Rf
