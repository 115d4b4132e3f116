import Derived.Test.YtdmcjhnbmgmgoaaGreatDoorRfZ4
import Derived.Test.YtdmcjhnbmgmgoaaGreatDoorRows
import Derived.WalkKit
import Derived.ProofKit
import Derived.Below
import Derived.SizedLaws
import Derived.KernelRfl
import Derived.Test.YtdmcjhnbmgmgoaaGreatDoorCards
import Derived.Test.YtdmcjhnbmgmgoaaGreatDoorTie
import Derived.LaidMore
import Derived.OpenShut
import Derived.Stop.Joined
import Derived.SevenTiedAt
set_option linter.unusedVariables false
set_option linter.unusedSimpArgs false
set_option linter.unusedSectionVars false
namespace Go.Rf
open Go.RowKit
attribute [local simp] nH nD mP lY mM mR mO nE nG mQ mW mo lu lN nk nQ ni oG oz ow nX oD ou nW nL mU nJ nZ nY nT nO mV nM oh og nU lQ lZ mX mY mq lX bZ gL eu fq gH d9 fI gI gy eT gD eB fO gG fM dG dJ dZ eX iq iw fG iy fC fB fu dD gT gU gV fJ fK iC gJ fU gZ gW gY gX ig iD fZ iA fP fQ gM iB dh dF fD gu iE ex aj fA cO dO bJ bO aD bE dX eU dn gP gQ gN gK fV bI cZ dw eD eF fF dN bY mD mF dz bX l6 mE mZ l7 dH eO eG eH dY bW dQ cK cB aY nS nA mJ mK mH mh mI ny lS l9 nu nC S0 ak aG oZ oU pz oW oQ pq o8 oV o7 pK pG pJ pF o9 pE qV iX.cl bU.cl aX cu bD jr kR qU qQ qR pW rz rC qZ qX kZ om kX rD pQ pO qd rE rH rG rA oI oJ rJ qb ru p8 oK qw kQ rO kU lK iZ oF
def Zp3(P:Program)(f:FuncId)(n:Nat):Prop:=∀a b:List Bool,a.length=n→b.length=n→
 aQ P f [.own 0 0 n,bA b] ⟨1,jy [(0,some (.arr 1 (a.map aG)))]⟩ fun r S'=>r=.aL []∧S'.n=10∧S'.g 0=some (.arr 1 ((ZrU a b).map aG))
def Vj(l:List Bool)(id:Nat)(S:St):St:=(St.mk (S.n+9) S.g).set id (some (.arr 1 (l.map aG)))
theorem Zp3.use{P:Program}{f:FuncId}{n:Nat}(h:Zp3 P f n){a b:List Bool}(ha:a.length=n)(hb:b.length=n){S:St}{K:AV→St→Prop}{id:Nat}(hg:S.g id=some (.arr 1 (a.map aG)))(hid:id < S.n)
  (hk:K (.aL []) (Vj (ZrU a b) id S)):aQ P f [.own id 0 n,bA b] S K:=by
 refine aQ.frame 1 [(0,id)] [(0,some (.arr 1 (a.map aG)))] [.own 0 0 n,bA b] _ (by simp) (by simp;omega) ?_ ?_ (h a b ha hb) ?_
 ·intro p hp
  simp only[List.mem_cons,List.not_mem_nil,or_false] at hp;subst hp;refine .inr ⟨id,by simp,?_⟩;rw[hg,kQ];exact⟨rfl,.cl (om _)⟩
 ·exact .cons (.own _ _ _ _ (by simp)) (.cons (.cl (kR _)) .nil)
 ·rintro r1 S1 hn ⟨rfl,q1,q2⟩
  refine⟨_,_,hk,.cl (.aL _ (by simp)),by simp[Vj,bE,q1],fun i k hi=>?_⟩;simp only[Vj,aD] at hi;by_cases e:i=id
  ·rw[if_pos e] at hi
   refine .inr ⟨0,.inl ⟨by omega,by simp[e]⟩,?_⟩;rw[←hi,q2,kQ];exact⟨rfl,.cl (om _)⟩
  ·rw[if_neg e] at hi
   refine .inl ⟨?_,hi⟩;simp;omega
section
variable{P:Program}{fh fg fm:FuncId}{k:Int}{ps:List Rg}{pg l:List Int}{ks:List iT}{a:List Bool}
end
def Zne(EN:FuncId):AC:= (.loop (.seq (sq [rm 9 6,rF 10 3 2,rL 11 10,ro 12 (.len (.t 11)),ro 13 (.bin .lss (.t 9) (.t 12)),rm 14 13,rg 15 14 true (.mv (.t 5)),rg 16 14 true (.mv (.t 1)),rg 17 14 true (.bin .leq (.t 15) (.t 16)),ro 18 (.pick (.t 14) (.t 17) (.c (.v (.bool false))))] (.cond (.t 18) .skip (.exit 0))) (.seq (.block 1 (.reg none [rm 21 5,rF 22 3 2,rL 23 22,rm 24 6,ro 25 (.aI 4 (.t 23) (.t 24)),ro 26 (.load (some 4) (.t 25)),rm 27 1,ro 28 (.bin .sub (.t 27) (ci 1)),rk 29 EN [(.t 26),(.t 28)],ro 30 (.bin .add (.t 21) (.t 29)),rm 5 30])) (.reg none [rm 19 6,ro 20 (.bin .add (.t 19) (ci 1)),rm 6 20]))))
def Z8y(EN:FuncId):AC:= (sq [ro 2 (.box 4 (.t 0)),ro 4 (.mv (ci 0))] (sq [ro 5 (.mv (ci 1))] (.seq (sq [rm 7 1,ro 8 (.bin .lss (.t 7) (ci 0))] (.cond (.t 8) (sq [ro 4 (.mv (ci 1000))] .ret) .skip)) (.seq (sq [ro 6 (.mv (ci 0))] (.block 0 (Zne EN))) (sq [rm 31 5,rm 4 31] .ret)))))
def Z8x(EN:FuncId):AC:= (sq [ro 2 (.box 11 (.t 0)),ro 4 (.mv (.c (.v (.bool false))))] (sq [rF 5 2 2,ro 6 (.load (some 4) (.t 5)),rm 7 1,rk 8 EN [(.t 6),(.t 7)],rm 9 1,ro 10 (.bin .leq (.t 8) (.t 9)),rm 11 10,rg 12 11 true (.bV 6 (.t 2)),rg 13 11 true (.load (some 4) (.t 12)),rg 14 11 true (.mv (.t 1)),rl 15 11 true EN [(.t 13),(.t 14)],rg 16 11 true (.mv (.t 1)),rg 17 11 true (.bin .leq (.t 15) (.t 16)),ro 18 (.pick (.t 11) (.t 17) (.c (.v (.bool false)))),rm 4 18] .ret))
def RL(P4E:FuncId):AC:= (sq [ro 1 (.box 3 (.t 0)),ro 2 (.mv (.c (.sl true []))),ro 3 (.mv (ci 0)),ro 4 (.mv (.c (.v (.bool false))))] (sq [ro 5 (.load (some 3) (.t 1)),rk 6 P4E [(.t 5)],ro 7 (.ext 0 (.t 6)),ro 8 (.ext 1 (.t 6)),ro 9 (.ext 2 (.t 6)),rm 2 7,rm 3 8,rm 4 9] .ret))
def Ru(HZ Ih:FuncId):AC:= (sq [ro 3 (.box 3 (.t 0)),ro 6 (.mv (.c (.v (.bool false))))] (sq [rm 8 1,rm 9 2,rk 10 HZ [(.t 8),(.t 9)],rm 7 10] (sq [rm 11 7,ro 12 (.len (.t 11)),ro 13 (.bin .gtr (.t 12) (ci 0)),rm 14 13,rg 15 14 true (.load (some 3) (.t 3)),rg 16 14 true (.mv (.t 7)),rl 17 14 true Ih [(.t 15),(.t 16)],ro 18 (.pick (.t 14) (.t 17) (.c (.v (.bool false)))),rm 6 18] .ret)))
def Zij(Iz:FuncId):AC:= (.loop (sq [ro 10 (.bin .lss (.t 9) (.t 8))] (.seq (.cond (.t 10) .skip (.exit 0)) (.seq (.block 1 (sq [rm 11 9,rm 6 11] (sq [ro 12 (.load (some 3) (.t 2)),rm 13 1,rm 14 6,rk 15 Iz [(.t 12),(.t 13),(.t 14)]] (.cond (.t 15) (.reg none [rm 16 5,rm 17 6,ro 18 (.bS 1 1 (.v (.int .i64 0)) [(0,(.t 17))]),ro 19 (.app 1 8 (.t 16) (.t 18)),rm 5 19]) .skip)))) (.reg none [ro 20 (.bin .add (.t 9) (ci 1)),rm 9 20])))))
def RH(Iz:FuncId):AC:= (sq [ro 2 (.box 3 (.t 0)),ro 4 (.mv (.c (.sl true [])))] (sq [ro 5 (.mv (.c (.sl true [])))] (.seq (sq [rm 7 1,ro 8 (.len (.t 7)),ro 9 (.mv (ci 0))] (.block 0 (Zij Iz))) (sq [rm 21 5,rm 4 21] .ret))))
def Zim(Ib:FuncId):AC:= (.loop (.seq (sq [rm 7 6,rm 8 1,ro 9 (.len (.t 8)),ro 10 (.bin .lss (.t 7) (.t 9))] (.cond (.t 10) .skip (.exit 0))) (.seq (.block 1 (sq [ro 13 (.load (some 3) (.t 2)),rm 14 1,rm 15 6,rk 16 Ib [(.t 13),(.t 14),(.t 15)]] (.cond (.t 16) (.reg none [rm 17 5,rm 18 6,ro 19 (.bS 1 1 (.v (.int .i64 0)) [(0,(.t 18))]),ro 20 (.app 1 8 (.t 17) (.t 19)),rm 5 20]) .skip))) (.reg none [rm 11 6,ro 12 (.bin .add (.t 11) (ci 1)),rm 6 12]))))
def Rs(Ib:FuncId):AC:= (sq [ro 2 (.box 3 (.t 0)),ro 4 (.mv (.c (.sl true [])))] (sq [ro 5 (.mv (.c (.sl true [])))] (.seq (sq [ro 6 (.mv (ci 0))] (.block 0 (Zim Ib))) (sq [rm 21 5,rm 4 21] .ret))))
theorem ZhK{P:Program}{fw fa:FuncId}(d:aB)(l:List Int)(p:Int)(hw:aM P fw [au l,ak p] (au (bT l p)))(ha:aM P fa [aH d,au (bT l p)] (aG (lg d (bT l p)))) :
  bG P 0 (Ru fw fa) (bR [6] (dx (aG (ug d l p)))) (bC [aH d,au l,ak p]) S0:=by
 have h:Ru fw fa=Mq fw fa:=rfl;rw[h];exact Zic d l p hw ha
def p9(d:aB)(l:List Int)(k:Nat):List Int:=((List.range k).filter fun i=>ug d l (i:Nat)).map fun i:Nat=>(i:Int)
theorem YC(d:aB)(l:List Int)(k:Nat):p9 d l (k+1)=p9 d l k++(if ug d l (k:Nat)=true then [(k:Int)] else []):=by
 unfold p9;rw[List.range_succ,List.filter_append,List.map_append];congr 1;by_cases h:ug d l (k:Nat)=true
 ·simp[h]
 ·simp[h]
theorem Sb(d:aB)(l:List Int)(k:Nat):(p9 d l k).length≤k:=by
 unfold p9;rw[List.length_map];have:=List.length_filter_le (fun i:Nat=>ug d l (i:Nat)) (List.range k);simpa using this
def mpI(_:Nat)(_:Bool):Prop:=True
def Hl(d:aB)(l:List Int)(k:Nat)(o:Bool):List (Nat×AV):=[(1,au l),(2,.ptr 0 0 0),(5,vV o 1 ((p9 d l k).map ak)),(8,ak l.length),(9,ak k)]
def Ht(d:aB)(l:List Int)(k:Nat)(o:Bool):List (Nat×AV):=[(1,au l),(2,.ptr 0 0 0),(5,vV o 1 ((p9 d l k).map ak)),(6,ak k)]
def xw(d:aB)(l:List Int)(k:Nat)(o:Bool):List (Nat×Option aF):=[(0,some (.arr 3 [aH d])),(1,vB o 1 ((p9 d l k).map ak))]
theorem Zaz{P:Program}{fa:FuncId}(d:aB)(l:List Int)(hl:l.length≤100000)(ha:∀i:Nat,i < l.length→aM P fa [aH d,au l,ak i] (aG (ug d l (i:Nat)))) :
  bG P 0 (RH fa) (bR [4] (dx (au (p9 d l l.length)))) (bC [aH d,au l]) S0:=by
 simp[RH,Zij];refine Bu l.length mpI (Hl d l) 3 (xw d l) false trivial ?_ ?_
 ·refine iU.of [(0,0)] [] (by omega) ⟨by simp,by simp⟩ ?_ ?_
  ·simp[xw,dW]
  ·simp[Hl,p9]
 ·rintro i o hi _
  by_cases hlt:i < l.length
  ·have hat:=ha i hlt
   have zF:(i:Int) < (l.length:Int):=by omega
   have hpl:=Sb d l i;have hok:eY 8 (p9 d l i).length 1:=by unfold eY;omega
   have hsu:=YC d l i;simp[Hl,xw,zF];refine aQ.pure hat (aR (dW _) (aR (bD _) (aR (aX _) bB))) (cu _) ?_;cases hb:ug d l (i:Nat) with
   | true=>
    rw[hb] at hsu;simp only[if_true] at hsu;simp[hok];rw[aZ _ (by omega)];refine⟨hlt,true,trivial,iU.of [(0,0),(1,13)] [] (by omega) ⟨by simp,by simp⟩ ?_ ?_⟩
    ·simp[xw,dW,hsu]
    ·simp[Hl,hsu]
   | false=>
    rw[hb] at hsu;simp only[Bool.false_eq_true,if_false,List.append_nil] at hsu;simp;rw[aZ _ (by omega)];refine⟨hlt,o,trivial,iU.of [(0,0),(1,1)] [] (by omega) ⟨by simp,by simp⟩ ?_ ?_⟩
    ·simp[xw,dW,hsu]
    ·simp[Hl,hsu]
  ·have hke:i=l.length:=by omega
   subst hke;simp[Hl,xw];refine zq ?_ (kZ _);simp
theorem Zce{P:Program}{fa:FuncId}(d:aB)(l:List Int)(hl:l.length≤100000)(ha:∀i:Nat,i < l.length→aM P fa [aH d,au l,ak i] (aG (ug d l (i:Nat)))) :
  bG P 0 (Rs fa) (bR [4] (dx (au (p9 d l l.length)))) (bC [aH d,au l]) S0:=by
 simp[Rs,Zim];refine Bu l.length mpI (Ht d l) 3 (xw d l) false trivial ?_ ?_
 ·refine iU.of [(0,0)] [] (by omega) ⟨by simp,by simp⟩ ?_ ?_
  ·simp[xw,dW]
  ·simp[Ht,p9]
 ·rintro i o hi _
  by_cases hlt:i < l.length
  ·have hat:=ha i hlt
   have zF:(i:Int) < (l.length:Int):=by omega
   have hpl:=Sb d l i;have hok:eY 8 (p9 d l i).length 1:=by unfold eY;omega
   have hsu:=YC d l i;simp[Ht,xw,zF];refine aQ.pure hat (aR (dW _) (aR (bD _) (aR (aX _) bB))) (cu _) ?_;cases hb:ug d l (i:Nat) with
   | true=>
    rw[hb] at hsu;simp only[if_true] at hsu;simp[hok];rw[aZ _ (by omega)];refine⟨hlt,true,trivial,iU.of [(0,0),(1,14)] [] (by omega) ⟨by simp,by simp⟩ ?_ ?_⟩
    ·simp[xw,dW,hsu]
    ·simp[Ht,hsu]
   | false=>
    rw[hb] at hsu;simp only[Bool.false_eq_true,if_false,List.append_nil] at hsu;simp;rw[aZ _ (by omega)];refine⟨hlt,o,trivial,iU.of [(0,0),(1,1)] [] (by omega) ⟨by simp,by simp⟩ ?_ ?_⟩
    ·simp[xw,dW,hsu]
    ·simp[Ht,hsu]
  ·have hke:i=l.length:=by omega
   subst hke;simp[Ht,xw];refine zq ?_ (kZ _);simp
theorem ZdX{P:Program}{fm:FuncId}(d:aB)(s:List Int)(p:Int)(b:Bool)(hm:aM P fm [aH d] (.aL [au s,ak p,aG b])) :
  bG P 0 (RL fm) (bR [2,3,4] (dx (.aL [au s,ak p,aG b]))) (bC [aH d]) S0:=by
 simp[RL];refine aQ.pure hm (aR (dW _) bB) (.aL _ (aR (bD _) (aR (aX _) (aR (cu _) bB)))) ?_;simp;exact .closed _ (.aL _ (aR (bD _) (aR (aX _) (aR (cu _) bB))))
def Rj(P31 P34 P4k P2O Iz Ib P4s P2P wJ:FuncId):AC:= (sq [ro 3 (.box 3 (.t 0)),ro 6 (.mv (.c (.v (.bool false))))] (.seq (sq [rk 13 P31 [],ro 14 (.un .not (.t 13))] (.cond (.t 14) (sq [ro 6 (.mv (.c (.v (.bool false))))] .ret) .skip)) (.seq (sq [ro 15 (.load (some 3) (.t 3)),rk 16 P34 [(.t 15),(ci 100)],rm 17 16,rg 18 17 false (.mv (.t 1)),rg 19 17 false (.len (.t 18)),rg 20 17 false (.bin .gtr (.t 19) (ci 50)),ro 21 (.pick (.t 17) (.c (.v (.bool true))) (.t 20))] (.cond (.t 21) (sq [ro 6 (.mv (.c (.v (.bool true))))] .ret) .skip)) (sq [ro 23 (.load (some 3) (.t 3)),rk 24 P4k [(.t 23)],rm 22 24,ro 25 (.ext 0 (.t 22)),ro 26 (.ext 1 (.t 22)),ro 27 (.ext 2 (.t 22)),rm 7 25,rm 8 26,rm 9 27] (sq [ro 29 (.load (some 3) (.t 3)),rk 30 P2O [(.t 29)],rm 28 30,ro 31 (.ext 0 (.t 28)),ro 32 (.ext 1 (.t 28)),ro 33 (.ext 2 (.t 28)),rm 10 31,rm 11 32,rm 12 33] (.seq (.reg (some []) [ro 34 (.load (some 3) (.t 3)),rm 35 1,rm 36 2,rk 37 Iz [(.t 34),(.t 35),(.t 36)],ro 38 (.load (some 3) (.t 3)),rm 39 1,rm 40 2,rk 41 Ib [(.t 38),(.t 39),(.t 40)],ro 42 (.beq false (.t 37) (.t 41)),rm 43 42,rg 44 43 true (.load (some 3) (.t 3)),rg 45 43 true (.mv (.t 1)),rl 46 43 true P4s [(.t 44),(.t 45)],rg 47 43 true (.load (some 3) (.t 3)),rg 48 43 true (.mv (.t 1)),rl 49 43 true P2P [(.t 47),(.t 48)],rl 50 43 true wJ [(.t 46),(.t 49)],ro 51 (.pick (.t 43) (.t 50) (.c (.v (.bool false)))),rm 52 51,rg 53 52 true (.mv (.t 7)),rg 54 52 true (.mv (.t 10)),rl 55 52 true wJ [(.t 53),(.t 54)],ro 56 (.pick (.t 52) (.t 55) (.c (.v (.bool false)))),rm 57 56,rg 58 57 true (.mv (.t 8)),rg 59 57 true (.mv (.t 11)),rg 60 57 true (.bin .eql (.t 58) (.t 59)),ro 61 (.pick (.t 57) (.t 60) (.c (.v (.bool false)))),rm 62 61,rg 63 62 true (.mv (.t 9)),rg 64 62 true (.mv (.t 12)),rg 65 62 true (.beq false (.t 63) (.t 64)),ro 66 (.pick (.t 62) (.t 65) (.c (.v (.bool false)))),rm 6 66]) .ret))))))
theorem Z9P{P:Program}{fal fg fw fm fa fra fp frp fi:FuncId}(d:aB)(l:List Int)(p:Int)(hal:aM P fal [] (aG true))(gb:Bool)(hg:aM P fg [aH d,ak 100] (aG gb))
  (hw:aM P fw [aH d] (.aL [au (jK d),ak (vU d),aG (jZ d)])) (hm:aM P fm [aH d] (.aL [au (jK d),ak (vU d),aG (jZ d)]))
  (hl:gb=false→l.length≤50→aM P fa [aH d,au l,ak p] (aG (ug d l p))∧aM P fra [aH d,au l,ak p] (aG (ug d l p))∧aM P fp [aH d,au l] (au (p9 d l l.length))∧
   aM P frp [aH d,au l] (au (p9 d l l.length))∧aM P fi [au (p9 d l l.length),au (p9 d l l.length)] (aG true)∧aM P fi [au (jK d),au (jK d)] (aG true)) :
  bG P 0 (Rj fal fg fw fm fa fra fp frp fi) (bR [6] (dx (aG true))) (bC [aH d,au l,ak p]) S0:=by
 have c3:=fun s (q:Int) b=>(aV.aL _ (aR (bD s) (aR (aX q) (aR (cu b) bB))):aV (.aL [au s,ak q,aG b]))
 simp[Rj];refine aQ.pure hal bB (cu _) ?_;simp;refine aQ.pure hg (aR (dW _) (aR (aX _) bB)) (cu _) ?_;cases gb with
 | true=>
  simp;exact iF _ _
 | false=>
 by_cases h5:50 < l.length
 ·have VY:(50:Int) < (l.length:Int):=by omega
  simp[VY];exact iF _ _
 have VY:¬(50:Int) < (l.length:Int):=by omega
 obtain⟨k1,k2,k3,k4,k5,k6⟩:=hl rfl (by omega);generalize jK d=s at *;generalize vU d=q at *;generalize jZ d=b at *;generalize ug d l p=z at *;generalize p9 d l l.length=pl at *;simp[VY];refine aQ.pure hw (aR (dW _) bB) (c3 s q b) ?_;simp;refine aQ.pure hm (aR (dW _) bB) (c3 s q b) ?_;have D1:=fun n' g'=>kI.cd (S:=⟨n',g'⟩) k1 (aR (dW _) (aR (bD _) (aR (aX _) bB))) (cu _)
 have D2:=fun n' g'=>kI.cd (S:=⟨n',g'⟩) k2 (aR (dW _) (aR (bD _) (aR (aX _) bB))) (cu _)
 have D3:=fun n' g'=>kI.cd (S:=⟨n',g'⟩) k3 (aR (dW _) (aR (bD _) bB)) (bD _)
 have D4:=fun n' g'=>kI.cd (S:=⟨n',g'⟩) k4 (aR (dW _) (aR (bD _) bB)) (bD _)
 have D5:=fun n' g'=>kI.cd (S:=⟨n',g'⟩) k5 (aR (bD _) (aR (bD _) bB)) (cu _)
 have D6:=fun n' g'=>kI.cd (S:=⟨n',g'⟩) k6 (aR (bD _) (aR (bD _) bB)) (cu _)
 simp;refine⟨_,⟨_,D1 _ _⟩,_,⟨_,D2 _ _⟩,?_⟩;simp;refine⟨_,⟨_,D3 _ _⟩,_,⟨_,D4 _ _⟩,_,⟨_,D5 _ _⟩,?_⟩;simp;refine⟨_,⟨_,D6 _ _⟩,?_⟩;simp;exact iF _ _
end Go.Rf
namespace Go.Rf
open Go.RowKit
structure ED where
 EI:FuncId
 QH:FuncId
 Xm:FuncId
 QF:FuncId
 QG:FuncId
 Bg:FuncId
 Lf:FuncId
 HY:FuncId
 CG:FuncId
 Iw:FuncId
 Ll:FuncId
 KY:FuncId
 Cr:FuncId
 Qj:FuncId
 K4:FuncId
 LJ:FuncId
 Iq:FuncId
 KU:FuncId
 EL:FuncId
 KV:FuncId
 Cx:FuncId
 KX:FuncId
 Cw:FuncId
 zL:FuncId
 LG:FuncId
 Lv:FuncId
 Lx:FuncId
 K9:FuncId
 La:FuncId
 Qk:FuncId
 Qy:FuncId
 QT:FuncId
 QU:FuncId
 Q0:FuncId
 Lh:FuncId
 Q5:FuncId
 Lb:FuncId
 EJ:FuncId
 Ig:FuncId
 Ql:FuncId
 Le:FuncId
 Qm:FuncId
 QJ:FuncId
 QC:FuncId
 K6:FuncId
 Qu:FuncId
 Qp:FuncId
 IE:FuncId
 Lg:FuncId
 QM:FuncId
 QX:FuncId
 Ip:FuncId
 Io:FuncId
 EK:FuncId
 Ls:FuncId
 Lm:FuncId
 Lr:FuncId
 Lj:FuncId
 Qw:FuncId
 Qv:FuncId
 Lc:FuncId
 QD:FuncId
 Ld:FuncId
 Qn:FuncId
 QI:FuncId
 QO:FuncId
 IC:FuncId
 QY:FuncId
 Li:FuncId
 LC:FuncId
 Qo:FuncId
 QA:FuncId
 QK:FuncId
 Qt:FuncId
 Qs:FuncId
 LA:FuncId
 Qq:FuncId
 QL:FuncId
 QZ:FuncId
 XR:FuncId
 Xf:FuncId
 K7:FuncId
 Xk:FuncId
 Il:FuncId
 EP:FuncId
 EG:FuncId
 LD:FuncId
 K8:FuncId
 Bf:FuncId
 Bd:FuncId
 strconv_Itoa:FuncId
 KZ:FuncId
 K5:FuncId
 KW:FuncId
 Iu:FuncId
 QW:FuncId
 LQ:Nat
 LU:Nat
structure yV(P:Program)(F:ED):Prop where
 hm:P.follows .mixedOrders=true
 WW:Is P F.EI L9 [4] 2
 WU:Is P F.QH Rm [4] 2
 P3a:Is P F.Xm (Z8Q F.QF F.QG) [4] 2
 P2Q:Is P F.QF (Z8r F.EI) [4] 2
 P2S:Is P F.QG Z8t [4] 2
 WV:Is P F.Bg Bl [2] 1
 Xh:Is P F.Lf (Rx F.Bg) [4] 2
 WT:Is P F.HY (LZ F.Lf) [4] 2
 XB:Is P F.CG (Bn F.Iw F.Ll F.KY) [2] 1
 Xu:Is P F.Iw Mg [3] 2
 Xv:Is P F.Ll (Mh F.Cr) [4] 3
 WM:Is P F.KY (L6 F.Qj) [4] 2
 WO:Is P F.Cr (L6 F.K4) [4] 2
 WQ:Is P F.Qj Mc [4] 2
 WR:Is P F.K4 Mc [4] 2
 XM:Is P F.LJ (SQ F.CG) [4] 2
 Xr:Is P F.Iq (LZ F.LJ) [4] 2
 WZ:Is P F.KU L8 [4] 2
 WS:Is P F.EL (Rk F.KV) [4] 2
 W9:Is P F.KV Rl [4] 2
 WY:Is P F.Cx (CS 1 8 (.v (.int .i64 0))) [2] 1
 Xa:Is P F.KX (Ni 1 8 (.v (.int .i64 0))) [4] 2
 WX:Is P F.Cw (ML 1 8 F.KX) [2] 1
 XP:Is P F.zL (MG F.Cx F.Bf F.Bd) [2] 1
 XL:Is P F.LG (FB F.zL F.KU) [6] 3
 XG:Is P F.Lv (zO F.LG) [2] 1
 P4R:Is P F.Lx (Zfe F.Lx) [2] 1
 P3P:Is P F.K9 Z9Y [4] 2
 P40:yR P F.La (Zau F.Cx F.Qy F.Qk F.zL F.K9 F.QT F.QU F.Q0 F.Lh) [.c 4 (some 3)] 2
 P1R:Is P F.Qk (Z62 F.K4) [4] 2
 P3w:Is P F.Qy Z9o [3] 2
 P3Z:Is P F.QT (Zat F.La) [4] 2
 P41:ku P F.QU (Zav F.Lh F.Cw F.zL) [.c 4 (some 3)] 2
 P4I:ku P F.Q0 (Ze6 F.Cw F.zL) [.c 2 (some 3)] 1
 P3v:Is P F.Lh (Z9n F.Cw F.zL) [] 3
 P5l:ku P F.Q5 (FL F.Lx F.K9 F.La F.Cx F.zL) [.c 4 (some 4),.t 5] 2
 P38:Is P F.Lb (Z8O F.Lb) [2] 1
 P3s:Is P F.EJ Ym [4] 2
 P2j:ku P F.Ig (Z6Q F.EJ F.Ig F.Ql F.Le F.Qm) [.c 4 (some 3)] 2
 P2c:Is P F.Ql (Z6w F.Le) [] 3
 P3q:Is P F.Le (Z9m F.EJ) [4] 2
 P2k:ku P F.Qm (Z6R F.Ig) [.c 4 (some 3)] 2
 P3K:Cq P F.QJ (Z9R F.Lb F.Ig F.EJ) [.c 4 (some 4),.t 5] 2
 P2J:Is P F.QC Z7O [6] 3
 P2R:Is P F.K6 (Z8s F.QC) [2] 1
 P3r:Is P F.Qu Yl [4] 2
 P39:Is P F.Qp (Z8P F.K6 F.Qu F.EJ) [6] 3
 XI:Is P F.IE (Y9 F.strconv_Itoa F.KZ F.K5 F.KW) [2] 1
 Xj:zK P F.Lg (Rz F.IE F.LQ) [.t 4] 2
 Xd:zK P F.QM (IX F.Lg F.Io) [.c 4 (some 3)] 2
 Xx:Is P F.QX I4 [6] 4
 Xp:Is P F.Ip (RA F.EL F.Bf F.Bd) [6] 3
 Xo:Is P F.Io (Rw F.EK F.Cr) [4] 2
 Xi:Is P F.EK (Ry F.EL) [3] 2
 XC:ku P F.Ls (Mi F.Iu F.Lm) [.c 4 (some 3),.t 5] 2
 Xw:Is P F.Lm (RP F.Ip F.Cw) [6] 3
 XA:ku P F.Lr (Mi F.Iu F.Lj) [.c 4 (some 3),.t 5] 2
 Xt:Is P F.Lj (RO F.Io F.Ip) [6] 3
 P3u:Is P F.Qw Ym [4] 2
 P3t:Is P F.Qv Yl [4] 2
 P3b:Is P F.Lc (Z8R F.Qv) [4] 2
 P2K:Is P F.QD (Z7P F.Lc F.Qp F.Qw) [8] 4
 P3c:ku P F.Ld (Z8S F.K6 F.QD F.EI F.Lc) [.c 6 (some 3),.t 7] 3
 P2U:ku P F.Qn (Z8v F.Ld) [.c 4 (some 3),.t 5] 2
 P2T:ku P F.QI (Z8u F.Ld) [.c 4 (some 3),.t 5] 2
 Xg:Is P F.QO RF [2] 1
 Xq:Is P F.IC (Yz F.strconv_Itoa F.KZ F.K5 F.KW) [6] 3
 Xy:Is P F.QY (RQ F.IC) [4,5] 2
 Xe:Is P F.Li (RJ F.QO F.QY) [2] 1
 XJ:ku P F.LC (Sj F.CG F.Li) [.c 2 (some 3),.t 3] 1
 P2V:Is P F.Qo Z8w [2] 1
 P2B:Is P F.QA (Z7D F.Bg F.Qo) [2] 1
 P3L:ku P F.QK (Z9S F.Bg F.QA) [.c 2 (some 3),.t 3] 1
 Xc:Is P F.Qt Ma [4] 2
 Xb:ku P F.Qs xJ [.c 8 (some 2)] 4
 XO:ku P F.LA (SV F.CG F.Qt F.Qs) [.c 6 (some 3),.t 7] 3
 P3d:ku P F.Qq Z8T [.c 8 (some 2)] 4
 P3M:ku P F.QL (Z9T F.Bg F.Qq) [.c 6 (some 3),.t 7] 3
 P4H:ku P F.QZ (Ze5 F.Q5) [.c 8 (some 3),.t 9] 4
 P50:ku P F.XR (Zhh F.QZ F.Ls F.Lr F.LA F.LC) [.c 6 (some 3),.t 7] 3
 P3N:ku P F.Xf (Z9U F.QJ F.Qn F.QI F.QL F.QK) [.c 6 (some 3),.t 7] 3
 P2X:Is P F.K7 (Z8y F.K7) [4] 2
 P2W:Is P F.Xk (Z8x F.K7) [4] 2
 QS:Is P F.Il Md [2] 1
 QN:Is P F.EP (Fg F.Il F.Cr) [4] 2
 Qz:Is P F.EG E9 [4] 2
 XK:Is P F.LD (Mq F.EP F.Iq) [6] 3
 Xl:Is P F.K8 (Ru F.EG F.HY) [6] 3
 m1:GD P F.Iu=some (Dw F.Lv F.QW F.QX F.QM)
 Yc:Dx P F.QW=some (5,2,Dg F.LQ,16)
 X3:ze P F.IE F.LU
 X4:ze P F.IC F.LU
 sort:Ak P F.Bf
 comp:Aj P F.Bd
 CQ:aM P F.Bf [.sl true []] (.aL [])
 CP:aM P F.Bd [.sl true []] (.sl true [])
 VN:zu P F.KZ F.K5 F.KW F.LU 5
 itoa:Ba P F.strconv_Itoa (fun n=>0≤n∧n < 10000)
theorem Zjg{X:Type}{l:List X}{k:Nat}(h:l.length≤k)(hk:k≤140737488351232):Len l:=by unfold Len;omega
structure zh(n:Net):Prop where
 rows:∀l∈n.rows,l.length≤1000
 aC:n.aC.length≤1000
 follow:n.follow.length≤1000
theorem zh.ok{n:Net}(h:zh n):Zp4 n:=by
 have h1:=h.aC;have h2:=h.follow;have h3:=fun l hl=>h.rows l hl
 refine⟨by unfold Len;omega,by unfold Len;omega,?_,fun r hr=>?_,fun r hr=>?_⟩
 ·have:=h3 n.last (by simp[Net.rows]);unfold Len;omega
 ·have:=h3 r (by simp[Net.rows,hr]);unfold Len;omega
 ·have:=h3 r (by simp[Net.rows,hr]);unfold Len;omega
theorem Zs1:∀k < 10000,(Lib.decDigits k).length≤4:=by
 intro k hk;rw[Lib.decDigits];split
 ·simp
 ·rw[Lib.decDigits]
  split
  ·simp
  ·rw[Lib.decDigits]
   split
   ·simp
   ·rw[Lib.decDigits,dif_pos (by omega)];simp
theorem Y3:∀{l:List Int},(∀x∈l,0≤x∧x < 10000)→(ji l).length≤5*l.length
 | [],_=>by simp[ji]
 | n::l,h=>by
  have h1:=h n (by simp);have h2:=Zs1 n.toNat (by omega);have h3:=Y3 (l:=l) (fun x hx=>h x (by simp[hx]));rw[Jb,Jq h1.1];simp only[List.length_append,List.length_cons];omega
namespace yV
variable{P:Program}{F:ED}(S:yV P F)
include S
theorem P66(a b:List Int)(ha:Len a)(hb:Len b):aM P F.EI [au a,au b] (aG (a == b)):=S.WW.pure S.hm rfl (Z7E _ a b ha hb)
theorem P5W(d:aB)(ok:lU d)(m:Int)(hm:m≤3000):aM P F.QH [aH d,ak m] (aG (Dl d m)):=S.WU.pure S.hm rfl (Z7m _ d m ok hm)
theorem XU(d:aB)(ok:lU d):aM P F.Bg [aH d] (aG (fE d)):=S.WV.pure S.hm rfl (Z7n _ d ok)
theorem P6p(d:aB)(ok:lU d)(l:List Int)(hl:Len l):aM P F.Lf [aH d,au l] (ak (tu (sI d l))):=S.Xh.pure S.hm rfl (Z7S d l hl (S.XU d ok))
theorem XQ(d:aB)(ok:lU d)(l:List Int)(hl:Len l):aM P F.HY [aH d,au l] (aG (lg d l)):=S.WT.pure S.hm rfl (Yg d l (S.P6p d ok l hl))
theorem Lp(l:List Int)(p:Int→Bool)(g:FuncId)(cap:List AV)(hl:Len l)(hcap:∀y∈cap,aV y)(hp:∀x∈l,aM P g (ak x::cap) (aG (p x))):aM P F.Cr [au l,.aO g [] cap] (aG (l.any p)):=
 S.WO.pure S.hm rfl (Yj (enc:=ak) aX hcap (S.WR.pure S.hm rfl (Yk (enc:=ak) hl (fun _=>rfl) aX hcap hp)))
theorem P57(l:List (List Int))(p:List Int→Bool)(g:FuncId)(cap:List AV)(hl:Len l)(hcap:∀y∈cap,aV y)(hp:∀x∈l,aM P g (au x::cap) (aG (p x))):aM P F.KY [aN l,.aO g [] cap] (aG (l.any p)):=
 S.WM.pure S.hm rfl (Yj (enc:=au) bD hcap (S.WQ.pure S.hm rfl (Yk (enc:=au) hl (fun _=>rfl) bD hcap hp)))
omit S in
theorem P5c(k:Nat):aV (.aO F.Iw [] [.bF (ak k) 0]):=.aO _ _ _ bB (aR (.bF _ _ (aX _)) bB)
theorem Ir(d:aB)(ok:lU d):aM P F.CG [aH d] (aG (fE d)):=by
 refine S.XB.pure S.hm rfl (Zc8 d ok ?_);refine S.P57 d.next (zZ d) F.Ll _ ok.next (aR (.bF _ _ (dW d)) (aR (.bF _ _ (P5c _)) bB)) (fun r hr=>?_)
 refine S.Xv.pure S.hm rfl (Zax d r ?_);exact S.Lp r (Ea d.next.length) F.Iw _ (ok.rows r hr) (aR (.bF _ _ (aX _)) bB) (fun t _=>S.Xu.pure S.hm rfl (Zaw _ t _))
theorem P5F(d:aB)(ok:lU d)(l:List Int)(hl:Len l):aM P F.LJ [aH d,au l] (ak (tu (sI d l))):=S.XM.pure S.hm rfl (Zec d l hl (S.Ir d ok))
theorem XH(d:aB)(ok:lU d)(l:List Int)(hl:Len l):aM P F.Iq [aH d,au l] (aG (lg d l)):=S.Xr.pure S.hm rfl (Yg d l (S.P5F d ok l hl))
theorem LH:wH P F.Cx (qx 1 8 (.v (.int .i64 0))) [.t 2] 1:=ZT S.hm S.WY
theorem P6t:ZrJ P F.Cx F.Bf F.Bd:=⟨S.LH,S.sort,S.comp,S.CQ,S.CP⟩
theorem P6q(l:List Int)(hl:l.length≤17592186043904):aM P F.zL [au l] (au (jm l)):=S.XP.pure S.hm rfl (Zev S.P6t l hl)
theorem P5V(a b:List Int)(ha:Len a)(hb:Len b):aM P F.KU [au a,au b] (aG (a == b)):=S.WZ.pure S.hm rfl (Zab a b ha hb)
theorem P67(l:List Int)(a b:Int)(hl:l.length≤17592186043904):aM P F.LG [au l,ak a,ak b] (aG (qc l a b)):=S.XL.pure S.hm rfl (Zdy l a b hl (S.P6q l hl) S.P5V)
theorem P5i(n:Net)(h:zh n):aM P F.Lv [iV n] (aG (sO n)):=S.XG.pure S.hm rfl (Zcc n h.ok (fun l hl a b=>S.P67 l a b (by have:=h.rows l hl;omega)))
theorem P5Y(l:List Int)(x:Int)(hl:Len l):aM P F.KV [au l,ak x] (ak (tV (fun y=>x == y) l)):=S.W9.pure S.hm rfl (Zac l x hl)
theorem XD(l:List Int)(x:Int)(hl:Len l):aM P F.EL [au l,ak x] (aG (l.contains x)):=S.WS.pure S.hm rfl (Z8B l x (S.P5Y l x hl))
theorem P69(l:List Int)(hx:∀x∈l,0≤x∧x < 10000)(hl:l.length≤1000000):aM P F.IE [au l] (qh (ji l)):=by
 have h1:=Y3 hx;exact Zdm S.hm S.XI S.X3 S.VN S.itoa hx (by omega) (by omega)
theorem P6s(n:Net)(h:n.follow.length≤1000):Gu P F.Lg F.LQ n:=by
 intro id km most ss v set St K X M hv hs hm h1 h2 h3;refine S.Xj.CO S.hm rfl ?_;exact ZfH M (S.P69 set (fun x hx=>⟨(hv.1 x hx).1,by have:=(hv.1 x hx).2;omega⟩) (by have:=hv.2;omega)) hv.nn (fun s h=>(hs.v s h).nn) hs.l hm h1 h2 h3
theorem P6f:Zp1 P F.EL F.Bf F.Bd:=⟨S.XD,S.sort,S.comp,S.CQ,S.CP⟩
theorem Yb(n:Net)(R:pI n):Oz P F.Ip n:=fun set s hv=>S.Xp.LM S.hm rfl (Zdl R S.P6f set (by have:=hv.2;omega) hv.1 s)
theorem P6o(n:Net)(h:zh n)(s:Int):aM P F.EK [ak s,.bF (lI n) 0] (aG (n.last.contains s)):=S.Xi.pure S.hm rfl (Zbt n s (S.XD n.last s h.ok.last))
omit S in
theorem P5b(n:Net):∀y∈[AV.bF (lI n) 0],aV y:=aR (.bF _ _ (YO n)) bB
theorem P6n(n:Net)(h:zh n)(a:List Int)(ha:Len a):aM P F.Cr [au a,.aO F.EK [] [.bF (lI n) 0]] (aG (a.any fun s=>n.last.contains s)):=
 S.Lp a _ F.EK _ ha (P5b n) (fun x _=>S.P6o n h x)
theorem X8(n:Net)(h:zh n):NS P F.Io n:=fun set hv=>S.Xo.pure S.hm rfl (Zdk n set (S.P6n n h set (Zjg hv.2 (by omega))))
theorem P6e:NT P F.KX 1 (.v (.int .i64 0)):=Zkr S.hm (by omega) rfl (by omega) S.Xa
theorem P5E(l:List Int)(hl:l.length≤1000):aM P F.Cw [.sl true [.sl true [ak 0],au l]] (au (0::l)):=by
 have:=Zf1 S.hm S.P6e (by omega) S.WX (enc:=ak) aX (fun _=>rfl) [(true,[0]),(false,l)] (by simp) (by simp;omega);simpa[au] using this
theorem X6(n:Net)(h:zh n)(most:Int)(kd:Kd)(fb:FuncId)(hb:pI n→HB P fb n kd):aM P F.Iu [iV n,ak most,.aO fb [] []] (sQ (BP kd n most)):=by
 have:=Zlx S.hm S.m1 S.Yc S.Xd S.Xx (most:=most) (S.P5i n h) (fun R=>S.P6s n h.follow) (fun R=>hb ((Mt n).mp R)) (fun _=>S.X8 n h);rw[ZiC] at this;exact this.pure (aR (CX n) (aR (aX _) (aR (.aO _ _ _ bB bB) bB))) (Tf _)
theorem P60(n:Net)(h:zh n)(most:Int):aM P F.Ls [iV n,ak most] (sQ (BP .tails n most)):=
 S.XC.pure S.hm rfl (Yu (S.X6 n h most .tails F.Lm (fun R=>.tails S.hm R (S.Yb n R) S.Xw S.P5E)))
theorem P5X(n:Net)(h:zh n)(most:Int):aM P F.Lr [iV n,ak most] (sQ (BP .heads n most)):=
 S.XA.pure S.hm rfl (Yu (S.X6 n h most .heads F.Lj (fun R=>.heads S.hm (S.Yb n R) (S.X8 n h) S.Xt)))
theorem P6a{d:aB}(R:bg d){c:List Int}(hcl:c.length=d.next.length)(hc:∀n∈c,vJ n)(s:Nat)(hs:s < d.next.length):aM P F.IC [aH d,au c,ak s] (wY (sV d c s)):=
 Zkd S.hm S.Xq S.X4 S.VN S.itoa R hcl hc hs
theorem P5g{d:aB}(R:bg d):aM P F.Li [aH d] (au (tL d)):=
 S.Xe.uU S.hm rfl (Ze7 R (S.Xg.uU S.hm rfl (Zfm d (by have:=R.fin;have:=R.n2;omega))) (fun c hcl hc=>S.Xy.uU S.hm rfl (Zhy R hcl hc (S.P6a R hcl hc))))
theorem P5Z(d:aB)(ok:lU d):aM P F.LC [aH d] (sQ (DT d)):=S.XJ.uU S.hm rfl (Zdt (S.Ir d ok) S.P5g)
theorem P68(b a:aB)(most:Int)(ob:lU b)(oa:lU a):aM P F.LA [aH b,aH a,ak most] (sQ (sS b a most)):=
 S.XO.uU S.hm rfl (ZfF b a most (S.Ir b ob) (S.Ir a oa) (fun o ss x ho hl=>Zjv S.hm S.Xc b a o ss ho hl x)
  (fun Rb Ra hs x s hx hlt=>S.Xb.uU S.hm rfl (Zf7 Rb Ra hs x hx s hlt)))
end yV
namespace yV
variable{P:Program}{F:ED}(S:yV P F)
include S
theorem XV(s:List Int)(p:Int)(hs:s.length≤1000000):aM P F.EP [au s,ak p] (au (bT s p)):=
 S.QN.pure S.hm rfl (ZbQ s p hs (S.Lp s ql F.Il [] (by unfold Len;omega) bB (fun x _=>S.QS.pure S.hm rfl (Yn _ x))))
theorem P5J(s:List Int)(p:Int)(hs:s.length≤1000000):rQ P F.EP [au s,ak p] (au (bT s p)):=
 S.QN.LM S.hm rfl (Yo s p hs (S.Lp s ql F.Il [] (by unfold Len;omega) bB (fun x _=>S.QS.pure S.hm rfl (Yn _ x))))
theorem XE(s:List Int)(p:Int)(hs:s.length≤1000000):aM P F.EG [au s,ak p] (au (bT s p)):=S.Qz.pure S.hm rfl (Z7o _ s p hs)
theorem P5a(s:List Int)(p:Int)(hs:s.length≤1000000):rQ P F.EG [au s,ak p] (au (bT s p)):=S.Qz.LM S.hm rfl (Yh _ s p hs)
omit S in
theorem XF(s:List Int)(p:Int)(hs:s.length≤1000000):Len (bT s p):=by
 have:(bT s p).length≤s.length:=by
  unfold bT;split
  ·rw[qW];exact Nat.le_refl _
  ·simp
 unfold Len;omega
theorem cAt(d:aB)(ok:lU d)(l:List Int)(hl:l.length≤1000000)(p:Int):aM P F.LD [aH d,au l,ak p] (aG (ug d l p)):=
 S.XK.uU S.hm rfl (Zic d l p (S.XV l p hl) (S.XH d ok _ (XF l p hl)))
theorem XT(d:aB)(ok:lU d)(l:List Int)(hl:l.length≤1000000)(p:Int):aM P F.K8 [aH d,au l,ak p] (aG (ug d l p)):=
 S.Xl.uU S.hm rfl (ZhK d l p (S.XE l p hl) (S.XQ d ok _ (XF l p hl)))
end yV
end Go.Rf
namespace Go.Proofs.YtdmcjhnbmgmgoaaGreatDoor
open Go.ChangeShapes Go.WideShapes Go.ChangeAt Go.RowKit Go.Rf
theorem yC:Tryz.prog.follows .mixedOrders=true:=by kernel_rfl
theorem Zps:Is Tryz.prog 80 (CS 1 8 (.v (.int .i64 0))) [2] 1:=.k Tryz.func80 (by kernel_rfl)
theorem LH:wH Tryz.prog 80 (qx 1 8 (.v (.int .i64 0))) [.t 2] 1:=ZT yC Zps
noncomputable def J8:Tab:=VA Tryz.prog (fun f=>bif Nat.beq f 80 then some (qx 1 8 (.v (.int .i64 0)),[.t 2],1) else none) (fun _=>none)
theorem ZmO:yc Tryz.prog J8:=by
 refine ZoK yC (fun f p h=>?_) (fun f g args v h=>by cases h);cases hb:Nat.beq f 80 with
 | true=>
  rw[hb] at h;have:f=80:=Nat.eq_of_beq_eq_true hb;subst this;cases h;exact @LH
 | false=>rw[hb] at h;cases h
theorem ZjW:Ca J8 (yE J8 500) 66 [.sl true []]=some (.aL [],true):=by kernel_rfl
theorem ZjT:Ca J8 (yE J8 500) 67 [.sl true []]=some (.sl true [],true):=by kernel_rfl
theorem ZlW:aM Tryz.prog 66 [.sl true []] (.aL []):=.Q7 yC ZmO 500 ZjW
theorem ZlV:aM Tryz.prog 67 [.sl true []] (.sl true []):=.Q7 yC ZmO 500 ZjT
theorem ZoE:Ak Tryz.prog 66:=Zrj
theorem ZoB:Aj Tryz.prog 67:=Zrh
theorem Zql:zu Tryz.prog 133 135 136 167 5:=Zs5
theorem ZoC:Ba Tryz.prog 134 (fun n=>0≤n∧n < 10000):=Zri
theorem ZjY:ze Tryz.prog 132 167:=by unfold ze;kernel_rfl
theorem ZjZ:ze Tryz.prog 115 167:=by unfold ze;kernel_rfl
theorem Zrx:GD Tryz.prog 48=some (Dw 81 82 84 83):=by kernel_rfl
theorem ZoD:Dx Tryz.prog 82=some (5,2,Dg 122,16):=by kernel_rfl
def fnM:ED:={ EI:=18,QH:=13,Xm:=12,QF:=35,QG:=36,Bg:=38,Lf:=70,HY:=41,CG:=54,Iw:=88,Ll:=90,KY:=89,Cr:=72,Qj:=114,K4:=102,LJ:=73,Iq:=44,KU:=131,EL:=86,KV:=113,Cx:=80,KX:=85,Cw:=50,zL:=79,LG:=111,Lv:=81,Lx:=76,K9:=77,La:=78,Qk:=105,Qy:=106,QT:=108,QU:=107,Q0:=109,Lh:=110,Q5:=47,Lb:=58,EJ:=60,Ig:=59,Ql:=93,Le:=94,Qm:=95,QJ:=30,QC:=116,K6:=96,Qu:=137,Qp:=117,IE:=132,Lg:=112,QM:=83,QX:=84,Ip:=51,Io:=53,EK:=87,Ls:=26,Lm:=49,Lr:=27,Lj:=52,Qw:=118,Qv:=119,Lc:=98,QD:=97,Ld:=61,Qn:=31,QI:=32,QO:=91,IC:=115,QY:=92,Li:=57,LC:=29,Qo:=99,QA:=63,QK:=34,Qt:=55,Qs:=56,LA:=28,Qq:=62,QL:=33,QZ:=25,XR:=10,Xf:=11,K7:=24,Xk:=9,Il:=71,EP:=43,EG:=42,LD:=16,K8:=17,Bf:=66,Bd:=67,strconv_Itoa:=134,KZ:=133,K5:=135,KW:=136,Iu:=48,QW:=82,LQ:=122,LU:=167 }
theorem wF:yV Tryz.prog fnM:={ hm:=yC,WW:=.k Tryz.func18 (by kernel_rfl),WU:=.k Tryz.func13 (by kernel_rfl),P3a:=.k Tryz.func12 (by kernel_rfl),P2Q:=.k Tryz.func35 (by kernel_rfl),P2S:=.k Tryz.func36 (by kernel_rfl),WV:=.k Tryz.func38 (by kernel_rfl),Xh:=.k Tryz.func70 (by kernel_rfl),WT:=.k Tryz.func41 (by kernel_rfl),XB:=.k Tryz.func54 (by kernel_rfl),Xu:=.k Tryz.func88 (by kernel_rfl),Xv:=.k Tryz.func90 (by kernel_rfl),WM:=.k Tryz.func89 (by kernel_rfl),WO:=.k Tryz.func72 (by kernel_rfl),WQ:=.k Tryz.func114 (by kernel_rfl),WR:=.k Tryz.func102 (by kernel_rfl),XM:=.k Tryz.func73 (by kernel_rfl),Xr:=.k Tryz.func44 (by kernel_rfl),WZ:=.k Tryz.func131 (by kernel_rfl),WS:=.k Tryz.func86 (by kernel_rfl),W9:=.k Tryz.func113 (by kernel_rfl),WY:=.k Tryz.func80 (by kernel_rfl),Xa:=.k Tryz.func85 (by kernel_rfl),WX:=.k Tryz.func50 (by kernel_rfl),XP:=.k Tryz.func79 (by kernel_rfl),XL:=.k Tryz.func111 (by kernel_rfl),XG:=.k Tryz.func81 (by kernel_rfl),P4R:=.k Tryz.func76 (by kernel_rfl),P3P:=.k Tryz.func77 (by kernel_rfl),P40:=.k Tryz.func78 (by kernel_rfl),P1R:=.k Tryz.func105 (by kernel_rfl),P3w:=.k Tryz.func106 (by kernel_rfl),P3Z:=.k Tryz.func108 (by kernel_rfl),P41:=.k Tryz.func107 (by kernel_rfl),P4I:=.k Tryz.func109 (by kernel_rfl),P3v:=.k Tryz.func110 (by kernel_rfl),P5l:=.k Tryz.func47 (by kernel_rfl),P38:=.k Tryz.func58 (by kernel_rfl),P3s:=.k Tryz.func60 (by kernel_rfl),P2j:=.k Tryz.func59 (by kernel_rfl),P2c:=.k Tryz.func93 (by kernel_rfl),P3q:=.k Tryz.func94 (by kernel_rfl),P2k:=.k Tryz.func95 (by kernel_rfl),P3K:=.k Tryz.func30 (by kernel_rfl),P2J:=.k Tryz.func116 (by kernel_rfl),P2R:=.k Tryz.func96 (by kernel_rfl),P3r:=.k Tryz.func137 (by kernel_rfl),P39:=.k Tryz.func117 (by kernel_rfl),XI:=.k Tryz.func132 (by kernel_rfl),Xj:=.k Tryz.func112 (by kernel_rfl),Xd:=.k Tryz.func83 (by kernel_rfl),Xx:=.k Tryz.func84 (by kernel_rfl),Xp:=.k Tryz.func51 (by kernel_rfl),Xo:=.k Tryz.func53 (by kernel_rfl),Xi:=.k Tryz.func87 (by kernel_rfl),XC:=.k Tryz.func26 (by kernel_rfl),Xw:=.k Tryz.func49 (by kernel_rfl),XA:=.k Tryz.func27 (by kernel_rfl),Xt:=.k Tryz.func52 (by kernel_rfl),P3u:=.k Tryz.func118 (by kernel_rfl),P3t:=.k Tryz.func119 (by kernel_rfl),P3b:=.k Tryz.func98 (by kernel_rfl),P2K:=.k Tryz.func97 (by kernel_rfl),P3c:=.k Tryz.func61 (by kernel_rfl),P2U:=.k Tryz.func31 (by kernel_rfl),P2T:=.k Tryz.func32 (by kernel_rfl),Xg:=.k Tryz.func91 (by kernel_rfl),Xq:=.k Tryz.func115 (by kernel_rfl),Xy:=.k Tryz.func92 (by kernel_rfl),Xe:=.k Tryz.func57 (by kernel_rfl),XJ:=.k Tryz.func29 (by kernel_rfl),P2V:=.k Tryz.func99 (by kernel_rfl),P2B:=.k Tryz.func63 (by kernel_rfl),P3L:=.k Tryz.func34 (by kernel_rfl),Xc:=.k Tryz.func55 (by kernel_rfl),Xb:=.k Tryz.func56 (by kernel_rfl),XO:=.k Tryz.func28 (by kernel_rfl),P3d:=.k Tryz.func62 (by kernel_rfl),P3M:=.k Tryz.func33 (by kernel_rfl),P4H:=.k Tryz.func25 (by kernel_rfl),P50:=.k Tryz.func10 (by kernel_rfl),P3N:=.k Tryz.func11 (by kernel_rfl),P2X:=.k Tryz.func24 (by kernel_rfl),P2W:=.k Tryz.func9 (by kernel_rfl),QS:=.k Tryz.func71 (by kernel_rfl),QN:=.k Tryz.func43 (by kernel_rfl),Qz:=.k Tryz.func42 (by kernel_rfl),XK:=.k Tryz.func16 (by kernel_rfl),Xl:=.k Tryz.func17 (by kernel_rfl),m1:=Zrx,Yc:=ZoD,X3:=ZjY,X4:=ZjZ,sort:=ZoE,comp:=ZoB,CQ:=ZlW,CP:=ZlV,VN:=Zql,itoa:=ZoC }
end Go.Proofs.YtdmcjhnbmgmgoaaGreatDoor
namespace Go.Proofs.YtdmcjhnbmgmgoaaGreatDoor
open Go.ChangeShapes Go.WideShapes Go.ChangeAt Go.RowKit Go.Rf
theorem Zs8:Is Tryz.prog 37 (CV 54 64 65 66 67 43 44) [2,3,4] 1:=⟨Tryz.f37,Tryz.f37.body.getD .skip,Tryz.func37,by kernel_rfl,by kernel_rfl,by kernel_rfl,by kernel_rfl,by rw[Tryz.ntmps37];decide⟩
theorem ZR{n:Net}(h:PX n=true):zh n:=by
 simp only[PX,Bool.and_eq_true,List.all_eq_true,Nat.ble_eq] at h;obtain⟨⟨h1,h2⟩,h3⟩:=h;exact⟨h1,by omega,by omega⟩
def Zr9:List (Nat×AC×List RV×Nat):=[(80,qx 1 8 (.v (.int .i64 0)),[.t 2],1),(37,CV 54 64 65 66 67 43 44,[.t 2,.t 3,.t 4],1)]
def Zrp:List (Nat×(List AV→Option AV)):=[(26,Qa .tails),(27,Qa .heads),(28,WK fun b a m=>sQ (sS b a m)),(29,x1 fun d=>sQ (DT d))]
noncomputable def tab:Tab:=OP Tryz.prog (Dv Zr9) (fun _=>none) (Dv Zrp)
theorem ZrC:yc Tryz.prog tab:=
 ZoH yC (all_cons @LH (all_cons (Zs8.P6m yC) Zi7))
  (all_cons (fun _ _ h=>ZmR (fun n m hk=>wF.P60 n (ZR hk) m) h) (all_cons (fun _ _ h=>ZmR (fun n m hk=>wF.P5X n (ZR hk) m) h)
   (all_cons (fun _ _ h=>Zqy (fun b a m hb ha=>wF.P68 b a m hb ha) h) (all_cons (fun _ _ h=>ZrE (fun d hd=>wF.P5Z d hd) h) Zi7))))
theorem ZnS:Ca tab (yE tab 500) 8 []=some (aG true,true):=by kernel_rfl
theorem Zpf:aM Tryz.prog 8 [] (aG true):=.Q7 yC ZrC 500 ZnS
end Go.Proofs.YtdmcjhnbmgmgoaaGreatDoor
namespace Go.Proofs.YtdmcjhnbmgmgoaaGreatDoor
open Go.ChangeShapes Go.WideShapes Go.ChangeAt Go.RowKit Go.Rf
def WH:Qb:={ i:=3,b:=4,is:=23,PL:=31,bs:=32,d:=34 }
theorem ZmQ:Ae Tryz.prog WH=true:=by kernel_rfl
theorem Zs0(n:Nat):iP Tryz.prog n 3 Rf.ak vZ:=iP.int (by kernel_rfl) (by kernel_rfl) n
theorem Zrc:∀n,iP Tryz.prog n 23 au O5:=Zmq (T:=WH) ZmQ
theorem Zrd:∀n,iP Tryz.prog n 34 aH GA:=Znx (T:=WH) ZmQ
theorem Zp9:∀x:aB,aH x=.agg ((aH x).cells):=fun x=>rfl
theorem ZpS:∃fs,Tryz.prog.underlying 34=some (.struct fs)∨∃n e,Tryz.prog.underlying 34=some (.array n e):=⟨(match Tryz.prog.underlying 34 with | some (.struct fs)=>fs | _=>#[]),.inl (by kernel_rfl)⟩
abbrev JL:List (String×DataW Unit):=[("math/bits.deBruijn32tab",Rows.laid_math_bits_deBruijn32tab),("math/bits.deBruijn64tab",Rows.laid_math_bits_deBruijn64tab),("internal/strconv.uint64pow10",Rows.laid_internal_strconv_uint64pow10)]
theorem Zlb(os:Os)(args:Array Value):laidMetH Tryz.prog JL ((World.doorLaid Tryz.prog 400 os).forCall (fun _ _=>0) ⟨#[],args,[]⟩).memory:=
 laidMetH_of_parts3 (fuel:=8) (laidMet_of_run' 8 (by kernel_rfl) (by kernel_rfl)) (by kernel_rfl) (by kernel_rfl)
theorem Zs4(W:World)(h:laidMetH Tryz.prog JL W):jd Tryz.prog (E0 W).H:=
 Zlk h (by kernel_rfl) (List.mem_cons_of_mem _ (List.mem_cons_of_mem _ (List.mem_singleton.mpr (by kernel_rfl)))) (g:=0) (t:=194) (e:=162) (n:=20) (by kernel_rfl) (by kernel_rfl) (by kernel_rfl) (by kernel_rfl) (by kernel_rfl) (by kernel_rfl)
end Go.Proofs.YtdmcjhnbmgmgoaaGreatDoor
namespace Go.Rf
structure Qe where
 marked:FuncId
 phased:FuncId
 EX:FuncId
 ES:FuncId
 CJ:FuncId
 halves:FuncId
 EZ:FuncId
 ER:FuncId
 witness:FuncId
 places:FuncId
 ET:FuncId
structure Yd(P:Program)(F:ED)(G:Qe):Prop where
 marked:Is P G.marked (CV F.CG G.phased G.EX F.Bf F.Bd F.EP F.Iq) [2,3,4] 1
 phased:ku P G.phased RS [.c 2 (some 2)] 1
 EX:Is P G.EX RB [2] 1
 ES:Is P G.ES (IV F.Bg G.CJ G.halves F.EG F.HY) [2,3,4] 1
 CJ:Is P G.CJ (Rq G.EZ G.ER) [4] 2
 halves:Is P G.halves Rp [6] 3
 EZ:Is P G.EZ Rt [4] 2
 ER:Is P G.ER (Ro G.halves) [4] 2
 witness:Is P G.witness (RL G.marked) [2,3,4] 1
 places:Is P G.places (RH F.LD) [4] 2
 ET:Is P G.ET (Rs F.K8) [4] 2
theorem Zjk(d:aB):(jK d).length≤9000:=by
 by_cases hR:fE d=true
 ·exact Zly ((wQ d).mp hR)
 ·have hno:jZ d=false:=by simp only[Bool.not_eq_true] at hR;simp[jZ,hR]
  rw[(Zjl hno).1];simp
namespace yV
variable{P:Program}{F:ED}{G:Qe}(S:yV P F)(T:Yd P F G)
include S
theorem X5(a:List Int)(ha:a.length≤1000000):aM P F.EI [au a,au a] (aG true):=by
 have:=S.P66 a a (by unfold Len;omega) (by unfold Len;omega);simpa using this
include T
theorem P5H(d:aB)(ok:lU d):aM P G.marked [aH d] (.aL [au (jK d),ak (vU d),aG (jZ d)]):=
 T.marked.pure S.hm rfl (ZaA S.sort S.comp d (S.Ir d ok) (fun R=>T.phased.pure S.hm rfl (ZaB d R)) (fun R=>T.EX.pure S.hm rfl (Z94 _ _ (OO R)))
  (fun s p hs=>⟨S.XV s p hs,S.P5J s p hs⟩) (fun l hl=>S.XH d ok l hl))
theorem P5o{d:aB}(R:bg d)(X:List aP)(h:Nat)(hT:X.length=d.next.length)(hh:((2*h+1:Nat):Int) < d.signs):rQ P G.halves [aH d,bK X,ak h] (bK (kW d X h)):=
 T.halves.LM S.hm rfl (Yi R hT hh)
theorem XY{d:aB}(R:bg d)(X:List aP)(h:Nat)(hT:X.length=d.next.length)(hh:((2*h+1:Nat):Int) < d.signs):aM P G.halves [aH d,bK X,ak h] (bK (kW d X h)):=
 T.halves.pure S.hm rfl (xQ _ (fun e a S h=>Sr (fun r S h=>h.fz) h) (Yi R hT hh))
theorem P5G{d:aB}(R:bg d)(X:List aP)(hT:X.length=d.next.length):aM P G.CJ [aH d,bK X] (ak (vD d X)):=
 T.CJ.pure S.hm rfl (Z6U R hT (fun X hT=>T.EZ.pure S.hm rfl (Z7F R hT)) (fun X hT=>T.ER.pure S.hm rfl (Z6L R hT (fun h hh=>S.XY T R X h hT hh))))
theorem P58(d:aB)(ok:lU d):aM P G.ES [aH d] (.aL [au (jK d),ak (vU d),aG (jZ d)]):=
 T.ES.pure S.hm rfl (Z6T d (S.XU d ok) (fun R=>⟨fun X hT=>S.P5G T R X hT,fun X h hT hh=>⟨S.XY T R X h hT hh,S.P5o T R X h hT hh⟩⟩) (fun s p hs=>⟨S.XE s p hs,S.P5a s p hs⟩) (fun l hl=>S.XQ d ok l hl))
theorem P5p(d:aB)(ok:lU d):aM P G.witness [aH d] (.aL [au (jK d),ak (vU d),aG (jZ d)]):=
 T.witness.pure S.hm rfl (ZdX d _ _ _ (S.P5H T d ok))
theorem P5I(d:aB)(ok:lU d)(l:List Int)(hl:l.length≤100000):aM P G.places [aH d,au l] (au (p9 d l l.length)):=
 T.places.uU S.hm rfl (Zaz d l hl (fun i _=>S.cAt d ok l (by omega) i))
theorem P59(d:aB)(ok:lU d)(l:List Int)(hl:l.length≤100000):aM P G.ET [aH d,au l] (au (p9 d l l.length)):=
 T.ET.uU S.hm rfl (Zce d l hl (fun i _=>S.XT d ok l (by omega) i))
end yV
end Go.Rf
namespace Go.Proofs.YtdmcjhnbmgmgoaaGreatDoor
open Go.ChangeShapes Go.WideShapes Go.ChangeAt Go.RowKit Go.Rf
def fnP:Qe:={ marked:=37,phased:=64,EX:=65,ES:=15,CJ:=39,halves:=40,EZ:=68,ER:=69,witness:=14,places:=19,ET:=20 }
theorem P5:Yd Tryz.prog fnM fnP:={ marked:=.k Tryz.func37 (by kernel_rfl),phased:=.k Tryz.func64 (by kernel_rfl),EX:=.k Tryz.func65 (by kernel_rfl),ES:=.k Tryz.func15 (by kernel_rfl),CJ:=.k Tryz.func39 (by kernel_rfl),halves:=.k Tryz.func40 (by kernel_rfl),EZ:=.k Tryz.func68 (by kernel_rfl),ER:=.k Tryz.func69 (by kernel_rfl),witness:=.k Tryz.func14 (by kernel_rfl),places:=.k Tryz.func19 (by kernel_rfl),ET:=.k Tryz.func20 (by kernel_rfl) }
end Go.Proofs.YtdmcjhnbmgmgoaaGreatDoor
