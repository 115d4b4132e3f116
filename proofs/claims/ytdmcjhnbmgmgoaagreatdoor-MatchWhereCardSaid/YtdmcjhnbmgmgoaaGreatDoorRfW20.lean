import Derived.Test.YtdmcjhnbmgmgoaaGreatDoorRfZ4
import Derived.Test.YtdmcjhnbmgmgoaaGreatDoorRows
import Derived.WalkKit
import Derived.ProofKit
import Derived.Below
import Derived.SizedLaws
import Derived.KernelRfl
import Derived.Test.YtdmcjhnbmgmgoaaGreatDoorCards
import Derived.Test.YtdmcjhnbmgmgoaaGreatDoorTie
import Derived.LaidMore
import Derived.OpenShut
import Derived.Stop.Joined
import Derived.SevenTiedAt
set_option linter.unusedVariables false
set_option linter.unusedSimpArgs false
set_option linter.unusedSectionVars false
namespace Go.Rf
open Go.RowKit
attribute [local simp] mW mV oF pG pJ pQ pK nA qy pO ow pq mK oz kD qw pY qO qL qK qE qN oO oL ql pR qz qG qF qA qo pU qm qI qH oK kT pI pV pW pz o7 eG iB iU iy iR iN iM iT iO gG iP fH iF iQ iE eT eU gD ig je jf gZ jk fU fQ fE eO gV gW gX gP gQ jg iV iH jc iX iZ iY jd jh iK iq gT gU gM iw dO eP gI iL ji ex aH fF dF eY cK dn aL bT fJ gH eZ gN iD iC iW iJ bS dN dV fZ fV gY fu bD pE ny dL eH qc o8 pX oh fC gB gq gy fM dA eX eB d9 bB qx oD oq qj o9 qg qh p9 kZ qd p8 qb S0 ah aD rA q9 rC om og qp rJ rz rH rP rG rO rE rM rD tO gL.cl bW.cl aW dY aT jR jG tN tK tL mM sO sP sN tX jM jS kU tY qW qD r9 uh um uj tV nZ oH uq rW tT rX ou sM jy uy dW mF bN oV
def ZkI:AC:= (.loop (.seq (sq [rm 5 4,rm 6 0,ro 7 (.len (.t 6)),ro 8 (.bin .lss (.t 5) (.t 7))] (.cond (.t 8) .skip (.exit 0))) (.seq (.block 1 (.reg none [rm 11 0,rm 12 4,rm 13 0,rm 14 4,ro 15 (.aM 1 (.t 13) (.t 14)),rL 16 15,rm 17 16,rg 18 17 false (.mv (.t 1)),rg 19 17 false (.mv (.t 4)),rg 20 17 false (.aM 1 (.t 18) (.t 19)),rg 21 17 false (.load none (.t 20)),ro 22 (.pick (.t 17) (.c (.v (.bool true))) (.t 21)),ro 23 (.aM 1 (.t 11) (.t 12)),rn (.store 1 (.t 23) (.t 22))])) (.reg none [rm 9 4,ro 10 (.bin .add (.t 9) (ci 1)),rm 4 10]))))
def Vo:AC:= (sq [ro 4 (.mv (ci 0))] (.block 0 ZkI))
def ZkH(KP:FuncId):AC:= (.loop (.seq (sq [rm 47 9,rm 48 1,ro 49 (.len (.t 48)),ro 50 (.bin .lss (.t 47) (.t 49))] (.cond (.t 50) .skip (.exit 1))) (.seq (.block 2 (.reg (some []) [rm 53 7,rm 54 9,ro 55 (.bin .add (.t 54) (ci 1)),rm 56 2,rm 57 9,ro 58 (.aM 1 (.t 56) (.t 57)),rL 59 58,rm 60 59,rg 61 60 true (.cu 2 (.t 3)),rg 62 60 true (.load none (.t 61)),rg 63 60 true (.mv (.t 1)),rg 64 60 true (.mv (.t 9)),rg 65 60 true (.aM 1 (.t 63) (.t 64)),rg 66 60 true (.load none (.t 65)),rl 67 60 true KP [(.t 62),(.t 66)],ro 68 (.pick (.t 60) (.t 67) (.c (.v (.bool false)))),ro 69 (.aM 1 (.t 53) (.t 55)),rn (.store 1 (.t 69) (.t 68))])) (.reg none [rm 51 9,ro 52 (.bin .add (.t 51) (ci 1)),rm 9 52]))))
def ZkF(yQ:FuncId):AC:= (.loop (.seq (sq [rm 77 10,rF 78 3 3,rL 79 78,ro 80 (.len (.t 79)),ro 81 (.bin .lss (.t 77) (.t 80))] (.cond (.t 81) .skip (.exit 3))) (.seq (.block 4 (.reg none [rF 84 3 3,rL 85 84,rm 86 10,ro 87 (.aM 4 (.t 85) (.t 86)),ro 88 (.load (some 4) (.t 87)),rm 89 1,rm 90 7,rk 91 yQ [(.t 88),(.t 89),(.t 90)],rm 7 91])) (.reg none [rm 82 10,ro 83 (.bin .add (.t 82) (ci 1)),rm 10 83]))))
def ZkG(yQ Cg:FuncId):AC:= (.loop (.seq (sq [rm 96 11,rF 97 3 3,rL 98 97,ro 99 (.len (.t 98)),ro 100 (.bin .lss (.t 96) (.t 99))] (.cond (.t 100) .skip (.exit 5))) (.seq (.block 6 (.reg none [rm 103 7,rF 104 3 3,rL 105 104,rm 106 11,ro 107 (.aM 4 (.t 105) (.t 106)),ro 108 (.load (some 4) (.t 107)),rm 109 1,rm 110 2,rk 111 yQ [(.t 108),(.t 109),(.t 110)],rk 112 Cg [(.t 103),(.t 111)]])) (.reg none [rm 101 11,ro 102 (.bin .add (.t 101) (ci 1)),rm 11 102]))))
def Xc(yQ Cg:FuncId):AC:= (.loop (.seq (sq [rm 141 13,rm 142 1,ro 143 (.len (.t 142)),ro 144 (.bin .leq (.t 141) (.t 143))] (.cond (.t 144) .skip (.exit 7))) (.seq (.block 8 (sq [rF 147 3 3,rL 148 147,ro 149 (.aM 4 (.t 148) (ci 0)),ro 150 (.load (some 4) (.t 149)),rm 151 1,rm 152 12,rk 153 yQ [(.t 150),(.t 151),(.t 152)],rm 12 153] (.reg none [rm 154 7,rm 155 12,rk 156 Cg [(.t 154),(.t 155)]]))) (.reg none [rm 145 13,ro 146 (.bin .add (.t 145) (ci 1)),rm 13 146]))))
def vO(KP yQ Cg:FuncId):AC:= (sq [ro 3 (.box 4 (.t 0)),ro 6 (.mv (.c (.sl true [])))] (sq [rm 14 2,ro 15 (.len (.t 14)),ro 16 (.zL 1 1 (.v (.bool false)) (.t 15) (.t 15)),rm 7 16] (sq [rF 17 0 3,rL 18 17,ro 19 (.bin .eql (.t 18) (ci 5)),rm 20 19,rg 21 20 false (.cu 0 (.t 3)),rg 22 20 false (.load none (.t 21)),rg 23 20 false (.bin .eql (.t 22) (ci 6)),ro 24 (.pick (.t 20) (.c (.v (.bool true))) (.t 23)),rm 25 24,rg 26 25 false (.cu 0 (.t 3)),rg 27 25 false (.load none (.t 26)),rg 28 25 false (.bin .eql (.t 27) (ci 7)),ro 29 (.pick (.t 25) (.c (.v (.bool true))) (.t 28)),rm 30 29,rg 31 30 true (.cu 3 (.t 3)),rg 32 30 true (.load none (.t 31)),rg 33 30 true (.len (.t 32)),rg 34 30 true (.bin .eql (.t 33) (ci 1)),ro 35 (.pick (.t 30) (.t 34) (.c (.v (.bool false)))),rm 8 35] (.seq (.block 0 (sq [rF 37 0 3,rL 38 37,ro 39 (.bin .eql (.t 38) (ci 1)),rm 36 39] (.cond (.t 36) (.reg none [rm 40 7,rm 41 2,ro 42 (.GX 1 (.t 40) (.t 41))]) (sq [rF 44 0 3,rL 45 44,ro 46 (.bin .eql (.t 45) (ci 2)),rm 43 46] (.cond (.t 43) (sq [ro 9 (.mv (ci 0))] (.block 1 (ZkH KP))) (sq [rF 71 0 3,rL 72 71,ro 73 (.bin .eql (.t 72) (ci 3)),rm 70 73] (.cond (.t 70) (sq [rm 74 7,rm 75 2,ro 76 (.GX 1 (.t 74) (.t 75))] (sq [ro 10 (.mv (ci 0))] (.block 3 (ZkF yQ)))) (sq [rF 93 0 3,rL 94 93,ro 95 (.bin .eql (.t 94) (ci 4)),rm 92 95] (.cond (.t 92) (sq [ro 11 (.mv (ci 0))] (.block 5 (ZkG yQ Cg))) (sq [rm 114 8,rm 115 114,rg 116 115 true (.cu 0 (.t 3)),rg 117 115 true (.load none (.t 116)),rg 118 115 true (.bin .eql (.t 117) (ci 7)),ro 119 (.pick (.t 115) (.t 118) (.c (.v (.bool false)))),rm 113 119] (.cond (.t 113) (sq [rm 120 7,rm 121 2,rk 122 Cg [(.t 120),(.t 121)]] (.reg none [rm 123 7,rF 124 3 3,rL 125 124,ro 126 (.aM 4 (.t 125) (ci 0)),ro 127 (.load (some 4) (.t 126)),rm 128 1,rm 129 2,rk 130 yQ [(.t 127),(.t 128),(.t 129)],rk 131 Cg [(.t 123),(.t 130)]])) (sq [rm 133 8,rm 132 133] (.cond (.t 132) (.seq (sq [rF 134 0 3,rL 135 134,ro 136 (.bin .eql (.t 135) (ci 5))] (.cond (.t 136) (.reg none [rm 137 7,rm 138 2,rk 139 Cg [(.t 137),(.t 138)]]) .skip)) (sq [rm 140 2,rm 12 140] (sq [ro 13 (.mv (ci 0))] (.block 7 (Xc yQ Cg))))) .skip))))))))))))) (sq [rm 157 7,rm 6 157] .ret)))))
def ZkE:AC:= (.loop (.seq (sq [rm 30 10,rm 31 8,ro 32 (.len (.t 31)),ro 33 (.bin .lss (.t 30) (.t 32))] (.cond (.t 33) .skip (.exit 0))) (.seq (.block 1 (sq [rm 36 8,rm 37 10,ro 38 (.aM 1 (.t 36) (.t 37)),rL 39 38] (.cond (.t 39) (.reg none [rm 40 9,rm 41 10,ro 42 (.dH 1 1 (.v (.int .i64 0)) [(0,(.t 41))]),ro 43 (.app 1 8 (.t 40) (.t 42)),rm 9 43]) .skip))) (.reg none [rm 34 10,ro 35 (.bin .add (.t 34) (ci 1)),rm 10 35]))))
def LB(yQ:FuncId):AC:= (sq [ro 3 (.box 4 (.t 0)),ro 6 (.mv (.c (.sl true [])))] (.seq (sq [rm 11 2,ro 12 (.bin .lss (.t 11) (ci 0)),rm 13 12,rg 14 13 false (.mv (.t 2)),rg 15 13 false (.mv (.t 1)),rg 16 13 false (.len (.t 15)),rg 17 13 false (.bin .gtr (.t 14) (.t 16)),ro 18 (.pick (.t 13) (.c (.v (.bool true))) (.t 17))] (.cond (.t 18) (sq [ro 6 (.mv (.c (.sl true [])))] .ret) .skip)) (sq [rm 19 1,ro 20 (.len (.t 19)),ro 21 (.bin .add (.t 20) (ci 1)),ro 22 (.zL 1 1 (.v (.bool false)) (.t 21) (.t 21)),rm 7 22] (sq [rm 23 7,rm 24 2,ro 25 (.aM 1 (.t 23) (.t 24)),rn (.store 1 (.t 25) (.c (.v (.bool true))))] (sq [ro 26 (.load (some 4) (.t 3)),rm 27 1,rm 28 7,rk 29 yQ [(.t 26),(.t 27),(.t 28)],rm 8 29] (sq [ro 9 (.mv (.c (.sl true [])))] (.seq (sq [ro 10 (.mv (ci 0))] (.block 0 ZkE)) (sq [rm 44 9,rm 6 44] .ret))))))))
def Ve(Uo KP:FuncId):AC:= (sq [ro 4 (.box 4 (.t 0)),ro 8 (.mv (.c (.v (.bool false))))] (sq [ro 9 (.load (some 4) (.t 4)),rm 10 1,rm 11 2,rk 12 Uo [(.t 9),(.t 10),(.t 11)],rm 13 3,rk 14 KP [(.t 12),(.t 13)],rm 8 14] .ret))
def ZkC(Uk:FuncId):AC:= (.loop (.seq (sq [rm 9 8,rm 10 2,ro 11 (.bin .leq (.t 9) (.t 10)),rm 12 11,rg 13 12 true (.mv (.t 2)),rg 14 12 true (.mv (.t 1)),rg 15 12 true (.len (.t 14)),rg 16 12 true (.bin .leq (.t 13) (.t 15)),ro 17 (.pick (.t 12) (.t 16) (.c (.v (.bool false))))] (.cond (.t 17) .skip (.exit 0))) (.seq (.block 1 (sq [ro 20 (.load (some 4) (.t 3)),rm 21 1,rm 22 8,rm 23 2,rk 24 Uk [(.t 20),(.t 21),(.t 22),(.t 23)]] (.cond (.t 24) (.reg none [rm 25 7,rm 26 8,ro 27 (.dH 1 1 (.v (.int .i64 0)) [(0,(.t 26))]),ro 28 (.app 1 8 (.t 25) (.t 27)),rm 7 28]) .skip))) (.reg none [rm 18 8,ro 19 (.bin .add (.t 18) (ci 1)),rm 8 19]))))
def Vg(Uk:FuncId):AC:= (sq [ro 3 (.box 4 (.t 0)),ro 6 (.mv (.c (.sl true [])))] (sq [ro 7 (.mv (.c (.sl true [])))] (.seq (sq [ro 8 (.mv (ci 0))] (.block 0 (ZkC Uk))) (sq [rm 29 7,rm 6 29] .ret))))
def LD(P30 Uo:FuncId):AC:= (sq [ro 3 (.box 11 (.t 0)),ro 6 (.mv (.c (.v (.bool false))))] (sq [rm 7 2,ro 8 (.bin .geq (.t 7) (ci 0)),rm 9 8,rg 10 9 true (.mv (.t 2)),rg 11 9 true (.mv (.t 1)),rg 12 9 true (.len (.t 11)),rg 13 9 true (.bin .leq (.t 10) (.t 12)),ro 14 (.pick (.t 9) (.t 13) (.c (.v (.bool false)))),rm 15 14,rg 16 15 true (.cu 2 (.t 3)),rg 17 15 true (.load (some 4) (.t 16)),rg 18 15 true (.mv (.t 1)),rg 19 15 true (.mv (.t 2)),rl 20 15 true P30 [(.t 17),(.t 18),(.t 19)],rg 21 15 true (.len (.t 20)),rg 22 15 true (.bin .gtr (.t 21) (ci 0)),ro 23 (.pick (.t 15) (.t 22) (.c (.v (.bool false)))),rm 24 23,rg 25 24 true (.cu 6 (.t 3)),rg 26 24 true (.load (some 4) (.t 25)),rg 27 24 true (.mv (.t 1)),rg 28 24 true (.mv (.t 2)),rl 29 24 true Uo [(.t 26),(.t 27),(.t 28)],rg 30 24 true (.len (.t 29)),rg 31 24 true (.bin .gtr (.t 30) (ci 0)),ro 32 (.pick (.t 24) (.t 31) (.c (.v (.bool false)))),rm 6 32] .ret))
theorem yZ{g:Nat→Option aB}{id n:Nat}{l:List Bool}(hg:g id=some (.arr 1 (l.map aD)))(hn:n=l.length):Fz g (.own id 0 n) (bA l):=by
 have:=wo (g:=g) (o:=true) (id:=id) (xs:=l.map aD) (by rw[bN];exact hg) (jS l);rw[dW,List.length_map,←hn] at this;exact this
def xY(a b:List Bool)(k:Nat):List Bool:=(jH a b).take k++a.drop k
theorem Zrd{a b:List Bool}(h:a.length=b.length){k:Nat}(hk:k≤a.length):(xY a b k).length=a.length:=by
 unfold xY;rw[List.length_append,List.length_take,List.length_drop,xH h];omega
theorem Zti{a b:List Bool}(h:a.length=b.length){k:Nat}(hk:k < a.length):(xY a b k)[k]? = some a[k]:=by
 unfold xY;rw[List.getElem?_append_right (by rw[List.length_take,xH h];omega),List.length_take,xH h];have:k - min k a.length=0:=by omega
 rw[this,List.getElem?_drop,Nat.add_zero,List.getElem?_eq_getElem hk]
theorem Zre{a b:List Bool}(h:a.length=b.length){k:Nat}(hk:k < a.length):(xY a b k).set k (a[k] || b[k])=xY a b (k+1):=by
 unfold xY
 have ho:(jH a b)[k]? = some (a[k] || b[k]):=by
  unfold jH;rw[List.getElem?_zipWith,List.getElem?_eq_getElem hk,List.getElem?_eq_getElem (by omega)]
 have hl:((jH a b).take k).length=k:=by rw[List.length_take,xH h];omega
 rw[List.set_append_right _ _ (by omega),hl,Nat.sub_self,List.drop_eq_getElem_cons hk,List.set_cons_zero,List.take_add_one,ho];simp
theorem Zrc{a b:List Bool}(h:a.length=b.length):xY a b a.length=jH a b:=by
 unfold xY;rw[List.drop_length,List.append_nil,List.take_of_length_le (by rw[xH h];omega)]
def Bw(P:Program)(f:FuncId)(n:Nat):Prop:=∀a b:List Bool,a.length=n→b.length=n→
 aN P f [.own 0 0 n,bA b] ⟨1,bn [(0,some (.arr 1 (a.map aD)))]⟩ fun r S'=>r=.aO []∧S'.n=10∧S'.g 0=some (.arr 1 ((jH a b).map aD))
def kmI(_:Nat)(_:Unit):Prop:=True
def Ht(b:List Bool)(n:Nat)(k:Nat)(_:Unit):List (Nat×AV):=[(0,.own 0 0 n),(1,bA b),(4,ah k)]
def Hu(a b:List Bool)(k:Nat)(_:Unit):List (Nat×Option aB):=[(0,some (.arr 1 ((xY a b k).map aD)))]
theorem P8{gF:Nat→Option aB}{R:Nat→Nat→Prop}(l:List Bool)(k:Nat)(x:Bool):gL gF R ((List.map aD l).set k (.v (.bool x))) ((List.map aD l).set k (.v (.bool x))):=by
 have:(List.map aD l).set k (.v (.bool x))=List.map aD (l.set k x):=by rw[List.map_set];rfl
 rw[this];exact gL.cl (jS _)
theorem Zrj{P:Program}(hm:P.follows .mixedOrders=true){f:FuncId}(h:Is P f Vo [] 2){n:Nat}(hn:n≤100000):Bw P f n:=by
 intro a b ha hb;subst ha;refine h.wM hm rfl ?_;simp[Vo,ZkI];refine lg a.length kmI (Ht b a.length) 1 (Hu a b) () trivial ?_ ?_
 ·refine aX.of [(0,0)] [] (by omega) ⟨by simp,by simp⟩ ?_ ?_
  ·simp[Hu,xY,jS]
  ·simp[Ht]
 ·rintro k _ hk _
  by_cases hlt:k < a.length
  ·have lF:(k:Int) < (a.length:Int):=by omega
   have aaT:(k:Int) < (b.length:Int):=by omega
   have hcl:=Zrd (a:=a) (b:=b) hb.symm (k:=k) (by omega);have hcz:a.length≤(xY a b k).length:=by omega
   have hca:=Zti (a:=a) (b:=b) hb.symm hlt;have hcs:=Zre (a:=a) (b:=b) hb.symm hlt;have hbd:b[k]?.getD false=b[k]'(by omega):=by rw[List.getElem?_eq_getElem (by omega)];rfl
   have hkc:k < (xY a b k).length:=by omega
   have BR:(xY a b k)[k]=a[k]:=by rw[List.getElem?_eq_getElem hkc] at hca;exact Option.some.inj hca
   cases hak:a[k] with
   | true=>
    rw[hak] at hca hcs BR;simp only[Bool.true_or] at hcs;simp[Ht,Hu,lF,hcz,hkc,BR];rw[bE _ (by omega)];refine⟨hlt,(),trivial,aX.of [(0,0)] [] (by omega) ⟨by simp,by simp⟩ ?_ ?_⟩
    ·simp[Hu,←hcs,P8]
    ·simp[Ht]
   | false=>
    rw[hak] at hca hcs BR;simp only[Bool.false_or] at hcs;rw[←hbd] at hcs;generalize hyy:b[k]?.getD false=y at *;simp[Ht,Hu,lF,aaT,hcz,hkc,BR,hyy];rw[bE _ (by omega)];refine⟨hlt,(),trivial,aX.of [(0,0)] [] (by omega) ⟨by simp,by simp⟩ ?_ ?_⟩
    ·simp[Hu,←hcs,P8]
    ·simp[Ht]
  ·have hke:k=a.length:=by omega
   subst hke;simp[Ht,Hu];refine⟨jm [],⟨10,bn [(0,some (.arr 1 ((jH a b).map aD)))]⟩,aX.of [(0,0)] [] (by omega) ⟨by simp,by simp⟩ ?_ ?_,?_⟩
   ·simp[Zrc hb.symm,jS]
   ·simp
   ·exact⟨rfl,rfl⟩
def C8(l:List Bool)(id:Nat)(S:St):St:=(St.mk (S.n+9) S.g).set id (some (.arr 1 (l.map aD)))
theorem Bw.use{P:Program}{f:FuncId}{n:Nat}(h:Bw P f n){a b:List Bool}(ha:a.length=n)(hb:b.length=n){S:St}{K:AV→St→Prop}{id:Nat}(hg:S.g id=some (.arr 1 (a.map aD)))(hid:id < S.n)
  (hk:K (.aO []) (C8 (jH a b) id S)):aN P f [.own id 0 n,bA b] S K:=by
 refine aN.frame 1 [(0,id)] [(0,some (.arr 1 (a.map aD)))] [.own 0 0 n,bA b] _ (by simp) (by simp;omega) ?_ ?_ (h a b ha hb) ?_
 ·intro p hp
  simp only[List.mem_cons,List.not_mem_nil,or_false] at hp;subst hp;refine .inr ⟨id,by simp,?_⟩;rw[hg,jy];exact⟨rfl,.cl (jS _)⟩
 ·exact .cons (.own _ _ _ _ (by simp)) (.cons (.cl (jG _)) .nil)
 ·rintro r1 S1 hn ⟨rfl,q1,q2⟩
  refine⟨_,_,hk,.cl (.aO _ (by simp)),by simp[C8,bT,q1],fun i k hi=>?_⟩;simp only[C8,aL] at hi;by_cases e:i=id
  ·rw[if_pos e] at hi
   refine .inr ⟨0,.inl ⟨by omega,by simp[e]⟩,?_⟩;rw[←hi,q2,jy];exact⟨rfl,.cl (jS _)⟩
  ·rw[if_neg e] at hi
   refine .inl ⟨?_,hi⟩;simp;omega
section
variable{P:Program}{fh fg fm:FuncId}{k:Int}{ps:List Rg}{pg l:List Int}{ks:List aF}{a:List Bool}
abbrev Ba(P:Program)(fg:FuncId)(l:List Int)(q:aF):Prop:=∀a:List Bool,a.length=l.length+1→aJ P fg [cB q,aj l,bA a] (bA (dx l q a))
abbrev vX(P:Program)(fh fg fm:FuncId)(k:Int)(ps:List Rg)(pg:List Int)(ks:List aF)(l:List Int)(a:List Bool):Prop:=
 bq P 0 (vO fh fg fm) (dw [6] (dM (bA (dx l (.mk k ps pg ks) a)))) (bF [cB (.mk k ps pg ks),aj l,bA a]) S0
theorem ZbU(q:aF):aY (.sl false [cB q]):=.sl _ _ (aG (pF q) aQ)
theorem Ztm(l:List Bool)(bs:List aB):lD 1 bs (bA l)=some (l.map aD):=by
 have h:∀x∈l.map aD,x.cells.length=1:=by intro x hx;obtain⟨b,_,rfl⟩:=List.mem_map.mp hx;rfl
 cases bs<;>(simp only[lD,bA];rw[if_pos h])
theorem ZsR{S:St}{aA id len:Nat}{l:List Bool}(hg:S.g id=some (.arr 1 (List.replicate len (.v (.bool false)))))(hl:l.length=len):(M6 1 (.own id 0 len) (bA l)).run S aA=some (.junk,S.set id (some (.arr 1 (l.map aD)))):=by
 have ho:(bA l).ku=[]:=rfl;simp[M6,Eff.run,ho,Ztm,hg,hl,St.dX,St.fP];rw[List.take_of_length_le (by simp[hl])]
theorem ZuT(hl:a.length≤100000)(h1:k=1):vX P fh fg fm k ps pg ks l a:=by
 have tC:(a.length:Int)≤281474976710656:=by omega
 have qQ:(a.length:Int)≤9223372036854775807:=by omega
 have EH:a.length≤281474976710656:=by omega
 have EI:a.length≤9223372036854775807:=by omega
 subst h1;have hr:dx l (.mk 1 ps pg ks) a=a:=by rw[dx,if_pos rfl]
 unfold vX;rw[hr];simp[vO,cO,sU,tC,qQ,ZsR];refine yZ (l:=a) ?_ ?_
 ·simp[aL]
 ·rfl
def zI(l g:List Int)(a:List Bool)(i:Nat):List Bool:=(yD l g a).take (i+1)++List.replicate (l.length - i) false
theorem Zr3(h:a.length=l.length+1){i:Nat}(hi:i≤l.length):(zI l pg a i).length=l.length+1:=by
 unfold zI;rw[List.length_append,List.length_take,List.length_replicate,Ma h];omega
theorem Zr4(h:a.length=l.length+1){i:Nat}(hi:i < l.length):(zI l pg a i).set (i+1) (a.getD i false && pg.contains (l.getD i 0))=zI l pg a (i+1):=by
 unfold zI
 have ho:(yD l pg a)[i+1]? = some (a.getD i false && pg.contains (l.getD i 0)):=by
  unfold yD;rw[List.getElem?_cons_succ,List.getElem?_zipWith,List.getElem?_eq_getElem (l:=a) (i:=i) (by omega),List.getElem?_eq_getElem hi];simp only[List.getD_eq_getElem?_getD,List.getElem?_eq_getElem (l:=a) (i:=i) (by omega),List.getElem?_eq_getElem hi,Option.getD_some]
 have hlen:((yD l pg a).take (i+1)).length=i+1:=by rw[List.length_take,Ma h];omega
 have hrep:List.replicate (l.length - i) false=false::List.replicate (l.length - (i+1)) false:=by
  have:l.length - i=(l.length - (i+1))+1:=by omega
  rw[this,List.replicate_succ]
 rw[List.set_append_right _ _ (by omega),hlen,Nat.sub_self,hrep,List.set_cons_zero,List.take_add_one (i:=i+1),ho];simp
theorem Zol(h:a.length=l.length+1):zI l pg a 0=List.replicate a.length false:=by
 unfold zI yD;rw[h,List.replicate_succ];simp
theorem Zr2(h:a.length=l.length+1):zI l pg a l.length=yD l pg a:=by
 unfold zI;rw[Nat.sub_self,List.replicate_zero,List.append_nil,List.take_of_length_le (by rw[Ma h];omega)]
def NK(_:Nat)(_:Unit):Prop:=True
def He(l:List Int)(a:List Bool)(i:Nat)(_:Unit):List (Nat×AV):=[(1,aj l),(2,bA a),(3,.ptr 0 0 0),(7,.own 1 0 a.length),(9,ah i)]
def Hf(p:aF)(l g:List Int)(a:List Bool)(i:Nat)(_:Unit):List (Nat×Option aB):=[(0,some (.arr 4 [cB p])),(1,some (.arr 1 ((zI l g a i).map aD)))]
theorem ZuU(hl:a.length≤100000)(ha:a.length=l.length+1)(hh:∀x:Int,aJ P fh [aj pg,ah x] (aD (pg.contains x)))(h1:k=2):vX P fh fg fm k ps pg ks l a:=by
 have tC:(a.length:Int)≤281474976710656:=by omega
 have qQ:(a.length:Int)≤9223372036854775807:=by omega
 have EH:a.length≤281474976710656:=by omega
 have EI:a.length≤9223372036854775807:=by omega
 subst h1;have hr:dx l (.mk 2 ps pg ks) a=yD l pg a:=by rw[dx,if_neg (by omega),if_pos rfl]
 unfold vX;rw[hr];simp[vO,cO,sU,tC,qQ,ZkH];refine lg l.length NK (He l a) 10 (Hf (.mk 2 ps pg ks) l pg a) () trivial ?_ ?_
 ·refine aX.of [(0,0),(1,4)] [] (by omega) ⟨by simp,by simp⟩ ?_ ?_
  ·simp[Hf,cO,xG,vS,Zol ha]
  ·simp[He]
 ·rintro i _ hi _
  by_cases hlt:i < l.length
  ·have lF:(i:Int) < (l.length:Int):=by omega
   have aac:(i:Int) < (a.length:Int):=by omega
   have hlt1:(i:Int)+1 < (a.length:Int):=by omega
   have hgl:=Zr3 (pg:=pg) ha hi;have hgz:a.length≤(zI l pg a i).length:=by omega
   have hg1:i+1 < (zI l pg a i).length:=by omega
   have hgs:=Zr4 (pg:=pg) ha hlt;have hw:=bE ((i:Int)+1) (by omega);have hto:((i:Int)+1).toNat=i+1:=by omega
   have hpos:(0:Int)≤(i:Int)+1:=by omega
   have hhx:=hh (l.getD i 0);rw[List.getD_eq_getElem?_getD] at hgs;rw[ZpF hlt] at hgs hhx;generalize hx:l[i]=x at *;generalize hy:a[i]?.getD false=y at *;cases y with
   | true=>
    simp only[Bool.true_and] at hgs;have D1:=fun n' g'=>mZ.cd (S:=⟨n',g'⟩) hhx (aG (aT _) (aG (aW _) aQ)) (dY _)
    generalize pg.contains x=z at *;simp[He,Hf,cO,hlt,lF,aac,hlt1,hx,hy,hw,hto,hpos];refine⟨_,⟨_,D1 _ _⟩,?_⟩;simp[hgz,hg1];refine⟨hlt,(),trivial,aX.of [(0,0),(1,1)] [] (by omega) ⟨by simp,by simp⟩ ?_ ?_⟩
    ·simp[Hf,cO,xG,vS,←hgs,P8]
    ·simp[He,hw]
   | false=>
    simp only[Bool.false_and] at hgs;simp[He,Hf,cO,lF,aac,hlt1,hy,hw,hto,hpos,hgz,hg1];refine⟨hlt,(),trivial,aX.of [(0,0),(1,1)] [] (by omega) ⟨by simp,by simp⟩ ?_ ?_⟩
    ·simp[Hf,cO,xG,vS,←hgs,P8]
    ·simp[He]
  ·have hke:i=l.length:=by omega
   subst hke;simp[He,Hf];refine yZ (l:=yD l pg a) ?_ ?_
   ·simp[Zr2 ha]
   ·rw[Ma ha,ha]
theorem Zif(l:List Int):∀(ks:List aF) (q:aF) (a:List Bool),wY l (ks++[q]) a=dx l q (wY l ks a)
 | [],q,a=>rfl
 | p::ps,q,a=>by rw[List.cons_append,wY,wY,Zif l ps q]
theorem Zii(l:List Int):∀(ks:List aF) (q:aF) (a out:List Bool),wH l (ks++[q]) a out=jH (wH l ks a out) (dx l q a)
 | [],q,a,out=>rfl
 | p::ps,q,a,out=>by rw[List.cons_append,wH,wH,Zii l ps q]
def Nn(l:List Int)(ks:List aF)(a:List Bool)(i:Nat)(_:Unit):List (Nat×AV):=[(1,aj l),(2,bA a),(3,.ptr 0 0 0),(7,bA (wY l (ks.take i) a)),(10,ah i)]
def Nt(p:aF)(_:Nat)(_:Unit):List (Nat×Option aB):=[(0,some (.arr 4 [cB p]))]
theorem ZuV(hl:a.length≤100000)(ha:a.length=l.length+1)(hks:ks.length≤100000)(hq:∀q∈ks,Ba P fg l q)(h1:k=3):vX P fh fg fm k ps pg ks l a:=by
 have tC:(a.length:Int)≤281474976710656:=by omega
 have qQ:(a.length:Int)≤9223372036854775807:=by omega
 have EH:a.length≤281474976710656:=by omega
 have EI:a.length≤9223372036854775807:=by omega
 subst h1;have hr:dx l (.mk 3 ps pg ks) a=wY l ks a:=by rw[dx,if_neg (by omega),if_neg (by omega),if_pos rfl]
 unfold vX;rw[hr];simp[vO,cO,sU,tC,qQ,ZsR,ZkF];refine lg ks.length NK (Nn l ks a) 10 (Nt (.mk 3 ps pg ks)) () trivial ?_ ?_
 ·refine aX.of [(0,0)] [4] (by omega) ⟨by simp,by simp⟩ ?_ ?_
  ·simp[Nt,cO,xG,vS]
  ·simp[Nn,wY]
   refine .fz _ _ (yZ (l:=a) ?_ ?_)
   ·simp[Ec,aL]
   ·rfl
 ·rintro i _ hi _
  by_cases hlt:i < ks.length
  ·have hsk:ks[i]? = some ks[i]:=List.getElem?_eq_getElem hlt
   have htk:ks.take (i+1)=ks.take i++[ks[i]]:=by rw[List.take_add_one,hsk];rfl
   have lF:(i:Int) < (ks.length:Int):=by omega
   have hgj:=Xo l (ks.take i) a ha;have hqk:=hq _ (List.getElem_mem hlt) (wY l (ks.take i) a) hgj;rw[←Zif,←htk] at hqk;have hcp:=pF ks[i];obtain⟨x1,x2,x3,x4,hx⟩:=Cr ks[i];rw[hx] at hqk hcp;simp[Nn,Nt,cO,hlt,lF,hx];refine aN.pure hqk (aG hcp (aG (aT _) (aG (jG _) aQ))) (jG _) ?_;simp;rw[bE _ (by omega)];refine⟨hlt,(),trivial,aX.of [(0,0)] [] (by omega) ⟨by simp,by simp⟩ ?_ ?_⟩
   ·simp[Nt,cO,xG,vS]
   ·simp[Nn]
  ·have hke:i=ks.length:=by omega
   subst hke;simp[Nn,Nt,cO];exact .closed _ (jG _)
def Nu(l:List Int)(a:List Bool)(i:Nat)(_:Unit):List (Nat×AV):=[(1,aj l),(2,bA a),(3,.ptr 0 0 0),(7,.own 1 0 a.length),(11,ah i)]
def Nv(p:aF)(l:List Int)(ks:List aF)(a:List Bool)(i:Nat)(_:Unit):List (Nat×Option aB):=[(0,some (.arr 4 [cB p])),(1,some (.arr 1 ((wH l (ks.take i) a (List.replicate a.length false)).map aD)))]
theorem ZuW(hl:a.length≤100000)(ha:a.length=l.length+1)(hks:ks.length≤100000)(hq:∀q∈ks,Ba P fg l q)(hmk:Bw P fm a.length)(h1:k=4):vX P fh fg fm k ps pg ks l a:=by
 have tC:(a.length:Int)≤281474976710656:=by omega
 have qQ:(a.length:Int)≤9223372036854775807:=by omega
 have EH:a.length≤281474976710656:=by omega
 have EI:a.length≤9223372036854775807:=by omega
 subst h1;have hr:dx l (.mk 4 ps pg ks) a=wH l ks a (List.replicate a.length false):=by rw[dx,if_neg (by omega),if_neg (by omega),if_neg (by omega),if_pos rfl]
 unfold vX;rw[hr];simp[vO,cO,sU,tC,qQ,ZkG];refine lg ks.length NK (Nu l a) 10 (Nv (.mk 4 ps pg ks) l ks a) () trivial ?_ ?_
 ·refine aX.of [(0,0),(1,4)] [] (by omega) ⟨by simp,by simp⟩ ?_ ?_
  ·simp[Nv,wH,cO,xG,vS]
  ·simp[Nu]
 ·rintro i _ hi _
  by_cases hlt:i < ks.length
  ·have hsk:ks[i]? = some ks[i]:=List.getElem?_eq_getElem hlt
   have htk:ks.take (i+1)=ks.take i++[ks[i]]:=by rw[List.take_add_one,hsk];rfl
   have lF:(i:Int) < (ks.length:Int):=by omega
   have hgo:=QI l (ks.take i) a (List.replicate a.length false) ha (by simp[ha]);have hsn:=Zii l (ks.take i) ks[i] a (List.replicate a.length false);rw[←htk] at hsn;have hqk:=hq _ (List.getElem_mem hlt) a ha;have Dj:=rY l ks[i] a ha;have hcp:=pF ks[i];obtain⟨x1,x2,x3,x4,hx⟩:=Cr ks[i];rw[hx] at hqk hcp;simp[Nu,Nv,cO,hlt,lF,hx];refine aN.pure hqk (aG hcp (aG (aT _) (aG (jG _) aQ))) (jG _) ?_;simp;refine hmk.use (a:=wH l (ks.take i) a (List.replicate a.length false)) (by omega) (by omega) (id:=1) (by simp) (by simp) ?_;simp[C8];rw[bE _ (by omega)];refine⟨hlt,(),trivial,aX.of [(0,0),(1,1)] [] (by omega) ⟨by simp,by simp⟩ ?_ ?_⟩
   ·simp[Nv,cO,xG,vS,hsn,jS]
   ·simp[Nu]
  ·have hke:i=ks.length:=by omega
   subst hke;simp[Nu,Nv,cO];refine yZ (l:=wH l ks a (List.replicate a.length false)) ?_ ?_
   ·simp
   ·rw[QI l ks a _ ha (by simp[ha]),ha]
theorem ZqZ(hl:a.length≤100000)(h1:¬k=1)(h2:¬k=2)(h3:¬k=3)(h4:¬k=4)(h:¬((k=5∨k=6∨k=7)∧ks.length=1)):vX P fh fg fm k ps pg ks l a:=by
 have tC:(a.length:Int)≤281474976710656:=by omega
 have qQ:(a.length:Int)≤9223372036854775807:=by omega
 have EH:a.length≤281474976710656:=by omega
 have EI:a.length≤9223372036854775807:=by omega
 have hr:dx l (.mk k ps pg ks) a=List.replicate a.length false:=by
  rw[dx,if_neg h1,if_neg h2,if_neg h3,if_neg h4]
  match ks,h with
  | [],_=>rw[wX]
  | [q],h=>rw[wX,if_neg (fun e=>h ⟨.inr (.inr e),rfl⟩),if_neg (fun e=>h ⟨.inl e,rfl⟩),if_neg (fun e=>h ⟨.inr (.inl e),rfl⟩)]
  | _::_::_,_=>rw[wX]
 unfold vX;rw[hr];have b1:(k == 1)=false:=by simpa using h1
 have b2:(k == 2)=false:=by simpa using h2
 have b3:(k == 3)=false:=by simpa using h3
 have b4:(k == 4)=false:=by simpa using h4
 by_cases h5:k=5
 ·have b5:(k == 5)=true:=by simpa using h5
  have hks:((ks.length:Int) == 1)=false:=by
   have:ks.length≠1:=fun e=>h ⟨.inl h5,e⟩
   simp;omega
  simp[vO,cO,sU,tC,qQ,b1,b2,b3,b4,b5,hks];refine yZ ?_ ?_
  ·simp[aL,aD]
  ·simp
 by_cases h6:k=6
 ·have b5:(k == 5)=false:=by simpa using h5
  have b6:(k == 6)=true:=by simpa using h6
  have hks:((ks.length:Int) == 1)=false:=by
   have:ks.length≠1:=fun e=>h ⟨.inr (.inl h6),e⟩
   simp;omega
  simp[vO,cO,sU,tC,qQ,b1,b2,b3,b4,b5,b6,hks];refine yZ ?_ ?_
  ·simp[aL,aD]
  ·simp
 by_cases h7:k=7
 ·have b5:(k == 5)=false:=by simpa using h5
  have b6:(k == 6)=false:=by simpa using h6
  have b7:(k == 7)=true:=by simpa using h7
  have hks:((ks.length:Int) == 1)=false:=by
   have:ks.length≠1:=fun e=>h ⟨.inr (.inr h7),e⟩
   simp;omega
  simp[vO,cO,sU,tC,qQ,b1,b2,b3,b4,b5,b6,b7,hks];refine yZ ?_ ?_
  ·simp[aL,aD]
  ·simp
 have b5:(k == 5)=false:=by simpa using h5
 have b6:(k == 6)=false:=by simpa using h6
 have b7:(k == 7)=false:=by simpa using h7
 simp[vO,cO,sU,tC,qQ,b1,b2,b3,b4,b5,b6,b7];refine yZ ?_ ?_
 ·simp[aL,aD]
 ·simp
theorem ZuZ{q:aF}(hl:a.length≤100000)(ha:a.length=l.length+1)(hq:Ba P fg l q)(hmk:Bw P fm a.length)(h1:k=7):vX P fh fg fm k ps pg [q] l a:=by
 have tC:(a.length:Int)≤281474976710656:=by omega
 have qQ:(a.length:Int)≤9223372036854775807:=by omega
 have EH:a.length≤281474976710656:=by omega
 have EI:a.length≤9223372036854775807:=by omega
 subst h1
 have hr:dx l (.mk 7 ps pg [q]) a=jH (jH (List.replicate a.length false) a) (dx l q a):=by
  rw[dx,if_neg (by omega),if_neg (by omega),if_neg (by omega),if_neg (by omega),wX,if_pos rfl]
 unfold vX;rw[hr];have Dj:=rY l q a ha;have hqk:=hq a ha;have hcp:=pF q;have hz:(List.replicate a.length false).length=a.length:=by simp
 have hz2:=xH (a:=List.replicate a.length false) (b:=a) hz;obtain⟨x1,x2,x3,x4,hx⟩:=Cr q;rw[hx] at hqk hcp;simp[vO,cO,sU,tC,qQ];refine hmk.use (a:=List.replicate a.length false) (b:=a) hz rfl (id:=4) (by simp[aL,aD]) (by simp) ?_;simp[C8,hx];refine aN.pure hqk (aG hcp (aG (aT _) (aG (jG _) aQ))) (jG _) ?_;simp;refine hmk.use (a:=jH (List.replicate a.length false) a) (by omega) (by omega) (id:=4) (by simp[aL]) (by simp) ?_;simp[C8];refine yZ (l:=jH (jH (List.replicate a.length false) a) (dx l q a)) ?_ ?_
 ·simp[aL]
 ·rw[xH (by omega),hz2,hz]
def BO(l:List Int)(q:aF)(s0:List Bool×List Bool)(n:Nat)(i:Nat)(_:Unit):List (Nat×AV):=[(1,aj l),(3,.ptr 0 0 0),(7,.own 1 0 n),(12,bA (jV (fun x=>dx l q x) i s0).1),(13,ah i)]
def BP(p:aF)(l:List Int)(q:aF)(s0:List Bool×List Bool)(i:Nat)(_:Unit):List (Nat×Option aB):=[(0,some (.arr 4 [cB p])),(1,some (.arr 1 ((jV (fun x=>dx l q x) i s0).2.map aD)))]
theorem ZuY{q:aF}(hl:a.length≤100000)(ha:a.length=l.length+1)(hq:Ba P fg l q)(hmk:Bw P fm a.length)(h1:k=6):vX P fh fg fm k ps pg [q] l a:=by
 have tC:(a.length:Int)≤281474976710656:=by omega
 have qQ:(a.length:Int)≤9223372036854775807:=by omega
 have EH:a.length≤281474976710656:=by omega
 have EI:a.length≤9223372036854775807:=by omega
 subst h1
 have hr:dx l (.mk 6 ps pg [q]) a=(jV (fun x=>dx l q x) (l.length+1) (a,List.replicate a.length false)).2:=by
  rw[dx,if_neg (by omega),if_neg (by omega),if_neg (by omega),if_neg (by omega),wX,if_neg (by omega),if_neg (by omega),if_pos rfl]
 unfold vX;rw[hr];have hz:(List.replicate a.length false).length=a.length:=by simp
 simp[vO,cO,sU,tC,qQ,Xc];refine lg (l.length+1) NK (BO l q (a,List.replicate a.length false) a.length) 10 (BP (.mk 6 ps pg [q]) l q (a,List.replicate a.length false)) () trivial ?_ ?_
 ·refine aX.of [(0,0),(1,4)] [] (by omega) ⟨by simp,by simp⟩ ?_ ?_
  ·simp[BP,jV,cO,xG,ZbU]
  ·simp[BO,jV]
 ·rintro i _ hi _
  by_cases hlt:i < l.length+1
  ·have lF:(i:Int)≤(l.length:Int):=by omega
   obtain⟨l1,l2⟩:=D8 (f:=fun x=>dx l q x) (n:=l.length+1) (fun a h=>rY l q a h) i (a,List.replicate a.length false) ha (by simp only;omega);have hqk:=hq _ l1;have Dj:=rY l q _ l1;have hcp:=pF q;obtain⟨x1,x2,x3,x4,hx⟩:=Cr q;rw[hx] at hqk hcp;have hc1:aY (.sl false [.agg [x1,x2,x3,x4]]):=.sl _ _ (aG hcp aQ);have e1:(jV (fun x=>dx l q x) (i+1) (a,List.replicate a.length false)).1=dx l q (jV (fun x=>dx l q x) i (a,List.replicate a.length false)).1:=rfl;have e2:(jV (fun x=>dx l q x) (i+1) (a,List.replicate a.length false)).2=jH (jV (fun x=>dx l q x) i (a,List.replicate a.length false)).2 (dx l q (jV (fun x=>dx l q x) i (a,List.replicate a.length false)).1):=rfl;simp[BO,BP,cO,lF,hx];refine aN.pure hqk (aG hcp (aG (aT _) (aG (jG _) aQ))) (jG _) ?_;simp;refine hmk.use (a:=(jV (fun x=>dx l q x) i (a,List.replicate a.length false)).2) (b:=dx l q (jV (fun x=>dx l q x) i (a,List.replicate a.length false)).1) (by omega) (by omega) (id:=1) (by simp) (by simp) ?_;simp[C8];rw[bE _ (by omega)];refine⟨by omega,(),trivial,aX.of [(0,0),(1,1)] [] (by omega) ⟨by simp,by simp⟩ ?_ ?_⟩
   ·simp[BP,cO,xG,hx,hc1,e2,jS]
   ·simp[BO,e1]
  ·have hke:i=l.length+1:=by omega
   subst hke;have hgt:¬((l.length:Int)+1≤(l.length:Int)):=by omega
   obtain⟨l1,l2⟩:=D8 (f:=fun x=>dx l q x) (n:=l.length+1) (fun a h=>rY l q a h) (l.length+1) (a,List.replicate a.length false) ha (by simp only;omega);simp[BO,BP,cO,hgt];refine yZ (l:=(jV (fun x=>dx l q x) (l.length+1) (a,List.replicate a.length false)).2) ?_ ?_
   ·simp
   ·omega
theorem ZuX{q:aF}(hl:a.length≤100000)(ha:a.length=l.length+1)(hq:Ba P fg l q)(hmk:Bw P fm a.length)(h1:k=5):vX P fh fg fm k ps pg [q] l a:=by
 have tC:(a.length:Int)≤281474976710656:=by omega
 have qQ:(a.length:Int)≤9223372036854775807:=by omega
 have EH:a.length≤281474976710656:=by omega
 have EI:a.length≤9223372036854775807:=by omega
 subst h1
 have hr:dx l (.mk 5 ps pg [q]) a=(jV (fun x=>dx l q x) (l.length+1) (a,jH (List.replicate a.length false) a)).2:=by
  rw[dx,if_neg (by omega),if_neg (by omega),if_neg (by omega),if_neg (by omega),wX,if_neg (by omega),if_pos rfl]
 unfold vX;rw[hr];have hz:(List.replicate a.length false).length=a.length:=by simp
 have hz2:=xH (a:=List.replicate a.length false) (b:=a) hz;simp[vO,cO,sU,tC,qQ,Xc];refine hmk.use (a:=List.replicate a.length false) (b:=a) hz rfl (id:=4) (by simp[aL,aD]) (by simp) ?_;simp[C8];refine lg (l.length+1) NK (BO l q (a,jH (List.replicate a.length false) a) a.length) 10 (BP (.mk 5 ps pg [q]) l q (a,jH (List.replicate a.length false) a)) () trivial ?_ ?_
 ·refine aX.of [(0,0),(1,4)] [] (by omega) ⟨by simp,by simp⟩ ?_ ?_
  ·simp[BP,jV,cO,xG,ZbU,jS]
  ·simp[BO,jV]
 ·rintro i _ hi _
  by_cases hlt:i < l.length+1
  ·have lF:(i:Int)≤(l.length:Int):=by omega
   obtain⟨l1,l2⟩:=D8 (f:=fun x=>dx l q x) (n:=l.length+1) (fun a h=>rY l q a h) i (a,jH (List.replicate a.length false) a) ha (by simp only;omega);have hqk:=hq _ l1;have Dj:=rY l q _ l1;have hcp:=pF q;obtain⟨x1,x2,x3,x4,hx⟩:=Cr q;rw[hx] at hqk hcp;have hc1:aY (.sl false [.agg [x1,x2,x3,x4]]):=.sl _ _ (aG hcp aQ);have e1:(jV (fun x=>dx l q x) (i+1) (a,jH (List.replicate a.length false) a)).1=dx l q (jV (fun x=>dx l q x) i (a,jH (List.replicate a.length false) a)).1:=rfl;have e2:(jV (fun x=>dx l q x) (i+1) (a,jH (List.replicate a.length false) a)).2=jH (jV (fun x=>dx l q x) i (a,jH (List.replicate a.length false) a)).2 (dx l q (jV (fun x=>dx l q x) i (a,jH (List.replicate a.length false) a)).1):=rfl;simp[BO,BP,cO,lF,hx];refine aN.pure hqk (aG hcp (aG (aT _) (aG (jG _) aQ))) (jG _) ?_;simp;refine hmk.use (a:=(jV (fun x=>dx l q x) i (a,jH (List.replicate a.length false) a)).2) (b:=dx l q (jV (fun x=>dx l q x) i (a,jH (List.replicate a.length false) a)).1) (by omega) (by omega) (id:=1) (by simp) (by simp) ?_;simp[C8];rw[bE _ (by omega)];refine⟨by omega,(),trivial,aX.of [(0,0),(1,1)] [] (by omega) ⟨by simp,by simp⟩ ?_ ?_⟩
   ·simp[BP,cO,xG,hx,hc1,e2,jS]
   ·simp[BO,e1]
  ·have hke:i=l.length+1:=by omega
   subst hke;have hgt:¬((l.length:Int)+1≤(l.length:Int)):=by omega
   obtain⟨l1,l2⟩:=D8 (f:=fun x=>dx l q x) (n:=l.length+1) (fun a h=>rY l q a h) (l.length+1) (a,jH (List.replicate a.length false) a) ha (by simp only;omega);simp[BO,BP,cO,hgt];refine yZ (l:=(jV (fun x=>dx l q x) (l.length+1) (a,jH (List.replicate a.length false) a)).2) ?_ ?_
   ·simp
   ·omega
end
theorem Zoj{P:Program}(hm:P.follows .mixedOrders=true){fg fh fm:FuncId}(h:Is P fg (vO fh fg fm) [6] 3){l:List Int}(hl:l.length≤10000){k:Int}{ps:List Rg}{pg:List Int}{ks:List aF}
  (hks:ks.length≤100000) (hh:∀x:Int,aJ P fh [aj pg,ah x] (aD (pg.contains x))) (hmk:Bw P fm (l.length+1)) (hq:∀q∈ks,Ba P fg l q):Ba P fg l (.mk k ps pg ks):=by
 intro a ha;refine h.lV hm rfl ?_;have hla:a.length≤100000:=by omega
 rw[←ha] at hmk;by_cases h1:k=1
 ·exact ZuT hla h1
 by_cases h2:k=2
 ·exact ZuU hla ha hh h2
 by_cases h3:k=3
 ·exact ZuV hla ha hks hq h3
 by_cases h4:k=4
 ·exact ZuW hla ha hks hq hmk h4
 by_cases hone:(k=5∨k=6∨k=7)∧ks.length=1
 ·obtain⟨hk,h5⟩:=hone
  match ks,h5,hq with
  | [q],_,hq=>
   rcases hk with hk | hk | hk
   ·exact ZuX hla ha (hq q (by simp)) hmk hk
   ·exact ZuY hla ha (hq q (by simp)) hmk hk
   ·exact ZuZ hla ha (hq q (by simp)) hmk hk
 ·exact ZqZ hla h1 h2 h3 h4 hone
mutual
theorem ZpG{P:Program}(hm:P.follows .mixedOrders=true){fg fh fm:FuncId}(h:Is P fg (vO fh fg fm) [6] 3){l:List Int}(hl:l.length≤10000)(hh:∀(g:List Int) (x:Int),Len g→aJ P fh [aj g,ah x] (aD (g.contains x)))
  (hmk:Bw P fm (l.length+1)):∀(p:aF),oP p→Ba P fg l p
 | .mk k ps pg ks,hp=>by
  simp only[oP] at hp;exact Zoj hm h hl hp.2.1 (fun x=>hh pg x (by have:=hp.1;unfold Len;omega)) hmk (ZlO hm h hl hh hmk ks hp.2.2)
theorem ZlO{P:Program}(hm:P.follows .mixedOrders=true){fg fh fm:FuncId}(h:Is P fg (vO fh fg fm) [6] 3){l:List Int}(hl:l.length≤10000)(hh:∀(g:List Int) (x:Int),Len g→aJ P fh [aj g,ah x] (aD (g.contains x)))
  (hmk:Bw P fm (l.length+1)):∀(ks:List aF),yB ks→∀q∈ks,Ba P fg l q
 | [],_,q,hq=>by simp at hq
 | p::ps,hp,q,hq=>by
  simp only[yB] at hp;rcases List.mem_cons.mp hq with e | hq
  ·rw[e];exact ZpG hm h hl hh hmk p hp.1
  ·exact ZlO hm h hl hh hmk ps hp.2 q hq
end
def eeI(_:Nat)(_:Bool):Prop:=True
def G5(r:List Bool)(k:Nat)(o:Bool):List (Nat×AV):=[(8,bA r),(9,vV o 0 ((Ay r k).map ah)),(10,ah k)]
def G6(r:List Bool)(k:Nat)(o:Bool):List (Nat×Option aB):=[(0,vB o 1 ((Ay r k).map ah))]
theorem ZrN(n i:Nat):(List.replicate n (AV.v (.bool false))).set i (.v (.bool true))=(wU n i).map aD:=by simp[wU,aD]
theorem Zgs{P:Program}{fg:FuncId}(p:aF)(l:List Int)(from_:Int)(hl:l.length≤10000)(hg:Ba P fg l p) :
  bq P 0 (LB fg) (dw [6] (dM (aj (rQ p l from_)))) (bF [cB p,aj l,ah from_]) S0:=by
 by_cases h1:from_ < 0
 ·have hr:rQ p l from_=[]:=by unfold rQ;rw[if_pos (.inl h1)]
  rw[hr];obtain⟨k,ps,pg,ks⟩:=p;simp[LB,cO,h1];exact .loose true [] (.sl _ _ (by simp))
 by_cases h2:(l.length:Int) < from_
 ·have hr:rQ p l from_=[]:=by unfold rQ;rw[if_pos (.inr h2)]
  rw[hr];obtain⟨k,ps,pg,ks⟩:=p;simp[LB,cO,h1,h2];exact .loose true [] (.sl _ _ (by simp))
 obtain⟨i,rfl⟩:∃i:Nat,from_=i:=⟨from_.toNat,by omega⟩;have hgo:=hg (wU (l.length+1) i) (by simp[wU]);have hgl:=rY l p (wU (l.length+1) i) (by simp[wU]);rw[←ZqQ p l (i:=i) (by omega)];generalize dx l p (wU (l.length+1) i)=r at *;have hcp:=pF p;obtain⟨x1,x2,x3,x4,hx⟩:=Cr p;rw[hx] at hgo hcp;rw[hx];have hw:=bE ((l.length:Int)+1) (by omega);have m0:(0:Int)≤(l.length:Int)+1:=by omega
 have m1:(l.length:Int)+1≤281474976710656:=by omega
 have m2:(l.length:Int)+1≤9223372036854775807:=by omega
 have m3:((l.length:Int)+1).toNat=l.length+1:=by omega
 have m4:(i:Int) < (l.length:Int)+1:=by omega
 have m5:i < l.length+1:=by omega
 have hone:(List.replicate (l.length+1) false).set i true=wU (l.length+1) i:=rfl;have hN:¬((l.length:Int) < (i:Int)):=by omega
 simp[LB,h1,h2,sU,hw,m0,m1,m2,m3,m4,m5];refine aN.gives [13] hgo (dJ.cons (.closed _ hcp) (dJ.cons (.closed _ (aT l)) (dJ.cons (yZ ?_ ?_) dJ.nil))) (jG r) ?_
 ·simp[Ec,aL]
  exact ZrN _ _
 ·simp[wU]
 simp[ZkE];refine lg (l.length+1) eeI (G5 r) 1 (G6 r) false trivial ?_ ?_
 ·refine aX.of [] [] (by omega) ⟨by simp,by simp⟩ ?_ ?_
  ·simp[G6]
  ·simp[G5,Ay]
 ·rintro k o hk _
  by_cases hlt:k < l.length+1
  ·have lF:(k:Int) < (r.length:Int):=by omega
   have Zb:k < r.length:=by omega
   have hil:=Zop r k;have hok:bY 8 (Ay r k).length 1:=by unfold bY;omega
   have hsu:=Zm1 r k;have hrk:r.getD k false=r[k]:=by rw[List.getD_eq_getElem?_getD,List.getElem?_eq_getElem Zb];rfl
   rw[hrk] at hsu;cases hb:r[k] with
   | true=>
    rw[hb] at hsu;simp only[if_true] at hsu;simp[G5,G6,lF,Zb,hb,hok];rw[bE _ (by omega)];refine⟨by omega,true,trivial,aX.of [(0,12)] [] (by omega) ⟨by simp,by simp⟩ ?_ ?_⟩
    ·simp[G6,hsu,jM]
    ·simp[G5,hsu]
   | false=>
    rw[hb] at hsu;simp only[Bool.false_eq_true,if_false,List.append_nil] at hsu;simp[G5,G6,lF,Zb,hb];rw[bE _ (by omega)];refine⟨by omega,o,trivial,aX.of [(0,0)] [] (by omega) ⟨by simp,by simp⟩ ?_ ?_⟩
    ·simp[G6,hsu,jM]
    ·simp[G5,hsu]
  ·have hke:k=l.length+1:=by omega
   subst hke;have hrI:(r.length:Int)=(l.length:Int)+1:=by omega
   simp[G5,G6,hrI];refine wo ?_ (jM _);simp
theorem ZcF{P:Program}{fe fh:FuncId}(p:aF)(l:List Int)(a b:Int)(he:aJ P fe [cB p,aj l,ah a] (aj (rQ p l a)))(hh:aJ P fh [aj (rQ p l a),ah b] (aD (jU p l a b))) :
  bq P 0 (Ve fe fh) (dw [8] (dM (aD (jU p l a b)))) (bF [cB p,aj l,ah a,ah b]) S0:=by
 have hcp:=pF p;obtain⟨x1,x2,x3,x4,hx⟩:=Cr p;rw[hx] at he hcp;rw[hx];generalize rQ p l a=E at *;generalize jU p l a b=z at *;simp[Ve];refine aN.pure he (aG hcp (aG (aT _) (aG (aW _) aQ))) (aT _) ?_;simp;refine aN.pure hh (aG (aT _) (aG (aW _) aQ)) (dY _) ?_;simp;exact bO _ _
def bbI(l:List Int)(to:Int)(k:Nat)(_:Bool):Prop:=0 < k→to≤l.length
def Ez(l:List Int)(to:Int)(p:aF)(k:Nat)(o:Bool):List (Nat×AV):=[(1,aj l),(2,ah to),(3,.ptr 0 0 0),(7,vV o 1 ((yj p l to k).map ah)),(8,ah k)]
def EA(l:List Int)(to:Int)(p:aF)(k:Nat)(o:Bool):List (Nat×Option aB):=[(0,some (.arr 4 [cB p])),(1,vB o 1 ((yj p l to k).map ah))]
theorem ZdF{P:Program}{fm:FuncId}(p:aF)(l:List Int)(to:Int)(hl:l.length≤10000)(hm:∀i:Nat,aJ P fm [cB p,aj l,ah i,ah to] (aD (jU p l (i:Nat) to))) :
  bq P 0 (Vg fm) (dw [6] (dM (aj (uN p l to)))) (bF [cB p,aj l,ah to]) S0:=by
 have hcp:=pF p;obtain⟨x1,x2,x3,x4,hx⟩:=Cr p;have hcx:=hcp;rw[hx] at hcx;have hm':=hm;rw[hx] at hm';have k1:aY x1:=hcx.cells x1 (by simp[AV.cells]);have k2:aY x2:=hcx.cells x2 (by simp[AV.cells]);have k3:aY x3:=hcx.cells x3 (by simp[AV.cells]);have k4:aY x4:=hcx.cells x4 (by simp[AV.cells]);simp[Vg,hx,ZkC];refine lg (to+1).toNat (bbI l to) (Ez l to p) 3 (EA l to p) false (fun h=>by omega) ?_ ?_
 ·refine aX.of [(0,0)] [] (by omega) ⟨by simp,by simp⟩ ?_ ?_
  ·simp[EA,hx,hcx]
  ·simp[Ez,yj]
 ·rintro k o hk hto
  by_cases hlt:(k:Int)≤to
  ·by_cases hle:to≤(l.length:Int)
   ·have hbl:=Zgx p l to k
    have hok:bY 8 (yj p l to k).length 1:=by unfold bY;omega
    have hsu:=ZeT p l to k;have hmk:=hm' k;cases hb:jU p l (k:Nat) to with
    | true=>
     rw[hb] at hsu hmk;simp only[if_true] at hsu;simp[Ez,EA,hx,hlt,hle];refine aN.pure hmk (aG hcx (aG (aT _) (aG (aW _) (aG (aW _) aQ)))) (dY _) ?_;simp[hok];rw[bE _ (by omega)];refine⟨by omega,true,fun _=>hle,aX.of [(0,0),(1,20)] [] (by omega) ⟨by simp,by simp⟩ ?_ ?_⟩
     ·simp[EA,hx,hsu,jM,k1,k2,k3,k4]
     ·simp[Ez,hsu]
    | false=>
     rw[hb] at hsu hmk;simp only[Bool.false_eq_true,if_false,List.append_nil] at hsu;simp[Ez,EA,hx,hlt,hle];refine aN.pure hmk (aG hcx (aG (aT _) (aG (aW _) (aG (aW _) aQ)))) (dY _) ?_;simp;rw[bE _ (by omega)];refine⟨by omega,o,fun _=>hle,aX.of [(0,0),(1,1)] [] (by omega) ⟨by simp,by simp⟩ ?_ ?_⟩
     ·simp[EA,hx,hsu,jM,k1,k2,k3,k4]
     ·simp[Ez,hsu]
   ·have hk0:k=0:=by
     by_cases h:0 < k
     ·exact(hle (hto h)).elim
     ·omega
    subst hk0;have hr:uN p l to=yj p l to 0:=by unfold uN;rw[if_neg hle];rfl
    have ab8:0≤to:=by omega
    rw[hr];simp[Ez,EA,ab8,hle];refine wo ?_ (jM _);simp
  ·have hle:to≤(l.length:Int):=by
    by_cases h:0 < k
    ·exact hto h
    ·omega
   have hke:k=(to+1).toNat:=by omega
   have hr:uN p l to=yj p l to k:=by unfold uN;rw[if_pos hle,hke]
   rw[hr];simp[Ez,EA,hlt];refine wo ?_ (jM _);simp
theorem ZcG{P:Program}{fb fe:FuncId}(r:lN)(l:List Int)(p:Int)(hb:aJ P fb [cB r.before,aj l,ah p] (aj (uN r.before l p)))(he:aJ P fe [cB r.after,aj l,ah p] (aj (rQ r.after l p))) :
  bq P 0 (LD fb fe) (dw [6] (dM (aD (GQ r l p)))) (bF [mq r,aj l,ah p]) S0:=by
 obtain⟨num,cut,b,a,pos⟩:=r;simp only at hb he;unfold GQ;simp only;obtain⟨bk,bs,bg,J7,hB,hpb⟩:=DW b;obtain⟨ak,J6,ag,J4,hA,hpa⟩:=DW a;have hcl:=PY (num:=num) (cut:=cut) (pos:=pos) hB hA;have hcb:=pF b;have hca:=pF a;rw[hcl];generalize uN b l p=x at *;generalize rQ a l p=y at *;by_cases h0:0≤p;rotate_left
 ·simp[LD,h0]
  exact bO _ _
 by_cases h1:p≤(l.length:Int);rotate_left
 ·simp[LD,h0,h1]
  exact bO _ _
 simp[LD,h0,h1,hpb];refine aN.pure hb (aG hcb (aG (aT _) (aG (aW _) aQ))) (aT _) ?_;by_cases hx:0 < x.length;rotate_left
 ·simp[hx]
  exact bO _ _
 simp[hx,hpa];refine aN.pure he (aG hca (aG (aT _) (aG (aW _) aQ))) (aT _) ?_;by_cases hy:0 < y.length
 ·simp[hy]
  exact bO _ _
 ·simp[hy]
  exact bO _ _
def ZkT(Ik:FuncId):AC:= (.loop (.seq (sq [rm 9 6,rF 10 3 2,rL 11 10,ro 12 (.len (.t 11)),ro 13 (.bin .lss (.t 9) (.t 12)),rm 14 13,rg 15 14 true (.mv (.t 5)),rg 16 14 true (.mv (.t 1)),rg 17 14 true (.bin .leq (.t 15) (.t 16)),ro 18 (.pick (.t 14) (.t 17) (.c (.v (.bool false))))] (.cond (.t 18) .skip (.exit 0))) (.seq (.block 1 (.reg none [rm 21 5,rF 22 3 2,rL 23 22,rm 24 6,ro 25 (.aM 4 (.t 23) (.t 24)),ro 26 (.load (some 4) (.t 25)),rm 27 1,ro 28 (.bin .sub (.t 27) (ci 1)),rk 29 Ik [(.t 26),(.t 28)],ro 30 (.bin .add (.t 21) (.t 29)),rm 5 30])) (.reg none [rm 19 6,ro 20 (.bin .add (.t 19) (ci 1)),rm 6 20]))))
def Iz(Ik:FuncId):AC:= (sq [ro 2 (.box 4 (.t 0)),ro 4 (.mv (ci 0))] (sq [ro 5 (.mv (ci 1))] (.seq (sq [rm 7 1,ro 8 (.bin .lss (.t 7) (ci 0))] (.cond (.t 8) (sq [ro 4 (.mv (ci 1000))] .ret) .skip)) (.seq (sq [ro 6 (.mv (ci 0))] (.block 0 (ZkT Ik))) (sq [rm 31 5,rm 4 31] .ret)))))
def Vn(Ik:FuncId):AC:= (sq [ro 2 (.box 11 (.t 0)),ro 4 (.mv (.c (.v (.bool false))))] (sq [rF 5 2 2,ro 6 (.load (some 4) (.t 5)),rm 7 1,rk 8 Ik [(.t 6),(.t 7)],rm 9 1,ro 10 (.bin .leq (.t 8) (.t 9)),rm 11 10,rg 12 11 true (.cu 6 (.t 2)),rg 13 11 true (.load (some 4) (.t 12)),rg 14 11 true (.mv (.t 1)),rl 15 11 true Ik [(.t 13),(.t 14)],rg 16 11 true (.mv (.t 1)),rg 17 11 true (.bin .leq (.t 15) (.t 16)),ro 18 (.pick (.t 11) (.t 17) (.c (.v (.bool false)))),rm 4 18] .ret))
def Zaq(P3k P2R:FuncId):AC:= (sq [ro 3 (.box 3 (.t 0)),ro 6 (.mv (.c (.v (.bool false))))] (sq [rm 8 1,rm 9 2,rk 10 P3k [(.t 8),(.t 9)],rm 7 10] (sq [rm 11 7,ro 12 (.len (.t 11)),ro 13 (.bin .gtr (.t 12) (ci 0)),rm 14 13,rg 15 14 true (.load (some 3) (.t 3)),rg 16 14 true (.mv (.t 7)),rl 17 14 true P2R [(.t 15),(.t 16)],ro 18 (.pick (.t 14) (.t 17) (.c (.v (.bool false)))),rm 6 18] .ret)))
mutual
def kX:aF→Int→Int
 | .mk _ _ _ ks,m=>if m < 0 then 1000 else Na ks m 1
def Na:List aF→Int→Int→Int
 | [],_,s=>s
 | p::ps,m,s=>if s≤m then Na ps m (s+kX p (m - 1)) else s
end
theorem Qv:∀(ks:List aF) (m s:Int),Na ks m s=qM m s (ks.map (kX · (m - 1)))
 | [],_,_=>by simp[Na,qM]
 | p::ps,m,s=>by simp[Na,qM,Qv ps]
mutual
theorem Zrn:∀(p:aF) (m:Int),-1≤m→m≤100→1≤kX p m∧kX p m≤2000+200*(m+1)
 | .mk k s g ks,m,h0,h1=>by
  rw[kX];split
  ·omega
  ·have hb:=Qu ks m (by omega) h1
   rw[Qv]
   have:=Zna (most:=m) (B:=2000+200*m) (M:=2000+200*(m+1)) (by omega) (ws:=ks.map (kX · (m - 1))) (s:=1) (fun w hw=>by
    obtain⟨q,hq,rfl⟩:=List.mem_map.mp hw;have:=hb q hq;omega) (by omega)
   omega
theorem Qu:∀(ks:List aF) (m:Int),0≤m→m≤100→∀q∈ks,1≤kX q (m - 1)∧kX q (m - 1)≤2000+200*m
 | [],_,_,_,q,hq=>by simp at hq
 | p::ps,m,h0,h1,q,hq=>by
  rcases List.mem_cons.mp hq with e | hq
  ·rw[e];have:=Zrn p (m - 1) (by omega) (by omega);omega
  ·exact Qu ps m h0 h1 q hq
end
mutual
theorem VR:∀(p:aF) (m:Int),zk p→m≤100→kX p m≤m→oP p∧(uL p:Int)≤kX p m
 | .mk k s g ks,m,hg,h1,h=>by
  rw[kX] at h ⊢;split at h
  ·omega
  rename_i h0;rw[if_neg h0];rw[Qv] at h ⊢;simp only[zk] at hg;obtain⟨g1,g2,g3,g4⟩:=hg;have hb:=Qu ks m (by omega) h1
  have hpos:∀w∈ks.map (kX · (m - 1)),1≤w:=fun w hw=>by
   obtain⟨q,hq,rfl⟩:=List.mem_map.mp hw;exact(hb q hq).1
  obtain⟨a1,a2,a3⟩:=ZiV (fun w hw=>by have:=hpos w hw;omega) h;rw[Znc (fun w hw=>by have:=hpos w hw;omega) h];have hl:=Zne _ hpos;simp only[List.length_map] at hl;have hq:=Zci ks m g4 h1 (fun q hq=>by have:=a2 _ (List.mem_map_of_mem hq);omega);have hs:=Zdy (f:=(kX · (m - 1))) (g:=uL) (ks:=ks) (fun q hq'=>(hq q hq').2);refine⟨?_,?_⟩
  ·simp only[oP]
   exact⟨g2,by omega,Zhu fun q hq'=>(hq q hq').1⟩
  ·simp only[uL]
   rw[Zml]
   push_cast
   omega
theorem Zci:∀(ks:List aF) (m:Int),Ai ks→m≤100→(∀q∈ks,kX q (m - 1)≤m - 1)→∀q∈ks,oP q∧(uL q:Int)≤kX q (m - 1)
 | [],_,_,_,_,q,hq=>by simp at hq
 | p::ps,m,hg,h1,h,q,hq=>by
  simp only[Ai] at hg;rcases List.mem_cons.mp hq with e | hq
  ·rw[e];exact VR p (m - 1) hg.1 (by omega) (h p (by simp))
  ·exact Zci ps m hg.2 h1 (fun q hq=>h q (by simp[hq])) q hq
end
def nqI(m:Int)(ks:List aF)(k:Nat)(s:Int):Prop:=qM m s ((ks.map (kX · (m - 1))).drop k)=qM m 1 (ks.map (kX · (m - 1)))∧1≤s∧s≤30000
def Kv(m:Int)(k:Nat)(s:Int):List (Nat×AV):=[(1,ah m),(2,.ptr 0 0 0),(5,ah s),(6,ah k)]
def Kw(p:aF)(_:Nat)(_:Int):List (Nat×Option aB):=[(0,some (.arr 4 [cB p]))]
theorem ZjK{P:Program}{fn:FuncId}(k:Int)(ps:List Rg)(pg:List Int)(ks:List aF)(hl:Len ks)(m:Int)(h0:-1≤m)(h1:m≤100)(hq:0≤m→∀q∈ks,aJ P fn [cB q,ah (m - 1)] (ah (kX q (m - 1)))) :
  bq P 0 (Iz fn) (dw [4] (dM (ah (kX (.mk k ps pg ks) m)))) (bF [cB (.mk k ps pg ks),ah m]) S0:=by
 rw[kX];by_cases hm:m < 0
 ·rw[if_pos hm]
  simp[Iz,cO,hm];exact zh _ _
 rw[if_neg hm,Qv];have hq:=hq (by omega);have hb:=Qu ks m (by omega) h1;unfold Len at hl;simp[Iz,cO,hm,ZkT];refine lg ks.length (nqI m ks) (Kv m) 5 (Kw (.mk k ps pg ks)) 1 ⟨by simp,by omega,by omega⟩ ?_ ?_
 ·refine aX.of [(0,0)] [] (by omega) ⟨by simp,by simp⟩ ?_ ?_
  ·simp[Kw,cO,xG,vS]
  ·simp[Kv]
 ·rintro i s hi ⟨hs,hs1,hs2⟩
  by_cases hlt:i < ks.length
  ·have hsk:ks[i]? = some ks[i]:=List.getElem?_eq_getElem hlt
   have hqk:=hq _ (List.getElem_mem hlt);have hbk:=hb _ (List.getElem_mem hlt);have hcp:=pF ks[i];obtain⟨x1,x2,x3,x4,hx⟩:=Cr ks[i];rw[hx] at hqk hcp;by_cases hsm:s≤m
   ·have hw1:IntKind.i64.wrap (m - 1)=m - 1:=bE _ (by omega)
    have hst:qM m s ((ks.map (kX · (m - 1))).drop i)=qM m (s+kX ks[i] (m - 1)) ((ks.map (kX · (m - 1))).drop (i+1)):=by
     have:=Znb (most:=m) (s:=s) (ws:=ks.map (kX · (m - 1))) (i:=i) (by simpa using hlt) hsm;rw[this];simp
    have lF:(i:Int) < (ks.length:Int):=by omega
    generalize kX ks[i] (m - 1)=z at *;have hw2:IntKind.i64.wrap (s+z)=s+z:=bE _ (by omega);simp[Kv,Kw,cO,hlt,lF,hx,hsm,hw1];refine aN.pure hqk (aG hcp (aG (aW _) aQ)) (aW _) ?_;simp[hw2];rw[bE _ (by omega)];refine⟨hlt,s+z,⟨by rw[←hst];exact hs,by omega,by omega⟩,aX.of [(0,0)] [] (by omega) ⟨by simp,by simp⟩ ?_ ?_⟩
    ·simp[Kw,cO,xG,vS]
    ·simp[Kv]
   ·rw[Znd hsm] at hs
    have lF:(i:Int) < (ks.length:Int):=by omega
    simp[Kv,Kw,cO,lF,hsm];rw[hs];exact zh _ _
  ·have hke:i=ks.length:=by omega
   subst hke;have hdr:(ks.map (kX · (m - 1))).drop ks.length=[]:=List.drop_eq_nil_of_le (by simp);rw[hdr] at hs;simp only[qM] at hs;simp[Kv,Kw,cO];rw[hs];exact zh _ _
mutual
theorem WS{P:Program}(hm:P.follows .mixedOrders=true){f:FuncId}(h:Is P f (Iz f) [4] 2):∀(p:aF) (m:Int),zk p → -1≤m→m≤100→aJ P f [cB p,ah m] (ah (kX p m))
 | .mk k ps pg ks,m,hp,h0,h1=>by
  simp only[zk] at hp;exact h.lV hm rfl (ZjK k ps pg ks hp.2.2.1 m h0 h1 (fun h2=>ZfH hm h ks m hp.2.2.2 h2 h1))
theorem ZfH{P:Program}(hm:P.follows .mixedOrders=true){f:FuncId}(h:Is P f (Iz f) [4] 2):∀(ks:List aF) (m:Int),Ai ks→0≤m→m≤100→∀q∈ks,aJ P f [cB q,ah (m - 1)] (ah (kX q (m - 1)))
 | [],_,_,_,_,q,hq=>by simp at hq
 | p::ps,m,hg,h0,h1,q,hq=>by
  simp only[Ai] at hg;rcases List.mem_cons.mp hq with e | hq
  ·rw[e];exact WS hm h p (m - 1) hg.1 (by omega) (by omega)
  ·exact ZfH hm h ps m hg.2 h0 h1 q hq
end
def Ga(r:lN)(m:Int):Bool:=decide (kX r.before m≤m) && decide (kX r.after m≤m)
theorem Zja{P:Program}{fn:FuncId}(r:lN)(m:Int)(h1:aJ P fn [cB r.before,ah m] (ah (kX r.before m)))(h2:aJ P fn [cB r.after,ah m] (ah (kX r.after m))) :
  bq P 0 (Vn fn) (dw [4] (dM (aD (Ga r m)))) (bF [mq r,ah m]) S0:=by
 obtain⟨num,cut,b,a,pos⟩:=r;simp only at h1 h2;unfold Ga;simp only;obtain⟨bk,bs,bg,J7,hb,hpb⟩:=DW b;obtain⟨ak,J6,ag,J4,ha,hpa⟩:=DW a;have hcl:=PY (num:=num) (cut:=cut) (pos:=pos) hb ha;have hcb:=pF b;have hca:=pF a;rw[hcl];generalize kX b m=x at *;generalize kX a m=y at *;simp[Vn,hpb];refine aN.pure h1 (aG hcb (aG (aW _) aQ)) (aW _) ?_;by_cases hx:x≤m
 ·simp[hx,hpa]
  refine aN.pure h2 (aG hca (aG (aW _) aQ)) (aW _) ?_;by_cases hy:y≤m
  ·simp[hy]
   exact bO _ _
  ·simp[hy]
   exact bO _ _
 ·simp[hx]
  exact bO _ _
def ZkS:AC:= (.loop (.seq (sq [rm 19 5,rm 20 1,ro 21 (.len (.t 20)),ro 22 (.bin .lss (.t 19) (.t 21))] (.cond (.t 22) .skip (.exit 0))) (.seq (.block 1 (sq [rm 25 1,rm 26 5,ro 27 (.aM 1 (.t 25) (.t 26)),rL 28 27,ro 29 (.bin .lss (.t 28) (ci 0)),rm 30 29,rg 31 30 false (.mv (.t 1)),rg 32 30 false (.mv (.t 5)),rg 33 30 false (.aM 1 (.t 31) (.t 32)),rg 34 30 false (.load none (.t 33)),rg 35 30 false (.bin .gtr (.t 34) (ci 2)),ro 36 (.pick (.t 30) (.c (.v (.bool true))) (.t 35))] (.cond (.t 36) (sq [ro 4 (.mv (.c (.v (.bool true))))] .ret) .skip))) (.reg none [rm 23 5,ro 24 (.bin .add (.t 23) (ci 1)),rm 5 24]))))
def ZkR(U2 Ul:FuncId):AC:= (.loop (.seq (sq [rm 46 8,rm 47 1,ro 48 (.len (.t 47)),ro 49 (.bin .lss (.t 46) (.t 48))] (.cond (.t 49) .skip (.exit 2))) (.seq (.block 3 (.seq (.reg (some []) [ro 52 (.load (some 3) (.t 6)),rm 53 1,rm 54 8,rk 55 U2 [(.t 52),(.t 53),(.t 54)],ro 56 (.load (some 11) (.t 2)),rm 57 1,rm 58 8,rk 59 Ul [(.t 56),(.t 57),(.t 58)],ro 60 (.beq true (.t 55) (.t 59))]) (.cond (.t 60) (sq [ro 4 (.mv (.c (.v (.bool false))))] .ret) .skip))) (.reg none [rm 50 8,ro 51 (.bin .add (.t 50) (ci 1)),rm 8 51]))))
def Vd(P3d P3l P5h U2 Ul P3i:FuncId):AC:= (sq [ro 2 (.box 11 (.t 0)),ro 4 (.mv (.c (.v (.bool false))))] (.seq (sq [rk 9 P3d [],ro 10 (.un .not (.t 9))] (.cond (.t 10) (sq [ro 4 (.mv (.c (.v (.bool false))))] .ret) .skip)) (.seq (sq [ro 11 (.load (some 11) (.t 2)),rk 12 P3l [(.t 11),(ci 9)],ro 13 (.un .not (.t 12)),rm 14 13,rg 15 14 false (.mv (.t 1)),rg 16 14 false (.len (.t 15)),rg 17 14 false (.bin .gtr (.t 16) (ci 8)),ro 18 (.pick (.t 14) (.c (.v (.bool true))) (.t 17))] (.cond (.t 18) (sq [ro 4 (.mv (.c (.v (.bool true))))] .ret) .skip)) (.seq (sq [ro 5 (.mv (ci 0))] (.block 0 ZkS)) (sq [ro 38 (.load (some 11) (.t 2)),rk 39 P5h [(.t 38),(ci 3),(ci 400)],rm 37 39,ro 40 (.ext 0 (.t 37)),ro 41 (.ext 1 (.t 37)),ro 6 (.alloc (.agg [(.v (.int .i64 0)),(.sl true []),(.sl true [])]) 3),rn (.store 3 (.t 6) (.t 40)),rm 7 41] (.seq (sq [rm 42 7,ro 43 (.bin .neq (.t 42) (ci 0))] (.cond (.t 43) (sq [rm 44 7,ro 45 (.bin .eql (.t 44) (ci 13)),rm 4 45] .ret) .skip)) (.seq (sq [ro 8 (.mv (ci 1))] (.block 2 (ZkR U2 Ul))) (sq [ro 61 (.load (some 3) (.t 6)),rk 62 P3i [(.t 61)],rm 4 62] .ret))))))))
theorem Zju(r:lN):∃x1 x2 x3 x4 x5 x6 x7 x8 x9 x10 Zp:AV,mq r=.agg [x1,x2,x3,x4,x5,x6,x7,x8,x9,x10,Zp]:=by
 obtain⟨num,cut,b,a,pos⟩:=r;obtain⟨bk,bs,bg,J7,hb,_⟩:=DW b;obtain⟨ak,J6,ag,J4,ha,_⟩:=DW a;exact⟨_,_,_,_,_,_,_,_,_,_,_,PY hb ha⟩
def mwI(l:List Int)(k:Nat)(_:Unit):Prop:=∀x∈l.take k,0≤x∧x < 3
def HV(l:List Int)(t:Nat)(k:Nat)(_:Unit):List (Nat×AV):=[(1,aj l),(t,.ptr 0 0 0),(5,ah k)]
def HY(r:lN)(_:Nat)(_:Unit):List (Nat×Option aB):=[(0,some (.arr 11 [mq r]))]
def mvI(_:Nat)(_:Unit):Prop:=True
def Ob(l:List Int)(k:Nat)(_:Unit):List (Nat×AV):=[(1,aj l),(2,.ptr 0 0 0),(6,.ptr 1 0 0),(8,ah (k+1:Nat))]
def Oc(r:lN)(d:aC)(_:Nat)(_:Unit):List (Nat×Option aB):=[(0,some (.arr 11 [mq r])),(1,some (.arr 3 [aR d]))]
theorem Zp7{n:Int}{l:List Int}{k:Nat}(h:k < l.length)(h1:∀x∈l.take k,0≤x∧x < n)(h2:0≤l[k]∧l[k] < n):∀x∈l.take (k+1),0≤x∧x < n:=by
 intro x hx;rw[List.take_add_one,List.getElem?_eq_getElem h] at hx;rcases List.mem_append.mp hx with hx | hx
 ·exact h1 x hx
 ·simp at hx;subst hx;exact h2
theorem ZbA{P:Program}{fal fs fo fa fm fr:FuncId}(r:lN)(l:List Int)(hal:aJ P fal [] (aD true))(sb:Bool)(hs:aJ P fs [mq r,ah 9] (aD sb))
  (h:sb=true→l.length≤8→rU 3 l→∃D:aC×Int,aJ P fo [mq r,ah 3,ah 400] (jQ D)∧(D.2=0∨D.2=13)∧(D.2=0→aJ P fr [aR D.1] (aD true)∧
   ∀k:Nat,k+1 < l.length→∃z,aJ P fa [aR D.1,aj l,ah (k+1:Nat)] (aD z)∧aJ P fm [mq r,aj l,ah (k+1:Nat)] (aD z))) :
  bq P 0 (Vd fal fs fo fa fm fr) (dw [4] (dM (aD true))) (bF [mq r,aj l]) S0:=by
 have hcr:=Zjm r;obtain⟨x1,x2,x3,x4,x5,x6,x7,x8,x9,x10,Zp,hx⟩:=Zju r
 have hcx:Cls [x1,x2,x3,x4,x5,x6,x7,x8,x9,x10,Zp]:=by
  rw[hx] at hcr;intro y hy;exact hcr.cells y (by simpa[AV.cells] using hy)
 simp only[sN,sP,and_true] at hcx;rw[hx] at hs h hcr ⊢;simp[Vd];refine aN.pure hal aQ (dY _) ?_;simp;refine aN.pure hs (aG hcr (aG (aW _) aQ)) (dY _) ?_;cases sb with
 | false=>
  simp;exact bO _ _
 | true=>
 by_cases h8:8 < l.length
 ·have YP:(8:Int) < (l.length:Int):=by omega
  simp[YP];exact bO _ _
 have YP:¬(8:Int) < (l.length:Int):=by omega
 simp[YP,ZkS];refine lg l.length (mwI l) (HV l 2) 3 (HY r) () (fun x hx=>by simp at hx) ?_ ?_
 ·refine aX.of [(0,0)] [] (by omega) ⟨by simp,by simp⟩ ?_ ?_
  ·simp[HY,hx,hcx]
  ·simp[HV]
 ·rintro k _ hk hI
  by_cases hlt:k < l.length
  ·have lF:(k:Int) < (l.length:Int):=by omega
   have hld:=ZpF hlt;by_cases n1:l[k] < 0
   ·simp[HV,HY,hlt,lF,n1]
    exact bO _ _
   by_cases n2:2 < l[k]
   ·simp[HV,HY,hlt,lF,n1,n2]
    exact bO _ _
   simp[HV,HY,hlt,lF,n1,n2];rw[bE _ (by omega)];refine⟨hlt,(),Zp7 hlt hI ⟨by omega,by omega⟩,aX.of [(0,0)] [] (by omega) ⟨by simp,by simp⟩ ?_ ?_⟩
   ·simp[HY,hx,hcx]
   ·simp[HV]
  ·have hke:k=l.length:=by omega
   subst hke;have hR:rU 3 l:=fun x hx=>hI x (by rw[List.take_length];exact hx)
   obtain⟨⟨d,e⟩,h1,h2,h3⟩:=h rfl (by omega) hR;simp only at h2 h3;have k1:=Bn (d,e);simp only[jQ] at h1 k1;simp[HV,HY,hx];refine aN.pure h1 (aG hcr (aG (aW _) (aG (aW _) aQ))) k1 ?_;rcases h2 with h2 | h2
   rotate_left
   ·subst h2
    simp[bD];exact bO _ _
   ·subst h2
    obtain⟨h4,h5⟩:=h3 rfl;simp[bD,ZkR];refine lg (l.length - 1) mvI (Ob l) 3 (Oc r d) () trivial ?_ ?_
    ·refine aX.of [(0,0),(1,12)] [] (by omega) ⟨by simp,by simp⟩ ?_ ?_
     ·simp[Oc,hx,hcx,dZ]
     ·simp[Ob]
    ·rintro j _ hj _
     by_cases hlj:j+1 < l.length
     ·have aaS:(j:Int)+1 < (l.length:Int):=by omega
      obtain⟨z,k2,k3⟩:=h5 j hlj;have D1:=fun n' g'=>mZ.cd (S:=⟨n',g'⟩) k2 (aG (dZ _) (aG (aT _) (aG (aW _) aQ))) (dY _)
      have D2:=fun n' g'=>mZ.cd (S:=⟨n',g'⟩) k3 (aG hcr (aG (aT _) (aG (aW _) aQ))) (dY _)
      simp[Ob,Oc,aaS,hx];refine⟨_,⟨_,D1 _ _⟩,_,⟨_,D2 _ _⟩,?_⟩;simp;rw[bE _ (by omega)];refine⟨by omega,(),trivial,aX.of [(0,0),(1,1)] [] (by omega) ⟨by simp,by simp⟩ ?_ ?_⟩
      ·simp[Oc,hx,hcx,dZ]
      ·simp[Ob]
     ·have hnI:¬((j:Int)+1 < (l.length:Int)):=by omega
      simp[Ob,Oc,hnI];refine aN.pure h4 (aG (dZ _) aQ) (dY _) ?_;simp;exact bO _ _
end Go.Rf
namespace Go.Rf
open Go.RowKit
structure Ic where
 KS:FuncId
 Z4:FuncId
 OT:FuncId
 OL:FuncId
 Ur:FuncId
 E8:FuncId
 UH:FuncId
 UE:FuncId
 Io:FuncId
 Le:FuncId
 O1:FuncId
 OC:FuncId
 ES:FuncId
 Uf:FuncId
 KU:FuncId
 Pb:FuncId
 OZ:FuncId
 Oy:FuncId
 Ij:FuncId
 Oz:FuncId
 Dv:FuncId
 KL:FuncId
 Du:FuncId
 Bb:FuncId
 Ph:FuncId
 O9:FuncId
 Lh:FuncId
 K5:FuncId
 K8:FuncId
 OD:FuncId
 OY:FuncId
 OI:FuncId
 OJ:FuncId
 O7:FuncId
 K3:FuncId
 Lm:FuncId
 OQ:FuncId
 Ih:FuncId
 KW:FuncId
 Uh:FuncId
 OW:FuncId
 Uj:FuncId
 UO:FuncId
 Um:FuncId
 OM:FuncId
 UG:FuncId
 Uw:FuncId
 Li:FuncId
 OX:FuncId
 UM:FuncId
 UW:FuncId
 K7:FuncId
 K6:FuncId
 Ii:FuncId
 Lc:FuncId
 O3:FuncId
 Lb:FuncId
 O0:FuncId
 UK:FuncId
 UJ:FuncId
 OU:FuncId
 Un:FuncId
 OV:FuncId
 Ut:FuncId
 Us:FuncId
 UR:FuncId
 K9:FuncId
 UY:FuncId
 O4:FuncId
 Pg:FuncId
 OO:FuncId
 OB:FuncId
 K4:FuncId
 UC:FuncId
 UA:FuncId
 Pf:FuncId
 Ux:FuncId
 UQ:FuncId
 La:FuncId
 U4:FuncId
 ZT:FuncId
 OP:FuncId
 Uv:FuncId
 O5:FuncId
 O8:FuncId
 Uu:FuncId
 U3:FuncId
 ZR:FuncId
 EY:FuncId
 EX:FuncId
 strconv_Itoa:FuncId
 OE:FuncId
 OH:FuncId
 OA:FuncId
 Ld:FuncId
 UU:FuncId
 Pm:Nat
 Po:Nat
structure Bd(P:Program)(F:Ic):Prop where
 hm:P.follows .mixedOrders=true
 ZI:Is P F.KS PD [4] 2
 P32:Is P F.Z4 Z90 [4] 2
 ZJ:Is P F.OT (LC F.OL F.Ur) [4] 2
 Zy:Is P F.OL (Py F.KS) [4] 2
 Zz:Is P F.Ur Pz [4] 2
 ZA:Is P F.E8 DC [2] 1
 P3H:Is P F.UH (Z9P F.E8) [4] 2
 P2M:Is P F.UE (Pt F.UH) [4] 2
 P4d:Is P F.Io (DF F.Le F.O1 F.OC) [2] 1
 P3t:Is P F.Le PL [3] 2
 P3u:Is P F.O1 (PN F.ES) [4] 3
 Zt:Is P F.OC (Pw F.Uf) [4] 2
 Zu:Is P F.ES (Pw F.KU) [4] 2
 Zv:Is P F.Uf LH [4] 2
 Ue:Is P F.KU LH [4] 2
 P4A:Is P F.Pb (Wi F.Io) [4] 2
 P3r:Is P F.OZ (Pt F.Pb) [4] 2
 ZE:Is P F.Oy Pv [4] 2
 ZB:Is P F.Ij (Vb F.Oz) [4] 2
 ZF:Is P F.Oz Vh [4] 2
 ZC:Is P F.Dv (Fw 1 8 (.v (.int .i64 0))) [2] 1
 Ui:Is P F.KL (ME 1 8 (.v (.int .i64 0))) [4] 2
 Ug:Is P F.Du (Me 1 8 F.KL) [2] 1
 P4C:Is P F.Bb (P9 F.Dv F.EY F.EX) [2] 1
 P4u:Is P F.Ph (IL F.Bb F.Oy) [6] 3
 P4f:Is P F.O9 (Cj F.Ph) [2] 1
 P4g:Is P F.Lh (IV F.Lh) [2] 1
 Z6:Is P F.K5 PG [4] 2
 ZN:xA P F.K8 (Bf F.Dv F.OY F.OD F.Bb F.K5 F.OI F.OJ F.O7 F.K3) [.c 4 (some 3)] 2
 Zw:Is P F.OD (Pq F.KU) [4] 2
 Z0:Is P F.OY IB [3] 2
 ZM:Is P F.OI (PI F.K8) [4] 2
 ZO:kS P F.OJ (PK F.K3 F.Du F.Bb) [.c 4 (some 3)] 2
 P3Z:kS P F.O7 (PV F.Du F.Bb) [.c 2 (some 3)] 1
 ZY:Is P F.K3 (Px F.Du F.Bb) [] 3
 P4U:kS P F.Lm (FL F.Lh F.K5 F.K8 F.Dv F.Bb) [.c 4 (some 4),.t 5] 2
 P3m:Is P F.OQ (Z9l F.OQ) [2] 1
 P3G:Is P F.Ih Z7b [4] 2
 P2r:kS P F.KW (Z7v F.Ih F.KW F.Uh F.OW F.Uj) [.c 4 (some 3)] 2
 P2i:Is P F.Uh (Z78 F.OW) [] 3
 P3E:Is P F.OW (Z9O F.Ih) [4] 2
 P2s:kS P F.Uj (Z7w F.KW) [.c 4 (some 3)] 2
 P3U:ER P F.UO (Zao F.OQ F.KW F.Ih) [.c 4 (some 4),.t 5] 2
 P2T:Is P F.Um Z8l [6] 3
 P31:Is P F.OM (Z8Z F.Um) [2] 1
 P3F:Is P F.UG LG [4] 2
 P3n:Is P F.Uw (Z9m F.OM F.UG F.Ih) [6] 3
 P4q:Is P F.Li (ZcW F.strconv_Itoa F.OE F.OH F.OA) [2] 1
 ZX:Cc P F.OX (Vk F.Li F.Pm) [.t 4] 2
 ZP:Cc P F.UM (LJ F.OX F.K6) [.c 4 (some 3)] 2
 P3w:Is P F.UW LK [6] 4
 ZL:Is P F.K7 (Vt F.Ij F.EY F.EX) [6] 3
 ZK:Is P F.K6 (Vs F.Ii F.ES) [4] 2
 ZW:Is P F.Ii (Vj F.Ij) [3] 2
 P4e:kS P F.Lc (PS F.Ld F.O3) [.c 4 (some 3),.t 5] 2
 P3v:Is P F.O3 (Vw F.K7 F.Du) [6] 3
 P4c:kS P F.Lb (PS F.Ld F.O0) [.c 4 (some 3),.t 5] 2
 P3s:Is P F.O0 (Vv F.K6 F.K7) [6] 3
 P3J:Is P F.UK Z7b [4] 2
 P3I:Is P F.UJ LG [4] 2
 P3o:Is P F.OU (Z9n F.UJ) [4] 2
 P2U:Is P F.Un (Z8m F.OU F.Uw F.UK) [8] 4
 P3p:kS P F.OV (Z9o F.OM F.Un F.KS F.OU) [.c 6 (some 3),.t 7] 3
 P34:kS P F.Ut (Z92 F.OV) [.c 4 (some 3),.t 5] 2
 P33:kS P F.Us (Z91 F.OV) [.c 4 (some 3),.t 5] 2
 Z8:Is P F.UR Vz [2] 1
 P3Y:Is P F.K9 (ZaQ F.strconv_Itoa F.OE F.OH F.OA) [6] 3
 P3x:Is P F.UY (Vx F.K9) [4,5] 2
 ZQ:Is P F.O4 (Vu F.UR F.UY) [2] 1
 P4r:kS P F.Pg (VX F.Io F.O4) [.c 2 (some 3),.t 3] 1
 ZG:Is P F.OO Vm [2] 1
 Zx:Is P F.OB (Vf F.E8 F.OO) [2] 1
 Z5:kS P F.K4 (Vp F.E8 F.OB) [.c 2 (some 3),.t 3] 1
 ZV:Is P F.UC PE [4] 2
 ZU:kS P F.UA zW [.c 8 (some 2)] 4
 P4B:kS P F.Pf (Wj F.Io F.UC F.UA) [.c 6 (some 3),.t 7] 3
 P3q:kS P F.Ux Z9p [.c 8 (some 2)] 4
 P3V:kS P F.UQ (Zap F.E8 F.Ux) [.c 6 (some 3),.t 7] 3
 UN:kS P F.La (VE F.Lm) [.c 8 (some 3),.t 9] 4
 P4t:kS P F.U4 (FD F.La F.Lc F.Lb F.Pf F.Pg) [.c 6 (some 3),.t 7] 3
 P3X:kS P F.ZT (Zar F.UO F.Ut F.Us F.UQ F.K4) [.c 6 (some 3),.t 7] 3
 UD:Is P F.OP (Iz F.OP) [4] 2
 ZH:Is P F.Uv (Vn F.OP) [4] 2
 Z9:Is P F.O5 PO [2] 1
 P40:Is P F.O8 (IC F.O5 F.ES) [4] 2
 P35:Is P F.Uu Z93 [4] 2
 P4s:Is P F.U3 (VY F.O8 F.OZ) [6] 3
 P3W:Is P F.ZR (Zaq F.Uu F.UE) [6] 3
 m1:J2 P F.Ld=some (Gi F.O9 F.UU F.UW F.UM)
 P6p:Gm P F.UU=some (5,2,FU F.Pm,16)
 P5y:Br P F.Li F.Po
 P5z:Br P F.K9 F.Po
 sort:MQ P F.EY
 comp:MN P F.EX
 Fj:aJ P F.EY [.sl true []] (.aO [])
 Fh:aJ P F.EX [.sl true []] (.sl true [])
 YJ:BG P F.OE F.OH F.OA F.Po 5
 itoa:Dr P F.strconv_Itoa (fun n=>0≤n∧n < 10000)
theorem Zmd{X:Type}{l:List X}{k:Nat}(h:l.length≤k)(hk:k≤140737488351232):Len l:=by unfold Len;omega
structure yu(n:Net):Prop where
 rows:∀l∈n.rows,l.length≤1000
 au:n.au.length≤1000
 follow:n.follow.length≤1000
theorem yu.ok{n:Net}(h:yu n):Zsv n:=by
 have h1:=h.au;have h2:=h.follow;have h3:=fun l hl=>h.rows l hl
 refine⟨by unfold Len;omega,by unfold Len;omega,?_,fun r hr=>?_,fun r hr=>?_⟩
 ·have:=h3 n.last (by simp[Net.rows]);unfold Len;omega
 ·have:=h3 r (by simp[Net.rows,hr]);unfold Len;omega
 ·have:=h3 r (by simp[Net.rows,hr]);unfold Len;omega
theorem Zg4{n:Net}(R:mY n):yu n:=by
 have h1:=R.n2;have h2:=R.len;have h3:=R.s2;refine⟨fun l hl=>?_,by omega,by omega⟩;simp only[Net.rows,List.mem_cons,List.mem_append] at hl;rcases hl with rfl | hl | hl
 ·have:=JB R.last.1 R.last.2;omega
 ·obtain⟨i,hi,rfl⟩:=List.getElem_of_mem hl
  have:=JB (R.au i hi).1 (R.au i hi).2;omega
 ·obtain⟨i,hi,rfl⟩:=List.getElem_of_mem hl
  have:=V4 R hi;omega
theorem Zdw:yu BL:=⟨fun l hl=>by simp[BL,Net.rows] at hl;subst hl;simp,by simp[BL],by simp[BL]⟩
theorem ZaZ(p:aF)(sg:Int):yu (qB p sg).1:=by
 unfold qB;split
 ·exact Zdw
 ·split
  ·exact Zdw
  ·exact Zg4 (Qt (p:=p) (sg:=sg) (by omega) (by omega) (Yl (by assumption))).R
theorem ZvK:∀k < 10000,(Lib.decDigits k).length≤4:=by
 intro k hk;rw[Lib.decDigits];split
 ·simp
 ·rw[Lib.decDigits]
  split
  ·simp
  ·rw[Lib.decDigits]
   split
   ·simp
   ·rw[Lib.decDigits,dif_pos (by omega)];simp
theorem ZdA:∀{l:List Int},(∀x∈l,0≤x∧x < 10000)→(jY l).length≤5*l.length
 | [],_=>by simp[jY]
 | n::l,h=>by
  have h1:=h n (by simp);have h2:=ZvK n.toNat (by omega);have h3:=ZdA (l:=l) (fun x hx=>h x (by simp[hx]));rw[LW,Mv h1.1];simp only[List.length_append,List.length_cons];omega
namespace Bd
variable{P:Program}{F:Ic}(S:Bd P F)
include S
theorem P68(a b:List Int)(ha:Len a)(hb:Len b):aJ P F.KS [aj a,aj b] (aD (a == b)):=S.ZI.pure S.hm rfl (Z8f _ a b ha hb)
theorem P5F(d:aC)(ok:nU d):aJ P F.E8 [aR d] (aD (fK d)):=S.ZA.pure S.hm rfl (Z7W _ d ok)
theorem U0(l:List Int)(p:Int→Bool)(g:FuncId)(cap:List AV)(hl:Len l)(hcap:∀y∈cap,aY y)(hp:∀x∈l,aJ P g (ah x::cap) (aD (p x))):aJ P F.ES [aj l,.aP g [] cap] (aD (l.any p)):=
 S.Zu.pure S.hm rfl (Z5H (enc:=ah) aW hcap (S.Ue.pure S.hm rfl (Vi (enc:=ah) hl (fun _=>rfl) aW hcap hp)))
theorem P5a(l:List (List Int))(p:List Int→Bool)(g:FuncId)(cap:List AV)(hl:Len l)(hcap:∀y∈cap,aY y)(hp:∀x∈l,aJ P g (aj x::cap) (aD (p x))):aJ P F.OC [aU l,.aP g [] cap] (aD (l.any p)):=
 S.Zt.pure S.hm rfl (Z5H (enc:=aj) aT hcap (S.Zv.pure S.hm rfl (Vi (enc:=aj) hl (fun _=>rfl) aT hcap hp)))
omit S in
theorem P5e(k:Nat):aY (.aP F.Le [] [.bJ (ah k) 0]):=.aP _ _ _ aQ (aG (.bJ _ _ (aW _)) aQ)
theorem O6(d:aC)(ok:nU d):aJ P F.Io [aR d] (aD (fK d)):=by
 refine S.P4d.pure S.hm rfl (ZcH d ok ?_);refine S.P5a d.next (CS d) F.O1 _ ok.next (aG (.bJ _ _ (dZ d)) (aG (.bJ _ _ (P5e _)) aQ)) (fun r hr=>?_)
 refine S.P3u.pure S.hm rfl (Zb5 d r ?_);exact S.U0 r (GI d.next.length) F.Le _ (ok.rows r hr) (aG (.bJ _ _ (aW _)) aQ) (fun t _=>S.P3t.pure S.hm rfl (Zb4 _ t _))
theorem P5J(d:aC)(ok:nU d)(l:List Int)(hl:Len l):aJ P F.Pb [aR d,aj l] (ah (BM (yG d l))):=S.P4A.pure S.hm rfl (Zfa d l hl (S.O6 d ok))
theorem P4X(d:aC)(ok:nU d)(l:List Int)(hl:Len l):aJ P F.OZ [aR d,aj l] (aD (uE d l)):=S.P3r.pure S.hm rfl (Z7o d l (S.P5J d ok l hl))
theorem P5W(a b:List (List Int))(ha:Len a)(hb:Len b)(h1:∀x∈a,Len x)(h2:∀x∈b,Len x):aJ P F.OL [aU a,aU b] (aD (a == b)):=
 S.Zy.pure S.hm rfl (ZeI a b ha hb (fun x hx y hy=>S.P68 x y (h1 x hx) (h2 y hy)))
theorem P6a(a b:aC)(oa:nU a)(ob:nU b):aJ P F.OT [aR a,aR b] (aD (yw a b)):=
 S.ZJ.pure S.hm rfl (Zgu (fe:=0) a b (S.P5W _ _ oa.next ob.next oa.rows ob.rows) (S.Zz.pure S.hm rfl (ZeG _ _ oa.fin ob.fin)))
theorem Lp:xw P F.Dv (q8 1 8 (.v (.int .i64 0))) [.t 2] 1:=Zhp S.hm S.ZC
theorem P6v:Zvt P F.Dv F.EY F.EX:=⟨S.Lp,S.sort,S.comp,S.Fj,S.Fh⟩
theorem P6m(l:List Int)(hl:l.length≤17592186043904):aJ P F.Bb [aj l] (aj (jo l)):=S.P4C.pure S.hm rfl (ZfG S.P6v l hl)
theorem P5U(a b:List Int)(ha:Len a)(hb:Len b):aJ P F.Oy [aj a,aj b] (aD (a == b)):=S.ZE.pure S.hm rfl (ZaH a b ha hb)
theorem P69(l:List Int)(a b:Int)(hl:l.length≤17592186043904):aJ P F.Ph [aj l,ah a,ah b] (aD (rZ l a b)):=S.P4u.pure S.hm rfl (Zeb l a b hl (S.P6m l hl) S.P5U)
theorem P5l(n:Net)(h:yu n):aJ P F.O9 [jA n] (aD (qC n)):=S.P4f.pure S.hm rfl (ZcL n h.ok (fun l hl a b=>S.P69 l a b (by have:=h.rows l hl;omega)))
theorem P6i:Aj P F.Lm F.Lh F.K5 F.K8 F.Dv F.Bb F.OI F.OJ F.O7 F.K3 F.OD F.KU F.OY F.Du F.KL:=
 ⟨S.P4U,S.P4g,S.Z6,S.ZN,S.Lp,S.Zw,S.Ue,S.Z0,S.ZM,S.ZO,S.P3Z,S.ZY,S.Ug,S.Ui,S.P6m⟩
theorem P5E(p:aF)(hp:oP p)(sg:Int):aJ P F.Lm [cB p,ah sg] (Ej (qB p sg)):=S.P6i.ok S.hm p hp sg
theorem P5V(l:List Int)(x:Int)(hl:Len l):aJ P F.Oz [aj l,ah x] (ah (su (fun y=>x == y) l)):=S.ZF.pure S.hm rfl (ZaI l x hl)
theorem P4Q(l:List Int)(x:Int)(hl:Len l):aJ P F.Ij [aj l,ah x] (aD (l.contains x)):=S.ZB.pure S.hm rfl (Z96 l x (S.P5V l x hl))
theorem P6b(l:List Int)(hx:∀x∈l,0≤x∧x < 10000)(hl:l.length≤1000000):aJ P F.Li [aj l] (sj (jY l)):=by
 have h1:=ZdA hx;exact ZdY S.hm S.P4q S.P5y S.YJ S.itoa hx (by omega) (by omega)
theorem P6u(n:Net)(h:n.follow.length≤1000):JU P F.OX F.Pm n:=by
 intro id km most ss v set St K X M hv hs hm h1 h2 h3;refine S.ZX.Fg S.hm rfl ?_;exact Zha M (S.P6b set (fun x hx=>⟨(hv.1 x hx).1,by have:=(hv.1 x hx).2;omega⟩) (by have:=hv.2;omega)) hv.nn (fun s h=>(hs.v s h).nn) hs.l hm h1 h2 h3
theorem P6g:Zsr P F.Ij F.EY F.EX:=⟨S.P4Q,S.sort,S.comp,S.Fj,S.Fh⟩
theorem P6o(n:Net)(R:mY n):Si P F.K7 n:=fun set s hv=>S.ZL.P6j S.hm rfl (ZdX R S.P6g set (by have:=hv.2;omega) hv.1 s)
theorem P6t(n:Net)(h:yu n)(s:Int):aJ P F.Ii [ah s,.bJ (nW n) 0] (aD (n.last.contains s)):=S.ZW.pure S.hm rfl (ZbZ n s (S.P4Q n.last s h.ok.last))
omit S in
theorem P5d(n:Net):∀y∈[AV.bJ (nW n) 0],aY y:=aG (.bJ _ _ (ZbW n)) aQ
theorem P6s(n:Net)(h:yu n)(a:List Int)(ha:Len a):aJ P F.ES [aj a,.aP F.Ii [] [.bJ (nW n) 0]] (aD (a.any fun s=>n.last.contains s)):=
 S.U0 a _ F.Ii _ ha (P5d n) (fun x _=>S.P6t n h x)
theorem P63(n:Net)(h:yu n):RF P F.K6 n:=fun set hv=>S.ZK.pure S.hm rfl (ZdW n set (S.P6s n h set (Zmd hv.2 (by omega))))
theorem P6f:MP P F.KL 1 (.v (.int .i64 0)):=Zhq S.hm (by omega) rfl (by omega) S.Ui
theorem P5I(l:List Int)(hl:l.length≤1000):aJ P F.Du [.sl true [.sl true [ah 0],aj l]] (aj (0::l)):=by
 have:=VH S.hm S.P6f (by omega) S.Ug (enc:=ah) aW (fun _=>rfl) [(true,[0]),(false,l)] (by simp) (by simp;omega);simpa[aj] using this
theorem P5D(n:Net)(h:yu n)(most:Int)(kd:Kd)(fb:FuncId)(hb:mY n→HB P fb n kd):aJ P F.Ld [jA n,ah most,.aP fb [] []] (jQ (lK kd n most)):=by
 have:=Zoy S.hm S.m1 S.P6p S.ZP S.P3w (most:=most) (S.P5l n h) (fun R=>S.P6u n h.follow) (fun R=>hb ((Bh n).mp R)) (fun _=>S.P63 n h);rw[Zlm] at this;exact this.pure (aG (Cm n) (aG (aW _) (aG (.aP _ _ _ aQ aQ) aQ))) (Bn _)
theorem P5G(n:Net)(h:yu n)(most:Int):aJ P F.Lc [jA n,ah most] (jQ (lK .tails n most)):=
 S.P4e.pure S.hm rfl (Z99 (S.P5D n h most .tails F.O3 (fun R=>.tails S.hm R (S.P6o n R) S.P3v S.P5I)))
theorem P5B(n:Net)(h:yu n)(most:Int):aJ P F.Lb [jA n,ah most] (jQ (lK .heads n most)):=
 S.P4c.pure S.hm rfl (Z99 (S.P5D n h most .heads F.O0 (fun R=>.heads S.hm (S.P6o n R) (S.P63 n h) S.P3s)))
theorem P6c{d:aC}(R:dP d){c:List Int}(hcl:c.length=d.next.length)(hc:∀n∈c,yc n)(s:Nat)(hs:s < d.next.length):aJ P F.K9 [aR d,aj c,ah s] (zu (vv d c s)):=
 Znk S.hm S.P3Y S.P5z S.YJ S.itoa R hcl hc hs
theorem P5j{d:aC}(R:dP d):aJ P F.O4 [aR d] (aj (oC d)):=
 S.ZQ.lV S.hm rfl (Zf3 R (S.Z8.lV S.hm rfl (ZgK d (by have:=R.fin;have:=R.n2;omega))) (fun c hcl hc=>S.P3x.lV S.hm rfl (Zjy R hcl hc (S.P6c R hcl hc))))
theorem P5C(d:aC)(ok:nU d):aJ P F.Pg [aR d] (jQ (oQ d)):=S.P4r.lV S.hm rfl (Ze6 (S.O6 d ok) S.P5j)
theorem P5T{d:aC}(R:dP d):aJ P F.OO [aR d] (CJ (yK (oC d) d.next.length)):=S.ZG.lV S.hm rfl (Zjd R)
theorem P59(d:aC)(ok:nU d):aJ P F.OB [aR d] (aj (if fK d=true then oC d else [])):=S.Zx.lV S.hm rfl (Zad (S.P5F d ok) S.P5T)
theorem P5r(d:aC)(ok:nU d):aJ P F.K4 [aR d] (jQ (oQ d)):=by
 refine S.Z5.lV S.hm rfl (Zeo (S.P5F d ok) (fun R=>?_));have:=S.P59 d ok;rwa[if_pos ((uQ d).mpr R)] at this
theorem P5X(b a:aC)(most:Int)(ob:nU b)(oa:nU a):aJ P F.Pf [aR b,aR a,ah most] (jQ (kF b a most)):=
 S.P4B.lV S.hm rfl (Zh8 b a most (S.O6 b ob) (S.O6 a oa) (fun o ss x ho hl=>Zmt S.hm S.ZV b a o ss ho hl x)
  (fun Rb Ra hs x s hx hlt=>S.ZU.lV S.hm rfl (Zgz Rb Ra hs x hx s hlt)))
end Bd
theorem Ru:nU Dn:=⟨by simp[Dn,Len],by simp[Dn,Len],by simp[Dn],by simp[Dn]⟩
theorem ZiP(kd:Kd)(p:aF)(sg most:Int):nU (kH kd p sg most).1:=by
 unfold kH;split
 ·exact ZrO _ _ _
 ·exact Ru
theorem Zoz(b a:aC)(most:Int):nU (kF b a most).1:=by
 cases h:kF b a most with
 | mk d e=>
  by_cases he:e=0
  ·subst he;exact Wy (Wu h).1.R
  ·unfold kF at h
   split at h
   ·split at h
    ·cases h;exact(he rfl).elim
    ·cases h;exact Ru
   ·cases h;exact Ru
namespace Bd
variable{P:Program}{F:Ic}(S:Bd P F)
include S
theorem P60(p:aF)(hp:oP p)(sg most:Int):aJ P F.La [cB p,ah sg,ah most,.aP F.Lc [] []] (jQ (kH .tails p sg most)):=
 S.UN.lV S.hm rfl (Zg2 p sg most .tails (S.P5E p hp sg) (S.P5G _ (ZaZ p sg) most))
theorem P5Z(p:aF)(hp:oP p)(sg most:Int):aJ P F.La [cB p,ah sg,ah most,.aP F.Lb [] []] (jQ (kH .heads p sg most)):=
 S.UN.lV S.hm rfl (Zg2 p sg most .heads (S.P5E p hp sg) (S.P5B _ (ZaZ p sg) most))
theorem P5Y(r:lN)(hb:oP r.before)(ha:oP r.after)(sg most:Int):aJ P F.U4 [mq r,ah sg,ah most] (jQ (vk r sg most)):=
 S.P4t.lV S.hm rfl (ZfD r sg most (S.P60 r.before hb sg most) (S.P5Z r.after ha sg most) (fun _ _=>S.P5X _ _ most (ZiP _ _ _ _) (ZiP _ _ _ _)) (fun _ _ _=>S.P5C _ (Zoz _ _ _)))
theorem U6(r:lN)(hb:zk r.before)(ha:zk r.after)(m:Int)(h0:-1≤m)(h1:m≤100):aJ P F.Uv [mq r,ah m] (aD (Ga r m)):=
 S.ZH.lV S.hm rfl (Zja r m (WS S.hm S.UD r.before m hb h0 h1) (WS S.hm S.UD r.after m ha h0 h1))
theorem P61(s:List Int)(p:Int)(hs:s.length≤1000000):aJ P F.O8 [aj s,ah p] (aj (qX s p)):=
 S.P40.pure S.hm rfl (Zcl s p hs (S.U0 s zy F.O5 [] (by unfold Len;omega) aQ (fun x _=>S.Z9.pure S.hm rfl (ZaE _ x))))
omit S in
theorem P5q(s:List Int)(p:Int)(hs:s.length≤1000000):Len (qX s p):=by
 have:(qX s p).length≤s.length:=by
  unfold qX;split
  ·rw[wO];exact Nat.le_refl _
  ·simp
 unfold Len;omega
theorem cAt(d:aC)(ok:nU d)(l:List Int)(hl:l.length≤1000000)(p:Int):aJ P F.U3 [aR d,aj l,ah p] (aD (SI d l p)):=
 S.P4s.lV S.hm rfl (Zqq d l p (S.P61 l p hl) (S.P4X d ok _ (P5q l p hl)))
end Bd
end Go.Rf
namespace Go.Proofs.YtdmcjhnbmgmgoaaGreatDoor
open Go.ChangeShapes Go.WideShapes Go.ChangeAt Go.RowKit Go.Rf
theorem Aw:Tryz.prog.follows .mixedOrders=true:=by kernel_rfl
theorem ZsO:Is Tryz.prog 80 (Fw 1 8 (.v (.int .i64 0))) [2] 1:=.k Tryz.func80 (by kernel_rfl)
theorem Lp:xw Tryz.prog 80 (q8 1 8 (.v (.int .i64 0))) [.t 2] 1:=Zhp Aw ZsO
noncomputable def Ny:Tab:=YG Tryz.prog (fun f=>bif Nat.beq f 80 then some (q8 1 8 (.v (.int .i64 0)),[.t 2],1) else none) (fun _=>none)
theorem ZpX:Al Tryz.prog Ny:=by
 refine Zs6 Aw (fun f p h=>?_) (fun f g args v h=>by cases h);cases hb:Nat.beq f 80 with
 | true=>
  rw[hb] at h;have:f=80:=Nat.eq_of_beq_eq_true hb;subst this;cases h;exact @Lp
 | false=>rw[hb] at h;cases h
theorem ZmT:EC Ny (AA Ny 500) 66 [.sl true []]=some (.aO [],true):=by kernel_rfl
theorem ZmQ:EC Ny (AA Ny 500) 67 [.sl true []]=some (.sl true [],true):=by kernel_rfl
theorem ZoY:aJ Tryz.prog 66 [.sl true []] (.aO []):=.U7 Aw ZpX 500 ZmT
theorem ZoX:aJ Tryz.prog 67 [.sl true []] (.sl true []):=.U7 Aw ZpX 500 ZmQ
theorem ZrY:MQ Tryz.prog 66:=Zv2
theorem ZrV:MN Tryz.prog 67:=Zv0
theorem ZtW:BG Tryz.prog 133 135 136 167 5:=ZvS
theorem ZrW:Dr Tryz.prog 134 (fun n=>0≤n∧n < 10000):=Zv1
theorem ZmV:Br Tryz.prog 132 167:=by unfold Br;kernel_rfl
theorem ZmW:Br Tryz.prog 115 167:=by unfold Br;kernel_rfl
theorem Zvi:J2 Tryz.prog 48=some (Gi 81 82 84 83):=by kernel_rfl
theorem ZrX:Gm Tryz.prog 82=some (5,2,FU 122,16):=by kernel_rfl
def fnM:Ic:={ KS:=18,Z4:=13,OT:=12,OL:=35,Ur:=36,E8:=38,UH:=70,UE:=41,Io:=54,Le:=88,O1:=90,OC:=89,ES:=72,Uf:=114,KU:=102,Pb:=73,OZ:=44,Oy:=131,Ij:=86,Oz:=113,Dv:=80,KL:=85,Du:=50,Bb:=79,Ph:=111,O9:=81,Lh:=76,K5:=77,K8:=78,OD:=105,OY:=106,OI:=108,OJ:=107,O7:=109,K3:=110,Lm:=47,OQ:=58,Ih:=60,KW:=59,Uh:=93,OW:=94,Uj:=95,UO:=30,Um:=116,OM:=96,UG:=137,Uw:=117,Li:=132,OX:=112,UM:=83,UW:=84,K7:=51,K6:=53,Ii:=87,Lc:=26,O3:=49,Lb:=27,O0:=52,UK:=118,UJ:=119,OU:=98,Un:=97,OV:=61,Ut:=31,Us:=32,UR:=91,K9:=115,UY:=92,O4:=57,Pg:=29,OO:=99,OB:=63,K4:=34,UC:=55,UA:=56,Pf:=28,Ux:=62,UQ:=33,La:=25,U4:=10,ZT:=11,OP:=24,Uv:=9,O5:=71,O8:=43,Uu:=42,U3:=16,ZR:=17,EY:=66,EX:=67,strconv_Itoa:=134,OE:=133,OH:=135,OA:=136,Ld:=48,UU:=82,Pm:=122,Po:=167 }
theorem Dm:Bd Tryz.prog fnM:={ hm:=Aw,ZI:=.k Tryz.func18 (by kernel_rfl),P32:=.k Tryz.func13 (by kernel_rfl),ZJ:=.k Tryz.func12 (by kernel_rfl),Zy:=.k Tryz.func35 (by kernel_rfl),Zz:=.k Tryz.func36 (by kernel_rfl),ZA:=.k Tryz.func38 (by kernel_rfl),P3H:=.k Tryz.func70 (by kernel_rfl),P2M:=.k Tryz.func41 (by kernel_rfl),P4d:=.k Tryz.func54 (by kernel_rfl),P3t:=.k Tryz.func88 (by kernel_rfl),P3u:=.k Tryz.func90 (by kernel_rfl),Zt:=.k Tryz.func89 (by kernel_rfl),Zu:=.k Tryz.func72 (by kernel_rfl),Zv:=.k Tryz.func114 (by kernel_rfl),Ue:=.k Tryz.func102 (by kernel_rfl),P4A:=.k Tryz.func73 (by kernel_rfl),P3r:=.k Tryz.func44 (by kernel_rfl),ZE:=.k Tryz.func131 (by kernel_rfl),ZB:=.k Tryz.func86 (by kernel_rfl),ZF:=.k Tryz.func113 (by kernel_rfl),ZC:=.k Tryz.func80 (by kernel_rfl),Ui:=.k Tryz.func85 (by kernel_rfl),Ug:=.k Tryz.func50 (by kernel_rfl),P4C:=.k Tryz.func79 (by kernel_rfl),P4u:=.k Tryz.func111 (by kernel_rfl),P4f:=.k Tryz.func81 (by kernel_rfl),P4g:=.k Tryz.func76 (by kernel_rfl),Z6:=.k Tryz.func77 (by kernel_rfl),ZN:=.k Tryz.func78 (by kernel_rfl),Zw:=.k Tryz.func105 (by kernel_rfl),Z0:=.k Tryz.func106 (by kernel_rfl),ZM:=.k Tryz.func108 (by kernel_rfl),ZO:=.k Tryz.func107 (by kernel_rfl),P3Z:=.k Tryz.func109 (by kernel_rfl),ZY:=.k Tryz.func110 (by kernel_rfl),P4U:=.k Tryz.func47 (by kernel_rfl),P3m:=.k Tryz.func58 (by kernel_rfl),P3G:=.k Tryz.func60 (by kernel_rfl),P2r:=.k Tryz.func59 (by kernel_rfl),P2i:=.k Tryz.func93 (by kernel_rfl),P3E:=.k Tryz.func94 (by kernel_rfl),P2s:=.k Tryz.func95 (by kernel_rfl),P3U:=.k Tryz.func30 (by kernel_rfl),P2T:=.k Tryz.func116 (by kernel_rfl),P31:=.k Tryz.func96 (by kernel_rfl),P3F:=.k Tryz.func137 (by kernel_rfl),P3n:=.k Tryz.func117 (by kernel_rfl),P4q:=.k Tryz.func132 (by kernel_rfl),ZX:=.k Tryz.func112 (by kernel_rfl),ZP:=.k Tryz.func83 (by kernel_rfl),P3w:=.k Tryz.func84 (by kernel_rfl),ZL:=.k Tryz.func51 (by kernel_rfl),ZK:=.k Tryz.func53 (by kernel_rfl),ZW:=.k Tryz.func87 (by kernel_rfl),P4e:=.k Tryz.func26 (by kernel_rfl),P3v:=.k Tryz.func49 (by kernel_rfl),P4c:=.k Tryz.func27 (by kernel_rfl),P3s:=.k Tryz.func52 (by kernel_rfl),P3J:=.k Tryz.func118 (by kernel_rfl),P3I:=.k Tryz.func119 (by kernel_rfl),P3o:=.k Tryz.func98 (by kernel_rfl),P2U:=.k Tryz.func97 (by kernel_rfl),P3p:=.k Tryz.func61 (by kernel_rfl),P34:=.k Tryz.func31 (by kernel_rfl),P33:=.k Tryz.func32 (by kernel_rfl),Z8:=.k Tryz.func91 (by kernel_rfl),P3Y:=.k Tryz.func115 (by kernel_rfl),P3x:=.k Tryz.func92 (by kernel_rfl),ZQ:=.k Tryz.func57 (by kernel_rfl),P4r:=.k Tryz.func29 (by kernel_rfl),ZG:=.k Tryz.func99 (by kernel_rfl),Zx:=.k Tryz.func63 (by kernel_rfl),Z5:=.k Tryz.func34 (by kernel_rfl),ZV:=.k Tryz.func55 (by kernel_rfl),ZU:=.k Tryz.func56 (by kernel_rfl),P4B:=.k Tryz.func28 (by kernel_rfl),P3q:=.k Tryz.func62 (by kernel_rfl),P3V:=.k Tryz.func33 (by kernel_rfl),UN:=.k Tryz.func25 (by kernel_rfl),P4t:=.k Tryz.func10 (by kernel_rfl),P3X:=.k Tryz.func11 (by kernel_rfl),UD:=.k Tryz.func24 (by kernel_rfl),ZH:=.k Tryz.func9 (by kernel_rfl),Z9:=.k Tryz.func71 (by kernel_rfl),P40:=.k Tryz.func43 (by kernel_rfl),P35:=.k Tryz.func42 (by kernel_rfl),P4s:=.k Tryz.func16 (by kernel_rfl),P3W:=.k Tryz.func17 (by kernel_rfl),m1:=Zvi,P6p:=ZrX,P5y:=ZmV,P5z:=ZmW,sort:=ZrY,comp:=ZrV,Fj:=ZoY,Fh:=ZoX,YJ:=ZtW,itoa:=ZrW }
end Go.Proofs.YtdmcjhnbmgmgoaaGreatDoor
namespace Go.Proofs.YtdmcjhnbmgmgoaaGreatDoor
open Go.ChangeShapes Go.WideShapes Go.ChangeAt Go.RowKit Go.Rf
theorem ZvW:Is Tryz.prog 37 (Z9S 54 64 65 66 67 43 44) [2,3,4] 1:=⟨Tryz.f37,Tryz.f37.body.getD .skip,Tryz.func37,by kernel_rfl,by kernel_rfl,by kernel_rfl,by kernel_rfl,by rw[Tryz.ntmps37];decide⟩
theorem ZfI{n:Net}(h:TI n=true):yu n:=by
 simp only[TI,Bool.and_eq_true,List.all_eq_true,Nat.ble_eq] at h;obtain⟨⟨h1,h2⟩,h3⟩:=h;exact⟨h1,by omega,by omega⟩
def ZuK:List (Nat×AC×List RV×Nat):=[(80,q8 1 8 (.v (.int .i64 0)),[.t 2],1),(37,Z9S 54 64 65 66 67 43 44,[.t 2,.t 3,.t 4],1)]
def Zva:List (Nat×(List AV→Option AV)):=[(26,TS .tails),(27,TS .heads),(28,Zq fun b a m=>jQ (kF b a m)),(29,x1 fun d=>jQ (oQ d))]
noncomputable def tab:Tab:=SC Tryz.prog (Gh ZuK) (fun _=>none) (Gh Zva)
theorem Zvm:Al Tryz.prog tab:=
 Zs3 Aw (all_cons @Lp (all_cons (ZvW.P6r Aw) Zks))
  (all_cons (fun _ _ h=>ZpZ (fun n m hk=>Dm.P5G n (ZfI hk) m) h) (all_cons (fun _ _ h=>ZpZ (fun n m hk=>Dm.P5B n (ZfI hk) m) h)
   (all_cons (fun _ _ h=>Zu9 (fun b a m hb ha=>Dm.P5X b a m hb ha) h) (all_cons (fun _ _ h=>Zvo (fun d hd=>Dm.P5C d hd) h) Zks))))
theorem Zra:EC tab (AA tab 500) 8 []=some (aD true,true):=by kernel_rfl
theorem ZsJ:aJ Tryz.prog 8 [] (aD true):=.U7 Aw Zvm 500 Zra
end Go.Proofs.YtdmcjhnbmgmgoaaGreatDoor
namespace Go.Rf
open Go.RowKit
theorem Zu1{p:aF}{m:Nat}(h:uL p≤m)(hm:m≤100000):xq p=uL p:=by unfold xq;omega
structure Zsy(r:lN)(m:Nat):Prop where
 b:oP r.before
 a:oP r.after
 nb:uL r.before≤m
 na:uL r.after≤m
theorem Zp3{r:lN}{m:Nat}(hb:zk r.before)(ha:zk r.after)(hm:m≤100)(h:Ga r m=true):Zsy r m:=by
 simp only[Ga,Bool.and_eq_true,decide_eq_true_eq] at h;obtain⟨b1,b2⟩:=VR r.before m hb (by omega) h.1;obtain⟨a1,a2⟩:=VR r.after m ha (by omega) h.2;exact⟨b1,a1,by omega,by omega⟩
theorem ZaU{p:aF}{n:Int}(h1:1≤n)(h2:n≤400)(hp:uL p≤300):qB p n=(jT p n,0):=by
 have:=Zu1 (m:=300) hp (by omega);unfold qB;rw[if_neg (by omega),if_neg (by omega)]
theorem ZiF(kd:Kd){N:Net}{most:Int}(R:mY N)(h1:1≤most)(h2:most≤3000):(lK kd N most).2=0∨(lK kd N most).2=13:=by
 unfold lK;rw[if_pos ⟨(Bh _).mpr R,h1,h2⟩];split
 ·exact .inl rfl
 ·exact .inr rfl
theorem Zmh{b a:aC}{most:Int}(Rb:dP b)(Ra:dP a)(hs:b.signs=a.signs)(aap:b.signs≤200)(h1:1≤most)(h2:most≤3000):(kF b a most).2=0∨(kF b a most).2=13:=by
 unfold kF;rw[if_pos ⟨(uQ b).mpr Rb,(uQ a).mpr Ra,hs,aap,h1,h2⟩];split
 ·exact .inl rfl
 ·exact .inr rfl
theorem WB{x:aC×Int}{f:aC→aC×Int}(hx:x.2=0∨x.2=13)(hf:x.2=0→(f x.1).2=0∨(f x.1).2=13):(BF x f).2=0∨(BF x f).2=13:=by
 unfold BF;split
 ·rename_i h;exact hf h
 ·exact hx
theorem ZjI{r:lN}{n most:Int}(h1:1≤n)(h2:n≤200)(m1:1≤most)(m2:most≤3000)(hb:uL r.before≤300)(ha:uL r.after≤300):(vk r n most).2=0∨(vk r n most).2=13:=by
 have nb:=ZaU (p:=r.before) h1 (by omega) hb;have na:=ZaU (p:=r.after) h1 (by omega) ha;have cb:jE r.before≤300:=Nat.le_trans (QX _) hb;have ca:jE r.after≤300:=Nat.le_trans (QX _) ha;unfold vk;rw[if_neg (by omega)];have sb:kH .tails r.before n most=lK .tails (jT r.before n) most:=by unfold kH;rw[nb];simp
 have sa:kH .heads r.after n most=lK .heads (jT r.after n) most:=by unfold kH;rw[na];simp
 rw[sb,sa];refine WB (ZiF _ (Qt h1 (by omega) cb).R m1 m2) (fun e1=>WB (ZiF _ (Qt h1 (by omega) ca).R m1 m2) (fun e2=>?_));have eb:lK .tails (jT r.before n) most=((lK .tails (jT r.before n) most).1,0):=by rw[←e1]
 have ea:lK .heads (jT r.after n) most=((lK .heads (jT r.after n) most).1,0):=by rw[←e2]
 obtain⟨Rb,sb',_⟩:=Zdv h1 h2 cb eb;obtain⟨Ra,sa',_⟩:=Zdu h1 h2 ca ea;refine WB (Zmh Rb Ra (by rw[sb',sa']) (by omega) m1 m2) (fun e3=>?_);have em:kF (lK .tails (jT r.before n) most).1 (lK .heads (jT r.after n) most).1 most=((kF (lK .tails (jT r.before n) most).1 (lK .heads (jT r.after n) most).1 most).1,0):=by rw[←e3]
 have:=(Wu em).1.R;left;rw[oQ,if_pos ((uQ _).mpr this)]
theorem ZfC(r:lN)(n most:Int):nU (vk r n most).1:=by
 cases h:vk r n most with
 | mk d e=>
  by_cases he:e=0
  ·subst he;exact Wy (VQ h).1.R
  ·have:d=Dn:=by
    unfold vk at h;split at h
    ·cases h;rfl
    unfold BF at h;split at h
    ·split at h
     ·dsimp only at h
      split at h
      ·unfold oQ at h
       split at h
       ·cases h;exact(he rfl).elim
       ·cases h;rfl
      ·cases h;rfl
     ·cases h;rfl
    ·cases h;rfl
   subst this;exact Ru
theorem Ziu{x:aC×Int}(h:x.2=0):x=(x.1,0):=by rw[←h]
theorem ZoB{r:lN}{n most:Int}(h:(vk r n most).2=0){l:List Int}(hl:rU n l){p:Nat}(h1:1≤p)(h2:p < l.length):SI (vk r n most).1 l (p:Nat)=GQ r l (p:Nat):=by
 obtain⟨M,_⟩:=VQ (Ziu h);rw[M.at_ hl,Zsa,Int.toNat_natCast];have e1:decide (1≤(p:Int)∧(p:Int) < l.length)=true:=by simp;omega
 have e2:decide (0≤(p:Int)∧(p:Int)≤l.length)=true:=by simp;omega
 rw[e1,e2]
theorem ZfT{r:lN}{n most:Int}(h:(vk r n most).2=0):JC (vk r n most).1=true:=by
 obtain⟨M,hle,_⟩:=VQ (Ziu h);have hR:fK (vk r n most).1=true:=(uQ _).mpr M.R;unfold JC;simp only[hR,hle];simp[ZjV]
end Go.Rf
namespace Go.Proofs.YtdmcjhnbmgmgoaaGreatDoor
open Go.ChangeShapes Go.WideShapes Go.ChangeAt Go.RowKit Go.Rf
def tyB:KI:={ i:=3,b:=4,s:=9,is:=23,rg:=212,rgs:=22,p:=26,ps:=24,ru:=28,rus:=0,nd:=0,nds:=0,it:=0,its:=0,vr:=0,vrs:=0,ss:=0,bk:=0 }
def tyD:TU:={ i:=3,b:=4,is:=23,Zk:=31,bs:=32,d:=34 }
theorem Zu7:F3 Tryz.prog tyB=true:=by kernel_rfl
theorem Zu6:XF Tryz.prog tyD=true:=by kernel_rfl
theorem ZuO:∀n,jl Tryz.prog n 28 mq Nb:=ZsW (T:=tyB) Zu7 (by kernel_rfl) (by kernel_rfl)
theorem ZuN:∀n,jl Tryz.prog n 23 aj SY:=ZsU (T:=tyD) Zu6
theorem ZsE:∀x:lN,mq x=.agg ((mq x).cells):=fun x=>by unfold mq;rfl
theorem Ztv:∃fs,Tryz.prog.underlying 28=some (.struct fs)∨∃n e,Tryz.prog.underlying 28=some (.array n e):=⟨(match Tryz.prog.underlying 28 with | some (.struct fs)=>fs | _=>#[]),.inl (by kernel_rfl)⟩
abbrev M8:List (String×DataW Unit):=[("math/bits.deBruijn32tab",Rows.laid_math_bits_deBruijn32tab),("math/bits.deBruijn64tab",Rows.laid_math_bits_deBruijn64tab),("internal/strconv.uint64pow10",Rows.laid_internal_strconv_uint64pow10)]
theorem Zoa(os:Os)(args:Array Value):laidMetH Tryz.prog M8 ((World.doorLaid Tryz.prog 400 os).forCall (fun _ _=>0) ⟨#[],args,[]⟩).memory:=
 laidMetH_of_parts3 (fuel:=8) (laidMet_of_run' 8 (by kernel_rfl) (by kernel_rfl)) (by kernel_rfl) (by kernel_rfl)
theorem ZvR(W:World)(h:laidMetH Tryz.prog M8 W):jO Tryz.prog (E0 W).H:=
 Zoi h (by kernel_rfl) (List.mem_cons_of_mem _ (List.mem_cons_of_mem _ (List.mem_singleton.mpr (by kernel_rfl)))) (g:=0) (t:=194) (e:=162) (n:=20) (by kernel_rfl) (by kernel_rfl) (by kernel_rfl) (by kernel_rfl) (by kernel_rfl) (by kernel_rfl)
theorem U6(r:lN)(g:Nb r)(m:Int)(h0:-1≤m)(h1:m≤100):aJ Tryz.prog 9 [mq r,Rf.ah m] (aD (Ga r m)):=Dm.U6 r g.b.good g.a.good m h0 h1
end Go.Proofs.YtdmcjhnbmgmgoaaGreatDoor
namespace Go.Rf
structure TY where
 go1:FuncId
 Dy:FuncId
 Ir:FuncId
 Dz:FuncId
 Fe:FuncId
 uN:FuncId
 Ip:FuncId
 Iq:FuncId
structure SeW(P:Program)(F:Ic)(G:TY):Prop where
 go1:Is P G.go1 (vO G.Dy G.go1 G.Ir) [6] 3
 Dy:Is P G.Dy LG [4] 2
 Ir:Is P G.Ir Vo [] 2
 Dz:Is P G.Dz (LB G.go1) [6] 3
 Fe:Is P G.Fe (Ve G.Dz G.Dy) [8] 4
 uN:Is P G.uN (Vg G.Fe) [6] 3
 Ip:Is P G.Ip (LD G.uN G.Dz) [6] 3
 Iq:Is P G.Iq (Z6D F.K4 F.OT) [2] 1
namespace Bd
variable{P:Program}{F:Ic}{G:TY}(S:Bd P F)(T:SeW P F G)
include S T
theorem P5A(l:List Int)(x:Int)(hl:Len l):aJ P G.Dy [aj l,ah x] (aD (l.contains x)):=T.Dy.pure S.hm rfl (ZjB l x hl)
theorem P5k(p:aF)(hp:oP p)(l:List Int)(hl:l.length≤10000)(a:Int):aJ P G.Dz [cB p,aj l,ah a] (aj (rQ p l a)):=
 T.Dz.lV S.hm rfl (Zgs p l a hl (ZpG S.hm T.go1 hl (fun g x hg=>S.P5A T g x hg) (Zrj S.hm T.Ir (by omega)) p hp))
theorem P5b(p:aF)(hp:oP p)(l:List Int)(hl:l.length≤10000)(a b:Int):aJ P G.Fe [cB p,aj l,ah a,ah b] (aD (jU p l a b)):=
 T.Fe.lV S.hm rfl (ZcF p l a b (S.P5k T p hp l hl a) (S.P5A T _ b (by have:=@Zlo p l a;unfold Len;omega)))
theorem P5i(p:aF)(hp:oP p)(l:List Int)(hl:l.length≤10000)(b:Int):aJ P G.uN [cB p,aj l,ah b] (aj (uN p l b)):=
 T.uN.lV S.hm rfl (ZdF p l b hl (fun i=>S.P5b T p hp l hl i b))
theorem P5c(r:lN)(hb:oP r.before)(ha:oP r.after)(l:List Int)(hl:l.length≤10000)(p:Int):aJ P G.Ip [mq r,aj l,ah p] (aD (GQ r l p)):=
 T.Ip.lV S.hm rfl (ZcG r l p (S.P5i T r.before hb l hl p) (S.P5k T r.after ha l hl p))
theorem P5s(d:aC)(ok:nU d):aJ P G.Iq [aR d] (aD (JC d)):=
 T.Iq.lV S.hm rfl (Zbb (S.P5r d ok) (fun h=>S.P6a _ _ (Wy (LZ ((uQ d).mp h)).1) ok))
end Bd
end Go.Rf
namespace Go.Proofs.YtdmcjhnbmgmgoaaGreatDoor
open Go.ChangeShapes Go.WideShapes Go.ChangeAt Go.RowKit Go.Rf
def fnW:TY:={ go1:=75,Dy:=103,Ir:=104,Dz:=46,Fe:=74,uN:=45,Ip:=21,Iq:=22 }
theorem seW:SeW Tryz.prog fnM fnW:={ go1:=.k Tryz.func75 (by kernel_rfl),Dy:=.k Tryz.func103 (by kernel_rfl),Ir:=.k Tryz.func104 (by kernel_rfl),Dz:=.k Tryz.func46 (by kernel_rfl),Fe:=.k Tryz.func74 (by kernel_rfl),uN:=.k Tryz.func45 (by kernel_rfl),Ip:=.k Tryz.func21 (by kernel_rfl),Iq:=.k Tryz.func22 (by kernel_rfl) }
end Go.Proofs.YtdmcjhnbmgmgoaaGreatDoor
