import Derived.Test.YtdmcjhnbmgmgoaaGreatDoorRfE6
set_option linter.unusedVariables false
set_option linter.unusedSimpArgs false
set_option linter.unusedSectionVars false
namespace Go.Rf
open Go.RowKit
attribute [local simp] l9 lT l6 mI mJ mM mK l7 mP mH mF dN gL fJ gJ ig fI gK iq gX gV gY eZ gQ gZ gP d9 eF gU iN iK iM iL iO gD fM fH dZ fQ fU fV fP fE iH iw gT iF iC iE iD iG iI iA gu fF fG fK gy dx dL fq iB iJ ex au bS dM dY bF bJ aG bf dU eY dQ fO gN gM iy gW bO dw dz eD eu fZ dR bC bZ dD dJ dF fu eB eX eP eU dW dh dS dP dO bB AV.solid S0 aj aH
def Yl(P4E P4i:FuncId):AC:= (sq [ro 22 (.load (some 4) (.t 3)),rm 23 1,ro 24 (.EA),ro 25 (.build (.agg [(.v (.int .i64 0)),(.sl true []),(.sl true []),(.sl true []),(.v (.int .i64 0)),(.v (.map none)),(.sl true [])]) [(0,4),(4,1),(5,1)] [(0,(.t 22)),(1,(.t 23)),(2,(.t 24))]),ro 26 (.box 7 (.t 25)),ro 8 (.alloc (.v (.pointer none)) 1),rn (.store 1 (.t 8) (.t 26))] (.seq (.ny [rL 27 8,ro 28 (.Aw P4E [] [(.t 5),(.t 8)]),rk 29 P4i [(.t 27),(.t 28)],rn (.store 3 (.t 6) (.t 29)),rn (.store 1 (.t 7) (ci 0))] none) .ret))
def Jq(P4Z:FuncId):AC:= (.seq (.ny [ro 9 (.load (some 4) (.t 3)),rk 10 P4Z [(.t 9)],ro 11 (.un .not (.t 10)),rm 12 11,rg 13 12 false (.mv (.t 1)),rg 14 12 false (.bin .lss (.t 13) (ci 1)),ro 15 (.pick (.t 12) (.c (.v (.bool true))) (.t 14)),rm 16 15,rg 17 16 false (.mv (.t 1)),rg 18 16 false (.bin .gtr (.t 17) (ci 3000)),ro 19 (.pick (.t 16) (.c (.v (.bool true))) (.t 18))] none) (.cond (.t 19) (sq [ro 20 (.build (.agg [(.v (.int .i64 0)),(.sl true []),(.sl true [])]) [] []),rn (.store 3 (.t 6) (.t 20)),rn (.store 1 (.t 7) (ci 1))] .ret) .skip))
def Yk:AC:= (.reg none [ro 3 (.box 4 (.t 0)),ro 5 (.box 1 (.t 2)),ro 6 (.alloc (.agg [(.v (.int .i64 0)),(.sl true []),(.sl true [])]) 3),ro 7 (.alloc (.v (.int .i64 0)) 1)])
def Fy(Zt:FuncId):AC:= (sq [rm 7 2,ro 8 (.Ow Zt (.agg []) (.t 7)),rm 6 8,ro 9 (.ext 0 (.t 6)),ro 10 (.ext 1 (.t 6)),ro 3 (.alloc (.agg []) 0),rn (.store 0 (.t 3) (.t 9)),rm 4 10] (sq [rm 11 4] (.cond (.t 11) (.reg none [ro 12 (.build (.agg [(.v (.int .i64 0)),(.sl true []),(.sl true [])]) [] []),rn (.store 3 (.t 0) (.t 12)),rn (.store 1 (.t 1) (ci 13))]) (sq [rm 13 2,ro 14 (.Oe true (.t 13))] (.cond (.t 14) .bad .skip)))))
def LG:AC:= (sq [ro 6 (.mv (.c (.sl true [])))] (sq [rL 7 2,rL 8 3,rm 9 0,rm 10 1,⟨(some 11),.mv (.c .junk),none,(some ((.t 7),[(.t 8),(.t 9),(.t 10)]))⟩,rm 6 11] .ret))
def VH(KS uU:FuncId):AC:= (sq [ro 6 (.mv (.c (.sl true [])))] (sq [ro 7 (.dn 1 1 (.v (.int .i64 0)) [(0,(ci 0))]),rm 8 0,rm 9 1,rm 10 2,rk 11 KS [(.t 8),(.t 9),(.t 10)],ro 12 (.dn 1 2 (.sl true []) [(0,(.t 7)),(1,(.t 11))]),rk 13 uU [(.t 12)],rm 6 13] .ret))
def VG(EJ KS:FuncId):AC:= (sq [ro 6 (.mv (.c (.sl true [])))] (.seq (sq [rm 7 0,rm 8 1,rk 9 EJ [(.t 7),(.t 8)]] (.cond (.t 9) (sq [rm 10 1,rm 6 10] .ret) .skip)) (sq [rm 11 0,rm 12 1,rm 13 2,rk 14 KS [(.t 11),(.t 12),(.t 13)],rm 6 14] .ret)))
def HB(P:Program)(fb:FuncId)(n:Net)(kd:Kd):Prop:=∀(S:St) (id km:Nat) (most:Int) (ss:List (List Int)) (v:AV) (set:List Int) (s:Int) (K:AV→St→Prop),wY S id km n most ss v→Val n set→
 (∀m,S.n≤m→K (aA (lI kd n set s)) ⟨m,S.g⟩)→aQ P fb [.ptr id 0 0,aA set,aj s] S K
def Sv(P:Program)(f:FuncId)(n:Net):Prop:=∀set s,Val n set→xH P f [o8 n,aA set,aj s] (aA (qW n set s))
def RH(P:Program)(f:FuncId)(n:Net):Prop:=∀set,Val n set→aO P f [o8 n,aA set] (aH (mq n set))
theorem wY.pre{S:St}{id km:Nat}{n:Net}{most:Int}{ss:List (List Int)}{v:AV}(M:wY S id km n most ss v){g:Nat→Option aF}(hg:g id=S.g id):Fz g (.ptr id 0 0) (o8 n):=
 .pre id 7 [aj n.signs,aX n.aB,aX n.follow,aA n.last] [aj most,.mp km,v] (by rw[hg];exact M.g) (by
  intro y hy;simp only[List.mem_cons,List.not_mem_nil,or_false] at hy;rcases hy with rfl | rfl | rfl | rfl
  ·exact aS _
  ·exact iT _
  ·exact iT _
  ·exact aR _)
theorem HB.whole{P:Program}{f:FuncId}{n:Net}(h:Sv P f n):HB P f n .whole:=by
 intro S id km most ss v set s K M hv hk;have hz:gI S.g [.ptr id 0 0,aA set,aj s] [o8 n,aA set,aj s]:=gI.cons (M.pre rfl) (gI.cons (.closed _ (aR _)) (gI.cons (.closed _ (aS _)) gI.nil));exact aQ.Vj (h set s hv) S.g (fun _ _ e=>e) hz.1 hz.2 (aR _) (hk S.n (Nat.le_refl _))
theorem HB.tails{P:Program}(hm:P.follows .mixedOrders=true){f fs fc:FuncId}{n:Net}(R:nR n)(h:Sv P fs n)(hf:Is P f (VH fs fc) [6] 3)
  (hc:∀l:List Int,l.length≤1000→aO P fc [.sl true [.sl true [aj 0],aA l]] (aA (0::l))):HB P f n .tails:=by
 intro S id km most ss v set s K M hv hk;have hb:=HB.whole h;refine hf.xk hm rfl ?_;simp[VH];refine hb _ id km most ss v set s _ ⟨M.g,M.m,M.vec,M.ne,M.hv,Nat.lt_of_lt_of_le M.lid (by show S.n≤S.n+1+8;omega),Nat.lt_of_lt_of_le M.vK (by show S.n≤S.n+1+8;omega),fun i hi=>Nat.lt_of_lt_of_le (M.lv i hi) (by show S.n≤S.n+1+8;omega)⟩ hv fun m hm2=>?_
 have h1:(aA (lI .whole n set s)).cells=[aA (lI .whole n set s)]:=rfl;have h2:(aA (lI .whole n set s)).solid=true:=rfl;simp only[AV.solid] at h2;simp[h1,h2]
 refine aQ.pure (hc _ ?_) (aL (.sl _ _ (by
  intro y hy;simp only[List.mem_cons,List.not_mem_nil,or_false] at hy;rcases hy with rfl | rfl
  ·exact .sl _ _ (by intro y hy;simp only[List.mem_cons,List.not_mem_nil,or_false] at hy;subst hy;exact aS _)
  ·exact aR _)) aU) (aR _) ?_
 ·have:=(ZjA R set s).2
  show(qW n set s).length≤1000
  omega
 ·simp
  exact hk _ (by simp only at hm2;omega)
theorem HB.heads{P:Program}(hm:P.follows .mixedOrders=true){f fs fe:FuncId}{n:Net}(h:Sv P fs n)(he:RH P fe n)(hf:Is P f (VG fe fs) [6] 3):HB P f n .heads:=by
 intro S id km most ss v set s K M hv hk;have hb:=HB.whole h;have J8:∀m,S.n≤m→wY ⟨m,S.g⟩ id km n most ss v:=fun m hm2=>⟨M.g,M.m,M.vec,M.ne,M.hv,Nat.lt_of_lt_of_le M.lid hm2,Nat.lt_of_lt_of_le M.vK hm2,fun i hi=>Nat.lt_of_lt_of_le (M.lv i hi) hm2⟩
 refine hf.xk hm rfl ?_;simp[VG];refine aQ.looks (S:=⟨S.n+1+3,S.g⟩) (he set hv) (gI.cons (M.pre rfl) (gI.cons (.closed _ (aR _)) gI.nil)) (Mq _) ?_;cases hq:mq n set with
 | true=>
  simp;have:=hk (S.n+1+3+2) (by omega);simp only[lI,hq,if_true] at this;exact this
 | false=>
  simp;refine hb _ id km most ss v set s _ (J8 _ (by omega)) hv fun m hm2=>?_
  simp;have:=hk m (by simp only at hm2;omega);simp only[lI,hq,Bool.false_eq_true,if_false] at this;exact this
theorem HB.aP{P:Program}(hm:P.follows .mixedOrders=true){f fb:FuncId}{n:Net}{kd:Kd}(h:HB P fb n kd)(hf:Is P f LG [6] 4){bE:St}{id km k5 k8:Nat}{most:Int}(h5:bE.g k5=some (.arr 1 [.aP fb [] []]))(h8:bE.g k8=some (.arr 1 [.ptr id 0 0]))
  (l5:k5 < bE.n) (l8:k8 < bE.n) (n5:k5≠id∧k5≠km) (n8:k8≠id∧k8≠km):Sq P f [.ptr k5 0 0,.ptr k8 0 0] bE id km n most kd:=by
 intro S ss v set s K M hold hv hk;have g5:S.g k5=some (.arr 1 [.aP fb [] []]):=(hold.2 k5 l5 n5.1 n5.2).trans h5;have g8:S.g k8=some (.arr 1 [.ptr id 0 0]):=(hold.2 k8 l8 n8.1 n8.2).trans h8;have J8:∀m,S.n≤m→wY ⟨m,S.g⟩ id km n most ss v:=fun m hm2=>⟨M.g,M.m,M.vec,M.ne,M.hv,Nat.lt_of_lt_of_le M.lid hm2,Nat.lt_of_lt_of_le M.vK hm2,fun i hi=>Nat.lt_of_lt_of_le (M.lv i hi) hm2⟩
 refine hf.xk hm rfl ?_;simp[LG,g5,g8];refine h _ id km most ss v set s _ (J8 _ (by omega)) hv fun m hm2=>?_
 simp;exact hk m (by simp only at hm2;omega)
def YH:AV:=aW ⟨0,[],[]⟩
def Cq(kd:Kd)(n:Net)(most:Int):AV:=
 if qV n=true∧1≤most∧most≤3000 then (match yQ kd n most with
  | some st=>.aN [aW ⟨n.signs,st.2.1,st.2.2⟩,aj 0]
  | none=>.aN [YH,aj 13])
 else .aN [YH,aj 1]
def F7(fr f1 f2 fall:FuncId):M1:=⟨Yk,Jq fr,21,f1,6,7,Yl f2 fall,30,[.c 6 (some 3),.c 7 none]⟩
theorem Qn(g:Nat→Option aF)(e:Int):lW g (.aN [.agg [.v (.int .i64 0),.sl true [],.sl true []],.v (.int .i64 e)]) (.aN [YH,aj e]):=by
 refine .aN _ _ rfl (fun i h1 h2=>?_)
 match i,h1 with
 | 0,_=>
  refine .agg _ _ rfl (fun j k1 k2=>?_)
  match j,k1 with
  | 0,_=>exact .v _
  | 1,_=>exact .nil true false (by simp)
  | 2,_=>exact .nil true false (by simp)
 | 1,_=>exact .v _
theorem Zs7{P:Program}(hm:P.follows .mixedOrders=true){f1 f2 fall uw fe fb fT:FuncId}(hall:BK P fall (LC uw fe) [.c 4 (some 3)] 2)(hf2:Is P f2 LG [6] 4)
  {n:Net} {kd:Kd} {most:Int} (R:nR n) (BF:JM P uw fT n) (hb:HB P fb n kd) (hend:RH P fe n) (h1:1≤most) (h3:most≤3000) {f:AF} {S:St} (e1:f 1=aj most) (e3:f 3=.ptr 0 0 0) (e5:f 5=.ptr 1 0 0) (e6:f 6=.ptr 2 0 0) (e7:f 7=.ptr 3 0 0)
  (g0:S.g 0=some (.arr 4 [jy n])) (g1:S.g 1=some (.arr 1 [.aP fb [] []])) (g2:S.g 2=some (.arr 3 [rV])) (g3:S.g 3=some (.arr 1 [aj 0])) (hn:4≤S.n) :
  AW P (Yl f2 fall) (RJ P (Fy fT) 5 2 [.c 6 (some 3),.c 7 none] [.ptr 2 0 0,.ptr 3 0 0] fun r' S'=>lW S'.g r' (Cq kd n most)) (f.put (some 21) (.aP f1 [] [.ptr 2 0 0,.ptr 3 0 0])) S:=by
 have hR:qV n=true:=(AQ n).mpr R;have ec:(jy n).cells=[aj n.signs,aX n.aB,aX n.follow,aA n.last]:=rfl;have es:(jy n).solid=true:=rfl;simp only[AV.solid] at es;simp[A9,uK,uI,BZ,BR,Yl,e1,e3,e5,g0,ec,jw,jh,Gd]
 have k1:∀i,i < S.n→(((((⟨S.n+7,S.g⟩:St).set (S.n+2) (some (.map []))).set (S.n+4) (some (.arr 7 [.agg [.v (.int .i64 n.signs),aX n.aB,aX n.follow,aA n.last,.v (.int .i64 most),.mp (S.n+2),.sl true []]]))).set (S.n+5) (some (.arr 1 [.v (.pointer none)]))).set (S.n+5) (some (.arr 1 [.ptr (S.n+4) 0 0]))).g i=S.g i:=fun i hi=>by
  rw[aG,if_neg (by omega),aG,if_neg (by omega),aG,if_neg (by omega),aG,if_neg (by omega)]
 have k2:(((((⟨S.n+7,S.g⟩:St).set (S.n+2) (some (.map []))).set (S.n+4) (some (.arr 7 [.agg [.v (.int .i64 n.signs),aX n.aB,aX n.follow,aA n.last,.v (.int .i64 most),.mp (S.n+2),.sl true []]]))).set (S.n+5) (some (.arr 1 [.v (.pointer none)]))).set (S.n+5) (some (.arr 1 [.ptr (S.n+4) 0 0]))).g (S.n+2)=some (.map []):=by
  rw[aG,if_neg (by omega),aG,if_neg (by omega),aG,if_neg (by omega),aG,if_pos rfl]
 have k3:(((((⟨S.n+7,S.g⟩:St).set (S.n+2) (some (.map []))).set (S.n+4) (some (.arr 7 [.agg [.v (.int .i64 n.signs),aX n.aB,aX n.follow,aA n.last,.v (.int .i64 most),.mp (S.n+2),.sl true []]]))).set (S.n+5) (some (.arr 1 [.v (.pointer none)]))).set (S.n+5) (some (.arr 1 [.ptr (S.n+4) 0 0]))).g (S.n+4)=some (.arr 7 [.agg [aj n.signs,aX n.aB,aX n.follow,aA n.last,aj most,.mp (S.n+2),.sl true []]]):=by
  rw[aG,if_neg (by omega),aG,if_neg (by omega),aG,if_pos rfl];rfl
 have k4:(((((⟨S.n+7,S.g⟩:St).set (S.n+2) (some (.map []))).set (S.n+4) (some (.arr 7 [.agg [.v (.int .i64 n.signs),aX n.aB,aX n.follow,aA n.last,.v (.int .i64 most),.mp (S.n+2),.sl true []]]))).set (S.n+5) (some (.arr 1 [.v (.pointer none)]))).set (S.n+5) (some (.arr 1 [.ptr (S.n+4) 0 0]))).g (S.n+5)=some (.arr 1 [.ptr (S.n+4) 0 0]):=by
  rw[aG,if_pos rfl]
 generalize(((((⟨S.n+7,S.g⟩:St).set (S.n+2) (some (.map []))).set (S.n+4) (some (.arr 7 [.agg [.v (.int .i64 n.signs),aX n.aB,aX n.follow,aA n.last,.v (.int .i64 most),.mp (S.n+2),.sl true []]]))).set (S.n+5) (some (.arr 1 [.v (.pointer none)]))).set (S.n+5) (some (.arr 1 [.ptr (S.n+4) 0 0]))).g=G at *
 have M:wY ⟨S.n+7+5,G⟩ (S.n+4) (S.n+2) n most [] (.sl true []):=
  ⟨k3,k2,.nil,by omega,by simp[AV.ids],by show S.n+4 < S.n+7+5;omega,by show S.n+2 < S.n+7+5;omega,by simp[AV.ids]⟩
 have GR:=hb.aP hm hf2 (bE:=⟨S.n+7+5,G⟩) (id:=S.n+4) (km:=S.n+2) (k5:=1) (k8:=S.n+5) (most:=most) ((k1 1 (by omega)).trans g1) k4 (by show 1 < S.n+7+5;omega) (by show S.n+5 < S.n+7+5;omega) ⟨by omega,by omega⟩ ⟨by omega,by omega⟩
 have hpre:∀S':St,Old ⟨S.n+7+5,G⟩ S' (S.n+4) (S.n+2)→S'.g 2=some (.arr 3 [rV])∧S'.g 3=some (.arr 1 [aj 0]):=fun S' hold=>
  ⟨((hold.2 2 (by show 2 < S.n+7+5;omega) (by omega) (by omega)).trans (k1 2 (by omega))).trans g2,((hold.2 3 (by show 3 < S.n+7+5;omega) (by omega) (by omega)).trans (k1 3 (by omega))).trans g3⟩
 refine Zrk hm hall R BF GR hend h1 h3 M (fun st S' vN vE g CY hold aad z1 z2=>?_) (fun CY S' hold=>?_)
 ·obtain⟨q2,q3⟩:=hpre S' hold
  simp only[rV] at q2;have hnn:S.n+7+5≤S'.n:=hold.1;have hs2:S'.n≠2:=by omega
  have hs3:S'.n≠3:=by omega
  simp[zL,uK,uI,yP,e6,e7,q2,q3,RJ,Ht,vH];simp[Fy,M4,Q0];have x2:¬(2=S'.n+5):=by omega
  have x3:¬(3=S'.n+5):=by omega
  refine⟨[.agg [.v (.int .i64 n.signs),vN,vE],.v (.int .i64 0)],?_,?_⟩
  ·simp[bX,RV.ev,gH,au,aG,e6,e7,bB,dQ,dU]
  ·rw[Cq,if_pos ⟨hR,h1,h3⟩,CY]
   refine .aN _ _ rfl (fun i k1 k2=>?_)
   match i,k1 with
   | 0,_=>
    refine .agg _ _ rfl (fun j k1 k2=>?_)
    match j,k1 with
    | 0,_=>exact .v _
    | 1,_=>
     refine z1.mono fun i k e=>?_
     obtain⟨w1,w2,w3⟩:=aad i k e;have w2':S.n+7+5≤i:=w2;rw[aG,if_neg (by omega),aG,if_neg (by omega),aG,if_neg (by omega),aG,if_neg (by omega)];exact w1
    | 2,_=>
     refine z2.mono fun i k e=>?_
     obtain⟨w1,w2,w3⟩:=aad i k e;have w2':S.n+7+5≤i:=w2;rw[aG,if_neg (by omega),aG,if_neg (by omega),aG,if_neg (by omega),aG,if_neg (by omega)];exact w1
   | 1,_=>exact .v _
 ·obtain⟨q2,q3⟩:=hpre S' hold
  simp only[rV] at q2;have hnn:S.n+7+5≤S'.n:=hold.1;simp[Znk,Du];simp only[pn];refine⟨Kz fT,rfl,rfl,?_⟩;have x2:¬(2=S'.n+5):=by omega
  have x3:¬(3=S'.n+5):=by omega
  have hbe:Nat.beq fT fT=true:=Nat.beq_refl fT;have hov:Cx (.agg #[])=some (.agg []):=rfl;simp[Ht,vH,Kz];simp[Fy,M4,hov,jw,jh,q2,q3];refine⟨[.agg [.v (.int .i64 0),.sl true [],.sl true []],.v (.int .i64 13)],?_,?_⟩
  ·simp[bX,RV.ev,gH,au,aG,e6,e7,bB,dQ,dU]
  ·rw[Cq,if_pos ⟨hR,h1,h3⟩,CY]
   exact Qn _ 13
theorem ZpA{P:Program}(hm:P.follows .mixedOrders=true){f fr f1 f2 fall uw fe fb fT:FuncId}(h:JV P f=some (F7 fr f1 f2 fall))(h':Ga P f1=some (5,2,Fy fT,16))(hall:BK P fall (LC uw fe) [.c 4 (some 3)] 2)(hf2:Is P f2 LG [6] 4)
  {n:Net} {kd:Kd} {most:Int} (hr:aO P fr [jy n] (aH (qV n))) (BF:qV n=true→JM P uw fT n) (hb:qV n=true→HB P fb n kd) (hend:qV n=true→RH P fe n):xH P f [jy n,aj most,.aP fb [] []] (Cq kd n most):=by
 refine .wZ (ZoU hm h h' (by omega) (by show 3≤30;omega) ?_);show AW P Yk (Sy P (F7 fr f1 f2 fall) (Fy fT) 5 2 _) _ _
 have ha:dR 4 (jy n)=.new (some (.arr 4 [jy n],fun i=>.ptr i 0 0)):=rfl;simp[Yk,jy,aX,aA,Sy];show AW P (Jq fr) _ _ _
 by_cases hR:qV n=true
 ·by_cases h1:most < 1
  ·simp[A9,uK,uI,BZ,BR,Jq]
   refine oW.Hg (aQ.pure hr (aL (BQ n) aU) (bY _) ?_);simp[Qb,Yv,ZqH,zL,uK,uI,yP,hR,h1,jw,jh,JL,F7,bX,RV.ev,gH,cO];rw[Cq,if_neg (by omega)];exact Qn _ 1
  ·by_cases h3:3000 < most
   ·simp[A9,uK,uI,BZ,BR,Jq]
    refine oW.Hg (aQ.pure hr (aL (BQ n) aU) (bY _) ?_);simp[Qb,Yv,zL,uK,uI,yP,hR,h1,h3,jw,jh,JL,F7,bX,RV.ev,gH,cO];rw[Cq,if_neg (by omega)];exact Qn _ 1
   ·simp[A9,uK,uI,BZ,BR,Jq]
    refine oW.Hg (aQ.pure hr (aL (BQ n) aU) (bY _) ?_);simp[Qb,Yv,zL,uK,uI,yP,hR,h1,h3];have R:=(AQ n).mp hR;simp only[JL];refine Zs7 hm hall hf2 R (BF hR) (hb hR) (hend hR) (by omega) (by omega) ?_ ?_ ?_ ?_ ?_ ?_ ?_ ?_ ?_ ?_
    ·simp[au,bF,bJ,aj]
    ·simp[au]
    ·simp[au]
    ·simp[au]
    ·simp[au]
    ·simp[aG,jy,aj,aX,aA]
    ·simp[aG]
    ·simp[aG,rV,aj]
    ·simp[aG,aj]
    ·simp
 ·simp[A9,uK,uI,BZ,BR,Jq]
  refine oW.Hg (aQ.pure hr (aL (BQ n) aU) (bY _) ?_);simp[Qb,ZqH,zL,uK,uI,yP,hR,jw,jh,JL,F7,bX,RV.ev,gH,cO];rw[Cq,if_neg (by simp[hR])];exact Qn _ 1
end Go.Rf
namespace Go.Rf
open Go.RowKit
def PX(P4Y KS:FuncId):AC:= (sq [ro 2 (.box 4 (.t 0)),ro 4 (.alloc (.agg [(.v (.int .i64 0)),(.sl true []),(.sl true [])]) 3),ro 5 (.mv (ci 0))] (sq [ro 6 (.load (some 4) (.t 2)),rm 7 1,rk 8 P4Y [(.t 6),(.t 7),(.c (.aP KS [] []))],ro 9 (.ext 0 (.t 8)),ro 10 (.ext 1 (.t 8)),rn (.store 3 (.t 4) (.t 9)),rm 5 10] .ret))
theorem xH.pure{P:Program}{f:FuncId}{args:List AV}{r:AV}(h:xH P f args r)(ha:∀x∈args,aY x)(hr:aY r):aO P f args r:=
 .wZ (aQ.Vj h (fun _=>none) (fun _ _ e=>by cases e) rfl (fun j h1 h2=>.closed _ (ha _ (List.getElem_mem h1))) hr (.closed _ hr))
theorem Zhg(d:aD):aY (aW d):=.agg _ (by
 intro y hy;simp only[List.mem_cons,List.not_mem_nil,or_false] at hy;rcases hy with rfl | rfl | rfl
 ·exact aS _
 ·exact iT _
 ·exact .sl _ _ (by intro y hy;obtain⟨b,_,rfl⟩:=List.mem_map.mp hy;exact bY _))
def mY(kd:Kd)(n:Net)(most:Int):aD×Int:=
 if qV n=true∧1≤most∧most≤3000 then (match yQ kd n most with
  | some st=>(⟨n.signs,st.2.1,st.2.2⟩,0)
  | none=>(⟨0,[],[]⟩,13))
 else (⟨0,[],[]⟩,1)
def mo(p:aD×Int):AV:=.aN [aW p.1,aj p.2]
theorem Zm1(kd:Kd)(n:Net)(most:Int):Cq kd n most=mo (mY kd n most):=by
 unfold Cq mY;split
 ·cases yQ kd n most<;>rfl
 ·rfl
theorem BS(p:aD×Int):aY (mo p):=.aN _ (by
 intro y hy;simp only[List.mem_cons,List.not_mem_nil,or_false] at hy;rcases hy with rfl | rfl
 ·exact Zhg _
 ·exact aS _)
theorem Z9j{P:Program}{f1 fb:FuncId}{n:Net}{most:Int}{p:aD×Int}(h:aO P f1 [jy n,aj most,.aP fb [] []] (mo p)):AW P (PX f1 fb) (bR [.c 4 (some 3),.t 5] (iP (mo p))) (bU [jy n,aj most]) S0:=by
 have ec:(jy n).cells=[aj n.signs,aX n.aB,aX n.follow,aA n.last]:=rfl;have es:(jy n).solid=true:=rfl;simp only[AV.solid] at es;simp[l9,lT,dN,d9,eF,gD,fM,dZ,ex,au,dM,dY,bF,bJ,aG,bf,dR,bC,bZ,bB,AV.solid,S0,aj,PX,ec,es];refine aQ.pure h (aL (BQ n) (aL (aS _) (aL (.aP _ _ _ aU aU) aU))) (BS p) ?_;simp[l7,dN,d9,eF,fH,dZ,ex,au,bS,dM,aG,dQ,bO,dD,dS,bB,AV.solid,aj,mo,aW,bR,bX,RV.ev,gH,cO];exact .closed _ (BS p)
end Go.Rf
