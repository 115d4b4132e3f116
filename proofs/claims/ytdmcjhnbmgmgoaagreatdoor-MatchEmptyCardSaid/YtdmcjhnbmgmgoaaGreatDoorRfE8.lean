import Derived.Test.YtdmcjhnbmgmgoaaGreatDoorRfE6
set_option linter.unusedVariables false
set_option linter.unusedSimpArgs false
set_option linter.unusedSectionVars false
namespace Go.Rf
open Go.RowKit
attribute [local simp] kZ kN kW lH lK lI lM kY lN lG lF dO iA fI gI ig fH gJ iq gX gT gY eY gN gZ gM eB eD gQ iJ iG iI iH iK fV fK fG dY fZ gu gy fO fP iL iw gP iE iB iD iC iF iM gV fQ fE fF fJ fU dx dL eZ gW iN ex au cu dM dX bM bU aG bB dV eX dR fM gL gK iy gU bL dw dz dZ d9 gD dS bA bW dA dJ dD fq eu eU eO eT dW dn dU dQ dP bq AV.solid S0 aj aH
def Xy(P4F P4j:FuncId):AC:= (sq [ro 22 (.load (some 4) (.t 3)),rm 23 1,ro 24 (.Er),ro 25 (.build (.agg [(.v (.int .i64 0)),(.sl true []),(.sl true []),(.sl true []),(.v (.int .i64 0)),(.v (.map none)),(.sl true [])]) [(0,4),(4,1),(5,1)] [(0,(.t 22)),(1,(.t 23)),(2,(.t 24))]),ro 26 (.box 7 (.t 25)),ro 8 (.alloc (.v (.pointer none)) 1),rn (.store 1 (.t 8) (.t 26))] (.seq (.mE [rL 27 8,ro 28 (.Ak P4F [] [(.t 5),(.t 8)]),rk 29 P4j [(.t 27),(.t 28)],rn (.store 3 (.t 6) (.t 29)),rn (.store 1 (.t 7) (ci 0))] none) .ret))
def I6(P51:FuncId):AC:= (.seq (.mE [ro 9 (.load (some 4) (.t 3)),rk 10 P51 [(.t 9)],ro 11 (.un .not (.t 10)),rm 12 11,rg 13 12 false (.mv (.t 1)),rg 14 12 false (.bin .lss (.t 13) (ci 1)),ro 15 (.pick (.t 12) (.c (.v (.bool true))) (.t 14)),rm 16 15,rg 17 16 false (.mv (.t 1)),rg 18 16 false (.bin .gtr (.t 17) (ci 3000)),ro 19 (.pick (.t 16) (.c (.v (.bool true))) (.t 18))] none) (.cond (.t 19) (sq [ro 20 (.build (.agg [(.v (.int .i64 0)),(.sl true []),(.sl true [])]) [] []),rn (.store 3 (.t 6) (.t 20)),rn (.store 1 (.t 7) (ci 1))] .ret) .skip))
def Xx:AC:= (.reg none [ro 3 (.box 4 (.t 0)),ro 5 (.box 1 (.t 2)),ro 6 (.alloc (.agg [(.v (.int .i64 0)),(.sl true []),(.sl true [])]) 3),ro 7 (.alloc (.v (.int .i64 0)) 1)])
def Fx(YS:FuncId):AC:= (sq [rm 7 2,ro 8 (.NV YS (.agg []) (.t 7)),rm 6 8,ro 9 (.ext 0 (.t 6)),ro 10 (.ext 1 (.t 6)),ro 3 (.alloc (.agg []) 0),rn (.store 0 (.t 3) (.t 9)),rm 4 10] (sq [rm 11 4] (.cond (.t 11) (.reg none [ro 12 (.build (.agg [(.v (.int .i64 0)),(.sl true []),(.sl true [])]) [] []),rn (.store 3 (.t 0) (.t 12)),rn (.store 1 (.t 1) (ci 13))]) (sq [rm 13 2,ro 14 (.NC true (.t 13))] (.cond (.t 14) .bad .skip)))))
def Lh:AC:= (sq [ro 6 (.mv (.c (.sl true [])))] (sq [rL 7 2,rL 8 3,rm 9 0,rm 10 1,⟨(some 11),.mv (.c .junk),none,(some ((.t 7),[(.t 8),(.t 9),(.t 10)]))⟩,rm 6 11] .ret))
def Vj(Ky uP:FuncId):AC:= (sq [ro 6 (.mv (.c (.sl true [])))] (sq [ro 7 (.cO 1 1 (.v (.int .i64 0)) [(0,(ci 0))]),rm 8 0,rm 9 1,rm 10 2,rk 11 Ky [(.t 8),(.t 9),(.t 10)],ro 12 (.cO 1 2 (.sl true []) [(0,(.t 7)),(1,(.t 11))]),rk 13 uP [(.t 12)],rm 6 13] .ret))
def Vi(EC Ky:FuncId):AC:= (sq [ro 6 (.mv (.c (.sl true [])))] (.seq (sq [rm 7 0,rm 8 1,rk 9 EC [(.t 7),(.t 8)]] (.cond (.t 9) (sq [rm 10 1,rm 6 10] .ret) .skip)) (sq [rm 11 0,rm 12 1,rm 13 2,rk 14 Ky [(.t 11),(.t 12),(.t 13)],rm 6 14] .ret)))
def HB(P:Program)(fb:FuncId)(n:Net)(kd:Kd):Prop:=∀(S:St) (id km:Nat) (most:Int) (ss:List (List Int)) (v:AV) (set:List Int) (s:Int) (K:AV→St→Prop),wU S id km n most ss v→Val n set→
 (∀m,S.n≤m→K (aA (kD kd n set s)) ⟨m,S.g⟩)→aQ P fb [.ptr id 0 0,aA set,aj s] S K
def RS(P:Program)(f:FuncId)(n:Net):Prop:=∀set s,Val n set→rW P f [oU n,aA set,aj s] (aA (qR n set s))
def Q6(P:Program)(f:FuncId)(n:Net):Prop:=∀set,Val n set→aN P f [oU n,aA set] (aH (lC n set))
theorem wU.pre{S:St}{id km:Nat}{n:Net}{most:Int}{ss:List (List Int)}{v:AV}(M:wU S id km n most ss v){g:Nat→Option aF}(hg:g id=S.g id):Fz g (.ptr id 0 0) (oU n):=
 .pre id 7 [aj n.signs,aX n.aB,aX n.follow,aA n.last] [aj most,.mp km,v] (by rw[hg];exact M.g) (by
  intro y hy;simp only[List.mem_cons,List.not_mem_nil,or_false] at hy;rcases hy with rfl | rfl | rfl | rfl
  ·exact aW _
  ·exact jo _
  ·exact jo _
  ·exact aS _)
theorem HB.whole{P:Program}{f:FuncId}{n:Net}(h:RS P f n):HB P f n .whole:=by
 intro S id km most ss v set s K M hv hk;have hz:fC S.g [.ptr id 0 0,aA set,aj s] [oU n,aA set,aj s]:=fC.cons (M.pre rfl) (fC.cons (.closed _ (aS _)) (fC.cons (.closed _ (aW _)) fC.nil));exact aQ.UU (h set s hv) S.g (fun _ _ e=>e) hz.1 hz.2 (aS _) (hk S.n (Nat.le_refl _))
theorem HB.tails{P:Program}(hm:P.follows .mixedOrders=true){f fs fc:FuncId}{n:Net}(R:nT n)(h:RS P fs n)(hf:Is P f (Vj fs fc) [6] 3)
  (hc:∀l:List Int,l.length≤1000→aN P fc [.sl true [.sl true [aj 0],aA l]] (aA (0::l))):HB P f n .tails:=by
 intro S id km most ss v set s K M hv hk;have hb:=HB.whole h;refine hf.wV hm rfl ?_;simp[Vj];refine hb _ id km most ss v set s _ ⟨M.g,M.m,M.vec,M.ne,M.hv,Nat.lt_of_lt_of_le M.lid (by show S.n≤S.n+1+8;omega),Nat.lt_of_lt_of_le M.vG (by show S.n≤S.n+1+8;omega),fun i hi=>Nat.lt_of_lt_of_le (M.lv i hi) (by show S.n≤S.n+1+8;omega)⟩ hv fun m hm2=>?_
 have h1:(aA (kD .whole n set s)).cells=[aA (kD .whole n set s)]:=rfl;have h2:(aA (kD .whole n set s)).solid=true:=rfl;simp only[AV.solid] at h2;simp[h1,h2]
 refine aQ.pure (hc _ ?_) (aK (.sl _ _ (by
  intro y hy;simp only[List.mem_cons,List.not_mem_nil,or_false] at hy;rcases hy with rfl | rfl
  ·exact .sl _ _ (by intro y hy;simp only[List.mem_cons,List.not_mem_nil,or_false] at hy;subst hy;exact aW _)
  ·exact aS _)) aU) (aS _) ?_
 ·have:=(ZiZ R set s).2
  show(qR n set s).length≤1000
  omega
 ·simp
  exact hk _ (by simp only at hm2;omega)
theorem HB.heads{P:Program}(hm:P.follows .mixedOrders=true){f fs fe:FuncId}{n:Net}(h:RS P fs n)(he:Q6 P fe n)(hf:Is P f (Vi fe fs) [6] 3):HB P f n .heads:=by
 intro S id km most ss v set s K M hv hk;have hb:=HB.whole h;have JV:∀m,S.n≤m→wU ⟨m,S.g⟩ id km n most ss v:=fun m hm2=>⟨M.g,M.m,M.vec,M.ne,M.hv,Nat.lt_of_lt_of_le M.lid hm2,Nat.lt_of_lt_of_le M.vG hm2,fun i hi=>Nat.lt_of_lt_of_le (M.lv i hi) hm2⟩
 refine hf.wV hm rfl ?_;simp[Vi];refine aQ.looks (S:=⟨S.n+1+3,S.g⟩) (he set hv) (fC.cons (M.pre rfl) (fC.cons (.closed _ (aS _)) fC.nil)) (L9 _) ?_;cases hq:lC n set with
 | true=>
  simp;have:=hk (S.n+1+3+2) (by omega);simp only[kD,hq,if_true] at this;exact this
 | false=>
  simp;refine hb _ id km most ss v set s _ (JV _ (by omega)) hv fun m hm2=>?_
  simp;have:=hk m (by simp only at hm2;omega);simp only[kD,hq,Bool.false_eq_true,if_false] at this;exact this
theorem HB.aP{P:Program}(hm:P.follows .mixedOrders=true){f fb:FuncId}{n:Net}{kd:Kd}(h:HB P fb n kd)(hf:Is P f Lh [6] 4){bC:St}{id km k5 k8:Nat}{most:Int}(h5:bC.g k5=some (.arr 1 [.aP fb [] []]))(h8:bC.g k8=some (.arr 1 [.ptr id 0 0]))
  (l5:k5 < bC.n) (l8:k8 < bC.n) (n5:k5≠id∧k5≠km) (n8:k8≠id∧k8≠km):RP P f [.ptr k5 0 0,.ptr k8 0 0] bC id km n most kd:=by
 intro S ss v set s K M hold hv hk;have g5:S.g k5=some (.arr 1 [.aP fb [] []]):=(hold.2 k5 l5 n5.1 n5.2).trans h5;have g8:S.g k8=some (.arr 1 [.ptr id 0 0]):=(hold.2 k8 l8 n8.1 n8.2).trans h8;have JV:∀m,S.n≤m→wU ⟨m,S.g⟩ id km n most ss v:=fun m hm2=>⟨M.g,M.m,M.vec,M.ne,M.hv,Nat.lt_of_lt_of_le M.lid hm2,Nat.lt_of_lt_of_le M.vG hm2,fun i hi=>Nat.lt_of_lt_of_le (M.lv i hi) hm2⟩
 refine hf.wV hm rfl ?_;simp[Lh,g5,g8];refine h _ id km most ss v set s _ (JV _ (by omega)) hv fun m hm2=>?_
 simp;exact hk m (by simp only at hm2;omega)
def X3:AV:=aT ⟨0,[],[]⟩
def Cg(kd:Kd)(n:Net)(most:Int):AV:=
 if qQ n=true∧1≤most∧most≤3000 then (match yG kd n most with
  | some st=>.aM [aT ⟨n.signs,st.2.1,st.2.2⟩,aj 0]
  | none=>.aM [X3,aj 13])
 else .aM [X3,aj 1]
def FZ(fr f1 f2 fall:FuncId):M1:=⟨Xx,I6 fr,21,f1,6,7,Xy f2 fall,30,[.c 6 (some 3),.c 7 none]⟩
theorem PZ(g:Nat→Option aF)(e:Int):kI g (.aM [.agg [.v (.int .i64 0),.sl true [],.sl true []],.v (.int .i64 e)]) (.aM [X3,aj e]):=by
 refine .aM _ _ rfl (fun i h1 h2=>?_)
 match i,h1 with
 | 0,_=>
  refine .agg _ _ rfl (fun j k1 k2=>?_)
  match j,k1 with
  | 0,_=>exact .v _
  | 1,_=>exact .nil true false (by simp)
  | 2,_=>exact .nil true false (by simp)
 | 1,_=>exact .v _
theorem Zr9{P:Program}(hm:P.follows .mixedOrders=true){f1 f2 fall um fe fb fT:FuncId}(hall:Bv P fall (Le um fe) [.c 4 (some 3)] 2)(hf2:Is P f2 Lh [6] 4)
  {n:Net} {kd:Kd} {most:Int} (R:nT n) (Bq:JD P um fT n) (hb:HB P fb n kd) (hend:Q6 P fe n) (h1:1≤most) (h3:most≤3000) {f:AF} {S:St} (e1:f 1=aj most) (e3:f 3=.ptr 0 0 0) (e5:f 5=.ptr 1 0 0) (e6:f 6=.ptr 2 0 0) (e7:f 7=.ptr 3 0 0)
  (g0:S.g 0=some (.arr 4 [ji n])) (g1:S.g 1=some (.arr 1 [.aP fb [] []])) (g2:S.g 2=some (.arr 3 [rQ])) (g3:S.g 3=some (.arr 1 [aj 0])) (hn:4≤S.n) :
  AW P (Xy f2 fall) (Q8 P (Fx fT) 5 2 [.c 6 (some 3),.c 7 none] [.ptr 2 0 0,.ptr 3 0 0] fun r' S'=>kI S'.g r' (Cg kd n most)) (f.put (some 21) (.aP f1 [] [.ptr 2 0 0,.ptr 3 0 0])) S:=by
 have hR:qQ n=true:=(BG n).mpr R;have ec:(ji n).cells=[aj n.signs,aX n.aB,aX n.follow,aA n.last]:=rfl;have es:(ji n).solid=true:=rfl;simp only[AV.solid] at es;simp[AL,uF,uE,BM,BH,Xy,e1,e3,e5,g0,ec,jc,iR,FV]
 have k1:∀i,i < S.n→(((((⟨S.n+7,S.g⟩:St).set (S.n+2) (some (.map []))).set (S.n+4) (some (.arr 7 [.agg [.v (.int .i64 n.signs),aX n.aB,aX n.follow,aA n.last,.v (.int .i64 most),.mp (S.n+2),.sl true []]]))).set (S.n+5) (some (.arr 1 [.v (.pointer none)]))).set (S.n+5) (some (.arr 1 [.ptr (S.n+4) 0 0]))).g i=S.g i:=fun i hi=>by
  rw[aG,if_neg (by omega),aG,if_neg (by omega),aG,if_neg (by omega),aG,if_neg (by omega)]
 have k2:(((((⟨S.n+7,S.g⟩:St).set (S.n+2) (some (.map []))).set (S.n+4) (some (.arr 7 [.agg [.v (.int .i64 n.signs),aX n.aB,aX n.follow,aA n.last,.v (.int .i64 most),.mp (S.n+2),.sl true []]]))).set (S.n+5) (some (.arr 1 [.v (.pointer none)]))).set (S.n+5) (some (.arr 1 [.ptr (S.n+4) 0 0]))).g (S.n+2)=some (.map []):=by
  rw[aG,if_neg (by omega),aG,if_neg (by omega),aG,if_neg (by omega),aG,if_pos rfl]
 have k3:(((((⟨S.n+7,S.g⟩:St).set (S.n+2) (some (.map []))).set (S.n+4) (some (.arr 7 [.agg [.v (.int .i64 n.signs),aX n.aB,aX n.follow,aA n.last,.v (.int .i64 most),.mp (S.n+2),.sl true []]]))).set (S.n+5) (some (.arr 1 [.v (.pointer none)]))).set (S.n+5) (some (.arr 1 [.ptr (S.n+4) 0 0]))).g (S.n+4)=some (.arr 7 [.agg [aj n.signs,aX n.aB,aX n.follow,aA n.last,aj most,.mp (S.n+2),.sl true []]]):=by
  rw[aG,if_neg (by omega),aG,if_neg (by omega),aG,if_pos rfl];rfl
 have k4:(((((⟨S.n+7,S.g⟩:St).set (S.n+2) (some (.map []))).set (S.n+4) (some (.arr 7 [.agg [.v (.int .i64 n.signs),aX n.aB,aX n.follow,aA n.last,.v (.int .i64 most),.mp (S.n+2),.sl true []]]))).set (S.n+5) (some (.arr 1 [.v (.pointer none)]))).set (S.n+5) (some (.arr 1 [.ptr (S.n+4) 0 0]))).g (S.n+5)=some (.arr 1 [.ptr (S.n+4) 0 0]):=by
  rw[aG,if_pos rfl]
 generalize(((((⟨S.n+7,S.g⟩:St).set (S.n+2) (some (.map []))).set (S.n+4) (some (.arr 7 [.agg [.v (.int .i64 n.signs),aX n.aB,aX n.follow,aA n.last,.v (.int .i64 most),.mp (S.n+2),.sl true []]]))).set (S.n+5) (some (.arr 1 [.v (.pointer none)]))).set (S.n+5) (some (.arr 1 [.ptr (S.n+4) 0 0]))).g=G at *
 have M:wU ⟨S.n+7+5,G⟩ (S.n+4) (S.n+2) n most [] (.sl true []):=
  ⟨k3,k2,.nil,by omega,by simp[AV.ids],by show S.n+4 < S.n+7+5;omega,by show S.n+2 < S.n+7+5;omega,by simp[AV.ids]⟩
 have GH:=hb.aP hm hf2 (bC:=⟨S.n+7+5,G⟩) (id:=S.n+4) (km:=S.n+2) (k5:=1) (k8:=S.n+5) (most:=most) ((k1 1 (by omega)).trans g1) k4 (by show 1 < S.n+7+5;omega) (by show S.n+5 < S.n+7+5;omega) ⟨by omega,by omega⟩ ⟨by omega,by omega⟩
 have hpre:∀S':St,Old ⟨S.n+7+5,G⟩ S' (S.n+4) (S.n+2)→S'.g 2=some (.arr 3 [rQ])∧S'.g 3=some (.arr 1 [aj 0]):=fun S' hold=>
  ⟨((hold.2 2 (by show 2 < S.n+7+5;omega) (by omega) (by omega)).trans (k1 2 (by omega))).trans g2,((hold.2 3 (by show 3 < S.n+7+5;omega) (by omega) (by omega)).trans (k1 3 (by omega))).trans g3⟩
 refine Zqn hm hall R Bq GH hend h1 h3 M (fun st S' vN vE g CR hold aad z1 z2=>?_) (fun CR S' hold=>?_)
 ·obtain⟨q2,q3⟩:=hpre S' hold
  simp only[rQ] at q2;have hnn:S.n+7+5≤S'.n:=hold.1;have hs2:S'.n≠2:=by omega
  have hs3:S'.n≠3:=by omega
  simp[zC,uF,uE,yF,e6,e7,q2,q3,Q8,He,vk];simp[Fx,MB,QE];have x2:¬(2=S'.n+5):=by omega
  have x3:¬(3=S'.n+5):=by omega
  refine⟨[.agg [.v (.int .i64 n.signs),vN,vE],.v (.int .i64 0)],?_,?_⟩
  ·simp[bV,RV.ev,gH,au,aG,e6,e7,bq,dR,dV]
  ·rw[Cg,if_pos ⟨hR,h1,h3⟩,CR]
   refine .aM _ _ rfl (fun i k1 k2=>?_)
   match i,k1 with
   | 0,_=>
    refine .agg _ _ rfl (fun j k1 k2=>?_)
    match j,k1 with
    | 0,_=>exact .v _
    | 1,_=>
     refine z1.mono fun i k e=>?_
     obtain⟨w1,w2,w3⟩:=aad i k e;have w2':S.n+7+5≤i:=w2;rw[aG,if_neg (by omega),aG,if_neg (by omega),aG,if_neg (by omega),aG,if_neg (by omega)];exact w1
    | 2,_=>
     refine z2.mono fun i k e=>?_
     obtain⟨w1,w2,w3⟩:=aad i k e;have w2':S.n+7+5≤i:=w2;rw[aG,if_neg (by omega),aG,if_neg (by omega),aG,if_neg (by omega),aG,if_neg (by omega)];exact w1
   | 1,_=>exact .v _
 ·obtain⟨q2,q3⟩:=hpre S' hold
  simp only[rQ] at q2;have hnn:S.n+7+5≤S'.n:=hold.1;simp[Zmn,Dm];simp only[pn];refine⟨Ke fT,rfl,rfl,?_⟩;have x2:¬(2=S'.n+5):=by omega
  have x3:¬(3=S'.n+5):=by omega
  have hbe:Nat.beq fT fT=true:=Nat.beq_refl fT;have hov:Cx (.agg #[])=some (.agg []):=rfl;simp[He,vk,Ke];simp[Fx,MB,hov,jc,iR,q2,q3];refine⟨[.agg [.v (.int .i64 0),.sl true [],.sl true []],.v (.int .i64 13)],?_,?_⟩
  ·simp[bV,RV.ev,gH,au,aG,e6,e7,bq,dR,dV]
  ·rw[Cg,if_pos ⟨hR,h1,h3⟩,CR]
   exact PZ _ 13
theorem ZoC{P:Program}(hm:P.follows .mixedOrders=true){f fr f1 f2 fall um fe fb fT:FuncId}(h:JI P f=some (FZ fr f1 f2 fall))(h':F5 P f1=some (5,2,Fx fT,16))(hall:Bv P fall (Le um fe) [.c 4 (some 3)] 2)(hf2:Is P f2 Lh [6] 4)
  {n:Net} {kd:Kd} {most:Int} (hr:aN P fr [ji n] (aH (qQ n))) (Bq:qQ n=true→JD P um fT n) (hb:qQ n=true→HB P fb n kd) (hend:qQ n=true→Q6 P fe n):rW P f [ji n,aj most,.aP fb [] []] (Cg kd n most):=by
 refine .uQ (ZnW hm h h' (by omega) (by show 3≤30;omega) ?_);show AW P Xx (RU P (FZ fr f1 f2 fall) (Fx fT) 5 2 _) _ _
 have ha:dS 4 (ji n)=.new (some (.arr 4 [ji n],fun i=>.ptr i 0 0)):=rfl;simp[Xx,ji,aX,aA,RU];show AW P (I6 fr) _ _ _
 by_cases hR:qQ n=true
 ·by_cases h1:most < 1
  ·simp[AL,uF,uE,BM,BH,I6]
   refine oO.GZ (aQ.pure hr (aK (BF n) aU) (dN _) ?_);simp[Px,XM,ZpH,zC,uF,uE,yF,hR,h1,jc,iR,JC,FZ,bV,RV.ev,gH,cK];rw[Cg,if_neg (by omega)];exact PZ _ 1
  ·by_cases h3:3000 < most
   ·simp[AL,uF,uE,BM,BH,I6]
    refine oO.GZ (aQ.pure hr (aK (BF n) aU) (dN _) ?_);simp[Px,XM,zC,uF,uE,yF,hR,h1,h3,jc,iR,JC,FZ,bV,RV.ev,gH,cK];rw[Cg,if_neg (by omega)];exact PZ _ 1
   ·simp[AL,uF,uE,BM,BH,I6]
    refine oO.GZ (aQ.pure hr (aK (BF n) aU) (dN _) ?_);simp[Px,XM,zC,uF,uE,yF,hR,h1,h3];have R:=(BG n).mp hR;simp only[JC];refine Zr9 hm hall hf2 R (Bq hR) (hb hR) (hend hR) (by omega) (by omega) ?_ ?_ ?_ ?_ ?_ ?_ ?_ ?_ ?_ ?_
    ·simp[au,bM,bU,aj]
    ·simp[au]
    ·simp[au]
    ·simp[au]
    ·simp[au]
    ·simp[aG,ji,aj,aX,aA]
    ·simp[aG]
    ·simp[aG,rQ,aj]
    ·simp[aG,aj]
    ·simp
 ·simp[AL,uF,uE,BM,BH,I6]
  refine oO.GZ (aQ.pure hr (aK (BF n) aU) (dN _) ?_);simp[Px,ZpH,zC,uF,uE,yF,hR,jc,iR,JC,FZ,bV,RV.ev,gH,cK];rw[Cg,if_neg (by simp[hR])];exact PZ _ 1
end Go.Rf
namespace Go.Rf
open Go.RowKit
def Pm(P50 Ky:FuncId):AC:= (sq [ro 2 (.box 4 (.t 0)),ro 4 (.alloc (.agg [(.v (.int .i64 0)),(.sl true []),(.sl true [])]) 3),ro 5 (.mv (ci 0))] (sq [ro 6 (.load (some 4) (.t 2)),rm 7 1,rk 8 P50 [(.t 6),(.t 7),(.c (.aP Ky [] []))],ro 9 (.ext 0 (.t 8)),ro 10 (.ext 1 (.t 8)),rn (.store 3 (.t 4) (.t 9)),rm 5 10] .ret))
theorem rW.pure{P:Program}{f:FuncId}{args:List AV}{r:AV}(h:rW P f args r)(ha:∀x∈args,aY x)(hr:aY r):aN P f args r:=
 .uQ (aQ.UU h (fun _=>none) (fun _ _ e=>by cases e) rfl (fun j h1 h2=>.closed _ (ha _ (List.getElem_mem h1))) hr (.closed _ hr))
theorem ZgG(d:aD):aY (aT d):=.agg _ (by
 intro y hy;simp only[List.mem_cons,List.not_mem_nil,or_false] at hy;rcases hy with rfl | rfl | rfl
 ·exact aW _
 ·exact jo _
 ·exact .sl _ _ (by intro y hy;obtain⟨b,_,rfl⟩:=List.mem_map.mp hy;exact dN _))
def uj(kd:Kd)(n:Net)(most:Int):aD×Int:=
 if qQ n=true∧1≤most∧most≤3000 then (match yG kd n most with
  | some st=>(⟨n.signs,st.2.1,st.2.2⟩,0)
  | none=>(⟨0,[],[]⟩,13))
 else (⟨0,[],[]⟩,1)
def jV(p:aD×Int):AV:=.aM [aT p.1,aj p.2]
theorem Zla(kd:Kd)(n:Net)(most:Int):Cg kd n most=jV (uj kd n most):=by
 unfold Cg uj;split
 ·cases yG kd n most<;>rfl
 ·rfl
theorem BI(p:aD×Int):aY (jV p):=.aM _ (by
 intro y hy;simp only[List.mem_cons,List.not_mem_nil,or_false] at hy;rcases hy with rfl | rfl
 ·exact ZgG _
 ·exact aW _)
theorem Z99{P:Program}{f1 fb:FuncId}{n:Net}{most:Int}{p:aD×Int}(h:aN P f1 [ji n,aj most,.aP fb [] []] (jV p)):AW P (Pm f1 fb) (bK [.c 4 (some 3),.t 5] (iQ (jV p))) (bP [ji n,aj most]) S0:=by
 have ec:(ji n).cells=[aj n.signs,aX n.aB,aX n.follow,aA n.last]:=rfl;have es:(ji n).solid=true:=rfl;simp only[AV.solid] at es;simp[kZ,kN,dO,eB,eD,fV,fK,dY,ex,au,dM,dX,bM,bU,aG,bB,dS,bA,bW,bq,AV.solid,S0,aj,Pm,ec,es];refine aQ.pure h (aK (BF n) (aK (aW _) (aK (.aP _ _ _ aU aU) aU))) (BI p) ?_;simp[kY,dO,eB,eD,fG,dY,ex,au,cu,dM,aG,dR,bL,dA,dU,bq,AV.solid,aj,jV,aT,bK,bV,RV.ev,gH,cK];exact .closed _ (BI p)
end Go.Rf
