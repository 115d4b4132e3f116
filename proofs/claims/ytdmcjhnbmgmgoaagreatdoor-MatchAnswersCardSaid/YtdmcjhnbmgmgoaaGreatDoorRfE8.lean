import Derived.Test.YtdmcjhnbmgmgoaaGreatDoorRfR5
set_option linter.unusedVariables false
set_option linter.unusedSimpArgs false
set_option linter.unusedSectionVars false
namespace Go.Rf
attribute [local simp] jv jk jX jO jG jY jP jI kF jW jN bZ gL eu fq gH d9 fI gI gy eT gD eB fO gG fM dG dJ dZ eX iq iw fG iy fC fB fu dD gT gU gV fJ fK iC gJ fU gZ gW gY gX ig iD fZ iA fP fQ gM iB dh dF fD gu iE ex aj fA cO dO bJ bO aD bE dX eU dn gP gQ gN gK fV bI cZ dw eD eF fF dN bY bM dz bX dP dA dH eO eG eH dY bW dQ cK cB aY AV.solid S0 ak aG
def Un(EM yS:FuncId):AC:= (.block 2 (.loop (.seq (.seq (.reg (some []) [ro 35 (.load (some 3) (.t 1)),ro 36 (.load (some 3) (.t 1)),rm 37 5,rm 38 8,rk 39 yS [(.t 36),(.t 37),(.t 38)],rk 40 EM [(.t 35),(.t 39)],rm 41 6,ro 42 (.bin .sub (.t 41) (ci 1)),ro 43 (.bin .neq (.t 40) (.t 42))]) (.cond (.t 43) .skip (.exit 2))) (.block 3 (.reg none [rm 44 8,ro 45 (.bin .add (.t 44) (ci 1)),rm 8 45])))))
def TL(EM yS:FuncId):AC:= (.block 0 (.loop (.seq (sq [rm 31 6,ro 32 (.bin .gtr (.t 31) (ci 0))] (.cond (.t 32) .skip (.exit 0))) (.seq (.block 1 (sq [ro 8 (.mv (ci 0))] (.seq (Un EM yS) (sq [rm 46 7,rm 47 8,ro 48 (.bS 1 1 (.v (.int .i64 0)) [(0,(.t 47))]),ro 49 (.app 1 8 (.t 46) (.t 48)),rm 7 49] (.reg none [ro 50 (.load (some 3) (.t 1)),rm 51 5,rm 52 8,rk 53 yS [(.t 50),(.t 51),(.t 52)],rm 5 53]))))) (.reg none [rm 33 6,ro 34 (.bin .sub (.t 33) (ci 1)),rm 6 34])))))
def Tc(HZ Ih:FuncId):AC:= (.seq (sq [ro 9 (.mv (ci 1))] (.block 4 (.loop (.seq (sq [rm 54 9,rm 55 7,ro 56 (.len (.t 55)),ro 57 (.bin .lss (.t 54) (.t 56))] (.cond (.t 57) .skip (.exit 4))) (.seq (.block 5 (.seq (.reg (some []) [ro 60 (.load (some 3) (.t 1)),rm 61 7,rm 62 9,rk 63 HZ [(.t 61),(.t 62)],rk 64 Ih [(.t 60),(.t 63)]]) (.cond (.t 64) (sq [rm 65 7,rm 66 9,rm 2 65,rm 3 66,ro 4 (.mv (.c (.v (.bool true))))] .ret) .skip))) (.reg none [rm 58 9,ro 59 (.bin .add (.t 58) (ci 1)),rm 9 59])))))) (sq [ro 2 (.mv (.c (.sl true []))),ro 3 (.mv (ci 0)),ro 4 (.mv (.c (.v (.bool false))))] .ret))
def IV(yT EM yS HZ Ih:FuncId):AC:= (sq [ro 1 (.box 3 (.t 0)),ro 2 (.mv (.c (.sl true []))),ro 3 (.mv (ci 0)),ro 4 (.mv (.c (.v (.bool false))))] (.seq (sq [ro 10 (.load (some 3) (.t 1)),rk 11 yT [(.t 10)],ro 12 (.un .not (.t 11)),rm 13 12,rg 14 13 false (.bV 0 (.t 1)),rg 15 13 false (.load none (.t 14)),rg 16 13 false (.bin .rem (.t 15) (ci 2)),rg 17 13 false (.bin .neq (.t 16) (ci 0)),ro 18 (.pick (.t 13) (.c (.v (.bool true))) (.t 17))] (.cond (.t 18) (sq [ro 2 (.mv (.c (.sl true []))),ro 3 (.mv (ci 0)),ro 4 (.mv (.c (.v (.bool false))))] .ret) .skip)) (sq [rF 19 1 1,rL 20 19,ro 21 (.len (.t 20)),ro 22 (.um 3 3 (.agg [(.v (.bool false)),(.v (.bool false)),(.v (.bool false))]) (.t 21) (.t 21)),rm 5 22] (sq [rm 23 5,ro 24 (.aI 3 (.t 23) (ci 0)),ro 25 (.uj 3 1 (.t 24) (ci 0)),rn (.store 1 (.t 25) (.c (.v (.bool true))))] (sq [ro 26 (.load (some 3) (.t 1)),rm 27 5,rk 28 EM [(.t 26),(.t 27)],rm 6 28] (.seq (sq [rm 29 6,ro 30 (.bin .lss (.t 29) (ci 0))] (.cond (.t 30) (sq [ro 2 (.mv (.c (.sl true []))),ro 3 (.mv (ci 0)),ro 4 (.mv (.c (.v (.bool false))))] .ret) .skip)) (sq [ro 7 (.mv (.c (.sl true [])))] (.seq (TL EM yS) (Tc HZ Ih)))))))))
def Tv(g:Nat→Option aF)(v:AV)(T:List aP):Prop:=v=bK T∨Vec g v 3 (T.map dS)
theorem Tv.frame{g g':Nat→Option aF}{v:AV}{T:List aP}(h:Tv g v T)(hs:∀i∈v.ids,g' i=g i):Tv g' v T:=by
 rcases h with h | h
 ·exact .inl h
 ·exact .inr (h.frame hs)
theorem Tv.fz{g:Nat→Option aF}{v:AV}{T:List aP}(h:Tv g v T):Fz g v (bK T):=by
 rcases h with rfl | h
 ·exact .closed _ (zQ T)
 ·exact h.fz TN
theorem Tv.only{g:Nat→Option aF}{v:AV}{T:List aP}(h:Tv g v T):Tv (only v.ids g) v T:=h.frame (fun i hi=>by rw[BJ,if_pos hi])
structure Gw(d:aB)(T:List aP)(k:Nat)(v5 v7:AV)(aW:List Int)(f:AF)(S:St):Prop where
 e1:f 1=.ptr 0 0 0
 e5:f 5=v5
 tv:Tv S.g v5 T
 e6:f 6=ak k
 e7:f 7=v7
 v:Vec S.g v7 1 (aW.map ak)
 g0:S.g 0=some (.arr 3 [aH d])
 n0:0∉v7.ids
 dj:∀i∈v5.ids,i∉v7.ids∧i < S.n
 n:0 < S.n
theorem Gw.same{d:aB}{T:List aP}{k:Nat}{v5 v7:AV}{aW:List Int}{f f':AF}{S S':St}(h:Gw d T k v5 v7 aW f S)(h1:f' 1=f 1)(h5:f' 5=f 5)(h6:f' 6=f 6)(h7:f' 7=f 7)(hg:S'.g=S.g)(hn:S.n≤S'.n):Gw d T k v5 v7 aW f' S':=by
 refine⟨by rw[h1,h.e1],by rw[h5,h.e5],by rw[hg];exact h.tv,by rw[h6,h.e6],by rw[h7,h.e7],by rw[hg];exact h.v,by rw[hg];exact h.g0,h.n0,fun i hi=>⟨(h.dj i hi).1,by have:=(h.dj i hi).2;omega⟩,by have:=h.n;omega⟩
structure Q9(P:Program)(fl fh:FuncId)(d:aB):Prop where
 l:∀T:List aP,T.length=d.next.length→aM P fl [aH d,bK T] (ak (vD d T))
 h:∀(T:List aP) (h:Nat),T.length=d.next.length→((2*h+1:Nat):Int) < d.signs→aM P fh [aH d,bK T,ak h] (bK (kW d T h))∧rQ P fh [aH d,bK T,ak h] (bK (kW d T h))
def rmJ(d:aB)(T:List aP)(k:Nat)(v5 v7:AV)(aW:List Int)(hf:Nat)(m:Nat)(f:AF)(S:St):Prop:=
 ∃h,h≤hf∧m=hf - h∧f 8=ak h∧Gw d T (k+1) v5 v7 aW f S
theorem Zrw{P:Program}{fl fh:FuncId}{d:aB}(C:Q9 P fl fh d)(R:bg d)(hev:d.signs % 2=0){far:List Int}(fo:lV (pg d) far){T:List aP}(hT:T.length=d.next.length){at_:List Int}{k:Nat}(hk:k≤100000)(K:Dr d far T at_ (k+1))
  {v5 v7:AV} {aW:List Int} {f:AF} {S:St} {Q:Exit→AF→St→Prop} (h0:rmJ d T k v5 v7 aW (kS d far at_ k) (kS d far at_ k) f S)
  (hq:∀f' S',f' 8=ak (kS d far at_ k)→Gw d T (k+1) v5 v7 aW f' S'→Q .normal f' S'):AW P (Un fl fh) Q f S:=by
 obtain⟨b1,b2,b3⟩:=Jp R hev fo K.ok;have hs1:=R.s1;have hs2:=R.s2;simp[Un];refine kD (rmJ d T k v5 v7 aW (kS d far at_ k)) (kS d far at_ k) h0 ?_;rintro m f S ⟨h,hle,rfl,e8,st⟩;obtain⟨e1,e5,tv,e6,e7,v,g0,n0,dj,n⟩:=id st;have hh:((2*h+1:Nat):Int) < d.signs:=by omega
 have hw1:IntKind.i64.wrap (k:Int)=(k:Int):=aZ _ (by omega)
 have Kq:∀n,kI P fh [.agg [.v (.int .i64 d.signs),aN d.next,bA d.fin],v5,.v (.int .i64 h)] ⟨n,S.g⟩ v5.ids (bK (kW d T h)):=fun n=>by
  refine⟨[aH d,bK T,ak h],(C.h T h hT hh).1,rfl,fun j h1 h2=>?_,.inr (.inr ⟨zQ _,(C.h T h hT hh).2⟩)⟩
  match j,h1 with
  | 0,_=>exact .closed _ (dW d)
  | 1,_=>exact tv.only.fz
  | 2,_=>exact .closed _ (.v _)
 have Kr:∀n,kI P fl [.agg [.v (.int .i64 d.signs),aN d.next,bA d.fin],bK (kW d T h)] ⟨n,S.g⟩ [] (ak (vD d (kW d T h))):=fun n=>by
  refine⟨[aH d,bK (kW d T h)],C.l _ (Fp d T h),rfl,fun j h1 h2=>?_,.inl (ZjK _)⟩
  match j,h1 with
  | 0,_=>exact .closed _ (dW d)
  | 1,_=>exact .closed _ (zQ _)
 simp[e1,e5,e6,e8,g0,aH,hw1];refine⟨_,⟨_,Kq _⟩,_,⟨_,Kr _⟩,?_⟩;have hiff:=K.half R hev fo hT hh;by_cases hlt:h < kS d far at_ k
 ·have hne:(vD d (kW d T h) != (k:Int))=true:=by
   simp only[bne_iff_ne,ne_eq];intro e;exact hiff.mp e (b3 h hlt)
  simp[e8,hne];rw[aZ _ (by omega)];refine⟨kS d far at_ k - (h+1),by omega,h+1,by omega,rfl,by simp[aj,ak],st.same ?_ ?_ ?_ ?_ rfl (by simp;try omega)⟩<;>simp[aj]
 ·have:h=kS d far at_ k:=by omega
  subst this
  have hne:(vD d (kW d T (kS d far at_ k)) != (k:Int))=false:=by
   simp only[bne_eq_false_iff_eq];exact hiff.mpr b2
  simp[hne];refine hq _ _ (by simp[aj,e8]) (st.same ?_ ?_ ?_ ?_ rfl (by simp))<;>simp[aj]
def rmI(d:aB)(far:List Int)(tot:List Int)(m:Nat)(f:AF)(S:St):Prop:=
 ∃T v5 v7 aW at_,Gw d T m v5 v7 aW f S∧T.length=d.next.length∧Dr d far T at_ m∧aW++uE d far m at_=tot∧aW.length+m≤9000
theorem Zqk{P:Program}{fl fh:FuncId}{d:aB}(C:Q9 P fl fh d)(R:bg d)(hev:d.signs % 2=0){far:List Int}(fo:lV (pg d) far){tot:List Int}{m0:Nat}{f:AF}{S:St}{Q:Exit→AF→St→Prop}
  (h0:rmI d far tot m0 f S) (hq:∀f' S',f' 1=.ptr 0 0 0→S'.g 0=some (.arr 3 [aH d])→Vec S'.g (f' 7) 1 (tot.map ak)→tot.length≤9000→Q .normal f' S'):AW P (TL fl fh) Q f S:=by
 simp[TL];refine kD (rmI d far tot) m0 h0 ?_;rintro m f S ⟨T,v5,v7,aW,at_,st,hT,K,htot,hb⟩;obtain⟨e1,e5,tv,e6,e7,v,g0,n0,dj,n⟩:=id st;cases m with
 | zero=>
  simp[e6];rw[uE,List.append_nil] at htot;subst htot;refine hq _ _ ?_ ?_ ?_ (by omega)
  ·simp[aj,e1]
  ·simp[g0]
  ·simp only[aj]
   simp only[Nat.reduceEqDiff,if_false,e7];exact v
 | succ k=>
  have hz:(0:Int) < (k:Int)+1:=by omega
  obtain⟨b1,b2,b3⟩:=Jp R hev fo K.ok;have hs1:=R.s1;have hs2:=R.s2;have hh:((2*kS d far at_ k+1:Nat):Int) < d.signs:=by omega
  simp[e6,hz];refine Zrw C R hev fo hT (k:=k) (by omega) K (v5:=v5) (v7:=v7) (aW:=aW) ?_ ?_
  ·refine⟨0,by omega,rfl,by simp[aj,ak],st.same ?_ ?_ ?_ ?_ rfl (by simp only;omega)⟩<;>simp[aj]
  ·intro f1 S1 e8 st1
   obtain⟨e1,e5,tv,e6,e7,v,g0,n0,dj,n⟩:=id st1;have hw0:∀m,(St.without ⟨m,S1.g⟩ v7).g 0=some (.arr 3 [aH d]):=fun m=>by rw[kC 0 n0];exact g0
   simp only[aH] at hw0;simp[e7,e8];rw[Vec.app (xs:=aW.map ak) (v.frame (fun i hi=>rfl)) (xS _) (by simp[AV.cells]) (Ac (by rw[List.length_map];omega))];simp[e1,e5,e8,hw0,pY]
   have tv':Tv (fun j=>((St.without ⟨S1.n+5,S1.g⟩ v7).set (S1.n+3) (some (.arr 1 (aW.map ak++[.v (.int .i64 (kS d far at_ k))])))).g j) v5 T:=tv.frame (fun i hi=>by
    obtain⟨q1,q2⟩:=dj i hi;rw[aD,if_neg (by omega),kC i q1])
   refine aQ.Lu (C.h T _ hT hh).2 _ (fun _ _ e=>e) rfl (fun j h1 h2=>?_) (zQ _) ?_
   ·match j,h1 with
    | 0,_=>exact .closed _ (dW d)
    | 1,_=>exact tv'.fz
    | 2,_=>exact .closed _ (.v _)
   ·simp[e6]
    have hw1:IntKind.i64.wrap (k:Int)=(k:Int):=aZ _ (by omega)
    refine⟨k,by omega,kW d T (kS d far at_ k),bK (kW d T (kS d far at_ k)),.own (S1.n+3) 0 (aW.length+1),aW++[(kS d far at_ k:Int)],vO d far at_ (kS d far at_ k) k,
     ⟨?_,?_,.inl rfl,?_,?_,?_,?_,?_,?_,by simp⟩,Fp _ _ _,K.next R hev fo hT hh b2,?_,by simp;omega⟩
    ·simp[aj,e1]
    ·simp[aj]
    ·simp[aj,hw1,ak]
    ·simp[aj]
    ·refine .mk' ?_ (by simp)
     simp[aD,ak]
    ·have hne:¬(0=S1.n+3):=by omega
     simp[aD,hw0,aH]
    ·simp[AV.ids]
    ·simp[bK,AV.ids]
    ·rw[←htot,uE,List.append_assoc];rfl
def rmQ(d:aB)(aW:List Int)(pf:Nat)(v7:AV)(m:Nat)(f:AF)(S:St):Prop:=
 ∃p:Nat,1≤p∧p≤pf∧m=pf - p∧f 1=.ptr 0 0 0∧f 7=v7∧f 9=ak p∧S.g 0=some (.arr 3 [aH d])∧Vec S.g v7 1 (aW.map ak)
theorem Zox{P:Program}{fw fa:FuncId}{d:aB}{aW:List Int}(hsl:aW.length≤1000000)(hw:∀p:Int,aM P fw [au aW,ak p] (au (bT aW p))∧rQ P fw [au aW,ak p] (au (bT aW p)))
  (ha:∀p:Int,aM P fa [aH d,au (bT aW p)] (aG (lg d (bT aW p)))) {pf:Nat} (hpf:zU d aW pf) {v7:AV} {f:AF} {S:St} (e1:f 1=.ptr 0 0 0) (e7:f 7=v7) (g0:S.g 0=some (.arr 3 [aH d])) (hv:Vec S.g v7 1 (aW.map ak)) :
  AW P (Tc fw fa) (bR [2,3,4] (dx (.aL [au aW,ak pf,aG true]))) f S:=by
 have hlo:=hpf.lo;have hhi:=hpf.hi;simp[Tc];refine kD (rmQ d aW pf v7) (pf - 1) ⟨1,by omega,hlo,rfl,by simp[aj,e1],by simp[aj,e7],by simp[aj,ak],g0,hv.frame (fun _ _=>rfl)⟩ ?_;rintro m f S ⟨p,p1,p2,rfl,e1,e7,e9,g0,hv⟩;have hw3:IntKind.i64.wrap ((p:Int)+1)=(p:Int)+1:=aZ _ (by omega);have Ws:(p:Int) < aW.length:=by omega
 have hpN:p < aW.length:=by omega
 obtain⟨id,off,e7v⟩:∃id off,v7=.own id off aW.length:=by
  rcases hv with⟨_,h0⟩ | ⟨id,off,ys,h0,_⟩
  ·have:=congrArg List.length h0
   simp at this;subst this;simp at hpN
  ·exact⟨id,off,by simpa using h0⟩
 subst e7v;have zH:Vec (only (AV.own id off aW.length).ids S.g) (.own id off aW.length) 1 (aW.map ak):=hv.frame (fun i hi=>by rw[BJ,if_pos hi])
 have Kq:∀n,kI P fw [.own id off aW.length,.v (.int .i64 p)] ⟨n,S.g⟩ (AV.own id off aW.length).ids (au (bT aW p)):=fun n=>by
  refine⟨[au aW,ak p],(hw p).1,rfl,fun j h1 h2=>?_,.inr (.inr ⟨bD _,(hw p).2⟩)⟩
  match j,h1 with
  | 0,_=>exact zH.fz aX
  | 1,_=>exact .closed _ (.v _)
 have Kr:∀n,kI P fa [.agg [.v (.int .i64 d.signs),aN d.next,bA d.fin],au (bT aW p)] ⟨n,S.g⟩ [] (aG (lg d (bT aW p))):=fun n=>by
  refine⟨[aH d,au (bT aW p)],ha p,rfl,fun j h1 h2=>?_,.inl (FW _)⟩
  match j,h1 with
  | 0,_=>exact .closed _ (dW d)
  | 1,_=>exact .closed _ (bD _)
 simp[e1,e7,e9,g0,aH,Ws];refine⟨_,⟨_,Kq _⟩,_,⟨_,Kr _⟩,?_⟩;by_cases hp:p=pf
 ·subst hp
  rw[hpf.acc];simp[e7,e9]
  exact .aL _ _ rfl (by
   intro j h1 h2
   match j,h1 with
   | 0,_=>exact hv.fz aX
   | 1,_=>exact .closed _ (.v _)
   | 2,_=>exact .closed _ (.v _))
 ·rw[hpf.fst p p1 (by omega)]
  simp[e9,hw3];refine⟨pf - (p+1),by omega,p+1,by omega,by omega,rfl,?_,?_,?_,g0,hv⟩
  ·simp[aj,e1]
  ·simp[aj,e7]
  ·simp[aj,ak]
def T0(n:Nat):List aP:=(List.replicate n aP.no).set 0 ⟨true,false,false⟩
theorem Zrk{n:Nat}(hn:0 < n)(i:Nat):hs (T0 n) i=decide (i=0):=by
 have h1:T0 n=(List.replicate n aP.no).set 0 (((List.replicate n aP.no).getD 0 .no).put 0 true):=by
  unfold T0;have:(List.replicate n aP.no).getD 0 .no=.no:=by simp[List.getD_eq_getElem?_getD,hn]
  rw[this];rfl
 have h2:=MS (T:=List.replicate n aP.no) (i:=0) (k:=0) (by simp;exact hn) (by omega) i;unfold vo at h2;rw[h1,h2,Vd];simp
theorem Z6T{P:Program}{fr fl fh fw fa:FuncId}(d:aB)(hr:aM P fr [aH d] (aG (fE d)))(C:bg d→Q9 P fl fh d)
  (hw:∀(s:List Int) (p:Int),s.length≤1000000→aM P fw [au s,ak p] (au (bT s p))∧rQ P fw [au s,ak p] (au (bT s p))) (ha:∀l:List Int,Len l→aM P fa [aH d,au l] (aG (lg d l))) :
  AW P (IV fr fl fh fw fa) (bR [2,3,4] (dx (.aL [au (jK d),ak (vU d),aG (jZ d)]))) (bC [aH d]) S0:=by
 have cd:=dW d;by_cases hR:fE d=true
 ·have R:=(wQ d).mp hR
  have hs1:=R.s1;have hs2:=R.s2;have hn1:=R.n1;have hn2:=R.n2;have aam:d.signs.tmod 2=d.signs % 2:=Int.tmod_eq_emod_of_nonneg (by omega);by_cases hev:d.signs % 2=0
  ·have Wh:(d.signs.tmod 2 != 0)=false:=by rw[aam,hev];rfl
   have fo:=Ju (pg d);have hgn:=uM d;have hok:=Sm R hev;have hfp:yB d=qj (pg d):=rfl;have q1:(d.next.length:Int)≤9223372036854775807:=by omega
   have q2:3*(d.next.length:Int)≤281474976710656:=by omega
   have q3:0 < d.next.length:=by omega
   have q4:(0:Int) < d.next.length:=by omega
   have Ke:=aR cd bB;rw[hR] at hr;simp[IV,aH];refine aQ.pure hr Ke (cu _) ?_;simp[Wh,aN,yj,q1,q2,q3];have hT0:(T0 d.next.length).length=d.next.length:=by simp[T0]
   have hgm:(List.replicate d.next.length (AV.agg [.v (.bool false),.v (.bool false),.v (.bool false)])).set 0 (.agg [.v (.bool true),.v (.bool false),.v (.bool false)])=(T0 d.next.length).map dS:=by
    simp[T0,List.map_set,aP.no,dS,aG]
   have C':=C R;have hl0:=C'.l (T0 d.next.length) hT0;have hs0:=Zrk q3;have hv0:∀(g:Nat→Option aF),g 16=some (.arr 3 ((T0 d.next.length).map dS))→Vec g (.own 16 0 d.next.length) 3 ((T0 d.next.length).map dS):=fun g hg=>Vec.mk' hg (by simp[hT0])
   rw[hgm];refine aQ.looks hl0 (iN.cons (.closed _ cd) (iN.cons (Tv.fz (.inr (hv0 _ (by simp[aD])))) .nil)) (ZjK _) ?_;rcases Zlv R hev fo hT0 with⟨hl,hnone⟩ | ⟨k,hl,hmin⟩
   ·have hno:jZ d=false:=by
     cases h:jZ d with
     | false=>rfl
     | true=>
      have h1:=hok.mp h;have h2:=hnone 0 (by omega) (by rw[hs0];rfl);rw[hfp] at h1;omega
    rw[hl];simp;exact FT hno _
   ·have hr0:rd (qj (pg d)) 0=(k:Int):=by
     obtain⟨i,h1,h2,h3⟩:=hmin.ex;rw[hs0] at h2;have:i=0:=by simpa using h2
     rw[this] at h3;exact h3
    have hmo:jZ d=true:=hok.mpr (by rw[hfp];omega);have hkn:=fo.lt 0 (by omega)
    have hS:jK d=uE d (qj (pg d)) k [0]:=by
     unfold jK;rw[if_pos hmo,hfp,hr0];rfl
    have hat:=U2 R (by rw[hfp];omega);rw[hfp,hr0] at hat;have hkk:((k:Int)).toNat=k:=by omega
    rw[hkk] at hat;have hneg:¬(k:Int) < 0:=by omega
    rw[hl];simp[hneg];refine Zqk C' R hev fo (tot:=jK d) (m0:=k) ?_ ?_
    ·refine⟨T0 d.next.length,.own 16 0 d.next.length,.sl true [],[],[0],⟨?_,?_,?_,?_,?_,.nil,?_,?_,?_,by simp⟩,hT0,⟨hat,hmin,fun i hi=>?_⟩,by rw[hS];rfl,by simp;omega⟩
     ·simp[aj]
     ·simp[aj]
     ·exact .inr (hv0 _ (by simp[aD]))
     ·simp[aj,ak]
     ·simp[aj]
     ·simp[aD,aH,ak,aN]
     ·simp[AV.ids]
     ·simp[AV.ids]
     ·rw[hs0]
      constructor
      ·intro h
       have:i=0:=by simpa using h
       subst this;exact⟨rfl,hr0⟩
      ·rintro⟨h,_⟩
       have:i=0:=by simpa using h
       subst this;simp
    ·intro f S e1 g0 v hln
     rw[hmo];obtain⟨p0,hp0⟩:=YS R hev hmo;simp
     exact Zox (by omega) (fun p=>hw _ p (by omega)) (fun p=>ha _ (by
      have hwl:(bT (jK d) p).length≤(jK d).length:=by unfold bT;split<;>simp[qW]
      unfold Len;omega)) (YG ⟨p0,hp0⟩) e1 rfl g0 v
  ·have Wh:(d.signs.tmod 2 != 0)=true:=by rw[aam];simp[hev]
   have hno:jZ d=false:=by simp[jZ,hev]
   have Ke:=aR cd bB;rw[hR] at hr;simp[IV,aH];refine aQ.pure hr Ke (cu _) ?_;simp[Wh];exact FT hno _
 ·have hR':fE d=false:=by simpa using hR
  have hno:jZ d=false:=by simp[jZ,hR']
  have Ke:=aR cd bB;rw[hR'] at hr;simp[IV,aH];refine aQ.pure hr Ke (cu _) ?_;simp;exact FT hno _
end Go.Rf
namespace Go.Rf
open Go.RowKit
inductive Kd where
 | whole
 | tails
 | heads
def kN(kd:Kd)(n:Net)(set:List Int)(s:Int):List Int:=
 match kd with
 | .whole=>sH n set s
 | .tails=>0::sH n set s
 | .heads=>if qg n set=true then set else sH n set s
def yF(most:Int)(ss:List (List Int))(x:List Int):Option (List (List Int)×Int):=
 if x∈ss then some (ss,(ss.idxOf x:Int)) else if (ss.length:Int)=most then none else some (ss++[x],(ss.length:Int))
def uf(most:Int)(b:Int→List Int):Nat→List (List Int)→Option (List (List Int)×List Int)
 | 0,ss=>some (ss,[])
 | k+1,ss=>match uf most b k ss with
  | none=>none
  | some (s1,r)=>match yF most s1 (b k) with
   | none=>none
   | some (s2,j)=>some (s2,r++[j])
abbrev rZ:=List (List Int)×List (List Int)×List Bool
def uo(kd:Kd)(n:Net)(most:Int)(i:Nat)(st:rZ):Option rZ:=
 match st.1[i]? with
 | none=>none
 | some set=>match uf most (kN kd n set) n.signs.toNat st.1 with
  | none=>none
  | some (s2,r)=>some (s2,st.2.1++[r],st.2.2++[qg n set])
def qM(kd:Kd)(n:Net)(most:Int):Nat→Option rZ
 | 0=>some ([[0]],[],[])
 | i+1=>match qM kd n most i with
  | none=>none
  | some st=>uo kd n most i st
def Cb(kd:Kd)(n:Net)(most:Int):Nat→Nat→rZ→Option rZ
 | 0,_,_=>none
 | f+1,i,st=>if i=st.1.length then some st else match uo kd n most i st with
  | none=>none
  | some st'=>Cb kd n most f (i+1) st'
def BI(kd:Kd)(n:Net)(most:Int):Option rZ:=Cb kd n most (most.toNat+1) 0 ([[0]],[],[])
def Val(n:Net)(s:List Int):Prop:=(∀x∈s,0≤x∧x < n.follow.length)∧s.length≤302
theorem Val.nn{n:Net}{s:List Int}(h:Val n s):sN s:=fun x hx=>(h.1 x hx).1
theorem Zh2{n:Net}(R:pI n)(set:List Int)(s:Int):(∀x∈sH n set s,1≤x∧x < n.follow.length)∧(sH n set s).length≤301:=by
 refine⟨fun x hx=>?_,Zk9 R set s⟩;unfold sH at hx;rw[FP] at hx;unfold nP at hx;obtain⟨p,hp,hx⟩:=List.mem_flatMap.mp hx;unfold Bv at hx;split at hx
 ·rename_i h
  have h2:=(List.mem_filter.mp hx).1;have hlt:p.toNat < n.follow.length:=by omega
  rw[List.getD_eq_getElem?_getD,List.getElem?_eq_getElem hlt,Option.getD_some] at h2;have:=(R.follow _ hlt).2 x h2;have:=R.len;omega
 ·cases hx
theorem Nh{kd:Kd}{n:Net}(R:pI n){set:List Int}(h:Val n set)(s:Int):Val n (kN kd n set s):=by
 obtain⟨h1,h2⟩:=Zh2 R set s;cases kd with
 | whole=>exact⟨fun x hx=>by have:=h1 x hx;omega,by show(sH n set s).length≤302;omega⟩
 | tails=>
  refine⟨fun x hx=>?_,by show(0::sH n set s).length≤302;simp only[List.length_cons];omega⟩;have hx':x=0∨x∈sH n set s:=by simpa[kN] using hx
  rcases hx' with rfl | hx'
  ·have:=R.n1;have:=R.len;omega
  ·have:=h1 x hx';omega
 | heads=>
  simp only[kN];split
  ·exact h
  ·exact⟨fun x hx=>by have:=h1 x hx;omega,by omega⟩
structure BR(n:Net)(most:Int)(ss:List (List Int)):Prop where
 v:∀s∈ss,Val n s
 l:(ss.length:Int)≤most
theorem Zo8{n:Net}{most:Int}{ss:List (List Int)}{x:List Int}(h:BR n most ss)(hx:Val n x){p:List (List Int)×Int}(e:yF most ss x=some p):BR n most p.1∧ss.length≤p.1.length:=by
 unfold yF at e;split at e
 ·cases e;exact⟨h,Nat.le_refl _⟩
 ·split at e
  ·cases e
  ·cases e
   refine⟨⟨fun s hs=>?_,?_⟩,by simp⟩
   ·rcases List.mem_append.mp hs with hs | hs
    ·exact h.v s hs
    ·simp at hs;subst hs;exact hx
   ·have:=h.l;simp only[List.length_append,List.length_cons,List.length_nil];omega
theorem Nb{n:Net}{most:Int}{b:Int→List Int}(hb:∀s,Val n (b s)){ss:List (List Int)}(h:BR n most ss):∀(k:Nat) {p:List (List Int)×List Int},uf most b k ss=some p→BR n most p.1∧ss.length≤p.1.length∧p.2.length=k
 | 0,p,e=>by simp only[uf,Option.some.injEq] at e;subst e;exact⟨h,Nat.le_refl _,rfl⟩
 | k+1,p,e=>by
  simp only[uf] at e;split at e
  ·cases e
  ·rename_i s1 r h1
   obtain⟨i1,i2,i3⟩:=Nb hb h k h1;split at e
   ·cases e
   ·rename_i s2 j h2
    cases e;obtain⟨j1,j2⟩:=Zo8 i1 (hb k) h2;exact⟨j1,Nat.le_trans i2 j2,by simp only at i3;simp[i3]⟩
theorem Zu{most:Int}{b:Int→List Int}{ss:List (List Int)}{k:Nat}(h:uf most b k ss=none):∀m,k≤m→uf most b m ss=none
 | 0,hm=>by
  have:k=0:=by omega
  subst this;exact h
 | m+1,hm=>by
  by_cases hk:k=m+1
  ·subst hk;exact h
  ·simp only[uf,Zu h m (by omega)]
structure Vt(n:Net)(most:Int)(i:Nat)(st:rZ):Prop where
 ss:BR n most st.1
 le:i≤st.1.length
 nx:st.2.1.length=i
 en:st.2.2.length=i
 row:∀r∈st.2.1,r.length=n.signs.toNat
theorem ZpU{kd:Kd}{n:Net}(R:pI n){most:Int}{i:Nat}{st st':rZ}(h:Vt n most i st)(e:uo kd n most i st=some st'):Vt n most (i+1) st':=by
 unfold uo at e;split at e
 ·cases e
 ·rename_i set hs
  obtain⟨hlt,hse⟩:=List.getElem?_eq_some_iff.mp hs;split at e
  ·cases e
  ·rename_i s2 r h1
   cases e;obtain⟨j1,j2,j3⟩:=Nb (n:=n) (fun s=>Nh R (h.ss.v set (by rw[←hse];exact List.getElem_mem hlt)) s) h.ss _ h1;refine⟨j1,by simp only at j2 ⊢;omega,by simp[h.nx],by simp[h.en],fun r' hr=>?_⟩;rcases List.mem_append.mp hr with hr | hr
   ·exact h.row r' hr
   ·simp at hr;subst hr;exact j3
theorem UU{kd:Kd}{n:Net}(R:pI n){most:Int}(hm:1≤most):∀(i:Nat) {st:rZ},qM kd n most i=some st→Vt n most i st
 | 0,st,e=>by
  simp only[qM,Option.some.injEq] at e;subst e;refine⟨⟨fun s hs=>?_,by simpa using hm⟩,by simp,rfl,rfl,by simp⟩;simp only[List.mem_cons,List.not_mem_nil,or_false] at hs;subst hs;exact⟨fun x hx=>by simp at hx;subst hx;have:=R.n1;have:=R.len;omega,by simp⟩
 | i+1,st,e=>by
  simp only[qM] at e;split at e
  ·cases e
  ·rename_i st0 h0
   exact ZpU R (UU R hm i h0) e
theorem Zj0{kd:Kd}{n:Net}(R:pI n){most:Int}(hm:1≤most):∀(f i:Nat) {st:rZ},qM kd n most i=some st→most.toNat+1≤f+i→∀j wG,i≤j→qM kd n most j=some wG→j=wG.1.length→(∀m,i≤m→m < j→∀lG,qM kd n most m=some lG→m≠lG.1.length)→Cb kd n most f i st=some wG
 | 0,i,st,h,hf,j,wG,hij,hj,hlen,hmin=>by
  have o:=UU R hm i h;have:=o.ss.l;have:=o.le;omega
 | f+1,i,st,h,hf,j,wG,hij,hj,hlen,hmin=>by
  simp only[Cb];by_cases hi:i=st.1.length
  ·rw[if_pos hi]
   by_cases hij2:i=j
   ·subst hij2;rw[h] at hj;exact hj
   ·exact(hmin i (Nat.le_refl _) (by omega) st h hi).elim
  ·rw[if_neg hi]
   by_cases hij2:i=j
   ·subst hij2;rw[h] at hj;cases hj;exact(hi hlen).elim
   ·have hs1:qM kd n most (i+1)=uo kd n most i st:=by simp only[qM,h]
    cases hn:uo kd n most i st with
    | none=>
     exfalso;rw[hn] at hs1
     have key:∀m,i+1≤m→qM kd n most m=none:=by
      intro m;induction m with
      | zero=>intro hm;omega
      | succ m ih=>
       intro hm';by_cases lW:m=i
       ·subst lW;exact hs1
       ·simp only[qM,ih (by omega)]
     rw[key j (by omega)] at hj;cases hj
    | some st'=>
     rw[hn] at hs1;exact Zj0 R hm f (i+1) hs1 (by omega) j wG (by omega) hj hlen (fun m h1 h2=>hmin m (by omega) h2)
theorem Zgt{kd:Kd}{n:Net}(R:pI n){most:Int}:∀(f i:Nat) {st:rZ},qM kd n most i=some st→∀j,i≤j→qM kd n most (j+1)=none→(∀m,i≤m→m≤j→∀lG,qM kd n most m=some lG→m≠lG.1.length)→Cb kd n most f i st=none
 | 0,i,st,h,j,hij,hj,hmin=>rfl
 | f+1,i,st,h,j,hij,hj,hmin=>by
  simp only[Cb];rw[if_neg (hmin i (Nat.le_refl _) hij st h)];have hs1:qM kd n most (i+1)=uo kd n most i st:=by simp only[qM,h]
  cases hn:uo kd n most i st with
  | none=>rfl
  | some st'=>
   rw[hn] at hs1;simp only;by_cases hij2:i=j
   ·subst hij2;rw[hs1] at hj;cases hj
   ·exact Zgt R f (i+1) hs1 j (by omega) hj (fun m h1 h2=>hmin m (by omega) h2)
theorem jJ.XW{g:Nat→Option aF}{n:Nat}{av:List Nat}{vs:List AV}{ls:List (List AV)}{v:AV}{l:List AV}(h:jJ g n av (vs++[v]) (ls++[l])) :
  Vec g v 1 l∧(∀i∈v.ids,i < n∧i∉av)∧(∀w∈vs,∀i∈w.ids,i∉v.ids)∧jJ g n av vs ls:=by
 have hl:vs.length=ls.length:=by have:=h.len;simpa using this
 have hp:=List.pairwise_append.mp h.sep;refine⟨?_,h.out v (by simp),fun w hw=>hp.2.2 w hw v (by simp),hl,fun t h1 h2=>?_,hp.1,fun w hw=>h.out w (by simp[hw])⟩
 ·have:=h.row vs.length (by simp) (by simp[hl])
  rw[List.getElem_append_right (by omega),List.getElem_append_right (by omega)] at this;simpa[hl] using this
 ·have:=h.row t (by simp;omega) (by simp;omega)
  rwa[List.getElem_append_left h1,List.getElem_append_left h2] at this
def oM:AV:=.agg [ak 0,.sl true [],.sl true []]
def tO(nx:List (List Int)):List (List AV):=nx.map fun l=>l.map ak
structure kP(S bf:St)(id km b4 b5:Nat)(n:Net)(most:Int)(ss nx:List (List Int))(en:List Bool)(v vN vE:AV)(rs ex:List AV)(Eh:List (List AV)):Prop where
 mg:S.g id=some (.arr 7 [.agg [ak n.signs,aN n.aC,aN n.follow,au n.last,ak most,.mp km,v]])
 mm:S.g km=some (.map (rR 0 ss))
 g4:S.g b4=some (.arr 3 [oM])
 g5:S.g b5=some (.arr 3 [.agg [ak n.signs,vN,vE]])
 rows:jJ S.g S.n [id,km,b4,b5] (v::vN::vE::(rs++ex)) (ss.map au::rs::en.map aG::(tO nx++Eh))
 ne:id≠km
 lid:id < bf.n
 tF:km < bf.n
 l4:bf.n≤b4
 l5:bf.n≤b5
 n45:b4≠b5
 t4:b4 < S.n
 t5:b5 < S.n
 new:∀w∈(v::vN::vE::(rs++ex)),∀i∈w.ids,bf.n≤i
 old:∀i,i < bf.n→i≠id→i≠km→S.g i=bf.g i
 jg:bf.n≤S.n
section
variable{S bf:St}{id km b4 b5:Nat}{n:Net}{most:Int}{ss nx:List (List Int)}{en:List Bool}{v vN vE:AV}{rs ex:List AV}{Eh:List (List AV)}
theorem kP.mk'(h:kP S bf id km b4 b5 n most ss nx en v vN vE rs ex Eh):uS S id km n most ss v:=by
 obtain⟨hv,ho,_⟩:=h.rows.head;refine⟨h.mg,h.mm,hv,h.ne,fun i hi=>?_,Nat.lt_of_lt_of_le h.lid h.jg,Nat.lt_of_lt_of_le h.tF h.jg,fun i hi=>(ho i hi).1⟩;have:=(ho i hi).2;simp only[List.mem_cons,not_or] at this;exact⟨this.1,this.2.1⟩
theorem kP.up(h:kP S bf id km b4 b5 n most ss nx en v vN vE rs ex Eh){m:Nat}(hm:S.n≤m):kP ⟨m,S.g⟩ bf id km b4 b5 n most ss nx en v vN vE rs ex Eh:=
 ⟨h.mg,h.mm,h.g4,h.g5,h.rows.frame hm (fun _ _ _ _=>rfl),h.ne,h.lid,h.tF,h.l4,h.l5,h.n45,Nat.lt_of_lt_of_le h.t4 hm,Nat.lt_of_lt_of_le h.t5 hm,h.new,h.old,Nat.le_trans h.jg hm⟩
theorem kP.num(h:kP S bf id km b4 b5 n most ss nx en v vN vE rs ex Eh){S':St}{ss':List (List Int)}{v':AV}(M:uS S' id km n most ss' v')(F:Qf S S' (id::km::v.ids))(hv':∀i∈v'.ids,S.n≤i) :
  kP S' bf id km b4 b5 n most ss' nx en v' vN vE rs ex Eh:=by
 obtain⟨hv,ho,hs,hr⟩:=h.rows.head;have Wn:=h.lid;have Wo:=h.tF;have h4:=h.l4;have h5:=h.l5;have Pp:=h.jg;have Kz:=h.t4;have Pk:=h.t5;have key:∀i,i < S.n→i≠id→i≠km→i∉v.ids→S'.g i=S.g i:=fun i h1 h2 h3 h4=>F.g i h1 (by simp[h2,h3,h4])
 have GY:∀b,b∈[id,km,b4,b5]→b∉v.ids:=fun b hb hi=>(ho b hi).2 hb
 have hFn:=F.n;refine⟨M.g,M.m,?_,?_,?_,h.ne,h.lid,h.tF,h.l4,h.l5,h.n45,by omega,by omega,fun w hw i hi=>?_,fun i h1 h2 h3=>?_,by omega⟩
 ·rw[key b4 Kz (by omega) (by omega) (GY b4 (by simp))];exact h.g4
 ·rw[key b5 Pk (by omega) (by omega) (GY b5 (by simp))];exact h.g5
 ·refine jJ.cons M.vec (fun i hi=>⟨M.lv i hi,?_⟩) (fun w hw i hi hi2=>?_) (hr.frame hFn (fun w hw i hi=>?_))
  ·have:=hv' i hi
   simp only[List.mem_cons,List.not_mem_nil,or_false,not_or];omega
  ·have:=(hr.out w hw i hi2).1
   have:=hv' i hi;omega
  ·have h1:=hr.out w hw i hi
   have h2:=h1.2;simp only[List.mem_cons,List.not_mem_nil,or_false,not_or] at h2;exact key i h1.1 h2.1 h2.2.1 (fun h3=>hs w hw i h3 hi)
 ·rcases List.mem_cons.mp hw with rfl | hw
  ·have:=hv' i hi;omega
  ·exact h.new w (List.mem_cons_of_mem _ hw) i hi
 ·rw[key i (by omega) h2 h3 (fun h4=>by have:=h.new v (by simp) i h4;omega)];exact h.old i h1 h2 h3
theorem kP.row(h:kP S bf id km b4 b5 n most ss nx en v vN vE rs [] []){q:Nat}(hq:S.n≤q){m:Nat}(hm:q < m){zs:List AV}{L:Nat}(hL:zs.length=L) :
  kP ((St.mk m S.g).set q (some (.arr 1 zs))) bf id km b4 b5 n most ss nx en v vN vE rs [.own q 0 L] [zs]:=by
 have Wn:=h.lid;have Wo:=h.tF;have Pp:=h.jg;have Kz:=h.t4;have Pk:=h.t5;have key:∀i,i < S.n→((St.mk m S.g).set q (some (.arr 1 zs))).g i=S.g i:=fun i hi=>by rw[aD,if_neg (by omega)]
 have hr:=h.rows;simp only[List.append_nil] at hr;have hr2:jJ ((St.mk m S.g).set q (some (.arr 1 zs))).g m [id,km,b4,b5] (v::vN::vE::rs) (ss.map au::rs::en.map aG::tO nx):=hr.frame (by omega) (fun w hw i hi=>key i (hr.out w hw i hi).1)
 have hfin:=hr2.snoc (v:=.own q 0 L) (l:=zs) (.mk' (by simp[aD]) hL.symm) (fun i hi=>by
   simp only[AV.ids,List.mem_singleton] at hi;subst hi;refine⟨hm,?_⟩;simp only[List.mem_cons,List.not_mem_nil,or_false,not_or];omega) (fun w hw i hi hi2=>by
   simp only[AV.ids,List.mem_singleton] at hi2;have:=(hr.out w hw i hi).1;omega)
 refine⟨by rw[key id (by omega)];exact h.mg,by rw[key km (by omega)];exact h.mm,by rw[key b4 Kz];exact h.g4,by rw[key b5 Pk];exact h.g5,?_,h.ne,h.lid,h.tF,h.l4,h.l5,h.n45,by show b4 < m;omega,by show b5 < m;omega,fun w hw i hi=>?_,fun i h1 h2 h3=>by rw[key i (by omega)];exact h.old i h1 h2 h3,by show bf.n≤m;omega⟩
 ·rw[bE];simpa using hfin
 ·simp only[List.mem_cons,List.mem_append,List.not_mem_nil,or_false] at hw
  have hn:=h.new;simp only[List.append_nil] at hn;rcases hw with rfl | rfl | rfl | hw | rfl
  ·exact hn _ (by simp) i hi
  ·exact hn _ (by simp) i hi
  ·exact hn _ (by simp) i hi
  ·exact hn _ (by simp[hw]) i hi
  ·simp only[AV.ids,List.mem_singleton] at hi;omega
theorem kP.b7{q L:Nat}{zs:List AV}(h:kP S bf id km b4 b5 n most ss nx en v vN vE rs [.own q 0 L] [zs]):S.g q=some (.arr 1 zs)∧zs.length=L∧q < S.n:=by
 have hr:jJ S.g S.n [id,km,b4,b5] ((v::vN::vE::rs)++[.own q 0 L]) ((ss.map au::rs::en.map aG::tO nx)++[zs]):=by simpa using h.rows
 obtain⟨a,b,c,d⟩:=hr.XW;rcases a with⟨e,_⟩ | ⟨id',off,ys,e,g',ho,hd⟩
 ·cases e
 ·cases e
  simp only[List.drop_zero] at hd;subst hd;exact⟨g',rfl,(b q (by simp[AV.ids])).1⟩
theorem kP.put{q L:Nat}{zs zs':List AV}(h:kP S bf id km b4 b5 n most ss nx en v vN vE rs [.own q 0 L] [zs])(hl:zs'.length=zs.length){m:Nat}(hm:S.n≤m) :
  kP ((St.mk m S.g).set q (some (.arr 1 zs'))) bf id km b4 b5 n most ss nx en v vN vE rs [.own q 0 L] [zs']:=by
 obtain⟨hq,hL,Cj⟩:=h.b7;have hr:jJ S.g S.n [id,km,b4,b5] ((v::vN::vE::rs)++[.own q 0 L]) ((ss.map au::rs::en.map aG::tO nx)++[zs]):=by simpa using h.rows
 obtain⟨a,b,c,d⟩:=hr.XW;have hqo:=(b q (by simp[AV.ids])).2;simp only[List.mem_cons,List.not_mem_nil,or_false,not_or] at hqo;have hqS:bf.n≤q:=h.new (.own q 0 L) (by simp) q (by simp[AV.ids]);have key:∀i,i≠q→((St.mk m S.g).set q (some (.arr 1 zs'))).g i=S.g i:=fun i hi=>by rw[aD,if_neg hi]
 have Pp:=h.jg;have t4:=h.t4;have t5:=h.t5
 have hfin:=(d.frame (g':=((St.mk m S.g).set q (some (.arr 1 zs'))).g) hm (fun w hw i hi=>key i (fun e=>c w hw i hi (by simp[AV.ids,e])))).snoc (v:=.own q 0 L) (l:=zs') (.mk' (by simp[aD]) (by rw[hl,hL])) (fun i hi=>by
   have:=b i hi;exact⟨by omega,this.2⟩) c
 refine⟨by rw[key id (fun e=>hqo.1 e.symm)];exact h.mg,by rw[key km (fun e=>hqo.2.1 e.symm)];exact h.mm,by rw[key b4 (fun e=>hqo.2.2.1 e.symm)];exact h.g4,by rw[key b5 (fun e=>hqo.2.2.2 e.symm)];exact h.g5,?_,h.ne,h.lid,h.tF,h.l4,h.l5,h.n45,by show b4 < m;omega,by show b5 < m;omega,h.new,fun i h1 h2 h3=>by rw[key i (by omega)];exact h.old i h1 h2 h3,by show bf.n≤m;omega⟩;rw[bE];simpa using hfin
theorem kP.fz(h:kP S bf id km b4 b5 n most ss nx en v vN vE rs [] []){g:Nat→Option aF}(hg:∀i,bf.n≤i→i≠b4→g i=S.g i):Fz g vN (aN nx)∧Fz g vE (bA en):=by
 have hrows:=h.rows.frame (g':=g) (n':=S.n) (Nat.le_refl _) (fun w hw i hi=>hg i (h.new w hw i hi) (fun e=>(h.rows.out w hw i hi).2 (by simp[e])));obtain⟨_,_,_,hr⟩:=hrows.head;obtain⟨hN,_,_,hr2⟩:=hr.head;obtain⟨hE,_,_,hr3⟩:=hr2.head;simp only[List.append_nil] at hr3;refine⟨?_,?_⟩
 ·have hl:nx.length=rs.length:=by have:=hr3.len;simpa[tO] using this.symm
  refine hN.fzL (by simpa using hl) (fun i h1 h2=>?_);have h3:=hr3.row i h1 (by simpa[tO,hl] using h1);simp only[tO,List.getElem_map] at h3 ⊢;exact h3.fz aX
 ·exact hE.fz cu
theorem Vec.Ya{g:Nat→Option aF}{v:AV}{es:Nat}{xs zs:List AV}(h:Vec g v es xs)(hl:zs.length=xs.length)(hz:∀i (h1:i < xs.length) (h2:i < zs.length),jo g (xs[i]) (zs[i])):jo g v (.sl false zs):=by
 rcases h with⟨rfl,h0⟩ | ⟨id,off,ys,rfl,h1,h2,h3⟩
 ·subst h0
  have:zs=[]:=List.eq_nil_of_length_eq_zero hl;subst this;exact .nil true false (by simp)
 ·have hle:off+xs.length=ys.length:=by rw[←h3];simp;omega
  have ht:(ys.drop off).take xs.length=xs:=by rw[h3,List.take_length]
  refine .own id off _ es ys zs h1 (by omega) hl (fun i k1 k2=>?_);simp only[ht] at k1 ⊢;exact hz i k1 k2
theorem jo.mono{g g':Nat→Option aF}{x y:AV}(h:jo g x y)(hg:∀i k,g i=some k→g' i=some k):jo g' x y:=by
 induction h with
 | v x=>exact .v x
 | nil t u h=>exact .nil t u h
 | own id off len es xs zs hi hl hz h ih=>exact .own id off len es xs zs (hg _ _ hi) hl hz ih
 | agg cs ds hl h ih=>exact .agg cs ds hl ih
 | aL cs ds hl h ih=>exact .aL cs ds hl ih
theorem kP.GR(h:kP S bf id km b4 b5 n most ss nx en v vN vE rs [] []){g:Nat→Option aF}(hg:∀i,bf.n≤i→i≠b4→i < S.n→g i=S.g i):jo g vN (aN nx)∧jo g vE (bA en):=by
 have hrows:=h.rows.frame (g':=g) (n':=S.n) (Nat.le_refl _) (fun w hw i hi=>hg i (h.new w hw i hi) (fun e=>(h.rows.out w hw i hi).2 (by simp[e])) (h.rows.out w hw i hi).1);obtain⟨_,_,_,hr⟩:=hrows.head;obtain⟨hN,_,_,hr2⟩:=hr.head;obtain⟨hE,_,_,hr3⟩:=hr2.head;simp only[List.append_nil] at hr3;refine⟨?_,?_⟩
 ·have hl:nx.length=rs.length:=by have:=hr3.len;simpa[tO] using this.symm
  refine hN.Ya (by simpa using hl) (fun i h1 h2=>?_);have h3:=hr3.row i h1 (by simpa[tO,hl] using h1);simp only[tO,List.getElem_map] at h3 ⊢;exact h3.GR
 ·refine hE.Ya (by simp) (fun i h1 h2=>?_)
  simp only[List.getElem_map];exact .v _
end
structure Rul where
 num:Int
 cut:Bool
 before:iT
 after:iT
 pos:Int
structure Bk where
 vars:AV
 rules:List Rul
 allows:AV
 used:AV
def JU(g:Nat→Option aF)(v:AV)(es:Nat)(xs:List AV):Prop:=(v=.sl true []∧xs=[])∨∃id,v=.own id 0 xs.length∧g id=some (.arr es xs)
theorem JU.vec{g:Nat→Option aF}{v:AV}{es:Nat}{xs:List AV}(h:JU g v es xs):Vec g v es xs:=by
 rcases h with⟨rfl,rfl⟩ | ⟨id,rfl,h⟩
 ·exact .nil
 ·exact .mk h
theorem JU.frame{g g':Nat→Option aF}{v:AV}{es:Nat}{xs:List AV}(h:JU g v es xs)(hs:∀i∈v.ids,g' i=g i):JU g' v es xs:=by
 rcases h with h | ⟨id,rfl,h⟩
 ·exact .inl h
 ·exact .inr ⟨id,rfl,by rw[hs id (by simp[AV.ids])];exact h⟩
inductive rX (r:Int→Int→Prop):Int→Int→Prop
 | one {a b:Int} (h:r a b):rX r a b
 | more {a b c:Int} (h:rX r a b) (k:r b c):rX r a c
theorem rX.trans{r:Int→Int→Prop}{a b c:Int}(h:rX r a b)(k:rX r b c):rX r a c:=by
 induction k with
 | one k=>exact .more h k
 | more _ k ih=>exact .more ih k
theorem rX.head{r:Int→Int→Prop}{a c:Int}(h:rX r a c):∃b,r a b∧(b=c∨rX r b c):=by
 induction h with
 | one h=>exact⟨_,h,.inl rfl⟩
 | more h k ih=>
  obtain⟨b,h1,h2⟩:=ih;refine⟨b,h1,.inr ?_⟩;rcases h2 with rfl | h2
  ·exact .one k
  ·exact .more h2 k
theorem rX.congr{r s:Int→Int→Prop}{lo hi:Int}(hrs:∀a b,lo≤a→a≤hi→(r a b↔s a b))(hb:∀a b,lo≤a→a≤hi→r a b→lo≤b∧b≤hi){a b:Int}(ha:lo≤a∧a≤hi):rX r a b↔rX s a b:=by
 constructor
 ·intro h
  have key:∀{b},rX r a b→(lo≤b∧b≤hi)∧rX s a b:=by
   intro b h;induction h with
   | one h=>exact⟨hb _ _ ha.1 ha.2 h,.one ((hrs _ _ ha.1 ha.2).mp h)⟩
   | more _ k ih=>
    obtain⟨h1,h2⟩:=ih;exact⟨hb _ _ h1.1 h1.2 k,.more h2 ((hrs _ _ h1.1 h1.2).mp k)⟩
  exact(key h).2
 ·intro h
  have key:∀{b},rX s a b→(lo≤b∧b≤hi)∧rX r a b:=by
   intro b h;induction h with
   | one h=>have h':=(hrs _ _ ha.1 ha.2).mpr h;exact⟨hb _ _ ha.1 ha.2 h',.one h'⟩
   | more _ k ih=>
    obtain⟨h1,h2⟩:=ih;have h':=(hrs _ _ h1.1 h1.2).mpr k;exact⟨hb _ _ h1.1 h1.2 h',.more h2 h'⟩
  exact(key h).2
structure GE where
 qL:Prop
 fst:Nat→Prop
 jS:Nat→Prop
 qH:Nat→Nat→Prop
section
variable(T:Nat→Int→Int→Prop)
inductive Rn (F:Nat→Nat→Prop):Nat→Int→Nat→Int→Prop where
 | refl (s:Nat) (a:Int):Rn F s a s a
 | step (s t u:Nat) (a m b:Int) (h:F s t) (k:T t a m) (r:Rn F t m u b):Rn F s a u b
def Acc(E:GE)(a b:Int):Prop:=(E.qL∧a=b)∨∃s m t,E.fst s∧T s a m∧Rn T E.qH s m t b∧E.jS t
end
section
variable{T:Nat→Int→Int→Prop}
theorem Rn.mono{F G:Nat→Nat→Prop}(h:∀s t,F s t→G s t){s t:Nat}{a b:Int}(r:Rn T F s a t b):Rn T G s a t b:=by
 induction r with
 | refl s a=>exact .refl s a
 | step s t u a m b hf k r ih=>exact .step s t u a m b (h _ _ hf) k ih
theorem Rn.trans{F:Nat→Nat→Prop}{s t u:Nat}{a m b:Int}(r:Rn T F s a t m)(r2:Rn T F t m u b):Rn T F s a u b:=by
 induction r with
 | refl s a=>exact r2
 | step s t u a m b hf k r ih=>exact .step _ _ _ _ _ _ hf k (ih r2)
structure In(E:GE)(b c:Nat):Prop where
 fst:∀s,E.fst s→b≤s∧s < c
 jS:∀s,E.jS s→b≤s∧s < c
 qH:∀s t,E.qH s t→(b≤s∧s < c)∧b≤t∧t < c
theorem Rn.right{E G:GE}{b c d:Nat}(h:In E b c)(k:In G c d){F:Nat→Nat→Prop}(hF:∀s t,F s t→E.qH s t∨G.qH s t∨(E.jS s∧G.fst t)){s t:Nat}{a e:Int}(r:Rn T F s a t e)(hs:c≤s):Rn T G.qH s a t e∧c≤t:=by
 induction r with
 | refl s a=>exact⟨.refl s a,hs⟩
 | step s t u a m e hf kk r ih=>
  rcases hF s t hf with hf | hf | ⟨h1,_⟩
  ·have:=h.qH s t hf;omega
  ·have:=k.qH s t hf
   obtain⟨i1,i2⟩:=ih (by omega);exact⟨.step _ _ _ _ _ _ hf kk i1,i2⟩
  ·have:=h.jS s h1;omega
theorem Rn.left{E G:GE}{b c d:Nat}(h:In E b c)(k:In G c d){F:Nat→Nat→Prop}(hF:∀s t,F s t→E.qH s t∨G.qH s t∨(E.jS s∧G.fst t)){s t:Nat}{a e:Int}(r:Rn T F s a t e)(hs:s < c) :
  (t < c∧Rn T E.qH s a t e)∨∃u m v w,Rn T E.qH s a u m∧E.jS u∧G.fst v∧T v m w∧Rn T G.qH v w t e∧c≤t:=by
 induction r with
 | refl s a=>exact .inl ⟨hs,.refl s a⟩
 | step s t u a m e hf kk r ih=>
  rcases hF s t hf with hf | hf | ⟨h1,h2⟩
  ·have:=h.qH s t hf
   rcases ih (by omega) with⟨i1,i2⟩ | ⟨u',m',v,w,j1,j2,j3,j4,j5,j6⟩
   ·exact .inl ⟨i1,.step _ _ _ _ _ _ hf kk i2⟩
   ·exact .inr ⟨u',m',v,w,.step _ _ _ _ _ _ hf kk j1,j2,j3,j4,j5,j6⟩
  ·have:=k.qH s t hf;omega
  ·have:=k.fst t h2
   obtain⟨i1,i2⟩:=Rn.right h k hF r (by omega);exact .inr ⟨s,a,t,m,.refl s a,h1,h2,kk,i1,i2⟩
end
section
variable{T:Nat→Int→Int→Prop}
theorem Acc.mono{E G:GE}(hn:E.qL→G.qL)(h1:∀s,E.fst s→G.fst s)(h2:∀s,E.jS s→G.jS s)(h3:∀s t,E.qH s t→G.qH s t){a e:Int}(h:Acc T E a e):Acc T G a e:=by
 rcases h with⟨h,rfl⟩ | ⟨s,m,t,hf,hT,hr,hl⟩
 ·exact .inl ⟨hn h,rfl⟩
 ·exact .inr ⟨s,m,t,h1 s hf,hT,hr.mono h3,h2 t hl⟩
end
mutual
def DX:iT→Nat
 | .mk k _ _ ks=>if k=1 then 0 else if k=2 then 1 else BX ks
def BX:List iT→Nat
 | []=>0
 | q::qs=>DX q+BX qs
end
section
variable{T:Nat→Int→Int→Prop}{S:List Int→Int→Int→Prop}
end
structure Gs where
 aC:List (List Int)
 fo:List (List Int)
structure Ed where
 qL:Bool
 fst:List Int
 jS:List Int
def Az(fo:List (List Int)):List Int→List Int→List (List Int)
 | [],_=>fo
 | s::ss,be=>Az (fo.set s.toNat (jm (fo.getD s.toNat []++be))) ss be
def BK:List Ed→Ed→Gs→Ed×Gs
 | [],all,st=>(all,st)
 | e::es,all,st=>BK es ⟨all.qL && e.qL,if all.qL=true then jm (all.fst++e.fst) else all.fst,jm ((if e.qL=true then all.jS else [])++e.jS)⟩ ⟨st.aC,Az st.fo all.jS e.fst⟩
def Nc:List Ed→Ed→Ed
 | [],all=>all
 | e::es,all=>Nc es ⟨all.qL || e.qL,jm (all.fst++e.fst),jm (all.jS++e.jS)⟩
def JW:List Ed→Int→Gs→Ed×Gs
 | [e],k,st=>if 5≤k∧k≤7 then (⟨e.qL || decide (k≠6),e.fst,e.jS⟩,if k=7 then st else ⟨st.aC,Az st.fo e.jS e.fst⟩) else (⟨false,[],[]⟩,st)
 | _,_,st=>(⟨false,[],[]⟩,st)
def Zrq(sg:Int)(g:List Int):List Int:=jm (g.filter fun n=>decide (0≤n) && decide (n < sg))
mutual
def oq(sg:Int):iT→Gs→Ed×Gs
 | .mk k _ g ks,st=>if k=1 then (⟨true,[],[]⟩,st) else if k=2 then (⟨false,[(st.aC.length:Int)],[(st.aC.length:Int)]⟩,⟨st.aC++[Zrq sg g],st.fo++[[]]⟩)
  else if k=3 then BK (qC sg ks st).1 ⟨true,[],[]⟩ (qC sg ks st).2 else if k=4 then (Nc (qC sg ks st).1 ⟨false,[],[]⟩,(qC sg ks st).2) else JW (qC sg ks st).1 k (qC sg ks st).2
def qC(sg:Int):List iT→Gs→List Ed×Gs
 | [],st=>([],st)
 | q::qs,st=>((oq sg q st).1::(qC sg qs (oq sg q st).2).1,(qC sg qs (oq sg q st).2).2)
end
def Up(l:List Int):Prop:=l.Pairwise (· < ·)∧∀x∈l,0≤x
theorem Zqu:Up []:=⟨by simp,by simp⟩
theorem Zqv(n:Nat):Up [(n:Int)]:=⟨by simp,fun x hx=>by simp at hx;omega⟩
theorem Zqw{a b:List Int}(ha:∀x∈a,0≤x)(hb:∀x∈b,0≤x):Up (jm (a++b)):=
 ⟨Js _,fun x hx=>(List.mem_append.mp (FP.mp hx)).elim (ha x) (hb x)⟩
theorem TT:∀(ss:List Int) (fo:List (List Int)) (be:List Int),(Az fo ss be).length=fo.length
 | [],fo,be=>rfl
 | s::ss,fo,be=>by rw[Az,TT ss];simp
structure ZrX(st:Gs):Prop where
 len:st.fo.length=st.aC.length
 up:∀r∈st.fo,Up r
theorem Zgs:∀(es:List Ed) (all:Ed) (st:Gs),(BK es all st).2.aC=st.aC∧(BK es all st).2.fo.length=st.fo.length
 | [],all,st=>⟨rfl,rfl⟩
 | e::es,all,st=>by
  obtain⟨h1,h2⟩:=Zgs es ⟨all.qL && e.qL,if all.qL=true then jm (all.fst++e.fst) else all.fst,jm ((if e.qL=true then all.jS else [])++e.jS)⟩ ⟨st.aC,Az st.fo all.jS e.fst⟩;rw[BK];exact⟨h1,h2.trans (TT _ _ _)⟩
def st0:Gs:=⟨[[]],[[]]⟩
def Vk(p:iT)(sg:Int):Net:=
 ⟨sg,(oq sg p st0).2.aC,(oq sg p st0).2.fo.set 0 (oq sg p st0).1.fst,if (oq sg p st0).1.qL=true then jm ((oq sg p st0).1.jS++[0]) else (oq sg p st0).1.jS⟩
def jq(N:Nat)(l:List Int):Prop:=Up l∧∀x∈l,x < (N:Int)
theorem jq.len{N:Nat}{l:List Int}(h:jq N l):l.length≤N:=
 ZQ N (h.1.1.imp fun h=>by omega) fun x hx=>⟨h.1.2 x hx,h.2 x hx⟩
theorem jq.mono{N M:Nat}{l:List Int}(h:jq N l)(hm:N≤M):jq M l:=⟨h.1,fun x hx=>by have:=h.2 x hx;omega⟩
theorem jq.nil{N:Nat}:jq N []:=⟨Zqu,by simp⟩
theorem jq.one{N k:Nat}(h:k < N):jq N [(k:Int)]:=⟨Zqv k,fun x hx=>by simp at hx;omega⟩
theorem jq.app{N:Nat}{a b:List Int}(ha:jq N a)(hb:jq N b):jq N (jm (a++b)):=
 ⟨Zqw ha.1.2 hb.1.2,fun x hx=>(List.mem_append.mp (FP.mp hx)).elim (ha.2 x) (hb.2 x)⟩
structure uD(st:Gs):Prop where
 len:st.fo.length=st.aC.length
 rows:∀r∈st.fo,jq st.aC.length r
structure uR(N:Nat)(e:Ed):Prop where
 f:jq N e.fst
 l:jq N e.jS
theorem uR.mono{N M:Nat}{e:Ed}(h:uR N e)(hm:N≤M):uR M e:=⟨h.f.mono hm,h.l.mono hm⟩
theorem Zll{N:Nat}{fo:List (List Int)}(h:∀r∈fo,jq N r)(i:Nat):jq N (fo.getD i []):=by
 rw[List.getD_eq_getElem?_getD];cases e:fo[i]? with
 | none=>exact jq.nil
 | some r=>exact h r (List.mem_of_getElem? e)
theorem Zmy{N:Nat}:∀(ss:List Int) (fo:List (List Int)) (be:List Int),(∀r∈fo,jq N r)→jq N be→∀r∈Az fo ss be,jq N r
 | [],fo,be,h,_=>h
 | x::ss,fo,be,h,hb=>by
  refine Zmy ss _ be (fun r hr=>?_) hb;rcases List.mem_or_eq_of_mem_set hr with hr | rfl
  ·exact h r hr
  ·exact(Zll h _).app hb
theorem uD.qH{st:Gs}(h:uD st){a b:List Int}(hb:jq st.aC.length b):uD ⟨st.aC,Az st.fo a b⟩:=⟨(TT _ _ _).trans h.len,Zmy _ _ _ h.rows hb⟩
theorem ZiZ:∀(es:List Ed) (all:Ed) (st:Gs),uD st→uR st.aC.length all→(∀e∈es,uR st.aC.length e)→uD (BK es all st).2∧uR st.aC.length (BK es all st).1
 | [],all,st,h,ha,_=>⟨h,ha⟩
 | e::es,all,st,h,ha,he=>by
  have h1:=he e (by simp);rw[BK];refine ZiZ es _ ⟨st.aC,Az st.fo all.jS e.fst⟩ (h.qH h1.f) ⟨?_,?_⟩ (fun e' h'=>he e' (by simp[h']))
  ·simp only
   split
   ·exact ha.f.app h1.f
   ·exact ha.f
  ·simp only
   split
   ·exact ha.l.app h1.l
   ·exact jq.nil.app h1.l
theorem ZJ{N:Nat}:∀(es:List Ed) (all:Ed),uR N all→(∀e∈es,uR N e)→uR N (Nc es all)
 | [],all,ha,_=>ha
 | e::es,all,ha,he=>by
  have h1:=he e (by simp);rw[Nc];exact ZJ es _ ⟨ha.f.app h1.f,ha.l.app h1.l⟩ (fun e' h'=>he e' (by simp[h']))
theorem ZpG(es:List Ed)(k:Int)(st:Gs)(h:uD st)(he:∀e∈es,uR st.aC.length e):uD (JW es k st).2∧(JW es k st).2.aC=st.aC∧uR st.aC.length (JW es k st).1:=by
 have no:uR st.aC.length ⟨false,[],[]⟩:=⟨jq.nil,jq.nil⟩
 match es,he with
 | [],_=>exact⟨h,rfl,no⟩
 | [e],he=>
  have h1:=he e (by simp);simp only[JW];split
  ·refine⟨?_,?_,⟨h1.f,h1.l⟩⟩
   ·split
    ·exact h
    ·exact h.qH h1.f
   ·split<;>rfl
  ·exact⟨h,rfl,no⟩
 | _::_::_,_=>exact⟨h,rfl,no⟩
mutual
theorem ZiY(sg:Int):∀(p:iT) (st:Gs),uD st→uD (oq sg p st).2∧uR (oq sg p st).2.aC.length (oq sg p st).1∧(oq sg p st).2.aC.length=st.aC.length+DX p
 | .mk k s g ks,st,h=>by
  simp only[oq,DX];split
  ·exact⟨h,⟨jq.nil,jq.nil⟩,rfl⟩
  ·split
   ·refine⟨⟨by simp[h.len],fun r hr=>?_⟩,⟨jq.one (by simp),jq.one (by simp)⟩,by simp⟩
    simp only at hr ⊢;rcases List.mem_append.mp hr with hr | hr
    ·exact(h.rows r hr).mono (by simp)
    ·rw[List.mem_singleton] at hr;subst hr;exact jq.nil
   ·obtain⟨i1,i2,i3⟩:=ZiW sg ks st h
    split
    ·obtain⟨j1,j2⟩:=ZiZ (qC sg ks st).1 ⟨true,[],[]⟩ (qC sg ks st).2 i1 ⟨jq.nil,jq.nil⟩ i2
     have hb:=(Zgs (qC sg ks st).1 ⟨true,[],[]⟩ (qC sg ks st).2).1;exact⟨j1,by rw[hb];exact j2,by rw[hb];exact i3⟩
    ·split
     ·exact⟨i1,ZJ _ _ ⟨jq.nil,jq.nil⟩ i2,i3⟩
     ·obtain⟨j1,j2,j3⟩:=ZpG (qC sg ks st).1 k (qC sg ks st).2 i1 i2
      exact⟨j1,by rw[j2];exact j3,by rw[j2];exact i3⟩
theorem ZiW(sg:Int):∀(ks:List iT) (st:Gs),uD st→uD (qC sg ks st).2∧(∀e∈(qC sg ks st).1,uR (qC sg ks st).2.aC.length e)∧(qC sg ks st).2.aC.length=st.aC.length+BX ks
 | [],st,h=>by simp only[qC,BX];exact⟨h,by simp,rfl⟩
 | q::qs,st,h=>by
  obtain⟨i1,i2,i3⟩:=ZiY sg q st h;obtain⟨j1,j2,j3⟩:=ZiW sg qs (oq sg q st).2 i1;simp only[qC,BX];refine⟨j1,fun e he=>?_,by omega⟩;rcases List.mem_cons.mp he with rfl | he
  ·exact i2.mono (by omega)
  ·exact j2 e he
end
def yg(sg:Int)(v w:AV):AV:=.agg [ak sg,v,w,.sl true []]
def mG(sg:Int)(o:Bool)(st:Gs)(a b c:Nat):List (Nat×Option aF):=
 [(a,some (.arr 4 [yg sg (vV o b (st.aC.map au)) (vV o c (st.fo.map au))])),(b,vB o 1 (st.aC.map au)),(c,vB o 1 (st.fo.map au))]
def Vs(sg:Int)(st:Gs)(S:St):Prop:=S.n=10∧S.g 0=some (.arr 4 [yg sg (.own 3 0 st.aC.length) (.own 4 0 st.fo.length)])∧S.g 3=some (.arr 1 (st.aC.map au))∧S.g 4=some (.arr 1 (st.fo.map au))
theorem Vs.of{sg:Int}{st:Gs}{G:List (Nat×Option aF)}:Vs sg st ⟨10,jy (mG sg true st 0 3 4++G)⟩:=⟨rfl,by simp[mG,jy,kU],by simp[mG,jy,iZ],by simp[mG,jy,iZ]⟩
def Ai(P:Program)(f:FuncId)(args:List AV)(sg:Int)(o:Bool)(st st':Gs)(r:AV):Prop:=
 aQ P f (.ptr 0 0 0::args) ⟨3,jy (mG sg o st 0 1 2)⟩ fun r' S'=>r'=r∧Vs sg st' S'
def DU(sg:Int)(st:Gs)(id b c:Nat)(S:St):St:=
 ((((((St.mk (S.n+7) S.g).set id (some (.arr 4 [yg sg (.own S.n 0 st.aC.length) (.own (S.n+1) 0 st.fo.length)]))).set b none).set c none).set S.n (some (.arr 1 (st.aC.map au)))).set (S.n+1) (some (.arr 1 (st.fo.map au))))
theorem Ai.P6u{P:Program}{f:FuncId}{args Ka:List AV}{sg:Int}{o:Bool}{st st':Gs}{r:AV}(h:Ai P f args sg o st st' r)(ha:∀R,iX wE R Ka args)(hr:aV r){S:St}{K:AV→St→Prop}{id b c:Nat}
  (h1:S.g id=some (.arr 4 [yg sg (vV o b (st.aC.map au)) (vV o c (st.fo.map au))])) (h2:∀R,zw wE R (S.g b) (vB o 1 (st.aC.map au))) (h3:∀R,zw wE R (S.g c) (vB o 1 (st.fo.map au)))
  (hd:id≠b∧id≠c∧b≠c) (hl:id < S.n∧b < S.n∧c < S.n) (hk:K r (DU sg st' id b c S)):aQ P f (.ptr id 0 0::Ka) S K:=by
 refine aQ.frame 3 [(0,id),(1,b),(2,c)] (mG sg o st 0 1 2) (.ptr 0 0 0::args) _ (by simp;omega) (by simp;omega) ?_ ?_ h ?_
 ·intro p hp
  simp only[mG,List.mem_cons,List.not_mem_nil,or_false] at hp;rcases hp with rfl | rfl | rfl
  ·refine .inr ⟨id,by simp,?_⟩
   rw[h1,kQ];refine⟨rfl,?_⟩;simp only[yg,oI,oJ,and_true,oK];exact⟨.cl (aX _),pQ (by simp) (kX _),pQ (by simp) (kX _),.cl (pW _)⟩
  ·exact .inr ⟨b,by simp,h2 _⟩
  ·exact .inr ⟨c,by simp,h3 _⟩
 ·exact .cons (.ptr _ _ _ _ (by simp)) (ha _)
 ·rintro r1 S1 hn ⟨rfl,q1,q2,q3,q4⟩
  refine⟨r1,_,hk,.cl hr,by simp[DU,bE,q1],fun i k hi=>?_⟩;simp only[DU,aD] at hi;by_cases e5:i=S.n+1
  ·rw[if_pos e5] at hi
   refine .inr ⟨4,.inr ⟨by omega,by omega⟩,?_⟩;rw[←hi,q4,kQ];exact⟨rfl,.cl (kX _)⟩
  rw[if_neg e5] at hi;by_cases e4:i=S.n
  ·rw[if_pos e4] at hi
   refine .inr ⟨3,.inr ⟨by omega,by omega⟩,?_⟩;rw[←hi,q3,kQ];exact⟨rfl,.cl (kX _)⟩
  rw[if_neg e4] at hi;by_cases ec:i=c
  ·rw[if_pos ec] at hi;cases hi
  rw[if_neg ec] at hi;by_cases eb:i=b
  ·rw[if_pos eb] at hi;cases hi
  rw[if_neg eb] at hi;by_cases ea:i=id
  ·rw[if_pos ea] at hi
   refine .inr ⟨0,.inl ⟨by omega,by simp[ea]⟩,?_⟩;rw[←hi,q2,kQ];refine⟨rfl,?_⟩;simp only[yg,oI,oJ,and_true,oK,qb];exact⟨.cl (aX _),(.inr ⟨by omega,by omega⟩),(.inr ⟨by omega,by omega⟩),.cl (pW _)⟩
  ·rw[if_neg ea] at hi
   refine .inl ⟨?_,hi⟩;simp;omega
theorem Ai.use{P:Program}{f:FuncId}{args Ka:List AV}{sg:Int}{o:Bool}{st st':Gs}{r:AV}(h:Ai P f args sg o st st' r)(ha:∀R,iX wE R Ka args)(hr:aV r){S:St}{K:AV→St→Prop}{id b c:Nat}
  (h1:S.g id=some (.arr 4 [yg sg (vV o b (st.aC.map au)) (vV o c (st.fo.map au))])) (h2:S.g b=vB o 1 (st.aC.map au)) (h3:S.g c=vB o 1 (st.fo.map au))
  (hd:id≠b∧id≠c∧b≠c) (hl:id < S.n∧b < S.n∧c < S.n) (hk:K r (DU sg st' id b c S)):aQ P f (.ptr id 0 0::Ka) S K:=
 Ai.P6u h ha hr h1 (fun _=>by rw[h2];exact pO (kX _)) (fun _=>by rw[h3];exact pO (kX _)) hd hl hk
mutual
def Oj:iT→Prop
 | .mk _ s g ks=>Len s∧g.length≤17592186043904∧Len ks∧Dk ks
def Dk:List iT→Prop
 | []=>True
 | p::ps=>Oj p∧Dk ps
end
theorem Dk.mem:∀{ks:List iT},Dk ks→∀q∈ks,Oj q
 | [],_,q,h=>by simp at h
 | p::ps,h,q,hq=>by
  simp only[Dk] at h;rcases List.mem_cons.mp hq with rfl | hq
  ·exact h.1
  ·exact Dk.mem h.2 q hq
inductive xD where
 | mk (kind:Int) (name:ByteArray) (low high:Int) (kids:List xD)
def xD.kids:xD→List xD | .mk _ _ _ _ ks=>ks
def ZrK(s:ByteArray):Prop:=s.size≤140737488351232
mutual
def Oi:xD→Prop
 | .mk _ s _ _ ks=>ZrK s∧Len ks∧Dp ks
def Dp:List xD→Prop
 | []=>True
 | p::ps=>Oi p∧Dp ps
end
theorem Dp.mem:∀{ks:List xD},Dp ks→∀q∈ks,Oi q
 | [],_,q,h=>by simp at h
 | p::ps,h,q,hq=>by
  simp only[Dp] at h;rcases List.mem_cons.mp hq with rfl | hq
  ·exact h.1
  ·exact Dp.mem h.2 q hq
def without(x:Bk)(i:Int):Bk:=if 0≤i∧i < x.rules.length then { x with rules:=x.rules.take i.toNat++x.rules.drop (i.toNat+1) } else x
theorem kI.look{P:Program}{f:FuncId}{args args':List AV}{r:AV}{S:St}{F:List Nat}(h:aM P f args' r)(hz:iN (only F S.g) args args')(hr:uH r):kI P f args S F r:=⟨args',h,hz.1,hz.2,.inl hr⟩
theorem uD.ok{st:Gs}(h:uD st):ZrX st:=⟨h.len,fun r hr=>(h.rows r hr).1⟩
def vZ(n:Int):Prop:=IntKind.i64.min≤n∧n≤IntKind.i64.max
def JZ(P:Program)(t:TypeId):Bool:=(match P.underlying t with | some (.int .i64)=>true | _=>false) && Nat.beq (P.cellsOf t) 1
def Vw(P:Program)(t:TypeId):Bool:=(match P.underlying t with | some .bool=>true | _=>false) && Nat.beq (P.cellsOf t) 1
def DW(P:Program)(t e:TypeId):Bool:=(match P.underlying t with | some (.slice e')=>Nat.beq e' e | _=>false) && (Nat.beq (P.cellsOf t) 1 && (decide (0 < P.cellsOf e) && decide (0 < P.bytesOf e)))
def wz(P:Program):Nat→List Field→List TypeId→Bool
 | _,[],[]=>true
 | o,f::fs,t::ts=>Nat.beq f.offset o && (Nat.beq f.type t && wz P (o+P.cellsOf t) fs ts)
 | _,_,_=>false
def J2(P:Program)(t:TypeId)(ts:List TypeId):Bool:=match P.underlying t with
 | some (.struct fs)=>wz P 0 fs.toList ts && Nat.beq (P.cellsOf t) ((fs.toList.map fun f=>P.cellsOf f.type).sum)
 | _=>false
section
variable{P:Program}
theorem Zit{t:TypeId}(h:JZ P t=true)(n:Nat):iP P n t ak vZ:=by
 simp only[JZ,Bool.and_eq_true] at h;obtain⟨h1,h2⟩:=h;split at h1
 ·rename_i hu;exact iP.int hu (Nat.eq_of_beq_eq_true h2) n
 ·cases h1
theorem Zno{t:TypeId}(h:Vw P t=true)(n:Nat):iP P n t aG (fun _=>True):=by
 simp only[Vw,Bool.and_eq_true] at h;obtain⟨h1,h2⟩:=h;split at h1
 ·rename_i hu;exact iP.bool hu (Nat.eq_of_beq_eq_true h2) n
 ·cases h1
theorem Uo{X:Type}{enc:X→AV}{good:X→Prop}{t e:TypeId}(h:DW P t e=true)(he:∀n,iP P n e enc good):∀n,iP P n t (fun l:List X=>.sl false (l.map enc)) (fun l=>Len l∧∀x∈l,good x):=by
 simp only[DW,Bool.and_eq_true,decide_eq_true_eq] at h;obtain⟨h1,h2,h3,h4⟩:=h;have hc:=Nat.eq_of_beq_eq_true h2;intro n;cases n with
 | zero=>exact .zero (fun _ _=>by simp[AV.cells,hc]) (fun _ _=>by simp[AV.cells,AV.atom])
 | succ n=>
  split at h1
  ·rename_i e' hu
   have:=Nat.eq_of_beq_eq_true h1;subst this;exact iP.slice hu hc h3 h4 (he n)
  ·cases h1
def ZrY{X:Type}(l:List X):Prop:=l.length≤17592186043904
theorem Zl1{n o:Nat}(fs:List Field)(h:wz P o fs []=true):wX P n o fs (fun _:Unit=>[]) (fun _=>True):=by
 cases fs with
 | nil=>exact wX.nil
 | cons f fs=>simp[wz] at h
theorem Te{n o:Nat}{t:TypeId}{ts:List TypeId}{X Y:Type}{e1:X→AV}{g1:X→Prop}{e2:Y→List AV}{g2:Y→Prop}(h1:iP P n t e1 g1)(h2:∀fs,wz P (o+P.cellsOf t) fs ts=true→wX P n (o+P.cellsOf t) fs e2 g2)
  (fs:List Field) (h:wz P o fs (t::ts)=true):wX P n o fs (fun p:X×Y=>(e1 p.1).cells++e2 p.2) (fun p=>g1 p.1∧g2 p.2):=by
 cases fs with
 | nil=>simp[wz] at h
 | cons f fs=>
  simp only[wz,Bool.and_eq_true] at h;obtain⟨a,b,c⟩:=h;have hb:=Nat.eq_of_beq_eq_true b;subst hb;exact wX.cons (Nat.eq_of_beq_eq_true a) h1 (h2 fs c)
theorem Znq{t:TypeId}{ts:List TypeId}{n:Nat}{X:Type}{enc:X→List AV}{good:X→Prop}(h:J2 P t ts=true)(hR:∀fs,wz P 0 fs ts=true→wX P n 0 fs enc good):iP P (n+1) t (fun x=>.agg (enc x)) good:=by
 unfold J2 at h;split at h
 ·rename_i fs hu
  simp only[Bool.and_eq_true] at h;exact iP.struct hu (Nat.eq_of_beq_eq_true h.2) (hR _ h.1)
 ·cases h
theorem Zho{t:TypeId}{ts:List TypeId}(h:J2 P t ts=true):P.cellsOf t=(ts.map fun t=>P.cellsOf t).sum:=by
 unfold J2 at h;split at h
 ·rename_i fs hu
  simp only[Bool.and_eq_true] at h;rw[Nat.eq_of_beq_eq_true h.2]
  have key:∀(o:Nat) (l:List Field) (ts:List TypeId),wz P o l ts=true→l.map (fun f=>P.cellsOf f.type)=ts.map fun t=>P.cellsOf t:=by
   intro o l;induction l generalizing o with
   | nil=>intro ts h;cases ts with
    | nil=>rfl
    | cons t ts=>simp[wz] at h
   | cons f l ih=>intro ts h;cases ts with
    | nil=>simp[wz] at h
    | cons t ts=>
     simp only[wz,Bool.and_eq_true] at h;rw[List.map_cons,List.map_cons,ih _ _ h.2.2,Nat.eq_of_beq_eq_true h.2.1]
  rw[key _ _ _ h.1]
 ·cases h
theorem Zpp{t:TypeId}(h:JZ P t=true):P.cellsOf t=1:=by simp only[JZ,Bool.and_eq_true] at h;exact Nat.eq_of_beq_eq_true h.2
theorem Zmi{t e:TypeId}(h:DW P t e=true):P.cellsOf t=1:=by simp only[DW,Bool.and_eq_true] at h;exact Nat.eq_of_beq_eq_true h.2.1
def ZpH(r:Rg):Prop:=vZ r.low∧vZ r.high
mutual
def KN:iT→Prop
 | .mk k s g ks=>vZ k∧(Len s∧∀r∈s,ZpH r)∧(ZrY g∧∀x∈g,vZ x)∧Len ks∧D9 ks
def D9:List iT→Prop
 | []=>True
 | p::ps=>KN p∧D9 ps
end
mutual
def JX:xD→Prop
 | .mk k s a b ks=>vZ k∧ZrK s∧vZ a∧vZ b∧Len ks∧D8 ks
def D8:List xD→Prop
 | []=>True
 | p::ps=>JX p∧D8 ps
end
end
mutual
theorem KN.good:∀{p:iT},KN p→Oj p
 | .mk k s g ks,h=>by simp only[KN] at h;simp only[Oj];exact⟨h.2.1.1,h.2.2.1.1,h.2.2.2.1,D9.good h.2.2.2.2⟩
theorem D9.good:∀{ks:List iT},D9 ks→Dk ks
 | [],_=>trivial
 | p::ps,h=>by simp only[D9] at h;exact⟨KN.good h.1,D9.good h.2⟩
end
mutual
theorem JX.good:∀{p:xD},JX p→Oi p
 | .mk k s a b ks,h=>by simp only[JX] at h;simp only[Oi];exact⟨h.2.1,h.2.2.2.2.1,D8.good h.2.2.2.2.2⟩
theorem D8.good:∀{ks:List xD},D8 ks→Dp ks
 | [],_=>trivial
 | p::ps,h=>by simp only[D8] at h;exact⟨JX.good h.1,D8.good h.2⟩
end
theorem iP.arr{P:Program}{t e:TypeId}{n fuel:Nat}{X:Type}{enc:X→AV}{good:X→Prop}(ht:P.underlying t=some (.array n e))(hc:P.cellsOf t=n)(he:P.cellsOf e=1)(hat:∀x,(enc x).atom=true)(h:iP P fuel e enc good) :
  iP P (fuel+1) t (fun l:List X=>.agg (l.map enc)) (fun l=>l.length=n∧∀x∈l,good x):=by
 refine⟨fun x hx=>by simp[AV.cells,hc,hx.1],fun x hx y hy=>?_,fun eh w cs r hr hw=>?_⟩
 ·simp only[AV.cells] at hy
  obtain⟨z,_,rfl⟩:=List.mem_map.mp hy;exact hat z
 ·unfold DataW.trod at hr
  rw[ht] at hr
  have hr':(if cs.length=P.cellsOf t then ((List.range n).mapM fun i=>DataW.trod eh P w 0 (fun _=>true) true fuel e ((cs.drop (i*P.cellsOf e)).take (P.cellsOf e))).map fun xs=>(DataW.agg (xs.map (·.1)),xs.flatMap (·.2)) else none)=some r:=by
   revert hr;split<;>simp_all
  clear hr;split at hr'
  ·rename_i hlen
   simp only[Option.map_eq_some_iff] at hr';obtain⟨ds,hds,hr2⟩:=hr';obtain⟨hdl,hget⟩:=y8 hds;rw[List.length_range] at hdl
   have hw2:∀i (hi:i < ds.length),Dn P e (ds[i]).1:=by
    intro i hi k hk;refine hw k ?_;rw[←hr2];simp only[DataW.weights,ht]
    have key:∀(l:List (DataW _×List MemPlace)),ds[i]∈l→k∈DataW.weightsAll P e (l.map (·.1)):=by
     intro l hl;induction l with
     | nil=>simp at hl
     | cons d l ih=>
      simp only[List.map_cons,DataW.weightsAll,List.mem_append];rcases List.mem_cons.mp hl with rfl | hl
      ·exact .inl hk
      ·exact .inr (ih hl)
    exact key ds (List.getElem_mem hi)
   obtain⟨l,hll,hq⟩:=RU (X:=X) (Q:=fun i x=>good x∧∃v,cs[i]? = some v∧aK (E0 w) (enc x) v) n (by
    intro i hi;obtain⟨j,h1,h2⟩:=hget i (by omega);rw[List.getElem?_range hi] at h1;cases h1;obtain⟨x,g1,g2,g3⟩:=h.run eh w _ _ h2 (hw2 i (by omega));have hcx:=AV.CB (hat x);obtain⟨v,g4,g5⟩:=g3 0 (by rw[hcx];simp);refine⟨x,g1,v,?_,?_⟩
    ·rw[he,List.getElem?_take,if_pos (by omega),List.getElem?_drop] at g4
     simpa using g4
    ·simpa[hcx] using g5)
   refine⟨l,⟨hll,fun x hx=>?_⟩,hlen,fun k hk=>?_⟩
   ·obtain⟨i,hi,rfl⟩:=List.mem_iff_getElem.mp hx
    exact(hq i hi).1
   ·have hk':k < l.length:=by simpa[AV.cells] using hk
    obtain⟨_,v,g1,g2⟩:=hq k hk';exact⟨v,g1,by simpa[AV.cells] using g2⟩
  ·cases hr'
structure Qb where
 i:TypeId
 b:TypeId
 is:TypeId
 PL:TypeId
 bs:TypeId
 d:TypeId
def Ae(P:Program)(T:Qb):Bool:=JZ P T.i && Vw P T.b && DW P T.is T.i && DW P T.PL T.is && DW P T.bs T.b && J2 P T.d [T.i,T.PL,T.bs]
def O5(l:List Int):Prop:=Len l∧∀x∈l,vZ x
def ZrP(l:List (List Int)):Prop:=Len l∧∀x∈l,O5 x
def gBs(l:List Bool):Prop:=Len l∧∀x∈l,True
def GA(d:aB):Prop:=vZ d.signs∧ZrP d.next∧gBs d.fin
theorem GA.ok{d:aB}(h:GA d):lU d:=
 ⟨h.2.1.1,h.2.2.1,fun r hr=>(h.2.1.2 r hr).1,by have:=h.1;simp[vZ,IntKind.min,IntKind.max] at this;first | exact this | (simp[IntKind.bits] at this;omega)⟩
section
variable{P:Program}{T:Qb}
theorem Zmq(h:Ae P T=true):∀n,iP P n T.is au O5:=by
 simp only[Ae,Bool.and_eq_true] at h;obtain⟨⟨⟨⟨⟨hi,hb⟩,his⟩,Ky⟩,hbs⟩,hd⟩:=h;exact Uo his (Zit hi)
theorem Zny(h:Ae P T=true):∀n,iP P n T.PL aN ZrP:=by
 have h':=Zmq h;simp only[Ae,Bool.and_eq_true] at h;obtain⟨⟨⟨⟨⟨hi,hb⟩,his⟩,Ky⟩,hbs⟩,hd⟩:=h;exact Uo Ky h'
theorem Zpx(h:Ae P T=true):∀n,iP P n T.bs bA gBs:=by
 simp only[Ae,Bool.and_eq_true] at h;obtain⟨⟨⟨⟨⟨hi,hb⟩,his⟩,Ky⟩,hbs⟩,hd⟩:=h;exact Uo hbs (Zno hb)
theorem Znx(h:Ae P T=true):∀n,iP P n T.d aH GA:=by
 have h1:=Zny h;have h2:=Zpx h;simp only[Ae,Bool.and_eq_true] at h;obtain⟨⟨⟨⟨⟨hi,hb⟩,his⟩,Ky⟩,hbs⟩,hd⟩:=h;intro n;cases n with
 | zero=>exact .zero (fun x _=>by rw[Zho hd];simp[aH,AV.cells,Zpp hi,Zmi Ky,Zmi hbs]) (fun x _ y hy=>by simp[aH,AV.cells] at hy;rcases hy with rfl | rfl | rfl<;>rfl)
 | succ n=>
  have hD:=Znq (n:=n) hd (Te (Zit hi n) (Te (h1 n) (Te (h2 n) Zl1)))
  exact hD.map aH GA (fun p=>⟨p.1,p.2.1,p.2.2.1⟩) (fun d=>(d.signs,d.next,d.fin,())) (fun x=>by simp[aH,ak,aN,bA,AV.cells]) (fun x hx=>⟨hx.1,hx.2.1,hx.2.2.1⟩)
   (fun y hy=>⟨⟨hy.1,hy.2.1,hy.2.2,trivial⟩,by simp[aH,ak,aN,bA,AV.cells]⟩)
end
end Go.Rf
namespace Go.Rf
open Go.RowKit
attribute [local simp] jv jk jX jO jG jY jP jI kF jW jN bZ gL eu fq gH d9 fI gI gy eT gD eB fO gG fM dG dJ dZ eX iq iw fG iy fC fB fu dD gT gU gV fJ fK iC gJ fU gZ gW gY gX ig iD fZ iA fP fQ gM iB dh dF fD gu iE ex aj fA cO dO bJ bO aD bE dX eU dn gP gQ gN gK fV bI cZ dw eD eF fF dN bY bM dz bX dP dA dH eO eG eH dY bW dQ cK cB aY AV.solid S0 ak aG
def Uc(EH:FuncId):AC:= (.block 2 (.loop (sq [ro 36 (.bin .lss (.t 35) (.t 34))] (.seq (.cond (.t 36) .skip (.exit 2)) (.seq (.block 3 (sq [rm 37 35,rm 8 37] (.kL [rm 38 7,rm 39 8,rm 40 0,rm 41 1,rm 42 0,ro 43 (.fH (.t 42)),rF 44 6 43,rL 45 44,rm 46 6,ro 47 (.aI 1 (.t 45) (.t 46)),rL 48 47,rm 49 8,⟨(some 50),.mv (.c .junk),none,(some ((.t 41),[(.t 48),(.t 49)]))⟩,rk 51 EH [(.t 40),(.t 50)],ro 52 (.aI 1 (.t 38) (.t 39)),rn (.store 1 (.t 52) (.t 51))] none))) (.reg none [ro 53 (.bin .add (.t 35) (ci 1)),rm 35 53]))))))
def SN(Ct:FuncId):AC:= (.reg (some [[],[],[],[],[],[true],[false,true],[false,false,true],[false,false,false,true],[false,false,false,false,true],[false,false,false,false,false,true],[false,false,false,false,false,false,true],[false,false,false,false,false,false,false,true],[false,false,false,false,false,false,false,false,true],[false,false,false,false,false,false,false,false,false,true],[],[],[],[true]]) [rF 54 1 5,rL 55 54,rm 56 7,ro 57 (.bS 1 1 (.sl true []) [(0,(.t 56))]),ro 58 (.app 1 24 (.t 55) (.t 57)),rF 59 2 5,rL 60 59,rm 61 0,rm 62 0,ro 63 (.fH (.t 62)),rF 64 6 63,rL 65 64,rm 66 6,ro 67 (.aI 1 (.t 65) (.t 66)),rL 68 67,rk 69 Ct [(.t 61),(.t 68)],ro 70 (.bS 1 1 (.v (.bool false)) [(0,(.t 69))]),ro 71 (.app 1 1 (.t 60) (.t 70)),rF 72 1 5,rn (.store 1 (.t 72) (.t 58)),rF 73 2 5,rn (.store 1 (.t 73) (.t 71))])
def TH(EH Ct:FuncId):AC:= (.block 0 (.loop (.seq (sq [rm 18 6,rm 19 0,ro 20 (.fH (.t 19)),rF 21 6 20,rL 22 21,ro 23 (.len (.t 22)),ro 24 (.bin .lss (.t 18) (.t 23))] (.cond (.t 24) .skip (.exit 0))) (.seq (.block 1 (sq [rm 27 0,ro 28 (.fH (.t 27)),rF 29 0 28,rF 30 0 29,rL 31 30,ro 32 (.um 1 8 (.v (.int .i64 0)) (.t 31) (.t 31)),rm 7 32] (.seq (sq [rm 33 7,ro 34 (.len (.t 33)),ro 35 (.mv (ci 0))] (Uc EH)) (SN Ct)))) (.reg none [rm 25 6,ro 26 (.bin .add (.t 25) (ci 1)),rm 6 26])))))
def IX(EH Ct:FuncId):AC:= (sq [ro 4 (.alloc (.agg [(.v (.int .i64 0)),(.sl true []),(.sl true [])]) 3)] (sq [rm 9 0,ro 10 (.fH (.t 9)),rF 11 0 10,rF 12 0 11,rL 13 12,ro 14 (.build (.agg [(.v (.int .i64 0)),(.sl true []),(.sl true [])]) [(0,1)] [(0,(.t 13))]),ro 5 (.alloc (.agg [(.v (.int .i64 0)),(.sl true []),(.sl true [])]) 3),rn (.store 3 (.t 5) (.t 14))] (.seq (.kL [rm 15 0,ro 16 (.bS 1 1 (.v (.int .i64 0)) [(0,(ci 0))]),rk 17 EH [(.t 15),(.t 16)]] none) (.seq (sq [ro 6 (.mv (ci 0))] (TH EH Ct)) (sq [ro 74 (.load (some 3) (.t 5)),rn (.store 3 (.t 4) (.t 74))] .ret)))))
def Hy(fT:TypeId):Value:=.iface fT (.agg #[])
def Gu(P:Program)(rT fT:FuncId)(n:Net):Prop:=∀(id km:Nat) (most:Int) (ss:List (List Int)) (v:AV) (set:List Int) (S:St) (K:AV→St→Prop) (X:Value→St→Prop),uS S id km n most ss v→Val n set→BR n most ss→most≤3000→
 (set∈ss→∀m,S.n≤m→K (ak (ss.idxOf set)) ⟨m,S.g⟩)→
 (set∉ss→(ss.length:Int) < most→∀S' v',uS S' id km n most (ss++[set]) v'→Qf S S' (id::km::v.ids)→(∀i∈v'.ids,S.n≤i)→K (ak ss.length) S')→
 (set∉ss→(ss.length:Int)=most→∀m,S.n≤m→X (Hy fT) ⟨m,S.g⟩)→lH P rT [.ptr id 0 0,au set] S K X
def Old(bf S:St)(id km:Nat):Prop:=bf.n≤S.n∧∀i,i < bf.n→i≠id→i≠km→S.g i=bf.g i
def Oy(P:Program)(cf:FuncId)(cap:List AV)(bf:St)(id km:Nat)(n:Net)(most:Int)(kd:Kd):Prop:=∀(S:St) (ss:List (List Int)) (v:AV) (set:List Int) (s:Int) (K:AV→St→Prop),uS S id km n most ss v→Old bf S id km→Val n set→
 (∀m,S.n≤m→K (au (kN kd n set s)) ⟨m,S.g⟩)→aQ P cf ([au set,ak s]++cap) S K
structure Co(f:AF)(id b4 b5 q L i:Nat)(aO:AV):Prop where
 e0:f 0=.ptr id 0 0
 e1:f 1=aO
 e4:f 4=.ptr b4 0 0
 e5:f 5=.ptr b5 0 0
 e6:f 6=ak i
 e7:f 7=.own q 0 L
theorem Co.same{f f':AF}{id b4 b5 q L i:Nat}{aO:AV}(h:Co f id b4 b5 q L i aO)(hf:∀j,j=0∨j=1∨j=4∨j=5∨j=6∨j=7→f' j=f j):Co f' id b4 b5 q L i aO:=
 ⟨by rw[hf _ (by simp)];exact h.e0,by rw[hf _ (by simp)];exact h.e1,by rw[hf _ (by simp)];exact h.e4,by rw[hf _ (by simp)];exact h.e5,by rw[hf _ (by simp)];exact h.e6,by rw[hf _ (by simp)];exact h.e7⟩
structure DaI(bf:St)(id km b4 b5 q i L:Nat)(n:Net)(most:Int)(b:Int→List Int)(qp nx:List (List Int))(en:List Bool)(vN vE:AV)(rs:List AV)(aO:AV)(k:Nat)(f:AF)(S:St)(ss:List (List Int))(r:List Int)(v:AV):Prop where
 rf:uf most b k qp=some (ss,r)
 A:kP S bf id km b4 b5 n most ss nx en v vN vE rs [.own q 0 L] [r.map ak++List.replicate (L - k) (ak 0)]
 I:Co f id b4 b5 q L i aO
 e34:f 34=ak L
 e35:f 35=ak k
 pre:∀j (h:j < qp.length),ss[j]? = some qp[j]
def DaE(bf:St)(id km b4 b5 q i L:Nat)(n:Net)(most:Int)(b:Int→List Int)(qp nx:List (List Int))(en:List Bool)(vN vE:AV)(rs:List AV)(aO:AV)(k:Nat)(f:AF)(S:St):Prop:=
 ∃ss r v,DaI bf id km b4 b5 q i L n most b qp nx en vN vE rs aO k f S ss r v
theorem Zla{P:Program}{rT fT cf:FuncId}{cap:List AV}{bf:St}{id km b4 b5 q i:Nat}{n:Net}{most:Int}{kd:Kd}{qp nx:List (List Int)}{en:List Bool}{vN vE:AV}{rs:List AV}{v0:AV}{set:List Int}
  (R:pI n) (zG:Gu P rT fT n) (Em:Oy P cf cap bf id km n most kd) (Ch:most≤3000) {L:Nat} (hLe:n.signs.toNat=L) (hss:BR n most qp) (hset:qp[i]? = some set) {f:AF} {S:St} {Q:Exit→AF→St→Prop}
  (A:kP S bf id km b4 b5 n most qp nx en v0 vN vE rs [.own q 0 L] [List.replicate L (ak 0)]) (I:Co f id b4 b5 q L i (.aO cf [] cap)) (e34:f 34=ak L) (e35:f 35=ak 0)
  (hk:∀f' S' ss' r v',uf most (kN kd n set) L qp=some (ss',r)→kP S' bf id km b4 b5 n most ss' nx en v' vN vE rs [.own q 0 L] [r.map ak]→Co f' id b4 b5 q L i (.aO cf [] cap)→(∀j (h:j < qp.length),ss'[j]? = some qp[j])→Q .normal f' S')
  (hp:uf most (kN kd n set) L qp=none→∀f' S',Old bf S' id km→Q (pn (Hy fT)) f' S'):AW P (Uc rT) Q f S:=by
 obtain⟨hil,hse⟩:=List.getElem?_eq_some_iff.mp hset;have hL4:L≤400:=by have:=R.s2;omega
 have hvs:Val n set:=hss.v set (by rw[←hse];exact List.getElem_mem hil);simp[Uc];refine z8 L (DaE bf id km b4 b5 q i L n most (kN kd n set) qp nx en vN vE rs (.aO cf [] cap)) ?_ ?_
 ·exact⟨qp,[],v0,rfl,by simpa using A,I,e34,e35,fun j hj=>List.getElem?_eq_getElem hj⟩
 ·rintro k f S hk' ⟨ss,r,v,D⟩
  obtain⟨hok,hle,hrl⟩:=Nb (n:=n) (fun s=>Nh R hvs s) hss k D.rf;simp only at hok hle hrl;have e0:=D.I.e0;have e1:=D.I.e1;have e6:=D.I.e6;have e7:=D.I.e7;have e34:=D.e34;have e35:=D.e35;have Ci:=D.A.mg;by_cases hlt:k < L
  ·
   have hpi:=D.pre i hil;rw[hse] at hpi;obtain⟨G8,zH,_⟩:=D.A.rows.head
   have hown:∃qO off ys,v=.own qO off ss.length∧S.g qO=some (.arr 1 ys)∧off+ss.length≤ys.length∧ys[off+i]? = some (au set):=by
    rcases G8 with⟨_,h0⟩ | ⟨qO,off,ys,h1,h2,h3,h4⟩
    ·simp at h0;subst h0;simp at hpi
    ·refine⟨qO,off,ys,by rw[h1];simp,h2,?_,?_⟩
     ·have:=congrArg List.length h4
      simp at this;omega
     ·have:(ys.drop off)[i]? = some (au set):=by rw[h4,List.getElem?_map,hpi];rfl
      simpa using this
   obtain⟨qO,off,ys,hv,hgv,hol,hyi⟩:=hown;have hi2:i < ss.length:=by omega
   have hilt:(i:Int) < ss.length:=by omega
   subst hv;have hce:(au set).cells=[au set]:=rfl;have A:=D.A;simp[za,su,sj,zT,zP,e0,e1,e6,e7,e34,e35,hlt,Ci,jR,hgv,hilt,hol,hyi,hce];refine lH.Ew (Em _ ss _ set k _ (A.up (m:=S.n+1+2+16) (by omega)).mk' ⟨by have:=A.jg;show bf.n≤S.n+1+2+16;omega,A.old⟩ hvs fun m hm=>?_);simp[zT,zP,wO];have hvb:=Nh (kd:=kd) R hvs (k:Int)
   have hzk:∃zs,zs=r.map ak++List.replicate (L - k) (ak 0)∧zs.length=L∧zs[k]? = some (ak 0)∧∀j:Int,zs.set k (ak j)=(r++[j]).map ak++List.replicate (L - (k+1)) (ak 0):=by
    refine⟨_,rfl,by simp[hrl];omega,?_,fun j=>?_⟩
    ·rw[List.getElem?_append_right (by simp[hrl]),List.length_map,hrl,Nat.sub_self,List.getElem?_replicate,if_pos (by omega)]
    ·rw[List.set_append_right _ _ (by simp[hrl]),List.length_map,hrl,Nat.sub_self,show L - k=(L - (k+1))+1 by omega,List.replicate_succ,List.set_cons_zero]
     simp
   obtain⟨zs,hz1,hz2,hz3,hz4⟩:=hzk;have Pj:(k:Int) < L:=by omega
   have G9:(ak 0)=.v (.int .i64 0):=rfl;rw[G9] at hz3;have ab7:yF most ss (kN kd n set k)=none→uf most (kN kd n set) (k+1) qp=none:=fun h=>by simp only[uf,D.rf,h]
   have aal:∀s2 j,yF most ss (kN kd n set k)=some (s2,j)→uf most (kN kd n set) (k+1) qp=some (s2,r++[j]):=fun s2 j h=>by simp only[uf,D.rf,h]
   have A0:=A;rw[←hz1] at A0;refine zG id km most ss _ (kN kd n set k) ⟨m,S.g⟩ _ _ (A.up (m:=m) (by simp only at hm;omega)).mk' hvb hok Ch (fun hin m2 hm2=>?_) (fun hin hlt2 S' v' M' F' hv'=>?_) (fun hin hfull m2 hm2=>?_)
   ·have hnf:yF most ss (kN kd n set k)=some (ss,(ss.idxOf (kN kd n set k):Int)):=by unfold yF;rw[if_pos hin]
    have A2:=A0.up (m:=m2) (by simp only at hm hm2;omega);obtain⟨g7,_,Cj⟩:=A2.b7
    try simp only at g7
    simp[xR,su,sj,wO,g7,Pj,hz2,hz3,e35];rw[aZ _ (by omega)];refine⟨hlt,ss,r++[(ss.idxOf (kN kd n set k):Int)],(.own qO off ss.length),⟨aal _ _ hnf,?_,?_,?_,?_,?_⟩⟩
    ·have A3:=A2.put (zs':=zs.set k (ak (ss.idxOf (kN kd n set k):Int))) (by simp) (Nat.le_refl _)
     rw[←hz4];refine A3.up ?_;simp[bE]
    ·refine D.I.same fun j hj=>?_
     rcases hj with rfl | rfl | rfl | rfl | rfl | rfl<;>simp[aj]
    ·simp[aj,e34,ak]
    ·simp[aj,ak]
    ·first
      | exact D.pre
      | exact fun j hj=>(List.getElem?_append_left (List.getElem?_eq_some_iff.mp (D.pre j hj)).1).trans (D.pre j hj)
   ·have hnf:yF most ss (kN kd n set k)=some (ss++[kN kd n set k],(ss.length:Int)):=by unfold yF;rw[if_neg hin,if_neg (by omega)]
    have A2:=(A0.up (m:=m) (by simp only at hm;omega)).num M' F' hv';obtain⟨g7,_,Cj⟩:=A2.b7
    try simp only at g7
    simp[xR,su,sj,wO,g7,Pj,hz2,hz3,e35];rw[aZ _ (by omega)];refine⟨hlt,(ss++[kN kd n set k]),r++[(ss.length:Int)],v',⟨aal _ _ hnf,?_,?_,?_,?_,?_⟩⟩
    ·have A3:=A2.put (zs':=zs.set k (ak (ss.length:Int))) (by simp) (Nat.le_refl _)
     rw[←hz4];refine A3.up ?_;simp[bE]
    ·refine D.I.same fun j hj=>?_
     rcases hj with rfl | rfl | rfl | rfl | rfl | rfl<;>simp[aj]
    ·simp[aj,e34,ak]
    ·simp[aj,ak]
    ·first
      | exact D.pre
      | exact fun j hj=>(List.getElem?_append_left (List.getElem?_eq_some_iff.mp (D.pre j hj)).1).trans (D.pre j hj)
   ·have hnf:yF most ss (kN kd n set k)=none:=by unfold yF;rw[if_neg hin,if_pos hfull]
    rw[ZjF,Mv,Bt,Bt,Mv];refine hp (Zu (ab7 hnf) L (by omega)) _ _ ⟨by have:=A.jg;show bf.n≤m2;simp only at hm hm2;omega,A.old⟩
  ·have Pj:k=L:=by omega
   subst Pj;have hnlt:¬((k:Int) < k):=by omega
   simp[e34,e35,hnlt];refine hk _ _ ss r v D.rf (by simpa using D.A.up (m:=S.n+1) (by omega)) (D.I.same fun j hj=>?_) D.pre;rcases hj with rfl | rfl | rfl | rfl | rfl | rfl<;>simp[aj]
theorem Zhr{P:Program}{fe:FuncId}{bf:St}{id km b4 b5 q i L:Nat}{n:Net}{most:Int}{ss nx:List (List Int)}{en:List Bool}{v vN vE aO:AV}{rs:List AV}{r set:List Int}(Ch:most≤3000)(hss:BR n most ss)(hset:ss[i]? = some set)
  (hend:aM P fe [lI n,au set] (aG (qg n set))) {f:AF} {S:St} {Q:Exit→AF→St→Prop} (hnx:nx.length=i) (hen:en.length=i)
  (A:kP S bf id km b4 b5 n most ss nx en v vN vE rs [.own q 0 L] [r.map ak]) (I:Co f id b4 b5 q L i aO)
  (hk:∀f' S' WJ WI,kP S' bf id km b4 b5 n most ss (nx++[r]) (en++[qg n set]) v WJ WI (rs++[.own q 0 L]) [] []→(∀j,j≤6→f' j=f j)→Q .normal f' S'):AW P (SN fe) Q f S:=by
 obtain⟨hil,hse⟩:=List.getElem?_eq_some_iff.mp hset;obtain⟨G8,zH,hvs,hr1⟩:=A.rows.head;obtain⟨hN,O7,hNs,hr2⟩:=hr1.head;obtain⟨hE,Kl,hEs,hr3⟩:=hr2.head;have e0:=I.e0;have e5:=I.e5;have e6:=I.e6;have e7:=I.e7;have Ci:=A.mg;have hg5:=A.g5
 have hown:∃qO off ys,v=.own qO off ss.length∧S.g qO=some (.arr 1 ys)∧off+ss.length≤ys.length∧ys[off+i]? = some (au set):=by
  rcases G8 with⟨_,h0⟩ | ⟨qO,off,ys,h1,h2,h3,h4⟩
  ·simp at h0;subst h0;simp at hil
  ·refine⟨qO,off,ys,by rw[h1];simp,h2,?_,?_⟩
   ·have:=congrArg List.length h4
    simp at this;omega
   ·have:(ys.drop off)[i]? = some (au set):=by rw[h4,List.getElem?_map,hset];rfl
    simpa using this
 obtain⟨qO,off,ys,hv,hgv,hol,hyi⟩:=hown;have hilt:(i:Int) < ss.length:=by omega
 subst hv;have hce:(au set).cells=[au set]:=rfl;simp[SN,e5,e7,hg5];have hrl:rs.length=nx.length:=by have:=hr3.len;simpa[tO] using this
 have hi3:i≤3000:=by have:=hss.l;omega
 have hrc:∀z∈rs,z.cells.length=1:=by
  intro z hz;obtain⟨t,ht,rfl⟩:=List.mem_iff_getElem.mp hz;have:=hr3.row t (by simp;omega) (by simp[tO];omega);rw[List.getElem_append_left ht] at this;rcases this with⟨e,_⟩ | ⟨_,_,_,e,_⟩<;>rw[e]<;>rfl
 rw[Vec.IL (aC:=24) (hN.frame fun _ _=>rfl) hrc rfl (by unfold eY;omega)];have V8:b5∉vN.ids:=fun h=>(O7 b5 h).2 (by simp)
 have Ph:id∉vN.ids:=fun h=>(O7 id h).2 (by simp)
 have aas:qO∉vN.ids:=fun h=>hvs vN (by simp) qO (by simp[AV.ids]) h
 have Wn:=A.lid;have Pp:=A.jg;have Pk:=A.t5;have q1:b5≠S.n+4:=by omega
 have q2:id≠S.n+4:=by omega
 have abB:qO < S.n:=(zH qO (by simp[AV.ids])).1;have q3:qO≠S.n+4:=by omega
 simp[e0,e5,e6,Ci,hg5,jR,hgv,hilt,hol,hyi,hce,kC b5 V8,kC id Ph,kC qO aas,q1,q2,q3]
 have hfz:∀S':St,S'.g id=S.g id→kI P fe [.ptr id 0 0,au set] S' [id] (aG (qg n set)):=fun S' h=>by
  have hz:iN (only [id] S'.g) [.ptr id 0 0,au set] [lI n,au set]:=
   iN.cons (.pre id 7 [ak n.signs,aN n.aC,aN n.follow,au n.last] [ak most,.mp km,.own qO off ss.length] (by rw[BJ,if_pos (by simp),h];exact A.mg) (by
    intro y hy;simp only[List.mem_cons,List.not_mem_nil,or_false] at hy;rcases hy with rfl | rfl | rfl | rfl
    ·exact aX _
    ·exact jr _
    ·exact jr _
    ·exact bD _)) (iN.cons (.closed _ (bD _)) iN.nil)
  exact⟨_,hend,hz.1,hz.2,.inl (FW _)⟩
 have nN:∀j,j∈vN.ids∨j=S.n+4→¬j=b5:=by
  rintro j (h | rfl) rfl
  ·exact V8 h
  ·exact q1 rfl
 have nI:∀j,j∈vN.ids∨j=S.n+4→¬j=id:=by
  rintro j (h | rfl) rfl
  ·exact Ph h
  ·exact q2 rfl
 have nV:∀j,j∈vN.ids∨j=S.n+4→¬j=qO:=by
  rintro j (h | rfl) rfl
  ·exact aas h
  ·exact q3 rfl
 refine⟨nN,nI,nV,aG (qg n set),[id],hfz _ (by rw[aD,if_neg q2,kC id Ph]),?_⟩;simp;have k1:∀i,i∉vN.ids→i≠S.n+4→(((⟨S.n+22,S.g⟩:St).without vN).set (S.n+4) (some (.arr 1 (rs++[.own q 0 L])))).g i=S.g i:=fun i h1 h2=>by rw[aD,if_neg h2,kC i h1]
 have k2:(((⟨S.n+22,S.g⟩:St).without vN).set (S.n+4) (some (.arr 1 (rs++[.own q 0 L])))).g (S.n+4)=some (.arr 1 (rs++[.own q 0 L])):=by rw[aD,if_pos rfl]
 have k3:(((⟨S.n+22,S.g⟩:St).without vN).set (S.n+4) (some (.arr 1 (rs++[.own q 0 L])))).n=S.n+22:=by simp[bE,pY]
 generalize(((⟨S.n+22,S.g⟩:St).without vN).set (S.n+4) (some (.arr 1 (rs++[.own q 0 L]))))=S1 at *;obtain⟨n1,g1⟩:=S1;simp only at k1 k2 k3;have hEN:∀i∈vE.ids,i∉vN.ids:=fun i h1 h2=>hNs vE (by simp) i h2 h1
 have hEl:∀i∈vE.ids,i < S.n:=fun i hi=>(Kl i hi).1
 have hE1:Vec g1 vE 1 (en.map aG):=hE.frame fun i hi=>k1 i (hEN i hi) (by have:=hEl i hi;omega)
 have hec:∀z∈en.map aG,z.cells.length=1:=by
  intro z hz;obtain⟨b,_,rfl⟩:=List.mem_map.mp hz;rfl
 have happ:=Vec.IL (n:=n1) (aA:=S.n+17) (x:=aG (qg n set)) (aC:=1) hE1 hec rfl (by rw[List.length_map,hen];unfold eY;omega);simp only[aG] at happ;rw[happ];have aaG:b5∉vE.ids:=fun h=>(Kl b5 h).2 (by simp)
 have q5:b5≠S.n+17:=by omega
 have g15:=(k1 b5 V8 q1).trans hg5;simp[e5,g15,kC b5 aaG,q5];refine hk _ _ (.own (S.n+4) 0 (rs.length+1)) (.own (S.n+17) 0 (en.length+1)) ?_ (fun j hj=>?_)
 ·have key:∀i,i∉vN.ids→i∉vE.ids→i < S.n→i≠b5→∀b b2 b3,(((((⟨n1,g1⟩:St).without vE).set (S.n+17) b).set b5 b2).set b5 b3).g i=S.g i:=fun i h1 h2 h3 h4 b b2 b3=>by
   rw[aD,if_neg h4,aD,if_neg h4,aD,if_neg (by omega),kC i h2];exact k1 i h1 (by omega)
  have aaS:id∉vE.ids:=fun h=>(Kl id h).2 (by simp)
  have aaX:km∉vN.ids:=fun h=>(O7 km h).2 (by simp)
  have aaW:km∉vE.ids:=fun h=>(Kl km h).2 (by simp)
  have h4N:b4∉vN.ids:=fun h=>(O7 b4 h).2 (by simp)
  have h4E:b4∉vE.ids:=fun h=>(Kl b4 h).2 (by simp)
  have Wo:=A.tF;have hl5:=A.l5;have hl4:=A.l4;have Kz:=A.t4;have hn45:=A.n45;have q4E:S.n+4∉vE.ids:=fun h=>by have:=hEl _ h;omega
  have abz:=hr3;refine⟨?_,?_,?_,?_,?_,A.ne,A.lid,A.tF,A.l4,A.l5,A.n45,?_,?_,fun w hw i hi=>?_,fun i h1 h2 h3=>?_,?_⟩
  ·rw[key id Ph aaS (by omega) (by omega)];exact A.mg
  ·rw[key km aaX aaW (by omega) (by omega)];exact A.mm
  ·rw[key b4 h4N h4E Kz hn45];exact A.g4
  ·simp[aD,ak]
  ·have hr4:jJ (((((⟨n1,g1⟩:St).without vE).set (S.n+17) (some (.arr 1 (en.map aG++[.v (.bool (qg n set))])))).set b5 (some (.arr 3 [.agg [.v (.int .i64 n.signs),.own (S.n+4) 0 (rs.length+1),vE]]))).set b5 (some (.arr 3 [.agg [.v (.int .i64 n.signs),.own (S.n+4) 0 (rs.length+1),.own (S.n+17) 0 (en.length+1)]]))).g (S.n+22) [id,km,b4,b5] (rs++[.own q 0 L]) (tO nx++[r.map ak]):=by
    refine hr3.frame (by omega) (fun w hw i hi=>?_);have ho:=hr3.out w hw i hi;have ho2:=ho.2;simp only[List.mem_cons,List.not_mem_nil,or_false,not_or] at ho2;exact key i (fun h=>hNs w (by simp at hw ⊢;exact .inr hw) i h hi) (fun h=>hEs w hw i h hi) ho.1 ho2.2.2.2 _ _ _
   have hrw:tO (nx++[r])=tO nx++[r.map ak]:=by simp[tO]
   have aaQ:(en++[qg n set]).map aG=en.map aG++[.v (.bool (qg n set))]:=by simp[aG]
   rw[List.append_nil,List.append_nil,hrw,aaQ];have hnn:(((((⟨n1,g1⟩:St).without vE).set (S.n+17) (some (.arr 1 (en.map aG++[.v (.bool (qg n set))])))).set b5 (some (.arr 3 [.agg [.v (.int .i64 n.signs),.own (S.n+4) 0 (rs.length+1),vE]]))).set b5 (some (.arr 3 [.agg [.v (.int .i64 n.signs),.own (S.n+4) 0 (rs.length+1),.own (S.n+17) 0 (en.length+1)]]))).n=S.n+22:=by simp[bE,pY,k3]
   rw[hnn];refine jJ.cons ?_ (fun i hi=>?_) (fun w hw i hi hi2=>?_) (jJ.cons ?_ (fun i hi=>?_) (fun w hw i hi hi2=>?_) (jJ.cons ?_ (fun i hi=>?_) (fun w hw i hi hi2=>?_) hr4))
   ·refine G8.frame fun i hi=>?_
    have ho:=zH i hi;have ho2:=ho.2;simp only[List.mem_cons,List.not_mem_nil,or_false,not_or] at ho2;exact key i (fun h=>hvs vN (by simp) i hi h) (fun h=>hvs vE (by simp) i hi h) ho.1 ho2.2.2.2 _ _ _
   ·exact⟨by have:=(zH i hi).1;omega,(zH i hi).2⟩
   ·have hvl:=(zH i hi).1
    simp only[List.mem_cons,List.mem_append,List.not_mem_nil,or_false] at hw;rcases hw with rfl | rfl | hw
    ·simp only[AV.ids,List.mem_singleton] at hi2;omega
    ·simp only[AV.ids,List.mem_singleton] at hi2;omega
    ·exact hvs w (by simp;exact .inr (.inr hw)) i hi hi2
   ·refine .mk' ?_ (by simp)
    rw[aD,if_neg (by omega),aD,if_neg (by omega),aD,if_neg (by omega),kC _ q4E];exact k2
   ·simp only[AV.ids,List.mem_singleton] at hi
    subst hi;refine⟨by omega,?_⟩;simp only[List.mem_cons,List.not_mem_nil,or_false,not_or];omega
   ·simp only[AV.ids,List.mem_singleton] at hi
    subst hi;simp only[List.mem_cons] at hw;rcases hw with rfl | hw
    ·simp only[AV.ids,List.mem_singleton] at hi2;omega
    ·have:=(hr3.out w hw _ hi2).1;omega
   ·refine .mk' ?_ (by simp)
    rw[aD,if_neg (by omega),aD,if_neg (by omega),aD,if_pos rfl]
   ·simp only[AV.ids,List.mem_singleton] at hi
    subst hi;refine⟨by omega,?_⟩;simp only[List.mem_cons,List.not_mem_nil,or_false,not_or];omega
   ·simp only[AV.ids,List.mem_singleton] at hi
    subst hi;have:=(hr3.out w hw _ hi2).1;omega
  ·simp[bE,pY,k3];omega
  ·simp[bE,pY,k3];omega
  ·have hnew:=A.new
   simp only[List.append_nil,List.mem_cons,List.mem_append,List.not_mem_nil,or_false] at hw;rcases hw with rfl | rfl | rfl | hw | rfl
   ·exact hnew _ (by simp) i hi
   ·simp only[AV.ids,List.mem_singleton] at hi;omega
   ·simp only[AV.ids,List.mem_singleton] at hi;omega
   ·exact hnew w (by simp[hw]) i hi
   ·exact hnew _ (by simp) i hi
  ·have hnew:=A.new
   rw[key i (fun h=>by have:=hnew vN (by simp) i h;omega) (fun h=>by have:=hnew vE (by simp) i h;omega) (by omega) (by omega)];exact A.old i h1 h2 h3
  ·simp[bE,pY,k3];omega
 ·have:∀x:Nat,x≥54→j≠x:=fun x hx=>by omega
  simp[aj,this]
structure OuI(bf:St)(id km b4 b5:Nat)(n:Net)(most:Int)(kd:Kd)(aO:AV)(i:Nat)(f:AF)(S:St)(st:rZ)(v vN vE:AV)(rs:List AV):Prop where
 eq:qM kd n most i=some st
 A:kP S bf id km b4 b5 n most st.1 st.2.1 st.2.2 v vN vE rs [] []
 e0:f 0=.ptr id 0 0
 e1:f 1=aO
 e4:f 4=.ptr b4 0 0
 e5:f 5=.ptr b5 0 0
 e6:f 6=ak i
 min:∀m,m < i→∀lG,qM kd n most m=some lG→m≠lG.1.length
def WL(bf:St)(id km b4 b5:Nat)(n:Net)(most:Int)(kd:Kd)(aO:AV)(i:Nat)(f:AF)(S:St):Prop:=∃st v vN vE rs,OuI bf id km b4 b5 n most kd aO i f S st v vN vE rs
theorem ZiB{P:Program}{rT fT cf fe:FuncId}{cap:List AV}{bf:St}{id km b4 b5:Nat}{n:Net}{most:Int}{kd:Kd}(R:pI n)(zG:Gu P rT fT n)(Em:Oy P cf cap bf id km n most kd)
  (hend:∀set,Val n set→aM P fe [lI n,au set] (aG (qg n set))) (hm1:1≤most) (Ch:most≤3000) {f:AF} {S:St} {Q:Exit→AF→St→Prop}
  (h0:WL bf id km b4 b5 n most kd (.aO cf [] cap) 0 f S)
  (hk:∀f' S' st v vN vE rs,BI kd n most=some st→kP S' bf id km b4 b5 n most st.1 st.2.1 st.2.2 v vN vE rs [] []→f' 4=.ptr b4 0 0→f' 5=.ptr b5 0 0→Q .normal f' S')
  (hp:BI kd n most=none→∀f' S',Old bf S' id km→Q (pn (Hy fT)) f' S'):AW P (TH rT fe) Q f S:=by
 simp[TH];refine z8 most.toNat (WL bf id km b4 b5 n most kd (.aO cf [] cap)) h0 ?_;rintro i f S hi ⟨st,v,vN,vE,rs,O⟩;have o:=UU R hm1 i O.eq;have e0:=O.e0;have e1:=O.e1;have e6:=O.e6;have Ci:=O.A.mg;obtain⟨G8,_⟩:=O.A.rows.head;have hlv:=G8.len;rw[List.length_map] at hlv;simp only[dA] at hlv;have hle:=o.le;have hsl:=o.ss.l;by_cases hlt:i < st.1.length
 ·have zF:(i:Int) < st.1.length:=by omega
  have hs0:(0:Int)≤n.signs:=by have:=R.s1;omega
  have hs4:n.signs≤400:=R.s2;have aaZ:8*n.signs≤281474976710656:=by omega
  have KC:n.signs≤9223372036854775807:=by omega
  obtain⟨set,hset⟩:∃set,st.1[i]? = some set:=⟨_,List.getElem?_eq_getElem hlt⟩;have hvs:Val n set:=o.ss.v set (by obtain⟨h1,h2⟩:=List.getElem?_eq_some_iff.mp hset;rw[←h2];exact List.getElem_mem h1);have G5:qM kd n most (i+1)=uo kd n most i st:=by simp only[qM,O.eq]
  simp[e0,e6,Ci,jR,hlv,hlt,yj,hs0,aaZ,KC];refine Zla (set:=set) R zG Em Ch rfl o.ss hset (kP.row O.A (by omega) (by omega) (by simp)) ⟨?_,?_,?_,?_,?_,?_⟩ ?_ ?_ (fun f1 S1 ss1 r v1 hrow A1 I1 hpre=>?_) (fun hrow f1 S1 hold=>?_)
  ·simp[aj,e0]
  ·simp[aj,e1]
  ·simp[aj,O.e4]
  ·simp[aj,O.e5]
  ·simp[aj,e6]
  ·simp[aj]
  ·simp[aj,ak]
  ·simp[aj,ak]
  ·have hsr:uo kd n most i st=some (ss1,st.2.1++[r],st.2.2++[qg n set]):=by simp only[uo,hset,hrow]
   obtain⟨hok1,_,_⟩:=Nb (n:=n) (fun s=>Nh R hvs s) o.ss _ hrow
   have abe:ss1[i]? = some set:=by
    rw[hpre i hlt,←hset,List.getElem?_eq_getElem hlt]
   simp;refine Zhr Ch hok1 abe (hend set hvs) o.nx o.en A1 I1 (fun f2 S2 WJ WI A2 hf2=>?_);have e6':f2 6=ak i:=by rw[hf2 6 (by omega)];exact I1.e6
   simp[e6'];rw[aZ _ (by omega)];refine⟨by omega,(ss1,st.2.1++[r],st.2.2++[qg n set]),v1,WJ,WI,rs++[.own _ 0 n.signs.toNat],⟨by rw[G5,hsr],A2.up (by simp),?_,?_,?_,?_,?_,?_⟩⟩
   ·simp[aj,hf2,I1.e0]
   ·simp[aj,hf2,I1.e1]
   ·simp[aj,hf2,I1.e4]
   ·simp[aj,hf2,I1.e5]
   ·simp[aj,ak]
   ·intro m hm' lG rU
    by_cases lW:m=i
    ·subst lW
     rw[O.eq] at rU;cases rU;omega
    ·exact O.min m (by omega) lG rU
  ·rw[Bt,Mv,Bt,Bt,Mv]
   refine hp ?_ _ _ hold;have hsr:uo kd n most i st=none:=by simp only[uo,hset,hrow]
   refine Zgt R (most.toNat+1) 0 rfl i (Nat.zero_le _) (by rw[G5,hsr]) (fun m _ h2 lG rU=>?_);by_cases lW:m=i
   ·subst lW
    rw[O.eq] at rU;cases rU;omega
   ·exact O.min m (by omega) lG rU
 ·have aaT:i=st.1.length:=by omega
  have zF:¬((i:Int) < st.1.length):=by omega
  simp[e0,e6,Ci,jR,hlv,hlt];refine hk _ _ st v vN vE rs ?_ (O.A.up (by omega)) (by simp[aj,O.e4]) (by simp[aj,O.e5]);exact Zj0 R hm1 (most.toNat+1) 0 rfl (by omega) i st (Nat.zero_le _) O.eq aaT (fun m _ h2=>O.min m h2)
theorem Zn3{P:Program}(yC:P.follows .mixedOrders=true){fall rT fT cf fe:FuncId}(hall:zK P fall (IX rT fe) [.c 4 (some 3)] 2){cap:List AV}{bf:St}{id km:Nat}{n:Net}{most:Int}{kd:Kd}(R:pI n)(zG:Gu P rT fT n)(Em:Oy P cf cap bf id km n most kd)
  (hend:∀set,Val n set→aM P fe [lI n,au set] (aG (qg n set))) (hm1:1≤most) (Ch:most≤3000) (M:uS bf id km n most [] (.sl true [])) {K:AV→St→Prop} {X:Value→St→Prop}
  (hK:∀st S' vN vE g,BI kd n most=some st→Old bf S' id km→(∀i k,g i=some k→S'.g i=some k∧bf.n≤i∧i < S'.n)→jo g vN (aN st.2.1)→jo g vE (bA st.2.2)→K (.agg [ak n.signs,vN,vE]) S') (hX:BI kd n most=none→∀S',Old bf S' id km→X (Hy fT) S'):lH P fall [.ptr id 0 0,.aO cf [] cap] bf K X:=by
 refine hall.CO yC rfl ?_;have Ci:=M.g;have hv0:Val n [0]:=⟨fun x hx=>by simp at hx;subst hx;have:=R.n1;have:=R.len;omega,by simp⟩;have aag:id≠bf.n:=by have:=M.lid;omega
 simp[za,su,sj,zT,zP,IX,Ci,jR,jH,jh,aag];refine lH.weak (args':=[.ptr id 0 0,au [0]]) ?_ rfl (fun j h1 h2 E v hv=>?_)
 ·have A0:kP ⟨bf.n+1+8+3,((((⟨bf.n+1+8,((⟨bf.n+1,bf.g⟩:St).set bf.n (some (.arr 3 [.agg [.v (.int .i64 0),.sl true [],.sl true []]]))).g⟩:St).set (bf.n+1+6) (some (.arr 3 [.agg [.v (.int .i64 0),.sl true [],.sl true []]]))).set (bf.n+1+6) (some (.arr 3 [.agg [.v (.int .i64 n.signs),.sl true [],.sl true []]])))).g⟩ bf id km bf.n (bf.n+1+6) n most [] [] [] (.sl true []) (.sl true []) (.sl true []) [] [] []:=by
   have Wn:=M.lid;have Wo:=M.tF;refine⟨?_,?_,?_,?_,?_,M.ne,M.lid,M.tF,Nat.le_refl _,by omega,by omega,by show bf.n < bf.n+1+8+3;omega,by show bf.n+1+6 < bf.n+1+8+3;omega,?_,fun i h1 h2 h3=>?_,by show bf.n≤bf.n+1+8+3;omega⟩
   ·rw[aD,if_neg (by omega),aD,if_neg (by omega),aD,if_neg (by omega)];exact M.g
   ·rw[aD,if_neg (by omega),aD,if_neg (by omega),aD,if_neg (by omega)];exact M.m
   ·rw[aD,if_neg (by omega),aD,if_neg (by omega),aD,if_pos rfl];rfl
   ·rw[aD,if_pos rfl];rfl
   ·refine jJ.cons .nil (by simp[AV.ids]) (by simp[AV.ids]) (jJ.cons .nil (by simp[AV.ids]) (by simp[AV.ids]) (jJ.cons .nil (by simp[AV.ids]) (by simp[AV.ids]) .nil))
   ·intro w hw i hi
    simp only[List.append_nil,List.mem_cons,List.not_mem_nil,or_false,or_self] at hw;subst hw;simp[AV.ids] at hi
   ·rw[aD,if_neg (by omega),aD,if_neg (by omega),aD,if_neg (by omega)]
  refine zG id km most [] _ [0] _ _ _ A0.mk' hv0 ⟨by simp,by simp;omega⟩ Ch (fun h=>by simp at h) (fun _ _ S1 v1 M1 F1 hv1=>?_) (fun _ h=>by simp at h;omega);have A1:=A0.num M1 F1 hv1;simp[xR,wO];refine ZiB R zG Em hend hm1 Ch ⟨([[0]],[],[]),v1,.sl true [],.sl true [],[],⟨rfl,A1.up (by simp),?_,?_,?_,?_,?_,fun m hm=>by omega⟩⟩ (fun f' S' st v vN vE rs AJ A e4 e5=>?_) (fun AJ f' S' hold=>?_)
  ·simp[aj,bJ]
  ·simp[aj,bJ,bO]
  ·simp[aj]
  ·simp[aj]
  ·simp[aj,ak]
  ·have g4:=A.g4
   have g5:=A.g5;have h45:=A.n45;simp only[oM] at g4;simp[Tk,e4,e5,g4,g5,iI,iJ,RV.ev,jD,iO];have hold:=A.old;have Pp:=A.jg;obtain⟨z1,z2⟩:=A.GR (g:=fun i=>if bf.n≤i∧i≠bf.n∧i < S'.n then S'.g i else none) (fun i h1 h2 h3=>if_pos ⟨h1,h2,h3⟩);refine hK st _ vN vE _ AJ ⟨by simp only[bE];omega,fun i h1 h2 h3=>?_⟩ (fun i k e=>?_) z1 z2
   ·rw[aD,if_neg (by omega)];exact hold i h1 h2 h3
   ·have e:(if bf.n≤i∧i≠bf.n∧i < S'.n then S'.g i else none)=some k:=e
    split at e
    ·rename_i h;exact⟨by rw[aD,if_neg h.2.1];exact e,h.1,by rw[bE];show i < S'.n+2;omega⟩
    ·cases e
  ·simp[Bt,Zi3]
   exact hX AJ _ hold
 ·match j with
  | 0=>exact hv
  | 1=>exact hv.loose
  | j+2=>simp at h1;omega
def UJ(P4C P4i:FuncId):AC:= (sq [ro 22 (.load (some 4) (.t 3)),rm 23 1,ro 24 (.Cm),ro 25 (.build (.agg [(.v (.int .i64 0)),(.sl true []),(.sl true []),(.sl true []),(.v (.int .i64 0)),(.v (.map none)),(.sl true [])]) [(0,4),(4,1),(5,1)] [(0,(.t 22)),(1,(.t 23)),(2,(.t 24))]),ro 26 (.box 7 (.t 25)),ro 8 (.alloc (.v (.pointer none)) 1),rn (.store 1 (.t 8) (.t 26))] (.seq (.kL [rL 27 8,ro 28 (.yP P4C [] [(.t 5),(.t 8)]),rk 29 P4i [(.t 27),(.t 28)],rn (.store 3 (.t 6) (.t 29)),rn (.store 1 (.t 7) (ci 0))] none) .ret))
def Ga(P4Z:FuncId):AC:= (.seq (.kL [ro 9 (.load (some 4) (.t 3)),rk 10 P4Z [(.t 9)],ro 11 (.un .not (.t 10)),rm 12 11,rg 13 12 false (.mv (.t 1)),rg 14 12 false (.bin .lss (.t 13) (ci 1)),ro 15 (.pick (.t 12) (.c (.v (.bool true))) (.t 14)),rm 16 15,rg 17 16 false (.mv (.t 1)),rg 18 16 false (.bin .gtr (.t 17) (ci 3000)),ro 19 (.pick (.t 16) (.c (.v (.bool true))) (.t 18))] none) (.cond (.t 19) (sq [ro 20 (.build (.agg [(.v (.int .i64 0)),(.sl true []),(.sl true [])]) [] []),rn (.store 3 (.t 6) (.t 20)),rn (.store 1 (.t 7) (ci 1))] .ret) .skip))
def UH:AC:= (.reg none [ro 3 (.box 4 (.t 0)),ro 5 (.box 1 (.t 2)),ro 6 (.alloc (.agg [(.v (.int .i64 0)),(.sl true []),(.sl true [])]) 3),ro 7 (.alloc (.v (.int .i64 0)) 1)])
def Dg(VT:FuncId):AC:= (sq [rm 7 2,ro 8 (.KQ VT (.agg []) (.t 7)),rm 6 8,ro 9 (.ext 0 (.t 6)),ro 10 (.ext 1 (.t 6)),ro 3 (.alloc (.agg []) 0),rn (.store 0 (.t 3) (.t 9)),rm 4 10] (sq [rm 11 4] (.cond (.t 11) (.reg none [ro 12 (.build (.agg [(.v (.int .i64 0)),(.sl true []),(.sl true [])]) [] []),rn (.store 3 (.t 0) (.t 12)),rn (.store 1 (.t 1) (ci 13))]) (sq [rm 13 2,ro 14 (.KH true (.t 13))] (.cond (.t 14) .bad .skip)))))
def I4:AC:= (sq [ro 6 (.mv (.c (.sl true [])))] (sq [rL 7 2,rL 8 3,rm 9 0,rm 10 1,⟨(some 11),.mv (.c .junk),none,(some ((.t 7),[(.t 8),(.t 9),(.t 10)]))⟩,rm 6 11] .ret))
def RP(Ij sM:FuncId):AC:= (sq [ro 6 (.mv (.c (.sl true [])))] (sq [ro 7 (.bS 1 1 (.v (.int .i64 0)) [(0,(ci 0))]),rm 8 0,rm 9 1,rm 10 2,rk 11 Ij [(.t 8),(.t 9),(.t 10)],ro 12 (.bS 1 2 (.sl true []) [(0,(.t 7)),(1,(.t 11))]),rk 13 sM [(.t 12)],rm 6 13] .ret))
def RO(Ct Ij:FuncId):AC:= (sq [ro 6 (.mv (.c (.sl true [])))] (.seq (sq [rm 7 0,rm 8 1,rk 9 Ct [(.t 7),(.t 8)]] (.cond (.t 9) (sq [rm 10 1,rm 6 10] .ret) .skip)) (sq [rm 11 0,rm 12 1,rm 13 2,rk 14 Ij [(.t 11),(.t 12),(.t 13)],rm 6 14] .ret)))
def HB(P:Program)(fb:FuncId)(n:Net)(kd:Kd):Prop:=∀(S:St) (id km:Nat) (most:Int) (ss:List (List Int)) (v:AV) (set:List Int) (s:Int) (K:AV→St→Prop),uS S id km n most ss v→Val n set→
 (∀m,S.n≤m→K (au (kN kd n set s)) ⟨m,S.g⟩)→aQ P fb [.ptr id 0 0,au set,ak s] S K
def Oz(P:Program)(f:FuncId)(n:Net):Prop:=∀set s,Val n set→rQ P f [lI n,au set,ak s] (au (sH n set s))
def NS(P:Program)(f:FuncId)(n:Net):Prop:=∀set,Val n set→aM P f [lI n,au set] (aG (qg n set))
theorem uS.pre{S:St}{id km:Nat}{n:Net}{most:Int}{ss:List (List Int)}{v:AV}(M:uS S id km n most ss v){g:Nat→Option aF}(hg:g id=S.g id):Fz g (.ptr id 0 0) (lI n):=
 .pre id 7 [ak n.signs,aN n.aC,aN n.follow,au n.last] [ak most,.mp km,v] (by rw[hg];exact M.g) (by
  intro y hy;simp only[List.mem_cons,List.not_mem_nil,or_false] at hy;rcases hy with rfl | rfl | rfl | rfl
  ·exact aX _
  ·exact jr _
  ·exact jr _
  ·exact bD _)
theorem HB.whole{P:Program}{f:FuncId}{n:Net}(h:Oz P f n):HB P f n .whole:=by
 intro S id km most ss v set s K M hv hk;have hz:iN S.g [.ptr id 0 0,au set,ak s] [lI n,au set,ak s]:=iN.cons (M.pre rfl) (iN.cons (.closed _ (bD _)) (iN.cons (.closed _ (aX _)) iN.nil));exact aQ.Lu (h set s hv) S.g (fun _ _ e=>e) hz.1 hz.2 (bD _) (hk S.n (Nat.le_refl _))
theorem HB.tails{P:Program}(hm:P.follows .mixedOrders=true){f fs fc:FuncId}{n:Net}(R:pI n)(h:Oz P fs n)(hf:Is P f (RP fs fc) [6] 3)
  (hc:∀l:List Int,l.length≤1000→aM P fc [.sl true [.sl true [ak 0],au l]] (au (0::l))):HB P f n .tails:=by
 intro S id km most ss v set s K M hv hk;have hb:=HB.whole h;refine hf.uV hm rfl ?_;simp[RP];refine hb _ id km most ss v set s _ ⟨M.g,M.m,M.vec,M.ne,M.hv,Nat.lt_of_lt_of_le M.lid (by show S.n≤S.n+1+8;omega),Nat.lt_of_lt_of_le M.tF (by show S.n≤S.n+1+8;omega),fun i hi=>Nat.lt_of_lt_of_le (M.lv i hi) (by show S.n≤S.n+1+8;omega)⟩ hv fun m hm2=>?_
 have h1:(au (kN .whole n set s)).cells=[au (kN .whole n set s)]:=rfl;have h2:(au (kN .whole n set s)).solid=true:=rfl;simp only[AV.solid] at h2;simp[h1,h2]
 refine aQ.pure (hc _ ?_) (aR (.sl _ _ (by
  intro y hy;simp only[List.mem_cons,List.not_mem_nil,or_false] at hy;rcases hy with rfl | rfl
  ·exact .sl _ _ (by intro y hy;simp only[List.mem_cons,List.not_mem_nil,or_false] at hy;subst hy;exact aX _)
  ·exact bD _)) bB) (bD _) ?_
 ·have:=(Zh2 R set s).2
  show(sH n set s).length≤1000
  omega
 ·simp
  exact hk _ (by simp only at hm2;omega)
theorem HB.heads{P:Program}(hm:P.follows .mixedOrders=true){f fs fe:FuncId}{n:Net}(h:Oz P fs n)(he:NS P fe n)(hf:Is P f (RO fe fs) [6] 3):HB P f n .heads:=by
 intro S id km most ss v set s K M hv hk;have hb:=HB.whole h;have GX:∀m,S.n≤m→uS ⟨m,S.g⟩ id km n most ss v:=fun m hm2=>⟨M.g,M.m,M.vec,M.ne,M.hv,Nat.lt_of_lt_of_le M.lid hm2,Nat.lt_of_lt_of_le M.tF hm2,fun i hi=>Nat.lt_of_lt_of_le (M.lv i hi) hm2⟩
 refine hf.uV hm rfl ?_;simp[RO];refine aQ.looks (S:=⟨S.n+1+3,S.g⟩) (he set hv) (iN.cons (M.pre rfl) (iN.cons (.closed _ (bD _)) iN.nil)) (FW _) ?_;cases hq:qg n set with
 | true=>
  simp;have:=hk (S.n+1+3+2) (by omega);simp only[kN,hq,if_true] at this;exact this
 | false=>
  simp;refine hb _ id km most ss v set s _ (GX _ (by omega)) hv fun m hm2=>?_
  simp;have:=hk m (by simp only at hm2;omega);simp only[kN,hq,Bool.false_eq_true,if_false] at this;exact this
theorem HB.aO{P:Program}(hm:P.follows .mixedOrders=true){f fb:FuncId}{n:Net}{kd:Kd}(h:HB P fb n kd)(hf:Is P f I4 [6] 4){bf:St}{id km k5 k8:Nat}{most:Int}(h5:bf.g k5=some (.arr 1 [.aO fb [] []]))(h8:bf.g k8=some (.arr 1 [.ptr id 0 0]))
  (l5:k5 < bf.n) (l8:k8 < bf.n) (n5:k5≠id∧k5≠km) (n8:k8≠id∧k8≠km):Oy P f [.ptr k5 0 0,.ptr k8 0 0] bf id km n most kd:=by
 intro S ss v set s K M hold hv hk;have g5:S.g k5=some (.arr 1 [.aO fb [] []]):=(hold.2 k5 l5 n5.1 n5.2).trans h5;have g8:S.g k8=some (.arr 1 [.ptr id 0 0]):=(hold.2 k8 l8 n8.1 n8.2).trans h8;have GX:∀m,S.n≤m→uS ⟨m,S.g⟩ id km n most ss v:=fun m hm2=>⟨M.g,M.m,M.vec,M.ne,M.hv,Nat.lt_of_lt_of_le M.lid hm2,Nat.lt_of_lt_of_le M.tF hm2,fun i hi=>Nat.lt_of_lt_of_le (M.lv i hi) hm2⟩
 refine hf.uV hm rfl ?_;simp[I4,g5,g8];refine h _ id km most ss v set s _ (GX _ (by omega)) hv fun m hm2=>?_
 simp;exact hk m (by simp only at hm2;omega)
def Vi:AV:=aH ⟨0,[],[]⟩
def Af(kd:Kd)(n:Net)(most:Int):AV:=
 if sO n=true∧1≤most∧most≤3000 then (match BI kd n most with
  | some st=>.aL [aH ⟨n.signs,st.2.1,st.2.2⟩,ak 0]
  | none=>.aL [Vi,ak 13])
 else .aL [Vi,ak 1]
def Dw(fr f1 f2 fall:FuncId):M1:=⟨UH,Ga fr,21,f1,6,7,UJ f2 fall,30,[.c 6 (some 3),.c 7 none]⟩
theorem MR(g:Nat→Option aF)(e:Int):jo g (.aL [.agg [.v (.int .i64 0),.sl true [],.sl true []],.v (.int .i64 e)]) (.aL [Vi,ak e]):=by
 refine .aL _ _ rfl (fun i h1 h2=>?_)
 match i,h1 with
 | 0,_=>
  refine .agg _ _ rfl (fun j k1 k2=>?_)
  match j,k1 with
  | 0,_=>exact .v _
  | 1,_=>exact .nil true false (by simp)
  | 2,_=>exact .nil true false (by simp)
 | 1,_=>exact .v _
theorem ZnX{P:Program}(hm:P.follows .mixedOrders=true){f1 f2 fall rT fe fb fT:FuncId}(hall:zK P fall (IX rT fe) [.c 4 (some 3)] 2)(hf2:Is P f2 I4 [6] 4)
  {n:Net} {kd:Kd} {most:Int} (R:pI n) (zG:Gu P rT fT n) (hb:HB P fb n kd) (hend:NS P fe n) (h1:1≤most) (h3:most≤3000) {f:AF} {S:St} (e1:f 1=ak most) (e3:f 3=.ptr 0 0 0) (e5:f 5=.ptr 1 0 0) (e6:f 6=.ptr 2 0 0) (e7:f 7=.ptr 3 0 0)
  (g0:S.g 0=some (.arr 4 [iV n])) (g1:S.g 1=some (.arr 1 [.aO fb [] []])) (g2:S.g 2=some (.arr 3 [oM])) (g3:S.g 3=some (.arr 1 [ak 0])) (hn:4≤S.n) :
  AW P (UJ f2 fall) (NU P (Dg fT) 5 2 [.c 6 (some 3),.c 7 none] [.ptr 2 0 0,.ptr 3 0 0] fun r' S'=>jo S'.g r' (Af kd n most)) (f.put (some 21) (.aO f1 [] [.ptr 2 0 0,.ptr 3 0 0])) S:=by
 have hR:sO n=true:=(Mt n).mpr R;have ec:(iV n).cells=[ak n.signs,aN n.aC,aN n.follow,au n.last]:=rfl;have es:(iV n).solid=true:=rfl;simp only[AV.solid] at es;simp[za,su,sj,zT,zP,UJ,e1,e3,e5,g0,ec,jH,jh,DF]
 have k1:∀i,i < S.n→(((((⟨S.n+7,S.g⟩:St).set (S.n+2) (some (.map []))).set (S.n+4) (some (.arr 7 [.agg [.v (.int .i64 n.signs),aN n.aC,aN n.follow,au n.last,.v (.int .i64 most),.mp (S.n+2),.sl true []]]))).set (S.n+5) (some (.arr 1 [.v (.pointer none)]))).set (S.n+5) (some (.arr 1 [.ptr (S.n+4) 0 0]))).g i=S.g i:=fun i hi=>by
  rw[aD,if_neg (by omega),aD,if_neg (by omega),aD,if_neg (by omega),aD,if_neg (by omega)]
 have k2:(((((⟨S.n+7,S.g⟩:St).set (S.n+2) (some (.map []))).set (S.n+4) (some (.arr 7 [.agg [.v (.int .i64 n.signs),aN n.aC,aN n.follow,au n.last,.v (.int .i64 most),.mp (S.n+2),.sl true []]]))).set (S.n+5) (some (.arr 1 [.v (.pointer none)]))).set (S.n+5) (some (.arr 1 [.ptr (S.n+4) 0 0]))).g (S.n+2)=some (.map []):=by
  rw[aD,if_neg (by omega),aD,if_neg (by omega),aD,if_neg (by omega),aD,if_pos rfl]
 have k3:(((((⟨S.n+7,S.g⟩:St).set (S.n+2) (some (.map []))).set (S.n+4) (some (.arr 7 [.agg [.v (.int .i64 n.signs),aN n.aC,aN n.follow,au n.last,.v (.int .i64 most),.mp (S.n+2),.sl true []]]))).set (S.n+5) (some (.arr 1 [.v (.pointer none)]))).set (S.n+5) (some (.arr 1 [.ptr (S.n+4) 0 0]))).g (S.n+4)=some (.arr 7 [.agg [ak n.signs,aN n.aC,aN n.follow,au n.last,ak most,.mp (S.n+2),.sl true []]]):=by
  rw[aD,if_neg (by omega),aD,if_neg (by omega),aD,if_pos rfl];rfl
 have k4:(((((⟨S.n+7,S.g⟩:St).set (S.n+2) (some (.map []))).set (S.n+4) (some (.arr 7 [.agg [.v (.int .i64 n.signs),aN n.aC,aN n.follow,au n.last,.v (.int .i64 most),.mp (S.n+2),.sl true []]]))).set (S.n+5) (some (.arr 1 [.v (.pointer none)]))).set (S.n+5) (some (.arr 1 [.ptr (S.n+4) 0 0]))).g (S.n+5)=some (.arr 1 [.ptr (S.n+4) 0 0]):=by
  rw[aD,if_pos rfl]
 generalize(((((⟨S.n+7,S.g⟩:St).set (S.n+2) (some (.map []))).set (S.n+4) (some (.arr 7 [.agg [.v (.int .i64 n.signs),aN n.aC,aN n.follow,au n.last,.v (.int .i64 most),.mp (S.n+2),.sl true []]]))).set (S.n+5) (some (.arr 1 [.v (.pointer none)]))).set (S.n+5) (some (.arr 1 [.ptr (S.n+4) 0 0]))).g=G at *
 have M:uS ⟨S.n+7+5,G⟩ (S.n+4) (S.n+2) n most [] (.sl true []):=
  ⟨k3,k2,.nil,by omega,by simp[AV.ids],by show S.n+4 < S.n+7+5;omega,by show S.n+2 < S.n+7+5;omega,by simp[AV.ids]⟩
 have Em:=hb.aO hm hf2 (bf:=⟨S.n+7+5,G⟩) (id:=S.n+4) (km:=S.n+2) (k5:=1) (k8:=S.n+5) (most:=most) ((k1 1 (by omega)).trans g1) k4 (by show 1 < S.n+7+5;omega) (by show S.n+5 < S.n+7+5;omega) ⟨by omega,by omega⟩ ⟨by omega,by omega⟩
 have hpre:∀S':St,Old ⟨S.n+7+5,G⟩ S' (S.n+4) (S.n+2)→S'.g 2=some (.arr 3 [oM])∧S'.g 3=some (.arr 1 [ak 0]):=fun S' hold=>
  ⟨((hold.2 2 (by show 2 < S.n+7+5;omega) (by omega) (by omega)).trans (k1 2 (by omega))).trans g2,((hold.2 3 (by show 3 < S.n+7+5;omega) (by omega) (by omega)).trans (k1 3 (by omega))).trans g3⟩
 refine Zn3 hm hall R zG Em hend h1 h3 M (fun st S' vN vE g AJ hold aae z1 z2=>?_) (fun AJ S' hold=>?_)
 ·obtain⟨q2,q3⟩:=hpre S' hold
  simp only[oM] at q2;have hnn:S.n+7+5≤S'.n:=hold.1;have hs2:S'.n≠2:=by omega
  have hs3:S'.n≠3:=by omega
  simp[xR,su,sj,wO,e6,e7,q2,q3,NU,EC,sW];simp[Dg,JI,NG];have x2:¬(2=S'.n+5):=by omega
  have x3:¬(3=S'.n+5):=by omega
  refine⟨[.agg [.v (.int .i64 n.signs),vN,vE],.v (.int .i64 0)],?_,?_⟩
  ·simp[iJ,RV.ev,jD,aj,aD,e6,e7,aY,dn,dX]
  ·rw[Af,if_pos ⟨hR,h1,h3⟩,AJ]
   refine .aL _ _ rfl (fun i k1 k2=>?_)
   match i,k1 with
   | 0,_=>
    refine .agg _ _ rfl (fun j k1 k2=>?_)
    match j,k1 with
    | 0,_=>exact .v _
    | 1,_=>
     refine z1.mono fun i k e=>?_
     obtain⟨w1,w2,w3⟩:=aae i k e;have w2':S.n+7+5≤i:=w2;rw[aD,if_neg (by omega),aD,if_neg (by omega),aD,if_neg (by omega),aD,if_neg (by omega)];exact w1
    | 2,_=>
     refine z2.mono fun i k e=>?_
     obtain⟨w1,w2,w3⟩:=aae i k e;have w2':S.n+7+5≤i:=w2;rw[aD,if_neg (by omega),aD,if_neg (by omega),aD,if_neg (by omega),aD,if_neg (by omega)];exact w1
   | 1,_=>exact .v _
 ·obtain⟨q2,q3⟩:=hpre S' hold
  simp only[oM] at q2;have hnn:S.n+7+5≤S'.n:=hold.1;simp[ZjF,Bt];simp only[pn];refine⟨Hy fT,rfl,rfl,?_⟩;have x2:¬(2=S'.n+5):=by omega
  have x3:¬(3=S'.n+5):=by omega
  have hbe:Nat.beq fT fT=true:=Nat.beq_refl fT;have hov:Al (.agg #[])=some (.agg []):=rfl;simp[EC,sW,Hy];simp[Dg,JI,hov,jH,jh,q2,q3];refine⟨[.agg [.v (.int .i64 0),.sl true [],.sl true []],.v (.int .i64 13)],?_,?_⟩
  ·simp[iJ,RV.ev,jD,aj,aD,e6,e7,aY,dn,dX]
  ·rw[Af,if_pos ⟨hR,h1,h3⟩,AJ]
   exact MR _ 13
theorem Zlx{P:Program}(hm:P.follows .mixedOrders=true){f fr f1 f2 fall rT fe fb fT:FuncId}(h:GD P f=some (Dw fr f1 f2 fall))(h':Dx P f1=some (5,2,Dg fT,16))(hall:zK P fall (IX rT fe) [.c 4 (some 3)] 2)(hf2:Is P f2 I4 [6] 4)
  {n:Net} {kd:Kd} {most:Int} (hr:aM P fr [iV n] (aG (sO n))) (zG:sO n=true→Gu P rT fT n) (hb:sO n=true→HB P fb n kd) (hend:sO n=true→NS P fe n):rQ P f [iV n,ak most,.aO fb [] []] (Af kd n most):=by
 refine .uT (ZkY hm h h' (by omega) (by show 3≤30;omega) ?_);show AW P UH (OA P (Dw fr f1 f2 fall) (Dg fT) 5 2 _) _ _
 have ha:dN 4 (iV n)=.new (some (.arr 4 [iV n],fun i=>.ptr i 0 0)):=rfl;simp[UH,iV,aN,au,OA];show AW P (Ga fr) _ _ _
 by_cases hR:sO n=true
 ·by_cases h1:most < 1
  ·simp[za,su,sj,zT,zP,Ga]
   refine lH.Ew (aQ.pure hr (aR (CX n) bB) (cu _) ?_);simp[ME,UG,Zmz,xR,su,sj,wO,hR,h1,jH,jh,Gt,Dw,iJ,RV.ev,jD,iO];rw[Af,if_neg (by omega)];exact MR _ 1
  ·by_cases h3:3000 < most
   ·simp[za,su,sj,zT,zP,Ga]
    refine lH.Ew (aQ.pure hr (aR (CX n) bB) (cu _) ?_);simp[ME,UG,xR,su,sj,wO,hR,h1,h3,jH,jh,Gt,Dw,iJ,RV.ev,jD,iO];rw[Af,if_neg (by omega)];exact MR _ 1
   ·simp[za,su,sj,zT,zP,Ga]
    refine lH.Ew (aQ.pure hr (aR (CX n) bB) (cu _) ?_);simp[ME,UG,xR,su,sj,wO,hR,h1,h3];have R:=(Mt n).mp hR;simp only[Gt];refine ZnX hm hall hf2 R (zG hR) (hb hR) (hend hR) (by omega) (by omega) ?_ ?_ ?_ ?_ ?_ ?_ ?_ ?_ ?_ ?_
    ·simp[aj,bJ,bO,ak]
    ·simp[aj]
    ·simp[aj]
    ·simp[aj]
    ·simp[aj]
    ·simp[aD,iV,ak,aN,au]
    ·simp[aD]
    ·simp[aD,oM,ak]
    ·simp[aD,ak]
    ·simp
 ·simp[za,su,sj,zT,zP,Ga]
  refine lH.Ew (aQ.pure hr (aR (CX n) bB) (cu _) ?_);simp[ME,Zmz,xR,su,sj,wO,hR,jH,jh,Gt,Dw,iJ,RV.ev,jD,iO];rw[Af,if_neg (by simp[hR])];exact MR _ 1
end Go.Rf
namespace Go.Rf
open Go.RowKit
def Mi(P4Y Ij:FuncId):AC:= (sq [ro 2 (.box 4 (.t 0)),ro 4 (.alloc (.agg [(.v (.int .i64 0)),(.sl true []),(.sl true [])]) 3),ro 5 (.mv (ci 0))] (sq [ro 6 (.load (some 4) (.t 2)),rm 7 1,rk 8 P4Y [(.t 6),(.t 7),(.c (.aO Ij [] []))],ro 9 (.ext 0 (.t 8)),ro 10 (.ext 1 (.t 8)),rn (.store 3 (.t 4) (.t 9)),rm 5 10] .ret))
theorem rQ.pure{P:Program}{f:FuncId}{args:List AV}{r:AV}(h:rQ P f args r)(ha:∀x∈args,aV x)(hr:aV r):aM P f args r:=
 .uT (aQ.Lu h (fun _=>none) (fun _ _ e=>by cases e) rfl (fun j h1 h2=>.closed _ (ha _ (List.getElem_mem h1))) hr (.closed _ hr))
theorem Zfk(d:aB):aV (aH d):=.agg _ (by
 intro y hy;simp only[List.mem_cons,List.not_mem_nil,or_false] at hy;rcases hy with rfl | rfl | rfl
 ·exact aX _
 ·exact jr _
 ·exact .sl _ _ (by intro y hy;obtain⟨b,_,rfl⟩:=List.mem_map.mp hy;exact cu _))
def BP(kd:Kd)(n:Net)(most:Int):aB×Int:=
 if sO n=true∧1≤most∧most≤3000 then (match BI kd n most with
  | some st=>(⟨n.signs,st.2.1,st.2.2⟩,0)
  | none=>(⟨0,[],[]⟩,13))
 else (⟨0,[],[]⟩,1)
def sQ(p:aB×Int):AV:=.aL [aH p.1,ak p.2]
theorem ZiC(kd:Kd)(n:Net)(most:Int):Af kd n most=sQ (BP kd n most):=by
 unfold Af BP;split
 ·cases BI kd n most<;>rfl
 ·rfl
theorem Tf(p:aB×Int):aV (sQ p):=.aL _ (by
 intro y hy;simp only[List.mem_cons,List.not_mem_nil,or_false] at hy;rcases hy with rfl | rfl
 ·exact Zfk _
 ·exact aX _)
theorem Yu{P:Program}{f1 fb:FuncId}{n:Net}{most:Int}{p:aB×Int}(h:aM P f1 [iV n,ak most,.aO fb [] []] (sQ p)):AW P (Mi f1 fb) (iI [.c 4 (some 3),.t 5] (dx (sQ p))) (bC [iV n,ak most]) S0:=by
 have ec:(iV n).cells=[ak n.signs,aN n.aC,aN n.follow,au n.last]:=rfl;have es:(iV n).solid=true:=rfl;simp only[AV.solid] at es;simp[jv,jk,bZ,dG,dJ,fC,fB,dD,ex,aj,cO,dO,bJ,bO,aD,bE,dN,bY,bM,aY,AV.solid,S0,ak,Mi,ec,es];refine aQ.pure h (aR (CX n) (aR (aX _) (aR (.aO _ _ _ bB bB) bB))) (Tf p) ?_;simp[jI,bZ,dG,dJ,fu,dD,ex,aj,fA,cO,aD,dn,bI,dz,dQ,aY,AV.solid,ak,sQ,aH,iI,iJ,RV.ev,jD,iO];exact .closed _ (Tf p)
end Go.Rf
