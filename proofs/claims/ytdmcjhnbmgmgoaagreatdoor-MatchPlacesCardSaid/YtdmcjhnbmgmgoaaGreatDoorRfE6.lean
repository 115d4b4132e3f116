import Derived.Test.YtdmcjhnbmgmgoaaGreatDoorRfE2
set_option linter.unusedVariables false
set_option linter.unusedSimpArgs false
set_option linter.unusedSectionVars false
namespace Go.Rf
open Go.RowKit
attribute [local simp] l9 lT l6 mI mJ mM mK l7 mP mH mF dN gL fJ gJ ig fI gK iq gX gV gY eZ gQ gZ gP d9 eF gU iN iK iM iL iO gD fM fH dZ fQ fU fV fP fE iH iw gT iF iC iE iD iG iI iA gu fF fG fK gy dx dL fq iB iJ ex au bS dM dY bF bJ aG bf dU eY dQ fO gN gM iy gW bO dw dz eD eu fZ dR bC bZ dD dJ dF fu eB eX eP eU dW dh dS dP dO bB AV.solid S0 aj aH
def XK(EK:FuncId):AC:= (.block 2 (.loop (sq [ro 28 (.bin .lss (.t 27) (.t 26))] (.seq (.cond (.t 28) .skip (.exit 2)) (.seq (.block 3 (sq [ro 29 (.aI 1 (.t 25) (.t 27)),rL 30 29,rm 11 30] (sq [rm 31 0,ro 32 (.iU (.t 31)),rF 33 0 32,rF 34 1 33,rL 35 34,rm 36 11,ro 37 (.aI 1 (.t 35) (.t 36)),rL 38 37,rm 39 2,rk 40 EK [(.t 38),(.t 39)]] (.cond (.t 40) (.reg none [rm 41 7,rm 42 11,ro 43 (.dn 1 1 (.v (.int .i64 0)) [(0,(.t 42))]),ro 44 (.app 1 8 (.t 41) (.t 43)),rm 7 44]) .skip)))) (.reg none [ro 45 (.bin .add (.t 27) (ci 1)),rm 27 45]))))))
def Zik(EK:FuncId):AC:= (.block 0 (.loop (sq [ro 15 (.bin .lss (.t 14) (.t 13))] (.seq (.cond (.t 15) .skip (.exit 0)) (.seq (.block 1 (sq [ro 16 (.aI 1 (.t 12) (.t 14)),rL 17 16,rm 9 17] (sq [rm 18 0,ro 19 (.iU (.t 18)),rF 20 0 19,rF 21 2 20,rL 22 21,rm 23 9,ro 24 (.aI 1 (.t 22) (.t 23)),rL 25 24,ro 26 (.len (.t 25)),ro 27 (.mv (ci 0))] (XK EK)))) (.reg none [ro 46 (.bin .add (.t 14) (ci 1)),rm 14 46]))))))
def VE(EK zB zA:FuncId):AC:= (sq [ro 6 (.mv (.c (.sl true [])))] (sq [ro 7 (.mv (.c (.sl true [])))] (.seq (sq [rm 12 1,ro 13 (.len (.t 12)),ro 14 (.mv (ci 0))] (Zik EK)) (sq [rm 47 7,rk 48 zB [(.t 47)]] (sq [rm 49 7,rk 50 zA [(.t 49)],rm 6 50] .ret)))))
def VD(P3N KN:FuncId):AC:= (sq [ro 2 (.box 1 (.t 0)),ro 4 (.mv (.c (.v (.bool false))))] (sq [rm 5 1,ro 6 (.Aw P3N [] [(.t 2)]),rk 7 KN [(.t 5),(.t 6)],rm 4 7] .ret))
def Vv(EK:FuncId):AC:= (sq [ro 3 (.mv (.c (.v (.bool false))))] (sq [rL 4 1,ro 5 (.iU (.t 4)),rF 6 0 5,rF 7 3 6,rL 8 7,rm 9 0,rk 10 EK [(.t 8),(.t 9)],rm 3 10] .ret))
def o8(n:Net):AV:=.bN (jy n) 0
structure Di(n:Net)(at_:List Int)(sign:Int)(i:Nat)(cur:List Int)(f:AF)(S:St):Prop where
 e12:f 12=aA at_
 e13:f 13=aj at_.length
 e14:f 14=aj i
 e2:f 2=aj sign
 e0:f 0=o8 n
 vec:Vec S.g (f 7) 1 (cur.map aj)
 nil:cur=[]→f 7=.sl true []
theorem Di.same{n:Net}{at_:List Int}{sign:Int}{i:Nat}{cur:List Int}{f f':AF}{S S':St}(h:Di n at_ sign i cur f S)(hf:∀j,j=12∨j=13∨j=14∨j=2∨j=0∨j=7→f' j=f j)(hg:S'.g=S.g):Di n at_ sign i cur f' S':=
 ⟨by rw[hf _ (by simp)];exact h.e12,by rw[hf _ (by simp)];exact h.e13,by rw[hf _ (by simp)];exact h.e14,by rw[hf _ (by simp)];exact h.e2,by rw[hf _ (by simp)];exact h.e0,by rw[hg,hf _ (by simp)];exact h.vec,fun e=>by rw[hf _ (by simp)];exact h.nil e⟩
theorem ZvM{P:Program}{fc:FuncId}{n:Net}(R:nR n)(hc:∀l∈n.aB,∀x,aO P fc [aA l,aj x] (aH (l.contains x))){at_:List Int}{sign:Int}{i p:Nat}{cur:List Int}(hp:p < n.follow.length)(hcur:cur.length≤100000000){f:AF}{S:St}{Q:Exit→AF→St→Prop}
  (h:Di n at_ sign i cur f S) (e25:f 25=aA n.follow[p]) (e26:f 26=aj (n.follow[p]).length) (e27:f 27=aj 0)
  (hk:∀f' S',Di n at_ sign i (cur++(n.follow[p]).filter (vv n sign)) f' S'→Q .normal f' S'):AW P (XK fc) Q f S:=by
 have hlen:=Wn R hp;simp[XK];refine Ck (n.follow[p]).length (fun k f S=>Di n at_ sign i (cur++((n.follow[p]).take k).filter (vv n sign)) f S∧f 25=aA n.follow[p]∧f 26=aj (n.follow[p]).length∧f 27=aj k) ?_ ?_
 ·exact⟨by simpa using h,e25,e26,e27⟩
 ·rintro k f S hk' ⟨h,e25,e26,e27⟩
  generalize hrow:n.follow[p]=row at *;have e2:=h.e2;have e0:=h.e0;simp only[o8,jy,aX] at e0;by_cases hlt:k < row.length
  ·have hat:1≤row[k]∧row[k] < n.aB.length:=by subst hrow;exact Zmi R hp hlt
   have hge:(0:Int)≤row[k]:=by omega
   have hbl:(row[k]).toNat < n.aB.length:=by omega
   have hby:n.aB[(row[k]).toNat]? = some n.aB[(row[k]).toNat]:=List.getElem?_eq_getElem hbl;have hbs:vv n sign row[k]=(n.aB[(row[k]).toNat]).contains sign:=by simp[vv,List.getD_eq_getElem?_getD,hby]
   have kc:=hc _ (List.getElem_mem hbl) sign;have cc:=aL (aR n.aB[(row[k]).toNat]) (aL (aS sign) aU);simp only[aA,aj] at kc cc;have htk:row.take (k+1)=row.take k++[row[k]]:=by rw[List.take_add_one,List.getElem?_eq_getElem hlt];rfl
   have hcl:(cur++(row.take k).filter (vv n sign)).length≤200000000:=by
    have:=List.length_filter_le (vv n sign) (row.take k);have:(row.take k).length≤k:=by rw[List.length_take];omega
    rw[List.length_append];omega
   simp[e25,e26,e27,e2,e0,hlt,aA,hge,hby,lu];refine aQ.pure kc cc (bY _) ?_;rw[←hbs];cases hb:vv n sign row[k] with
   | false=>
    simp[e27];rw[bG _ (by omega)];refine⟨hlt,?_,?_,?_,?_⟩
    ·rw[htk,List.filter_append]
     simp only[List.filter_cons,hb,List.filter_nil,Bool.false_eq_true,if_false,List.append_nil];refine h.same (fun j hj=>?_) rfl;rcases hj with rfl | rfl | rfl | rfl | rfl | rfl<;>simp[au]
    ·simp[au,e25,aA]
    ·simp[au,e26,aj]
    ·simp[au]
   | true=>
    simp;rw[Vec.app (xs:=(cur++(row.take k).filter (vv n sign)).map aj) (h.vec.frame (fun i hi=>rfl)) (Ch _) (by simp[AV.cells]) (FL (by rw[List.length_map];omega))];simp[e27,sZ];rw[bG _ (by omega)];refine⟨hlt,⟨?_,?_,?_,?_,?_,?_,?_⟩,?_,?_,?_⟩
    ·simp[au,h.e12]
    ·simp[au,h.e13]
    ·simp[au,h.e14]
    ·simp[au,h.e2,aj]
    ·simp[au,h.e0]
    ·rw[htk,List.filter_append]
     simp only[List.filter_cons,hb,List.filter_nil,if_true];have hl1:(cur++((row.take k).filter (vv n sign)++[row[k]])).map aj=(cur++(row.take k).filter (vv n sign)).map aj++[aj row[k]]:=by simp
     rw[hl1];simp only[au,if_true];exact .mk' (by simp[aG,aj]) (by simp[Nat.add_assoc])
    ·intro e
     rw[htk,List.filter_append] at e;simp[hb] at e
    ·simp[au,e25,aA]
    ·simp[au,e26,aj]
    ·simp[au]
  ·have:row.take k=row:=List.take_of_length_le (by omega)
   rw[this] at h;simp[e26,e27,hlt];refine hk _ _ (h.same (fun j hj=>?_) rfl);rcases hj with rfl | rfl | rfl | rfl | rfl | rfl<;>simp[au]
structure Zti(P:Program)(fc fs fm:FuncId):Prop where
 cont:∀(l:List Int) x,Len l→aO P fc [aA l,aj x] (aH (l.contains x))
 sort:Cz P fs
 comp:Cy P fm
 EW:aO P fs [.sl true []] (.aN [])
 EU:aO P fm [.sl true []] (.sl true [])
theorem Zez{P:Program}{fc fs fm:FuncId}{n:Net}(R:nR n)(H:Zti P fc fs fm)(at_:List Int)(hat:at_.length≤3000)(hv:∀s∈at_,0≤s∧s < n.follow.length)(sign:Int) :
  AW P (VE fc fs fm) (gG [6] fun r S=>lW S.g r (aA (qW n at_ sign))) (bU [o8 n,aA at_,aj sign]) S0:=by
 have hfl:n.follow.length≤301:=by have:=R.len;have:=R.n2;omega
 have hbl:=V9 R sign at_
 have hcont:∀l∈n.aB,∀x,aO P fc [aA l,aj x] (aH (l.contains x)):=by
  intro l hl x;refine H.cont l x ?_;obtain⟨j,hj,rfl⟩:=List.mem_iff_getElem.mp hl;have:=Jl (R.aB j hj).1 (R.aB j hj).2;have:=R.s2;unfold Len;omega
 simp[VE,Zik,aA,o8,jy,aX];refine Ck at_.length (fun i f S=>Di n at_ sign i (qB n (at_.take i) sign) f S) ?_ ?_
 ·refine⟨?_,?_,?_,?_,?_,?_,fun _=>?_⟩
  ·simp[au,aA]
  ·simp[au,aj]
  ·simp[au,aj]
  ·simp[au,bF,bJ,aj]
  ·simp[au,bF,o8,jy,aj,aX,aA]
  ·simp[au,qB];exact .nil
  ·simp[au]
 ·rintro i f S hi h
  have e12:=h.e12;have e13:=h.e13;have e14:=h.e14;have e0:=h.e0;simp only[o8,jy,aX] at e0;by_cases hlt:i < at_.length
  ·have htk:=Zfv (n:=n) (sign:=sign) hlt
   have hcur:(qB n (at_.take i) sign).length≤100000000:=by
    have:=V9 R sign (at_.take i);have:(at_.take i).length≤at_.length:=by rw[List.length_take];omega
    omega
   have Av:=hv _ (List.getElem_mem hlt);have hp:(at_[i]).toNat < n.follow.length:=by omega
   have hge:(0:Int)≤at_[i]:=by omega
   have hgf:n.follow[(at_[i]).toNat]? = some n.follow[(at_[i]).toNat]:=List.getElem?_eq_getElem hp
   have hb1:Cg n sign at_[i]=(n.follow[(at_[i]).toNat]).filter (vv n sign):=by
    unfold Cg;rw[if_pos (by omega),List.getD_eq_getElem?_getD,hgf];rfl
   simp[e12,e13,e14,e0,hlt,aA,hge,hgf,lu];refine ZvM R hcont hp hcur (h.same (fun j hj=>?_) rfl) ?_ ?_ ?_ (fun f' S' h'=>?_)
   ·rcases hj with rfl | rfl | rfl | rfl | rfl | rfl<;>simp[au]
   ·simp[au,aA]
   ·simp[au,aj]
   ·simp[au,aj]
   ·have aau:=h'.e14
    simp[aau];rw[bG _ (by omega)];refine⟨hlt,?_⟩;show Di n at_ sign (i+1) (qB n (at_.take (i+1)) sign) _ _
    rw[htk,hb1];refine⟨?_,?_,?_,?_,?_,?_,fun e=>?_⟩
    ·simp[au,h'.e12]
    ·simp[au,h'.e13]
    ·simp[au,aj]
    ·simp[au,h'.e2]
    ·simp[au,h'.e0]
    ·rw[au,if_neg (by decide),au,if_neg (by decide)];exact h'.vec
    ·rw[au,if_neg (by decide),au,if_neg (by decide)];exact h'.nil e
  ·have htk:at_.take i=at_:=List.take_of_length_le (by omega)
   rw[htk] at h;rcases h.vec with⟨hv7,hl0⟩ | ⟨id,off,ys,hv7,hg7,ho,hd⟩
   ·have hb0:qB n at_ sign=[]:=by simpa using hl0
    have hs0:qW n at_ sign=[]:=by
     unfold qW;rw[hb0];exact List.eq_nil_of_length_eq_zero (by have:=XE [];simpa using this)
    simp[e13,e14,hlt,hv7];refine aQ.pure H.EW (aL (.sl _ _ (by simp)) aU) (.aN _ (by simp)) ?_;simp[hv7];refine aQ.pure H.EU (aL (.sl _ _ (by simp)) aU) (.sl _ _ (by simp)) ?_;simp[hs0];exact .nil true false (by simp)
   ·have hb0:qB n at_ sign≠[]:=by
     intro e;have:=h.nil e;rw[this] at hv7;cases hv7
    have hm:((qB n at_ sign).mergeSort fun x y=>decide (x≤y)).length=(qB n at_ sign).length:=List.length_mergeSort _
    have hne2:((qB n at_ sign).mergeSort fun x y=>decide (x≤y))≠[]:=by
     intro e;rw[e] at hm;exact hb0 (List.eq_nil_of_length_eq_zero hm.symm)
    rw[List.length_map] at hv7;simp[e13,e14,hlt,hv7];refine H.sort _ _ off ys (qB n at_ sign) _ hg7 hd hb0 (by omega) ?_;simp[hv7];rw[←hm];have hto:(ys.take off).length=off:=by rw[List.length_take];omega
    refine H.comp _ _ off (ys.take off++((qB n at_ sign).mergeSort fun x y=>decide (x≤y)).map aj) _ _ (by simp[aG]) (by rw[List.drop_left' hto]) hne2 (by omega) ?_;simp;refine Vec.NI (es:=1) (.inr ⟨id,off,ys.take off++(jl (qB n at_ sign)).map aj,?_,?_,?_,?_⟩)
    ·simp[qW,jl]
    ·rw[List.take_left' hto];simp[aG,jl]
    ·simp[hto]
    ·rw[List.drop_left' hto];rfl
def mq(n:Net)(set:List Int):Bool:=set.any fun s=>n.last.contains s
theorem Zcl{P:Program}{fc:FuncId}(n:Net)(s:Int)(hc:aO P fc [aA n.last,aj s] (aH (n.last.contains s))):AW P (Vv fc) (gG [3] (iP (aH (n.last.contains s)))) (bU [aj s,.bN (o8 n) 0]) S0:=by
 simp[Vv,o8,jy,lu];refine aQ.pure hc (aL (aR _) (aL (aS _) aU)) (bY _) ?_;simp;exact jk _ _
theorem Zci(n:Net):aY (o8 n):=.bN _ _ (BQ n)
theorem Zey{P:Program}{f1 fcf:FuncId}(n:Net)(set:List Int)(hcf:aO P fcf [aA set,.aP f1 [] [.bN (o8 n) 0]] (aH (mq n set))) :
  AW P (VD f1 fcf) (gG [4] (iP (aH (mq n set)))) (bU [o8 n,aA set]) S0:=by
 have h1:(o8 n).solid=true:=rfl;have h2:(o8 n).cells=[o8 n]:=rfl;simp only[AV.solid] at h1;simp[VD,h1,h2];refine aQ.looks hcf (gI.cons (.closed _ (aR _)) (gI.cons (.Po (gI.cons (.box _ _ 1 (o8 n) _ ?_ (.closed _ (Zci n))) gI.nil)) gI.nil)) (Mq _) ?_
 ·simp[aG]
 ·simp
  exact jk _ _
mutual
def uP:aM→Prop
 | .mk k s g ks=>g.length≤17592186043904∧ks.length≤100000∧zW ks
def zW:List aM→Prop
 | []=>True
 | p::ps=>uP p∧zW ps
end
theorem zW.mem:∀{ks:List aM},zW ks→∀q∈ks,uP q
 | [],_,q,h=>by simp at h
 | p::ps,h,q,hq=>by
  simp only[zW] at h;rcases List.mem_cons.mp hq with rfl | hq
  ·exact h.1
  ·exact zW.mem h.2 q hq
end Go.Rf
namespace Go.Rf
attribute [local simp] l9 lT l6 mI mJ mM mK l7 mP mH mF dN gL fJ gJ ig fI gK iq gX gV gY eZ gQ gZ gP d9 eF gU iN iK iM iL iO gD fM fH dZ fQ fU fV fP fE iH iw gT iF iC iE iD iG iI iA gu fF fG fK gy dx dL fq iB iJ ex au bS dM dY bF bJ aG bf dU eY dQ fO gN gM iy gW bO dw dz eD eu fZ dR bC bZ dD dJ dF fu eB eX eP eU dW dh dS dP dO bB AV.solid S0 aj aH
def Zrw(H7 Az:FuncId):AC:= (.block 2 (.loop (.seq (.seq (.reg (some []) [ro 35 (.load (some 3) (.t 1)),ro 36 (.load (some 3) (.t 1)),rm 37 5,rm 38 8,rk 39 Az [(.t 36),(.t 37),(.t 38)],rk 40 H7 [(.t 35),(.t 39)],rm 41 6,ro 42 (.bin .sub (.t 41) (ci 1)),ro 43 (.bin .neq (.t 40) (.t 42))]) (.cond (.t 43) .skip (.exit 2))) (.block 3 (.reg none [rm 44 8,ro 45 (.bin .add (.t 44) (ci 1)),rm 8 45])))))
def ZoK(H7 Az:FuncId):AC:= (.block 0 (.loop (.seq (sq [rm 31 6,ro 32 (.bin .gtr (.t 31) (ci 0))] (.cond (.t 32) .skip (.exit 0))) (.seq (.block 1 (sq [ro 8 (.mv (ci 0))] (.seq (Zrw H7 Az) (sq [rm 46 7,rm 47 8,ro 48 (.dn 1 1 (.v (.int .i64 0)) [(0,(.t 47))]),ro 49 (.app 1 8 (.t 46) (.t 48)),rm 7 49] (.reg none [ro 50 (.load (some 3) (.t 1)),rm 51 5,rm 52 8,rk 53 Az [(.t 50),(.t 51),(.t 52)],rm 5 53]))))) (.reg none [rm 33 6,ro 34 (.bin .sub (.t 33) (ci 1)),rm 6 34])))))
def ZlA(KG KR:FuncId):AC:= (.seq (sq [ro 9 (.mv (ci 1))] (.block 4 (.loop (.seq (sq [rm 54 9,rm 55 7,ro 56 (.len (.t 55)),ro 57 (.bin .lss (.t 54) (.t 56))] (.cond (.t 57) .skip (.exit 4))) (.seq (.block 5 (.seq (.reg (some []) [ro 60 (.load (some 3) (.t 1)),rm 61 7,rm 62 9,rk 63 KG [(.t 61),(.t 62)],rk 64 KR [(.t 60),(.t 63)]]) (.cond (.t 64) (sq [rm 65 7,rm 66 9,rm 2 65,rm 3 66,ro 4 (.mv (.c (.v (.bool true))))] .ret) .skip))) (.reg none [rm 58 9,ro 59 (.bin .add (.t 58) (ci 1)),rm 9 59])))))) (sq [ro 2 (.mv (.c (.sl true []))),ro 3 (.mv (ci 0)),ro 4 (.mv (.c (.v (.bool false))))] .ret))
def Z8m(AA H7 Az KG KR:FuncId):AC:= (sq [ro 1 (.box 3 (.t 0)),ro 2 (.mv (.c (.sl true []))),ro 3 (.mv (ci 0)),ro 4 (.mv (.c (.v (.bool false))))] (.seq (sq [ro 10 (.load (some 3) (.t 1)),rk 11 AA [(.t 10)],ro 12 (.un .not (.t 11)),rm 13 12,rg 14 13 false (.dA 0 (.t 1)),rg 15 13 false (.load none (.t 14)),rg 16 13 false (.bin .rem (.t 15) (ci 2)),rg 17 13 false (.bin .neq (.t 16) (ci 0)),ro 18 (.pick (.t 13) (.c (.v (.bool true))) (.t 17))] (.cond (.t 18) (sq [ro 2 (.mv (.c (.sl true []))),ro 3 (.mv (ci 0)),ro 4 (.mv (.c (.v (.bool false))))] .ret) .skip)) (sq [rF 19 1 1,rL 20 19,ro 21 (.len (.t 20)),ro 22 (.wF 3 3 (.agg [(.v (.bool false)),(.v (.bool false)),(.v (.bool false))]) (.t 21) (.t 21)),rm 5 22] (sq [rm 23 5,ro 24 (.aI 3 (.t 23) (ci 0)),ro 25 (.wE 3 1 (.t 24) (ci 0)),rn (.store 1 (.t 25) (.c (.v (.bool true))))] (sq [ro 26 (.load (some 3) (.t 1)),rm 27 5,rk 28 H7 [(.t 26),(.t 27)],rm 6 28] (.seq (sq [rm 29 6,ro 30 (.bin .lss (.t 29) (ci 0))] (.cond (.t 30) (sq [ro 2 (.mv (.c (.sl true []))),ro 3 (.mv (ci 0)),ro 4 (.mv (.c (.v (.bool false))))] .ret) .skip)) (sq [ro 7 (.mv (.c (.sl true [])))] (.seq (ZoK H7 Az) (ZlA KG KR)))))))))
def Tv(g:Nat→Option aF)(v:AV)(T:List bV):Prop:=v=vg T∨Vec g v 3 (T.map o7)
theorem Tv.frame{g g':Nat→Option aF}{v:AV}{T:List bV}(h:Tv g v T)(hs:∀i∈v.ids,g' i=g i):Tv g' v T:=by
 rcases h with h | h
 ·exact .inl h
 ·exact .inr (h.frame hs)
theorem Tv.fz{g:Nat→Option aF}{v:AV}{T:List bV}(h:Tv g v T):Fz g v (vg T):=by
 rcases h with rfl | h
 ·exact .closed _ (ZlS T)
 ·exact h.fz Ziu
theorem Tv.only{g:Nat→Option aF}{v:AV}{T:List bV}(h:Tv g v T):Tv (only v.ids g) v T:=h.frame (fun i hi=>by rw[DX,if_pos hi])
end Go.Rf
namespace Go.Rf
open Go.RowKit
inductive Kd where
 | whole
 | tails
 | heads
def lI(kd:Kd)(n:Net)(set:List Int)(s:Int):List Int:=
 match kd with
 | .whole=>qW n set s
 | .tails=>0::qW n set s
 | .heads=>if mq n set=true then set else qW n set s
def yx(most:Int)(ss:List (List Int))(x:List Int):Option (List (List Int)×Int):=
 if x∈ss then some (ss,(ss.idxOf x:Int)) else if (ss.length:Int)=most then none else some (ss++[x],(ss.length:Int))
def uq(most:Int)(b:Int→List Int):Nat→List (List Int)→Option (List (List Int)×List Int)
 | 0,ss=>some (ss,[])
 | k+1,ss=>match uq most b k ss with
  | none=>none
  | some (s1,r)=>match yx most s1 (b k) with
   | none=>none
   | some (s2,j)=>some (s2,r++[j])
abbrev q9:=List (List Int)×List (List Int)×List Bool
def uS(kd:Kd)(n:Net)(most:Int)(i:Nat)(st:q9):Option q9:=
 match st.1[i]? with
 | none=>none
 | some set=>match uq most (lI kd n set) n.signs.toNat st.1 with
  | none=>none
  | some (s2,r)=>some (s2,st.2.1++[r],st.2.2++[mq n set])
def oz(kd:Kd)(n:Net)(most:Int):Nat→Option q9
 | 0=>some ([[0]],[],[])
 | i+1=>match oz kd n most i with
  | none=>none
  | some st=>uS kd n most i st
def Bz(kd:Kd)(n:Net)(most:Int):Nat→Nat→q9→Option q9
 | 0,_,_=>none
 | f+1,i,st=>if i=st.1.length then some st else match uS kd n most i st with
  | none=>none
  | some st'=>Bz kd n most f (i+1) st'
def yQ(kd:Kd)(n:Net)(most:Int):Option q9:=Bz kd n most (most.toNat+1) 0 ([[0]],[],[])
def Val(n:Net)(s:List Int):Prop:=(∀x∈s,0≤x∧x < n.follow.length)∧s.length≤302
theorem Val.nn{n:Net}{s:List Int}(h:Val n s):uX s:=fun x hx=>(h.1 x hx).1
theorem ZjA{n:Net}(R:nR n)(set:List Int)(s:Int):(∀x∈qW n set s,1≤x∧x < n.follow.length)∧(qW n set s).length≤301:=by
 refine⟨fun x hx=>?_,ZnS R set s⟩;unfold qW at hx;rw[vU] at hx;unfold qB at hx;obtain⟨p,hp,hx⟩:=List.mem_flatMap.mp hx;unfold Cg at hx;split at hx
 ·rename_i h
  have h2:=(List.mem_filter.mp hx).1;have hlt:p.toNat < n.follow.length:=by omega
  rw[List.getD_eq_getElem?_getD,List.getElem?_eq_getElem hlt,Option.getD_some] at h2;have:=(R.follow _ hlt).2 x h2;have:=R.len;omega
 ·cases hx
theorem Q9{kd:Kd}{n:Net}(R:nR n){set:List Int}(h:Val n set)(s:Int):Val n (lI kd n set s):=by
 obtain⟨h1,h2⟩:=ZjA R set s;cases kd with
 | whole=>exact⟨fun x hx=>by have:=h1 x hx;omega,by show(qW n set s).length≤302;omega⟩
 | tails=>
  refine⟨fun x hx=>?_,by show(0::qW n set s).length≤302;simp only[List.length_cons];omega⟩;have hx':x=0∨x∈qW n set s:=by simpa[lI] using hx
  rcases hx' with rfl | hx'
  ·have:=R.n1;have:=R.len;omega
  ·have:=h1 x hx';omega
 | heads=>
  simp only[lI];split
  ·exact h
  ·exact⟨fun x hx=>by have:=h1 x hx;omega,by omega⟩
structure Ei(n:Net)(most:Int)(ss:List (List Int)):Prop where
 v:∀s∈ss,Val n s
 l:(ss.length:Int)≤most
theorem Zsh{n:Net}{most:Int}{ss:List (List Int)}{x:List Int}(h:Ei n most ss)(hx:Val n x){p:List (List Int)×Int}(e:yx most ss x=some p):Ei n most p.1∧ss.length≤p.1.length:=by
 unfold yx at e;split at e
 ·cases e;exact⟨h,Nat.le_refl _⟩
 ·split at e
  ·cases e
  ·cases e
   refine⟨⟨fun s hs=>?_,?_⟩,by simp⟩
   ·rcases List.mem_append.mp hs with hs | hs
    ·exact h.v s hs
    ·simp at hs;subst hs;exact hx
   ·have:=h.l;simp only[List.length_append,List.length_cons,List.length_nil];omega
theorem QT{n:Net}{most:Int}{b:Int→List Int}(hb:∀s,Val n (b s)){ss:List (List Int)}(h:Ei n most ss):∀(k:Nat) {p:List (List Int)×List Int},uq most b k ss=some p→Ei n most p.1∧ss.length≤p.1.length∧p.2.length=k
 | 0,p,e=>by simp only[uq,Option.some.injEq] at e;subst e;exact⟨h,Nat.le_refl _,rfl⟩
 | k+1,p,e=>by
  simp only[uq] at e;split at e
  ·cases e
  ·rename_i s1 r h1
   obtain⟨i1,i2,i3⟩:=QT hb h k h1;split at e
   ·cases e
   ·rename_i s2 j h2
    cases e;obtain⟨j1,j2⟩:=Zsh i1 (hb k) h2;exact⟨j1,Nat.le_trans i2 j2,by simp only at i3;simp[i3]⟩
theorem Zgz{most:Int}{b:Int→List Int}{ss:List (List Int)}{k:Nat}(h:uq most b k ss=none):∀m,k≤m→uq most b m ss=none
 | 0,hm=>by
  have:k=0:=by omega
  subst this;exact h
 | m+1,hm=>by
  by_cases hk:k=m+1
  ·subst hk;exact h
  ·simp only[uq,Zgz h m (by omega)]
structure Zf(n:Net)(most:Int)(i:Nat)(st:q9):Prop where
 ss:Ei n most st.1
 le:i≤st.1.length
 nx:st.2.1.length=i
 en:st.2.2.length=i
 row:∀r∈st.2.1,r.length=n.signs.toNat
theorem Zuq{kd:Kd}{n:Net}(R:nR n){most:Int}{i:Nat}{st st':q9}(h:Zf n most i st)(e:uS kd n most i st=some st'):Zf n most (i+1) st':=by
 unfold uS at e;split at e
 ·cases e
 ·rename_i set hs
  obtain⟨hlt,hse⟩:=List.getElem?_eq_some_iff.mp hs;split at e
  ·cases e
  ·rename_i s2 r h1
   cases e;obtain⟨j1,j2,j3⟩:=QT (n:=n) (fun s=>Q9 R (h.ss.v set (by rw[←hse];exact List.getElem_mem hlt)) s) h.ss _ h1;refine⟨j1,by simp only at j2 ⊢;omega,by simp[h.nx],by simp[h.en],fun r' hr=>?_⟩;rcases List.mem_append.mp hr with hr | hr
   ·exact h.row r' hr
   ·simp at hr;subst hr;exact j3
theorem Jt{kd:Kd}{n:Net}(R:nR n){most:Int}(hm:1≤most):∀(i:Nat) {st:q9},oz kd n most i=some st→Zf n most i st
 | 0,st,e=>by
  simp only[oz,Option.some.injEq] at e;subst e;refine⟨⟨fun s hs=>?_,by simpa using hm⟩,by simp,rfl,rfl,by simp⟩;simp only[List.mem_cons,List.not_mem_nil,or_false] at hs;subst hs;exact⟨fun x hx=>by simp at hx;subst hx;have:=R.n1;have:=R.len;omega,by simp⟩
 | i+1,st,e=>by
  simp only[oz] at e;split at e
  ·cases e
  ·rename_i st0 h0
   exact Zuq R (Jt R hm i h0) e
theorem Zms{kd:Kd}{n:Net}(R:nR n){most:Int}(hm:1≤most):∀(f i:Nat) {st:q9},oz kd n most i=some st→most.toNat+1≤f+i→∀j yH,i≤j→oz kd n most j=some yH→j=yH.1.length→(∀m,i≤m→m < j→∀oC,oz kd n most m=some oC→m≠oC.1.length)→Bz kd n most f i st=some yH
 | 0,i,st,h,hf,j,yH,hij,hj,hlen,hmin=>by
  have o:=Jt R hm i h;have:=o.ss.l;have:=o.le;omega
 | f+1,i,st,h,hf,j,yH,hij,hj,hlen,hmin=>by
  simp only[Bz];by_cases hi:i=st.1.length
  ·rw[if_pos hi]
   by_cases hij2:i=j
   ·subst hij2;rw[h] at hj;exact hj
   ·exact(hmin i (Nat.le_refl _) (by omega) st h hi).elim
  ·rw[if_neg hi]
   by_cases hij2:i=j
   ·subst hij2;rw[h] at hj;cases hj;exact(hi hlen).elim
   ·have hs1:oz kd n most (i+1)=uS kd n most i st:=by simp only[oz,h]
    cases hn:uS kd n most i st with
    | none=>
     exfalso;rw[hn] at hs1
     have key:∀m,i+1≤m→oz kd n most m=none:=by
      intro m;induction m with
      | zero=>intro hm;omega
      | succ m ih=>
       intro hm';by_cases qR:m=i
       ·subst qR;exact hs1
       ·simp only[oz,ih (by omega)]
     rw[key j (by omega)] at hj;cases hj
    | some st'=>
     rw[hn] at hs1;exact Zms R hm f (i+1) hs1 (by omega) j yH (by omega) hj hlen (fun m h1 h2=>hmin m (by omega) h2)
theorem ZiQ{kd:Kd}{n:Net}(R:nR n){most:Int}:∀(f i:Nat) {st:q9},oz kd n most i=some st→∀j,i≤j→oz kd n most (j+1)=none→(∀m,i≤m→m≤j→∀oC,oz kd n most m=some oC→m≠oC.1.length)→Bz kd n most f i st=none
 | 0,i,st,h,j,hij,hj,hmin=>rfl
 | f+1,i,st,h,j,hij,hj,hmin=>by
  simp only[Bz];rw[if_neg (hmin i (Nat.le_refl _) hij st h)];have hs1:oz kd n most (i+1)=uS kd n most i st:=by simp only[oz,h]
  cases hn:uS kd n most i st with
  | none=>rfl
  | some st'=>
   rw[hn] at hs1;simp only;by_cases hij2:i=j
   ·subst hij2;rw[hs1] at hj;cases hj
   ·exact ZiQ R f (i+1) hs1 j (by omega) hj (fun m h1 h2=>hmin m (by omega) h2)
theorem mh.P5y{g:Nat→Option aF}{n:Nat}{av:List Nat}{vs:List AV}{ls:List (List AV)}{v:AV}{l:List AV}(h:mh g n av (vs++[v]) (ls++[l])) :
  Vec g v 1 l∧(∀i∈v.ids,i < n∧i∉av)∧(∀w∈vs,∀i∈w.ids,i∉v.ids)∧mh g n av vs ls:=by
 have hl:vs.length=ls.length:=by have:=h.len;simpa using this
 have hp:=List.pairwise_append.mp h.sep;refine⟨?_,h.out v (by simp),fun w hw=>hp.2.2 w hw v (by simp),hl,fun t h1 h2=>?_,hp.1,fun w hw=>h.out w (by simp[hw])⟩
 ·have:=h.row vs.length (by simp) (by simp[hl])
  rw[List.getElem_append_right (by omega),List.getElem_append_right (by omega)] at this;simpa[hl] using this
 ·have:=h.row t (by simp;omega) (by simp;omega)
  rwa[List.getElem_append_left h1,List.getElem_append_left h2] at this
def rV:AV:=.agg [aj 0,.sl true [],.sl true []]
def wo(nx:List (List Int)):List (List AV):=nx.map fun l=>l.map aj
structure nE(S bE:St)(id km b4 b5:Nat)(n:Net)(most:Int)(ss nx:List (List Int))(en:List Bool)(v vN vE:AV)(rs ex:List AV)(GK:List (List AV)):Prop where
 mg:S.g id=some (.arr 7 [.agg [aj n.signs,aX n.aB,aX n.follow,aA n.last,aj most,.mp km,v]])
 mm:S.g km=some (.map (uj 0 ss))
 g4:S.g b4=some (.arr 3 [rV])
 g5:S.g b5=some (.arr 3 [.agg [aj n.signs,vN,vE]])
 rows:mh S.g S.n [id,km,b4,b5] (v::vN::vE::(rs++ex)) (ss.map aA::rs::en.map aH::(wo nx++GK))
 ne:id≠km
 lid:id < bE.n
 vK:km < bE.n
 l4:bE.n≤b4
 l5:bE.n≤b5
 n45:b4≠b5
 t4:b4 < S.n
 t5:b5 < S.n
 new:∀w∈(v::vN::vE::(rs++ex)),∀i∈w.ids,bE.n≤i
 old:∀i,i < bE.n→i≠id→i≠km→S.g i=bE.g i
 kZ:bE.n≤S.n
section
variable{S bE:St}{id km b4 b5:Nat}{n:Net}{most:Int}{ss nx:List (List Int)}{en:List Bool}{v vN vE:AV}{rs ex:List AV}{GK:List (List AV)}
theorem nE.mk'(h:nE S bE id km b4 b5 n most ss nx en v vN vE rs ex GK):wY S id km n most ss v:=by
 obtain⟨hv,ho,_⟩:=h.rows.head;refine⟨h.mg,h.mm,hv,h.ne,fun i hi=>?_,Nat.lt_of_lt_of_le h.lid h.kZ,Nat.lt_of_lt_of_le h.vK h.kZ,fun i hi=>(ho i hi).1⟩;have:=(ho i hi).2;simp only[List.mem_cons,not_or] at this;exact⟨this.1,this.2.1⟩
theorem nE.up(h:nE S bE id km b4 b5 n most ss nx en v vN vE rs ex GK){m:Nat}(hm:S.n≤m):nE ⟨m,S.g⟩ bE id km b4 b5 n most ss nx en v vN vE rs ex GK:=
 ⟨h.mg,h.mm,h.g4,h.g5,h.rows.frame hm (fun _ _ _ _=>rfl),h.ne,h.lid,h.vK,h.l4,h.l5,h.n45,Nat.lt_of_lt_of_le h.t4 hm,Nat.lt_of_lt_of_le h.t5 hm,h.new,h.old,Nat.le_trans h.kZ hm⟩
theorem nE.num(h:nE S bE id km b4 b5 n most ss nx en v vN vE rs ex GK){S':St}{ss':List (List Int)}{v':AV}(M:wY S' id km n most ss' v')(F:Uq S S' (id::km::v.ids))(hv':∀i∈v'.ids,S.n≤i) :
  nE S' bE id km b4 b5 n most ss' nx en v' vN vE rs ex GK:=by
 obtain⟨hv,ho,hs,hr⟩:=h.rows.head;have ZN:=h.lid;have ZO:=h.vK;have h4:=h.l4;have h5:=h.l5;have TJ:=h.kZ;have NY:=h.t4;have TF:=h.t5;have key:∀i,i < S.n→i≠id→i≠km→i∉v.ids→S'.g i=S.g i:=fun i h1 h2 h3 h4=>F.g i h1 (by simp[h2,h3,h4])
 have Ka:∀b,b∈[id,km,b4,b5]→b∉v.ids:=fun b hb hi=>(ho b hi).2 hb
 have hFn:=F.n;refine⟨M.g,M.m,?_,?_,?_,h.ne,h.lid,h.vK,h.l4,h.l5,h.n45,by omega,by omega,fun w hw i hi=>?_,fun i h1 h2 h3=>?_,by omega⟩
 ·rw[key b4 NY (by omega) (by omega) (Ka b4 (by simp))];exact h.g4
 ·rw[key b5 TF (by omega) (by omega) (Ka b5 (by simp))];exact h.g5
 ·refine mh.cons M.vec (fun i hi=>⟨M.lv i hi,?_⟩) (fun w hw i hi hi2=>?_) (hr.frame hFn (fun w hw i hi=>?_))
  ·have:=hv' i hi
   simp only[List.mem_cons,List.not_mem_nil,or_false,not_or];omega
  ·have:=(hr.out w hw i hi2).1
   have:=hv' i hi;omega
  ·have h1:=hr.out w hw i hi
   have h2:=h1.2;simp only[List.mem_cons,List.not_mem_nil,or_false,not_or] at h2;exact key i h1.1 h2.1 h2.2.1 (fun h3=>hs w hw i h3 hi)
 ·rcases List.mem_cons.mp hw with rfl | hw
  ·have:=hv' i hi;omega
  ·exact h.new w (List.mem_cons_of_mem _ hw) i hi
 ·rw[key i (by omega) h2 h3 (fun h4=>by have:=h.new v (by simp) i h4;omega)];exact h.old i h1 h2 h3
theorem nE.row(h:nE S bE id km b4 b5 n most ss nx en v vN vE rs [] []){q:Nat}(hq:S.n≤q){m:Nat}(hm:q < m){zs:List AV}{L:Nat}(hL:zs.length=L) :
  nE ((St.mk m S.g).set q (some (.arr 1 zs))) bE id km b4 b5 n most ss nx en v vN vE rs [.own q 0 L] [zs]:=by
 have ZN:=h.lid;have ZO:=h.vK;have TJ:=h.kZ;have NY:=h.t4;have TF:=h.t5;have key:∀i,i < S.n→((St.mk m S.g).set q (some (.arr 1 zs))).g i=S.g i:=fun i hi=>by rw[aG,if_neg (by omega)]
 have hr:=h.rows;simp only[List.append_nil] at hr;have hr2:mh ((St.mk m S.g).set q (some (.arr 1 zs))).g m [id,km,b4,b5] (v::vN::vE::rs) (ss.map aA::rs::en.map aH::wo nx):=hr.frame (by omega) (fun w hw i hi=>key i (hr.out w hw i hi).1)
 have hfin:=hr2.snoc (v:=.own q 0 L) (l:=zs) (.mk' (by simp[aG]) hL.symm) (fun i hi=>by
   simp only[AV.ids,List.mem_singleton] at hi;subst hi;refine⟨hm,?_⟩;simp only[List.mem_cons,List.not_mem_nil,or_false,not_or];omega) (fun w hw i hi hi2=>by
   simp only[AV.ids,List.mem_singleton] at hi2;have:=(hr.out w hw i hi).1;omega)
 refine⟨by rw[key id (by omega)];exact h.mg,by rw[key km (by omega)];exact h.mm,by rw[key b4 NY];exact h.g4,by rw[key b5 TF];exact h.g5,?_,h.ne,h.lid,h.vK,h.l4,h.l5,h.n45,by show b4 < m;omega,by show b5 < m;omega,fun w hw i hi=>?_,fun i h1 h2 h3=>by rw[key i (by omega)];exact h.old i h1 h2 h3,by show bE.n≤m;omega⟩
 ·rw[bf];simpa using hfin
 ·simp only[List.mem_cons,List.mem_append,List.not_mem_nil,or_false] at hw
  have hn:=h.new;simp only[List.append_nil] at hn;rcases hw with rfl | rfl | rfl | hw | rfl
  ·exact hn _ (by simp) i hi
  ·exact hn _ (by simp) i hi
  ·exact hn _ (by simp) i hi
  ·exact hn _ (by simp[hw]) i hi
  ·simp only[AV.ids,List.mem_singleton] at hi;omega
theorem nE.b7{q L:Nat}{zs:List AV}(h:nE S bE id km b4 b5 n most ss nx en v vN vE rs [.own q 0 L] [zs]):S.g q=some (.arr 1 zs)∧zs.length=L∧q < S.n:=by
 have hr:mh S.g S.n [id,km,b4,b5] ((v::vN::vE::rs)++[.own q 0 L]) ((ss.map aA::rs::en.map aH::wo nx)++[zs]):=by simpa using h.rows
 obtain⟨a,b,c,d⟩:=hr.P5y;rcases a with⟨e,_⟩ | ⟨id',off,ys,e,g',ho,hd⟩
 ·cases e
 ·cases e
  simp only[List.drop_zero] at hd;subst hd;exact⟨g',rfl,(b q (by simp[AV.ids])).1⟩
theorem nE.put{q L:Nat}{zs zs':List AV}(h:nE S bE id km b4 b5 n most ss nx en v vN vE rs [.own q 0 L] [zs])(hl:zs'.length=zs.length){m:Nat}(hm:S.n≤m) :
  nE ((St.mk m S.g).set q (some (.arr 1 zs'))) bE id km b4 b5 n most ss nx en v vN vE rs [.own q 0 L] [zs']:=by
 obtain⟨hq,hL,Ew⟩:=h.b7;have hr:mh S.g S.n [id,km,b4,b5] ((v::vN::vE::rs)++[.own q 0 L]) ((ss.map aA::rs::en.map aH::wo nx)++[zs]):=by simpa using h.rows
 obtain⟨a,b,c,d⟩:=hr.P5y;have hqo:=(b q (by simp[AV.ids])).2;simp only[List.mem_cons,List.not_mem_nil,or_false,not_or] at hqo;have hqS:bE.n≤q:=h.new (.own q 0 L) (by simp) q (by simp[AV.ids]);have key:∀i,i≠q→((St.mk m S.g).set q (some (.arr 1 zs'))).g i=S.g i:=fun i hi=>by rw[aG,if_neg hi]
 have TJ:=h.kZ;have t4:=h.t4;have t5:=h.t5
 have hfin:=(d.frame (g':=((St.mk m S.g).set q (some (.arr 1 zs'))).g) hm (fun w hw i hi=>key i (fun e=>c w hw i hi (by simp[AV.ids,e])))).snoc (v:=.own q 0 L) (l:=zs') (.mk' (by simp[aG]) (by rw[hl,hL])) (fun i hi=>by
   have:=b i hi;exact⟨by omega,this.2⟩) c
 refine⟨by rw[key id (fun e=>hqo.1 e.symm)];exact h.mg,by rw[key km (fun e=>hqo.2.1 e.symm)];exact h.mm,by rw[key b4 (fun e=>hqo.2.2.1 e.symm)];exact h.g4,by rw[key b5 (fun e=>hqo.2.2.2 e.symm)];exact h.g5,?_,h.ne,h.lid,h.vK,h.l4,h.l5,h.n45,by show b4 < m;omega,by show b5 < m;omega,h.new,fun i h1 h2 h3=>by rw[key i (by omega)];exact h.old i h1 h2 h3,by show bE.n≤m;omega⟩;rw[bf];simpa using hfin
theorem nE.fz(h:nE S bE id km b4 b5 n most ss nx en v vN vE rs [] []){g:Nat→Option aF}(hg:∀i,bE.n≤i→i≠b4→g i=S.g i):Fz g vN (aX nx)∧Fz g vE (ji en):=by
 have hrows:=h.rows.frame (g':=g) (n':=S.n) (Nat.le_refl _) (fun w hw i hi=>hg i (h.new w hw i hi) (fun e=>(h.rows.out w hw i hi).2 (by simp[e])));obtain⟨_,_,_,hr⟩:=hrows.head;obtain⟨hN,_,_,hr2⟩:=hr.head;obtain⟨hE,_,_,hr3⟩:=hr2.head;simp only[List.append_nil] at hr3;refine⟨?_,?_⟩
 ·have hl:nx.length=rs.length:=by have:=hr3.len;simpa[wo] using this.symm
  refine hN.fzL (by simpa using hl) (fun i h1 h2=>?_);have h3:=hr3.row i h1 (by simpa[wo,hl] using h1);simp only[wo,List.getElem_map] at h3 ⊢;exact h3.fz aS
 ·exact hE.fz bY
theorem Vec.P6e{g:Nat→Option aF}{v:AV}{es:Nat}{xs zs:List AV}(h:Vec g v es xs)(hl:zs.length=xs.length)(hz:∀i (h1:i < xs.length) (h2:i < zs.length),lW g (xs[i]) (zs[i])):lW g v (.sl false zs):=by
 rcases h with⟨rfl,h0⟩ | ⟨id,off,ys,rfl,h1,h2,h3⟩
 ·subst h0
  have:zs=[]:=List.eq_nil_of_length_eq_zero hl;subst this;exact .nil true false (by simp)
 ·have hle:off+xs.length=ys.length:=by rw[←h3];simp;omega
  have ht:(ys.drop off).take xs.length=xs:=by rw[h3,List.take_length]
  refine .own id off _ es ys zs h1 (by omega) hl (fun i k1 k2=>?_);simp only[ht] at k1 ⊢;exact hz i k1 k2
theorem lW.mono{g g':Nat→Option aF}{x y:AV}(h:lW g x y)(hg:∀i k,g i=some k→g' i=some k):lW g' x y:=by
 induction h with
 | v x=>exact .v x
 | nil t u h=>exact .nil t u h
 | own id off len es xs zs hi hl hz h ih=>exact .own id off len es xs zs (hg _ _ hi) hl hz ih
 | agg cs ds hl h ih=>exact .agg cs ds hl ih
 | aN cs ds hl h ih=>exact .aN cs ds hl ih
theorem nE.NI(h:nE S bE id km b4 b5 n most ss nx en v vN vE rs [] []){g:Nat→Option aF}(hg:∀i,bE.n≤i→i≠b4→i < S.n→g i=S.g i):lW g vN (aX nx)∧lW g vE (ji en):=by
 have hrows:=h.rows.frame (g':=g) (n':=S.n) (Nat.le_refl _) (fun w hw i hi=>hg i (h.new w hw i hi) (fun e=>(h.rows.out w hw i hi).2 (by simp[e])) (h.rows.out w hw i hi).1);obtain⟨_,_,_,hr⟩:=hrows.head;obtain⟨hN,_,_,hr2⟩:=hr.head;obtain⟨hE,_,_,hr3⟩:=hr2.head;simp only[List.append_nil] at hr3;refine⟨?_,?_⟩
 ·have hl:nx.length=rs.length:=by have:=hr3.len;simpa[wo] using this.symm
  refine hN.P6e (by simpa using hl) (fun i h1 h2=>?_);have h3:=hr3.row i h1 (by simpa[wo,hl] using h1);simp only[wo,List.getElem_map] at h3 ⊢;exact h3.NI
 ·refine hE.P6e (by simp) (fun i h1 h2=>?_)
  simp only[List.getElem_map];exact .v _
end
def MX(p:aM)(l:List Int)(at_:Int):List Int:=if at_ < 0∨(l.length:Int) < at_ then [] else (CV (Bf l p at_)).mergeSort fun x y=>decide (x≤y)
def nO(p:aM)(l:List Int)(a b:Int):Bool:=(MX p l a).contains b
theorem Zpf{p:aM}{l:List Int}{at_:Int}:∀x∈MX p l at_,0≤x∧x≤(l.length:Int):=by
 intro x hx;unfold MX at hx;split at hx
 ·simp at hx
 ·rename_i h
  have h1:=zN.mp ((List.mergeSort_perm _ _).mem_iff.mp hx);have:=Fv l p at_ (by omega) (by omega) x h1
  omega
theorem Zi9:∀{ks:List aM},(∀q∈ks,uP q)→zW ks
 | [],_=>trivial
 | p::ps,h=>⟨h p (by simp),Zi9 (fun q hq=>h q (by simp[hq]))⟩
structure oF where
 num:Int
 cut:Bool
 before:aM
 after:aM
 pos:Int
def qG(r:oF):AV:=.agg ([aj r.num,aH r.cut]++(jf r.before).cells++(jf r.after).cells++[aj r.pos])
theorem ZfQ(r:oF):∃cs:List AV,qG r=.agg cs∧cs.length=11∧∀y∈cs,aY y:=by
 refine⟨_,rfl,?_,fun y hy=>?_⟩
 ·simp[VT]
 ·simp only[List.mem_append,List.mem_cons,List.not_mem_nil,or_false] at hy
  rcases hy with(((rfl | rfl) | hy) | hy) | rfl
  ·exact aS _
  ·exact bY _
  ·exact(xV r.before).cells y hy
  ·exact(xV r.after).cells y hy
  ·exact aS _
theorem Zk2(r:oF):aY (qG r):=by
 obtain⟨cs,h1,_,h3⟩:=ZfQ r;rw[h1];exact .agg _ h3
theorem Zra(r:oF):(qG r).cells.length=11:=by
 obtain⟨cs,h1,h2,_⟩:=ZfQ r;rw[h1];simpa[AV.cells] using h2
structure Bk where
 vars:AV
 rules:List oF
 allows:AV
 used:AV
def Ni(g:Nat→Option aF)(v:AV)(es:Nat)(xs:List AV):Prop:=(v=.sl true []∧xs=[])∨∃id,v=.own id 0 xs.length∧g id=some (.arr es xs)
theorem Ni.vec{g:Nat→Option aF}{v:AV}{es:Nat}{xs:List AV}(h:Ni g v es xs):Vec g v es xs:=by
 rcases h with⟨rfl,rfl⟩ | ⟨id,rfl,h⟩
 ·exact .nil
 ·exact .mk h
theorem Ni.frame{g g':Nat→Option aF}{v:AV}{es:Nat}{xs:List AV}(h:Ni g v es xs)(hs:∀i∈v.ids,g' i=g i):Ni g' v es xs:=by
 rcases h with h | ⟨id,rfl,h⟩
 ·exact .inl h
 ·exact .inr ⟨id,rfl,by rw[hs id (by simp[AV.ids])];exact h⟩
inductive lV (r:Int→Int→Prop):Int→Int→Prop
 | one {a b:Int} (h:r a b):lV r a b
 | more {a b c:Int} (h:lV r a b) (k:r b c):lV r a c
theorem lV.trans{r:Int→Int→Prop}{a b c:Int}(h:lV r a b)(k:lV r b c):lV r a c:=by
 induction k with
 | one k=>exact .more h k
 | more _ k ih=>exact .more ih k
theorem lV.head{r:Int→Int→Prop}{a c:Int}(h:lV r a c):∃b,r a b∧(b=c∨lV r b c):=by
 induction h with
 | one h=>exact⟨_,h,.inl rfl⟩
 | more h k ih=>
  obtain⟨b,h1,h2⟩:=ih;refine⟨b,h1,.inr ?_⟩;rcases h2 with rfl | h2
  ·exact .one k
  ·exact .more h2 k
mutual
def MR(S:List Int→Int→Int→Prop):aM→Int→Int→Prop
 | .mk k _ g ks,a,b=>if k=1 then a=b else if k=2 then S g a b else if k=3 then MA S ks a b else if k=4 then MO S ks a b else if k=7∨k=5∨k=6 then MG S ks k a b else False
def MA(S:List Int→Int→Int→Prop):List aM→Int→Int→Prop
 | [],a,b=>a=b
 | q::qs,a,b=>∃m,MR S q a m∧MA S qs m b
def MO(S:List Int→Int→Int→Prop):List aM→Int→Int→Prop
 | [],_,_=>False
 | q::qs,a,b=>MR S q a b∨MO S qs a b
def MG(S:List Int→Int→Int→Prop):List aM→Int→Int→Int→Prop
 | [q],k,a,b=>(k≠6∧a=b)∨(if k=7 then MR S q a b else lV (MR S q) a b)
 | _,_,_,_=>False
end
def nW(l:List Int)(g:List Int)(a b:Int):Prop:=b=a+1∧0≤a∧a < l.length∧l.getD a.toNat 0∈g
theorem Zl8(xs:List Int):∀(acc:List Int),∃t,yt acc xs=acc++t:=by
 induction xs with
 | nil=>intro acc;exact⟨[],by simp[yt]⟩
 | cons x xs ih=>
  intro acc;simp only[yt];obtain⟨t,ht⟩:=ih (if acc.contains x=true then acc else acc++[x]);split at ht
  ·exact⟨t,by rw[if_pos (by assumption)];exact ht⟩
  ·rw[if_neg (by assumption)]
   exact⟨[x]++t,by rw[ht];simp⟩
theorem ZoY{v:Int→List Int}{n:Nat}{at_:Int}(hv:∀x:Int,0≤x→x≤n→∀y∈v x,0≤y∧y≤(n:Int))(h0:0≤at_∧at_≤n) :
  ∀(f:Nat) (met:List Int) (i:Nat),met.Nodup→(∀x∈met,0≤x∧x≤(n:Int))→i≤met.length→n+2≤f+i→(∀y∈v at_,y∈met)→(∀x∈met,lV (fun a b=>b∈v a) at_ x)→
   (∀j (h:j < met.length),j < i→∀y∈v met[j],y∈met)→∀y,y∈JR v f met i↔lV (fun a b=>b∈v a) at_ y:=by
 have done:∀(met:List Int),(∀y∈v at_,y∈met)→(∀x∈met,∀y∈v x,y∈met)→∀y,lV (fun a b=>b∈v a) at_ y→y∈met:=by
  intro met h1 h2 y hy;induction hy with
  | one h=>exact h1 _ h
  | more h k ih=>exact h2 _ ih _ k
 intro f;induction f with
 | zero=>
  intro met i hnd hb hi hf h1 h2 h3 y;have:=WK (n+1) hnd (fun x hx=>by have:=hb x hx;omega);omega
 | succ f ih=>
  intro met i hnd hb hi hf h1 h2 h3 y;simp only[JR];split
  ·rename_i hlt
   have hbi:=hb _ (List.getElem_mem hlt);obtain⟨t,ht⟩:=Zl8 (v met[i]) met;have hlen:met.length≤(yt met (v met[i])).length:=by rw[ht];simp
   refine ih _ _ (Wu hnd) (fun x hx=>?_) (by omega) (by omega) (fun y hy=>DF.mpr (.inl (h1 y hy))) (fun x hx=>?_) (fun j hj hji y hy=>?_) y
   ·rcases DF.mp hx with hx | hx
    ·exact hb x hx
    ·exact hv _ hbi.1 hbi.2 x hx
   ·rcases DF.mp hx with hx | hx
    ·exact h2 x hx
    ·exact .more (h2 _ (List.getElem_mem hlt)) hx
   ·have hjm:j < met.length:=by omega
    have e:(yt met (v met[i]))[j]=met[j]:=by simp only[ht];exact List.getElem_append_left hjm
    rw[e] at hy;by_cases aaY:j=i
    ·subst aaY;exact DF.mpr (.inr hy)
    ·exact DF.mpr (.inl (h3 j hjm (by omega) y hy))
  ·rename_i hlt
   have hie:i=met.length:=by omega
   refine⟨fun h=>h2 y h,fun h=>done met h1 (fun x hx y hy=>?_) y h⟩;obtain⟨j,hj,rfl⟩:=List.mem_iff_getElem.mp hx;exact h3 j hj (by omega) y hy
theorem Zrj{v:Int→List Int}{n:Nat}{k at_:Int}(hv:∀x:Int,0≤x→x≤n→∀y∈v x,0≤y∧y≤(n:Int))(h0:0≤at_∧at_≤n)(y:Int) :
  y∈Nu v k n at_↔(k≠6∧at_=y)∨(if k=7 then y∈v at_ else lV (fun a b=>b∈v a) at_ y):=by
 unfold Nu;rw[List.mem_append]
 have h1:y∈(if k=6 then ([]:List Int) else [at_])↔k≠6∧at_=y:=by
  by_cases h:k=6
  ·simp[h]
  ·simp[h];exact⟨fun e=>e.symm,fun e=>e.symm⟩
 rw[h1];by_cases h7:k=7
 ·rw[if_pos h7,if_pos h7,zN]
 ·rw[if_neg h7,if_neg h7]
  have:=ZoY hv h0 (n+2) (CV (v at_)) 0 (ZlZ _) (fun x hx=>hv _ h0.1 h0.2 x (zN.mp hx)) (Nat.zero_le _) (by omega) (fun y hy=>zN.mpr hy) (fun x hx=>.one (zN.mp hx)) (fun j hj h=>by omega) y;rw[this]
theorem lV.congr{r s:Int→Int→Prop}{lo hi:Int}(hrs:∀a b,lo≤a→a≤hi→(r a b↔s a b))(hb:∀a b,lo≤a→a≤hi→r a b→lo≤b∧b≤hi){a b:Int}(ha:lo≤a∧a≤hi):lV r a b↔lV s a b:=by
 constructor
 ·intro h
  have key:∀{b},lV r a b→(lo≤b∧b≤hi)∧lV s a b:=by
   intro b h;induction h with
   | one h=>exact⟨hb _ _ ha.1 ha.2 h,.one ((hrs _ _ ha.1 ha.2).mp h)⟩
   | more _ k ih=>
    obtain⟨h1,h2⟩:=ih;exact⟨hb _ _ h1.1 h1.2 k,.more h2 ((hrs _ _ h1.1 h1.2).mp k)⟩
  exact(key h).2
 ·intro h
  have key:∀{b},lV s a b→(lo≤b∧b≤hi)∧lV r a b:=by
   intro b h;induction h with
   | one h=>have h':=(hrs _ _ ha.1 ha.2).mpr h;exact⟨hb _ _ ha.1 ha.2 h',.one h'⟩
   | more _ k ih=>
    obtain⟨h1,h2⟩:=ih;have h':=(hrs _ _ h1.1 h1.2).mpr k;exact⟨hb _ _ h1.1 h1.2 h',.more h2 h'⟩
  exact(key h).2
mutual
theorem II(l:List Int):∀(p:aM) (a b:Int),0≤a→a≤l.length→(b∈Bf l p a↔MR (nW l) p a b)
 | .mk k s g ks,a,b,h0,hn=>by
  rw[Bf,MR];by_cases h1:k=1
  ·rw[if_pos h1,if_pos h1];simp;exact⟨fun e=>e.symm,fun e=>e.symm⟩
  ·rw[if_neg h1,if_neg h1]
   by_cases h2:k=2
   ·rw[if_pos h2,if_pos h2]
    unfold nW;by_cases hc:a < l.length∧g.contains (l.getD a.toNat 0)=true
    ·rw[if_pos hc]
     have hm:l.getD a.toNat 0∈g:=by simpa using hc.2
     simp only[List.mem_cons,List.not_mem_nil,or_false];exact⟨fun e=>⟨e,h0,hc.1,hm⟩,fun e=>e.1⟩
    ·rw[if_neg hc]
     simp only[List.not_mem_nil,false_iff];rintro⟨_,_,h3,h4⟩;exact hc ⟨h3,by simpa using h4⟩
   ·rw[if_neg h2,if_neg h2]
    by_cases h3:k=3
    ·rw[if_pos h3,if_pos h3,ZgU l ks [a] b (by simp;exact⟨h0,hn⟩)];simp
    ·rw[if_neg h3,if_neg h3]
     by_cases h4:k=4
     ·rw[if_pos h4,if_pos h4,ZjF l ks a b h0 hn]
     ·rw[if_neg h4,if_neg h4]
      by_cases h5:k=7∨k=5∨k=6
      ·rw[if_pos h5,if_pos h5];exact Zqi l ks k a b h0 hn
      ·rw[if_neg h5,if_neg h5];simp
theorem ZgU(l:List Int):∀(ks:List aM) (cur:List Int) (b:Int),(∀x∈cur,0≤x∧x≤l.length)→(b∈DY l ks cur↔∃a∈cur,MA (nW l) ks a b)
 | [],cur,b,h=>by rw[DY];simp[MA]
 | q::qs,cur,b,h=>by
  rw[DY,ZgU l qs _ b (fun x hx=>by
   obtain⟨a,ha,hx2⟩:=List.mem_flatMap.mp (zN.mp hx);have h1:=h a ha;have:=Fv l q a h1.1 h1.2 x hx2;omega)]
  constructor
  ·rintro⟨m,hm,hr⟩
   obtain⟨a,ha,hx2⟩:=List.mem_flatMap.mp (zN.mp hm);have h1:=h a ha;exact⟨a,ha,by rw[MA];exact⟨m,(II l q a m h1.1 h1.2).mp hx2,hr⟩⟩
  ·rintro⟨a,ha,hr⟩
   rw[MA] at hr;obtain⟨m,h2,h3⟩:=hr;have h1:=h a ha;exact⟨m,zN.mpr (List.mem_flatMap.mpr ⟨a,ha,(II l q a m h1.1 h1.2).mpr h2⟩),h3⟩
theorem ZjF(l:List Int):∀(ks:List aM) (a b:Int),0≤a→a≤l.length→(b∈D9 l ks a↔MO (nW l) ks a b)
 | [],a,b,_,_=>by rw[D9,MO];simp
 | q::qs,a,b,h0,hn=>by rw[D9,MO,List.mem_append,II l q a b h0 hn,ZjF l qs a b h0 hn]
theorem Zqi(l:List Int):∀(ks:List aM) (k a b:Int),0≤a→a≤l.length→(b∈CO l ks k a↔MG (nW l) ks k a b)
 | [q],k,a,b,h0,hn=>by
  rw[CO,MG,Zrj (fun x hx hy y hm=>by have:=Fv l q x hx hy y hm;omega) ⟨h0,hn⟩]
  have e1:(if k=7 then b∈Bf l q a else lV (fun a b=>b∈Bf l q a) a b)↔(if k=7 then MR (nW l) q a b else lV (MR (nW l) q) a b):=by
   by_cases h7:k=7
   ·rw[if_pos h7,if_pos h7];exact II l q a b h0 hn
   ·rw[if_neg h7,if_neg h7]
    exact lV.congr (lo:=0) (hi:=l.length) (fun x y hx hy=>II l q x y hx hy) (fun x y hx hy hm=>by have:=Fv l q x hx hy y hm;omega) ⟨h0,hn⟩
  rw[e1]
 | [],k,a,b,_,_=>by rw[CO,MG]<;>simp
 | q::r::qs,k,a,b,_,_=>by rw[CO,MG]<;>simp
end
theorem Zpe{p:aM}{l:List Int}{a b:Int}:b∈MX p l a↔0≤a∧a≤l.length∧MR (nW l) p a b:=by
 unfold MX;by_cases h:a < 0∨(l.length:Int) < a
 ·rw[if_pos h];simp;intro h1 h2;omega
 ·rw[if_neg h,(List.mergeSort_perm _ _).mem_iff,zN,II l p a b (by omega) (by omega)]
  constructor
  ·intro hm;exact⟨by omega,by omega,hm⟩
  ·exact fun hm=>hm.2.2
theorem DJ{p:aM}{l:List Int}{a b:Int}:nO p l a b=true↔0≤a∧a≤l.length∧MR (nW l) p a b:=by
 unfold nO;rw[List.contains_iff_mem,Zpe]
def Inc(S:List Int→Int→Int→Prop):Prop:=∀g a b,S g a b→a < b
theorem Zqs{r:Int→Int→Prop}(h:∀a b,r a b→a≤b){a b:Int}(k:lV r a b):a≤b:=by
 induction k with
 | one k=>exact h _ _ k
 | more _ k ih=>have:=h _ _ k;omega
mutual
theorem FJ{S:List Int→Int→Int→Prop}(hS:Inc S):∀(p:aM) (a b:Int),MR S p a b→a≤b
 | .mk k s g ks,a,b,h=>by
  rw[MR] at h;split at h
  ·omega
  ·split at h
   ·have:=hS _ _ _ h;omega
   ·split at h
    ·exact Ye hS ks a b h
    ·split at h
     ·exact Zqn hS ks a b h
     ·split at h
      ·exact Ztl hS ks k a b h
      ·exact h.elim
theorem Ye{S:List Int→Int→Int→Prop}(hS:Inc S):∀(ks:List aM) (a b:Int),MA S ks a b→a≤b
 | [],a,b,h=>by rw[MA] at h;omega
 | q::qs,a,b,h=>by
  rw[MA] at h;obtain⟨m,h1,h2⟩:=h;have:=FJ hS q a m h1;have:=Ye hS qs m b h2;omega
theorem Zqn{S:List Int→Int→Int→Prop}(hS:Inc S):∀(ks:List aM) (a b:Int),MO S ks a b→a≤b
 | [],a,b,h=>by rw[MO] at h;exact h.elim
 | q::qs,a,b,h=>by
  rw[MO] at h;rcases h with h | h
  ·exact FJ hS q a b h
  ·exact Zqn hS qs a b h
theorem Ztl{S:List Int→Int→Int→Prop}(hS:Inc S):∀(ks:List aM) (k a b:Int),MG S ks k a b→a≤b
 | [q],k,a,b,h=>by
  rw[MG] at h;rcases h with h | h
  ·omega
  ·split at h
   ·exact FJ hS q a b h
   ·exact Zqs (fun a b h=>FJ hS q a b h) h
 | [],k,a,b,h=>by simp[MG] at h
 | q::r::qs,k,a,b,h=>by simp[MG] at h
end
structure GE where
 bK:Prop
 fst:Nat→Prop
 aT:Nat→Prop
 dH:Nat→Nat→Prop
section
variable(T:Nat→Int→Int→Prop)
inductive Rn (F:Nat→Nat→Prop):Nat→Int→Nat→Int→Prop where
 | refl (s:Nat) (a:Int):Rn F s a s a
 | step (s t u:Nat) (a m b:Int) (h:F s t) (k:T t a m) (r:Rn F t m u b):Rn F s a u b
def Acc(E:GE)(a b:Int):Prop:=(E.bK∧a=b)∨∃s m t,E.fst s∧T s a m∧Rn T E.dH s m t b∧E.aT t
end
section
variable{T:Nat→Int→Int→Prop}
theorem Rn.mono{F G:Nat→Nat→Prop}(h:∀s t,F s t→G s t){s t:Nat}{a b:Int}(r:Rn T F s a t b):Rn T G s a t b:=by
 induction r with
 | refl s a=>exact .refl s a
 | step s t u a m b hf k r ih=>exact .step s t u a m b (h _ _ hf) k ih
theorem Rn.trans{F:Nat→Nat→Prop}{s t u:Nat}{a m b:Int}(r:Rn T F s a t m)(r2:Rn T F t m u b):Rn T F s a u b:=by
 induction r with
 | refl s a=>exact r2
 | step s t u a m b hf k r ih=>exact .step _ _ _ _ _ _ hf k (ih r2)
structure In(E:GE)(b c:Nat):Prop where
 fst:∀s,E.fst s→b≤s∧s < c
 aT:∀s,E.aT s→b≤s∧s < c
 dH:∀s t,E.dH s t→(b≤s∧s < c)∧b≤t∧t < c
def tK(E G:GE):GE:=⟨E.bK∧G.bK,fun s=>E.fst s∨(E.bK∧G.fst s),fun s=>(E.aT s∧G.bK)∨G.aT s,fun s t=>E.dH s t∨G.dH s t∨(E.aT s∧G.fst t)⟩
def uo(E G:GE):GE:=⟨E.bK∨G.bK,fun s=>E.fst s∨G.fst s,fun s=>E.aT s∨G.aT s,fun s t=>E.dH s t∨G.dH s t⟩
def zY(E:GE)(n:Prop):GE:=⟨E.bK∨n,E.fst,E.aT,fun s t=>E.dH s t∨(E.aT s∧E.fst t)⟩
def Cu(E:GE):GE:=⟨True,E.fst,E.aT,E.dH⟩
theorem In.cat{E G:GE}{b c d:Nat}(h:In E b c)(k:In G c d)(hbc:b≤c)(hcd:c≤d):In (tK E G) b d:=by
 refine⟨fun s hs=>?_,fun s hs=>?_,fun s t hs=>?_⟩
 ·rcases hs with hs | ⟨_,hs⟩
  ·have:=h.fst s hs;omega
  ·have:=k.fst s hs;omega
 ·rcases hs with⟨hs,_⟩ | hs
  ·have:=h.aT s hs;omega
  ·have:=k.aT s hs;omega
 ·rcases hs with hs | hs | ⟨h1,h2⟩
  ·have:=h.dH s t hs;omega
  ·have:=k.dH s t hs;omega
  ·have:=h.aT s h1;have:=k.fst t h2;omega
theorem In.alt{E G:GE}{b c d:Nat}(h:In E b c)(k:In G c d)(hbc:b≤c)(hcd:c≤d):In (uo E G) b d:=by
 refine⟨fun s hs=>?_,fun s hs=>?_,fun s t hs=>?_⟩
 ·rcases hs with hs | hs
  ·have:=h.fst s hs;omega
  ·have:=k.fst s hs;omega
 ·rcases hs with hs | hs
  ·have:=h.aT s hs;omega
  ·have:=k.aT s hs;omega
 ·rcases hs with hs | hs
  ·have:=h.dH s t hs;omega
  ·have:=k.dH s t hs;omega
theorem In.plus{E:GE}{b c:Nat}(h:In E b c)(n:Prop):In (zY E n) b c:=by
 refine⟨h.fst,h.aT,fun s t hs=>?_⟩;rcases hs with hs | ⟨h1,h2⟩
 ·exact h.dH s t hs
 ·exact⟨h.aT s h1,h.fst t h2⟩
theorem Rn.right{E G:GE}{b c d:Nat}(h:In E b c)(k:In G c d){F:Nat→Nat→Prop}(hF:∀s t,F s t→E.dH s t∨G.dH s t∨(E.aT s∧G.fst t)){s t:Nat}{a e:Int}(r:Rn T F s a t e)(hs:c≤s):Rn T G.dH s a t e∧c≤t:=by
 induction r with
 | refl s a=>exact⟨.refl s a,hs⟩
 | step s t u a m e hf kk r ih=>
  rcases hF s t hf with hf | hf | ⟨h1,_⟩
  ·have:=h.dH s t hf;omega
  ·have:=k.dH s t hf
   obtain⟨i1,i2⟩:=ih (by omega);exact⟨.step _ _ _ _ _ _ hf kk i1,i2⟩
  ·have:=h.aT s h1;omega
theorem Rn.left{E G:GE}{b c d:Nat}(h:In E b c)(k:In G c d){F:Nat→Nat→Prop}(hF:∀s t,F s t→E.dH s t∨G.dH s t∨(E.aT s∧G.fst t)){s t:Nat}{a e:Int}(r:Rn T F s a t e)(hs:s < c) :
  (t < c∧Rn T E.dH s a t e)∨∃u m v w,Rn T E.dH s a u m∧E.aT u∧G.fst v∧T v m w∧Rn T G.dH v w t e∧c≤t:=by
 induction r with
 | refl s a=>exact .inl ⟨hs,.refl s a⟩
 | step s t u a m e hf kk r ih=>
  rcases hF s t hf with hf | hf | ⟨h1,h2⟩
  ·have:=h.dH s t hf
   rcases ih (by omega) with⟨i1,i2⟩ | ⟨u',m',v,w,j1,j2,j3,j4,j5,j6⟩
   ·exact .inl ⟨i1,.step _ _ _ _ _ _ hf kk i2⟩
   ·exact .inr ⟨u',m',v,w,.step _ _ _ _ _ _ hf kk j1,j2,j3,j4,j5,j6⟩
  ·have:=k.dH s t hf;omega
  ·have:=k.fst t h2
   obtain⟨i1,i2⟩:=Rn.right h k hF r (by omega);exact .inr ⟨s,a,t,m,.refl s a,h1,h2,kk,i1,i2⟩
theorem Zrf{E G:GE}{b c d:Nat}(h:In E b c)(k:In G c d){a e:Int}:Acc T (tK E G) a e↔∃m,Acc T E a m∧Acc T G m e:=by
 constructor
 ·rintro(⟨⟨h1,h2⟩,rfl⟩ | ⟨s,m,t,hf,hT,hr,hl⟩)
  ·exact⟨a,.inl ⟨h1,rfl⟩,.inl ⟨h2,rfl⟩⟩
  ·rcases hf with hf | ⟨hn,hf⟩
   ·have hs:=h.fst s hf
    rcases Rn.left h k (fun _ _ x=>x) hr (by omega) with⟨i1,i2⟩ | ⟨u,m',v,w,j1,j2,j3,j4,j5,j6⟩
    ·rcases hl with⟨hl,hn⟩ | hl
     ·exact⟨e,.inr ⟨s,m,t,hf,hT,i2,hl⟩,.inl ⟨hn,rfl⟩⟩
     ·have:=k.aT t hl;omega
    ·rcases hl with⟨hl,hn⟩ | hl
     ·have:=h.aT t hl;omega
     ·exact⟨m',.inr ⟨s,m,u,hf,hT,j1,j2⟩,.inr ⟨v,w,t,j3,j4,j5,hl⟩⟩
   ·have hs:=k.fst s hf
    obtain⟨i1,i2⟩:=Rn.right h k (fun _ _ x=>x) hr (by omega);rcases hl with⟨hl,_⟩ | hl
    ·have:=h.aT t hl;omega
    ·exact⟨a,.inl ⟨hn,rfl⟩,.inr ⟨s,m,t,hf,hT,i1,hl⟩⟩
 ·rintro⟨m,(⟨h1,rfl⟩ | ⟨s,m1,t,hf,hT,hr,hl⟩),(⟨h2,rfl⟩ | ⟨s2,m2,t2,hf2,J9,hr2,hl2⟩)⟩
  ·exact .inl ⟨⟨h1,h2⟩,rfl⟩
  ·exact .inr ⟨s2,m2,t2,.inr ⟨h1,hf2⟩,J9,hr2.mono fun _ _ x=>.inr (.inl x),.inr hl2⟩
  ·exact .inr ⟨s,m1,t,.inl hf,hT,hr.mono fun _ _ x=>.inl x,.inl ⟨hl,h2⟩⟩
  ·exact .inr ⟨s,m1,t2,.inl hf,hT,(hr.mono fun _ _ x=>.inl x).trans (.step _ _ _ _ _ _ (.inr (.inr ⟨hl,hf2⟩)) J9 (hr2.mono fun _ _ x=>.inr (.inl x))),.inr hl2⟩
theorem Zre{E G:GE}{b c d:Nat}(h:In E b c)(k:In G c d){a e:Int}:Acc T (uo E G) a e↔Acc T E a e∨Acc T G a e:=by
 have hF:∀s t,(uo E G).dH s t→E.dH s t∨G.dH s t∨(E.aT s∧(fun _=>False) t):=fun s t x=>x.elim .inl (fun x=>.inr (.inl x))
 have k':In ⟨G.bK,fun _=>False,G.aT,G.dH⟩ c d:=⟨fun s hs=>hs.elim,k.aT,k.dH⟩;constructor
 ·rintro(⟨h1 | h1,rfl⟩ | ⟨s,m,t,hf,hT,hr,hl⟩)
  ·exact .inl (.inl ⟨h1,rfl⟩)
  ·exact .inr (.inl ⟨h1,rfl⟩)
  ·rcases hf with hf | hf
   ·have hs:=h.fst s hf
    rcases Rn.left (G:=⟨G.bK,fun _=>False,G.aT,G.dH⟩) h k' hF hr (by omega) with⟨i1,i2⟩ | ⟨u,m',v,w,j1,j2,j3,j4,j5,j6⟩
    ·rcases hl with hl | hl
     ·exact .inl (.inr ⟨s,m,t,hf,hT,i2,hl⟩)
     ·have:=k.aT t hl;omega
    ·exact j3.elim
   ·have hs:=k.fst s hf
    obtain⟨i1,i2⟩:=Rn.right (G:=⟨G.bK,fun _=>False,G.aT,G.dH⟩) h k' hF hr (by omega);rcases hl with hl | hl
    ·have:=h.aT t hl;omega
    ·exact .inr (.inr ⟨s,m,t,hf,hT,i1,hl⟩)
 ·rintro((⟨h1,rfl⟩ | ⟨s,m,t,hf,hT,hr,hl⟩) | (⟨h1,rfl⟩ | ⟨s,m,t,hf,hT,hr,hl⟩))
  ·exact .inl ⟨.inl h1,rfl⟩
  ·exact .inr ⟨s,m,t,.inl hf,hT,hr.mono fun _ _ x=>.inl x,.inl hl⟩
  ·exact .inl ⟨.inr h1,rfl⟩
  ·exact .inr ⟨s,m,t,.inr hf,hT,hr.mono fun _ _ x=>.inr x,.inr hl⟩
end
section
variable{T:Nat→Int→Int→Prop}
theorem Acc.mono{E G:GE}(hn:E.bK→G.bK)(h1:∀s,E.fst s→G.fst s)(h2:∀s,E.aT s→G.aT s)(h3:∀s t,E.dH s t→G.dH s t){a e:Int}(h:Acc T E a e):Acc T G a e:=by
 rcases h with⟨h,rfl⟩ | ⟨s,m,t,hf,hT,hr,hl⟩
 ·exact .inl ⟨hn h,rfl⟩
 ·exact .inr ⟨s,m,t,h1 s hf,hT,hr.mono h3,h2 t hl⟩
theorem Zl6{E:GE}{a e:Int}:Acc T (Cu E) a e↔a=e∨Acc T E a e:=by
 constructor
 ·rintro(⟨_,rfl⟩ | h)
  ·exact .inl rfl
  ·exact .inr (.inr h)
 ·rintro(rfl | h)
  ·exact .inl ⟨trivial,rfl⟩
  ·exact Acc.mono (E:=E) (G:=Cu E) (fun _=>trivial) (fun _ x=>x) (fun _ x=>x) (fun _ _ x=>x) h
theorem ZpV{E:GE}{s t:Nat}{m e:Int}(r:Rn T (fun s t=>E.dH s t∨(E.aT s∧E.fst t)) s m t e)(hl:E.aT t):∀{a:Int} {s0:Nat} {m0:Int},E.fst s0→T s0 a m0→Rn T E.dH s0 m0 s m→lV (Acc T E) a e:=by
 induction r with
 | refl s m=>intro a s0 m0 h0 hT hr;exact .one (.inr ⟨s0,m0,s,h0,hT,hr,hl⟩)
 | step s t u m m2 e hf kk r ih=>
  intro a s0 m0 h0 hT hr;rcases hf with hf | ⟨h1,h2⟩
  ·exact ih hl h0 hT (hr.trans (.step _ _ _ _ _ _ hf kk (.refl _ _)))
  ·exact(lV.one (.inr ⟨s0,m0,s,h0,hT,hr,h1⟩)).trans (ih hl h2 kk (.refl _ _))
theorem Zox{E:GE}{n:Prop}{a e:Int}:Acc T (zY E n) a e↔(n∧a=e)∨lV (Acc T E) a e:=by
 constructor
 ·rintro(⟨h | h,rfl⟩ | ⟨s,m,t,hf,hT,hr,hl⟩)
  ·exact .inr (.one (.inl ⟨h,rfl⟩))
  ·exact .inl ⟨h,rfl⟩
  ·exact .inr (ZpV hr hl hf hT (.refl _ _))
 ·rintro(⟨h,rfl⟩ | h)
  ·exact .inl ⟨.inr h,rfl⟩
  ·have up:∀{a e:Int},Acc T E a e→Acc T (zY E n) a e:=fun h=>Acc.mono (E:=E) (G:=zY E n) (fun x=>.inl x) (fun _ x=>x) (fun _ x=>x) (fun _ _ x=>.inl x) h
   induction h with
   | one h=>exact up h
   | more h k ih=>
    rcases ih with⟨_,rfl⟩ | ⟨s,m,t,hf,hT,hr,hl⟩
    ·exact up k
    ·rcases k with⟨_,rfl⟩ | ⟨s2,m2,t2,hf2,J9,hr2,hl2⟩
     ·exact .inr ⟨s,m,t,hf,hT,hr,hl⟩
     ·exact .inr ⟨s,m,t2,hf,hT,hr.trans (.step _ _ _ _ _ _ (.inr ⟨hl,hf2⟩) J9 (hr2.mono fun _ _ x=>.inl x)),hl2⟩
end
mutual
def jH:aM→Nat
 | .mk k _ _ ks=>if k=1 then 0 else if k=2 then 1 else lq ks
def lq:List aM→Nat
 | []=>0
 | q::qs=>jH q+lq qs
end
def nU:GE:=⟨False,fun _=>False,fun _=>False,fun _ _=>False⟩
def um:GE:=⟨True,fun _=>False,fun _=>False,fun _ _=>False⟩
def Gz(b:Nat):GE:=⟨False,fun s=>s=b,fun s=>s=b,fun _ _=>False⟩
mutual
def lD:aM→Nat→GE
 | .mk k _ _ ks,b=>if k=1 then um else if k=2 then Gz b else if k=3 then vJ ks b else if k=4 then wR ks b else ⟨(nQ ks k b).bK,(nQ ks k b).fst,(nQ ks k b).aT,fun s t=>(nQ ks k b).dH s t∨nu ks b s t⟩
def vJ:List aM→Nat→GE
 | [],_=>um
 | q::qs,b=>tK (lD q b) (vJ qs (b+jH q))
def wR:List aM→Nat→GE
 | [],_=>nU
 | q::qs,b=>uo (lD q b) (wR qs (b+jH q))
def nQ:List aM→Int→Nat→GE
 | [q],k,b=>if k=7 then Cu (lD q b) else if k=5∨k=6 then zY (lD q b) (k≠6) else nU
 | _,_,_=>nU
def nu:List aM→Nat→Nat→Nat→Prop
 | [],_,_,_=>False
 | q::qs,b,s,t=>(lD q b).dH s t∨nu qs (b+jH q) s t
end
mutual
theorem CS:∀(p:aM) (b:Nat),In (lD p b) b (b+jH p)
 | .mk k r g ks,b=>by
  simp only[lD,jH];split
  ·exact⟨fun s hs=>hs.elim,fun s hs=>hs.elim,fun s t hs=>hs.elim⟩
  ·split
   ·exact⟨fun s hs=>by have:s=b:=hs;omega,fun s hs=>by have:s=b:=hs;omega,fun s t hs=>hs.elim⟩
   ·split
    ·exact Y8 ks b
    ·split
     ·exact Y9 ks b
     ·have h:=ZwH ks k b
      refine⟨h.fst,h.aT,fun s t hs=>?_⟩;rcases hs with hs | hs
      ·exact h.dH s t hs
      ·exact Zwk ks b s t hs
theorem Y8:∀(ks:List aM) (b:Nat),In (vJ ks b) b (b+lq ks)
 | [],b=>by
  simp only[vJ];exact⟨fun s hs=>hs.elim,fun s hs=>hs.elim,fun s t hs=>hs.elim⟩
 | q::qs,b=>by
  simp only[vJ,lq];have:=(CS q b).cat (Y8 qs (b+jH q)) (by omega) (by omega);rwa[Nat.add_assoc] at this
theorem Y9:∀(ks:List aM) (b:Nat),In (wR ks b) b (b+lq ks)
 | [],b=>by
  simp only[wR];exact⟨fun s hs=>hs.elim,fun s hs=>hs.elim,fun s t hs=>hs.elim⟩
 | q::qs,b=>by
  simp only[wR,lq];have:=(CS q b).alt (Y9 qs (b+jH q)) (by omega) (by omega);rwa[Nat.add_assoc] at this
theorem ZwH:∀(ks:List aM) (k:Int) (b:Nat),In (nQ ks k b) b (b+lq ks)
 | [],k,b=>by
  simp only[nQ];exact⟨fun s hs=>hs.elim,fun s hs=>hs.elim,fun s t hs=>hs.elim⟩
 | [q],k,b=>by
  have h:=CS q b;simp only[nQ,lq,Nat.add_zero];split
  ·exact⟨h.fst,h.aT,h.dH⟩
  ·split
   ·exact h.plus _
   ·exact⟨fun s hs=>hs.elim,fun s hs=>hs.elim,fun s t hs=>hs.elim⟩
 | _::_::_,k,b=>by
  simp only[nQ];exact⟨fun s hs=>hs.elim,fun s hs=>hs.elim,fun s t hs=>hs.elim⟩
theorem Zwk:∀(ks:List aM) (b s t:Nat),nu ks b s t→(b≤s∧s < b+lq ks)∧b≤t∧t < b+lq ks
 | [],b,s,t,h=>by simp only[nu] at h
 | q::qs,b,s,t,h=>by
  simp only[nu] at h;simp only[lq];rcases h with h | h
  ·have:=(CS q b).dH s t h;omega
  ·have:=Zwk qs (b+jH q) s t h;omega
end
mutual
def Hy(T:Nat→Int→Int→Prop)(S:List Int→Int→Int→Prop):aM→Nat→Prop
 | .mk k _ g ks,b=>(k=2→∀a e,T b a e↔S g a e)∧(k≠1→k≠2→zw T S ks b)
def zw(T:Nat→Int→Int→Prop)(S:List Int→Int→Int→Prop):List aM→Nat→Prop
 | [],_=>True
 | q::qs,b=>Hy T S q b∧zw T S qs (b+jH q)
end
section
variable{T:Nat→Int→Int→Prop}{S:List Int→Int→Int→Prop}
theorem Zl7{a e:Int}:Acc T um a e↔a=e:=⟨fun h=>h.elim (fun h=>h.2) (fun⟨_,_,_,h,_⟩=>h.elim),fun h=>.inl ⟨trivial,h⟩⟩
theorem Ztv{a e:Int}:Acc T nU a e↔False:=⟨fun h=>h.elim (fun h=>h.1) (fun⟨_,_,_,h,_⟩=>h.elim),False.elim⟩
theorem Zrh{b:Nat}{a e:Int}:Acc T (Gz b) a e↔T b a e:=by
 constructor
 ·rintro(⟨h,_⟩ | ⟨s,m,t,rfl,hT,hr,rfl⟩)
  ·exact h.elim
  ·cases hr with
   | refl=>exact hT
   | step _ _ _ _ _ _ h=>exact h.elim
 ·intro h
  exact .inr ⟨b,e,b,rfl,h,.refl _ _,rfl⟩
theorem ZfB{r q:Int→Int→Prop}(h:∀a b,r a b↔q a b){a b:Int}:lV r a b↔lV q a b:=by
 have:r=q:=funext fun a=>funext fun b=>propext (h a b)
 rw[this]
mutual
theorem MS:∀(p:aM) (b:Nat),Hy T S p b→∀a e,Acc T (lD p b) a e↔MR S p a e
 | .mk k r g ks,b,h,a,e=>by
  simp only[Hy] at h;simp only[lD,MR];by_cases h1:k=1
  ·rw[if_pos h1,if_pos h1];exact Zl7
  rw[if_neg h1,if_neg h1];by_cases h2:k=2
  ·rw[if_pos h2,if_pos h2,Zrh];exact h.1 h2 a e
  rw[if_neg h2,if_neg h2];have hL:=h.2 h1 h2;by_cases h3:k=3
  ·rw[if_pos h3,if_pos h3];exact YQ ks b hL a e
  rw[if_neg h3,if_neg h3];by_cases h4:k=4
  ·rw[if_pos h4,if_pos h4];exact Ztu ks b hL a e
  rw[if_neg h4,if_neg h4];exact ZvA ks k b hL a e
theorem YQ:∀(ks:List aM) (b:Nat),zw T S ks b→∀a e,Acc T (vJ ks b) a e↔MA S ks a e
 | [],b,h,a,e=>by simp only[vJ,MA];exact Zl7
 | q::qs,b,h,a,e=>by
  simp only[zw] at h;simp only[vJ,MA];rw[Zrf (CS q b) (Y8 qs (b+jH q))];exact⟨fun⟨m,h1,h2⟩=>⟨m,(MS q b h.1 a m).mp h1,(YQ qs _ h.2 m e).mp h2⟩,fun⟨m,h1,h2⟩=>⟨m,(MS q b h.1 a m).mpr h1,(YQ qs _ h.2 m e).mpr h2⟩⟩
theorem Ztu:∀(ks:List aM) (b:Nat),zw T S ks b→∀a e,Acc T (wR ks b) a e↔MO S ks a e
 | [],b,h,a,e=>by simp only[wR,MO];exact Ztv
 | q::qs,b,h,a,e=>by
  simp only[zw] at h;simp only[wR,MO];rw[Zre (CS q b) (Y9 qs (b+jH q)),MS q b h.1 a e,Ztu qs _ h.2 a e]
theorem ZvA:∀(ks:List aM) (k:Int) (b:Nat),zw T S ks b→∀a e,Acc T ⟨(nQ ks k b).bK,(nQ ks k b).fst,(nQ ks k b).aT,fun s t=>(nQ ks k b).dH s t∨nu ks b s t⟩ a e↔(if k=7∨k=5∨k=6 then MG S ks k a e else False)
 | [],k,b,h,a,e=>by
  simp only[nQ,MG];have:Acc T ⟨nU.bK,nU.fst,nU.aT,fun s t=>nU.dH s t∨nu [] b s t⟩ a e↔False:=⟨fun h=>h.elim (fun h=>h.1) (fun⟨_,_,_,h,_⟩=>h.elim),False.elim⟩;rw[this];split<;>rfl
 | [q],k,b,h,a,e=>by
  simp only[zw] at h;have hq:=MS q b h.1;have hW:∀s t,nu [q] b s t↔(lD q b).dH s t:=fun s t=>by simp only[nu];exact⟨fun h=>h.elim id False.elim,.inl⟩
  by_cases h7:k=7
  ·have hg:nQ [q] k b=Cu (lD q b):=by simp only[nQ];rw[if_pos h7]
   rw[if_pos (.inl h7),hg];have e1:(fun s t=>(Cu (lD q b)).dH s t∨nu [q] b s t)=(Cu (lD q b)).dH:=funext fun s=>funext fun t=>propext ⟨fun h=>h.elim id (hW s t).mp,.inl⟩
   rw[e1];show Acc T (Cu (lD q b)) a e↔_
   rw[Zl6,hq a e];simp only[MG];rw[if_pos h7];have:k≠6:=by omega
   exact⟨fun h=>h.elim (fun h=>.inl ⟨this,h⟩) .inr,fun h=>h.elim (fun h=>.inl h.2) .inr⟩
  ·by_cases J6:k=5∨k=6
   ·have hg:nQ [q] k b=zY (lD q b) (k≠6):=by simp only[nQ];rw[if_neg h7,if_pos J6]
    rw[if_pos (.inr J6),hg];have e1:(fun s t=>(zY (lD q b) (k≠6)).dH s t∨nu [q] b s t)=(zY (lD q b) (k≠6)).dH:=funext fun s=>funext fun t=>propext ⟨fun h=>h.elim id (fun h=>.inl ((hW s t).mp h)),.inl⟩
    rw[e1];show Acc T (zY (lD q b) (k≠6)) a e↔_
    rw[Zox];simp only[MG];rw[if_neg h7,ZfB hq]
   ·have hg:nQ [q] k b=nU:=by simp only[nQ];rw[if_neg h7,if_neg J6]
    rw[if_neg (by omega),hg];exact⟨fun h=>h.elim (fun h=>h.1) (fun⟨_,_,_,h,_⟩=>h.elim),False.elim⟩
 | p::q::r,k,b,h,a,e=>by
  simp only[nQ,MG];have:Acc T ⟨nU.bK,nU.fst,nU.aT,fun s t=>nU.dH s t∨nu (p::q::r) b s t⟩ a e↔False:=⟨fun h=>h.elim (fun h=>h.1) (fun⟨_,_,_,h,_⟩=>h.elim),False.elim⟩;rw[this];split<;>rfl
end
end
structure RI(n:Net)(E:GE):Prop where
 R:nR n
 inn:In E 1 n.aB.length
 f0:∀t:Nat,(t:Int)∈n.follow.getD 0 []↔E.fst t
 fs:∀s t:Nat,1≤s→((t:Int)∈n.follow.getD s []↔E.dH s t)
 l0:(0:Int)∈n.last↔E.bK
 ls:∀s:Nat,1≤s→((s:Int)∈n.last↔E.aT s)
def Ho(n:Net)(l:List Int)(s:Nat)(a b:Int):Prop:=nW l (n.aB.getD s []) a b
theorem Ry{n:Net}{l:List Int}{i q:Nat}(h:i < l.length){m:Int}:Ho n l q i m↔m=(i:Int)+1∧vv n l[i] q=true:=by
 unfold Ho nW vv;have hg:l.getD i 0=l[i]:=by rw[List.getD_eq_getElem?_getD,List.getElem?_eq_getElem h];rfl
 rw[Int.toNat_natCast,Int.toNat_natCast,hg];constructor
 ·rintro⟨h1,h2,h3,h4⟩;exact⟨h1,by simpa using h4⟩
 ·rintro⟨h1,h2⟩;exact⟨h1,by omega,by omega,by simpa using h2⟩
theorem QE{n:Net}{E:GE}(h:RI n E){p:Nat}{q:Int}{s:Int}(hp:p < n.aB.length):Gc n p q s↔∃t:Nat,q=t∧(if p=0 then E.fst t else E.dH p t)∧vv n s t=true:=by
 unfold Gc;rw[Int.toNat_natCast];constructor
 ·rintro⟨h1,h2,h3,h4⟩
  have hq:0≤q:=by
   rw[Zcr (by omega)] at h3;have:=(h.R.follow p (by omega)).2 q h3;omega
  have e:((q.toNat:Nat):Int)=q:=by omega
  refine⟨q.toNat,e.symm,?_,by rw[e];exact h4⟩;rw[←e] at h3;split
  ·rename_i hp0;subst hp0;exact(h.f0 _).mp h3
  ·exact(h.fs p _ (by omega)).mp h3
 ·rintro⟨t,rfl,h1,h2⟩
  refine⟨by omega,by rw[h.R.len];omega,?_,h2⟩;split at h1
  ·rename_i hp0;subst hp0;exact(h.f0 _).mpr h1
  ·exact(h.fs p _ (by omega)).mpr h1
theorem QM{n:Net}{E:GE}(h:RI n E){l:List Int}:∀(k i t:Nat),i+k=l.length→1≤t→t < n.aB.length→(JK n t (l.drop i)↔∃u,Rn (Ho n l) E.dH t i u l.length∧E.aT u)
 | 0,i,t,hk,h1,h2=>by
  rw[List.drop_eq_nil_of_le (by omega)];have hi:i=l.length:=by omega
  subst hi;show(t:Int)∈n.last↔_
  rw[h.ls t h1];constructor
  ·intro hl;exact⟨t,.refl _ _,hl⟩
  ·rintro⟨u,hr,hl⟩
   cases hr with
   | refl=>exact hl
   | step _ q _ _ m _ hf hT hr=>
    obtain⟨_,_,h4,_⟩:=hT;omega
 | k+1,i,t,hk,h1,h2=>by
  have hi:i < l.length:=by omega
  rw[List.drop_eq_getElem_cons hi];show(∃q,Gc n t q l[i]∧JK n q (l.drop (i+1)))↔_
  constructor
  ·rintro⟨q,he,ha⟩
   obtain⟨q',rfl,hf,hb⟩:=(QE h h2).mp he;rw[if_neg (by omega)] at hf;obtain⟨_,hq1,hq2⟩:=h.inn.dH t q' hf;obtain⟨u,hr,hl⟩:=(QM h k (i+1) q' (by omega) hq1 hq2).mp ha;exact⟨u,.step _ _ _ _ _ _ hf ((Ry hi).mpr ⟨rfl,hb⟩) (by rw[Int.natCast_add,Int.natCast_one] at hr;exact hr),hl⟩
  ·rintro⟨u,hr,hl⟩
   generalize hL:(l.length:Int)=L at hr;cases hr with
   | refl=>omega
   | step _ q' _ _ m _ hf hT hr=>
    subst hL;obtain⟨rfl,hb⟩:=(Ry hi).mp hT;obtain⟨_,hq1,hq2⟩:=h.inn.dH t q' hf;refine⟨q',(QE h h2).mpr ⟨q',rfl,by rw[if_neg (by omega)];exact hf,hb⟩,(QM h k (i+1) q' (by omega) hq1 hq2).mpr ⟨u,?_,hl⟩⟩;rw[Int.natCast_add,Int.natCast_one];exact hr
theorem Zrg{n:Net}{E:GE}(h:RI n E)(l:List Int):za n l=true↔Acc (Ho n l) E 0 l.length:=by
 have hR:qV n=true:=(AQ n).mpr h.R;have hn1:=h.R.n1;rw[Zou];simp only[hR,true_and];cases l with
 | nil=>
  show(0:Int)∈n.last↔_
  rw[h.l0];constructor
  ·intro hn;exact .inl ⟨hn,rfl⟩
  ·rintro(⟨hn,_⟩ | ⟨s,m,t,hf,hT,hr,hl⟩)
   ·exact hn
   ·obtain⟨_,_,h4,_⟩:=hT
    simp at h4
 | cons s l=>
  have hi:0 < (s::l).length:=by simp
  show(∃q,Gc n 0 q s∧JK n q l)↔_
  constructor
  ·rintro⟨q,he,ha⟩
   obtain⟨q',rfl,hf,hb⟩:=(QE h (p:=0) (by omega)).mp he;rw[if_pos rfl] at hf;obtain⟨hq1,hq2⟩:=h.inn.fst q' hf;obtain⟨u,hr,hl⟩:=(QM h (l:=s::l) l.length 1 q' (by simp;omega) hq1 hq2).mp ha;exact .inr ⟨q',1,u,hf,(Ry (i:=0) hi).mpr ⟨rfl,hb⟩,hr,hl⟩
  ·rintro(⟨_,hn⟩ | ⟨q',m,u,hf,hT,hr,hl⟩)
   ·simp at hn;omega
   ·obtain⟨rfl,hb⟩:=(Ry (i:=0) hi).mp hT
    obtain⟨hq1,hq2⟩:=h.inn.fst q' hf;refine⟨q',(QE h (p:=0) (by omega)).mpr ⟨q',rfl,by rw[if_pos rfl];exact hf,hb⟩,?_⟩;exact(QM h (l:=s::l) l.length 1 q' (by simp;omega) hq1 hq2).mpr ⟨u,hr,hl⟩
structure Gs where
 aB:List (List Int)
 fo:List (List Int)
structure Ed where
 bK:Bool
 fst:List Int
 aT:List Int
def kr(fo:List (List Int)):List Int→List Int→List (List Int)
 | [],_=>fo
 | s::ss,be=>kr (fo.set s.toNat (jl (fo.getD s.toNat []++be))) ss be
def lF:List Ed→Ed→Gs→Ed×Gs
 | [],all,st=>(all,st)
 | e::es,all,st=>lF es ⟨all.bK && e.bK,if all.bK=true then jl (all.fst++e.fst) else all.fst,jl ((if e.bK=true then all.aT else [])++e.aT)⟩ ⟨st.aB,kr st.fo all.aT e.fst⟩
def tY:List Ed→Ed→Ed
 | [],all=>all
 | e::es,all=>tY es ⟨all.bK || e.bK,jl (all.fst++e.fst),jl (all.aT++e.aT)⟩
def uQ:List Ed→Int→Gs→Ed×Gs
 | [e],k,st=>if 5≤k∧k≤7 then (⟨e.bK || decide (k≠6),e.fst,e.aT⟩,if k=7 then st else ⟨st.aB,kr st.fo e.aT e.fst⟩) else (⟨false,[],[]⟩,st)
 | _,_,st=>(⟨false,[],[]⟩,st)
def z8(sg:Int)(g:List Int):List Int:=jl (g.filter fun n=>decide (0≤n) && decide (n < sg))
mutual
def eT(sg:Int):aM→Gs→Ed×Gs
 | .mk k _ g ks,st=>if k=1 then (⟨true,[],[]⟩,st) else if k=2 then (⟨false,[(st.aB.length:Int)],[(st.aB.length:Int)]⟩,⟨st.aB++[z8 sg g],st.fo++[[]]⟩)
  else if k=3 then lF (dG sg ks st).1 ⟨true,[],[]⟩ (dG sg ks st).2 else if k=4 then (tY (dG sg ks st).1 ⟨false,[],[]⟩,(dG sg ks st).2) else uQ (dG sg ks st).1 k (dG sg ks st).2
def dG(sg:Int):List aM→Gs→List Ed×Gs
 | [],st=>([],st)
 | q::qs,st=>((eT sg q st).1::(dG sg qs (eT sg q st).2).1,(dG sg qs (eT sg q st).2).2)
end
def oD(fo:List (List Int))(s t:Nat):Prop:=(t:Int)∈fo.getD s []
def Up(l:List Int):Prop:=l.Pairwise (· < ·)∧∀x∈l,0≤x
structure uO(e:Ed)(E:GE):Prop where
 bK:e.bK=true↔E.bK
 fst:∀t:Nat,(t:Int)∈e.fst↔E.fst t
 aT:∀t:Nat,(t:Int)∈e.aT↔E.aT t
 uf:Up e.fst
 ul:Up e.aT
theorem F3:Up []:=⟨by simp,by simp⟩
theorem YC(n:Nat):Up [(n:Int)]:=⟨by simp,fun x hx=>by simp at hx;omega⟩
theorem Ju{a b:List Int}(ha:∀x∈a,0≤x)(hb:∀x∈b,0≤x):Up (jl (a++b)):=
 ⟨FE _,fun x hx=>(List.mem_append.mp (vU.mp hx)).elim (ha x) (hb x)⟩
theorem DC:∀(ss:List Int) (fo:List (List Int)) (be:List Int),(kr fo ss be).length=fo.length
 | [],fo,be=>rfl
 | s::ss,fo,be=>by rw[kr,DC ss];simp
theorem Xe:∀(ss:List Int) (fo:List (List Int)) (be:List Int),(∀x∈ss,0≤x)→∀s t:Nat,oD (kr fo ss be) s t↔oD fo s t∨((s:Int)∈ss∧s < fo.length∧(t:Int)∈be)
 | [],fo,be,_,s,t=>by simp[kr]
 | x::ss,fo,be,h,s,t=>by
  have h0:=h x (by simp);rw[kr,Xe ss _ be (fun y hy=>h y (by simp[hy])) s t,List.length_set]
  have key:oD (fo.set x.toNat (jl (fo.getD x.toNat []++be))) s t↔oD fo s t∨(x=s∧s < fo.length∧(t:Int)∈be):=by
   unfold oD;rw[List.getD_eq_getElem?_getD,List.getElem?_set];by_cases e:x.toNat=s
   ·rw[if_pos e]
    have e2:x=s:=by omega
    by_cases hl:s < fo.length
    ·rw[if_pos (by omega),Option.getD_some,vU,List.mem_append,e]
     exact⟨fun h=>h.elim .inl (fun h=>.inr ⟨e2,hl,h⟩),fun h=>h.elim .inl (fun h=>.inr h.2.2)⟩
    ·rw[if_neg (by omega),Option.getD_none]
     constructor
     ·intro h;simp at h
     ·rintro(h | ⟨_,h,_⟩)
      ·rw[List.getD_eq_getElem?_getD,List.getElem?_eq_none (by omega)] at h;exact h
      ·omega
   ·rw[if_neg e,←List.getD_eq_getElem?_getD]
    exact⟨.inl,fun h=>h.elim id (fun h=>by omega)⟩
  rw[key];simp only[List.mem_cons];constructor
  ·rintro((h | ⟨h1,h2,h3⟩) | ⟨h1,h2,h3⟩)
   ·exact .inl h
   ·exact .inr ⟨.inl h1.symm,h2,h3⟩
   ·exact .inr ⟨.inr h1,h2,h3⟩
  ·rintro(h | ⟨h1 | h1,h2,h3⟩)
   ·exact .inl (.inl h)
   ·exact .inl (.inr ⟨h1.symm,h2,h3⟩)
   ·exact .inr ⟨h1,h2,h3⟩
theorem X5:∀(ss:List Int) (fo:List (List Int)) (be:List Int),(∀r∈fo,Up r)→(∀x∈be,0≤x)→∀r∈kr fo ss be,Up r
 | [],fo,be,h,_=>h
 | x::ss,fo,be,h,hb=>by
  refine X5 ss _ be (fun r hr=>?_) hb;rcases List.mem_or_eq_of_mem_set hr with hr | rfl
  ·exact h r hr
  ·refine Ju (fun y hy=>?_) hb
   rw[List.getD_eq_getElem?_getD] at hy;cases hg:fo[x.toNat]? with
   | none=>rw[hg] at hy;simp at hy
   | some r=>rw[hg] at hy;exact(h r (List.mem_of_getElem? hg)).2 y hy
def FW:List aM→Nat→Nat→Nat→Prop
 | [],_,_,_=>False
 | q::qs,b,s,t=>((lD q b).aT s∧(vJ qs (b+jH q)).fst t)∨FW qs (b+jH q) s t
theorem Zmo:∀(ks:List aM) (b s t:Nat),(vJ ks b).dH s t↔nu ks b s t∨FW ks b s t
 | [],b,s,t=>by simp only[vJ,nu,FW,um];simp
 | q::qs,b,s,t=>by
  simp only[vJ,nu,FW,tK];rw[Zmo qs];constructor
  ·rintro(h | (h | h) | h)
   ·exact .inl (.inl h)
   ·exact .inl (.inr h)
   ·exact .inr (.inr h)
   ·exact .inr (.inl h)
  ·rintro((h | h) | (h | h))
   ·exact .inl h
   ·exact .inr (.inl (.inl h))
   ·exact .inr (.inr h)
   ·exact .inr (.inl (.inr h))
theorem Zmp:∀(ks:List aM) (b s t:Nat),(wR ks b).dH s t↔nu ks b s t
 | [],b,s,t=>by simp only[wR,nu,nU]
 | q::qs,b,s,t=>by
  simp only[wR,nu,uo];rw[Zmp qs]
def wh:List Ed→List aM→Nat→Prop
 | [],[],_=>True
 | e::es,q::qs,b=>uO e (lD q b)∧wh es qs (b+jH q)
 | _,_,_=>False
theorem ZtW{e f:Ed}{E G:GE}(h:uO e E)(k:uO f G):uO ⟨e.bK && f.bK,if e.bK=true then jl (e.fst++f.fst) else e.fst,jl ((if f.bK=true then e.aT else [])++f.aT)⟩ (tK E G):=by
 refine⟨?_,fun t=>?_,fun t=>?_,?_,?_⟩
 ·simp only[Bool.and_eq_true,h.bK,k.bK,tK]
 ·simp only[tK]
  have h1:=h.fst t;have h2:=k.fst t;have h3:=h.bK;cases hn:e.bK with
  | true=>
   rw[hn] at h3;have:=h3.mp rfl;simp only[if_true,vU,List.mem_append,h1,h2];exact⟨fun x=>x.elim .inl (fun x=>.inr ⟨this,x⟩),fun x=>x.elim .inl (fun x=>.inr x.2)⟩
  | false=>
   rw[hn] at h3;have:¬E.bK:=fun x=>by have:=h3.mpr x;cases this
   simp only[Bool.false_eq_true,if_false,h1];exact⟨.inl,fun x=>x.elim id (fun x=>(this x.1).elim)⟩
 ·simp only[tK,vU,List.mem_append]
  have h1:=h.aT t;have h2:=k.aT t;have h3:=k.bK;cases hn:f.bK with
  | true=>
   rw[hn] at h3;have:=h3.mp rfl;simp only[if_true,h1,h2];exact⟨fun x=>x.elim (fun x=>.inl ⟨x,this⟩) .inr,fun x=>x.elim (fun x=>.inl x.1) .inr⟩
  | false=>
   rw[hn] at h3;have:¬G.bK:=fun x=>by have:=h3.mpr x;cases this
   simp only[Bool.false_eq_true,if_false,List.not_mem_nil,false_or,h2];exact⟨.inr,fun x=>x.elim (fun x=>(this x.2).elim) id⟩
 ·simp only
  split
  ·exact Ju h.uf.2 k.uf.2
  ·exact h.uf
 ·refine Ju (fun x hx=>?_) k.ul.2
  split at hx
  ·exact h.ul.2 x hx
  ·simp at hx
theorem ZtV{e f:Ed}{E G:GE}(h:uO e E)(k:uO f G):uO ⟨e.bK || f.bK,jl (e.fst++f.fst),jl (e.aT++f.aT)⟩ (uo E G):=by
 refine⟨?_,fun t=>?_,fun t=>?_,Ju h.uf.2 k.uf.2,Ju h.ul.2 k.ul.2⟩
 ·simp only[Bool.or_eq_true,h.bK,k.bK,uo]
 ·simp only[vU,List.mem_append,h.fst,k.fst,uo]
 ·simp only[vU,List.mem_append,h.aT,k.aT,uo]
theorem I6{e:Ed}{E G:GE}(h:uO e E)(hn:E.bK↔G.bK)(h1:∀t,E.fst t↔G.fst t)(h2:∀t,E.aT t↔G.aT t):uO e G:=
 ⟨h.bK.trans hn,fun t=>(h.fst t).trans (h1 t),fun t=>(h.aT t).trans (h2 t),h.uf,h.ul⟩
structure y9(st:Gs):Prop where
 len:st.fo.length=st.aB.length
 up:∀r∈st.fo,Up r
theorem Qo:∀(es:List Ed) (all:Ed) (st:Gs),(lF es all st).2.aB=st.aB∧(lF es all st).2.fo.length=st.fo.length
 | [],all,st=>⟨rfl,rfl⟩
 | e::es,all,st=>by
  obtain⟨h1,h2⟩:=Qo es ⟨all.bK && e.bK,if all.bK=true then jl (all.fst++e.fst) else all.fst,jl ((if e.bK=true then all.aT else [])++e.aT)⟩ ⟨st.aB,kr st.fo all.aT e.fst⟩;rw[lF];exact⟨h1,h2.trans (DC _ _ _)⟩
theorem ZiP:∀(es:List Ed) (ks:List aM) (b:Nat) (all:Ed) (A:GE) (st:Gs),wh es ks b→uO all A→y9 st→b+lq ks≤st.fo.length→(∀s,A.aT s→s < st.fo.length)→
  uO (lF es all st).1 (tK A (vJ ks b))∧(∀r∈(lF es all st).2.fo,Up r)∧∀s t,oD (lF es all st).2.fo s t↔oD st.fo s t∨FW ks b s t∨(A.aT s∧(vJ ks b).fst t)
 | [],[],b,all,A,st,_,hA,hst,_,_=>by
  simp only[lF,vJ,FW];refine⟨I6 hA ?_ (fun t=>?_) (fun t=>?_),hst.up,fun s t=>?_⟩
  ·simp[tK,um]
  ·simp[tK,um]
  ·simp[tK,um]
  ·simp[um]
 | [],_::_,_,_,_,_,h,_,_,_,_=>by simp[wh] at h
 | _::_,[],_,_,_,_,h,_,_,_,_=>by simp[wh] at h
 | e::es,q::qs,b,all,A,st,h,hA,hst,hl,hlt=>by
  simp only[wh] at h;simp only[lq] at hl;have hE:=CS q b;have hc:=ZtW hA h.1;have hst':y9 ⟨st.aB,kr st.fo all.aT e.fst⟩:=⟨(DC _ _ _).trans hst.len,X5 _ _ _ hst.up h.1.uf.2⟩
  obtain⟨i1,i2,i3⟩:=ZiP es qs (b+jH q) ⟨all.bK && e.bK,if all.bK=true then jl (all.fst++e.fst) else all.fst,jl ((if e.bK=true then all.aT else [])++e.aT)⟩ (tK A (lD q b)) ⟨st.aB,kr st.fo all.aT e.fst⟩ h.2 hc hst' (by rw[DC];omega) (fun s hs=>by
   rw[DC];rcases hs with⟨hs,_⟩ | hs
   ·exact hlt s hs
   ·have:=hE.aT s hs;omega)
  simp only[lF,vJ,FW];refine⟨I6 i1 ?_ (fun t=>?_) (fun t=>?_),i2,fun s t=>?_⟩
  ·simp only[tK,and_assoc]
  ·simp only[tK]
   constructor
   ·rintro((h | ⟨h1,h2⟩) | ⟨⟨h1,h2⟩,h3⟩)
    ·exact .inl h
    ·exact .inr ⟨h1,.inl h2⟩
    ·exact .inr ⟨h1,.inr ⟨h2,h3⟩⟩
   ·rintro(h | ⟨h1,h2 | ⟨h2,h3⟩⟩)
    ·exact .inl (.inl h)
    ·exact .inl (.inr ⟨h1,h2⟩)
    ·exact .inr ⟨⟨h1,h2⟩,h3⟩
  ·simp only[tK]
   constructor
   ·rintro(⟨⟨h1,h2⟩ | h1,h3⟩ | h)
    ·exact .inl ⟨h1,h2,h3⟩
    ·exact .inr (.inl ⟨h1,h3⟩)
    ·exact .inr (.inr h)
   ·rintro(⟨h1,h2,h3⟩ | ⟨h1,h3⟩ | h)
    ·exact .inl ⟨.inl ⟨h1,h2⟩,h3⟩
    ·exact .inl ⟨.inr h1,h3⟩
    ·exact .inr h
  ·rw[i3,Xe _ _ _ hA.ul.2]
   have e1:=hA.aT s;have e2:=h.1.fst t;rw[e1,e2];simp only[tK];constructor
   ·rintro((h | ⟨h1,h2,h3⟩) | h | ⟨⟨h1,h2⟩ | h1,h3⟩)
    ·exact .inl h
    ·exact .inr (.inr ⟨h1,.inl h3⟩)
    ·exact .inr (.inl (.inr h))
    ·exact .inr (.inr ⟨h1,.inr ⟨h2,h3⟩⟩)
    ·exact .inr (.inl (.inl ⟨h1,h3⟩))
   ·rintro(h | (⟨h1,h3⟩ | h) | ⟨h1,h2 | ⟨h2,h3⟩⟩)
    ·exact .inl (.inl h)
    ·exact .inr (.inr ⟨.inr h1,h3⟩)
    ·exact .inr (.inl h)
    ·exact .inl (.inr ⟨h1,hlt s h1,h2⟩)
    ·exact .inr (.inr ⟨.inl ⟨h1,h2⟩,h3⟩)
theorem ZdI:∀(es:List Ed) (ks:List aM) (b:Nat) (all:Ed) (A:GE),wh es ks b→uO all A→uO (tY es all) (uo A (wR ks b))
 | [],[],b,all,A,_,hA=>by
  simp only[tY,wR];exact I6 hA (by simp[uo,nU]) (fun t=>by simp[uo,nU]) (fun t=>by simp[uo,nU])
 | [],_::_,_,_,_,h,_=>by simp[wh] at h
 | _::_,[],_,_,_,h,_=>by simp[wh] at h
 | e::es,q::qs,b,all,A,h,hA=>by
  simp only[wh] at h;simp only[tY,wR];exact I6 (ZdI es qs (b+jH q) _ _ h.2 (ZtV hA h.1)) (by simp only[uo,or_assoc]) (fun t=>by simp only[uo,or_assoc]) (fun t=>by simp only[uo,or_assoc])
mutual
def qZ(sg:Int):aM→List (List Int)
 | .mk k _ g ks=>if k=1 then [] else if k=2 then [z8 sg g] else tO sg ks
def tO(sg:Int):List aM→List (List Int)
 | []=>[]
 | q::qs=>qZ sg q++tO sg qs
end
structure Zte(sg:Int)(p:aM)(st:Gs)(r:Ed×Gs):Prop where
 aB:r.2.aB=st.aB++qZ sg p
 len:(qZ sg p).length=jH p
 ok:y9 r.2
 ed:uO r.1 (lD p st.aB.length)
 fo:∀s t,oD r.2.fo s t↔oD st.fo s t∨(lD p st.aB.length).dH s t
structure Ztc(sg:Int)(ks:List aM)(st:Gs)(r:List Ed×Gs):Prop where
 aB:r.2.aB=st.aB++tO sg ks
 len:(tO sg ks).length=lq ks
 ok:y9 r.2
 Tk:wh r.1 ks st.aB.length
 fo:∀s t,oD r.2.fo s t↔oD st.fo s t∨nu ks st.aB.length s t
theorem Zqy:uO ⟨true,[],[]⟩ um:=⟨by simp[um],by simp[um],by simp[um],F3,F3⟩
theorem ZtX:uO ⟨false,[],[]⟩ nU:=⟨by simp[nU],by simp[nU],by simp[nU],F3,F3⟩
theorem ZfW:∀(ss:List Int) (fo:List (List Int)) (be:List Int) (s t:Nat),oD fo s t→oD (kr fo ss be) s t
 | [],fo,be,s,t,h=>h
 | x::ss,fo,be,s,t,h=>by
  refine ZfW ss _ be s t ?_;unfold oD at h ⊢;rw[List.getD_eq_getElem?_getD,List.getElem?_set];by_cases e:x.toNat=s
  ·rw[if_pos e]
   by_cases hl:s < fo.length
   ·rw[if_pos (by omega),Option.getD_some,vU,List.mem_append,e]
    exact .inl h
   ·rw[List.getD_eq_getElem?_getD,List.getElem?_eq_none (by omega)] at h
    simp at h
  ·rw[if_neg e,←List.getD_eq_getElem?_getD];exact h
theorem Zmu(es:List Ed)(k:Int)(st:Gs)(s t:Nat)(h:oD st.fo s t):oD (uQ es k st).2.fo s t:=by
 match es with
 | []=>exact h
 | [e]=>
  simp only[uQ];split
  ·split
   ·exact h
   ·exact ZfW _ _ _ s t h
  ·exact h
 | _::_::_=>exact h
theorem ZrW{es:List Ed}{ks:List aM}{k:Int}{b:Nat}{st:Gs}(h:wh es ks b)(hst:y9 st)(hl:b+lq ks≤st.fo.length) :
  (uQ es k st).2.aB=st.aB∧y9 (uQ es k st).2∧uO (uQ es k st).1 (nQ ks k b)∧∀s t,(oD st.fo s t→nu ks b s t→True)→(oD (uQ es k st).2.fo s t∨nu ks b s t↔oD st.fo s t∨(nQ ks k b).dH s t∨nu ks b s t):=by
 have no:∀(st:Gs),y9 st→st.aB=st.aB∧y9 st∧uO ⟨false,[],[]⟩ nU∧∀s t,(oD st.fo s t→nu ks b s t→True)→(oD st.fo s t∨nu ks b s t↔oD st.fo s t∨nU.dH s t∨nu ks b s t):=fun st h=>
  ⟨rfl,h,ZtX,fun s t _=>by simp[nU]⟩
 match es,ks,h with
 | [],[],_=>simp only[uQ,nQ];exact⟨trivial,(no st hst).2⟩
 | [e],[q],h=>
  simp only[wh,and_true] at h;simp only[uQ,nQ];by_cases h7:k=7
  ·subst h7
   rw[if_pos (by omega),if_pos rfl,if_pos rfl];refine⟨rfl,hst,⟨by simp[Cu],h.fst,h.aT,h.uf,h.ul⟩,fun s t _=>?_⟩;simp only[Cu,nu,or_false];constructor
   ·rintro(h | h)
    ·exact .inl h
    ·exact .inr (.inl h)
   ·rintro(h | h | h)
    ·exact .inl h
    ·exact .inr h
    ·exact .inr h
  ·by_cases J6:k=5∨k=6
   ·rw[if_pos (by omega),if_neg h7,if_neg h7,if_pos J6]
    simp only[lq,Nat.add_zero] at hl;refine⟨rfl,⟨(DC _ _ _).trans hst.len,X5 _ _ _ hst.up h.uf.2⟩,⟨?_,h.fst,h.aT,h.uf,h.ul⟩,fun s t _=>?_⟩
    ·simp only[zY,Bool.or_eq_true,h.bK,decide_eq_true_eq]
    ·rw[Xe _ _ _ h.ul.2,h.aT,h.fst]
     simp only[zY,nu,or_false];constructor
     ·rintro((h1 | ⟨h1,h2,h3⟩) | h1)
      ·exact .inl h1
      ·exact .inr (.inl (.inr ⟨h1,h3⟩))
      ·exact .inr (.inr h1)
     ·rintro(h1 | (h1 | ⟨h1,h3⟩) | h1)
      ·exact .inl (.inl h1)
      ·exact .inr h1
      ·have:=(CS q b).aT s h1
       exact .inl (.inr ⟨h1,by omega,h3⟩)
      ·exact .inr h1
   ·rw[if_neg (by omega),if_neg h7,if_neg J6]
    exact no st hst
 | _::_::_,_::_::_,_=>simp only[uQ,nQ];exact⟨trivial,(no st hst).2⟩
 | [],_::_,h=>simp[wh] at h
 | _::_,[],h=>simp[wh] at h
 | [_],_::_::_,h=>simp[wh] at h
 | _::_::_,[_],h=>simp[wh] at h
mutual
theorem QF(sg:Int):∀(p:aM) (st:Gs),y9 st→Zte sg p st (eT sg p st)
 | .mk k r g ks,st,h=>by
  simp only[eT];by_cases h1:k=1
  ·have hp:lD (.mk k r g ks) st.aB.length=um:=by simp only[lD];rw[if_pos h1]
   rw[if_pos h1];refine⟨by simp[qZ,h1],by simp[qZ,jH,h1],h,by rw[hp];exact Zqy,fun s t=>by rw[hp];simp[um]⟩
  rw[if_neg h1];by_cases h2:k=2
  ·have hp:lD (.mk k r g ks) st.aB.length=Gz st.aB.length:=by simp only[lD];rw[if_neg h1,if_pos h2]
   rw[if_pos h2];refine⟨by simp[qZ,h2],by simp[qZ,jH,h2],⟨by simp[h.len],fun r hr=>?_⟩,?_,fun s t=>?_⟩
   ·rcases List.mem_append.mp hr with hr | hr
    ·exact h.up r hr
    ·rw[List.mem_singleton] at hr;subst hr;exact F3
   ·rw[hp]
    exact⟨by simp[Gz],fun t=>by simp[Gz];omega,fun t=>by simp[Gz];omega,YC _,YC _⟩
   ·rw[hp]
    simp only[Gz,or_false];unfold oD;rw[List.getD_eq_getElem?_getD,List.getD_eq_getElem?_getD];by_cases hs:s < st.fo.length
    ·rw[List.getElem?_append_left hs]
    ·rw[List.getElem?_eq_none (l:=st.fo) (by omega),List.getElem?_append_right (by omega)]
     by_cases he:s - st.fo.length=0
     ·rw[he];simp
     ·rw[List.getElem?_eq_none (by simp;omega)]
  rw[if_neg h2];have he:=Zm0 sg ks st h;have hlv:qZ sg (.mk k r g ks)=tO sg ks:=by simp only[qZ];rw[if_neg h1,if_neg h2]
  have hcn:jH (.mk k r g ks)=lq ks:=by simp only[jH];rw[if_neg h1,if_neg h2]
  have hlen:st.aB.length+lq ks≤(dG sg ks st).2.fo.length:=by
   rw[he.ok.len,he.aB,List.length_append,he.len];exact Nat.le_refl _
  by_cases h3:k=3
  ·have hp:lD (.mk k r g ks) st.aB.length=vJ ks st.aB.length:=by simp only[lD];rw[if_neg h1,if_neg h2,if_pos h3]
   rw[if_pos h3];obtain⟨j1,j2⟩:=Qo (dG sg ks st).1 ⟨true,[],[]⟩ (dG sg ks st).2;obtain⟨i1,i2,i3⟩:=ZiP (dG sg ks st).1 ks st.aB.length ⟨true,[],[]⟩ um (dG sg ks st).2 he.Tk Zqy he.ok hlen (fun s hs=>hs.elim);refine⟨by rw[j1,he.aB,hlv],by rw[hlv,hcn];exact he.len,⟨by rw[j2,j1];exact he.ok.len,i2⟩,?_,fun s t=>?_⟩
   ·rw[hp]
    exact I6 i1 (by simp[tK,um]) (fun t=>by simp[tK,um]) (fun t=>by simp[tK,um])
   ·rw[i3,he.fo,hp,Zmo]
    simp only[um,false_and,or_false,or_assoc]
  rw[if_neg h3];by_cases h4:k=4
  ·have hp:lD (.mk k r g ks) st.aB.length=wR ks st.aB.length:=by simp only[lD];rw[if_neg h1,if_neg h2,if_neg h3,if_pos h4]
   rw[if_pos h4];refine⟨by rw[he.aB,hlv],by rw[hlv,hcn];exact he.len,he.ok,?_,fun s t=>?_⟩
   ·rw[hp]
    exact I6 (ZdI _ ks st.aB.length _ nU he.Tk ZtX) (by simp[uo,nU]) (fun t=>by simp[uo,nU]) (fun t=>by simp[uo,nU])
   ·rw[he.fo,hp,Zmp]
  rw[if_neg h4]
  have hp:lD (.mk k r g ks) st.aB.length=⟨(nQ ks k st.aB.length).bK,(nQ ks k st.aB.length).fst,(nQ ks k st.aB.length).aT,fun s t=>(nQ ks k st.aB.length).dH s t∨nu ks st.aB.length s t⟩:=by
   simp only[lD];rw[if_neg h1,if_neg h2,if_neg h3,if_neg h4]
  obtain⟨o1,o2,o3,o4⟩:=ZrW (k:=k) he.Tk he.ok hlen;refine⟨by rw[o1,he.aB,hlv],by rw[hlv,hcn];exact he.len,o2,?_,fun s t=>?_⟩
  ·rw[hp]
   exact⟨o3.bK,o3.fst,o3.aT,o3.uf,o3.ul⟩
  ·rw[hp]
   have h5:=o4 s t (fun _ _=>trivial);have h6:=he.fo s t;have h7:nu ks st.aB.length s t→oD (uQ (dG sg ks st).1 k (dG sg ks st).2).2.fo s t:=fun hw=>Zmu _ k _ s t (h6.mpr (.inr hw))
   simp only;constructor
   ·intro hx
    rcases h5.mp (.inl hx) with hx | hx | hx
    ·rcases h6.mp hx with hx | hx
     ·exact .inl hx
     ·exact .inr (.inr hx)
    ·exact .inr (.inl hx)
    ·exact .inr (.inr hx)
   ·rintro(hx | hx | hx)
    ·exact(h5.mpr (.inl (h6.mpr (.inl hx)))).elim id h7
    ·exact(h5.mpr (.inr (.inl hx))).elim id h7
    ·exact h7 hx
theorem Zm0(sg:Int):∀(ks:List aM) (st:Gs),y9 st→Ztc sg ks st (dG sg ks st)
 | [],st,h=>by
  simp only[dG];exact⟨by simp[tO],rfl,h,trivial,fun s t=>by simp only[nu,or_false]⟩
 | q::qs,st,h=>by
  simp only[dG];have f:=QF sg q st h;have e:=Zm0 sg qs (eT sg q st).2 f.ok;have hb:(eT sg q st).2.aB.length=st.aB.length+jH q:=by rw[f.aB,List.length_append,f.len]
  refine⟨by rw[e.aB,f.aB];simp[tO],by simp[tO,lq,f.len,e.len],e.ok,⟨f.ed,?_⟩,fun s t=>?_⟩
  ·have:=e.Tk
   rwa[hb] at this
  ·simp only
   rw[e.fo,f.fo,hb];simp only[nu,or_assoc]
end
theorem ZrH{r s:Int→Int→Prop}{f:Int→Int}{lo hi:Int}(hle:∀a b,r a b→a≤b)(h:∀a b,lo≤a→b≤hi→r a b→s (f a) (f b)){a b:Int}(ha:lo≤a)(k:lV r a b):b≤hi→lV s (f a) (f b):=by
 induction k with
 | one k=>intro hb;exact .one (h _ _ ha hb k)
 | more k1 k2 ih=>
  intro hb;have h1:=Zqs hle k1;have h2:=hle _ _ k2;exact .more (ih (by omega)) (h _ _ (by omega) hb k2)
def Oz(S S':List Int→Int→Int→Prop)(f:Int→Int)(lo hi:Int):Prop:=∀g x y,lo≤x→y≤hi→S g x y→S' g (f x) (f y)
mutual
theorem Jo{S S':List Int→Int→Int→Prop}(hS:Inc S){f:Int→Int}{lo hi:Int}(H:Oz S S' f lo hi):∀(p:aM) (a b:Int),lo≤a→b≤hi→MR S p a b→MR S' p (f a) (f b)
 | .mk k s g ks,a,b,ha,hb,h=>by
  rw[MR] at h ⊢;by_cases h1:k=1
  ·rw[if_pos h1] at h ⊢;rw[h]
  ·rw[if_neg h1] at h ⊢
   by_cases h2:k=2
   ·rw[if_pos h2] at h ⊢;exact H g a b ha hb h
   ·rw[if_neg h2] at h ⊢
    by_cases h3:k=3
    ·rw[if_pos h3] at h ⊢;exact Zql hS H ks a b ha hb h
    ·rw[if_neg h3] at h ⊢
     by_cases h4:k=4
     ·rw[if_pos h4] at h ⊢;exact Zqm hS H ks a b ha hb h
     ·rw[if_neg h4] at h ⊢
      by_cases h5:k=7∨k=5∨k=6
      ·rw[if_pos h5] at h ⊢;exact Ztk hS H ks k a b ha hb h
      ·rw[if_neg h5] at h;exact h.elim
theorem Zql{S S':List Int→Int→Int→Prop}(hS:Inc S){f:Int→Int}{lo hi:Int}(H:Oz S S' f lo hi):∀(ks:List aM) (a b:Int),lo≤a→b≤hi→MA S ks a b→MA S' ks (f a) (f b)
 | [],a,b,ha,hb,h=>by rw[MA] at h ⊢;rw[h]
 | q::qs,a,b,ha,hb,h=>by
  rw[MA] at h ⊢;obtain⟨m,h1,h2⟩:=h;have i1:=FJ hS q a m h1;have i2:=Ye hS qs m b h2;exact⟨f m,Jo hS H q a m ha (by omega) h1,Zql hS H qs m b (by omega) hb h2⟩
theorem Zqm{S S':List Int→Int→Int→Prop}(hS:Inc S){f:Int→Int}{lo hi:Int}(H:Oz S S' f lo hi):∀(ks:List aM) (a b:Int),lo≤a→b≤hi→MO S ks a b→MO S' ks (f a) (f b)
 | [],a,b,ha,hb,h=>by rw[MO] at h;exact h.elim
 | q::qs,a,b,ha,hb,h=>by
  rw[MO] at h ⊢;rcases h with h | h
  ·exact .inl (Jo hS H q a b ha hb h)
  ·exact .inr (Zqm hS H qs a b ha hb h)
theorem Ztk{S S':List Int→Int→Int→Prop}(hS:Inc S){f:Int→Int}{lo hi:Int}(H:Oz S S' f lo hi):∀(ks:List aM) (k a b:Int),lo≤a→b≤hi→MG S ks k a b→MG S' ks k (f a) (f b)
 | [q],k,a,b,ha,hb,h=>by
  rw[MG] at h ⊢;rcases h with⟨h1,h2⟩ | h
  ·exact .inl ⟨h1,by rw[h2]⟩
  ·right
   by_cases h7:k=7
   ·rw[if_pos h7] at h ⊢;exact Jo hS H q a b ha hb h
   ·rw[if_neg h7] at h ⊢;exact ZrH (fun a b h=>FJ hS q a b h) (fun a b ha hb h=>Jo hS H q a b ha hb h) ha h hb
 | [],k,a,b,_,_,h=>by simp[MG] at h
 | q::r::qs,k,a,b,_,_,h=>by simp[MG] at h
end
theorem XR(l:List Int):Inc (nW l):=fun g a b h=>by have:=h.1;omega
theorem Z9l(l:List Int)(c n:Nat)(k:Nat)(hk:k < n):((l.drop c).take n).getD k 0=l.getD (c+k) 0:=by
 simp only[List.getD_eq_getElem?_getD,List.getElem?_take,hk,if_true,List.getElem?_drop]
theorem ZqK(l:List Int)(c n:Nat)(h:c+n≤l.length):((l.drop c).take n).length=n:=by simp;omega
theorem ZkW{p:aM}{l:List Int}{c n a b:Nat}(h:c+n≤l.length)(hca:c≤a)(hb:b≤c+n):MR (nW l) p a b↔MR (nW ((l.drop c).take n)) p (a - c) (b - c):=by
 have hl:=ZqK l c n h;constructor
 ·exact Jo (f:=fun x=>x - c) (lo:=a) (hi:=b) (XR l) (fun g x y hx hy hs=>by
   obtain⟨h1,h2,h3,h4⟩:=hs;show nW _ g (x - c) (y - c)
   refine⟨by omega,by omega,by omega,?_⟩;rw[Z9l l c n _ (by omega)];have:c+(x - (c:Int)).toNat=x.toNat:=by omega
   rw[this];exact h4) p a b (by omega) (by omega)
 ·intro hm
  have:=Jo (f:=fun x=>x+c) (lo:=(a:Int) - c) (hi:=(b:Int) - c) (XR _) (S':=nW l) (fun g x y hx hy hs=>by
   obtain⟨h1,h2,h3,h4⟩:=hs;show nW _ g (x+c) (y+c)
   refine⟨by omega,by omega,by omega,?_⟩;rw[Z9l l c n _ (by omega)] at h4;have:c+x.toNat=(x+(c:Int)).toNat:=by omega
   rw[←this];exact h4) p _ _ (by omega) (by omega) hm
  have e1:(a:Int) - c+c=a:=by omega
  have e2:(b:Int) - c+c=b:=by omega
  simp only[e1,e2] at this;exact this
theorem Zgf(p:aM)(l:List Int)(a b:Nat)(hab:a≤b)(hb:b≤l.length):nO p ((l.drop a).take (b - a)) 0 ((b:Int) - a)=nO p l a b:=by
 rw[Bool.eq_iff_iff,DJ,DJ,ZkW (c:=a) (n:=b - a) (by omega) (Nat.le_refl _) (by omega),ZqK l a (b - a) (by omega)];have e:(a:Int) - a=0:=by omega
 rw[e];constructor
 ·rintro⟨h1,h2,h3⟩;exact⟨by omega,by omega,h3⟩
 ·rintro⟨h1,h2,h3⟩;exact⟨by omega,by omega,h3⟩
theorem IX(p:aM)(l:List Int)(a b:Nat)(hab:a≤b)(hb:b≤l.length):nO p (l.take b) a b=nO p l a b:=by
 have:=ZkW (p:=p) (l:=l) (c:=0) (n:=b) (a:=a) (b:=b) (by omega) (by omega) (by omega);rw[Bool.eq_iff_iff,DJ,DJ,this];simp only[List.drop_zero,List.length_take,Int.natCast_zero,Int.sub_zero];constructor
 ·rintro⟨h1,h2,h3⟩;exact⟨by omega,by omega,by simpa using h3⟩
 ·rintro⟨h1,h2,h3⟩;exact⟨by omega,by omega,by simpa using h3⟩
theorem ZpD(p:aM)(l:List Int)(a b:Int)(hb:(l.length:Int) < b):nO p l a b=false:=by
 rw[Bool.eq_false_iff];intro h;unfold nO at h;rw[List.contains_iff_mem] at h;have:=Zpf _ h;omega
def st0:Gs:=⟨[[]],[[]]⟩
theorem Yy:y9 st0:=⟨rfl,fun r hr=>by simp[st0] at hr;subst hr;exact F3⟩
def kX(p:aM)(sg:Int):Net:=
 ⟨sg,(eT sg p st0).2.aB,(eT sg p st0).2.fo.set 0 (eT sg p st0).1.fst,if (eT sg p st0).1.bK=true then jl ((eT sg p st0).1.aT++[0]) else (eT sg p st0).1.aT⟩
theorem Zkj(sg:Int)(g:List Int):DU (z8 sg g) 0 sg:=⟨FE _,fun x hx=>by
 have:=List.mem_filter.mp (vU.mp hx);simpa using this.2⟩
theorem Zj4{sg:Int}{g:List Int}{x:Int}:x∈z8 sg g↔x∈g∧0≤x∧x < sg:=by
 unfold z8;rw[vU,List.mem_filter];simp
mutual
theorem Zga(sg:Int):∀(p:aM),∀r∈qZ sg p,DU r 0 sg
 | .mk k _ g ks,r,hr=>by
  simp only[qZ] at hr;split at hr
  ·simp at hr
  ·split at hr
   ·rw[List.mem_singleton] at hr;subst hr;exact Zkj sg g
   ·exact Zg9 sg ks r hr
theorem Zg9(sg:Int):∀(ks:List aM),∀r∈tO sg ks,DU r 0 sg
 | [],r,hr=>by simp[tO] at hr
 | q::qs,r,hr=>by
  simp only[tO] at hr;rcases List.mem_append.mp hr with hr | hr
  ·exact Zga sg q r hr
  ·exact Zg9 sg qs r hr
end
theorem Zj8(p:aM)(sg:Int):(kX p sg).aB=[]::qZ sg p∧(kX p sg).aB.length=1+jH p∧(kX p sg).follow.length=1+jH p:=by
 have f:=QF sg p st0 Yy;have h1:(kX p sg).aB=[]::qZ sg p:=f.aB;have h2:(kX p sg).aB.length=1+jH p:=by rw[h1,List.length_cons,f.len];omega
 refine⟨h1,h2,?_⟩;show((eT sg p st0).2.fo.set 0 _).length=_
 rw[List.length_set,f.ok.len];exact h2
theorem Qq{p:aM}{sg:Int}(h1:1≤sg)(h2:sg≤400)(hc:jH p≤300):RI (kX p sg) (lD p 1):=by
 have f:=QF sg p st0 Yy;have hI:=CS p 1;obtain⟨hb,hbl,hfl⟩:=Zj8 p sg;have hb1:st0.aB.length=1:=rfl;have hed:=f.ed;rw[hb1] at hed;have hfo:=fun s t=>f.fo s t
 have hz:∀s t,¬oD st0.fo s t:=fun s t=>by
  unfold oD st0;cases s with
  | zero=>simp
  | succ s=>simp
 have hl0:0 < (eT sg p st0).2.fo.length:=by
  have:(kX p sg).follow.length=(eT sg p st0).2.fo.length:=List.length_set ..;omega
 have f0:∀t:Nat,(t:Int)∈(kX p sg).follow.getD 0 []↔(lD p 1).fst t:=fun t=>by
  show(t:Int)∈((eT sg p st0).2.fo.set 0 (eT sg p st0).1.fst).getD 0 []↔_
  rw[List.getD_eq_getElem?_getD,List.getElem?_set,if_pos rfl,if_pos hl0,Option.getD_some];exact hed.fst t
 have fs:∀s t:Nat,1≤s→((t:Int)∈(kX p sg).follow.getD s []↔(lD p 1).dH s t):=fun s t hs=>by
  show(t:Int)∈((eT sg p st0).2.fo.set 0 (eT sg p st0).1.fst).getD s []↔_
  rw[List.getD_eq_getElem?_getD,List.getElem?_set,if_neg (by omega),←List.getD_eq_getElem?_getD];have:=hfo s t;rw[hb1] at this;exact this.trans ⟨fun h=>h.elim (fun h=>(hz s t h).elim) id,.inr⟩
 have hlast:∀q:Int,q∈(kX p sg).last↔((lD p 1).bK∧q=0)∨q∈(eT sg p st0).1.aT:=fun q=>by
  show q∈(if (eT sg p st0).1.bK=true then jl ((eT sg p st0).1.aT++[0]) else (eT sg p st0).1.aT)↔_
  by_cases hn:(eT sg p st0).1.bK=true
  ·rw[if_pos hn,vU,List.mem_append,List.mem_singleton]
   have:=hed.bK.mp hn;exact⟨fun h=>h.elim .inr (fun h=>.inl ⟨this,h⟩),fun h=>h.elim (fun h=>.inr h.2) .inl⟩
  ·rw[if_neg hn]
   exact⟨.inr,fun h=>h.elim (fun h=>(hn (hed.bK.mpr h.1)).elim) id⟩
 have hlp:∀q∈(eT sg p st0).1.aT,1≤q∧q < 1+jH p:=fun q hq=>by
  have h0:=hed.ul.2 q hq;have e:((q.toNat:Nat):Int)=q:=by omega
  rw[←e] at hq;have:=hI.aT _ ((hed.aT q.toNat).mp hq);omega
 refine⟨⟨h1,h2,by omega,by omega,by omega,by rw[hb];rfl,⟨?_,fun q hq=>?_⟩,fun i h=>?_,fun i h=>?_⟩,by rw[hbl];exact hI,f0,fs,?_,fun s hs=>?_⟩
 ·show(if (eT sg p st0).1.bK=true then jl ((eT sg p st0).1.aT++[0]) else (eT sg p st0).1.aT).Pairwise (· < ·)
  split
  ·exact FE _
  ·exact hed.ul.1
 ·rcases(hlast q).mp hq with⟨_,rfl⟩ | hq
  ·omega
  ·have:=hlp q hq;omega
 ·have hm:(kX p sg).aB[i]∈[]::qZ sg p:=by rw[←hb];exact List.getElem_mem h
  rcases List.mem_cons.mp hm with e | hm
  ·rw[e];exact⟨by simp,by simp⟩
  ·exact Zga sg p _ hm
 ·have hrow:(kX p sg).follow.getD i []=(kX p sg).follow[i]:=Zcr h
  have hup:Up (kX p sg).follow[i]:=by
   have hm:(kX p sg).follow[i]∈(eT sg p st0).2.fo.set 0 (eT sg p st0).1.fst:=List.getElem_mem h;rcases List.mem_or_eq_of_mem_set hm with hm | e
   ·exact f.ok.up _ hm
   ·rw[e];exact hed.uf
  refine⟨hup.1,fun x hx=>?_⟩;have h0:=hup.2 x hx;have e:((x.toNat:Nat):Int)=x:=by omega
  rw[←hrow,←e] at hx;by_cases hi:i=0
  ·subst hi
   have:=hI.fst _ ((f0 x.toNat).mp hx);omega
  ·have:=hI.dH _ _ ((fs i x.toNat (by omega)).mp hx);omega
 ·rw[hlast]
  exact⟨fun h=>h.elim (fun h=>h.1) (fun h=>by have:=hlp 0 h;omega),fun h=>.inl ⟨h,rfl⟩⟩
 ·rw[hlast]
  rw[←hed.aT s];exact⟨fun h=>h.elim (fun h=>by omega) id,.inr⟩
def BI(sg:Int)(l:List Int)(g:List Int)(a b:Int):Prop:=nW l (z8 sg g) a b
mutual
theorem Zwp(sg:Int)(l:List Int):∀(p:aM) (pre post:List (List Int)),Hy (fun s a e=>nW l ((pre++qZ sg p++post).getD s []) a e) (BI sg l) p pre.length
 | .mk k _ g ks,pre,post=>by
  simp only[Hy];refine⟨fun h2 a e=>?_,fun h1 h2=>?_⟩
  ·subst h2
   have:qZ sg (.mk 2 ‹_› g ks)=[z8 sg g]:=by simp[qZ]
   rw[this,List.append_assoc,List.getD_eq_getElem?_getD,List.getElem?_append_right (Nat.le_refl _)];simp[BI]
  ·have:qZ sg (.mk k ‹_› g ks)=tO sg ks:=by simp only[qZ];rw[if_neg h1,if_neg h2]
   rw[this];exact Zwo sg l ks pre post
theorem Zwo(sg:Int)(l:List Int):∀(ks:List aM) (pre post:List (List Int)),zw (fun s a e=>nW l ((pre++tO sg ks++post).getD s []) a e) (BI sg l) ks pre.length
 | [],pre,post=>by simp only[zw]
 | q::qs,pre,post=>by
  simp only[zw];have h1:=Zwp sg l q pre (tO sg qs++post);have h2:=Zwo sg l qs (pre++qZ sg q) post;have e1:pre++qZ sg q++(tO sg qs++post)=pre++tO sg (q::qs)++post:=by simp[tO]
  have e2:pre++qZ sg q++tO sg qs++post=pre++tO sg (q::qs)++post:=by simp[tO]
  have hc:(qZ sg q).length=jH q:=(QF sg q st0 Yy).len;rw[e1] at h1;rw[e2,List.length_append,hc] at h2;exact⟨h1,h2⟩
end
mutual
def CX(sg:Int):aM→aM
 | .mk k _ g ks=>.mk k [] (z8 sg g) (zm sg ks)
def zm(sg:Int):List aM→List aM
 | []=>[]
 | q::qs=>CX sg q::zm sg qs
end
mutual
theorem F9(sg:Int)(l:List Int):∀(p:aM) (a b:Int),MR (BI sg l) p a b↔MR (nW l) (CX sg p) a b
 | .mk k r g ks,a,b=>by
  simp only[CX,MR];by_cases h1:k=1
  ·rw[if_pos h1,if_pos h1]
  rw[if_neg h1,if_neg h1];by_cases h2:k=2
  ·rw[if_pos h2,if_pos h2];rfl
  rw[if_neg h2,if_neg h2];by_cases h3:k=3
  ·rw[if_pos h3,if_pos h3];exact YV sg l ks a b
  rw[if_neg h3,if_neg h3];by_cases h4:k=4
  ·rw[if_pos h4,if_pos h4];exact Zuk sg l ks a b
  rw[if_neg h4,if_neg h4];by_cases h5:k=7∨k=5∨k=6
  ·rw[if_pos h5,if_pos h5];exact ZvY sg l ks k a b
  ·rw[if_neg h5,if_neg h5]
theorem YV(sg:Int)(l:List Int):∀(ks:List aM) (a b:Int),MA (BI sg l) ks a b↔MA (nW l) (zm sg ks) a b
 | [],a,b=>by simp only[zm,MA]
 | q::qs,a,b=>by
  simp only[zm,MA];exact⟨fun⟨m,h1,h2⟩=>⟨m,(F9 sg l q a m).mp h1,(YV sg l qs m b).mp h2⟩,fun⟨m,h1,h2⟩=>⟨m,(F9 sg l q a m).mpr h1,(YV sg l qs m b).mpr h2⟩⟩
theorem Zuk(sg:Int)(l:List Int):∀(ks:List aM) (a b:Int),MO (BI sg l) ks a b↔MO (nW l) (zm sg ks) a b
 | [],a,b=>by simp only[zm,MO]
 | q::qs,a,b=>by
  simp only[zm,MO];rw[F9 sg l q a b,Zuk sg l qs a b]
theorem ZvY(sg:Int)(l:List Int):∀(ks:List aM) (k a b:Int),MG (BI sg l) ks k a b↔MG (nW l) (zm sg ks) k a b
 | [],k,a,b=>by simp only[zm,MG]
 | [q],k,a,b=>by
  simp only[zm,MG];rw[F9 sg l q a b,ZfB (F9 sg l q)]
 | _::_::_,k,a,b=>by simp only[zm,MG]
end
theorem Zsd{p:aM}{sg:Int}(h1:1≤sg)(h2:sg≤400)(hc:jH p≤300)(l:List Int):za (kX p sg) l=nO (CX sg p) l 0 l.length:=by
 have hL:=Zwp sg l p [[]] [];rw[List.append_nil] at hL;have hb:=(Zj8 p sg).1
 have hL':Hy (Ho (kX p sg) l) (BI sg l) p 1:=by
  have:Ho (kX p sg) l=fun s a e=>nW l (([[]]++qZ sg p).getD s []) a e:=by
   funext s a e;unfold Ho;rw[hb];rfl
  rw[this];exact hL
 have h3:=(Zrg (Qq h1 h2 hc) l).trans ((MS p 1 hL' 0 l.length).trans (F9 sg l p 0 l.length));have h4:nO (CX sg p) l 0 l.length=true↔MR (nW l) (CX sg p) 0 l.length:=DJ.trans ⟨fun h=>h.2.2,fun h=>⟨by omega,by omega,h⟩⟩;cases hA:za (kX p sg) l<;>cases hB:nO (CX sg p) l 0 l.length<;>simp_all
def jC(N:Nat)(l:List Int):Prop:=Up l∧∀x∈l,x < (N:Int)
theorem jC.len{N:Nat}{l:List Int}(h:jC N l):l.length≤N:=
 WK N (h.1.1.imp fun h=>by omega) fun x hx=>⟨h.1.2 x hx,h.2 x hx⟩
theorem jC.mono{N M:Nat}{l:List Int}(h:jC N l)(hm:N≤M):jC M l:=⟨h.1,fun x hx=>by have:=h.2 x hx;omega⟩
theorem jC.nil{N:Nat}:jC N []:=⟨F3,by simp⟩
theorem jC.one{N k:Nat}(h:k < N):jC N [(k:Int)]:=⟨YC k,fun x hx=>by simp at hx;omega⟩
theorem jC.app{N:Nat}{a b:List Int}(ha:jC N a)(hb:jC N b):jC N (jl (a++b)):=
 ⟨Ju ha.1.2 hb.1.2,fun x hx=>(List.mem_append.mp (vU.mp hx)).elim (ha.2 x) (hb.2 x)⟩
structure rY(st:Gs):Prop where
 len:st.fo.length=st.aB.length
 rows:∀r∈st.fo,jC st.aB.length r
structure uF(N:Nat)(e:Ed):Prop where
 f:jC N e.fst
 l:jC N e.aT
theorem uF.mono{N M:Nat}{e:Ed}(h:uF N e)(hm:N≤M):uF M e:=⟨h.f.mono hm,h.l.mono hm⟩
theorem ZiO{N:Nat}{fo:List (List Int)}(h:∀r∈fo,jC N r)(i:Nat):jC N (fo.getD i []):=by
 rw[List.getD_eq_getElem?_getD];cases e:fo[i]? with
 | none=>exact jC.nil
 | some r=>exact h r (List.mem_of_getElem? e)
theorem Yr{N:Nat}:∀(ss:List Int) (fo:List (List Int)) (be:List Int),(∀r∈fo,jC N r)→jC N be→∀r∈kr fo ss be,jC N r
 | [],fo,be,h,_=>h
 | x::ss,fo,be,h,hb=>by
  refine Yr ss _ be (fun r hr=>?_) hb;rcases List.mem_or_eq_of_mem_set hr with hr | rfl
  ·exact h r hr
  ·exact(ZiO h _).app hb
theorem ZfX:∀(ss:List Int) (fo:List (List Int)) (s:Int) (be:List Int),kr fo (ss++[s]) be=(kr fo ss be).set s.toNat (jl ((kr fo ss be).getD s.toNat []++be))
 | [],fo,s,be=>rfl
 | x::ss,fo,s,be=>by rw[List.cons_append,kr,ZfX ss];rfl
theorem rY.dH{st:Gs}(h:rY st){a b:List Int}(hb:jC st.aB.length b):rY ⟨st.aB,kr st.fo a b⟩:=⟨(DC _ _ _).trans h.len,Yr _ _ _ h.rows hb⟩
theorem X9:∀(es:List Ed) (all:Ed) (st:Gs),rY st→uF st.aB.length all→(∀e∈es,uF st.aB.length e)→rY (lF es all st).2∧uF st.aB.length (lF es all st).1
 | [],all,st,h,ha,_=>⟨h,ha⟩
 | e::es,all,st,h,ha,he=>by
  have h1:=he e (by simp);rw[lF];refine X9 es _ ⟨st.aB,kr st.fo all.aT e.fst⟩ (h.dH h1.f) ⟨?_,?_⟩ (fun e' h'=>he e' (by simp[h']))
  ·simp only
   split
   ·exact ha.f.app h1.f
   ·exact ha.f
  ·simp only
   split
   ·exact ha.l.app h1.l
   ·exact jC.nil.app h1.l
theorem W9{N:Nat}:∀(es:List Ed) (all:Ed),uF N all→(∀e∈es,uF N e)→uF N (tY es all)
 | [],all,ha,_=>ha
 | e::es,all,ha,he=>by
  have h1:=he e (by simp);rw[tY];exact W9 es _ ⟨ha.f.app h1.f,ha.l.app h1.l⟩ (fun e' h'=>he e' (by simp[h']))
theorem Zu9(es:List Ed)(k:Int)(st:Gs)(h:rY st)(he:∀e∈es,uF st.aB.length e):rY (uQ es k st).2∧(uQ es k st).2.aB=st.aB∧uF st.aB.length (uQ es k st).1:=by
 have no:uF st.aB.length ⟨false,[],[]⟩:=⟨jC.nil,jC.nil⟩
 match es,he with
 | [],_=>exact⟨h,rfl,no⟩
 | [e],he=>
  have h1:=he e (by simp);simp only[uQ];split
  ·refine⟨?_,?_,⟨h1.f,h1.l⟩⟩
   ·split
    ·exact h
    ·exact h.dH h1.f
   ·split<;>rfl
  ·exact⟨h,rfl,no⟩
 | _::_::_,_=>exact⟨h,rfl,no⟩
mutual
theorem Zmr(sg:Int):∀(p:aM) (st:Gs),rY st→rY (eT sg p st).2∧uF (eT sg p st).2.aB.length (eT sg p st).1∧(eT sg p st).2.aB.length=st.aB.length+jH p
 | .mk k s g ks,st,h=>by
  simp only[eT,jH];split
  ·exact⟨h,⟨jC.nil,jC.nil⟩,rfl⟩
  ·split
   ·refine⟨⟨by simp[h.len],fun r hr=>?_⟩,⟨jC.one (by simp),jC.one (by simp)⟩,by simp⟩
    simp only at hr ⊢;rcases List.mem_append.mp hr with hr | hr
    ·exact(h.rows r hr).mono (by simp)
    ·rw[List.mem_singleton] at hr;subst hr;exact jC.nil
   ·obtain⟨i1,i2,i3⟩:=QG sg ks st h
    split
    ·obtain⟨j1,j2⟩:=X9 (dG sg ks st).1 ⟨true,[],[]⟩ (dG sg ks st).2 i1 ⟨jC.nil,jC.nil⟩ i2
     have hb:=(Qo (dG sg ks st).1 ⟨true,[],[]⟩ (dG sg ks st).2).1;exact⟨j1,by rw[hb];exact j2,by rw[hb];exact i3⟩
    ·split
     ·exact⟨i1,W9 _ _ ⟨jC.nil,jC.nil⟩ i2,i3⟩
     ·obtain⟨j1,j2,j3⟩:=Zu9 (dG sg ks st).1 k (dG sg ks st).2 i1 i2
      exact⟨j1,by rw[j2];exact j3,by rw[j2];exact i3⟩
theorem QG(sg:Int):∀(ks:List aM) (st:Gs),rY st→rY (dG sg ks st).2∧(∀e∈(dG sg ks st).1,uF (dG sg ks st).2.aB.length e)∧(dG sg ks st).2.aB.length=st.aB.length+lq ks
 | [],st,h=>by simp only[dG,lq];exact⟨h,by simp,rfl⟩
 | q::qs,st,h=>by
  obtain⟨i1,i2,i3⟩:=Zmr sg q st h;obtain⟨j1,j2,j3⟩:=QG sg qs (eT sg q st).2 i1;simp only[dG,lq];refine⟨j1,fun e he=>?_,by omega⟩;rcases List.mem_cons.mp he with rfl | he
  ·exact i2.mono (by omega)
  ·exact j2 e he
end
theorem ZdH(sg:Int):∀(ks:List aM) (q:aM) (st:Gs),dG sg (ks++[q]) st=((dG sg ks st).1++[(eT sg q (dG sg ks st).2).1],(eT sg q (dG sg ks st).2).2)
 | [],q,st=>by simp only[List.nil_append,dG]
 | k::ks,q,st=>by simp only[List.cons_append,dG];rw[ZdH sg ks]
theorem ZdJ:∀(es:List Ed) (e:Ed) (all:Ed) (st:Gs),lF (es++[e]) all st =
  (⟨(lF es all st).1.bK && e.bK,if (lF es all st).1.bK=true then jl ((lF es all st).1.fst++e.fst) else (lF es all st).1.fst,jl ((if e.bK=true then (lF es all st).1.aT else [])++e.aT)⟩,⟨(lF es all st).2.aB,kr (lF es all st).2.fo (lF es all st).1.aT e.fst⟩)
 | [],e,all,st=>rfl
 | k::es,e,all,st=>by simp only[List.cons_append,lF];rw[ZdJ es];rfl
theorem Zb8:∀(es:List Ed) (e:Ed) (all:Ed),tY (es++[e]) all=⟨(tY es all).bK || e.bK,jl ((tY es all).fst++e.fst),jl ((tY es all).aT++e.aT)⟩
 | [],e,all=>rfl
 | k::es,e,all=>by simp only[List.cons_append,tY];rw[Zb8 es]
theorem VY:∀(a b:List aM),lq (a++b)=lq a+lq b
 | [],b=>by simp[lq]
 | p::a,b=>by simp only[List.cons_append,lq];rw[VY a b];omega
def bP(sg:Int)(v w:AV):AV:=.agg [aj sg,v,w,.sl true []]
def mG(sg:Int)(o:Bool)(st:Gs)(a b c:Nat):List (Nat×Option aF):=
 [(a,some (.arr 4 [bP sg (vV o b (st.aB.map aA)) (vV o c (st.fo.map aA))])),(b,vB o 1 (st.aB.map aA)),(c,vB o 1 (st.fo.map aA))]
def Ze(sg:Int)(st:Gs)(S:St):Prop:=S.n=10∧S.g 0=some (.arr 4 [bP sg (.own 3 0 st.aB.length) (.own 4 0 st.fo.length)])∧S.g 3=some (.arr 1 (st.aB.map aA))∧S.g 4=some (.arr 1 (st.fo.map aA))
theorem Ze.of{sg:Int}{st:Gs}{G:List (Nat×Option aF)}:Ze sg st ⟨10,cB (mG sg true st 0 3 4++G)⟩:=⟨rfl,by simp[mG,cB,bT],by simp[mG,cB,bA],by simp[mG,cB,bA]⟩
def oV(P:Program)(f:FuncId)(args:List AV)(sg:Int)(o:Bool)(st st':Gs)(r:AV):Prop:=
 aQ P f (.ptr 0 0 0::args) ⟨3,cB (mG sg o st 0 1 2)⟩ fun r' S'=>r'=r∧Ze sg st' S'
def nM(sg:Int)(st:Gs)(id b c:Nat)(S:St):St:=
 ((((((St.mk (S.n+7) S.g).set id (some (.arr 4 [bP sg (.own S.n 0 st.aB.length) (.own (S.n+1) 0 st.fo.length)]))).set b none).set c none).set S.n (some (.arr 1 (st.aB.map aA)))).set (S.n+1) (some (.arr 1 (st.fo.map aA))))
theorem oV.P6n{P:Program}{f:FuncId}{args Nw:List AV}{sg:Int}{o:Bool}{st st':Gs}{r:AV}(h:oV P f args sg o st st' r)(ha:∀R,dX yF R Nw args)(hr:aY r){S:St}{K:AV→St→Prop}{id b c:Nat}
  (h1:S.g id=some (.arr 4 [bP sg (vV o b (st.aB.map aA)) (vV o c (st.fo.map aA))])) (h2:∀R,Br yF R (S.g b) (vB o 1 (st.aB.map aA))) (h3:∀R,Br yF R (S.g c) (vB o 1 (st.fo.map aA)))
  (hd:id≠b∧id≠c∧b≠c) (hl:id < S.n∧b < S.n∧c < S.n) (hk:K r (nM sg st' id b c S)):aQ P f (.ptr id 0 0::Nw) S K:=by
 refine aQ.frame 3 [(0,id),(1,b),(2,c)] (mG sg o st 0 1 2) (.ptr 0 0 0::args) _ (by simp;omega) (by simp;omega) ?_ ?_ h ?_
 ·intro p hp
  simp only[mG,List.mem_cons,List.not_mem_nil,or_false] at hp;rcases hp with rfl | rfl | rfl
  ·refine .inr ⟨id,by simp,?_⟩
   rw[h1,iQ];refine⟨rfl,?_⟩;simp only[bP,jJ,jL,and_true,jM];exact⟨.cl (aS _),jQ (by simp) (jd _),jQ (by simp) (jd _),.cl (jD _)⟩
  ·exact .inr ⟨b,by simp,h2 _⟩
  ·exact .inr ⟨c,by simp,h3 _⟩
 ·exact .cons (.ptr _ _ _ _ (by simp)) (ha _)
 ·rintro r1 S1 hn ⟨rfl,q1,q2,q3,q4⟩
  refine⟨r1,_,hk,.cl hr,by simp[nM,bf,q1],fun i k hi=>?_⟩;simp only[nM,aG] at hi;by_cases e5:i=S.n+1
  ·rw[if_pos e5] at hi
   refine .inr ⟨4,.inr ⟨by omega,by omega⟩,?_⟩;rw[←hi,q4,iQ];exact⟨rfl,.cl (jd _)⟩
  rw[if_neg e5] at hi;by_cases e4:i=S.n
  ·rw[if_pos e4] at hi
   refine .inr ⟨3,.inr ⟨by omega,by omega⟩,?_⟩;rw[←hi,q3,iQ];exact⟨rfl,.cl (jd _)⟩
  rw[if_neg e4] at hi;by_cases ec:i=c
  ·rw[if_pos ec] at hi;cases hi
  rw[if_neg ec] at hi;by_cases eb:i=b
  ·rw[if_pos eb] at hi;cases hi
  rw[if_neg eb] at hi;by_cases ea:i=id
  ·rw[if_pos ea] at hi
   refine .inr ⟨0,.inl ⟨by omega,by simp[ea]⟩,?_⟩;rw[←hi,q2,iQ];refine⟨rfl,?_⟩;simp only[bP,jJ,jL,and_true,jM,jW];exact⟨.cl (aS _),(.inr ⟨by omega,by omega⟩),(.inr ⟨by omega,by omega⟩),.cl (jD _)⟩
  ·rw[if_neg ea] at hi
   refine .inl ⟨?_,hi⟩;simp;omega
theorem oV.use{P:Program}{f:FuncId}{args Nw:List AV}{sg:Int}{o:Bool}{st st':Gs}{r:AV}(h:oV P f args sg o st st' r)(ha:∀R,dX yF R Nw args)(hr:aY r){S:St}{K:AV→St→Prop}{id b c:Nat}
  (h1:S.g id=some (.arr 4 [bP sg (vV o b (st.aB.map aA)) (vV o c (st.fo.map aA))])) (h2:S.g b=vB o 1 (st.aB.map aA)) (h3:S.g c=vB o 1 (st.fo.map aA))
  (hd:id≠b∧id≠c∧b≠c) (hl:id < S.n∧b < S.n∧c < S.n) (hk:K r (nM sg st' id b c S)):aQ P f (.ptr id 0 0::Nw) S K:=
 oV.P6n h ha hr h1 (fun _=>by rw[h2];exact jO (jd _)) (fun _=>by rw[h3];exact jO (jd _)) hd hl hk
def qX(most:Int):Int→List Int→Int
 | s,[]=>s
 | s,w::ws=>if s≤most then qX most (s+w) ws else s
theorem ZnU{most B M:Int}(hM:most+B≤M):∀{ws:List Int} {s:Int},(∀w∈ws,0≤w∧w≤B)→s≤M→s≤qX most s ws∧qX most s ws≤M
 | [],s,_,hs=>⟨Int.le_refl _,hs⟩
 | w::ws,s,h,hs=>by
  have hw:=h w (by simp);simp only[qX];split
  ·have:=ZnU hM (ws:=ws) (s:=s+w) (fun x hx=>h x (by simp[hx])) (by omega)
   omega
  ·exact⟨Int.le_refl _,hs⟩
theorem ZjB{most:Int}:∀{ws:List Int} {s:Int},(∀w∈ws,0≤w)→qX most s ws≤most→s≤most∧(∀w∈ws,w≤most - s)∧s+ws.sum≤most
 | [],s,_,h=>by simp only[qX] at h;simp;exact h
 | w::ws,s,h0,h=>by
  simp only[qX] at h;have hw:=h0 w (by simp);split at h
  ·rename_i hs
   obtain⟨h1,h2,h3⟩:=ZjB (ws:=ws) (s:=s+w) (fun x hx=>h0 x (by simp[hx])) h;refine⟨hs,fun x hx=>?_,by simp;omega⟩;rcases List.mem_cons.mp hx with rfl | hx
   ·omega
   ·have:=h2 x hx;omega
  ·omega
theorem ZnV{most s:Int}{ws:List Int}{i:Nat}(h:i < ws.length)(hs:s≤most):qX most s (ws.drop i)=qX most (s+ws[i]) (ws.drop (i+1)):=by
 rw[List.drop_eq_getElem_cons h,qX,if_pos hs]
theorem ZnX{most s:Int}{ws:List Int}(hs:¬s≤most):qX most s ws=s:=by cases ws with
 | nil=>rfl
 | cons w ws=>rw[qX,if_neg hs]
theorem ZnY:∀(ws:List Int),(∀w∈ws,1≤w)→(ws.length:Int)≤ws.sum
 | [],_=>by simp
 | w::ws,h=>by have:=ZnY ws (fun x hx=>h x (by simp[hx]));have:=h w (by simp);simp;omega
mutual
def yY:aM→Prop
 | .mk _ s g ks=>Len s∧g.length≤17592186043904∧Len ks∧zO ks
def zO:List aM→Prop
 | []=>True
 | p::ps=>yY p∧zO ps
end
theorem zO.mem:∀{ks:List aM},zO ks→∀q∈ks,yY q
 | [],_,q,h=>by simp at h
 | p::ps,h,q,hq=>by
  simp only[zO] at h;rcases List.mem_cons.mp hq with rfl | hq
  ·exact h.1
  ·exact zO.mem h.2 q hq
inductive zx where
 | mk (kind:Int) (name:ByteArray) (low high:Int) (kids:List zx)
def zx.kids:zx→List zx | .mk _ _ _ _ ks=>ks
theorem Zpc(p:aM):∃x1 x2 x3 x4:AV,jf p=.agg [x1,x2,x3,x4]:=by obtain⟨k,s,a,b⟩:=p;rw[lY];exact⟨_,_,_,_,rfl⟩
def Zwg(s:ByteArray):Prop:=s.size≤140737488351232
mutual
def Sb:zx→Prop
 | .mk _ s _ _ ks=>Zwg s∧Len ks∧FX ks
def FX:List zx→Prop
 | []=>True
 | p::ps=>Sb p∧FX ps
end
theorem FX.mem:∀{ks:List zx},FX ks→∀q∈ks,Sb q
 | [],_,q,h=>by simp at h
 | p::ps,h,q,hq=>by
  simp only[FX] at h;rcases List.mem_cons.mp hq with rfl | hq
  ·exact h.1
  ·exact FX.mem h.2 q hq
def without(x:Bk)(i:Int):Bk:=if 0≤i∧i < x.rules.length then { x with rules:=x.rules.take i.toNat++x.rules.drop (i.toNat+1) } else x
theorem nJ.look{P:Program}{f:FuncId}{args args':List AV}{r:AV}{S:St}{F:List Nat}(h:aO P f args' r)(hz:gI (only F S.g) args args')(hr:xG r):nJ P f args S F r:=⟨args',h,hz.1,hz.2,.inl hr⟩
theorem rY.ok{st:Gs}(h:rY st):y9 st:=⟨h.len,fun r hr=>(h.rows r hr).1⟩
def xJ(n:Int):Prop:=IntKind.i64.min≤n∧n≤IntKind.i64.max
def Gm(P:Program)(t:TypeId):Bool:=(match P.underlying t with | some (.int .i64)=>true | _=>false) && Nat.beq (P.cellsOf t) 1
def JQ(P:Program)(t:TypeId):Bool:=(match P.underlying t with | some .bool=>true | _=>false) && Nat.beq (P.cellsOf t) 1
def wu(P:Program)(t e:TypeId):Bool:=(match P.underlying t with | some (.slice e')=>Nat.beq e' e | _=>false) && (Nat.beq (P.cellsOf t) 1 && (decide (0 < P.cellsOf e) && decide (0 < P.bytesOf e)))
def yu(P:Program):Nat→List Field→List TypeId→Bool
 | _,[],[]=>true
 | o,f::fs,t::ts=>Nat.beq f.offset o && (Nat.beq f.type t && yu P (o+P.cellsOf t) fs ts)
 | _,_,_=>false
def El(P:Program)(t:TypeId)(ts:List TypeId):Bool:=match P.underlying t with
 | some (.struct fs)=>yu P 0 fs.toList ts && Nat.beq (P.cellsOf t) ((fs.toList.map fun f=>P.cellsOf f.type).sum)
 | _=>false
section
variable{P:Program}
theorem FB{t:TypeId}(h:Gm P t=true)(n:Nat):iW P n t aj xJ:=by
 simp only[Gm,Bool.and_eq_true] at h;obtain⟨h1,h2⟩:=h;split at h1
 ·rename_i hu;exact iW.int hu (Nat.eq_of_beq_eq_true h2) n
 ·cases h1
theorem ZrC{t:TypeId}(h:JQ P t=true)(n:Nat):iW P n t aH (fun _=>True):=by
 simp only[JQ,Bool.and_eq_true] at h;obtain⟨h1,h2⟩:=h;split at h1
 ·rename_i hu;exact iW.bool hu (Nat.eq_of_beq_eq_true h2) n
 ·cases h1
theorem ZlN{X:Type}{enc:X→AV}{good:X→Prop}{t e:TypeId}(h:wu P t e=true)(he:∀n,iW P n e enc good):∀n,iW P n t (fun l:List X=>.sl false (l.map enc)) (fun l=>Len l∧∀x∈l,good x):=by
 simp only[wu,Bool.and_eq_true,decide_eq_true_eq] at h;obtain⟨h1,h2,h3,h4⟩:=h;have hc:=Nat.eq_of_beq_eq_true h2;intro n;cases n with
 | zero=>exact .zero (fun _ _=>by simp[AV.cells,hc]) (fun _ _=>by simp[AV.cells,AV.atom])
 | succ n=>
  split at h1
  ·rename_i e' hu
   have:=Nat.eq_of_beq_eq_true h1;subst this;exact iW.slice hu hc h3 h4 (he n)
  ·cases h1
def Sw{X:Type}(l:List X):Prop:=l.length≤17592186043904
def MV(P:Program)(t e:TypeId):Bool:=wu P t e && Nat.beq (P.bytesOf e) 8
theorem ZrE{t e:TypeId}(h:MV P t e=true):wu P t e=true:=by simp only[MV,Bool.and_eq_true] at h;exact h.1
theorem ZoX{X:Type}{enc:X→AV}{good:X→Prop}{t e:TypeId}(h:MV P t e=true)(he:∀n,iW P n e enc good):∀n,iW P n t (fun l:List X=>.sl false (l.map enc)) (fun l=>Sw l∧∀x∈l,good x):=by
 simp only[MV,wu,Bool.and_eq_true,decide_eq_true_eq] at h;obtain⟨⟨h1,h2,h3,h4⟩,h8⟩:=h;have hc:=Nat.eq_of_beq_eq_true h2;have hb:=Nat.eq_of_beq_eq_true h8;intro n;cases n with
 | zero=>exact .zero (fun _ _=>by simp[AV.cells,hc]) (fun _ _=>by simp[AV.cells,AV.atom])
 | succ n=>
  split at h1
  ·rename_i e' hu
   have:=Nat.eq_of_beq_eq_true h1;subst this;have hD:=iW.sliceB hu hc h3 h4 (he n);rw[hb] at hD;refine⟨fun x _=>by simp[AV.cells,hc],fun x _ y hy=>by simp[AV.cells] at hy;subst hy;rfl,fun eh w cs r hr hw=>?_⟩;obtain⟨x,hx,g⟩:=hD.run eh w cs r hr hw;exact⟨x,⟨by have:=hx.1;unfold Sw;omega,hx.2⟩,g⟩
  ·cases h1
theorem ZlO{X:Type}{enc:X→AV}{good:X→Prop}{t e:TypeId}(h:wu P t e=true){n:Nat}(he:iW P n e enc good):iW P (n+1) t (fun l:List X=>.sl false (l.map enc)) (fun l=>Len l∧∀x∈l,good x):=by
 simp only[wu,Bool.and_eq_true,decide_eq_true_eq] at h;obtain⟨h1,h2,h3,h4⟩:=h;have hc:=Nat.eq_of_beq_eq_true h2;split at h1
 ·rename_i e' hu
  have:=Nat.eq_of_beq_eq_true h1;subst this;exact iW.slice hu hc h3 h4 he
 ·cases h1
theorem ZlP{X:Type}{enc:X→AV}{good:List X→Prop}{t e:TypeId}(h:wu P t e=true):iW P 0 t (fun l:List X=>.sl false (l.map enc)) good:=by
 simp only[wu,Bool.and_eq_true,decide_eq_true_eq] at h;have hc:=Nat.eq_of_beq_eq_true h.2.1;exact .zero (fun _ _=>by simp[AV.cells,hc]) (fun _ _=>by simp[AV.cells,AV.atom])
theorem Xy{n o:Nat}(fs:List Field)(h:yu P o fs []=true):y8 P n o fs (fun _:Unit=>[]) (fun _=>True):=by
 cases fs with
 | nil=>exact y8.nil
 | cons f fs=>simp[yu] at h
theorem zF{n o:Nat}{t:TypeId}{ts:List TypeId}{X Y:Type}{e1:X→AV}{g1:X→Prop}{e2:Y→List AV}{g2:Y→Prop}(h1:iW P n t e1 g1)(h2:∀fs,yu P (o+P.cellsOf t) fs ts=true→y8 P n (o+P.cellsOf t) fs e2 g2)
  (fs:List Field) (h:yu P o fs (t::ts)=true):y8 P n o fs (fun p:X×Y=>(e1 p.1).cells++e2 p.2) (fun p=>g1 p.1∧g2 p.2):=by
 cases fs with
 | nil=>simp[yu] at h
 | cons f fs=>
  simp only[yu,Bool.and_eq_true] at h;obtain⟨a,b,c⟩:=h;have hb:=Nat.eq_of_beq_eq_true b;subst hb;exact y8.cons (Nat.eq_of_beq_eq_true a) h1 (h2 fs c)
theorem XY{t:TypeId}{ts:List TypeId}{n:Nat}{X:Type}{enc:X→List AV}{good:X→Prop}(h:El P t ts=true)(hR:∀fs,yu P 0 fs ts=true→y8 P n 0 fs enc good):iW P (n+1) t (fun x=>.agg (enc x)) good:=by
 unfold El at h;split at h
 ·rename_i fs hu
  simp only[Bool.and_eq_true] at h;exact iW.struct hu (Nat.eq_of_beq_eq_true h.2) (hR _ h.1)
 ·cases h
theorem Wm{t:TypeId}{ts:List TypeId}(h:El P t ts=true):P.cellsOf t=(ts.map fun t=>P.cellsOf t).sum:=by
 unfold El at h;split at h
 ·rename_i fs hu
  simp only[Bool.and_eq_true] at h;rw[Nat.eq_of_beq_eq_true h.2]
  have key:∀(o:Nat) (l:List Field) (ts:List TypeId),yu P o l ts=true→l.map (fun f=>P.cellsOf f.type)=ts.map fun t=>P.cellsOf t:=by
   intro o l;induction l generalizing o with
   | nil=>intro ts h;cases ts with
    | nil=>rfl
    | cons t ts=>simp[yu] at h
   | cons f l ih=>intro ts h;cases ts with
    | nil=>simp[yu] at h
    | cons t ts=>
     simp only[yu,Bool.and_eq_true] at h;rw[List.map_cons,List.map_cons,ih _ _ h.2.2,Nat.eq_of_beq_eq_true h.2.1]
  rw[key _ _ _ h.1]
 ·cases h
theorem Yg{t:TypeId}(h:Gm P t=true):P.cellsOf t=1:=by simp only[Gm,Bool.and_eq_true] at h;exact Nat.eq_of_beq_eq_true h.2
theorem ZtL{t:TypeId}(h:JQ P t=true):P.cellsOf t=1:=by simp only[JQ,Bool.and_eq_true] at h;exact Nat.eq_of_beq_eq_true h.2
theorem Yh{t e:TypeId}(h:wu P t e=true):P.cellsOf t=1:=by simp only[wu,Bool.and_eq_true] at h;exact Nat.eq_of_beq_eq_true h.2.1
structure KC where
 i:TypeId
 b:TypeId
 s:TypeId
 is:TypeId
 rg:TypeId
 rgs:TypeId
 p:TypeId
 ps:TypeId
 ru:TypeId
 rus:TypeId
 nd:TypeId
 nds:TypeId
 it:TypeId
 its:TypeId
 vr:TypeId
 vrs:TypeId
 ss:TypeId
 bk:TypeId
def FV(P:Program)(T:KC):Bool:=Gm P T.i && MV P T.is T.i && El P T.rg [T.i,T.i] && wu P T.rgs T.rg && El P T.p [T.i,T.rgs,T.is,T.ps] && wu P T.ps T.p
def Yw(r:Rg):Prop:=xJ r.low∧xJ r.high
mutual
def xR:aM→Prop
 | .mk k s g ks=>xJ k∧(Len s∧∀r∈s,Yw r)∧(Sw g∧∀x∈g,xJ x)∧Len ks∧Ah ks
def Ah:List aM→Prop
 | []=>True
 | p::ps=>xR p∧Ah ps
end
theorem Xm:∀{ks:List aM},Ah ks↔∀q∈ks,xR q
 | []=>by simp[Ah]
 | p::ps=>by simp[Ah,Xm (ks:=ps)]
mutual
def Ns:zx→Prop
 | .mk k s a b ks=>xJ k∧Zwg s∧xJ a∧xJ b∧Len ks∧Gy ks
def Gy:List zx→Prop
 | []=>True
 | p::ps=>Ns p∧Gy ps
end
theorem ZvL{T:KC}(h:FV P T=true):∀n,iW P n T.rg En Yw:=by
 simp only[FV,Bool.and_eq_true] at h;obtain⟨⟨⟨⟨⟨hi,his⟩,hrg⟩,ZT⟩,hp⟩,hps⟩:=h;intro n;cases n with
 | zero=>exact .zero (fun x _=>by rw[Wm hrg];simp[En,AV.cells,Yg hi]) (fun x _ y hy=>by simp[En,AV.cells] at hy;rcases hy with rfl | rfl<;>rfl)
 | succ n=>
  have hD:=XY (n:=n) hrg (zF (FB hi n) (zF (FB hi n) Xy));exact hD.map En Yw (fun p=>⟨p.1,p.2.1⟩) (fun r=>(r.low,r.high,())) (fun x=>by simp[En,aj,AV.cells]) (fun x hx=>⟨hx.1,hx.2.1⟩) (fun y hy=>⟨⟨hy.1,hy.2,trivial⟩,by simp[En,aj,AV.cells]⟩)
theorem ZtS{T:KC}(h:FV P T=true):∀n,iW P n T.p jf xR∧iW P n T.ps (fun l:List aM=>.sl false (l.map jf)) (fun l=>Len l∧∀x∈l,xR x):=by
 have hr:=ZvL h;simp only[FV,Bool.and_eq_true] at h;obtain⟨⟨⟨⟨⟨hi,his⟩,hrg⟩,ZT⟩,hp⟩,hps⟩:=h;intro n;induction n with
 | zero=>
  refine⟨.zero (fun x _=>?_) (fun x _ y hy=>?_),ZlP hps⟩
  ·rw[Wm hp];simp[VT,Yg hi,Yh ZT,Yh (ZrE his),Yh hps]
  ·obtain⟨k,s,g,ks⟩:=x
   rw[lY] at hy;simp only[AV.cells,List.mem_cons,List.not_mem_nil,or_false] at hy;rcases hy with rfl | rfl | rfl | rfl<;>rfl
 | succ n ih=>
  refine⟨?_,ZlO hps ih.1⟩;have hD:=XY (n:=n) hp (zF (FB hi n) (zF (ZlN ZT hr n) (zF (ZoX his (FB hi) n) (zF ih.2 Xy))));refine hD.map jf xR (fun p=>.mk p.1 p.2.1 p.2.2.1 p.2.2.2.1) (fun p=>(p.kind,p.set,p.signs,p.kids,())) (fun x=>?_) (fun x hx=>?_) (fun y hy=>?_)
  ·rw[lY];simp[aj,Bh,aA,AV.cells]
  ·rw[xR,Xm];exact⟨hx.1,hx.2.1,hx.2.2.1,hx.2.2.2.1.1,hx.2.2.2.1.2⟩
  ·obtain⟨k,s,g,ks⟩:=y
   rw[xR,Xm] at hy;exact⟨⟨hy.1,hy.2.1,hy.2.2.1,⟨hy.2.2.2.1,hy.2.2.2.2⟩,trivial⟩,by rw[lY];simp[aj,Bh,aA,AV.cells,aM.kind,aM.set,aM.signs,aM.kids]⟩
structure M9(r:oF):Prop where
 num:xJ r.num
 b:xR r.before
 a:xR r.after
 pos:xJ r.pos
theorem Zii(p:aM):∀y∈(jf p).cells,y.atom=true:=by
 obtain⟨k,s,g,ks⟩:=p;rw[lY];intro y hy;simp only[AV.cells,List.mem_cons,List.not_mem_nil,or_false] at hy;rcases hy with rfl | rfl | rfl | rfl<;>rfl
theorem ZtT{T:KC}(h:FV P T=true)(hb:JQ P T.b=true)(hr:El P T.ru [T.i,T.b,T.p,T.p,T.i]=true):∀n,iW P n T.ru qG M9:=by
 have hp:=fun n=>(ZtS h n).1
 have hpc:P.cellsOf T.p=4:=by have:=(hp 0).size (.mk 0 [] [] []) (by simp[xR,Ah,xJ,Len,Sw,IntKind.min,IntKind.max];decide);rw[VT] at this;exact this.symm
 have hi:Gm P T.i=true:=by simp only[FV,Bool.and_eq_true] at h;exact h.1.1.1.1.1
 intro n;cases n with
 | zero=>
  refine .zero (fun x _=>?_) (fun x _ y hy=>?_)
  ·rw[Wm hr,Zra];simp[Yg hi,ZtL hb,hpc]
  ·unfold qG at hy
   simp only[AV.cells,List.mem_append,List.mem_cons,List.not_mem_nil,or_false] at hy;rcases hy with(((rfl | rfl) | hy) | hy) | rfl
   ·rfl
   ·rfl
   ·exact Zii _ _ hy
   ·exact Zii _ _ hy
   ·rfl
 | succ n=>
  have hD:=XY (n:=n) hr (zF (FB hi n) (zF (ZrC hb n) (zF (hp n) (zF (hp n) (zF (FB hi n) Xy)))));refine hD.map qG M9 (fun p=>⟨p.1,p.2.1,p.2.2.1,p.2.2.2.1,p.2.2.2.2.1⟩) (fun r=>(r.num,r.cut,r.before,r.after,r.pos,())) (fun x=>?_) (fun x hx=>⟨hx.1,hx.2.2.1,hx.2.2.2.1,hx.2.2.2.2.1⟩) (fun y hy=>⟨⟨hy.num,trivial,hy.b,hy.a,hy.pos,trivial⟩,?_⟩)
  ·simp[qG,aj,aH,AV.cells]
  ·simp[qG,aj,aH,AV.cells]
end
mutual
theorem xR.good:∀{p:aM},xR p→yY p
 | .mk k s g ks,h=>by simp only[xR] at h;simp only[yY];exact⟨h.2.1.1,h.2.2.1.1,h.2.2.2.1,Ah.good h.2.2.2.2⟩
theorem Ah.good:∀{ks:List aM},Ah ks→zO ks
 | [],_=>trivial
 | p::ps,h=>by simp only[Ah] at h;exact⟨xR.good h.1,Ah.good h.2⟩
end
mutual
theorem Ns.good:∀{p:zx},Ns p→Sb p
 | .mk k s a b ks,h=>by simp only[Ns] at h;simp only[Sb];exact⟨h.2.1,h.2.2.2.2.1,Gy.good h.2.2.2.2.2⟩
theorem Gy.good:∀{ks:List zx},Gy ks→FX ks
 | [],_=>trivial
 | p::ps,h=>by simp only[Gy] at h;exact⟨Ns.good h.1,Gy.good h.2⟩
end
theorem iW.arr{P:Program}{t e:TypeId}{n fuel:Nat}{X:Type}{enc:X→AV}{good:X→Prop}(ht:P.underlying t=some (.array n e))(hc:P.cellsOf t=n)(he:P.cellsOf e=1)(hat:∀x,(enc x).atom=true)(h:iW P fuel e enc good) :
  iW P (fuel+1) t (fun l:List X=>.agg (l.map enc)) (fun l=>l.length=n∧∀x∈l,good x):=by
 refine⟨fun x hx=>by simp[AV.cells,hc,hx.1],fun x hx y hy=>?_,fun eh w cs r hr hw=>?_⟩
 ·simp only[AV.cells] at hy
  obtain⟨z,_,rfl⟩:=List.mem_map.mp hy;exact hat z
 ·unfold DataW.trod at hr
  rw[ht] at hr
  have hr':(if cs.length=P.cellsOf t then ((List.range n).mapM fun i=>DataW.trod eh P w 0 (fun _=>true) true fuel e ((cs.drop (i*P.cellsOf e)).take (P.cellsOf e))).map fun xs=>(DataW.agg (xs.map (·.1)),xs.flatMap (·.2)) else none)=some r:=by
   revert hr;split<;>simp_all
  clear hr;split at hr'
  ·rename_i hlen
   simp only[Option.map_eq_some_iff] at hr';obtain⟨ds,hds,hr2⟩:=hr';obtain⟨hdl,hget⟩:=AZ hds;rw[List.length_range] at hdl
   have hw2:∀i (hi:i < ds.length),FZ P e (ds[i]).1:=by
    intro i hi k hk;refine hw k ?_;rw[←hr2];simp only[DataW.weights,ht]
    have key:∀(l:List (DataW _×List MemPlace)),ds[i]∈l→k∈DataW.weightsAll P e (l.map (·.1)):=by
     intro l hl;induction l with
     | nil=>simp at hl
     | cons d l ih=>
      simp only[List.map_cons,DataW.weightsAll,List.mem_append];rcases List.mem_cons.mp hl with rfl | hl
      ·exact .inl hk
      ·exact .inr (ih hl)
    exact key ds (List.getElem_mem hi)
   obtain⟨l,hll,hq⟩:=VK (X:=X) (Q:=fun i x=>good x∧∃v,cs[i]? = some v∧aK (E0 w) (enc x) v) n (by
    intro i hi;obtain⟨j,h1,h2⟩:=hget i (by omega);rw[List.getElem?_range hi] at h1;cases h1;obtain⟨x,g1,g2,g3⟩:=h.run eh w _ _ h2 (hw2 i (by omega));have hcx:=AV.EP (hat x);obtain⟨v,g4,g5⟩:=g3 0 (by rw[hcx];simp);refine⟨x,g1,v,?_,?_⟩
    ·rw[he,List.getElem?_take,if_pos (by omega),List.getElem?_drop] at g4
     simpa using g4
    ·simpa[hcx] using g5)
   refine⟨l,⟨hll,fun x hx=>?_⟩,hlen,fun k hk=>?_⟩
   ·obtain⟨i,hi,rfl⟩:=List.mem_iff_getElem.mp hx
    exact(hq i hi).1
   ·have hk':k < l.length:=by simpa[AV.cells] using hk
    obtain⟨_,v,g1,g2⟩:=hq k hk';exact⟨v,g1,by simpa[AV.cells] using g2⟩
  ·cases hr'
structure Ul where
 i:TypeId
 b:TypeId
 is:TypeId
 Z4:TypeId
 bs:TypeId
 d:TypeId
def Yi(P:Program)(T:Ul):Bool:=Gm P T.i && JQ P T.b && wu P T.is T.i && wu P T.Z4 T.is && wu P T.bs T.b && El P T.d [T.i,T.Z4,T.bs]
def Tn(l:List Int):Prop:=Len l∧∀x∈l,xJ x
def ZwC(l:List (List Int)):Prop:=Len l∧∀x∈l,Tn x
def gBs(l:List Bool):Prop:=Len l∧∀x∈l,True
def Zwj(d:aD):Prop:=xJ d.signs∧ZwC d.next∧gBs d.fin
theorem Zwj.ok{d:aD}(h:Zwj d):r9 d:=
 ⟨h.2.1.1,h.2.2.1,fun r hr=>(h.2.1.2 r hr).1,by have:=h.1;simp[xJ,IntKind.min,IntKind.max] at this;first | exact this | (simp[IntKind.bits] at this;omega)⟩
section
variable{P:Program}{T:Ul}
theorem ZtR(h:Yi P T=true):∀n,iW P n T.is aA Tn:=by
 simp only[Yi,Bool.and_eq_true] at h;obtain⟨⟨⟨⟨⟨hi,hb⟩,his⟩,abE⟩,hbs⟩,hd⟩:=h;exact ZlN his (FB hi)
end
end Go.Rf
namespace Go.Rf
open Go.RowKit
attribute [local simp] l9 lT l6 mI mJ mM mK l7 mP mH mF dN gL fJ gJ ig fI gK iq gX gV gY eZ gQ gZ gP d9 eF gU iN iK iM iL iO gD fM fH dZ fQ fU fV fP fE iH iw gT iF iC iE iD iG iI iA gu fF fG fK gy dx dL fq iB iJ ex au bS dM dY bF bJ aG bf dU eY dQ fO gN gM iy gW bO dw dz eD eu fZ dR bC bZ dD dJ dF fu eB eX eP eU dW dh dS dP dO bB AV.solid S0 aj aH
def XJ(HV:FuncId):AC:= (.block 2 (.loop (sq [ro 36 (.bin .lss (.t 35) (.t 34))] (.seq (.cond (.t 36) .skip (.exit 2)) (.seq (.block 3 (sq [rm 37 35,rm 8 37] (.ny [rm 38 7,rm 39 8,rm 40 0,rm 41 1,rm 42 0,ro 43 (.iU (.t 42)),rF 44 6 43,rL 45 44,rm 46 6,ro 47 (.aI 1 (.t 45) (.t 46)),rL 48 47,rm 49 8,⟨(some 50),.mv (.c .junk),none,(some ((.t 41),[(.t 48),(.t 49)]))⟩,rk 51 HV [(.t 40),(.t 50)],ro 52 (.aI 1 (.t 38) (.t 39)),rn (.store 1 (.t 52) (.t 51))] none))) (.reg none [ro 53 (.bin .add (.t 35) (ci 1)),rm 35 53]))))))
def WC(EJ:FuncId):AC:= (.reg (some [[],[],[],[],[],[true],[false,true],[false,false,true],[false,false,false,true],[false,false,false,false,true],[false,false,false,false,false,true],[false,false,false,false,false,false,true],[false,false,false,false,false,false,false,true],[false,false,false,false,false,false,false,false,true],[false,false,false,false,false,false,false,false,false,true],[],[],[],[true]]) [rF 54 1 5,rL 55 54,rm 56 7,ro 57 (.dn 1 1 (.sl true []) [(0,(.t 56))]),ro 58 (.app 1 24 (.t 55) (.t 57)),rF 59 2 5,rL 60 59,rm 61 0,rm 62 0,ro 63 (.iU (.t 62)),rF 64 6 63,rL 65 64,rm 66 6,ro 67 (.aI 1 (.t 65) (.t 66)),rL 68 67,rk 69 EJ [(.t 61),(.t 68)],ro 70 (.dn 1 1 (.v (.bool false)) [(0,(.t 69))]),ro 71 (.app 1 1 (.t 60) (.t 70)),rF 72 1 5,rn (.store 1 (.t 72) (.t 58)),rF 73 2 5,rn (.store 1 (.t 73) (.t 71))])
def Xt(HV EJ:FuncId):AC:= (.block 0 (.loop (.seq (sq [rm 18 6,rm 19 0,ro 20 (.iU (.t 19)),rF 21 6 20,rL 22 21,ro 23 (.len (.t 22)),ro 24 (.bin .lss (.t 18) (.t 23))] (.cond (.t 24) .skip (.exit 0))) (.seq (.block 1 (sq [rm 27 0,ro 28 (.iU (.t 27)),rF 29 0 28,rF 30 0 29,rL 31 30,ro 32 (.wF 1 8 (.v (.int .i64 0)) (.t 31) (.t 31)),rm 7 32] (.seq (sq [rm 33 7,ro 34 (.len (.t 33)),ro 35 (.mv (ci 0))] (XJ HV)) (WC EJ)))) (.reg none [rm 25 6,ro 26 (.bin .add (.t 25) (ci 1)),rm 6 26])))))
def LC(HV EJ:FuncId):AC:= (sq [ro 4 (.alloc (.agg [(.v (.int .i64 0)),(.sl true []),(.sl true [])]) 3)] (sq [rm 9 0,ro 10 (.iU (.t 9)),rF 11 0 10,rF 12 0 11,rL 13 12,ro 14 (.build (.agg [(.v (.int .i64 0)),(.sl true []),(.sl true [])]) [(0,1)] [(0,(.t 13))]),ro 5 (.alloc (.agg [(.v (.int .i64 0)),(.sl true []),(.sl true [])]) 3),rn (.store 3 (.t 5) (.t 14))] (.seq (.ny [rm 15 0,ro 16 (.dn 1 1 (.v (.int .i64 0)) [(0,(ci 0))]),rk 17 HV [(.t 15),(.t 16)]] none) (.seq (sq [ro 6 (.mv (ci 0))] (Xt HV EJ)) (sq [ro 74 (.load (some 3) (.t 5)),rn (.store 3 (.t 4) (.t 74))] .ret)))))
def Kz(fT:TypeId):Value:=.iface fT (.agg #[])
def JM(P:Program)(uw fT:FuncId)(n:Net):Prop:=∀(id km:Nat) (most:Int) (ss:List (List Int)) (v:AV) (set:List Int) (S:St) (K:AV→St→Prop) (X:Value→St→Prop),wY S id km n most ss v→Val n set→Ei n most ss→most≤3000→
 (set∈ss→∀m,S.n≤m→K (aj (ss.idxOf set)) ⟨m,S.g⟩)→
 (set∉ss→(ss.length:Int) < most→∀S' v',wY S' id km n most (ss++[set]) v'→Uq S S' (id::km::v.ids)→(∀i∈v'.ids,S.n≤i)→K (aj ss.length) S')→
 (set∉ss→(ss.length:Int)=most→∀m,S.n≤m→X (Kz fT) ⟨m,S.g⟩)→oW P uw [.ptr id 0 0,aA set] S K X
def Old(bE S:St)(id km:Nat):Prop:=bE.n≤S.n∧∀i,i < bE.n→i≠id→i≠km→S.g i=bE.g i
def Sq(P:Program)(cf:FuncId)(cap:List AV)(bE:St)(id km:Nat)(n:Net)(most:Int)(kd:Kd):Prop:=∀(S:St) (ss:List (List Int)) (v:AV) (set:List Int) (s:Int) (K:AV→St→Prop),wY S id km n most ss v→Old bE S id km→Val n set→
 (∀m,S.n≤m→K (aA (lI kd n set s)) ⟨m,S.g⟩)→aQ P cf ([aA set,aj s]++cap) S K
structure EG(f:AF)(id b4 b5 q L i:Nat)(aP:AV):Prop where
 e0:f 0=.ptr id 0 0
 e1:f 1=aP
 e4:f 4=.ptr b4 0 0
 e5:f 5=.ptr b5 0 0
 e6:f 6=aj i
 e7:f 7=.own q 0 L
theorem EG.same{f f':AF}{id b4 b5 q L i:Nat}{aP:AV}(h:EG f id b4 b5 q L i aP)(hf:∀j,j=0∨j=1∨j=4∨j=5∨j=6∨j=7→f' j=f j):EG f' id b4 b5 q L i aP:=
 ⟨by rw[hf _ (by simp)];exact h.e0,by rw[hf _ (by simp)];exact h.e1,by rw[hf _ (by simp)];exact h.e4,by rw[hf _ (by simp)];exact h.e5,by rw[hf _ (by simp)];exact h.e6,by rw[hf _ (by simp)];exact h.e7⟩
structure DaI(bE:St)(id km b4 b5 q i L:Nat)(n:Net)(most:Int)(b:Int→List Int)(sW nx:List (List Int))(en:List Bool)(vN vE:AV)(rs:List AV)(aP:AV)(k:Nat)(f:AF)(S:St)(ss:List (List Int))(r:List Int)(v:AV):Prop where
 rf:uq most b k sW=some (ss,r)
 A:nE S bE id km b4 b5 n most ss nx en v vN vE rs [.own q 0 L] [r.map aj++List.replicate (L - k) (aj 0)]
 I:EG f id b4 b5 q L i aP
 e34:f 34=aj L
 e35:f 35=aj k
 pre:∀j (h:j < sW.length),ss[j]? = some sW[j]
def DaE(bE:St)(id km b4 b5 q i L:Nat)(n:Net)(most:Int)(b:Int→List Int)(sW nx:List (List Int))(en:List Bool)(vN vE:AV)(rs:List AV)(aP:AV)(k:Nat)(f:AF)(S:St):Prop:=
 ∃ss r v,DaI bE id km b4 b5 q i L n most b sW nx en vN vE rs aP k f S ss r v
theorem Zp7{P:Program}{uw fT cf:FuncId}{cap:List AV}{bE:St}{id km b4 b5 q i:Nat}{n:Net}{most:Int}{kd:Kd}{sW nx:List (List Int)}{en:List Bool}{vN vE:AV}{rs:List AV}{v0:AV}{set:List Int}
  (R:nR n) (BF:JM P uw fT n) (GR:Sq P cf cap bE id km n most kd) (Et:most≤3000) {L:Nat} (hLe:n.signs.toNat=L) (hss:Ei n most sW) (hset:sW[i]? = some set) {f:AF} {S:St} {Q:Exit→AF→St→Prop}
  (A:nE S bE id km b4 b5 n most sW nx en v0 vN vE rs [.own q 0 L] [List.replicate L (aj 0)]) (I:EG f id b4 b5 q L i (.aP cf [] cap)) (e34:f 34=aj L) (e35:f 35=aj 0)
  (hk:∀f' S' ss' r v',uq most (lI kd n set) L sW=some (ss',r)→nE S' bE id km b4 b5 n most ss' nx en v' vN vE rs [.own q 0 L] [r.map aj]→EG f' id b4 b5 q L i (.aP cf [] cap)→(∀j (h:j < sW.length),ss'[j]? = some sW[j])→Q .normal f' S')
  (hp:uq most (lI kd n set) L sW=none→∀f' S',Old bE S' id km→Q (pn (Kz fT)) f' S'):AW P (XJ uw) Q f S:=by
 obtain⟨hil,hse⟩:=List.getElem?_eq_some_iff.mp hset;have hL4:L≤400:=by have:=R.s2;omega
 have hvs:Val n set:=hss.v set (by rw[←hse];exact List.getElem_mem hil);simp[XJ];refine Ck L (DaE bE id km b4 b5 q i L n most (lI kd n set) sW nx en vN vE rs (.aP cf [] cap)) ?_ ?_
 ·exact⟨sW,[],v0,rfl,by simpa using A,I,e34,e35,fun j hj=>List.getElem?_eq_getElem hj⟩
 ·rintro k f S hk' ⟨ss,r,v,D⟩
  obtain⟨hok,hle,hrl⟩:=QT (n:=n) (fun s=>Q9 R hvs s) hss k D.rf;simp only at hok hle hrl;have e0:=D.I.e0;have e1:=D.I.e1;have e6:=D.I.e6;have e7:=D.I.e7;have e34:=D.e34;have e35:=D.e35;have Eu:=D.A.mg;by_cases hlt:k < L
  ·
   have hpi:=D.pre i hil;rw[hse] at hpi;obtain⟨Kj,Ey,_⟩:=D.A.rows.head
   have hown:∃tQ off ys,v=.own tQ off ss.length∧S.g tQ=some (.arr 1 ys)∧off+ss.length≤ys.length∧ys[off+i]? = some (aA set):=by
    rcases Kj with⟨_,h0⟩ | ⟨tQ,off,ys,h1,h2,h3,h4⟩
    ·simp at h0;subst h0;simp at hpi
    ·refine⟨tQ,off,ys,by rw[h1];simp,h2,?_,?_⟩
     ·have:=congrArg List.length h4
      simp at this;omega
     ·have:(ys.drop off)[i]? = some (aA set):=by rw[h4,List.getElem?_map,hpi];rfl
      simpa using this
   obtain⟨tQ,off,ys,hv,hgv,hol,hyi⟩:=hown;have hi2:i < ss.length:=by omega
   have hilt:(i:Int) < ss.length:=by omega
   subst hv;have hce:(aA set).cells=[aA set]:=rfl;have A:=D.A;simp[A9,uK,uI,BZ,BR,e0,e1,e6,e7,e34,e35,hlt,Eu,lu,hgv,hilt,hol,hyi,hce];refine oW.Hg (GR _ ss _ set k _ (A.up (m:=S.n+1+2+16) (by omega)).mk' ⟨by have:=A.kZ;show bE.n≤S.n+1+2+16;omega,A.old⟩ hvs fun m hm=>?_);simp[BZ,BR,yP];have hvb:=Q9 (kd:=kd) R hvs (k:Int)
   have hzk:∃zs,zs=r.map aj++List.replicate (L - k) (aj 0)∧zs.length=L∧zs[k]? = some (aj 0)∧∀j:Int,zs.set k (aj j)=(r++[j]).map aj++List.replicate (L - (k+1)) (aj 0):=by
    refine⟨_,rfl,by simp[hrl];omega,?_,fun j=>?_⟩
    ·rw[List.getElem?_append_right (by simp[hrl]),List.length_map,hrl,Nat.sub_self,List.getElem?_replicate,if_pos (by omega)]
    ·rw[List.set_append_right _ _ (by simp[hrl]),List.length_map,hrl,Nat.sub_self,show L - k=(L - (k+1))+1 by omega,List.replicate_succ,List.set_cons_zero]
     simp
   obtain⟨zs,hz1,hz2,hz3,hz4⟩:=hzk;have TD:(k:Int) < L:=by omega
   have Kk:(aj 0)=.v (.int .i64 0):=rfl;rw[Kk] at hz3;have abg:yx most ss (lI kd n set k)=none→uq most (lI kd n set) (k+1) sW=none:=fun h=>by simp only[uq,D.rf,h]
   have aak:∀s2 j,yx most ss (lI kd n set k)=some (s2,j)→uq most (lI kd n set) (k+1) sW=some (s2,r++[j]):=fun s2 j h=>by simp only[uq,D.rf,h]
   have A0:=A;rw[←hz1] at A0;refine BF id km most ss _ (lI kd n set k) ⟨m,S.g⟩ _ _ (A.up (m:=m) (by simp only at hm;omega)).mk' hvb hok Et (fun hin m2 hm2=>?_) (fun hin hlt2 S' v' M' F' hv'=>?_) (fun hin hfull m2 hm2=>?_)
   ·have hnf:yx most ss (lI kd n set k)=some (ss,(ss.idxOf (lI kd n set k):Int)):=by unfold yx;rw[if_pos hin]
    have A2:=A0.up (m:=m2) (by simp only at hm hm2;omega);obtain⟨g7,_,Ew⟩:=A2.b7
    try simp only at g7
    simp[zL,uK,uI,yP,g7,TD,hz2,hz3,e35];rw[bG _ (by omega)];refine⟨hlt,ss,r++[(ss.idxOf (lI kd n set k):Int)],(.own tQ off ss.length),⟨aak _ _ hnf,?_,?_,?_,?_,?_⟩⟩
    ·have A3:=A2.put (zs':=zs.set k (aj (ss.idxOf (lI kd n set k):Int))) (by simp) (Nat.le_refl _)
     rw[←hz4];refine A3.up ?_;simp[bf]
    ·refine D.I.same fun j hj=>?_
     rcases hj with rfl | rfl | rfl | rfl | rfl | rfl<;>simp[au]
    ·simp[au,e34,aj]
    ·simp[au,aj]
    ·first
      | exact D.pre
      | exact fun j hj=>(List.getElem?_append_left (List.getElem?_eq_some_iff.mp (D.pre j hj)).1).trans (D.pre j hj)
   ·have hnf:yx most ss (lI kd n set k)=some (ss++[lI kd n set k],(ss.length:Int)):=by unfold yx;rw[if_neg hin,if_neg (by omega)]
    have A2:=(A0.up (m:=m) (by simp only at hm;omega)).num M' F' hv';obtain⟨g7,_,Ew⟩:=A2.b7
    try simp only at g7
    simp[zL,uK,uI,yP,g7,TD,hz2,hz3,e35];rw[bG _ (by omega)];refine⟨hlt,(ss++[lI kd n set k]),r++[(ss.length:Int)],v',⟨aak _ _ hnf,?_,?_,?_,?_,?_⟩⟩
    ·have A3:=A2.put (zs':=zs.set k (aj (ss.length:Int))) (by simp) (Nat.le_refl _)
     rw[←hz4];refine A3.up ?_;simp[bf]
    ·refine D.I.same fun j hj=>?_
     rcases hj with rfl | rfl | rfl | rfl | rfl | rfl<;>simp[au]
    ·simp[au,e34,aj]
    ·simp[au,aj]
    ·first
      | exact D.pre
      | exact fun j hj=>(List.getElem?_append_left (List.getElem?_eq_some_iff.mp (D.pre j hj)).1).trans (D.pre j hj)
   ·have hnf:yx most ss (lI kd n set k)=none:=by unfold yx;rw[if_neg hin,if_pos hfull]
    rw[Znk,Qa,Du,Du,Qa];refine hp (Zgz (abg hnf) L (by omega)) _ _ ⟨by have:=A.kZ;show bE.n≤m2;simp only at hm hm2;omega,A.old⟩
  ·have TD:k=L:=by omega
   subst TD;have hnlt:¬((k:Int) < k):=by omega
   simp[e34,e35,hnlt];refine hk _ _ ss r v D.rf (by simpa using D.A.up (m:=S.n+1) (by omega)) (D.I.same fun j hj=>?_) D.pre;rcases hj with rfl | rfl | rfl | rfl | rfl | rfl<;>simp[au]
theorem Zk6{P:Program}{fe:FuncId}{bE:St}{id km b4 b5 q i L:Nat}{n:Net}{most:Int}{ss nx:List (List Int)}{en:List Bool}{v vN vE aP:AV}{rs:List AV}{r set:List Int}(Et:most≤3000)(hss:Ei n most ss)(hset:ss[i]? = some set)
  (hend:aO P fe [o8 n,aA set] (aH (mq n set))) {f:AF} {S:St} {Q:Exit→AF→St→Prop} (hnx:nx.length=i) (hen:en.length=i)
  (A:nE S bE id km b4 b5 n most ss nx en v vN vE rs [.own q 0 L] [r.map aj]) (I:EG f id b4 b5 q L i aP)
  (hk:∀f' S' vN' vE',nE S' bE id km b4 b5 n most ss (nx++[r]) (en++[mq n set]) v vN' vE' (rs++[.own q 0 L]) [] []→(∀j,j≤6→f' j=f j)→Q .normal f' S'):AW P (WC fe) Q f S:=by
 obtain⟨hil,hse⟩:=List.getElem?_eq_some_iff.mp hset;obtain⟨Kj,Ey,hvs,hr1⟩:=A.rows.head;obtain⟨hN,Tq,hNs,hr2⟩:=hr1.head;obtain⟨hE,NM,hEs,hr3⟩:=hr2.head;have e0:=I.e0;have e5:=I.e5;have e6:=I.e6;have e7:=I.e7;have Eu:=A.mg;have hg5:=A.g5
 have hown:∃tQ off ys,v=.own tQ off ss.length∧S.g tQ=some (.arr 1 ys)∧off+ss.length≤ys.length∧ys[off+i]? = some (aA set):=by
  rcases Kj with⟨_,h0⟩ | ⟨tQ,off,ys,h1,h2,h3,h4⟩
  ·simp at h0;subst h0;simp at hil
  ·refine⟨tQ,off,ys,by rw[h1];simp,h2,?_,?_⟩
   ·have:=congrArg List.length h4
    simp at this;omega
   ·have:(ys.drop off)[i]? = some (aA set):=by rw[h4,List.getElem?_map,hset];rfl
    simpa using this
 obtain⟨tQ,off,ys,hv,hgv,hol,hyi⟩:=hown;have hilt:(i:Int) < ss.length:=by omega
 subst hv;have hce:(aA set).cells=[aA set]:=rfl;simp[WC,e5,e7,hg5];have hrl:rs.length=nx.length:=by have:=hr3.len;simpa[wo] using this
 have hi3:i≤3000:=by have:=hss.l;omega
 have hrc:∀z∈rs,z.cells.length=1:=by
  intro z hz;obtain⟨t,ht,rfl⟩:=List.mem_iff_getElem.mp hz;have:=hr3.row t (by simp;omega) (by simp[wo];omega);rw[List.getElem_append_left ht] at this;rcases this with⟨e,_⟩ | ⟨_,_,_,e,_⟩<;>rw[e]<;>rfl
 rw[Vec.Lu (aB:=24) (hN.frame fun _ _=>rfl) hrc rfl (by unfold dV;omega)];have ZF:b5∉vN.ids:=fun h=>(Tq b5 h).2 (by simp)
 have TA:id∉vN.ids:=fun h=>(Tq id h).2 (by simp)
 have aaq:tQ∉vN.ids:=fun h=>hvs vN (by simp) tQ (by simp[AV.ids]) h
 have ZN:=A.lid;have TJ:=A.kZ;have TF:=A.t5;have q1:b5≠S.n+4:=by omega
 have q2:id≠S.n+4:=by omega
 have abM:tQ < S.n:=(Ey tQ (by simp[AV.ids])).1;have q3:tQ≠S.n+4:=by omega
 simp[e0,e5,e6,Eu,hg5,lu,hgv,hilt,hol,hyi,hce,nH b5 ZF,nH id TA,nH tQ aaq,q1,q2,q3]
 have hfz:∀S':St,S'.g id=S.g id→nJ P fe [.ptr id 0 0,aA set] S' [id] (aH (mq n set)):=fun S' h=>by
  have hz:gI (only [id] S'.g) [.ptr id 0 0,aA set] [o8 n,aA set]:=
   gI.cons (.pre id 7 [aj n.signs,aX n.aB,aX n.follow,aA n.last] [aj most,.mp km,.own tQ off ss.length] (by rw[DX,if_pos (by simp),h];exact A.mg) (by
    intro y hy;simp only[List.mem_cons,List.not_mem_nil,or_false] at hy;rcases hy with rfl | rfl | rfl | rfl
    ·exact aS _
    ·exact iT _
    ·exact iT _
    ·exact aR _)) (gI.cons (.closed _ (aR _)) gI.nil)
  exact⟨_,hend,hz.1,hz.2,.inl (Mq _)⟩
 have nN:∀j,j∈vN.ids∨j=S.n+4→¬j=b5:=by
  rintro j (h | rfl) rfl
  ·exact ZF h
  ·exact q1 rfl
 have nI:∀j,j∈vN.ids∨j=S.n+4→¬j=id:=by
  rintro j (h | rfl) rfl
  ·exact TA h
  ·exact q2 rfl
 have nV:∀j,j∈vN.ids∨j=S.n+4→¬j=tQ:=by
  rintro j (h | rfl) rfl
  ·exact aaq h
  ·exact q3 rfl
 refine⟨nN,nI,nV,aH (mq n set),[id],hfz _ (by rw[aG,if_neg q2,nH id TA]),?_⟩;simp;have k1:∀i,i∉vN.ids→i≠S.n+4→(((⟨S.n+22,S.g⟩:St).without vN).set (S.n+4) (some (.arr 1 (rs++[.own q 0 L])))).g i=S.g i:=fun i h1 h2=>by rw[aG,if_neg h2,nH i h1]
 have k2:(((⟨S.n+22,S.g⟩:St).without vN).set (S.n+4) (some (.arr 1 (rs++[.own q 0 L])))).g (S.n+4)=some (.arr 1 (rs++[.own q 0 L])):=by rw[aG,if_pos rfl]
 have k3:(((⟨S.n+22,S.g⟩:St).without vN).set (S.n+4) (some (.arr 1 (rs++[.own q 0 L])))).n=S.n+22:=by simp[bf,sZ]
 generalize(((⟨S.n+22,S.g⟩:St).without vN).set (S.n+4) (some (.arr 1 (rs++[.own q 0 L]))))=S1 at *;obtain⟨n1,g1⟩:=S1;simp only at k1 k2 k3;have hEN:∀i∈vE.ids,i∉vN.ids:=fun i h1 h2=>hNs vE (by simp) i h2 h1
 have hEl:∀i∈vE.ids,i < S.n:=fun i hi=>(NM i hi).1
 have hE1:Vec g1 vE 1 (en.map aH):=hE.frame fun i hi=>k1 i (hEN i hi) (by have:=hEl i hi;omega)
 have hec:∀z∈en.map aH,z.cells.length=1:=by
  intro z hz;obtain⟨b,_,rfl⟩:=List.mem_map.mp hz;rfl
 have happ:=Vec.Lu (n:=n1) (aC:=S.n+17) (x:=aH (mq n set)) (aB:=1) hE1 hec rfl (by rw[List.length_map,hen];unfold dV;omega);simp only[aH] at happ;rw[happ];have aaH:b5∉vE.ids:=fun h=>(NM b5 h).2 (by simp)
 have q5:b5≠S.n+17:=by omega
 have g15:=(k1 b5 ZF q1).trans hg5;simp[e5,g15,nH b5 aaH,q5];refine hk _ _ (.own (S.n+4) 0 (rs.length+1)) (.own (S.n+17) 0 (en.length+1)) ?_ (fun j hj=>?_)
 ·have key:∀i,i∉vN.ids→i∉vE.ids→i < S.n→i≠b5→∀b b2 b3,(((((⟨n1,g1⟩:St).without vE).set (S.n+17) b).set b5 b2).set b5 b3).g i=S.g i:=fun i h1 h2 h3 h4 b b2 b3=>by
   rw[aG,if_neg h4,aG,if_neg h4,aG,if_neg (by omega),nH i h2];exact k1 i h1 (by omega)
  have aaV:id∉vE.ids:=fun h=>(NM id h).2 (by simp)
  have ab1:km∉vN.ids:=fun h=>(Tq km h).2 (by simp)
  have ab0:km∉vE.ids:=fun h=>(NM km h).2 (by simp)
  have h4N:b4∉vN.ids:=fun h=>(Tq b4 h).2 (by simp)
  have h4E:b4∉vE.ids:=fun h=>(NM b4 h).2 (by simp)
  have ZO:=A.vK;have hl5:=A.l5;have hl4:=A.l4;have NY:=A.t4;have hn45:=A.n45;have q4E:S.n+4∉vE.ids:=fun h=>by have:=hEl _ h;omega
  have abJ:=hr3;refine⟨?_,?_,?_,?_,?_,A.ne,A.lid,A.vK,A.l4,A.l5,A.n45,?_,?_,fun w hw i hi=>?_,fun i h1 h2 h3=>?_,?_⟩
  ·rw[key id TA aaV (by omega) (by omega)];exact A.mg
  ·rw[key km ab1 ab0 (by omega) (by omega)];exact A.mm
  ·rw[key b4 h4N h4E NY hn45];exact A.g4
  ·simp[aG,aj]
  ·have hr4:mh (((((⟨n1,g1⟩:St).without vE).set (S.n+17) (some (.arr 1 (en.map aH++[.v (.bool (mq n set))])))).set b5 (some (.arr 3 [.agg [.v (.int .i64 n.signs),.own (S.n+4) 0 (rs.length+1),vE]]))).set b5 (some (.arr 3 [.agg [.v (.int .i64 n.signs),.own (S.n+4) 0 (rs.length+1),.own (S.n+17) 0 (en.length+1)]]))).g (S.n+22) [id,km,b4,b5] (rs++[.own q 0 L]) (wo nx++[r.map aj]):=by
    refine hr3.frame (by omega) (fun w hw i hi=>?_);have ho:=hr3.out w hw i hi;have ho2:=ho.2;simp only[List.mem_cons,List.not_mem_nil,or_false,not_or] at ho2;exact key i (fun h=>hNs w (by simp at hw ⊢;exact .inr hw) i h hi) (fun h=>hEs w hw i h hi) ho.1 ho2.2.2.2 _ _ _
   have hrw:wo (nx++[r])=wo nx++[r.map aj]:=by simp[wo]
   have aaT:(en++[mq n set]).map aH=en.map aH++[.v (.bool (mq n set))]:=by simp[aH]
   rw[List.append_nil,List.append_nil,hrw,aaT];have hnn:(((((⟨n1,g1⟩:St).without vE).set (S.n+17) (some (.arr 1 (en.map aH++[.v (.bool (mq n set))])))).set b5 (some (.arr 3 [.agg [.v (.int .i64 n.signs),.own (S.n+4) 0 (rs.length+1),vE]]))).set b5 (some (.arr 3 [.agg [.v (.int .i64 n.signs),.own (S.n+4) 0 (rs.length+1),.own (S.n+17) 0 (en.length+1)]]))).n=S.n+22:=by simp[bf,sZ,k3]
   rw[hnn];refine mh.cons ?_ (fun i hi=>?_) (fun w hw i hi hi2=>?_) (mh.cons ?_ (fun i hi=>?_) (fun w hw i hi hi2=>?_) (mh.cons ?_ (fun i hi=>?_) (fun w hw i hi hi2=>?_) hr4))
   ·refine Kj.frame fun i hi=>?_
    have ho:=Ey i hi;have ho2:=ho.2;simp only[List.mem_cons,List.not_mem_nil,or_false,not_or] at ho2;exact key i (fun h=>hvs vN (by simp) i hi h) (fun h=>hvs vE (by simp) i hi h) ho.1 ho2.2.2.2 _ _ _
   ·exact⟨by have:=(Ey i hi).1;omega,(Ey i hi).2⟩
   ·have hvl:=(Ey i hi).1
    simp only[List.mem_cons,List.mem_append,List.not_mem_nil,or_false] at hw;rcases hw with rfl | rfl | hw
    ·simp only[AV.ids,List.mem_singleton] at hi2;omega
    ·simp only[AV.ids,List.mem_singleton] at hi2;omega
    ·exact hvs w (by simp;exact .inr (.inr hw)) i hi hi2
   ·refine .mk' ?_ (by simp)
    rw[aG,if_neg (by omega),aG,if_neg (by omega),aG,if_neg (by omega),nH _ q4E];exact k2
   ·simp only[AV.ids,List.mem_singleton] at hi
    subst hi;refine⟨by omega,?_⟩;simp only[List.mem_cons,List.not_mem_nil,or_false,not_or];omega
   ·simp only[AV.ids,List.mem_singleton] at hi
    subst hi;simp only[List.mem_cons] at hw;rcases hw with rfl | hw
    ·simp only[AV.ids,List.mem_singleton] at hi2;omega
    ·have:=(hr3.out w hw _ hi2).1;omega
   ·refine .mk' ?_ (by simp)
    rw[aG,if_neg (by omega),aG,if_neg (by omega),aG,if_pos rfl]
   ·simp only[AV.ids,List.mem_singleton] at hi
    subst hi;refine⟨by omega,?_⟩;simp only[List.mem_cons,List.not_mem_nil,or_false,not_or];omega
   ·simp only[AV.ids,List.mem_singleton] at hi
    subst hi;have:=(hr3.out w hw _ hi2).1;omega
  ·simp[bf,sZ,k3];omega
  ·simp[bf,sZ,k3];omega
  ·have hnew:=A.new
   simp only[List.append_nil,List.mem_cons,List.mem_append,List.not_mem_nil,or_false] at hw;rcases hw with rfl | rfl | rfl | hw | rfl
   ·exact hnew _ (by simp) i hi
   ·simp only[AV.ids,List.mem_singleton] at hi;omega
   ·simp only[AV.ids,List.mem_singleton] at hi;omega
   ·exact hnew w (by simp[hw]) i hi
   ·exact hnew _ (by simp) i hi
  ·have hnew:=A.new
   rw[key i (fun h=>by have:=hnew vN (by simp) i h;omega) (fun h=>by have:=hnew vE (by simp) i h;omega) (by omega) (by omega)];exact A.old i h1 h2 h3
  ·simp[bf,sZ,k3];omega
 ·have:∀x:Nat,x≥54→j≠x:=fun x hx=>by omega
  simp[au,this]
structure OuI(bE:St)(id km b4 b5:Nat)(n:Net)(most:Int)(kd:Kd)(aP:AV)(i:Nat)(f:AF)(S:St)(st:q9)(v vN vE:AV)(rs:List AV):Prop where
 eq:oz kd n most i=some st
 A:nE S bE id km b4 b5 n most st.1 st.2.1 st.2.2 v vN vE rs [] []
 e0:f 0=.ptr id 0 0
 e1:f 1=aP
 e4:f 4=.ptr b4 0 0
 e5:f 5=.ptr b5 0 0
 e6:f 6=aj i
 min:∀m,m < i→∀oC,oz kd n most m=some oC→m≠oC.1.length
def OuE(bE:St)(id km b4 b5:Nat)(n:Net)(most:Int)(kd:Kd)(aP:AV)(i:Nat)(f:AF)(S:St):Prop:=∃st v vN vE rs,OuI bE id km b4 b5 n most kd aP i f S st v vN vE rs
theorem ZlY{P:Program}{uw fT cf fe:FuncId}{cap:List AV}{bE:St}{id km b4 b5:Nat}{n:Net}{most:Int}{kd:Kd}(R:nR n)(BF:JM P uw fT n)(GR:Sq P cf cap bE id km n most kd)
  (hend:∀set,Val n set→aO P fe [o8 n,aA set] (aH (mq n set))) (hm1:1≤most) (Et:most≤3000) {f:AF} {S:St} {Q:Exit→AF→St→Prop}
  (h0:OuE bE id km b4 b5 n most kd (.aP cf [] cap) 0 f S)
  (hk:∀f' S' st v vN vE rs,yQ kd n most=some st→nE S' bE id km b4 b5 n most st.1 st.2.1 st.2.2 v vN vE rs [] []→f' 4=.ptr b4 0 0→f' 5=.ptr b5 0 0→Q .normal f' S')
  (hp:yQ kd n most=none→∀f' S',Old bE S' id km→Q (pn (Kz fT)) f' S'):AW P (Xt uw fe) Q f S:=by
 simp[Xt];refine Ck most.toNat (OuE bE id km b4 b5 n most kd (.aP cf [] cap)) h0 ?_;rintro i f S hi ⟨st,v,vN,vE,rs,O⟩;have o:=Jt R hm1 i O.eq;have e0:=O.e0;have e1:=O.e1;have e6:=O.e6;have Eu:=O.A.mg;obtain⟨Kj,_⟩:=O.A.rows.head;have hlv:=Kj.len;rw[List.length_map] at hlv;simp only[fu] at hlv;have hle:=o.le;have hsl:=o.ss.l;by_cases hlt:i < st.1.length
 ·have sU:(i:Int) < st.1.length:=by omega
  have hs0:(0:Int)≤n.signs:=by have:=R.s1;omega
  have hs4:n.signs≤400:=R.s2;have ab4:8*n.signs≤281474976710656:=by omega
  have N7:n.signs≤9223372036854775807:=by omega
  obtain⟨set,hset⟩:∃set,st.1[i]? = some set:=⟨_,List.getElem?_eq_getElem hlt⟩;have hvs:Val n set:=o.ss.v set (by obtain⟨h1,h2⟩:=List.getElem?_eq_some_iff.mp hset;rw[←h2];exact List.getElem_mem h1);have Kg:oz kd n most (i+1)=uS kd n most i st:=by simp only[oz,O.eq]
  simp[e0,e6,Eu,lu,hlv,hlt,D7,hs0,ab4,N7];refine Zp7 (set:=set) R BF GR Et rfl o.ss hset (nE.row O.A (by omega) (by omega) (by simp)) ⟨?_,?_,?_,?_,?_,?_⟩ ?_ ?_ (fun f1 S1 ss1 r v1 hrow A1 I1 hpre=>?_) (fun hrow f1 S1 hold=>?_)
  ·simp[au,e0]
  ·simp[au,e1]
  ·simp[au,O.e4]
  ·simp[au,O.e5]
  ·simp[au,e6]
  ·simp[au]
  ·simp[au,aj]
  ·simp[au,aj]
  ·have hsr:uS kd n most i st=some (ss1,st.2.1++[r],st.2.2++[mq n set]):=by simp only[uS,hset,hrow]
   obtain⟨hok1,_,_⟩:=QT (n:=n) (fun s=>Q9 R hvs s) o.ss _ hrow
   have abm:ss1[i]? = some set:=by
    rw[hpre i hlt,←hset,List.getElem?_eq_getElem hlt]
   simp;refine Zk6 Et hok1 abm (hend set hvs) o.nx o.en A1 I1 (fun f2 S2 vN' vE' A2 hf2=>?_);have e6':f2 6=aj i:=by rw[hf2 6 (by omega)];exact I1.e6
   simp[e6'];rw[bG _ (by omega)];refine⟨by omega,(ss1,st.2.1++[r],st.2.2++[mq n set]),v1,vN',vE',rs++[.own _ 0 n.signs.toNat],⟨by rw[Kg,hsr],A2.up (by simp),?_,?_,?_,?_,?_,?_⟩⟩
   ·simp[au,hf2,I1.e0]
   ·simp[au,hf2,I1.e1]
   ·simp[au,hf2,I1.e4]
   ·simp[au,hf2,I1.e5]
   ·simp[au,aj]
   ·intro m hm' oC uy
    by_cases qR:m=i
    ·subst qR
     rw[O.eq] at uy;cases uy;omega
    ·exact O.min m (by omega) oC uy
  ·rw[Du,Qa,Du,Du,Qa]
   refine hp ?_ _ _ hold;have hsr:uS kd n most i st=none:=by simp only[uS,hset,hrow]
   refine ZiQ R (most.toNat+1) 0 rfl i (Nat.zero_le _) (by rw[Kg,hsr]) (fun m _ h2 oC uy=>?_);by_cases qR:m=i
   ·subst qR
    rw[O.eq] at uy;cases uy;omega
   ·exact O.min m (by omega) oC uy
 ·have aaW:i=st.1.length:=by omega
  have sU:¬((i:Int) < st.1.length):=by omega
  simp[e0,e6,Eu,lu,hlv,hlt];refine hk _ _ st v vN vE rs ?_ (O.A.up (by omega)) (by simp[au,O.e4]) (by simp[au,O.e5]);exact Zms R hm1 (most.toNat+1) 0 rfl (by omega) i st (Nat.zero_le _) O.eq aaW (fun m _ h2=>O.min m h2)
theorem Zrk{P:Program}(Af:P.follows .mixedOrders=true){fall uw fT cf fe:FuncId}(hall:BK P fall (LC uw fe) [.c 4 (some 3)] 2){cap:List AV}{bE:St}{id km:Nat}{n:Net}{most:Int}{kd:Kd}(R:nR n)(BF:JM P uw fT n)(GR:Sq P cf cap bE id km n most kd)
  (hend:∀set,Val n set→aO P fe [o8 n,aA set] (aH (mq n set))) (hm1:1≤most) (Et:most≤3000) (M:wY bE id km n most [] (.sl true [])) {K:AV→St→Prop} {X:Value→St→Prop}
  (hK:∀st S' vN vE g,yQ kd n most=some st→Old bE S' id km→(∀i k,g i=some k→S'.g i=some k∧bE.n≤i∧i < S'.n)→lW g vN (aX st.2.1)→lW g vE (ji st.2.2)→K (.agg [aj n.signs,vN,vE]) S') (hX:yQ kd n most=none→∀S',Old bE S' id km→X (Kz fT) S'):oW P fall [.ptr id 0 0,.aP cf [] cap] bE K X:=by
 refine hall.ET Af rfl ?_;have Eu:=M.g;have hv0:Val n [0]:=⟨fun x hx=>by simp at hx;subst hx;have:=R.n1;have:=R.len;omega,by simp⟩;have aaf:id≠bE.n:=by have:=M.lid;omega
 simp[A9,uK,uI,BZ,BR,LC,Eu,lu,jw,jh,aaf];refine oW.weak (args':=[.ptr id 0 0,aA [0]]) ?_ rfl (fun j h1 h2 E v hv=>?_)
 ·have A0:nE ⟨bE.n+1+8+3,((((⟨bE.n+1+8,((⟨bE.n+1,bE.g⟩:St).set bE.n (some (.arr 3 [.agg [.v (.int .i64 0),.sl true [],.sl true []]]))).g⟩:St).set (bE.n+1+6) (some (.arr 3 [.agg [.v (.int .i64 0),.sl true [],.sl true []]]))).set (bE.n+1+6) (some (.arr 3 [.agg [.v (.int .i64 n.signs),.sl true [],.sl true []]])))).g⟩ bE id km bE.n (bE.n+1+6) n most [] [] [] (.sl true []) (.sl true []) (.sl true []) [] [] []:=by
   have ZN:=M.lid;have ZO:=M.vK;refine⟨?_,?_,?_,?_,?_,M.ne,M.lid,M.vK,Nat.le_refl _,by omega,by omega,by show bE.n < bE.n+1+8+3;omega,by show bE.n+1+6 < bE.n+1+8+3;omega,?_,fun i h1 h2 h3=>?_,by show bE.n≤bE.n+1+8+3;omega⟩
   ·rw[aG,if_neg (by omega),aG,if_neg (by omega),aG,if_neg (by omega)];exact M.g
   ·rw[aG,if_neg (by omega),aG,if_neg (by omega),aG,if_neg (by omega)];exact M.m
   ·rw[aG,if_neg (by omega),aG,if_neg (by omega),aG,if_pos rfl];rfl
   ·rw[aG,if_pos rfl];rfl
   ·refine mh.cons .nil (by simp[AV.ids]) (by simp[AV.ids]) (mh.cons .nil (by simp[AV.ids]) (by simp[AV.ids]) (mh.cons .nil (by simp[AV.ids]) (by simp[AV.ids]) .nil))
   ·intro w hw i hi
    simp only[List.append_nil,List.mem_cons,List.not_mem_nil,or_false,or_self] at hw;subst hw;simp[AV.ids] at hi
   ·rw[aG,if_neg (by omega),aG,if_neg (by omega),aG,if_neg (by omega)]
  refine BF id km most [] _ [0] _ _ _ A0.mk' hv0 ⟨by simp,by simp;omega⟩ Et (fun h=>by simp at h) (fun _ _ S1 v1 M1 F1 hv1=>?_) (fun _ h=>by simp at h;omega);have A1:=A0.num M1 F1 hv1;simp[zL,yP];refine ZlY R BF GR hend hm1 Et ⟨([[0]],[],[]),v1,.sl true [],.sl true [],[],⟨rfl,A1.up (by simp),?_,?_,?_,?_,?_,fun m hm=>by omega⟩⟩ (fun f' S' st v vN vE rs CY A e4 e5=>?_) (fun CY f' S' hold=>?_)
  ·simp[au,bF]
  ·simp[au,bF,bJ]
  ·simp[au]
  ·simp[au]
  ·simp[au,aj]
  ·have g4:=A.g4
   have g5:=A.g5;have h45:=A.n45;simp only[rV] at g4;simp[Xp,e4,e5,g4,g5,bR,bX,RV.ev,gH,cO];have hold:=A.old;have TJ:=A.kZ;obtain⟨z1,z2⟩:=A.NI (g:=fun i=>if bE.n≤i∧i≠bE.n∧i < S'.n then S'.g i else none) (fun i h1 h2 h3=>if_pos ⟨h1,h2,h3⟩);refine hK st _ vN vE _ CY ⟨by simp only[bf];omega,fun i h1 h2 h3=>?_⟩ (fun i k e=>?_) z1 z2
   ·rw[aG,if_neg (by omega)];exact hold i h1 h2 h3
   ·have e:(if bE.n≤i∧i≠bE.n∧i < S'.n then S'.g i else none)=some k:=e
    split at e
    ·rename_i h;exact⟨by rw[aG,if_neg h.2.1];exact e,h.1,by rw[bf];show i < S'.n+2;omega⟩
    ·cases e
  ·simp[Du,Zl1]
   exact hX CY _ hold
 ·match j with
  | 0=>exact hv
  | 1=>exact hv.loose
  | j+2=>simp at h1;omega
end Go.Rf
