import Derived.Test.YtdmcjhnbmgmgoaaGreatDoorRfE2
set_option linter.unusedVariables false
set_option linter.unusedSimpArgs false
set_option linter.unusedSectionVars false
namespace Go.Rf
open Go.RowKit
attribute [local simp] kZ kN kW lH lK lI lM kY lN lG lF dO iA fI gI ig fH gJ iq gX gT gY eY gN gZ gM eB eD gQ iJ iG iI iH iK fV fK fG dY fZ gu gy fO fP iL iw gP iE iB iD iC iF iM gV fQ fE fF fJ fU dx dL eZ gW iN ex au cu dM dX bM bU aG bB dV eX dR fM gL gK iy gU bL dw dz dZ d9 gD dS bA bW dA dJ dD fq eu eU eO eT dW dn dU dQ dP bq AV.solid S0 aj aH
def Xi(ED:FuncId):AC:= (.block 2 (.loop (sq [ro 28 (.bin .lss (.t 27) (.t 26))] (.seq (.cond (.t 28) .skip (.exit 2)) (.seq (.block 3 (sq [ro 29 (.aI 1 (.t 25) (.t 27)),rL 30 29,rm 11 30] (sq [rm 31 0,ro 32 (.iP (.t 31)),rF 33 0 32,rF 34 1 33,rL 35 34,rm 36 11,ro 37 (.aI 1 (.t 35) (.t 36)),rL 38 37,rm 39 2,rk 40 ED [(.t 38),(.t 39)]] (.cond (.t 40) (.reg none [rm 41 7,rm 42 11,ro 43 (.cO 1 1 (.v (.int .i64 0)) [(0,(.t 42))]),ro 44 (.app 1 8 (.t 41) (.t 43)),rm 7 44]) .skip)))) (.reg none [ro 45 (.bin .add (.t 27) (ci 1)),rm 27 45]))))))
def ZhI(ED:FuncId):AC:= (.block 0 (.loop (sq [ro 15 (.bin .lss (.t 14) (.t 13))] (.seq (.cond (.t 15) .skip (.exit 0)) (.seq (.block 1 (sq [ro 16 (.aI 1 (.t 12) (.t 14)),rL 17 16,rm 9 17] (sq [rm 18 0,ro 19 (.iP (.t 18)),rF 20 0 19,rF 21 2 20,rL 22 21,rm 23 9,ro 24 (.aI 1 (.t 22) (.t 23)),rL 25 24,ro 26 (.len (.t 25)),ro 27 (.mv (ci 0))] (Xi ED)))) (.reg none [ro 46 (.bin .add (.t 14) (ci 1)),rm 14 46]))))))
def Vg(ED zo zn:FuncId):AC:= (sq [ro 6 (.mv (.c (.sl true [])))] (sq [ro 7 (.mv (.c (.sl true [])))] (.seq (sq [rm 12 1,ro 13 (.len (.t 12)),ro 14 (.mv (ci 0))] (ZhI ED)) (sq [rm 47 7,rk 48 zo [(.t 47)]] (sq [rm 49 7,rk 50 zn [(.t 49)],rm 6 50] .ret)))))
def Vf(P3M Kr:FuncId):AC:= (sq [ro 2 (.box 1 (.t 0)),ro 4 (.mv (.c (.v (.bool false))))] (sq [rm 5 1,ro 6 (.Ak P3M [] [(.t 2)]),rk 7 Kr [(.t 5),(.t 6)],rm 4 7] .ret))
def U8(ED:FuncId):AC:= (sq [ro 3 (.mv (.c (.v (.bool false))))] (sq [rL 4 1,ro 5 (.iP (.t 4)),rF 6 0 5,rF 7 3 6,rL 8 7,rm 9 0,rk 10 ED [(.t 8),(.t 9)],rm 3 10] .ret))
def oU(n:Net):AV:=.bJ (ji n) 0
structure C9(n:Net)(at_:List Int)(sign:Int)(i:Nat)(cur:List Int)(f:AF)(S:St):Prop where
 e12:f 12=aA at_
 e13:f 13=aj at_.length
 e14:f 14=aj i
 e2:f 2=aj sign
 e0:f 0=oU n
 vec:Vec S.g (f 7) 1 (cur.map aj)
 nil:cur=[]→f 7=.sl true []
theorem C9.same{n:Net}{at_:List Int}{sign:Int}{i:Nat}{cur:List Int}{f f':AF}{S S':St}(h:C9 n at_ sign i cur f S)(hf:∀j,j=12∨j=13∨j=14∨j=2∨j=0∨j=7→f' j=f j)(hg:S'.g=S.g):C9 n at_ sign i cur f' S':=
 ⟨by rw[hf _ (by simp)];exact h.e12,by rw[hf _ (by simp)];exact h.e13,by rw[hf _ (by simp)];exact h.e14,by rw[hf _ (by simp)];exact h.e2,by rw[hf _ (by simp)];exact h.e0,by rw[hg,hf _ (by simp)];exact h.vec,fun e=>by rw[hf _ (by simp)];exact h.nil e⟩
theorem ZuE{P:Program}{fc:FuncId}{n:Net}(R:nT n)(hc:∀l∈n.aB,∀x,aN P fc [aA l,aj x] (aH (l.contains x))){at_:List Int}{sign:Int}{i p:Nat}{cur:List Int}(hp:p < n.follow.length)(hcur:cur.length≤100000000){f:AF}{S:St}{Q:Exit→AF→St→Prop}
  (h:C9 n at_ sign i cur f S) (e25:f 25=aA n.follow[p]) (e26:f 26=aj (n.follow[p]).length) (e27:f 27=aj 0)
  (hk:∀f' S',C9 n at_ sign i (cur++(n.follow[p]).filter (uZ n sign)) f' S'→Q .normal f' S'):AW P (Xi fc) Q f S:=by
 have hlen:=VD R hp;simp[Xi];refine BU (n.follow[p]).length (fun k f S=>C9 n at_ sign i (cur++((n.follow[p]).take k).filter (uZ n sign)) f S∧f 25=aA n.follow[p]∧f 26=aj (n.follow[p]).length∧f 27=aj k) ?_ ?_
 ·exact⟨by simpa using h,e25,e26,e27⟩
 ·rintro k f S hk' ⟨h,e25,e26,e27⟩
  generalize hrow:n.follow[p]=row at *;have e2:=h.e2;have e0:=h.e0;simp only[oU,ji,aX] at e0;by_cases hlt:k < row.length
  ·have hat:1≤row[k]∧row[k] < n.aB.length:=by subst hrow;exact Zlr R hp hlt
   have hge:(0:Int)≤row[k]:=by omega
   have hbl:(row[k]).toNat < n.aB.length:=by omega
   have hby:n.aB[(row[k]).toNat]? = some n.aB[(row[k]).toNat]:=List.getElem?_eq_getElem hbl;have hbs:uZ n sign row[k]=(n.aB[(row[k]).toNat]).contains sign:=by simp[uZ,List.getD_eq_getElem?_getD,hby]
   have kc:=hc _ (List.getElem_mem hbl) sign;have cc:=aK (aS n.aB[(row[k]).toNat]) (aK (aW sign) aU);simp only[aA,aj] at kc cc;have htk:row.take (k+1)=row.take k++[row[k]]:=by rw[List.take_add_one,List.getElem?_eq_getElem hlt];rfl
   have hcl:(cur++(row.take k).filter (uZ n sign)).length≤200000000:=by
    have:=List.length_filter_le (uZ n sign) (row.take k);have:(row.take k).length≤k:=by rw[List.length_take];omega
    rw[List.length_append];omega
   simp[e25,e26,e27,e2,e0,hlt,aA,hge,hby,jW];refine aQ.pure kc cc (dN _) ?_;rw[←hbs];cases hb:uZ n sign row[k] with
   | false=>
    simp[e27];rw[bI _ (by omega)];refine⟨hlt,?_,?_,?_,?_⟩
    ·rw[htk,List.filter_append]
     simp only[List.filter_cons,hb,List.filter_nil,Bool.false_eq_true,if_false,List.append_nil];refine h.same (fun j hj=>?_) rfl;rcases hj with rfl | rfl | rfl | rfl | rfl | rfl<;>simp[au]
    ·simp[au,e25,aA]
    ·simp[au,e26,aj]
    ·simp[au]
   | true=>
    simp;rw[Vec.app (xs:=(cur++(row.take k).filter (uZ n sign)).map aj) (h.vec.frame (fun i hi=>rfl)) (BQ _) (by simp[AV.cells]) (FD (by rw[List.length_map];omega))];simp[e27,sU];rw[bI _ (by omega)];refine⟨hlt,⟨?_,?_,?_,?_,?_,?_,?_⟩,?_,?_,?_⟩
    ·simp[au,h.e12]
    ·simp[au,h.e13]
    ·simp[au,h.e14]
    ·simp[au,h.e2,aj]
    ·simp[au,h.e0]
    ·rw[htk,List.filter_append]
     simp only[List.filter_cons,hb,List.filter_nil,if_true];have hl1:(cur++((row.take k).filter (uZ n sign)++[row[k]])).map aj=(cur++(row.take k).filter (uZ n sign)).map aj++[aj row[k]]:=by simp
     rw[hl1];simp only[au,if_true];exact .mk' (by simp[aG,aj]) (by simp[Nat.add_assoc])
    ·intro e
     rw[htk,List.filter_append] at e;simp[hb] at e
    ·simp[au,e25,aA]
    ·simp[au,e26,aj]
    ·simp[au]
  ·have:row.take k=row:=List.take_of_length_le (by omega)
   rw[this] at h;simp[e26,e27,hlt];refine hk _ _ (h.same (fun j hj=>?_) rfl);rcases hj with rfl | rfl | rfl | rfl | rfl | rfl<;>simp[au]
structure Zsm(P:Program)(fc fs fm:FuncId):Prop where
 cont:∀(l:List Int) x,Len l→aN P fc [aA l,aj x] (aH (l.contains x))
 sort:Co P fs
 comp:Cn P fm
 EO:aN P fs [.sl true []] (.aM [])
 EN:aN P fm [.sl true []] (.sl true [])
theorem Ze6{P:Program}{fc fs fm:FuncId}{n:Net}(R:nT n)(H:Zsm P fc fs fm)(at_:List Int)(hat:at_.length≤3000)(hv:∀s∈at_,0≤s∧s < n.follow.length)(sign:Int) :
  AW P (Vg fc fs fm) (gG [6] fun r S=>kI S.g r (aA (qR n at_ sign))) (bP [oU n,aA at_,aj sign]) S0:=by
 have hfl:n.follow.length≤301:=by have:=R.len;have:=R.n2;omega
 have hbl:=Vx R sign at_
 have hcont:∀l∈n.aB,∀x,aN P fc [aA l,aj x] (aH (l.contains x)):=by
  intro l hl x;refine H.cont l x ?_;obtain⟨j,hj,rfl⟩:=List.mem_iff_getElem.mp hl;have:=Jj (R.aB j hj).1 (R.aB j hj).2;have:=R.s2;unfold Len;omega
 simp[Vg,ZhI,aA,oU,ji,aX];refine BU at_.length (fun i f S=>C9 n at_ sign i (qy n (at_.take i) sign) f S) ?_ ?_
 ·refine⟨?_,?_,?_,?_,?_,?_,fun _=>?_⟩
  ·simp[au,aA]
  ·simp[au,aj]
  ·simp[au,aj]
  ·simp[au,bM,bU,aj]
  ·simp[au,bM,oU,ji,aj,aX,aA]
  ·simp[au,qy];exact .nil
  ·simp[au]
 ·rintro i f S hi h
  have e12:=h.e12;have e13:=h.e13;have e14:=h.e14;have e0:=h.e0;simp only[oU,ji,aX] at e0;by_cases hlt:i < at_.length
  ·have htk:=Zf0 (n:=n) (sign:=sign) hlt
   have hcur:(qy n (at_.take i) sign).length≤100000000:=by
    have:=Vx R sign (at_.take i);have:(at_.take i).length≤at_.length:=by rw[List.length_take];omega
    omega
   have Aj:=hv _ (List.getElem_mem hlt);have hp:(at_[i]).toNat < n.follow.length:=by omega
   have hge:(0:Int)≤at_[i]:=by omega
   have hgf:n.follow[(at_[i]).toNat]? = some n.follow[(at_[i]).toNat]:=List.getElem?_eq_getElem hp
   have hb1:BP n sign at_[i]=(n.follow[(at_[i]).toNat]).filter (uZ n sign):=by
    unfold BP;rw[if_pos (by omega),List.getD_eq_getElem?_getD,hgf];rfl
   simp[e12,e13,e14,e0,hlt,aA,hge,hgf,jW];refine ZuE R hcont hp hcur (h.same (fun j hj=>?_) rfl) ?_ ?_ ?_ (fun f' S' h'=>?_)
   ·rcases hj with rfl | rfl | rfl | rfl | rfl | rfl<;>simp[au]
   ·simp[au,aA]
   ·simp[au,aj]
   ·simp[au,aj]
   ·have aau:=h'.e14
    simp[aau];rw[bI _ (by omega)];refine⟨hlt,?_⟩;show C9 n at_ sign (i+1) (qy n (at_.take (i+1)) sign) _ _
    rw[htk,hb1];refine⟨?_,?_,?_,?_,?_,?_,fun e=>?_⟩
    ·simp[au,h'.e12]
    ·simp[au,h'.e13]
    ·simp[au,aj]
    ·simp[au,h'.e2]
    ·simp[au,h'.e0]
    ·rw[au,if_neg (by decide),au,if_neg (by decide)];exact h'.vec
    ·rw[au,if_neg (by decide),au,if_neg (by decide)];exact h'.nil e
  ·have htk:at_.take i=at_:=List.take_of_length_le (by omega)
   rw[htk] at h;rcases h.vec with⟨hv7,hl0⟩ | ⟨id,off,ys,hv7,hg7,ho,hd⟩
   ·have hb0:qy n at_ sign=[]:=by simpa using hl0
    have hs0:qR n at_ sign=[]:=by
     unfold qR;rw[hb0];exact List.eq_nil_of_length_eq_zero (by have:=WI [];simpa using this)
    simp[e13,e14,hlt,hv7];refine aQ.pure H.EO (aK (.sl _ _ (by simp)) aU) (.aM _ (by simp)) ?_;simp[hv7];refine aQ.pure H.EN (aK (.sl _ _ (by simp)) aU) (.sl _ _ (by simp)) ?_;simp[hs0];exact .nil true false (by simp)
   ·have hb0:qy n at_ sign≠[]:=by
     intro e;have:=h.nil e;rw[this] at hv7;cases hv7
    have hm:((qy n at_ sign).mergeSort fun x y=>decide (x≤y)).length=(qy n at_ sign).length:=List.length_mergeSort _
    have hne2:((qy n at_ sign).mergeSort fun x y=>decide (x≤y))≠[]:=by
     intro e;rw[e] at hm;exact hb0 (List.eq_nil_of_length_eq_zero hm.symm)
    rw[List.length_map] at hv7;simp[e13,e14,hlt,hv7];refine H.sort _ _ off ys (qy n at_ sign) _ hg7 hd hb0 (by omega) ?_;simp[hv7];rw[←hm];have hto:(ys.take off).length=off:=by rw[List.length_take];omega
    refine H.comp _ _ off (ys.take off++((qy n at_ sign).mergeSort fun x y=>decide (x≤y)).map aj) _ _ (by simp[aG]) (by rw[List.drop_left' hto]) hne2 (by omega) ?_;simp;refine Vec.Nc (es:=1) (.inr ⟨id,off,ys.take off++(je (qy n at_ sign)).map aj,?_,?_,?_,?_⟩)
    ·simp[qR,je]
    ·rw[List.take_left' hto];simp[aG,je]
    ·simp[hto]
    ·rw[List.drop_left' hto];rfl
def lC(n:Net)(set:List Int):Bool:=set.any fun s=>n.last.contains s
theorem Zc0{P:Program}{fc:FuncId}(n:Net)(s:Int)(hc:aN P fc [aA n.last,aj s] (aH (n.last.contains s))):AW P (U8 fc) (gG [3] (iQ (aH (n.last.contains s)))) (bP [aj s,.bJ (oU n) 0]) S0:=by
 simp[U8,oU,ji,jW];refine aQ.pure hc (aK (aS _) (aK (aW _) aU)) (dN _) ?_;simp;exact jF _ _
theorem ZbX(n:Net):aY (oU n):=.bJ _ _ (BF n)
theorem Ze5{P:Program}{f1 fcf:FuncId}(n:Net)(set:List Int)(hcf:aN P fcf [aA set,.aP f1 [] [.bJ (oU n) 0]] (aH (lC n set))) :
  AW P (Vf f1 fcf) (gG [4] (iQ (aH (lC n set)))) (bP [oU n,aA set]) S0:=by
 have h1:(oU n).solid=true:=rfl;have h2:(oU n).cells=[oU n]:=rfl;simp only[AV.solid] at h1;simp[Vf,h1,h2];refine aQ.looks hcf (fC.cons (.closed _ (aS _)) (fC.cons (.OU (fC.cons (.box _ _ 1 (oU n) _ ?_ (.closed _ (ZbX n))) fC.nil)) fC.nil)) (L9 _) ?_
 ·simp[aG]
 ·simp
  exact jF _ _
mutual
def xG:aO→Prop
 | .mk k s g ks=>g.length≤17592186043904∧ks.length≤100000∧zK ks
def zK:List aO→Prop
 | []=>True
 | p::ps=>xG p∧zK ps
end
theorem zK.mem:∀{ks:List aO},zK ks→∀q∈ks,xG q
 | [],_,q,h=>by simp at h
 | p::ps,h,q,hq=>by
  simp only[zK] at h;rcases List.mem_cons.mp hq with rfl | hq
  ·exact h.1
  ·exact zK.mem h.2 q hq
end Go.Rf
namespace Go.Rf
attribute [local simp] kZ kN kW lH lK lI lM kY lN lG lF dO iA fI gI ig fH gJ iq gX gT gY eY gN gZ gM eB eD gQ iJ iG iI iH iK fV fK fG dY fZ gu gy fO fP iL iw gP iE iB iD iC iF iM gV fQ fE fF fJ fU dx dL eZ gW iN ex au cu dM dX bM bU aG bB dV eX dR fM gL gK iy gU bL dw dz dZ d9 gD dS bA bW dA dJ dD fq eu eU eO eT dW dn dU dQ dP bq AV.solid S0 aj aH
def ZqA(Hy Ao:FuncId):AC:= (.block 2 (.loop (.seq (.seq (.reg (some []) [ro 35 (.load (some 3) (.t 1)),ro 36 (.load (some 3) (.t 1)),rm 37 5,rm 38 8,rk 39 Ao [(.t 36),(.t 37),(.t 38)],rk 40 Hy [(.t 35),(.t 39)],rm 41 6,ro 42 (.bin .sub (.t 41) (ci 1)),ro 43 (.bin .neq (.t 40) (.t 42))]) (.cond (.t 43) .skip (.exit 2))) (.block 3 (.reg none [rm 44 8,ro 45 (.bin .add (.t 44) (ci 1)),rm 8 45])))))
def ZnM(Hy Ao:FuncId):AC:= (.block 0 (.loop (.seq (sq [rm 31 6,ro 32 (.bin .gtr (.t 31) (ci 0))] (.cond (.t 32) .skip (.exit 0))) (.seq (.block 1 (sq [ro 8 (.mv (ci 0))] (.seq (ZqA Hy Ao) (sq [rm 46 7,rm 47 8,ro 48 (.cO 1 1 (.v (.int .i64 0)) [(0,(.t 47))]),ro 49 (.app 1 8 (.t 46) (.t 48)),rm 7 49] (.reg none [ro 50 (.load (some 3) (.t 1)),rm 51 5,rm 52 8,rk 53 Ao [(.t 50),(.t 51),(.t 52)],rm 5 53]))))) (.reg none [rm 33 6,ro 34 (.bin .sub (.t 33) (ci 1)),rm 6 34])))))
def ZkP(Kk Kw:FuncId):AC:= (.seq (sq [ro 9 (.mv (ci 1))] (.block 4 (.loop (.seq (sq [rm 54 9,rm 55 7,ro 56 (.len (.t 55)),ro 57 (.bin .lss (.t 54) (.t 56))] (.cond (.t 57) .skip (.exit 4))) (.seq (.block 5 (.seq (.reg (some []) [ro 60 (.load (some 3) (.t 1)),rm 61 7,rm 62 9,rk 63 Kk [(.t 61),(.t 62)],rk 64 Kw [(.t 60),(.t 63)]]) (.cond (.t 64) (sq [rm 65 7,rm 66 9,rm 2 65,rm 3 66,ro 4 (.mv (.c (.v (.bool true))))] .ret) .skip))) (.reg none [rm 58 9,ro 59 (.bin .add (.t 58) (ci 1)),rm 9 59])))))) (sq [ro 2 (.mv (.c (.sl true []))),ro 3 (.mv (ci 0)),ro 4 (.mv (.c (.v (.bool false))))] .ret))
def Z8i(Ap Hy Ao Kk Kw:FuncId):AC:= (sq [ro 1 (.box 3 (.t 0)),ro 2 (.mv (.c (.sl true []))),ro 3 (.mv (ci 0)),ro 4 (.mv (.c (.v (.bool false))))] (.seq (sq [ro 10 (.load (some 3) (.t 1)),rk 11 Ap [(.t 10)],ro 12 (.un .not (.t 11)),rm 13 12,rg 14 13 false (.cZ 0 (.t 1)),rg 15 13 false (.load none (.t 14)),rg 16 13 false (.bin .rem (.t 15) (ci 2)),rg 17 13 false (.bin .neq (.t 16) (ci 0)),ro 18 (.pick (.t 13) (.c (.v (.bool true))) (.t 17))] (.cond (.t 18) (sq [ro 2 (.mv (.c (.sl true []))),ro 3 (.mv (ci 0)),ro 4 (.mv (.c (.v (.bool false))))] .ret) .skip)) (sq [rF 19 1 1,rL 20 19,ro 21 (.len (.t 20)),ro 22 (.wB 3 3 (.agg [(.v (.bool false)),(.v (.bool false)),(.v (.bool false))]) (.t 21) (.t 21)),rm 5 22] (sq [rm 23 5,ro 24 (.aI 3 (.t 23) (ci 0)),ro 25 (.wz 3 1 (.t 24) (ci 0)),rn (.store 1 (.t 25) (.c (.v (.bool true))))] (sq [ro 26 (.load (some 3) (.t 1)),rm 27 5,rk 28 Hy [(.t 26),(.t 27)],rm 6 28] (.seq (sq [rm 29 6,ro 30 (.bin .lss (.t 29) (ci 0))] (.cond (.t 30) (sq [ro 2 (.mv (.c (.sl true []))),ro 3 (.mv (ci 0)),ro 4 (.mv (.c (.v (.bool false))))] .ret) .skip)) (sq [ro 7 (.mv (.c (.sl true [])))] (.seq (ZnM Hy Ao) (ZkP Kk Kw)))))))))
def Tv(g:Nat→Option aF)(v:AV)(T:List bS):Prop:=v=uY T∨Vec g v 3 (T.map oQ)
theorem Tv.frame{g g':Nat→Option aF}{v:AV}{T:List bS}(h:Tv g v T)(hs:∀i∈v.ids,g' i=g i):Tv g' v T:=by
 rcases h with h | h
 ·exact .inl h
 ·exact .inr (h.frame hs)
theorem Tv.fz{g:Nat→Option aF}{v:AV}{T:List bS}(h:Tv g v T):Fz g v (uY T):=by
 rcases h with rfl | h
 ·exact .closed _ (Zl1 T)
 ·exact h.fz ZhT
theorem Tv.only{g:Nat→Option aF}{v:AV}{T:List bS}(h:Tv g v T):Tv (only v.ids g) v T:=h.frame (fun i hi=>by rw[DL,if_pos hi])
end Go.Rf
namespace Go.Rf
open Go.RowKit
inductive Kd where
 | whole
 | tails
 | heads
def kD(kd:Kd)(n:Net)(set:List Int)(s:Int):List Int:=
 match kd with
 | .whole=>qR n set s
 | .tails=>0::qR n set s
 | .heads=>if lC n set=true then set else qR n set s
def xY(most:Int)(ss:List (List Int))(x:List Int):Option (List (List Int)×Int):=
 if x∈ss then some (ss,(ss.idxOf x:Int)) else if (ss.length:Int)=most then none else some (ss++[x],(ss.length:Int))
def ug(most:Int)(b:Int→List Int):Nat→List (List Int)→Option (List (List Int)×List Int)
 | 0,ss=>some (ss,[])
 | k+1,ss=>match ug most b k ss with
  | none=>none
  | some (s1,r)=>match xY most s1 (b k) with
   | none=>none
   | some (s2,j)=>some (s2,r++[j])
abbrev qX:=List (List Int)×List (List Int)×List Bool
def uN(kd:Kd)(n:Net)(most:Int)(i:Nat)(st:qX):Option qX:=
 match st.1[i]? with
 | none=>none
 | some set=>match ug most (kD kd n set) n.signs.toNat st.1 with
  | none=>none
  | some (s2,r)=>some (s2,st.2.1++[r],st.2.2++[lC n set])
def om(kd:Kd)(n:Net)(most:Int):Nat→Option qX
 | 0=>some ([[0]],[],[])
 | i+1=>match om kd n most i with
  | none=>none
  | some st=>uN kd n most i st
def Bn(kd:Kd)(n:Net)(most:Int):Nat→Nat→qX→Option qX
 | 0,_,_=>none
 | f+1,i,st=>if i=st.1.length then some st else match uN kd n most i st with
  | none=>none
  | some st'=>Bn kd n most f (i+1) st'
def yG(kd:Kd)(n:Net)(most:Int):Option qX:=Bn kd n most (most.toNat+1) 0 ([[0]],[],[])
def Val(n:Net)(s:List Int):Prop:=(∀x∈s,0≤x∧x < n.follow.length)∧s.length≤302
theorem Val.nn{n:Net}{s:List Int}(h:Val n s):uT s:=fun x hx=>(h.1 x hx).1
theorem ZiZ{n:Net}(R:nT n)(set:List Int)(s:Int):(∀x∈qR n set s,1≤x∧x < n.follow.length)∧(qR n set s).length≤301:=by
 refine⟨fun x hx=>?_,ZmY R set s⟩;unfold qR at hx;rw[vS] at hx;unfold qy at hx;obtain⟨p,hp,hx⟩:=List.mem_flatMap.mp hx;unfold BP at hx;split at hx
 ·rename_i h
  have h2:=(List.mem_filter.mp hx).1;have hlt:p.toNat < n.follow.length:=by omega
  rw[List.getD_eq_getElem?_getD,List.getElem?_eq_getElem hlt,Option.getD_some] at h2;have:=(R.follow _ hlt).2 x h2;have:=R.len;omega
 ·cases hx
theorem Qu{kd:Kd}{n:Net}(R:nT n){set:List Int}(h:Val n set)(s:Int):Val n (kD kd n set s):=by
 obtain⟨h1,h2⟩:=ZiZ R set s;cases kd with
 | whole=>exact⟨fun x hx=>by have:=h1 x hx;omega,by show(qR n set s).length≤302;omega⟩
 | tails=>
  refine⟨fun x hx=>?_,by show(0::qR n set s).length≤302;simp only[List.length_cons];omega⟩;have hx':x=0∨x∈qR n set s:=by simpa[kD] using hx
  rcases hx' with rfl | hx'
  ·have:=R.n1;have:=R.len;omega
  ·have:=h1 x hx';omega
 | heads=>
  simp only[kD];split
  ·exact h
  ·exact⟨fun x hx=>by have:=h1 x hx;omega,by omega⟩
structure Eb(n:Net)(most:Int)(ss:List (List Int)):Prop where
 v:∀s∈ss,Val n s
 l:(ss.length:Int)≤most
theorem Zrk{n:Net}{most:Int}{ss:List (List Int)}{x:List Int}(h:Eb n most ss)(hx:Val n x){p:List (List Int)×Int}(e:xY most ss x=some p):Eb n most p.1∧ss.length≤p.1.length:=by
 unfold xY at e;split at e
 ·cases e;exact⟨h,Nat.le_refl _⟩
 ·split at e
  ·cases e
  ·cases e
   refine⟨⟨fun s hs=>?_,?_⟩,by simp⟩
   ·rcases List.mem_append.mp hs with hs | hs
    ·exact h.v s hs
    ·simp at hs;subst hs;exact hx
   ·have:=h.l;simp only[List.length_append,List.length_cons,List.length_nil];omega
theorem Qk{n:Net}{most:Int}{b:Int→List Int}(hb:∀s,Val n (b s)){ss:List (List Int)}(h:Eb n most ss):∀(k:Nat) {p:List (List Int)×List Int},ug most b k ss=some p→Eb n most p.1∧ss.length≤p.1.length∧p.2.length=k
 | 0,p,e=>by simp only[ug,Option.some.injEq] at e;subst e;exact⟨h,Nat.le_refl _,rfl⟩
 | k+1,p,e=>by
  simp only[ug] at e;split at e
  ·cases e
  ·rename_i s1 r h1
   obtain⟨i1,i2,i3⟩:=Qk hb h k h1;split at e
   ·cases e
   ·rename_i s2 j h2
    cases e;obtain⟨j1,j2⟩:=Zrk i1 (hb k) h2;exact⟨j1,Nat.le_trans i2 j2,by simp only at i3;simp[i3]⟩
theorem ZfZ{most:Int}{b:Int→List Int}{ss:List (List Int)}{k:Nat}(h:ug most b k ss=none):∀m,k≤m→ug most b m ss=none
 | 0,hm=>by
  have:k=0:=by omega
  subst this;exact h
 | m+1,hm=>by
  by_cases hk:k=m+1
  ·subst hk;exact h
  ·simp only[ug,ZfZ h m (by omega)]
structure YD(n:Net)(most:Int)(i:Nat)(st:qX):Prop where
 ss:Eb n most st.1
 le:i≤st.1.length
 nx:st.2.1.length=i
 en:st.2.2.length=i
 row:∀r∈st.2.1,r.length=n.signs.toNat
theorem Ztn{kd:Kd}{n:Net}(R:nT n){most:Int}{i:Nat}{st st':qX}(h:YD n most i st)(e:uN kd n most i st=some st'):YD n most (i+1) st':=by
 unfold uN at e;split at e
 ·cases e
 ·rename_i set hs
  obtain⟨hlt,hse⟩:=List.getElem?_eq_some_iff.mp hs;split at e
  ·cases e
  ·rename_i s2 r h1
   cases e;obtain⟨j1,j2,j3⟩:=Qk (n:=n) (fun s=>Qu R (h.ss.v set (by rw[←hse];exact List.getElem_mem hlt)) s) h.ss _ h1;refine⟨j1,by simp only at j2 ⊢;omega,by simp[h.nx],by simp[h.en],fun r' hr=>?_⟩;rcases List.mem_append.mp hr with hr | hr
   ·exact h.row r' hr
   ·simp at hr;subst hr;exact j3
theorem I9{kd:Kd}{n:Net}(R:nT n){most:Int}(hm:1≤most):∀(i:Nat) {st:qX},om kd n most i=some st→YD n most i st
 | 0,st,e=>by
  simp only[om,Option.some.injEq] at e;subst e;refine⟨⟨fun s hs=>?_,by simpa using hm⟩,by simp,rfl,rfl,by simp⟩;simp only[List.mem_cons,List.not_mem_nil,or_false] at hs;subst hs;exact⟨fun x hx=>by simp at hx;subst hx;have:=R.n1;have:=R.len;omega,by simp⟩
 | i+1,st,e=>by
  simp only[om] at e;split at e
  ·cases e
  ·rename_i st0 h0
   exact Ztn R (I9 R hm i h0) e
theorem ZlB{kd:Kd}{n:Net}(R:nT n){most:Int}(hm:1≤most):∀(f i:Nat) {st:qX},om kd n most i=some st→most.toNat+1≤f+i→∀j yt,i≤j→om kd n most j=some yt→j=yt.1.length→(∀m,i≤m→m < j→∀oq,om kd n most m=some oq→m≠oq.1.length)→Bn kd n most f i st=some yt
 | 0,i,st,h,hf,j,yt,hij,hj,hlen,hmin=>by
  have o:=I9 R hm i h;have:=o.ss.l;have:=o.le;omega
 | f+1,i,st,h,hf,j,yt,hij,hj,hlen,hmin=>by
  simp only[Bn];by_cases hi:i=st.1.length
  ·rw[if_pos hi]
   by_cases hij2:i=j
   ·subst hij2;rw[h] at hj;exact hj
   ·exact(hmin i (Nat.le_refl _) (by omega) st h hi).elim
  ·rw[if_neg hi]
   by_cases hij2:i=j
   ·subst hij2;rw[h] at hj;cases hj;exact(hi hlen).elim
   ·have hs1:om kd n most (i+1)=uN kd n most i st:=by simp only[om,h]
    cases hn:uN kd n most i st with
    | none=>
     exfalso;rw[hn] at hs1
     have key:∀m,i+1≤m→om kd n most m=none:=by
      intro m;induction m with
      | zero=>intro hm;omega
      | succ m ih=>
       intro hm';by_cases qN:m=i
       ·subst qN;exact hs1
       ·simp only[om,ih (by omega)]
     rw[key j (by omega)] at hj;cases hj
    | some st'=>
     rw[hn] at hs1;exact ZlB R hm f (i+1) hs1 (by omega) j yt (by omega) hj hlen (fun m h1 h2=>hmin m (by omega) h2)
theorem Zid{kd:Kd}{n:Net}(R:nT n){most:Int}:∀(f i:Nat) {st:qX},om kd n most i=some st→∀j,i≤j→om kd n most (j+1)=none→(∀m,i≤m→m≤j→∀oq,om kd n most m=some oq→m≠oq.1.length)→Bn kd n most f i st=none
 | 0,i,st,h,j,hij,hj,hmin=>rfl
 | f+1,i,st,h,j,hij,hj,hmin=>by
  simp only[Bn];rw[if_neg (hmin i (Nat.le_refl _) hij st h)];have hs1:om kd n most (i+1)=uN kd n most i st:=by simp only[om,h]
  cases hn:uN kd n most i st with
  | none=>rfl
  | some st'=>
   rw[hn] at hs1;simp only;by_cases hij2:i=j
   ·subst hij2;rw[hs1] at hj;cases hj
   ·exact Zid R f (i+1) hs1 j (by omega) hj (fun m h1 h2=>hmin m (by omega) h2)
theorem lq.P5y{g:Nat→Option aF}{n:Nat}{av:List Nat}{vs:List AV}{ls:List (List AV)}{v:AV}{l:List AV}(h:lq g n av (vs++[v]) (ls++[l])) :
  Vec g v 1 l∧(∀i∈v.ids,i < n∧i∉av)∧(∀w∈vs,∀i∈w.ids,i∉v.ids)∧lq g n av vs ls:=by
 have hl:vs.length=ls.length:=by have:=h.len;simpa using this
 have hp:=List.pairwise_append.mp h.sep;refine⟨?_,h.out v (by simp),fun w hw=>hp.2.2 w hw v (by simp),hl,fun t h1 h2=>?_,hp.1,fun w hw=>h.out w (by simp[hw])⟩
 ·have:=h.row vs.length (by simp) (by simp[hl])
  rw[List.getElem_append_right (by omega),List.getElem_append_right (by omega)] at this;simpa[hl] using this
 ·have:=h.row t (by simp;omega) (by simp;omega)
  rwa[List.getElem_append_left h1,List.getElem_append_left h2] at this
def rQ:AV:=.agg [aj 0,.sl true [],.sl true []]
def vZ(nx:List (List Int)):List (List AV):=nx.map fun l=>l.map aj
structure mP(S bC:St)(id km b4 b5:Nat)(n:Net)(most:Int)(ss nx:List (List Int))(en:List Bool)(v vN vE:AV)(rs ex:List AV)(Gy:List (List AV)):Prop where
 mg:S.g id=some (.arr 7 [.agg [aj n.signs,aX n.aB,aX n.follow,aA n.last,aj most,.mp km,v]])
 mm:S.g km=some (.map (tY 0 ss))
 g4:S.g b4=some (.arr 3 [rQ])
 g5:S.g b5=some (.arr 3 [.agg [aj n.signs,vN,vE]])
 rows:lq S.g S.n [id,km,b4,b5] (v::vN::vE::(rs++ex)) (ss.map aA::rs::en.map aH::(vZ nx++Gy))
 ne:id≠km
 lid:id < bC.n
 vG:km < bC.n
 l4:bC.n≤b4
 l5:bC.n≤b5
 n45:b4≠b5
 t4:b4 < S.n
 t5:b5 < S.n
 new:∀w∈(v::vN::vE::(rs++ex)),∀i∈w.ids,bC.n≤i
 old:∀i,i < bC.n→i≠id→i≠km→S.g i=bC.g i
 jP:bC.n≤S.n
section
variable{S bC:St}{id km b4 b5:Nat}{n:Net}{most:Int}{ss nx:List (List Int)}{en:List Bool}{v vN vE:AV}{rs ex:List AV}{Gy:List (List AV)}
theorem mP.mk'(h:mP S bC id km b4 b5 n most ss nx en v vN vE rs ex Gy):wU S id km n most ss v:=by
 obtain⟨hv,ho,_⟩:=h.rows.head;refine⟨h.mg,h.mm,hv,h.ne,fun i hi=>?_,Nat.lt_of_lt_of_le h.lid h.jP,Nat.lt_of_lt_of_le h.vG h.jP,fun i hi=>(ho i hi).1⟩;have:=(ho i hi).2;simp only[List.mem_cons,not_or] at this;exact⟨this.1,this.2.1⟩
theorem mP.up(h:mP S bC id km b4 b5 n most ss nx en v vN vE rs ex Gy){m:Nat}(hm:S.n≤m):mP ⟨m,S.g⟩ bC id km b4 b5 n most ss nx en v vN vE rs ex Gy:=
 ⟨h.mg,h.mm,h.g4,h.g5,h.rows.frame hm (fun _ _ _ _=>rfl),h.ne,h.lid,h.vG,h.l4,h.l5,h.n45,Nat.lt_of_lt_of_le h.t4 hm,Nat.lt_of_lt_of_le h.t5 hm,h.new,h.old,Nat.le_trans h.jP hm⟩
theorem mP.num(h:mP S bC id km b4 b5 n most ss nx en v vN vE rs ex Gy){S':St}{ss':List (List Int)}{v':AV}(M:wU S' id km n most ss' v')(F:TM S S' (id::km::v.ids))(hv':∀i∈v'.ids,S.n≤i) :
  mP S' bC id km b4 b5 n most ss' nx en v' vN vE rs ex Gy:=by
 obtain⟨hv,ho,hs,hr⟩:=h.rows.head;have Za:=h.lid;have Zb:=h.vG;have h4:=h.l4;have h5:=h.l5;have SX:=h.jP;have Ns:=h.t4;have SN:=h.t5;have key:∀i,i < S.n→i≠id→i≠km→i∉v.ids→S'.g i=S.g i:=fun i h1 h2 h3 h4=>F.g i h1 (by simp[h2,h3,h4])
 have JX:∀b,b∈[id,km,b4,b5]→b∉v.ids:=fun b hb hi=>(ho b hi).2 hb
 have hFn:=F.n;refine⟨M.g,M.m,?_,?_,?_,h.ne,h.lid,h.vG,h.l4,h.l5,h.n45,by omega,by omega,fun w hw i hi=>?_,fun i h1 h2 h3=>?_,by omega⟩
 ·rw[key b4 Ns (by omega) (by omega) (JX b4 (by simp))];exact h.g4
 ·rw[key b5 SN (by omega) (by omega) (JX b5 (by simp))];exact h.g5
 ·refine lq.cons M.vec (fun i hi=>⟨M.lv i hi,?_⟩) (fun w hw i hi hi2=>?_) (hr.frame hFn (fun w hw i hi=>?_))
  ·have:=hv' i hi
   simp only[List.mem_cons,List.not_mem_nil,or_false,not_or];omega
  ·have:=(hr.out w hw i hi2).1
   have:=hv' i hi;omega
  ·have h1:=hr.out w hw i hi
   have h2:=h1.2;simp only[List.mem_cons,List.not_mem_nil,or_false,not_or] at h2;exact key i h1.1 h2.1 h2.2.1 (fun h3=>hs w hw i h3 hi)
 ·rcases List.mem_cons.mp hw with rfl | hw
  ·have:=hv' i hi;omega
  ·exact h.new w (List.mem_cons_of_mem _ hw) i hi
 ·rw[key i (by omega) h2 h3 (fun h4=>by have:=h.new v (by simp) i h4;omega)];exact h.old i h1 h2 h3
theorem mP.row(h:mP S bC id km b4 b5 n most ss nx en v vN vE rs [] []){q:Nat}(hq:S.n≤q){m:Nat}(hm:q < m){zs:List AV}{L:Nat}(hL:zs.length=L) :
  mP ((St.mk m S.g).set q (some (.arr 1 zs))) bC id km b4 b5 n most ss nx en v vN vE rs [.own q 0 L] [zs]:=by
 have Za:=h.lid;have Zb:=h.vG;have SX:=h.jP;have Ns:=h.t4;have SN:=h.t5;have key:∀i,i < S.n→((St.mk m S.g).set q (some (.arr 1 zs))).g i=S.g i:=fun i hi=>by rw[aG,if_neg (by omega)]
 have hr:=h.rows;simp only[List.append_nil] at hr;have hr2:lq ((St.mk m S.g).set q (some (.arr 1 zs))).g m [id,km,b4,b5] (v::vN::vE::rs) (ss.map aA::rs::en.map aH::vZ nx):=hr.frame (by omega) (fun w hw i hi=>key i (hr.out w hw i hi).1)
 have hfin:=hr2.snoc (v:=.own q 0 L) (l:=zs) (.mk' (by simp[aG]) hL.symm) (fun i hi=>by
   simp only[AV.ids,List.mem_singleton] at hi;subst hi;refine⟨hm,?_⟩;simp only[List.mem_cons,List.not_mem_nil,or_false,not_or];omega) (fun w hw i hi hi2=>by
   simp only[AV.ids,List.mem_singleton] at hi2;have:=(hr.out w hw i hi).1;omega)
 refine⟨by rw[key id (by omega)];exact h.mg,by rw[key km (by omega)];exact h.mm,by rw[key b4 Ns];exact h.g4,by rw[key b5 SN];exact h.g5,?_,h.ne,h.lid,h.vG,h.l4,h.l5,h.n45,by show b4 < m;omega,by show b5 < m;omega,fun w hw i hi=>?_,fun i h1 h2 h3=>by rw[key i (by omega)];exact h.old i h1 h2 h3,by show bC.n≤m;omega⟩
 ·rw[bB];simpa using hfin
 ·simp only[List.mem_cons,List.mem_append,List.not_mem_nil,or_false] at hw
  have hn:=h.new;simp only[List.append_nil] at hn;rcases hw with rfl | rfl | rfl | hw | rfl
  ·exact hn _ (by simp) i hi
  ·exact hn _ (by simp) i hi
  ·exact hn _ (by simp) i hi
  ·exact hn _ (by simp[hw]) i hi
  ·simp only[AV.ids,List.mem_singleton] at hi;omega
theorem mP.b7{q L:Nat}{zs:List AV}(h:mP S bC id km b4 b5 n most ss nx en v vN vE rs [.own q 0 L] [zs]):S.g q=some (.arr 1 zs)∧zs.length=L∧q < S.n:=by
 have hr:lq S.g S.n [id,km,b4,b5] ((v::vN::vE::rs)++[.own q 0 L]) ((ss.map aA::rs::en.map aH::vZ nx)++[zs]):=by simpa using h.rows
 obtain⟨a,b,c,d⟩:=hr.P5y;rcases a with⟨e,_⟩ | ⟨id',off,ys,e,g',ho,hd⟩
 ·cases e
 ·cases e
  simp only[List.drop_zero] at hd;subst hd;exact⟨g',rfl,(b q (by simp[AV.ids])).1⟩
theorem mP.put{q L:Nat}{zs zs':List AV}(h:mP S bC id km b4 b5 n most ss nx en v vN vE rs [.own q 0 L] [zs])(hl:zs'.length=zs.length){m:Nat}(hm:S.n≤m) :
  mP ((St.mk m S.g).set q (some (.arr 1 zs'))) bC id km b4 b5 n most ss nx en v vN vE rs [.own q 0 L] [zs']:=by
 obtain⟨hq,hL,En⟩:=h.b7;have hr:lq S.g S.n [id,km,b4,b5] ((v::vN::vE::rs)++[.own q 0 L]) ((ss.map aA::rs::en.map aH::vZ nx)++[zs]):=by simpa using h.rows
 obtain⟨a,b,c,d⟩:=hr.P5y;have hqo:=(b q (by simp[AV.ids])).2;simp only[List.mem_cons,List.not_mem_nil,or_false,not_or] at hqo;have hqS:bC.n≤q:=h.new (.own q 0 L) (by simp) q (by simp[AV.ids]);have key:∀i,i≠q→((St.mk m S.g).set q (some (.arr 1 zs'))).g i=S.g i:=fun i hi=>by rw[aG,if_neg hi]
 have SX:=h.jP;have t4:=h.t4;have t5:=h.t5
 have hfin:=(d.frame (g':=((St.mk m S.g).set q (some (.arr 1 zs'))).g) hm (fun w hw i hi=>key i (fun e=>c w hw i hi (by simp[AV.ids,e])))).snoc (v:=.own q 0 L) (l:=zs') (.mk' (by simp[aG]) (by rw[hl,hL])) (fun i hi=>by
   have:=b i hi;exact⟨by omega,this.2⟩) c
 refine⟨by rw[key id (fun e=>hqo.1 e.symm)];exact h.mg,by rw[key km (fun e=>hqo.2.1 e.symm)];exact h.mm,by rw[key b4 (fun e=>hqo.2.2.1 e.symm)];exact h.g4,by rw[key b5 (fun e=>hqo.2.2.2 e.symm)];exact h.g5,?_,h.ne,h.lid,h.vG,h.l4,h.l5,h.n45,by show b4 < m;omega,by show b5 < m;omega,h.new,fun i h1 h2 h3=>by rw[key i (by omega)];exact h.old i h1 h2 h3,by show bC.n≤m;omega⟩;rw[bB];simpa using hfin
theorem mP.fz(h:mP S bC id km b4 b5 n most ss nx en v vN vE rs [] []){g:Nat→Option aF}(hg:∀i,bC.n≤i→i≠b4→g i=S.g i):Fz g vN (aX nx)∧Fz g vE (iY en):=by
 have hrows:=h.rows.frame (g':=g) (n':=S.n) (Nat.le_refl _) (fun w hw i hi=>hg i (h.new w hw i hi) (fun e=>(h.rows.out w hw i hi).2 (by simp[e])));obtain⟨_,_,_,hr⟩:=hrows.head;obtain⟨hN,_,_,hr2⟩:=hr.head;obtain⟨hE,_,_,hr3⟩:=hr2.head;simp only[List.append_nil] at hr3;refine⟨?_,?_⟩
 ·have hl:nx.length=rs.length:=by have:=hr3.len;simpa[vZ] using this.symm
  refine hN.fzL (by simpa using hl) (fun i h1 h2=>?_);have h3:=hr3.row i h1 (by simpa[vZ,hl] using h1);simp only[vZ,List.getElem_map] at h3 ⊢;exact h3.fz aW
 ·exact hE.fz dN
theorem Vec.P6e{g:Nat→Option aF}{v:AV}{es:Nat}{xs zs:List AV}(h:Vec g v es xs)(hl:zs.length=xs.length)(hz:∀i (h1:i < xs.length) (h2:i < zs.length),kI g (xs[i]) (zs[i])):kI g v (.sl false zs):=by
 rcases h with⟨rfl,h0⟩ | ⟨id,off,ys,rfl,h1,h2,h3⟩
 ·subst h0
  have:zs=[]:=List.eq_nil_of_length_eq_zero hl;subst this;exact .nil true false (by simp)
 ·have hle:off+xs.length=ys.length:=by rw[←h3];simp;omega
  have ht:(ys.drop off).take xs.length=xs:=by rw[h3,List.take_length]
  refine .own id off _ es ys zs h1 (by omega) hl (fun i k1 k2=>?_);simp only[ht] at k1 ⊢;exact hz i k1 k2
theorem kI.mono{g g':Nat→Option aF}{x y:AV}(h:kI g x y)(hg:∀i k,g i=some k→g' i=some k):kI g' x y:=by
 induction h with
 | v x=>exact .v x
 | nil t u h=>exact .nil t u h
 | own id off len es xs zs hi hl hz h ih=>exact .own id off len es xs zs (hg _ _ hi) hl hz ih
 | agg cs ds hl h ih=>exact .agg cs ds hl ih
 | aM cs ds hl h ih=>exact .aM cs ds hl ih
theorem mP.Nc(h:mP S bC id km b4 b5 n most ss nx en v vN vE rs [] []){g:Nat→Option aF}(hg:∀i,bC.n≤i→i≠b4→i < S.n→g i=S.g i):kI g vN (aX nx)∧kI g vE (iY en):=by
 have hrows:=h.rows.frame (g':=g) (n':=S.n) (Nat.le_refl _) (fun w hw i hi=>hg i (h.new w hw i hi) (fun e=>(h.rows.out w hw i hi).2 (by simp[e])) (h.rows.out w hw i hi).1);obtain⟨_,_,_,hr⟩:=hrows.head;obtain⟨hN,_,_,hr2⟩:=hr.head;obtain⟨hE,_,_,hr3⟩:=hr2.head;simp only[List.append_nil] at hr3;refine⟨?_,?_⟩
 ·have hl:nx.length=rs.length:=by have:=hr3.len;simpa[vZ] using this.symm
  refine hN.P6e (by simpa using hl) (fun i h1 h2=>?_);have h3:=hr3.row i h1 (by simpa[vZ,hl] using h1);simp only[vZ,List.getElem_map] at h3 ⊢;exact h3.Nc
 ·refine hE.P6e (by simp) (fun i h1 h2=>?_)
  simp only[List.getElem_map];exact .v _
end
def Mw(p:aO)(l:List Int)(at_:Int):List Int:=if at_ < 0∨(l.length:Int) < at_ then [] else (CO (AX l p at_)).mergeSort fun x y=>decide (x≤y)
def mO(p:aO)(l:List Int)(a b:Int):Bool:=(Mw p l a).contains b
theorem Zof{p:aO}{l:List Int}{at_:Int}:∀x∈Mw p l at_,0≤x∧x≤(l.length:Int):=by
 intro x hx;unfold Mw at hx;split at hx
 ·simp at hx
 ·rename_i h
  have h1:=zF.mp ((List.mergeSort_perm _ _).mem_iff.mp hx);have:=Fh l p at_ (by omega) (by omega) x h1
  omega
structure wX where
 num:Int
 cut:Bool
 before:aO
 after:aO
 pos:Int
def FJ(r:wX):AV:=.agg ([aj r.num,aH r.cut]++(jM r.before).cells++(jM r.after).cells++[aj r.pos])
structure Bk where
 vars:AV
 rules:List wX
 allows:AV
 used:AV
def MQ(g:Nat→Option aF)(v:AV)(es:Nat)(xs:List AV):Prop:=(v=.sl true []∧xs=[])∨∃id,v=.own id 0 xs.length∧g id=some (.arr es xs)
theorem MQ.vec{g:Nat→Option aF}{v:AV}{es:Nat}{xs:List AV}(h:MQ g v es xs):Vec g v es xs:=by
 rcases h with⟨rfl,rfl⟩ | ⟨id,rfl,h⟩
 ·exact .nil
 ·exact .mk h
theorem MQ.frame{g g':Nat→Option aF}{v:AV}{es:Nat}{xs:List AV}(h:MQ g v es xs)(hs:∀i∈v.ids,g' i=g i):MQ g' v es xs:=by
 rcases h with h | ⟨id,rfl,h⟩
 ·exact .inl h
 ·exact .inr ⟨id,rfl,by rw[hs id (by simp[AV.ids])];exact h⟩
inductive kS (r:Int→Int→Prop):Int→Int→Prop
 | one {a b:Int} (h:r a b):kS r a b
 | more {a b c:Int} (h:kS r a b) (k:r b c):kS r a c
theorem kS.trans{r:Int→Int→Prop}{a b c:Int}(h:kS r a b)(k:kS r b c):kS r a c:=by
 induction k with
 | one k=>exact .more h k
 | more _ k ih=>exact .more ih k
theorem kS.head{r:Int→Int→Prop}{a c:Int}(h:kS r a c):∃b,r a b∧(b=c∨kS r b c):=by
 induction h with
 | one h=>exact⟨_,h,.inl rfl⟩
 | more h k ih=>
  obtain⟨b,h1,h2⟩:=ih;refine⟨b,h1,.inr ?_⟩;rcases h2 with rfl | h2
  ·exact .one k
  ·exact .more h2 k
mutual
def MR(S:List Int→Int→Int→Prop):aO→Int→Int→Prop
 | .mk k _ g ks,a,b=>if k=1 then a=b else if k=2 then S g a b else if k=3 then MA S ks a b else if k=4 then MO S ks a b else if k=7∨k=5∨k=6 then MG S ks k a b else False
def MA(S:List Int→Int→Int→Prop):List aO→Int→Int→Prop
 | [],a,b=>a=b
 | q::qs,a,b=>∃m,MR S q a m∧MA S qs m b
def MO(S:List Int→Int→Int→Prop):List aO→Int→Int→Prop
 | [],_,_=>False
 | q::qs,a,b=>MR S q a b∨MO S qs a b
def MG(S:List Int→Int→Int→Prop):List aO→Int→Int→Int→Prop
 | [q],k,a,b=>(k≠6∧a=b)∨(if k=7 then MR S q a b else kS (MR S q) a b)
 | _,_,_,_=>False
end
def nO(l:List Int)(g:List Int)(a b:Int):Prop:=b=a+1∧0≤a∧a < l.length∧l.getD a.toNat 0∈g
theorem Zkr(xs:List Int):∀(acc:List Int),∃t,xZ acc xs=acc++t:=by
 induction xs with
 | nil=>intro acc;exact⟨[],by simp[xZ]⟩
 | cons x xs ih=>
  intro acc;simp only[xZ];obtain⟨t,ht⟩:=ih (if acc.contains x=true then acc else acc++[x]);split at ht
  ·exact⟨t,by rw[if_pos (by assumption)];exact ht⟩
  ·rw[if_neg (by assumption)]
   exact⟨[x]++t,by rw[ht];simp⟩
theorem ZnZ{v:Int→List Int}{n:Nat}{at_:Int}(hv:∀x:Int,0≤x→x≤n→∀y∈v x,0≤y∧y≤(n:Int))(h0:0≤at_∧at_≤n) :
  ∀(f:Nat) (met:List Int) (i:Nat),met.Nodup→(∀x∈met,0≤x∧x≤(n:Int))→i≤met.length→n+2≤f+i→(∀y∈v at_,y∈met)→(∀x∈met,kS (fun a b=>b∈v a) at_ x)→
   (∀j (h:j < met.length),j < i→∀y∈v met[j],y∈met)→∀y,y∈JG v f met i↔kS (fun a b=>b∈v a) at_ y:=by
 have done:∀(met:List Int),(∀y∈v at_,y∈met)→(∀x∈met,∀y∈v x,y∈met)→∀y,kS (fun a b=>b∈v a) at_ y→y∈met:=by
  intro met h1 h2 y hy;induction hy with
  | one h=>exact h1 _ h
  | more h k ih=>exact h2 _ ih _ k
 intro f;induction f with
 | zero=>
  intro met i hnd hb hi hf h1 h2 h3 y;have:=Wo (n+1) hnd (fun x hx=>by have:=hb x hx;omega);omega
 | succ f ih=>
  intro met i hnd hb hi hf h1 h2 h3 y;simp only[JG];split
  ·rename_i hlt
   have hbi:=hb _ (List.getElem_mem hlt);obtain⟨t,ht⟩:=Zkr (v met[i]) met;have hlen:met.length≤(xZ met (v met[i])).length:=by rw[ht];simp
   refine ih _ _ (VJ hnd) (fun x hx=>?_) (by omega) (by omega) (fun y hy=>Dv.mpr (.inl (h1 y hy))) (fun x hx=>?_) (fun j hj hji y hy=>?_) y
   ·rcases Dv.mp hx with hx | hx
    ·exact hb x hx
    ·exact hv _ hbi.1 hbi.2 x hx
   ·rcases Dv.mp hx with hx | hx
    ·exact h2 x hx
    ·exact .more (h2 _ (List.getElem_mem hlt)) hx
   ·have hjm:j < met.length:=by omega
    have e:(xZ met (v met[i]))[j]=met[j]:=by simp only[ht];exact List.getElem_append_left hjm
    rw[e] at hy;by_cases aaW:j=i
    ·subst aaW;exact Dv.mpr (.inr hy)
    ·exact Dv.mpr (.inl (h3 j hjm (by omega) y hy))
  ·rename_i hlt
   have hie:i=met.length:=by omega
   refine⟨fun h=>h2 y h,fun h=>done met h1 (fun x hx y hy=>?_) y h⟩;obtain⟨j,hj,rfl⟩:=List.mem_iff_getElem.mp hx;exact h3 j hj (by omega) y hy
theorem Zqk{v:Int→List Int}{n:Nat}{k at_:Int}(hv:∀x:Int,0≤x→x≤n→∀y∈v x,0≤y∧y≤(n:Int))(h0:0≤at_∧at_≤n)(y:Int) :
  y∈M5 v k n at_↔(k≠6∧at_=y)∨(if k=7 then y∈v at_ else kS (fun a b=>b∈v a) at_ y):=by
 unfold M5;rw[List.mem_append]
 have h1:y∈(if k=6 then ([]:List Int) else [at_])↔k≠6∧at_=y:=by
  by_cases h:k=6
  ·simp[h]
  ·simp[h];exact⟨fun e=>e.symm,fun e=>e.symm⟩
 rw[h1];by_cases h7:k=7
 ·rw[if_pos h7,if_pos h7,zF]
 ·rw[if_neg h7,if_neg h7]
  have:=ZnZ hv h0 (n+2) (CO (v at_)) 0 (Zl8 _) (fun x hx=>hv _ h0.1 h0.2 x (zF.mp hx)) (Nat.zero_le _) (by omega) (fun y hy=>zF.mpr hy) (fun x hx=>.one (zF.mp hx)) (fun j hj h=>by omega) y;rw[this]
theorem kS.congr{r s:Int→Int→Prop}{lo hi:Int}(hrs:∀a b,lo≤a→a≤hi→(r a b↔s a b))(hb:∀a b,lo≤a→a≤hi→r a b→lo≤b∧b≤hi){a b:Int}(ha:lo≤a∧a≤hi):kS r a b↔kS s a b:=by
 constructor
 ·intro h
  have key:∀{b},kS r a b→(lo≤b∧b≤hi)∧kS s a b:=by
   intro b h;induction h with
   | one h=>exact⟨hb _ _ ha.1 ha.2 h,.one ((hrs _ _ ha.1 ha.2).mp h)⟩
   | more _ k ih=>
    obtain⟨h1,h2⟩:=ih;exact⟨hb _ _ h1.1 h1.2 k,.more h2 ((hrs _ _ h1.1 h1.2).mp k)⟩
  exact(key h).2
 ·intro h
  have key:∀{b},kS s a b→(lo≤b∧b≤hi)∧kS r a b:=by
   intro b h;induction h with
   | one h=>have h':=(hrs _ _ ha.1 ha.2).mpr h;exact⟨hb _ _ ha.1 ha.2 h',.one h'⟩
   | more _ k ih=>
    obtain⟨h1,h2⟩:=ih;have h':=(hrs _ _ h1.1 h1.2).mpr k;exact⟨hb _ _ h1.1 h1.2 h',.more h2 h'⟩
  exact(key h).2
mutual
theorem Iq(l:List Int):∀(p:aO) (a b:Int),0≤a→a≤l.length→(b∈AX l p a↔MR (nO l) p a b)
 | .mk k s g ks,a,b,h0,hn=>by
  rw[AX,MR];by_cases h1:k=1
  ·rw[if_pos h1,if_pos h1];simp;exact⟨fun e=>e.symm,fun e=>e.symm⟩
  ·rw[if_neg h1,if_neg h1]
   by_cases h2:k=2
   ·rw[if_pos h2,if_pos h2]
    unfold nO;by_cases hc:a < l.length∧g.contains (l.getD a.toNat 0)=true
    ·rw[if_pos hc]
     have hm:l.getD a.toNat 0∈g:=by simpa using hc.2
     simp only[List.mem_cons,List.not_mem_nil,or_false];exact⟨fun e=>⟨e,h0,hc.1,hm⟩,fun e=>e.1⟩
    ·rw[if_neg hc]
     simp only[List.not_mem_nil,false_iff];rintro⟨_,_,h3,h4⟩;exact hc ⟨h3,by simpa using h4⟩
   ·rw[if_neg h2,if_neg h2]
    by_cases h3:k=3
    ·rw[if_pos h3,if_pos h3,Zgl l ks [a] b (by simp;exact⟨h0,hn⟩)];simp
    ·rw[if_neg h3,if_neg h3]
     by_cases h4:k=4
     ·rw[if_pos h4,if_pos h4,Zj3 l ks a b h0 hn]
     ·rw[if_neg h4,if_neg h4]
      by_cases h5:k=7∨k=5∨k=6
      ·rw[if_pos h5,if_pos h5];exact Zpj l ks k a b h0 hn
      ·rw[if_neg h5,if_neg h5];simp
theorem Zgl(l:List Int):∀(ks:List aO) (cur:List Int) (b:Int),(∀x∈cur,0≤x∧x≤l.length)→(b∈DN l ks cur↔∃a∈cur,MA (nO l) ks a b)
 | [],cur,b,h=>by rw[DN];simp[MA]
 | q::qs,cur,b,h=>by
  rw[DN,Zgl l qs _ b (fun x hx=>by
   obtain⟨a,ha,hx2⟩:=List.mem_flatMap.mp (zF.mp hx);have h1:=h a ha;have:=Fh l q a h1.1 h1.2 x hx2;omega)]
  constructor
  ·rintro⟨m,hm,hr⟩
   obtain⟨a,ha,hx2⟩:=List.mem_flatMap.mp (zF.mp hm);have h1:=h a ha;exact⟨a,ha,by rw[MA];exact⟨m,(Iq l q a m h1.1 h1.2).mp hx2,hr⟩⟩
  ·rintro⟨a,ha,hr⟩
   rw[MA] at hr;obtain⟨m,h2,h3⟩:=hr;have h1:=h a ha;exact⟨m,zF.mpr (List.mem_flatMap.mpr ⟨a,ha,(Iq l q a m h1.1 h1.2).mpr h2⟩),h3⟩
theorem Zj3(l:List Int):∀(ks:List aO) (a b:Int),0≤a→a≤l.length→(b∈DX l ks a↔MO (nO l) ks a b)
 | [],a,b,_,_=>by rw[DX,MO];simp
 | q::qs,a,b,h0,hn=>by rw[DX,MO,List.mem_append,Iq l q a b h0 hn,Zj3 l qs a b h0 hn]
theorem Zpj(l:List Int):∀(ks:List aO) (k a b:Int),0≤a→a≤l.length→(b∈Cv l ks k a↔MG (nO l) ks k a b)
 | [q],k,a,b,h0,hn=>by
  rw[Cv,MG,Zqk (fun x hx hy y hm=>by have:=Fh l q x hx hy y hm;omega) ⟨h0,hn⟩]
  have e1:(if k=7 then b∈AX l q a else kS (fun a b=>b∈AX l q a) a b)↔(if k=7 then MR (nO l) q a b else kS (MR (nO l) q) a b):=by
   by_cases h7:k=7
   ·rw[if_pos h7,if_pos h7];exact Iq l q a b h0 hn
   ·rw[if_neg h7,if_neg h7]
    exact kS.congr (lo:=0) (hi:=l.length) (fun x y hx hy=>Iq l q x y hx hy) (fun x y hx hy hm=>by have:=Fh l q x hx hy y hm;omega) ⟨h0,hn⟩
  rw[e1]
 | [],k,a,b,_,_=>by rw[Cv,MG]<;>simp
 | q::r::qs,k,a,b,_,_=>by rw[Cv,MG]<;>simp
end
theorem Zoe{p:aO}{l:List Int}{a b:Int}:b∈Mw p l a↔0≤a∧a≤l.length∧MR (nO l) p a b:=by
 unfold Mw;by_cases h:a < 0∨(l.length:Int) < a
 ·rw[if_pos h];simp;intro h1 h2;omega
 ·rw[if_neg h,(List.mergeSort_perm _ _).mem_iff,zF,Iq l p a b (by omega) (by omega)]
  constructor
  ·intro hm;exact⟨by omega,by omega,hm⟩
  ·exact fun hm=>hm.2.2
theorem AP{p:aO}{l:List Int}{a b:Int}:mO p l a b=true↔0≤a∧a≤l.length∧MR (nO l) p a b:=by
 unfold mO;rw[List.contains_iff_mem,Zoe]
def Inc(S:List Int→Int→Int→Prop):Prop:=∀g a b,S g a b→a < b
theorem Zps{r:Int→Int→Prop}(h:∀a b,r a b→a≤b){a b:Int}(k:kS r a b):a≤b:=by
 induction k with
 | one k=>exact h _ _ k
 | more _ k ih=>have:=h _ _ k;omega
mutual
theorem FI{S:List Int→Int→Int→Prop}(hS:Inc S):∀(p:aO) (a b:Int),MR S p a b→a≤b
 | .mk k s g ks,a,b,h=>by
  rw[MR] at h;split at h
  ·omega
  ·split at h
   ·have:=hS _ _ _ h;omega
   ·split at h
    ·exact XB hS ks a b h
    ·split at h
     ·exact Zpo hS ks a b h
     ·split at h
      ·exact Zsp hS ks k a b h
      ·exact h.elim
theorem XB{S:List Int→Int→Int→Prop}(hS:Inc S):∀(ks:List aO) (a b:Int),MA S ks a b→a≤b
 | [],a,b,h=>by rw[MA] at h;omega
 | q::qs,a,b,h=>by
  rw[MA] at h;obtain⟨m,h1,h2⟩:=h;have:=FI hS q a m h1;have:=XB hS qs m b h2;omega
theorem Zpo{S:List Int→Int→Int→Prop}(hS:Inc S):∀(ks:List aO) (a b:Int),MO S ks a b→a≤b
 | [],a,b,h=>by rw[MO] at h;exact h.elim
 | q::qs,a,b,h=>by
  rw[MO] at h;rcases h with h | h
  ·exact FI hS q a b h
  ·exact Zpo hS qs a b h
theorem Zsp{S:List Int→Int→Int→Prop}(hS:Inc S):∀(ks:List aO) (k a b:Int),MG S ks k a b→a≤b
 | [q],k,a,b,h=>by
  rw[MG] at h;rcases h with h | h
  ·omega
  ·split at h
   ·exact FI hS q a b h
   ·exact Zps (fun a b h=>FI hS q a b h) h
 | [],k,a,b,h=>by simp[MG] at h
 | q::r::qs,k,a,b,h=>by simp[MG] at h
end
structure GE where
 bH:Prop
 fst:Nat→Prop
 aR:Nat→Prop
 dH:Nat→Nat→Prop
section
variable(T:Nat→Int→Int→Prop)
inductive Rn (F:Nat→Nat→Prop):Nat→Int→Nat→Int→Prop where
 | refl (s:Nat) (a:Int):Rn F s a s a
 | step (s t u:Nat) (a m b:Int) (h:F s t) (k:T t a m) (r:Rn F t m u b):Rn F s a u b
def Acc(E:GE)(a b:Int):Prop:=(E.bH∧a=b)∨∃s m t,E.fst s∧T s a m∧Rn T E.dH s m t b∧E.aR t
end
section
variable{T:Nat→Int→Int→Prop}
theorem Rn.mono{F G:Nat→Nat→Prop}(h:∀s t,F s t→G s t){s t:Nat}{a b:Int}(r:Rn T F s a t b):Rn T G s a t b:=by
 induction r with
 | refl s a=>exact .refl s a
 | step s t u a m b hf k r ih=>exact .step s t u a m b (h _ _ hf) k ih
theorem Rn.trans{F:Nat→Nat→Prop}{s t u:Nat}{a m b:Int}(r:Rn T F s a t m)(r2:Rn T F t m u b):Rn T F s a u b:=by
 induction r with
 | refl s a=>exact r2
 | step s t u a m b hf k r ih=>exact .step _ _ _ _ _ _ hf k (ih r2)
structure In(E:GE)(b c:Nat):Prop where
 fst:∀s,E.fst s→b≤s∧s < c
 aR:∀s,E.aR s→b≤s∧s < c
 dH:∀s t,E.dH s t→(b≤s∧s < c)∧b≤t∧t < c
def tF(E G:GE):GE:=⟨E.bH∧G.bH,fun s=>E.fst s∨(E.bH∧G.fst s),fun s=>(E.aR s∧G.bH)∨G.aR s,fun s t=>E.dH s t∨G.dH s t∨(E.aR s∧G.fst t)⟩
def tZ(E G:GE):GE:=⟨E.bH∨G.bH,fun s=>E.fst s∨G.fst s,fun s=>E.aR s∨G.aR s,fun s t=>E.dH s t∨G.dH s t⟩
def zR(E:GE)(n:Prop):GE:=⟨E.bH∨n,E.fst,E.aR,fun s t=>E.dH s t∨(E.aR s∧E.fst t)⟩
def Cj(E:GE):GE:=⟨True,E.fst,E.aR,E.dH⟩
theorem In.cat{E G:GE}{b c d:Nat}(h:In E b c)(k:In G c d)(hbc:b≤c)(hcd:c≤d):In (tF E G) b d:=by
 refine⟨fun s hs=>?_,fun s hs=>?_,fun s t hs=>?_⟩
 ·rcases hs with hs | ⟨_,hs⟩
  ·have:=h.fst s hs;omega
  ·have:=k.fst s hs;omega
 ·rcases hs with⟨hs,_⟩ | hs
  ·have:=h.aR s hs;omega
  ·have:=k.aR s hs;omega
 ·rcases hs with hs | hs | ⟨h1,h2⟩
  ·have:=h.dH s t hs;omega
  ·have:=k.dH s t hs;omega
  ·have:=h.aR s h1;have:=k.fst t h2;omega
theorem In.alt{E G:GE}{b c d:Nat}(h:In E b c)(k:In G c d)(hbc:b≤c)(hcd:c≤d):In (tZ E G) b d:=by
 refine⟨fun s hs=>?_,fun s hs=>?_,fun s t hs=>?_⟩
 ·rcases hs with hs | hs
  ·have:=h.fst s hs;omega
  ·have:=k.fst s hs;omega
 ·rcases hs with hs | hs
  ·have:=h.aR s hs;omega
  ·have:=k.aR s hs;omega
 ·rcases hs with hs | hs
  ·have:=h.dH s t hs;omega
  ·have:=k.dH s t hs;omega
theorem In.plus{E:GE}{b c:Nat}(h:In E b c)(n:Prop):In (zR E n) b c:=by
 refine⟨h.fst,h.aR,fun s t hs=>?_⟩;rcases hs with hs | ⟨h1,h2⟩
 ·exact h.dH s t hs
 ·exact⟨h.aR s h1,h.fst t h2⟩
theorem Rn.right{E G:GE}{b c d:Nat}(h:In E b c)(k:In G c d){F:Nat→Nat→Prop}(hF:∀s t,F s t→E.dH s t∨G.dH s t∨(E.aR s∧G.fst t)){s t:Nat}{a e:Int}(r:Rn T F s a t e)(hs:c≤s):Rn T G.dH s a t e∧c≤t:=by
 induction r with
 | refl s a=>exact⟨.refl s a,hs⟩
 | step s t u a m e hf kk r ih=>
  rcases hF s t hf with hf | hf | ⟨h1,_⟩
  ·have:=h.dH s t hf;omega
  ·have:=k.dH s t hf
   obtain⟨i1,i2⟩:=ih (by omega);exact⟨.step _ _ _ _ _ _ hf kk i1,i2⟩
  ·have:=h.aR s h1;omega
theorem Rn.left{E G:GE}{b c d:Nat}(h:In E b c)(k:In G c d){F:Nat→Nat→Prop}(hF:∀s t,F s t→E.dH s t∨G.dH s t∨(E.aR s∧G.fst t)){s t:Nat}{a e:Int}(r:Rn T F s a t e)(hs:s < c) :
  (t < c∧Rn T E.dH s a t e)∨∃u m v w,Rn T E.dH s a u m∧E.aR u∧G.fst v∧T v m w∧Rn T G.dH v w t e∧c≤t:=by
 induction r with
 | refl s a=>exact .inl ⟨hs,.refl s a⟩
 | step s t u a m e hf kk r ih=>
  rcases hF s t hf with hf | hf | ⟨h1,h2⟩
  ·have:=h.dH s t hf
   rcases ih (by omega) with⟨i1,i2⟩ | ⟨u',m',v,w,j1,j2,j3,j4,j5,j6⟩
   ·exact .inl ⟨i1,.step _ _ _ _ _ _ hf kk i2⟩
   ·exact .inr ⟨u',m',v,w,.step _ _ _ _ _ _ hf kk j1,j2,j3,j4,j5,j6⟩
  ·have:=k.dH s t hf;omega
  ·have:=k.fst t h2
   obtain⟨i1,i2⟩:=Rn.right h k hF r (by omega);exact .inr ⟨s,a,t,m,.refl s a,h1,h2,kk,i1,i2⟩
theorem Zqg{E G:GE}{b c d:Nat}(h:In E b c)(k:In G c d){a e:Int}:Acc T (tF E G) a e↔∃m,Acc T E a m∧Acc T G m e:=by
 constructor
 ·rintro(⟨⟨h1,h2⟩,rfl⟩ | ⟨s,m,t,hf,hT,hr,hl⟩)
  ·exact⟨a,.inl ⟨h1,rfl⟩,.inl ⟨h2,rfl⟩⟩
  ·rcases hf with hf | ⟨hn,hf⟩
   ·have hs:=h.fst s hf
    rcases Rn.left h k (fun _ _ x=>x) hr (by omega) with⟨i1,i2⟩ | ⟨u,m',v,w,j1,j2,j3,j4,j5,j6⟩
    ·rcases hl with⟨hl,hn⟩ | hl
     ·exact⟨e,.inr ⟨s,m,t,hf,hT,i2,hl⟩,.inl ⟨hn,rfl⟩⟩
     ·have:=k.aR t hl;omega
    ·rcases hl with⟨hl,hn⟩ | hl
     ·have:=h.aR t hl;omega
     ·exact⟨m',.inr ⟨s,m,u,hf,hT,j1,j2⟩,.inr ⟨v,w,t,j3,j4,j5,hl⟩⟩
   ·have hs:=k.fst s hf
    obtain⟨i1,i2⟩:=Rn.right h k (fun _ _ x=>x) hr (by omega);rcases hl with⟨hl,_⟩ | hl
    ·have:=h.aR t hl;omega
    ·exact⟨a,.inl ⟨hn,rfl⟩,.inr ⟨s,m,t,hf,hT,i1,hl⟩⟩
 ·rintro⟨m,(⟨h1,rfl⟩ | ⟨s,m1,t,hf,hT,hr,hl⟩),(⟨h2,rfl⟩ | ⟨s2,m2,t2,hf2,JW,hr2,hl2⟩)⟩
  ·exact .inl ⟨⟨h1,h2⟩,rfl⟩
  ·exact .inr ⟨s2,m2,t2,.inr ⟨h1,hf2⟩,JW,hr2.mono fun _ _ x=>.inr (.inl x),.inr hl2⟩
  ·exact .inr ⟨s,m1,t,.inl hf,hT,hr.mono fun _ _ x=>.inl x,.inl ⟨hl,h2⟩⟩
  ·exact .inr ⟨s,m1,t2,.inl hf,hT,(hr.mono fun _ _ x=>.inl x).trans (.step _ _ _ _ _ _ (.inr (.inr ⟨hl,hf2⟩)) JW (hr2.mono fun _ _ x=>.inr (.inl x))),.inr hl2⟩
theorem Zqf{E G:GE}{b c d:Nat}(h:In E b c)(k:In G c d){a e:Int}:Acc T (tZ E G) a e↔Acc T E a e∨Acc T G a e:=by
 have hF:∀s t,(tZ E G).dH s t→E.dH s t∨G.dH s t∨(E.aR s∧(fun _=>False) t):=fun s t x=>x.elim .inl (fun x=>.inr (.inl x))
 have k':In ⟨G.bH,fun _=>False,G.aR,G.dH⟩ c d:=⟨fun s hs=>hs.elim,k.aR,k.dH⟩;constructor
 ·rintro(⟨h1 | h1,rfl⟩ | ⟨s,m,t,hf,hT,hr,hl⟩)
  ·exact .inl (.inl ⟨h1,rfl⟩)
  ·exact .inr (.inl ⟨h1,rfl⟩)
  ·rcases hf with hf | hf
   ·have hs:=h.fst s hf
    rcases Rn.left (G:=⟨G.bH,fun _=>False,G.aR,G.dH⟩) h k' hF hr (by omega) with⟨i1,i2⟩ | ⟨u,m',v,w,j1,j2,j3,j4,j5,j6⟩
    ·rcases hl with hl | hl
     ·exact .inl (.inr ⟨s,m,t,hf,hT,i2,hl⟩)
     ·have:=k.aR t hl;omega
    ·exact j3.elim
   ·have hs:=k.fst s hf
    obtain⟨i1,i2⟩:=Rn.right (G:=⟨G.bH,fun _=>False,G.aR,G.dH⟩) h k' hF hr (by omega);rcases hl with hl | hl
    ·have:=h.aR t hl;omega
    ·exact .inr (.inr ⟨s,m,t,hf,hT,i1,hl⟩)
 ·rintro((⟨h1,rfl⟩ | ⟨s,m,t,hf,hT,hr,hl⟩) | (⟨h1,rfl⟩ | ⟨s,m,t,hf,hT,hr,hl⟩))
  ·exact .inl ⟨.inl h1,rfl⟩
  ·exact .inr ⟨s,m,t,.inl hf,hT,hr.mono fun _ _ x=>.inl x,.inl hl⟩
  ·exact .inl ⟨.inr h1,rfl⟩
  ·exact .inr ⟨s,m,t,.inr hf,hT,hr.mono fun _ _ x=>.inr x,.inr hl⟩
end
section
variable{T:Nat→Int→Int→Prop}
theorem Acc.mono{E G:GE}(hn:E.bH→G.bH)(h1:∀s,E.fst s→G.fst s)(h2:∀s,E.aR s→G.aR s)(h3:∀s t,E.dH s t→G.dH s t){a e:Int}(h:Acc T E a e):Acc T G a e:=by
 rcases h with⟨h,rfl⟩ | ⟨s,m,t,hf,hT,hr,hl⟩
 ·exact .inl ⟨hn h,rfl⟩
 ·exact .inr ⟨s,m,t,h1 s hf,hT,hr.mono h3,h2 t hl⟩
theorem Zkp{E:GE}{a e:Int}:Acc T (Cj E) a e↔a=e∨Acc T E a e:=by
 constructor
 ·rintro(⟨_,rfl⟩ | h)
  ·exact .inl rfl
  ·exact .inr (.inr h)
 ·rintro(rfl | h)
  ·exact .inl ⟨trivial,rfl⟩
  ·exact Acc.mono (E:=E) (G:=Cj E) (fun _=>trivial) (fun _ x=>x) (fun _ x=>x) (fun _ _ x=>x) h
theorem ZoW{E:GE}{s t:Nat}{m e:Int}(r:Rn T (fun s t=>E.dH s t∨(E.aR s∧E.fst t)) s m t e)(hl:E.aR t):∀{a:Int} {s0:Nat} {m0:Int},E.fst s0→T s0 a m0→Rn T E.dH s0 m0 s m→kS (Acc T E) a e:=by
 induction r with
 | refl s m=>intro a s0 m0 h0 hT hr;exact .one (.inr ⟨s0,m0,s,h0,hT,hr,hl⟩)
 | step s t u m m2 e hf kk r ih=>
  intro a s0 m0 h0 hT hr;rcases hf with hf | ⟨h1,h2⟩
  ·exact ih hl h0 hT (hr.trans (.step _ _ _ _ _ _ hf kk (.refl _ _)))
  ·exact(kS.one (.inr ⟨s0,m0,s,h0,hT,hr,h1⟩)).trans (ih hl h2 kk (.refl _ _))
theorem Znz{E:GE}{n:Prop}{a e:Int}:Acc T (zR E n) a e↔(n∧a=e)∨kS (Acc T E) a e:=by
 constructor
 ·rintro(⟨h | h,rfl⟩ | ⟨s,m,t,hf,hT,hr,hl⟩)
  ·exact .inr (.one (.inl ⟨h,rfl⟩))
  ·exact .inl ⟨h,rfl⟩
  ·exact .inr (ZoW hr hl hf hT (.refl _ _))
 ·rintro(⟨h,rfl⟩ | h)
  ·exact .inl ⟨.inr h,rfl⟩
  ·have up:∀{a e:Int},Acc T E a e→Acc T (zR E n) a e:=fun h=>Acc.mono (E:=E) (G:=zR E n) (fun x=>.inl x) (fun _ x=>x) (fun _ x=>x) (fun _ _ x=>.inl x) h
   induction h with
   | one h=>exact up h
   | more h k ih=>
    rcases ih with⟨_,rfl⟩ | ⟨s,m,t,hf,hT,hr,hl⟩
    ·exact up k
    ·rcases k with⟨_,rfl⟩ | ⟨s2,m2,t2,hf2,JW,hr2,hl2⟩
     ·exact .inr ⟨s,m,t,hf,hT,hr,hl⟩
     ·exact .inr ⟨s,m,t2,hf,hT,hr.trans (.step _ _ _ _ _ _ (.inr ⟨hl,hf2⟩) JW (hr2.mono fun _ _ x=>.inl x)),hl2⟩
end
mutual
def jv:aO→Nat
 | .mk k _ _ ks=>if k=1 then 0 else if k=2 then 1 else jR ks
def jR:List aO→Nat
 | []=>0
 | q::qs=>jv q+jR qs
end
def nS:GE:=⟨False,fun _=>False,fun _=>False,fun _ _=>False⟩
def uh:GE:=⟨True,fun _=>False,fun _=>False,fun _ _=>False⟩
def Gh(b:Nat):GE:=⟨False,fun s=>s=b,fun s=>s=b,fun _ _=>False⟩
mutual
def jY:aO→Nat→GE
 | .mk k _ _ ks,b=>if k=1 then uh else if k=2 then Gh b else if k=3 then vC ks b else if k=4 then wP ks b else ⟨(nM ks k b).bH,(nM ks k b).fst,(nM ks k b).aR,fun s t=>(nM ks k b).dH s t∨mD ks b s t⟩
def vC:List aO→Nat→GE
 | [],_=>uh
 | q::qs,b=>tF (jY q b) (vC qs (b+jv q))
def wP:List aO→Nat→GE
 | [],_=>nS
 | q::qs,b=>tZ (jY q b) (wP qs (b+jv q))
def nM:List aO→Int→Nat→GE
 | [q],k,b=>if k=7 then Cj (jY q b) else if k=5∨k=6 then zR (jY q b) (k≠6) else nS
 | _,_,_=>nS
def mD:List aO→Nat→Nat→Nat→Prop
 | [],_,_,_=>False
 | q::qs,b,s,t=>(jY q b).dH s t∨mD qs (b+jv q) s t
end
mutual
theorem CG:∀(p:aO) (b:Nat),In (jY p b) b (b+jv p)
 | .mk k r g ks,b=>by
  simp only[jY,jv];split
  ·exact⟨fun s hs=>hs.elim,fun s hs=>hs.elim,fun s t hs=>hs.elim⟩
  ·split
   ·exact⟨fun s hs=>by have:s=b:=hs;omega,fun s hs=>by have:s=b:=hs;omega,fun s t hs=>hs.elim⟩
   ·split
    ·exact Yq ks b
    ·split
     ·exact Yr ks b
     ·have h:=Zvz ks k b
      refine⟨h.fst,h.aR,fun s t hs=>?_⟩;rcases hs with hs | hs
      ·exact h.dH s t hs
      ·exact Zvb ks b s t hs
theorem Yq:∀(ks:List aO) (b:Nat),In (vC ks b) b (b+jR ks)
 | [],b=>by
  simp only[vC];exact⟨fun s hs=>hs.elim,fun s hs=>hs.elim,fun s t hs=>hs.elim⟩
 | q::qs,b=>by
  simp only[vC,jR];have:=(CG q b).cat (Yq qs (b+jv q)) (by omega) (by omega);rwa[Nat.add_assoc] at this
theorem Yr:∀(ks:List aO) (b:Nat),In (wP ks b) b (b+jR ks)
 | [],b=>by
  simp only[wP];exact⟨fun s hs=>hs.elim,fun s hs=>hs.elim,fun s t hs=>hs.elim⟩
 | q::qs,b=>by
  simp only[wP,jR];have:=(CG q b).alt (Yr qs (b+jv q)) (by omega) (by omega);rwa[Nat.add_assoc] at this
theorem Zvz:∀(ks:List aO) (k:Int) (b:Nat),In (nM ks k b) b (b+jR ks)
 | [],k,b=>by
  simp only[nM];exact⟨fun s hs=>hs.elim,fun s hs=>hs.elim,fun s t hs=>hs.elim⟩
 | [q],k,b=>by
  have h:=CG q b;simp only[nM,jR,Nat.add_zero];split
  ·exact⟨h.fst,h.aR,h.dH⟩
  ·split
   ·exact h.plus _
   ·exact⟨fun s hs=>hs.elim,fun s hs=>hs.elim,fun s t hs=>hs.elim⟩
 | _::_::_,k,b=>by
  simp only[nM];exact⟨fun s hs=>hs.elim,fun s hs=>hs.elim,fun s t hs=>hs.elim⟩
theorem Zvb:∀(ks:List aO) (b s t:Nat),mD ks b s t→(b≤s∧s < b+jR ks)∧b≤t∧t < b+jR ks
 | [],b,s,t,h=>by simp only[mD] at h
 | q::qs,b,s,t,h=>by
  simp only[mD] at h;simp only[jR];rcases h with h | h
  ·have:=(CG q b).dH s t h;omega
  ·have:=Zvb qs (b+jv q) s t h;omega
end
mutual
def Ho(T:Nat→Int→Int→Prop)(S:List Int→Int→Int→Prop):aO→Nat→Prop
 | .mk k _ g ks,b=>(k=2→∀a e,T b a e↔S g a e)∧(k≠1→k≠2→zi T S ks b)
def zi(T:Nat→Int→Int→Prop)(S:List Int→Int→Int→Prop):List aO→Nat→Prop
 | [],_=>True
 | q::qs,b=>Ho T S q b∧zi T S qs (b+jv q)
end
section
variable{T:Nat→Int→Int→Prop}{S:List Int→Int→Int→Prop}
theorem Zkq{a e:Int}:Acc T uh a e↔a=e:=⟨fun h=>h.elim (fun h=>h.2) (fun⟨_,_,_,h,_⟩=>h.elim),fun h=>.inl ⟨trivial,h⟩⟩
theorem Zsy{a e:Int}:Acc T nS a e↔False:=⟨fun h=>h.elim (fun h=>h.1) (fun⟨_,_,_,h,_⟩=>h.elim),False.elim⟩
theorem Zqi{b:Nat}{a e:Int}:Acc T (Gh b) a e↔T b a e:=by
 constructor
 ·rintro(⟨h,_⟩ | ⟨s,m,t,rfl,hT,hr,rfl⟩)
  ·exact h.elim
  ·cases hr with
   | refl=>exact hT
   | step _ _ _ _ _ _ h=>exact h.elim
 ·intro h
  exact .inr ⟨b,e,b,rfl,h,.refl _ _,rfl⟩
theorem Zf6{r q:Int→Int→Prop}(h:∀a b,r a b↔q a b){a b:Int}:kS r a b↔kS q a b:=by
 have:r=q:=funext fun a=>funext fun b=>propext (h a b)
 rw[this]
mutual
theorem Ms:∀(p:aO) (b:Nat),Ho T S p b→∀a e,Acc T (jY p b) a e↔MR S p a e
 | .mk k r g ks,b,h,a,e=>by
  simp only[Ho] at h;simp only[jY,MR];by_cases h1:k=1
  ·rw[if_pos h1,if_pos h1];exact Zkq
  rw[if_neg h1,if_neg h1];by_cases h2:k=2
  ·rw[if_pos h2,if_pos h2,Zqi];exact h.1 h2 a e
  rw[if_neg h2,if_neg h2];have hL:=h.2 h1 h2;by_cases h3:k=3
  ·rw[if_pos h3,if_pos h3];exact Yb ks b hL a e
  rw[if_neg h3,if_neg h3];by_cases h4:k=4
  ·rw[if_pos h4,if_pos h4];exact Zsx ks b hL a e
  rw[if_neg h4,if_neg h4];exact Zuv ks k b hL a e
theorem Yb:∀(ks:List aO) (b:Nat),zi T S ks b→∀a e,Acc T (vC ks b) a e↔MA S ks a e
 | [],b,h,a,e=>by simp only[vC,MA];exact Zkq
 | q::qs,b,h,a,e=>by
  simp only[zi] at h;simp only[vC,MA];rw[Zqg (CG q b) (Yq qs (b+jv q))];exact⟨fun⟨m,h1,h2⟩=>⟨m,(Ms q b h.1 a m).mp h1,(Yb qs _ h.2 m e).mp h2⟩,fun⟨m,h1,h2⟩=>⟨m,(Ms q b h.1 a m).mpr h1,(Yb qs _ h.2 m e).mpr h2⟩⟩
theorem Zsx:∀(ks:List aO) (b:Nat),zi T S ks b→∀a e,Acc T (wP ks b) a e↔MO S ks a e
 | [],b,h,a,e=>by simp only[wP,MO];exact Zsy
 | q::qs,b,h,a,e=>by
  simp only[zi] at h;simp only[wP,MO];rw[Zqf (CG q b) (Yr qs (b+jv q)),Ms q b h.1 a e,Zsx qs _ h.2 a e]
theorem Zuv:∀(ks:List aO) (k:Int) (b:Nat),zi T S ks b→∀a e,Acc T ⟨(nM ks k b).bH,(nM ks k b).fst,(nM ks k b).aR,fun s t=>(nM ks k b).dH s t∨mD ks b s t⟩ a e↔(if k=7∨k=5∨k=6 then MG S ks k a e else False)
 | [],k,b,h,a,e=>by
  simp only[nM,MG];have:Acc T ⟨nS.bH,nS.fst,nS.aR,fun s t=>nS.dH s t∨mD [] b s t⟩ a e↔False:=⟨fun h=>h.elim (fun h=>h.1) (fun⟨_,_,_,h,_⟩=>h.elim),False.elim⟩;rw[this];split<;>rfl
 | [q],k,b,h,a,e=>by
  simp only[zi] at h;have hq:=Ms q b h.1;have hW:∀s t,mD [q] b s t↔(jY q b).dH s t:=fun s t=>by simp only[mD];exact⟨fun h=>h.elim id False.elim,.inl⟩
  by_cases h7:k=7
  ·have hg:nM [q] k b=Cj (jY q b):=by simp only[nM];rw[if_pos h7]
   rw[if_pos (.inl h7),hg];have e1:(fun s t=>(Cj (jY q b)).dH s t∨mD [q] b s t)=(Cj (jY q b)).dH:=funext fun s=>funext fun t=>propext ⟨fun h=>h.elim id (hW s t).mp,.inl⟩
   rw[e1];show Acc T (Cj (jY q b)) a e↔_
   rw[Zkp,hq a e];simp only[MG];rw[if_pos h7];have:k≠6:=by omega
   exact⟨fun h=>h.elim (fun h=>.inl ⟨this,h⟩) .inr,fun h=>h.elim (fun h=>.inl h.2) .inr⟩
  ·by_cases JR:k=5∨k=6
   ·have hg:nM [q] k b=zR (jY q b) (k≠6):=by simp only[nM];rw[if_neg h7,if_pos JR]
    rw[if_pos (.inr JR),hg];have e1:(fun s t=>(zR (jY q b) (k≠6)).dH s t∨mD [q] b s t)=(zR (jY q b) (k≠6)).dH:=funext fun s=>funext fun t=>propext ⟨fun h=>h.elim id (fun h=>.inl ((hW s t).mp h)),.inl⟩
    rw[e1];show Acc T (zR (jY q b) (k≠6)) a e↔_
    rw[Znz];simp only[MG];rw[if_neg h7,Zf6 hq]
   ·have hg:nM [q] k b=nS:=by simp only[nM];rw[if_neg h7,if_neg JR]
    rw[if_neg (by omega),hg];exact⟨fun h=>h.elim (fun h=>h.1) (fun⟨_,_,_,h,_⟩=>h.elim),False.elim⟩
 | p::q::r,k,b,h,a,e=>by
  simp only[nM,MG];have:Acc T ⟨nS.bH,nS.fst,nS.aR,fun s t=>nS.dH s t∨mD (p::q::r) b s t⟩ a e↔False:=⟨fun h=>h.elim (fun h=>h.1) (fun⟨_,_,_,h,_⟩=>h.elim),False.elim⟩;rw[this];split<;>rfl
end
end
structure Q7(n:Net)(E:GE):Prop where
 R:nT n
 inn:In E 1 n.aB.length
 f0:∀t:Nat,(t:Int)∈n.follow.getD 0 []↔E.fst t
 fs:∀s t:Nat,1≤s→((t:Int)∈n.follow.getD s []↔E.dH s t)
 l0:(0:Int)∈n.last↔E.bH
 ls:∀s:Nat,1≤s→((s:Int)∈n.last↔E.aR s)
def G7(n:Net)(l:List Int)(s:Nat)(a b:Int):Prop:=nO l (n.aB.getD s []) a b
theorem QO{n:Net}{l:List Int}{i q:Nat}(h:i < l.length){m:Int}:G7 n l q i m↔m=(i:Int)+1∧uZ n l[i] q=true:=by
 unfold G7 nO uZ;have hg:l.getD i 0=l[i]:=by rw[List.getD_eq_getElem?_getD,List.getElem?_eq_getElem h];rfl
 rw[Int.toNat_natCast,Int.toNat_natCast,hg];constructor
 ·rintro⟨h1,h2,h3,h4⟩;exact⟨h1,by simpa using h4⟩
 ·rintro⟨h1,h2⟩;exact⟨h1,by omega,by omega,by simpa using h2⟩
theorem Qj{n:Net}{E:GE}(h:Q7 n E){p:Nat}{q:Int}{s:Int}(hp:p < n.aB.length):FU n p q s↔∃t:Nat,q=t∧(if p=0 then E.fst t else E.dH p t)∧uZ n s t=true:=by
 unfold FU;rw[Int.toNat_natCast];constructor
 ·rintro⟨h1,h2,h3,h4⟩
  have hq:0≤q:=by
   rw[Zc6 (by omega)] at h3;have:=(h.R.follow p (by omega)).2 q h3;omega
  have e:((q.toNat:Nat):Int)=q:=by omega
  refine⟨q.toNat,e.symm,?_,by rw[e];exact h4⟩;rw[←e] at h3;split
  ·rename_i hp0;subst hp0;exact(h.f0 _).mp h3
  ·exact(h.fs p _ (by omega)).mp h3
 ·rintro⟨t,rfl,h1,h2⟩
  refine⟨by omega,by rw[h.R.len];omega,?_,h2⟩;split at h1
  ·rename_i hp0;subst hp0;exact(h.f0 _).mpr h1
  ·exact(h.fs p _ (by omega)).mpr h1
theorem Qg{n:Net}{E:GE}(h:Q7 n E){l:List Int}:∀(k i t:Nat),i+k=l.length→1≤t→t < n.aB.length→(Jz n t (l.drop i)↔∃u,Rn (G7 n l) E.dH t i u l.length∧E.aR u)
 | 0,i,t,hk,h1,h2=>by
  rw[List.drop_eq_nil_of_le (by omega)];have hi:i=l.length:=by omega
  subst hi;show(t:Int)∈n.last↔_
  rw[h.ls t h1];constructor
  ·intro hl;exact⟨t,.refl _ _,hl⟩
  ·rintro⟨u,hr,hl⟩
   cases hr with
   | refl=>exact hl
   | step _ q _ _ m _ hf hT hr=>
    obtain⟨_,_,h4,_⟩:=hT;omega
 | k+1,i,t,hk,h1,h2=>by
  have hi:i < l.length:=by omega
  rw[List.drop_eq_getElem_cons hi];show(∃q,FU n t q l[i]∧Jz n q (l.drop (i+1)))↔_
  constructor
  ·rintro⟨q,he,ha⟩
   obtain⟨q',rfl,hf,hb⟩:=(Qj h h2).mp he;rw[if_neg (by omega)] at hf;obtain⟨_,hq1,hq2⟩:=h.inn.dH t q' hf;obtain⟨u,hr,hl⟩:=(Qg h k (i+1) q' (by omega) hq1 hq2).mp ha;exact⟨u,.step _ _ _ _ _ _ hf ((QO hi).mpr ⟨rfl,hb⟩) (by rw[Int.natCast_add,Int.natCast_one] at hr;exact hr),hl⟩
  ·rintro⟨u,hr,hl⟩
   generalize hL:(l.length:Int)=L at hr;cases hr with
   | refl=>omega
   | step _ q' _ _ m _ hf hT hr=>
    subst hL;obtain⟨rfl,hb⟩:=(QO hi).mp hT;obtain⟨_,hq1,hq2⟩:=h.inn.dH t q' hf;refine⟨q',(Qj h h2).mpr ⟨q',rfl,by rw[if_neg (by omega)];exact hf,hb⟩,(Qg h k (i+1) q' (by omega) hq1 hq2).mpr ⟨u,?_,hl⟩⟩;rw[Int.natCast_add,Int.natCast_one];exact hr
theorem Zqh{n:Net}{E:GE}(h:Q7 n E)(l:List Int):yO n l=true↔Acc (G7 n l) E 0 l.length:=by
 have hR:qQ n=true:=(BG n).mpr h.R;have hn1:=h.R.n1;rw[Znw];simp only[hR,true_and];cases l with
 | nil=>
  show(0:Int)∈n.last↔_
  rw[h.l0];constructor
  ·intro hn;exact .inl ⟨hn,rfl⟩
  ·rintro(⟨hn,_⟩ | ⟨s,m,t,hf,hT,hr,hl⟩)
   ·exact hn
   ·obtain⟨_,_,h4,_⟩:=hT
    simp at h4
 | cons s l=>
  have hi:0 < (s::l).length:=by simp
  show(∃q,FU n 0 q s∧Jz n q l)↔_
  constructor
  ·rintro⟨q,he,ha⟩
   obtain⟨q',rfl,hf,hb⟩:=(Qj h (p:=0) (by omega)).mp he;rw[if_pos rfl] at hf;obtain⟨hq1,hq2⟩:=h.inn.fst q' hf;obtain⟨u,hr,hl⟩:=(Qg h (l:=s::l) l.length 1 q' (by simp;omega) hq1 hq2).mp ha;exact .inr ⟨q',1,u,hf,(QO (i:=0) hi).mpr ⟨rfl,hb⟩,hr,hl⟩
  ·rintro(⟨_,hn⟩ | ⟨q',m,u,hf,hT,hr,hl⟩)
   ·simp at hn;omega
   ·obtain⟨rfl,hb⟩:=(QO (i:=0) hi).mp hT
    obtain⟨hq1,hq2⟩:=h.inn.fst q' hf;refine⟨q',(Qj h (p:=0) (by omega)).mpr ⟨q',rfl,by rw[if_pos rfl];exact hf,hb⟩,?_⟩;exact(Qg h (l:=s::l) l.length 1 q' (by simp;omega) hq1 hq2).mpr ⟨u,hr,hl⟩
structure Gs where
 aB:List (List Int)
 fo:List (List Int)
structure Ed where
 bH:Bool
 fst:List Int
 aR:List Int
def jG(fo:List (List Int)):List Int→List Int→List (List Int)
 | [],_=>fo
 | s::ss,be=>jG (fo.set s.toNat (je (fo.getD s.toNat []++be))) ss be
def ku:List Ed→Ed→Gs→Ed×Gs
 | [],all,st=>(all,st)
 | e::es,all,st=>ku es ⟨all.bH && e.bH,if all.bH=true then je (all.fst++e.fst) else all.fst,je ((if e.bH=true then all.aR else [])++e.aR)⟩ ⟨st.aB,jG st.fo all.aR e.fst⟩
def tQ:List Ed→Ed→Ed
 | [],all=>all
 | e::es,all=>tQ es ⟨all.bH || e.bH,je (all.fst++e.fst),je (all.aR++e.aR)⟩
def uK:List Ed→Int→Gs→Ed×Gs
 | [e],k,st=>if 5≤k∧k≤7 then (⟨e.bH || decide (k≠6),e.fst,e.aR⟩,if k=7 then st else ⟨st.aB,jG st.fo e.aR e.fst⟩) else (⟨false,[],[]⟩,st)
 | _,_,st=>(⟨false,[],[]⟩,st)
def zQ(sg:Int)(g:List Int):List Int:=je (g.filter fun n=>decide (0≤n) && decide (n < sg))
mutual
def eP(sg:Int):aO→Gs→Ed×Gs
 | .mk k _ g ks,st=>if k=1 then (⟨true,[],[]⟩,st) else if k=2 then (⟨false,[(st.aB.length:Int)],[(st.aB.length:Int)]⟩,⟨st.aB++[zQ sg g],st.fo++[[]]⟩)
  else if k=3 then ku (dG sg ks st).1 ⟨true,[],[]⟩ (dG sg ks st).2 else if k=4 then (tQ (dG sg ks st).1 ⟨false,[],[]⟩,(dG sg ks st).2) else uK (dG sg ks st).1 k (dG sg ks st).2
def dG(sg:Int):List aO→Gs→List Ed×Gs
 | [],st=>([],st)
 | q::qs,st=>((eP sg q st).1::(dG sg qs (eP sg q st).2).1,(dG sg qs (eP sg q st).2).2)
end
def ou(fo:List (List Int))(s t:Nat):Prop:=(t:Int)∈fo.getD s []
def Up(l:List Int):Prop:=l.Pairwise (· < ·)∧∀x∈l,0≤x
structure uJ(e:Ed)(E:GE):Prop where
 bH:e.bH=true↔E.bH
 fst:∀t:Nat,(t:Int)∈e.fst↔E.fst t
 aR:∀t:Nat,(t:Int)∈e.aR↔E.aR t
 uf:Up e.fst
 ul:Up e.aR
theorem FP:Up []:=⟨by simp,by simp⟩
theorem XV(n:Nat):Up [(n:Int)]:=⟨by simp,fun x hx=>by simp at hx;omega⟩
theorem Ja{a b:List Int}(ha:∀x∈a,0≤x)(hb:∀x∈b,0≤x):Up (je (a++b)):=
 ⟨Fu _,fun x hx=>(List.mem_append.mp (vS.mp hx)).elim (ha x) (hb x)⟩
theorem Du:∀(ss:List Int) (fo:List (List Int)) (be:List Int),(jG fo ss be).length=fo.length
 | [],fo,be=>rfl
 | s::ss,fo,be=>by rw[jG,Du ss];simp
theorem WM:∀(ss:List Int) (fo:List (List Int)) (be:List Int),(∀x∈ss,0≤x)→∀s t:Nat,ou (jG fo ss be) s t↔ou fo s t∨((s:Int)∈ss∧s < fo.length∧(t:Int)∈be)
 | [],fo,be,_,s,t=>by simp[jG]
 | x::ss,fo,be,h,s,t=>by
  have h0:=h x (by simp);rw[jG,WM ss _ be (fun y hy=>h y (by simp[hy])) s t,List.length_set]
  have key:ou (fo.set x.toNat (je (fo.getD x.toNat []++be))) s t↔ou fo s t∨(x=s∧s < fo.length∧(t:Int)∈be):=by
   unfold ou;rw[List.getD_eq_getElem?_getD,List.getElem?_set];by_cases e:x.toNat=s
   ·rw[if_pos e]
    have e2:x=s:=by omega
    by_cases hl:s < fo.length
    ·rw[if_pos (by omega),Option.getD_some,vS,List.mem_append,e]
     exact⟨fun h=>h.elim .inl (fun h=>.inr ⟨e2,hl,h⟩),fun h=>h.elim .inl (fun h=>.inr h.2.2)⟩
    ·rw[if_neg (by omega),Option.getD_none]
     constructor
     ·intro h;simp at h
     ·rintro(h | ⟨_,h,_⟩)
      ·rw[List.getD_eq_getElem?_getD,List.getElem?_eq_none (by omega)] at h;exact h
      ·omega
   ·rw[if_neg e,←List.getD_eq_getElem?_getD]
    exact⟨.inl,fun h=>h.elim id (fun h=>by omega)⟩
  rw[key];simp only[List.mem_cons];constructor
  ·rintro((h | ⟨h1,h2,h3⟩) | ⟨h1,h2,h3⟩)
   ·exact .inl h
   ·exact .inr ⟨.inl h1.symm,h2,h3⟩
   ·exact .inr ⟨.inr h1,h2,h3⟩
  ·rintro(h | ⟨h1 | h1,h2,h3⟩)
   ·exact .inl (.inl h)
   ·exact .inl (.inr ⟨h1.symm,h2,h3⟩)
   ·exact .inr ⟨h1,h2,h3⟩
theorem Xc:∀(ss:List Int) (fo:List (List Int)) (be:List Int),(∀r∈fo,Up r)→(∀x∈be,0≤x)→∀r∈jG fo ss be,Up r
 | [],fo,be,h,_=>h
 | x::ss,fo,be,h,hb=>by
  refine Xc ss _ be (fun r hr=>?_) hb;rcases List.mem_or_eq_of_mem_set hr with hr | rfl
  ·exact h r hr
  ·refine Ja (fun y hy=>?_) hb
   rw[List.getD_eq_getElem?_getD] at hy;cases hg:fo[x.toNat]? with
   | none=>rw[hg] at hy;simp at hy
   | some r=>rw[hg] at hy;exact(h r (List.mem_of_getElem? hg)).2 y hy
def FH:List aO→Nat→Nat→Nat→Prop
 | [],_,_,_=>False
 | q::qs,b,s,t=>((jY q b).aR s∧(vC qs (b+jv q)).fst t)∨FH qs (b+jv q) s t
theorem Zlx:∀(ks:List aO) (b s t:Nat),(vC ks b).dH s t↔mD ks b s t∨FH ks b s t
 | [],b,s,t=>by simp only[vC,mD,FH,uh];simp
 | q::qs,b,s,t=>by
  simp only[vC,mD,FH,tF];rw[Zlx qs];constructor
  ·rintro(h | (h | h) | h)
   ·exact .inl (.inl h)
   ·exact .inl (.inr h)
   ·exact .inr (.inr h)
   ·exact .inr (.inl h)
  ·rintro((h | h) | (h | h))
   ·exact .inl h
   ·exact .inr (.inl (.inl h))
   ·exact .inr (.inr h)
   ·exact .inr (.inl (.inr h))
theorem Zly:∀(ks:List aO) (b s t:Nat),(wP ks b).dH s t↔mD ks b s t
 | [],b,s,t=>by simp only[wP,mD,nS]
 | q::qs,b,s,t=>by
  simp only[wP,mD,tZ];rw[Zly qs]
def vY:List Ed→List aO→Nat→Prop
 | [],[],_=>True
 | e::es,q::qs,b=>uJ e (jY q b)∧vY es qs (b+jv q)
 | _,_,_=>False
theorem ZsU{e f:Ed}{E G:GE}(h:uJ e E)(k:uJ f G):uJ ⟨e.bH && f.bH,if e.bH=true then je (e.fst++f.fst) else e.fst,je ((if f.bH=true then e.aR else [])++f.aR)⟩ (tF E G):=by
 refine⟨?_,fun t=>?_,fun t=>?_,?_,?_⟩
 ·simp only[Bool.and_eq_true,h.bH,k.bH,tF]
 ·simp only[tF]
  have h1:=h.fst t;have h2:=k.fst t;have h3:=h.bH;cases hn:e.bH with
  | true=>
   rw[hn] at h3;have:=h3.mp rfl;simp only[if_true,vS,List.mem_append,h1,h2];exact⟨fun x=>x.elim .inl (fun x=>.inr ⟨this,x⟩),fun x=>x.elim .inl (fun x=>.inr x.2)⟩
  | false=>
   rw[hn] at h3;have:¬E.bH:=fun x=>by have:=h3.mpr x;cases this
   simp only[Bool.false_eq_true,if_false,h1];exact⟨.inl,fun x=>x.elim id (fun x=>(this x.1).elim)⟩
 ·simp only[tF,vS,List.mem_append]
  have h1:=h.aR t;have h2:=k.aR t;have h3:=k.bH;cases hn:f.bH with
  | true=>
   rw[hn] at h3;have:=h3.mp rfl;simp only[if_true,h1,h2];exact⟨fun x=>x.elim (fun x=>.inl ⟨x,this⟩) .inr,fun x=>x.elim (fun x=>.inl x.1) .inr⟩
  | false=>
   rw[hn] at h3;have:¬G.bH:=fun x=>by have:=h3.mpr x;cases this
   simp only[Bool.false_eq_true,if_false,List.not_mem_nil,false_or,h2];exact⟨.inr,fun x=>x.elim (fun x=>(this x.2).elim) id⟩
 ·simp only
  split
  ·exact Ja h.uf.2 k.uf.2
  ·exact h.uf
 ·refine Ja (fun x hx=>?_) k.ul.2
  split at hx
  ·exact h.ul.2 x hx
  ·simp at hx
theorem ZsT{e f:Ed}{E G:GE}(h:uJ e E)(k:uJ f G):uJ ⟨e.bH || f.bH,je (e.fst++f.fst),je (e.aR++f.aR)⟩ (tZ E G):=by
 refine⟨?_,fun t=>?_,fun t=>?_,Ja h.uf.2 k.uf.2,Ja h.ul.2 k.ul.2⟩
 ·simp only[Bool.or_eq_true,h.bH,k.bH,tZ]
 ·simp only[vS,List.mem_append,h.fst,k.fst,tZ]
 ·simp only[vS,List.mem_append,h.aR,k.aR,tZ]
theorem IL{e:Ed}{E G:GE}(h:uJ e E)(hn:E.bH↔G.bH)(h1:∀t,E.fst t↔G.fst t)(h2:∀t,E.aR t↔G.aR t):uJ e G:=
 ⟨h.bH.trans hn,fun t=>(h.fst t).trans (h1 t),fun t=>(h.aR t).trans (h2 t),h.uf,h.ul⟩
structure yN(st:Gs):Prop where
 len:st.fo.length=st.aB.length
 up:∀r∈st.fo,Up r
theorem P5:∀(es:List Ed) (all:Ed) (st:Gs),(ku es all st).2.aB=st.aB∧(ku es all st).2.fo.length=st.fo.length
 | [],all,st=>⟨rfl,rfl⟩
 | e::es,all,st=>by
  obtain⟨h1,h2⟩:=P5 es ⟨all.bH && e.bH,if all.bH=true then je (all.fst++e.fst) else all.fst,je ((if e.bH=true then all.aR else [])++e.aR)⟩ ⟨st.aB,jG st.fo all.aR e.fst⟩;rw[ku];exact⟨h1,h2.trans (Du _ _ _)⟩
theorem Zic:∀(es:List Ed) (ks:List aO) (b:Nat) (all:Ed) (A:GE) (st:Gs),vY es ks b→uJ all A→yN st→b+jR ks≤st.fo.length→(∀s,A.aR s→s < st.fo.length)→
  uJ (ku es all st).1 (tF A (vC ks b))∧(∀r∈(ku es all st).2.fo,Up r)∧∀s t,ou (ku es all st).2.fo s t↔ou st.fo s t∨FH ks b s t∨(A.aR s∧(vC ks b).fst t)
 | [],[],b,all,A,st,_,hA,hst,_,_=>by
  simp only[ku,vC,FH];refine⟨IL hA ?_ (fun t=>?_) (fun t=>?_),hst.up,fun s t=>?_⟩
  ·simp[tF,uh]
  ·simp[tF,uh]
  ·simp[tF,uh]
  ·simp[uh]
 | [],_::_,_,_,_,_,h,_,_,_,_=>by simp[vY] at h
 | _::_,[],_,_,_,_,h,_,_,_,_=>by simp[vY] at h
 | e::es,q::qs,b,all,A,st,h,hA,hst,hl,hlt=>by
  simp only[vY] at h;simp only[jR] at hl;have hE:=CG q b;have hc:=ZsU hA h.1;have hst':yN ⟨st.aB,jG st.fo all.aR e.fst⟩:=⟨(Du _ _ _).trans hst.len,Xc _ _ _ hst.up h.1.uf.2⟩
  obtain⟨i1,i2,i3⟩:=Zic es qs (b+jv q) ⟨all.bH && e.bH,if all.bH=true then je (all.fst++e.fst) else all.fst,je ((if e.bH=true then all.aR else [])++e.aR)⟩ (tF A (jY q b)) ⟨st.aB,jG st.fo all.aR e.fst⟩ h.2 hc hst' (by rw[Du];omega) (fun s hs=>by
   rw[Du];rcases hs with⟨hs,_⟩ | hs
   ·exact hlt s hs
   ·have:=hE.aR s hs;omega)
  simp only[ku,vC,FH];refine⟨IL i1 ?_ (fun t=>?_) (fun t=>?_),i2,fun s t=>?_⟩
  ·simp only[tF,and_assoc]
  ·simp only[tF]
   constructor
   ·rintro((h | ⟨h1,h2⟩) | ⟨⟨h1,h2⟩,h3⟩)
    ·exact .inl h
    ·exact .inr ⟨h1,.inl h2⟩
    ·exact .inr ⟨h1,.inr ⟨h2,h3⟩⟩
   ·rintro(h | ⟨h1,h2 | ⟨h2,h3⟩⟩)
    ·exact .inl (.inl h)
    ·exact .inl (.inr ⟨h1,h2⟩)
    ·exact .inr ⟨⟨h1,h2⟩,h3⟩
  ·simp only[tF]
   constructor
   ·rintro(⟨⟨h1,h2⟩ | h1,h3⟩ | h)
    ·exact .inl ⟨h1,h2,h3⟩
    ·exact .inr (.inl ⟨h1,h3⟩)
    ·exact .inr (.inr h)
   ·rintro(⟨h1,h2,h3⟩ | ⟨h1,h3⟩ | h)
    ·exact .inl ⟨.inl ⟨h1,h2⟩,h3⟩
    ·exact .inl ⟨.inr h1,h3⟩
    ·exact .inr h
  ·rw[i3,WM _ _ _ hA.ul.2]
   have e1:=hA.aR s;have e2:=h.1.fst t;rw[e1,e2];simp only[tF];constructor
   ·rintro((h | ⟨h1,h2,h3⟩) | h | ⟨⟨h1,h2⟩ | h1,h3⟩)
    ·exact .inl h
    ·exact .inr (.inr ⟨h1,.inl h3⟩)
    ·exact .inr (.inl (.inr h))
    ·exact .inr (.inr ⟨h1,.inr ⟨h2,h3⟩⟩)
    ·exact .inr (.inl (.inl ⟨h1,h3⟩))
   ·rintro(h | (⟨h1,h3⟩ | h) | ⟨h1,h2 | ⟨h2,h3⟩⟩)
    ·exact .inl (.inl h)
    ·exact .inr (.inr ⟨.inr h1,h3⟩)
    ·exact .inr (.inl h)
    ·exact .inl (.inr ⟨h1,hlt s h1,h2⟩)
    ·exact .inr (.inr ⟨.inl ⟨h1,h2⟩,h3⟩)
theorem Zdj:∀(es:List Ed) (ks:List aO) (b:Nat) (all:Ed) (A:GE),vY es ks b→uJ all A→uJ (tQ es all) (tZ A (wP ks b))
 | [],[],b,all,A,_,hA=>by
  simp only[tQ,wP];exact IL hA (by simp[tZ,nS]) (fun t=>by simp[tZ,nS]) (fun t=>by simp[tZ,nS])
 | [],_::_,_,_,_,h,_=>by simp[vY] at h
 | _::_,[],_,_,_,h,_=>by simp[vY] at h
 | e::es,q::qs,b,all,A,h,hA=>by
  simp only[vY] at h;simp only[tQ,wP];exact IL (Zdj es qs (b+jv q) _ _ h.2 (ZsT hA h.1)) (by simp only[tZ,or_assoc]) (fun t=>by simp only[tZ,or_assoc]) (fun t=>by simp only[tZ,or_assoc])
mutual
def qV(sg:Int):aO→List (List Int)
 | .mk k _ g ks=>if k=1 then [] else if k=2 then [zQ sg g] else tK sg ks
def tK(sg:Int):List aO→List (List Int)
 | []=>[]
 | q::qs=>qV sg q++tK sg qs
end
structure Zsi(sg:Int)(p:aO)(st:Gs)(r:Ed×Gs):Prop where
 aB:r.2.aB=st.aB++qV sg p
 len:(qV sg p).length=jv p
 ok:yN r.2
 ed:uJ r.1 (jY p st.aB.length)
 fo:∀s t,ou r.2.fo s t↔ou st.fo s t∨(jY p st.aB.length).dH s t
structure Zsg(sg:Int)(ks:List aO)(st:Gs)(r:List Ed×Gs):Prop where
 aB:r.2.aB=st.aB++tK sg ks
 len:(tK sg ks).length=jR ks
 ok:yN r.2
 Sz:vY r.1 ks st.aB.length
 fo:∀s t,ou r.2.fo s t↔ou st.fo s t∨mD ks st.aB.length s t
theorem Zpz:uJ ⟨true,[],[]⟩ uh:=⟨by simp[uh],by simp[uh],by simp[uh],FP,FP⟩
theorem ZsV:uJ ⟨false,[],[]⟩ nS:=⟨by simp[nS],by simp[nS],by simp[nS],FP,FP⟩
theorem Zfq:∀(ss:List Int) (fo:List (List Int)) (be:List Int) (s t:Nat),ou fo s t→ou (jG fo ss be) s t
 | [],fo,be,s,t,h=>h
 | x::ss,fo,be,s,t,h=>by
  refine Zfq ss _ be s t ?_;unfold ou at h ⊢;rw[List.getD_eq_getElem?_getD,List.getElem?_set];by_cases e:x.toNat=s
  ·rw[if_pos e]
   by_cases hl:s < fo.length
   ·rw[if_pos (by omega),Option.getD_some,vS,List.mem_append,e]
    exact .inl h
   ·rw[List.getD_eq_getElem?_getD,List.getElem?_eq_none (by omega)] at h
    simp at h
  ·rw[if_neg e,←List.getD_eq_getElem?_getD];exact h
theorem ZlD(es:List Ed)(k:Int)(st:Gs)(s t:Nat)(h:ou st.fo s t):ou (uK es k st).2.fo s t:=by
 match es with
 | []=>exact h
 | [e]=>
  simp only[uK];split
  ·split
   ·exact h
   ·exact Zfq _ _ _ s t h
  ·exact h
 | _::_::_=>exact h
theorem ZqY{es:List Ed}{ks:List aO}{k:Int}{b:Nat}{st:Gs}(h:vY es ks b)(hst:yN st)(hl:b+jR ks≤st.fo.length) :
  (uK es k st).2.aB=st.aB∧yN (uK es k st).2∧uJ (uK es k st).1 (nM ks k b)∧∀s t,(ou st.fo s t→mD ks b s t→True)→(ou (uK es k st).2.fo s t∨mD ks b s t↔ou st.fo s t∨(nM ks k b).dH s t∨mD ks b s t):=by
 have no:∀(st:Gs),yN st→st.aB=st.aB∧yN st∧uJ ⟨false,[],[]⟩ nS∧∀s t,(ou st.fo s t→mD ks b s t→True)→(ou st.fo s t∨mD ks b s t↔ou st.fo s t∨nS.dH s t∨mD ks b s t):=fun st h=>
  ⟨rfl,h,ZsV,fun s t _=>by simp[nS]⟩
 match es,ks,h with
 | [],[],_=>simp only[uK,nM];exact⟨trivial,(no st hst).2⟩
 | [e],[q],h=>
  simp only[vY,and_true] at h;simp only[uK,nM];by_cases h7:k=7
  ·subst h7
   rw[if_pos (by omega),if_pos rfl,if_pos rfl];refine⟨rfl,hst,⟨by simp[Cj],h.fst,h.aR,h.uf,h.ul⟩,fun s t _=>?_⟩;simp only[Cj,mD,or_false];constructor
   ·rintro(h | h)
    ·exact .inl h
    ·exact .inr (.inl h)
   ·rintro(h | h | h)
    ·exact .inl h
    ·exact .inr h
    ·exact .inr h
  ·by_cases JR:k=5∨k=6
   ·rw[if_pos (by omega),if_neg h7,if_neg h7,if_pos JR]
    simp only[jR,Nat.add_zero] at hl;refine⟨rfl,⟨(Du _ _ _).trans hst.len,Xc _ _ _ hst.up h.uf.2⟩,⟨?_,h.fst,h.aR,h.uf,h.ul⟩,fun s t _=>?_⟩
    ·simp only[zR,Bool.or_eq_true,h.bH,decide_eq_true_eq]
    ·rw[WM _ _ _ h.ul.2,h.aR,h.fst]
     simp only[zR,mD,or_false];constructor
     ·rintro((h1 | ⟨h1,h2,h3⟩) | h1)
      ·exact .inl h1
      ·exact .inr (.inl (.inr ⟨h1,h3⟩))
      ·exact .inr (.inr h1)
     ·rintro(h1 | (h1 | ⟨h1,h3⟩) | h1)
      ·exact .inl (.inl h1)
      ·exact .inr h1
      ·have:=(CG q b).aR s h1
       exact .inl (.inr ⟨h1,by omega,h3⟩)
      ·exact .inr h1
   ·rw[if_neg (by omega),if_neg h7,if_neg JR]
    exact no st hst
 | _::_::_,_::_::_,_=>simp only[uK,nM];exact⟨trivial,(no st hst).2⟩
 | [],_::_,h=>simp[vY] at h
 | _::_,[],h=>simp[vY] at h
 | [_],_::_::_,h=>simp[vY] at h
 | _::_::_,[_],h=>simp[vY] at h
mutual
theorem Qm(sg:Int):∀(p:aO) (st:Gs),yN st→Zsi sg p st (eP sg p st)
 | .mk k r g ks,st,h=>by
  simp only[eP];by_cases h1:k=1
  ·have hp:jY (.mk k r g ks) st.aB.length=uh:=by simp only[jY];rw[if_pos h1]
   rw[if_pos h1];refine⟨by simp[qV,h1],by simp[qV,jv,h1],h,by rw[hp];exact Zpz,fun s t=>by rw[hp];simp[uh]⟩
  rw[if_neg h1];by_cases h2:k=2
  ·have hp:jY (.mk k r g ks) st.aB.length=Gh st.aB.length:=by simp only[jY];rw[if_neg h1,if_pos h2]
   rw[if_pos h2];refine⟨by simp[qV,h2],by simp[qV,jv,h2],⟨by simp[h.len],fun r hr=>?_⟩,?_,fun s t=>?_⟩
   ·rcases List.mem_append.mp hr with hr | hr
    ·exact h.up r hr
    ·rw[List.mem_singleton] at hr;subst hr;exact FP
   ·rw[hp]
    exact⟨by simp[Gh],fun t=>by simp[Gh];omega,fun t=>by simp[Gh];omega,XV _,XV _⟩
   ·rw[hp]
    simp only[Gh,or_false];unfold ou;rw[List.getD_eq_getElem?_getD,List.getD_eq_getElem?_getD];by_cases hs:s < st.fo.length
    ·rw[List.getElem?_append_left hs]
    ·rw[List.getElem?_eq_none (l:=st.fo) (by omega),List.getElem?_append_right (by omega)]
     by_cases he:s - st.fo.length=0
     ·rw[he];simp
     ·rw[List.getElem?_eq_none (by simp;omega)]
  rw[if_neg h2];have he:=Zl9 sg ks st h;have hlv:qV sg (.mk k r g ks)=tK sg ks:=by simp only[qV];rw[if_neg h1,if_neg h2]
  have hcn:jv (.mk k r g ks)=jR ks:=by simp only[jv];rw[if_neg h1,if_neg h2]
  have hlen:st.aB.length+jR ks≤(dG sg ks st).2.fo.length:=by
   rw[he.ok.len,he.aB,List.length_append,he.len];exact Nat.le_refl _
  by_cases h3:k=3
  ·have hp:jY (.mk k r g ks) st.aB.length=vC ks st.aB.length:=by simp only[jY];rw[if_neg h1,if_neg h2,if_pos h3]
   rw[if_pos h3];obtain⟨j1,j2⟩:=P5 (dG sg ks st).1 ⟨true,[],[]⟩ (dG sg ks st).2;obtain⟨i1,i2,i3⟩:=Zic (dG sg ks st).1 ks st.aB.length ⟨true,[],[]⟩ uh (dG sg ks st).2 he.Sz Zpz he.ok hlen (fun s hs=>hs.elim);refine⟨by rw[j1,he.aB,hlv],by rw[hlv,hcn];exact he.len,⟨by rw[j2,j1];exact he.ok.len,i2⟩,?_,fun s t=>?_⟩
   ·rw[hp]
    exact IL i1 (by simp[tF,uh]) (fun t=>by simp[tF,uh]) (fun t=>by simp[tF,uh])
   ·rw[i3,he.fo,hp,Zlx]
    simp only[uh,false_and,or_false,or_assoc]
  rw[if_neg h3];by_cases h4:k=4
  ·have hp:jY (.mk k r g ks) st.aB.length=wP ks st.aB.length:=by simp only[jY];rw[if_neg h1,if_neg h2,if_neg h3,if_pos h4]
   rw[if_pos h4];refine⟨by rw[he.aB,hlv],by rw[hlv,hcn];exact he.len,he.ok,?_,fun s t=>?_⟩
   ·rw[hp]
    exact IL (Zdj _ ks st.aB.length _ nS he.Sz ZsV) (by simp[tZ,nS]) (fun t=>by simp[tZ,nS]) (fun t=>by simp[tZ,nS])
   ·rw[he.fo,hp,Zly]
  rw[if_neg h4]
  have hp:jY (.mk k r g ks) st.aB.length=⟨(nM ks k st.aB.length).bH,(nM ks k st.aB.length).fst,(nM ks k st.aB.length).aR,fun s t=>(nM ks k st.aB.length).dH s t∨mD ks st.aB.length s t⟩:=by
   simp only[jY];rw[if_neg h1,if_neg h2,if_neg h3,if_neg h4]
  obtain⟨o1,o2,o3,o4⟩:=ZqY (k:=k) he.Sz he.ok hlen;refine⟨by rw[o1,he.aB,hlv],by rw[hlv,hcn];exact he.len,o2,?_,fun s t=>?_⟩
  ·rw[hp]
   exact⟨o3.bH,o3.fst,o3.aR,o3.uf,o3.ul⟩
  ·rw[hp]
   have h5:=o4 s t (fun _ _=>trivial);have h6:=he.fo s t;have h7:mD ks st.aB.length s t→ou (uK (dG sg ks st).1 k (dG sg ks st).2).2.fo s t:=fun hw=>ZlD _ k _ s t (h6.mpr (.inr hw))
   simp only;constructor
   ·intro hx
    rcases h5.mp (.inl hx) with hx | hx | hx
    ·rcases h6.mp hx with hx | hx
     ·exact .inl hx
     ·exact .inr (.inr hx)
    ·exact .inr (.inl hx)
    ·exact .inr (.inr hx)
   ·rintro(hx | hx | hx)
    ·exact(h5.mpr (.inl (h6.mpr (.inl hx)))).elim id h7
    ·exact(h5.mpr (.inr (.inl hx))).elim id h7
    ·exact h7 hx
theorem Zl9(sg:Int):∀(ks:List aO) (st:Gs),yN st→Zsg sg ks st (dG sg ks st)
 | [],st,h=>by
  simp only[dG];exact⟨by simp[tK],rfl,h,trivial,fun s t=>by simp only[mD,or_false]⟩
 | q::qs,st,h=>by
  simp only[dG];have f:=Qm sg q st h;have e:=Zl9 sg qs (eP sg q st).2 f.ok;have hb:(eP sg q st).2.aB.length=st.aB.length+jv q:=by rw[f.aB,List.length_append,f.len]
  refine⟨by rw[e.aB,f.aB];simp[tK],by simp[tK,jR,f.len,e.len],e.ok,⟨f.ed,?_⟩,fun s t=>?_⟩
  ·have:=e.Sz
   rwa[hb] at this
  ·simp only
   rw[e.fo,f.fo,hb];simp only[mD,or_assoc]
end
theorem ZqI{r s:Int→Int→Prop}{f:Int→Int}{lo hi:Int}(hle:∀a b,r a b→a≤b)(h:∀a b,lo≤a→b≤hi→r a b→s (f a) (f b)){a b:Int}(ha:lo≤a)(k:kS r a b):b≤hi→kS s (f a) (f b):=by
 induction k with
 | one k=>intro hb;exact .one (h _ _ ha hb k)
 | more k1 k2 ih=>
  intro hb;have h1:=Zps hle k1;have h2:=hle _ _ k2;exact .more (ih (by omega)) (h _ _ (by omega) hb k2)
def NZ(S S':List Int→Int→Int→Prop)(f:Int→Int)(lo hi:Int):Prop:=∀g x y,lo≤x→y≤hi→S g x y→S' g (f x) (f y)
mutual
theorem I4{S S':List Int→Int→Int→Prop}(hS:Inc S){f:Int→Int}{lo hi:Int}(H:NZ S S' f lo hi):∀(p:aO) (a b:Int),lo≤a→b≤hi→MR S p a b→MR S' p (f a) (f b)
 | .mk k s g ks,a,b,ha,hb,h=>by
  rw[MR] at h ⊢;by_cases h1:k=1
  ·rw[if_pos h1] at h ⊢;rw[h]
  ·rw[if_neg h1] at h ⊢
   by_cases h2:k=2
   ·rw[if_pos h2] at h ⊢;exact H g a b ha hb h
   ·rw[if_neg h2] at h ⊢
    by_cases h3:k=3
    ·rw[if_pos h3] at h ⊢;exact Zpm hS H ks a b ha hb h
    ·rw[if_neg h3] at h ⊢
     by_cases h4:k=4
     ·rw[if_pos h4] at h ⊢;exact Zpn hS H ks a b ha hb h
     ·rw[if_neg h4] at h ⊢
      by_cases h5:k=7∨k=5∨k=6
      ·rw[if_pos h5] at h ⊢;exact Zso hS H ks k a b ha hb h
      ·rw[if_neg h5] at h;exact h.elim
theorem Zpm{S S':List Int→Int→Int→Prop}(hS:Inc S){f:Int→Int}{lo hi:Int}(H:NZ S S' f lo hi):∀(ks:List aO) (a b:Int),lo≤a→b≤hi→MA S ks a b→MA S' ks (f a) (f b)
 | [],a,b,ha,hb,h=>by rw[MA] at h ⊢;rw[h]
 | q::qs,a,b,ha,hb,h=>by
  rw[MA] at h ⊢;obtain⟨m,h1,h2⟩:=h;have i1:=FI hS q a m h1;have i2:=XB hS qs m b h2;exact⟨f m,I4 hS H q a m ha (by omega) h1,Zpm hS H qs m b (by omega) hb h2⟩
theorem Zpn{S S':List Int→Int→Int→Prop}(hS:Inc S){f:Int→Int}{lo hi:Int}(H:NZ S S' f lo hi):∀(ks:List aO) (a b:Int),lo≤a→b≤hi→MO S ks a b→MO S' ks (f a) (f b)
 | [],a,b,ha,hb,h=>by rw[MO] at h;exact h.elim
 | q::qs,a,b,ha,hb,h=>by
  rw[MO] at h ⊢;rcases h with h | h
  ·exact .inl (I4 hS H q a b ha hb h)
  ·exact .inr (Zpn hS H qs a b ha hb h)
theorem Zso{S S':List Int→Int→Int→Prop}(hS:Inc S){f:Int→Int}{lo hi:Int}(H:NZ S S' f lo hi):∀(ks:List aO) (k a b:Int),lo≤a→b≤hi→MG S ks k a b→MG S' ks k (f a) (f b)
 | [q],k,a,b,ha,hb,h=>by
  rw[MG] at h ⊢;rcases h with⟨h1,h2⟩ | h
  ·exact .inl ⟨h1,by rw[h2]⟩
  ·right
   by_cases h7:k=7
   ·rw[if_pos h7] at h ⊢;exact I4 hS H q a b ha hb h
   ·rw[if_neg h7] at h ⊢;exact ZqI (fun a b h=>FI hS q a b h) (fun a b ha hb h=>I4 hS H q a b ha hb h) ha h hb
 | [],k,a,b,_,_,h=>by simp[MG] at h
 | q::r::qs,k,a,b,_,_,h=>by simp[MG] at h
end
theorem Xq(l:List Int):Inc (nO l):=fun g a b h=>by have:=h.1;omega
theorem Z9b(l:List Int)(c n:Nat)(k:Nat)(hk:k < n):((l.drop c).take n).getD k 0=l.getD (c+k) 0:=by
 simp only[List.getD_eq_getElem?_getD,List.getElem?_take,hk,if_true,List.getElem?_drop]
theorem ZpK(l:List Int)(c n:Nat)(h:c+n≤l.length):((l.drop c).take n).length=n:=by simp;omega
theorem Zkf{p:aO}{l:List Int}{c n a b:Nat}(h:c+n≤l.length)(hca:c≤a)(hb:b≤c+n):MR (nO l) p a b↔MR (nO ((l.drop c).take n)) p (a - c) (b - c):=by
 have hl:=ZpK l c n h;constructor
 ·exact I4 (f:=fun x=>x - c) (lo:=a) (hi:=b) (Xq l) (fun g x y hx hy hs=>by
   obtain⟨h1,h2,h3,h4⟩:=hs;show nO _ g (x - c) (y - c)
   refine⟨by omega,by omega,by omega,?_⟩;rw[Z9b l c n _ (by omega)];have:c+(x - (c:Int)).toNat=x.toNat:=by omega
   rw[this];exact h4) p a b (by omega) (by omega)
 ·intro hm
  have:=I4 (f:=fun x=>x+c) (lo:=(a:Int) - c) (hi:=(b:Int) - c) (Xq _) (S':=nO l) (fun g x y hx hy hs=>by
   obtain⟨h1,h2,h3,h4⟩:=hs;show nO _ g (x+c) (y+c)
   refine⟨by omega,by omega,by omega,?_⟩;rw[Z9b l c n _ (by omega)] at h4;have:c+x.toNat=(x+(c:Int)).toNat:=by omega
   rw[←this];exact h4) p _ _ (by omega) (by omega) hm
  have e1:(a:Int) - c+c=a:=by omega
  have e2:(b:Int) - c+c=b:=by omega
  simp only[e1,e2] at this;exact this
theorem ZfI(p:aO)(l:List Int)(a b:Nat)(hab:a≤b)(hb:b≤l.length):mO p ((l.drop a).take (b - a)) 0 ((b:Int) - a)=mO p l a b:=by
 rw[Bool.eq_iff_iff,AP,AP,Zkf (c:=a) (n:=b - a) (by omega) (Nat.le_refl _) (by omega),ZpK l a (b - a) (by omega)];have e:(a:Int) - a=0:=by omega
 rw[e];constructor
 ·rintro⟨h1,h2,h3⟩;exact⟨by omega,by omega,h3⟩
 ·rintro⟨h1,h2,h3⟩;exact⟨by omega,by omega,h3⟩
theorem PL(p:aO)(l:List Int)(a b:Nat)(hab:a≤b)(hb:b≤l.length):mO p (l.take b) a b=mO p l a b:=by
 have:=Zkf (p:=p) (l:=l) (c:=0) (n:=b) (a:=a) (b:=b) (by omega) (by omega) (by omega);rw[Bool.eq_iff_iff,AP,AP,this];simp only[List.drop_zero,List.length_take,Int.natCast_zero,Int.sub_zero];constructor
 ·rintro⟨h1,h2,h3⟩;exact⟨by omega,by omega,by simpa using h3⟩
 ·rintro⟨h1,h2,h3⟩;exact⟨by omega,by omega,by simpa using h3⟩
theorem ZoF(p:aO)(l:List Int)(a b:Int)(hb:(l.length:Int) < b):mO p l a b=false:=by
 rw[Bool.eq_false_iff];intro h;unfold mO at h;rw[List.contains_iff_mem] at h;have:=Zof _ h;omega
def st0:Gs:=⟨[[]],[[]]⟩
theorem XP:yN st0:=⟨rfl,fun r hr=>by simp[st0] at hr;subst hr;exact FP⟩
def nP(p:aO)(sg:Int):Net:=
 ⟨sg,(eP sg p st0).2.aB,(eP sg p st0).2.fo.set 0 (eP sg p st0).1.fst,if (eP sg p st0).1.bH=true then je ((eP sg p st0).1.aR++[0]) else (eP sg p st0).1.aR⟩
theorem ZjC(sg:Int)(g:List Int):DI (zQ sg g) 0 sg:=⟨Fu _,fun x hx=>by
 have:=List.mem_filter.mp (vS.mp hx);simpa using this.2⟩
theorem Zis{sg:Int}{g:List Int}{x:Int}:x∈zQ sg g↔x∈g∧0≤x∧x < sg:=by
 unfold zQ;rw[vS,List.mem_filter];simp
mutual
theorem ZfD(sg:Int):∀(p:aO),∀r∈qV sg p,DI r 0 sg
 | .mk k _ g ks,r,hr=>by
  simp only[qV] at hr;split at hr
  ·simp at hr
  ·split at hr
   ·rw[List.mem_singleton] at hr;subst hr;exact ZjC sg g
   ·exact ZfC sg ks r hr
theorem ZfC(sg:Int):∀(ks:List aO),∀r∈tK sg ks,DI r 0 sg
 | [],r,hr=>by simp[tK] at hr
 | q::qs,r,hr=>by
  simp only[tK] at hr;rcases List.mem_append.mp hr with hr | hr
  ·exact ZfD sg q r hr
  ·exact ZfC sg qs r hr
end
theorem Ziw(p:aO)(sg:Int):(nP p sg).aB=[]::qV sg p∧(nP p sg).aB.length=1+jv p∧(nP p sg).follow.length=1+jv p:=by
 have f:=Qm sg p st0 XP;have h1:(nP p sg).aB=[]::qV sg p:=f.aB;have h2:(nP p sg).aB.length=1+jv p:=by rw[h1,List.length_cons,f.len];omega
 refine⟨h1,h2,?_⟩;show((eP sg p st0).2.fo.set 0 _).length=_
 rw[List.length_set,f.ok.len];exact h2
theorem Zix{p:aO}{sg:Int}(h1:1≤sg)(h2:sg≤400)(hc:jv p≤300):Q7 (nP p sg) (jY p 1):=by
 have f:=Qm sg p st0 XP;have hI:=CG p 1;obtain⟨hb,hbl,hfl⟩:=Ziw p sg;have hb1:st0.aB.length=1:=rfl;have hed:=f.ed;rw[hb1] at hed;have hfo:=fun s t=>f.fo s t
 have hz:∀s t,¬ou st0.fo s t:=fun s t=>by
  unfold ou st0;cases s with
  | zero=>simp
  | succ s=>simp
 have hl0:0 < (eP sg p st0).2.fo.length:=by
  have:(nP p sg).follow.length=(eP sg p st0).2.fo.length:=List.length_set ..;omega
 have f0:∀t:Nat,(t:Int)∈(nP p sg).follow.getD 0 []↔(jY p 1).fst t:=fun t=>by
  show(t:Int)∈((eP sg p st0).2.fo.set 0 (eP sg p st0).1.fst).getD 0 []↔_
  rw[List.getD_eq_getElem?_getD,List.getElem?_set,if_pos rfl,if_pos hl0,Option.getD_some];exact hed.fst t
 have fs:∀s t:Nat,1≤s→((t:Int)∈(nP p sg).follow.getD s []↔(jY p 1).dH s t):=fun s t hs=>by
  show(t:Int)∈((eP sg p st0).2.fo.set 0 (eP sg p st0).1.fst).getD s []↔_
  rw[List.getD_eq_getElem?_getD,List.getElem?_set,if_neg (by omega),←List.getD_eq_getElem?_getD];have:=hfo s t;rw[hb1] at this;exact this.trans ⟨fun h=>h.elim (fun h=>(hz s t h).elim) id,.inr⟩
 have hlast:∀q:Int,q∈(nP p sg).last↔((jY p 1).bH∧q=0)∨q∈(eP sg p st0).1.aR:=fun q=>by
  show q∈(if (eP sg p st0).1.bH=true then je ((eP sg p st0).1.aR++[0]) else (eP sg p st0).1.aR)↔_
  by_cases hn:(eP sg p st0).1.bH=true
  ·rw[if_pos hn,vS,List.mem_append,List.mem_singleton]
   have:=hed.bH.mp hn;exact⟨fun h=>h.elim .inr (fun h=>.inl ⟨this,h⟩),fun h=>h.elim (fun h=>.inr h.2) .inl⟩
  ·rw[if_neg hn]
   exact⟨.inr,fun h=>h.elim (fun h=>(hn (hed.bH.mpr h.1)).elim) id⟩
 have hlp:∀q∈(eP sg p st0).1.aR,1≤q∧q < 1+jv p:=fun q hq=>by
  have h0:=hed.ul.2 q hq;have e:((q.toNat:Nat):Int)=q:=by omega
  rw[←e] at hq;have:=hI.aR _ ((hed.aR q.toNat).mp hq);omega
 refine⟨⟨h1,h2,by omega,by omega,by omega,by rw[hb];rfl,⟨?_,fun q hq=>?_⟩,fun i h=>?_,fun i h=>?_⟩,by rw[hbl];exact hI,f0,fs,?_,fun s hs=>?_⟩
 ·show(if (eP sg p st0).1.bH=true then je ((eP sg p st0).1.aR++[0]) else (eP sg p st0).1.aR).Pairwise (· < ·)
  split
  ·exact Fu _
  ·exact hed.ul.1
 ·rcases(hlast q).mp hq with⟨_,rfl⟩ | hq
  ·omega
  ·have:=hlp q hq;omega
 ·have hm:(nP p sg).aB[i]∈[]::qV sg p:=by rw[←hb];exact List.getElem_mem h
  rcases List.mem_cons.mp hm with e | hm
  ·rw[e];exact⟨by simp,by simp⟩
  ·exact ZfD sg p _ hm
 ·have hrow:(nP p sg).follow.getD i []=(nP p sg).follow[i]:=Zc6 h
  have hup:Up (nP p sg).follow[i]:=by
   have hm:(nP p sg).follow[i]∈(eP sg p st0).2.fo.set 0 (eP sg p st0).1.fst:=List.getElem_mem h;rcases List.mem_or_eq_of_mem_set hm with hm | e
   ·exact f.ok.up _ hm
   ·rw[e];exact hed.uf
  refine⟨hup.1,fun x hx=>?_⟩;have h0:=hup.2 x hx;have e:((x.toNat:Nat):Int)=x:=by omega
  rw[←hrow,←e] at hx;by_cases hi:i=0
  ·subst hi
   have:=hI.fst _ ((f0 x.toNat).mp hx);omega
  ·have:=hI.dH _ _ ((fs i x.toNat (by omega)).mp hx);omega
 ·rw[hlast]
  exact⟨fun h=>h.elim (fun h=>h.1) (fun h=>by have:=hlp 0 h;omega),fun h=>.inl ⟨h,rfl⟩⟩
 ·rw[hlast]
  rw[←hed.aR s];exact⟨fun h=>h.elim (fun h=>by omega) id,.inr⟩
def Bt(sg:Int)(l:List Int)(g:List Int)(a b:Int):Prop:=nO l (zQ sg g) a b
mutual
theorem Zvg(sg:Int)(l:List Int):∀(p:aO) (pre post:List (List Int)),Ho (fun s a e=>nO l ((pre++qV sg p++post).getD s []) a e) (Bt sg l) p pre.length
 | .mk k _ g ks,pre,post=>by
  simp only[Ho];refine⟨fun h2 a e=>?_,fun h1 h2=>?_⟩
  ·subst h2
   have:qV sg (.mk 2 ‹_› g ks)=[zQ sg g]:=by simp[qV]
   rw[this,List.append_assoc,List.getD_eq_getElem?_getD,List.getElem?_append_right (Nat.le_refl _)];simp[Bt]
  ·have:qV sg (.mk k ‹_› g ks)=tK sg ks:=by simp only[qV];rw[if_neg h1,if_neg h2]
   rw[this];exact Zvf sg l ks pre post
theorem Zvf(sg:Int)(l:List Int):∀(ks:List aO) (pre post:List (List Int)),zi (fun s a e=>nO l ((pre++tK sg ks++post).getD s []) a e) (Bt sg l) ks pre.length
 | [],pre,post=>by simp only[zi]
 | q::qs,pre,post=>by
  simp only[zi];have h1:=Zvg sg l q pre (tK sg qs++post);have h2:=Zvf sg l qs (pre++qV sg q) post;have e1:pre++qV sg q++(tK sg qs++post)=pre++tK sg (q::qs)++post:=by simp[tK]
  have e2:pre++qV sg q++tK sg qs++post=pre++tK sg (q::qs)++post:=by simp[tK]
  have hc:(qV sg q).length=jv q:=(Qm sg q st0 XP).len;rw[e1] at h1;rw[e2,List.length_append,hc] at h2;exact⟨h1,h2⟩
end
mutual
def CQ(sg:Int):aO→aO
 | .mk k _ g ks=>.mk k [] (zQ sg g) (yY sg ks)
def yY(sg:Int):List aO→List aO
 | []=>[]
 | q::qs=>CQ sg q::yY sg qs
end
mutual
theorem F4(sg:Int)(l:List Int):∀(p:aO) (a b:Int),MR (Bt sg l) p a b↔MR (nO l) (CQ sg p) a b
 | .mk k r g ks,a,b=>by
  simp only[CQ,MR];by_cases h1:k=1
  ·rw[if_pos h1,if_pos h1]
  rw[if_neg h1,if_neg h1];by_cases h2:k=2
  ·rw[if_pos h2,if_pos h2];rfl
  rw[if_neg h2,if_neg h2];by_cases h3:k=3
  ·rw[if_pos h3,if_pos h3];exact Ym sg l ks a b
  rw[if_neg h3,if_neg h3];by_cases h4:k=4
  ·rw[if_pos h4,if_pos h4];exact Zti sg l ks a b
  rw[if_neg h4,if_neg h4];by_cases h5:k=7∨k=5∨k=6
  ·rw[if_pos h5,if_pos h5];exact ZuQ sg l ks k a b
  ·rw[if_neg h5,if_neg h5]
theorem Ym(sg:Int)(l:List Int):∀(ks:List aO) (a b:Int),MA (Bt sg l) ks a b↔MA (nO l) (yY sg ks) a b
 | [],a,b=>by simp only[yY,MA]
 | q::qs,a,b=>by
  simp only[yY,MA];exact⟨fun⟨m,h1,h2⟩=>⟨m,(F4 sg l q a m).mp h1,(Ym sg l qs m b).mp h2⟩,fun⟨m,h1,h2⟩=>⟨m,(F4 sg l q a m).mpr h1,(Ym sg l qs m b).mpr h2⟩⟩
theorem Zti(sg:Int)(l:List Int):∀(ks:List aO) (a b:Int),MO (Bt sg l) ks a b↔MO (nO l) (yY sg ks) a b
 | [],a,b=>by simp only[yY,MO]
 | q::qs,a,b=>by
  simp only[yY,MO];rw[F4 sg l q a b,Zti sg l qs a b]
theorem ZuQ(sg:Int)(l:List Int):∀(ks:List aO) (k a b:Int),MG (Bt sg l) ks k a b↔MG (nO l) (yY sg ks) k a b
 | [],k,a,b=>by simp only[yY,MG]
 | [q],k,a,b=>by
  simp only[yY,MG];rw[F4 sg l q a b,Zf6 (F4 sg l q)]
 | _::_::_,k,a,b=>by simp only[yY,MG]
end
theorem Zrh{p:aO}{sg:Int}(h1:1≤sg)(h2:sg≤400)(hc:jv p≤300)(l:List Int):yO (nP p sg) l=mO (CQ sg p) l 0 l.length:=by
 have hL:=Zvg sg l p [[]] [];rw[List.append_nil] at hL;have hb:=(Ziw p sg).1
 have hL':Ho (G7 (nP p sg) l) (Bt sg l) p 1:=by
  have:G7 (nP p sg) l=fun s a e=>nO l (([[]]++qV sg p).getD s []) a e:=by
   funext s a e;unfold G7;rw[hb];rfl
  rw[this];exact hL
 have h3:=(Zqh (Zix h1 h2 hc) l).trans ((Ms p 1 hL' 0 l.length).trans (F4 sg l p 0 l.length));have h4:mO (CQ sg p) l 0 l.length=true↔MR (nO l) (CQ sg p) 0 l.length:=AP.trans ⟨fun h=>h.2.2,fun h=>⟨by omega,by omega,h⟩⟩;cases hA:yO (nP p sg) l<;>cases hB:mO (CQ sg p) l 0 l.length<;>simp_all
def jm(N:Nat)(l:List Int):Prop:=Up l∧∀x∈l,x < (N:Int)
theorem jm.len{N:Nat}{l:List Int}(h:jm N l):l.length≤N:=
 Wo N (h.1.1.imp fun h=>by omega) fun x hx=>⟨h.1.2 x hx,h.2 x hx⟩
theorem jm.mono{N M:Nat}{l:List Int}(h:jm N l)(hm:N≤M):jm M l:=⟨h.1,fun x hx=>by have:=h.2 x hx;omega⟩
theorem jm.nil{N:Nat}:jm N []:=⟨FP,by simp⟩
theorem jm.one{N k:Nat}(h:k < N):jm N [(k:Int)]:=⟨XV k,fun x hx=>by simp at hx;omega⟩
theorem jm.app{N:Nat}{a b:List Int}(ha:jm N a)(hb:jm N b):jm N (je (a++b)):=
 ⟨Ja ha.1.2 hb.1.2,fun x hx=>(List.mem_append.mp (vS.mp hx)).elim (ha.2 x) (hb.2 x)⟩
structure rT(st:Gs):Prop where
 len:st.fo.length=st.aB.length
 rows:∀r∈st.fo,jm st.aB.length r
structure uw(N:Nat)(e:Ed):Prop where
 f:jm N e.fst
 l:jm N e.aR
theorem uw.mono{N M:Nat}{e:Ed}(h:uw N e)(hm:N≤M):uw M e:=⟨h.f.mono hm,h.l.mono hm⟩
theorem Zib{N:Nat}{fo:List (List Int)}(h:∀r∈fo,jm N r)(i:Nat):jm N (fo.getD i []):=by
 rw[List.getD_eq_getElem?_getD];cases e:fo[i]? with
 | none=>exact jm.nil
 | some r=>exact h r (List.mem_of_getElem? e)
theorem XJ{N:Nat}:∀(ss:List Int) (fo:List (List Int)) (be:List Int),(∀r∈fo,jm N r)→jm N be→∀r∈jG fo ss be,jm N r
 | [],fo,be,h,_=>h
 | x::ss,fo,be,h,hb=>by
  refine XJ ss _ be (fun r hr=>?_) hb;rcases List.mem_or_eq_of_mem_set hr with hr | rfl
  ·exact h r hr
  ·exact(Zib h _).app hb
theorem Zfr:∀(ss:List Int) (fo:List (List Int)) (s:Int) (be:List Int),jG fo (ss++[s]) be=(jG fo ss be).set s.toNat (je ((jG fo ss be).getD s.toNat []++be))
 | [],fo,s,be=>rfl
 | x::ss,fo,s,be=>by rw[List.cons_append,jG,Zfr ss];rfl
theorem rT.dH{st:Gs}(h:rT st){a b:List Int}(hb:jm st.aB.length b):rT ⟨st.aB,jG st.fo a b⟩:=⟨(Du _ _ _).trans h.len,XJ _ _ _ h.rows hb⟩
theorem Xl:∀(es:List Ed) (all:Ed) (st:Gs),rT st→uw st.aB.length all→(∀e∈es,uw st.aB.length e)→rT (ku es all st).2∧uw st.aB.length (ku es all st).1
 | [],all,st,h,ha,_=>⟨h,ha⟩
 | e::es,all,st,h,ha,he=>by
  have h1:=he e (by simp);rw[ku];refine Xl es _ ⟨st.aB,jG st.fo all.aR e.fst⟩ (h.dH h1.f) ⟨?_,?_⟩ (fun e' h'=>he e' (by simp[h']))
  ·simp only
   split
   ·exact ha.f.app h1.f
   ·exact ha.f
  ·simp only
   split
   ·exact ha.l.app h1.l
   ·exact jm.nil.app h1.l
theorem Wi{N:Nat}:∀(es:List Ed) (all:Ed),uw N all→(∀e∈es,uw N e)→uw N (tQ es all)
 | [],all,ha,_=>ha
 | e::es,all,ha,he=>by
  have h1:=he e (by simp);rw[tQ];exact Wi es _ ⟨ha.f.app h1.f,ha.l.app h1.l⟩ (fun e' h'=>he e' (by simp[h']))
theorem Zt6(es:List Ed)(k:Int)(st:Gs)(h:rT st)(he:∀e∈es,uw st.aB.length e):rT (uK es k st).2∧(uK es k st).2.aB=st.aB∧uw st.aB.length (uK es k st).1:=by
 have no:uw st.aB.length ⟨false,[],[]⟩:=⟨jm.nil,jm.nil⟩
 match es,he with
 | [],_=>exact⟨h,rfl,no⟩
 | [e],he=>
  have h1:=he e (by simp);simp only[uK];split
  ·refine⟨?_,?_,⟨h1.f,h1.l⟩⟩
   ·split
    ·exact h
    ·exact h.dH h1.f
   ·split<;>rfl
  ·exact⟨h,rfl,no⟩
 | _::_::_,_=>exact⟨h,rfl,no⟩
mutual
theorem ZlA(sg:Int):∀(p:aO) (st:Gs),rT st→rT (eP sg p st).2∧uw (eP sg p st).2.aB.length (eP sg p st).1∧(eP sg p st).2.aB.length=st.aB.length+jv p
 | .mk k s g ks,st,h=>by
  simp only[eP,jv];split
  ·exact⟨h,⟨jm.nil,jm.nil⟩,rfl⟩
  ·split
   ·refine⟨⟨by simp[h.len],fun r hr=>?_⟩,⟨jm.one (by simp),jm.one (by simp)⟩,by simp⟩
    simp only at hr ⊢;rcases List.mem_append.mp hr with hr | hr
    ·exact(h.rows r hr).mono (by simp)
    ·rw[List.mem_singleton] at hr;subst hr;exact jm.nil
   ·obtain⟨i1,i2,i3⟩:=Qn sg ks st h
    split
    ·obtain⟨j1,j2⟩:=Xl (dG sg ks st).1 ⟨true,[],[]⟩ (dG sg ks st).2 i1 ⟨jm.nil,jm.nil⟩ i2
     have hb:=(P5 (dG sg ks st).1 ⟨true,[],[]⟩ (dG sg ks st).2).1;exact⟨j1,by rw[hb];exact j2,by rw[hb];exact i3⟩
    ·split
     ·exact⟨i1,Wi _ _ ⟨jm.nil,jm.nil⟩ i2,i3⟩
     ·obtain⟨j1,j2,j3⟩:=Zt6 (dG sg ks st).1 k (dG sg ks st).2 i1 i2
      exact⟨j1,by rw[j2];exact j3,by rw[j2];exact i3⟩
theorem Qn(sg:Int):∀(ks:List aO) (st:Gs),rT st→rT (dG sg ks st).2∧(∀e∈(dG sg ks st).1,uw (dG sg ks st).2.aB.length e)∧(dG sg ks st).2.aB.length=st.aB.length+jR ks
 | [],st,h=>by simp only[dG,jR];exact⟨h,by simp,rfl⟩
 | q::qs,st,h=>by
  obtain⟨i1,i2,i3⟩:=ZlA sg q st h;obtain⟨j1,j2,j3⟩:=Qn sg qs (eP sg q st).2 i1;simp only[dG,jR];refine⟨j1,fun e he=>?_,by omega⟩;rcases List.mem_cons.mp he with rfl | he
  ·exact i2.mono (by omega)
  ·exact j2 e he
end
theorem Zdi(sg:Int):∀(ks:List aO) (q:aO) (st:Gs),dG sg (ks++[q]) st=((dG sg ks st).1++[(eP sg q (dG sg ks st).2).1],(eP sg q (dG sg ks st).2).2)
 | [],q,st=>by simp only[List.nil_append,dG]
 | k::ks,q,st=>by simp only[List.cons_append,dG];rw[Zdi sg ks]
theorem Zdk:∀(es:List Ed) (e:Ed) (all:Ed) (st:Gs),ku (es++[e]) all st =
  (⟨(ku es all st).1.bH && e.bH,if (ku es all st).1.bH=true then je ((ku es all st).1.fst++e.fst) else (ku es all st).1.fst,je ((if e.bH=true then (ku es all st).1.aR else [])++e.aR)⟩,⟨(ku es all st).2.aB,jG (ku es all st).2.fo (ku es all st).1.aR e.fst⟩)
 | [],e,all,st=>rfl
 | k::es,e,all,st=>by simp only[List.cons_append,ku];rw[Zdk es];rfl
theorem ZaV:∀(es:List Ed) (e:Ed) (all:Ed),tQ (es++[e]) all=⟨(tQ es all).bH || e.bH,je ((tQ es all).fst++e.fst),je ((tQ es all).aR++e.aR)⟩
 | [],e,all=>rfl
 | k::es,e,all=>by simp only[List.cons_append,tQ];rw[ZaV es]
theorem Vz:∀(a b:List aO),jR (a++b)=jR a+jR b
 | [],b=>by simp[jR]
 | p::a,b=>by simp only[List.cons_append,jR];rw[Vz a b];omega
def bN(sg:Int)(v w:AV):AV:=.agg [aj sg,v,w,.sl true []]
def mG(sg:Int)(o:Bool)(st:Gs)(a b c:Nat):List (Nat×Option aF):=
 [(a,some (.arr 4 [bN sg (vV o b (st.aB.map aA)) (vV o c (st.fo.map aA))])),(b,vB o 1 (st.aB.map aA)),(c,vB o 1 (st.fo.map aA))]
def YC(sg:Int)(st:Gs)(S:St):Prop:=S.n=10∧S.g 0=some (.arr 4 [bN sg (.own 3 0 st.aB.length) (.own 4 0 st.fo.length)])∧S.g 3=some (.arr 1 (st.aB.map aA))∧S.g 4=some (.arr 1 (st.fo.map aA))
theorem YC.of{sg:Int}{st:Gs}{G:List (Nat×Option aF)}:YC sg st ⟨10,bY (mG sg true st 0 3 4++G)⟩:=⟨rfl,by simp[mG,bY,bZ],by simp[mG,bY,bE],by simp[mG,bY,bE]⟩
def oM(P:Program)(f:FuncId)(args:List AV)(sg:Int)(o:Bool)(st st':Gs)(r:AV):Prop:=
 aQ P f (.ptr 0 0 0::args) ⟨3,bY (mG sg o st 0 1 2)⟩ fun r' S'=>r'=r∧YC sg st' S'
def nJ(sg:Int)(st:Gs)(id b c:Nat)(S:St):St:=
 ((((((St.mk (S.n+7) S.g).set id (some (.arr 4 [bN sg (.own S.n 0 st.aB.length) (.own (S.n+1) 0 st.fo.length)]))).set b none).set c none).set S.n (some (.arr 1 (st.aB.map aA)))).set (S.n+1) (some (.arr 1 (st.fo.map aA))))
theorem oM.P6m{P:Program}{f:FuncId}{args M6:List AV}{sg:Int}{o:Bool}{st st':Gs}{r:AV}(h:oM P f args sg o st st' r)(ha:∀R,iZ yh R M6 args)(hr:aY r){S:St}{K:AV→St→Prop}{id b c:Nat}
  (h1:S.g id=some (.arr 4 [bN sg (vV o b (st.aB.map aA)) (vV o c (st.fo.map aA))])) (h2:∀R,Bf yh R (S.g b) (vB o 1 (st.aB.map aA))) (h3:∀R,Bf yh R (S.g c) (vB o 1 (st.fo.map aA)))
  (hd:id≠b∧id≠c∧b≠c) (hl:id < S.n∧b < S.n∧c < S.n) (hk:K r (nJ sg st' id b c S)):aQ P f (.ptr id 0 0::M6) S K:=by
 refine aQ.frame 3 [(0,id),(1,b),(2,c)] (mG sg o st 0 1 2) (.ptr 0 0 0::args) _ (by simp;omega) (by simp;omega) ?_ ?_ h ?_
 ·intro p hp
  simp only[mG,List.mem_cons,List.not_mem_nil,or_false] at hp;rcases hp with rfl | rfl | rfl
  ·refine .inr ⟨id,by simp,?_⟩
   rw[h1,jh];refine⟨rfl,?_⟩;simp only[bN,kM,kJ,and_true,kK];exact⟨.cl (aW _),lQ (by simp) (jw _),lQ (by simp) (jw _),.cl (jZ _)⟩
  ·exact .inr ⟨b,by simp,h2 _⟩
  ·exact .inr ⟨c,by simp,h3 _⟩
 ·exact .cons (.ptr _ _ _ _ (by simp)) (ha _)
 ·rintro r1 S1 hn ⟨rfl,q1,q2,q3,q4⟩
  refine⟨r1,_,hk,.cl hr,by simp[nJ,bB,q1],fun i k hi=>?_⟩;simp only[nJ,aG] at hi;by_cases e5:i=S.n+1
  ·rw[if_pos e5] at hi
   refine .inr ⟨4,.inr ⟨by omega,by omega⟩,?_⟩;rw[←hi,q4,jh];exact⟨rfl,.cl (jw _)⟩
  rw[if_neg e5] at hi;by_cases e4:i=S.n
  ·rw[if_pos e4] at hi
   refine .inr ⟨3,.inr ⟨by omega,by omega⟩,?_⟩;rw[←hi,q3,jh];exact⟨rfl,.cl (jw _)⟩
  rw[if_neg e4] at hi;by_cases ec:i=c
  ·rw[if_pos ec] at hi;cases hi
  rw[if_neg ec] at hi;by_cases eb:i=b
  ·rw[if_pos eb] at hi;cases hi
  rw[if_neg eb] at hi;by_cases ea:i=id
  ·rw[if_pos ea] at hi
   refine .inr ⟨0,.inl ⟨by omega,by simp[ea]⟩,?_⟩;rw[←hi,q2,jh];refine⟨rfl,?_⟩;simp only[bN,kM,kJ,and_true,kK,lZ];exact⟨.cl (aW _),(.inr ⟨by omega,by omega⟩),(.inr ⟨by omega,by omega⟩),.cl (jZ _)⟩
  ·rw[if_neg ea] at hi
   refine .inl ⟨?_,hi⟩;simp;omega
theorem oM.use{P:Program}{f:FuncId}{args M6:List AV}{sg:Int}{o:Bool}{st st':Gs}{r:AV}(h:oM P f args sg o st st' r)(ha:∀R,iZ yh R M6 args)(hr:aY r){S:St}{K:AV→St→Prop}{id b c:Nat}
  (h1:S.g id=some (.arr 4 [bN sg (vV o b (st.aB.map aA)) (vV o c (st.fo.map aA))])) (h2:S.g b=vB o 1 (st.aB.map aA)) (h3:S.g c=vB o 1 (st.fo.map aA))
  (hd:id≠b∧id≠c∧b≠c) (hl:id < S.n∧b < S.n∧c < S.n) (hk:K r (nJ sg st' id b c S)):aQ P f (.ptr id 0 0::M6) S K:=
 oM.P6m h ha hr h1 (fun _=>by rw[h2];exact kX (jw _)) (fun _=>by rw[h3];exact kX (jw _)) hd hl hk
mutual
def Rz:aO→Prop
 | .mk _ s g ks=>Len s∧g.length≤17592186043904∧Len ks∧FM ks
def FM:List aO→Prop
 | []=>True
 | p::ps=>Rz p∧FM ps
end
theorem FM.mem:∀{ks:List aO},FM ks→∀q∈ks,Rz q
 | [],_,q,h=>by simp at h
 | p::ps,h,q,hq=>by
  simp only[FM] at h;rcases List.mem_cons.mp hq with rfl | hq
  ·exact h.1
  ·exact FM.mem h.2 q hq
inductive zk where
 | mk (kind:Int) (name:ByteArray) (low high:Int) (kids:List zk)
def zk.kids:zk→List zk | .mk _ _ _ _ ks=>ks
def Zv5(s:ByteArray):Prop:=s.size≤140737488351232
mutual
def Ry:zk→Prop
 | .mk _ s _ _ ks=>Zv5 s∧Len ks∧FK ks
def FK:List zk→Prop
 | []=>True
 | p::ps=>Ry p∧FK ps
end
theorem FK.mem:∀{ks:List zk},FK ks→∀q∈ks,Ry q
 | [],_,q,h=>by simp at h
 | p::ps,h,q,hq=>by
  simp only[FK] at h;rcases List.mem_cons.mp hq with rfl | hq
  ·exact h.1
  ·exact FK.mem h.2 q hq
def without(x:Bk)(i:Int):Bk:=if 0≤i∧i < x.rules.length then { x with rules:=x.rules.take i.toNat++x.rules.drop (i.toNat+1) } else x
theorem mo.look{P:Program}{f:FuncId}{args args':List AV}{r:AV}{S:St}{F:List Nat}(h:aN P f args' r)(hz:fC (only F S.g) args args')(hr:xB r):mo P f args S F r:=⟨args',h,hz.1,hz.2,.inl hr⟩
theorem rT.ok{st:Gs}(h:rT st):yN st:=⟨h.len,fun r hr=>(h.rows r hr).1⟩
def Bd(n:Int):Prop:=IntKind.i64.min≤n∧n≤IntKind.i64.max
section
variable{P:Program}
def Zvn{X:Type}(l:List X):Prop:=l.length≤17592186043904
def Zt7(r:Rg):Prop:=Bd r.low∧Bd r.high
mutual
def NT:aO→Prop
 | .mk k s g ks=>Bd k∧(Len s∧∀r∈s,Zt7 r)∧(Zvn g∧∀x∈g,Bd x)∧Len ks∧Gp ks
def Gp:List aO→Prop
 | []=>True
 | p::ps=>NT p∧Gp ps
end
mutual
def M0:zk→Prop
 | .mk k s a b ks=>Bd k∧Zv5 s∧Bd a∧Bd b∧Len ks∧Gn ks
def Gn:List zk→Prop
 | []=>True
 | p::ps=>M0 p∧Gn ps
end
end
mutual
theorem NT.good:∀{p:aO},NT p→Rz p
 | .mk k s g ks,h=>by simp only[NT] at h;simp only[Rz];exact⟨h.2.1.1,h.2.2.1.1,h.2.2.2.1,Gp.good h.2.2.2.2⟩
theorem Gp.good:∀{ks:List aO},Gp ks→FM ks
 | [],_=>trivial
 | p::ps,h=>by simp only[Gp] at h;exact⟨NT.good h.1,Gp.good h.2⟩
end
mutual
theorem M0.good:∀{p:zk},M0 p→Ry p
 | .mk k s a b ks,h=>by simp only[M0] at h;simp only[Ry];exact⟨h.2.1,h.2.2.2.2.1,Gn.good h.2.2.2.2.2⟩
theorem Gn.good:∀{ks:List zk},Gn ks→FK ks
 | [],_=>trivial
 | p::ps,h=>by simp only[Gn] at h;exact⟨M0.good h.1,Gn.good h.2⟩
end
theorem mK.arr{P:Program}{t e:TypeId}{n fuel:Nat}{X:Type}{enc:X→AV}{good:X→Prop}(ht:P.underlying t=some (.array n e))(hc:P.cellsOf t=n)(he:P.cellsOf e=1)(hat:∀x,(enc x).atom=true)(h:mK P fuel e enc good) :
  mK P (fuel+1) t (fun l:List X=>.agg (l.map enc)) (fun l=>l.length=n∧∀x∈l,good x):=by
 refine⟨fun x hx=>by simp[AV.cells,hc,hx.1],fun x hx y hy=>?_,fun eh w cs r hr hw=>?_⟩
 ·simp only[AV.cells] at hy
  obtain⟨z,_,rfl⟩:=List.mem_map.mp hy;exact hat z
 ·unfold DataW.trod at hr
  rw[ht] at hr
  have hr':(if cs.length=P.cellsOf t then ((List.range n).mapM fun i=>DataW.trod eh P w 0 (fun _=>true) true fuel e ((cs.drop (i*P.cellsOf e)).take (P.cellsOf e))).map fun xs=>(DataW.agg (xs.map (·.1)),xs.flatMap (·.2)) else none)=some r:=by
   revert hr;split<;>simp_all
  clear hr;split at hr'
  ·rename_i hlen
   simp only[Option.map_eq_some_iff] at hr';obtain⟨ds,hds,hr2⟩:=hr';obtain⟨hdl,hget⟩:=AB hds;rw[List.length_range] at hdl
   have hw2:∀i (hi:i < ds.length),FR P e (ds[i]).1:=by
    intro i hi k hk;refine hw k ?_;rw[←hr2];simp only[DataW.weights,ht]
    have key:∀(l:List (DataW _×List MemPlace)),ds[i]∈l→k∈DataW.weightsAll P e (l.map (·.1)):=by
     intro l hl;induction l with
     | nil=>simp at hl
     | cons d l ih=>
      simp only[List.map_cons,DataW.weightsAll,List.mem_append];rcases List.mem_cons.mp hl with rfl | hl
      ·exact .inl hk
      ·exact .inr (ih hl)
    exact key ds (List.getElem_mem hi)
   obtain⟨l,hll,hq⟩:=Vn (X:=X) (Q:=fun i x=>good x∧∃v,cs[i]? = some v∧aL (E0 w) (enc x) v) n (by
    intro i hi;obtain⟨j,h1,h2⟩:=hget i (by omega);rw[List.getElem?_range hi] at h1;cases h1;obtain⟨x,g1,g2,g3⟩:=h.run eh w _ _ h2 (hw2 i (by omega));have hcx:=AV.EJ (hat x);obtain⟨v,g4,g5⟩:=g3 0 (by rw[hcx];simp);refine⟨x,g1,v,?_,?_⟩
    ·rw[he,List.getElem?_take,if_pos (by omega),List.getElem?_drop] at g4
     simpa using g4
    ·simpa[hcx] using g5)
   refine⟨l,⟨hll,fun x hx=>?_⟩,hlen,fun k hk=>?_⟩
   ·obtain⟨i,hi,rfl⟩:=List.mem_iff_getElem.mp hx
    exact(hq i hi).1
   ·have hk':k < l.length:=by simpa[AV.cells] using hk
    obtain⟨_,v,g1,g2⟩:=hq k hk';exact⟨v,g1,by simpa[AV.cells] using g2⟩
  ·cases hr'
structure DTy where
 i:TypeId
 b:TypeId
 is:TypeId
 iss:TypeId
 bs:TypeId
 d:TypeId
def gIs(l:List Int):Prop:=Len l∧∀x∈l,Bd x
def Zvu(l:List (List Int)):Prop:=Len l∧∀x∈l,gIs x
def gBs(l:List Bool):Prop:=Len l∧∀x∈l,True
def Zva(d:aD):Prop:=Bd d.signs∧Zvu d.next∧gBs d.fin
theorem Zva.ok{d:aD}(h:Zva d):rP d:=
 ⟨h.2.1.1,h.2.2.1,fun r hr=>(h.2.1.2 r hr).1,by have:=h.1;simp[Bd,IntKind.min,IntKind.max] at this;first | exact this | (simp[IntKind.bits] at this;omega)⟩
section
variable{P:Program}{T:DTy}
end
end Go.Rf
namespace Go.Rf
open Go.RowKit
attribute [local simp] kZ kN kW lH lK lI lM kY lN lG lF dO iA fI gI ig fH gJ iq gX gT gY eY gN gZ gM eB eD gQ iJ iG iI iH iK fV fK fG dY fZ gu gy fO fP iL iw gP iE iB iD iC iF iM gV fQ fE fF fJ fU dx dL eZ gW iN ex au cu dM dX bM bU aG bB dV eX dR fM gL gK iy gU bL dw dz dZ d9 gD dS bA bW dA dJ dD fq eu eU eO eT dW dn dU dQ dP bq AV.solid S0 aj aH
def Xh(Hr:FuncId):AC:= (.block 2 (.loop (sq [ro 36 (.bin .lss (.t 35) (.t 34))] (.seq (.cond (.t 36) .skip (.exit 2)) (.seq (.block 3 (sq [rm 37 35,rm 8 37] (.mE [rm 38 7,rm 39 8,rm 40 0,rm 41 1,rm 42 0,ro 43 (.iP (.t 42)),rF 44 6 43,rL 45 44,rm 46 6,ro 47 (.aI 1 (.t 45) (.t 46)),rL 48 47,rm 49 8,⟨(some 50),.mv (.c .junk),none,(some ((.t 41),[(.t 48),(.t 49)]))⟩,rk 51 Hr [(.t 40),(.t 50)],ro 52 (.aI 1 (.t 38) (.t 39)),rn (.store 1 (.t 52) (.t 51))] none))) (.reg none [ro 53 (.bin .add (.t 35) (ci 1)),rm 35 53]))))))
def VY(EC:FuncId):AC:= (.reg (some [[],[],[],[],[],[true],[false,true],[false,false,true],[false,false,false,true],[false,false,false,false,true],[false,false,false,false,false,true],[false,false,false,false,false,false,true],[false,false,false,false,false,false,false,true],[false,false,false,false,false,false,false,false,true],[false,false,false,false,false,false,false,false,false,true],[],[],[],[true]]) [rF 54 1 5,rL 55 54,rm 56 7,ro 57 (.cO 1 1 (.sl true []) [(0,(.t 56))]),ro 58 (.app 1 24 (.t 55) (.t 57)),rF 59 2 5,rL 60 59,rm 61 0,rm 62 0,ro 63 (.iP (.t 62)),rF 64 6 63,rL 65 64,rm 66 6,ro 67 (.aI 1 (.t 65) (.t 66)),rL 68 67,rk 69 EC [(.t 61),(.t 68)],ro 70 (.cO 1 1 (.v (.bool false)) [(0,(.t 69))]),ro 71 (.app 1 1 (.t 60) (.t 70)),rF 72 1 5,rn (.store 1 (.t 72) (.t 58)),rF 73 2 5,rn (.store 1 (.t 73) (.t 71))])
def Wx(Hr EC:FuncId):AC:= (.block 0 (.loop (.seq (sq [rm 18 6,rm 19 0,ro 20 (.iP (.t 19)),rF 21 6 20,rL 22 21,ro 23 (.len (.t 22)),ro 24 (.bin .lss (.t 18) (.t 23))] (.cond (.t 24) .skip (.exit 0))) (.seq (.block 1 (sq [rm 27 0,ro 28 (.iP (.t 27)),rF 29 0 28,rF 30 0 29,rL 31 30,ro 32 (.wB 1 8 (.v (.int .i64 0)) (.t 31) (.t 31)),rm 7 32] (.seq (sq [rm 33 7,ro 34 (.len (.t 33)),ro 35 (.mv (ci 0))] (Xh Hr)) (VY EC)))) (.reg none [rm 25 6,ro 26 (.bin .add (.t 25) (ci 1)),rm 6 26])))))
def Le(Hr EC:FuncId):AC:= (sq [ro 4 (.alloc (.agg [(.v (.int .i64 0)),(.sl true []),(.sl true [])]) 3)] (sq [rm 9 0,ro 10 (.iP (.t 9)),rF 11 0 10,rF 12 0 11,rL 13 12,ro 14 (.build (.agg [(.v (.int .i64 0)),(.sl true []),(.sl true [])]) [(0,1)] [(0,(.t 13))]),ro 5 (.alloc (.agg [(.v (.int .i64 0)),(.sl true []),(.sl true [])]) 3),rn (.store 3 (.t 5) (.t 14))] (.seq (.mE [rm 15 0,ro 16 (.cO 1 1 (.v (.int .i64 0)) [(0,(ci 0))]),rk 17 Hr [(.t 15),(.t 16)]] none) (.seq (sq [ro 6 (.mv (ci 0))] (Wx Hr EC)) (sq [ro 74 (.load (some 3) (.t 5)),rn (.store 3 (.t 4) (.t 74))] .ret)))))
def Ke(fT:TypeId):Value:=.iface fT (.agg #[])
def JD(P:Program)(um fT:FuncId)(n:Net):Prop:=∀(id km:Nat) (most:Int) (ss:List (List Int)) (v:AV) (set:List Int) (S:St) (K:AV→St→Prop) (X:Value→St→Prop),wU S id km n most ss v→Val n set→Eb n most ss→most≤3000→
 (set∈ss→∀m,S.n≤m→K (aj (ss.idxOf set)) ⟨m,S.g⟩)→
 (set∉ss→(ss.length:Int) < most→∀S' v',wU S' id km n most (ss++[set]) v'→TM S S' (id::km::v.ids)→(∀i∈v'.ids,S.n≤i)→K (aj ss.length) S')→
 (set∉ss→(ss.length:Int)=most→∀m,S.n≤m→X (Ke fT) ⟨m,S.g⟩)→oO P um [.ptr id 0 0,aA set] S K X
def Old(bC S:St)(id km:Nat):Prop:=bC.n≤S.n∧∀i,i < bC.n→i≠id→i≠km→S.g i=bC.g i
def RP(P:Program)(cf:FuncId)(cap:List AV)(bC:St)(id km:Nat)(n:Net)(most:Int)(kd:Kd):Prop:=∀(S:St) (ss:List (List Int)) (v:AV) (set:List Int) (s:Int) (K:AV→St→Prop),wU S id km n most ss v→Old bC S id km→Val n set→
 (∀m,S.n≤m→K (aA (kD kd n set s)) ⟨m,S.g⟩)→aQ P cf ([aA set,aj s]++cap) S K
structure Ez(f:AF)(id b4 b5 q L i:Nat)(aP:AV):Prop where
 e0:f 0=.ptr id 0 0
 e1:f 1=aP
 e4:f 4=.ptr b4 0 0
 e5:f 5=.ptr b5 0 0
 e6:f 6=aj i
 e7:f 7=.own q 0 L
theorem Ez.same{f f':AF}{id b4 b5 q L i:Nat}{aP:AV}(h:Ez f id b4 b5 q L i aP)(hf:∀j,j=0∨j=1∨j=4∨j=5∨j=6∨j=7→f' j=f j):Ez f' id b4 b5 q L i aP:=
 ⟨by rw[hf _ (by simp)];exact h.e0,by rw[hf _ (by simp)];exact h.e1,by rw[hf _ (by simp)];exact h.e4,by rw[hf _ (by simp)];exact h.e5,by rw[hf _ (by simp)];exact h.e6,by rw[hf _ (by simp)];exact h.e7⟩
structure DaI(bC:St)(id km b4 b5 q i L:Nat)(n:Net)(most:Int)(b:Int→List Int)(sQ nx:List (List Int))(en:List Bool)(vN vE:AV)(rs:List AV)(aP:AV)(k:Nat)(f:AF)(S:St)(ss:List (List Int))(r:List Int)(v:AV):Prop where
 rf:ug most b k sQ=some (ss,r)
 A:mP S bC id km b4 b5 n most ss nx en v vN vE rs [.own q 0 L] [r.map aj++List.replicate (L - k) (aj 0)]
 I:Ez f id b4 b5 q L i aP
 e34:f 34=aj L
 e35:f 35=aj k
 pre:∀j (h:j < sQ.length),ss[j]? = some sQ[j]
def DaE(bC:St)(id km b4 b5 q i L:Nat)(n:Net)(most:Int)(b:Int→List Int)(sQ nx:List (List Int))(en:List Bool)(vN vE:AV)(rs:List AV)(aP:AV)(k:Nat)(f:AF)(S:St):Prop:=
 ∃ss r v,DaI bC id km b4 b5 q i L n most b sQ nx en vN vE rs aP k f S ss r v
theorem Zo8{P:Program}{um fT cf:FuncId}{cap:List AV}{bC:St}{id km b4 b5 q i:Nat}{n:Net}{most:Int}{kd:Kd}{sQ nx:List (List Int)}{en:List Bool}{vN vE:AV}{rs:List AV}{v0:AV}{set:List Int}
  (R:nT n) (Bq:JD P um fT n) (GH:RP P cf cap bC id km n most kd) (El:most≤3000) {L:Nat} (hLe:n.signs.toNat=L) (hss:Eb n most sQ) (hset:sQ[i]? = some set) {f:AF} {S:St} {Q:Exit→AF→St→Prop}
  (A:mP S bC id km b4 b5 n most sQ nx en v0 vN vE rs [.own q 0 L] [List.replicate L (aj 0)]) (I:Ez f id b4 b5 q L i (.aP cf [] cap)) (e34:f 34=aj L) (e35:f 35=aj 0)
  (hk:∀f' S' ss' r v',ug most (kD kd n set) L sQ=some (ss',r)→mP S' bC id km b4 b5 n most ss' nx en v' vN vE rs [.own q 0 L] [r.map aj]→Ez f' id b4 b5 q L i (.aP cf [] cap)→(∀j (h:j < sQ.length),ss'[j]? = some sQ[j])→Q .normal f' S')
  (hp:ug most (kD kd n set) L sQ=none→∀f' S',Old bC S' id km→Q (pn (Ke fT)) f' S'):AW P (Xh um) Q f S:=by
 obtain⟨hil,hse⟩:=List.getElem?_eq_some_iff.mp hset;have hL4:L≤400:=by have:=R.s2;omega
 have hvs:Val n set:=hss.v set (by rw[←hse];exact List.getElem_mem hil);simp[Xh];refine BU L (DaE bC id km b4 b5 q i L n most (kD kd n set) sQ nx en vN vE rs (.aP cf [] cap)) ?_ ?_
 ·exact⟨sQ,[],v0,rfl,by simpa using A,I,e34,e35,fun j hj=>List.getElem?_eq_getElem hj⟩
 ·rintro k f S hk' ⟨ss,r,v,D⟩
  obtain⟨hok,hle,hrl⟩:=Qk (n:=n) (fun s=>Qu R hvs s) hss k D.rf;simp only at hok hle hrl;have e0:=D.I.e0;have e1:=D.I.e1;have e6:=D.I.e6;have e7:=D.I.e7;have e34:=D.e34;have e35:=D.e35;have Em:=D.A.mg;by_cases hlt:k < L
  ·
   have hpi:=D.pre i hil;rw[hse] at hpi;obtain⟨J4,Eo,_⟩:=D.A.rows.head
   have hown:∃tL off ys,v=.own tL off ss.length∧S.g tL=some (.arr 1 ys)∧off+ss.length≤ys.length∧ys[off+i]? = some (aA set):=by
    rcases J4 with⟨_,h0⟩ | ⟨tL,off,ys,h1,h2,h3,h4⟩
    ·simp at h0;subst h0;simp at hpi
    ·refine⟨tL,off,ys,by rw[h1];simp,h2,?_,?_⟩
     ·have:=congrArg List.length h4
      simp at this;omega
     ·have:(ys.drop off)[i]? = some (aA set):=by rw[h4,List.getElem?_map,hpi];rfl
      simpa using this
   obtain⟨tL,off,ys,hv,hgv,hol,hyi⟩:=hown;have hi2:i < ss.length:=by omega
   have hilt:(i:Int) < ss.length:=by omega
   subst hv;have hce:(aA set).cells=[aA set]:=rfl;have A:=D.A;simp[AL,uF,uE,BM,BH,e0,e1,e6,e7,e34,e35,hlt,Em,jW,hgv,hilt,hol,hyi,hce];refine oO.GZ (GH _ ss _ set k _ (A.up (m:=S.n+1+2+16) (by omega)).mk' ⟨by have:=A.jP;show bC.n≤S.n+1+2+16;omega,A.old⟩ hvs fun m hm=>?_);simp[BM,BH,yF];have hvb:=Qu (kd:=kd) R hvs (k:Int)
   have hzk:∃zs,zs=r.map aj++List.replicate (L - k) (aj 0)∧zs.length=L∧zs[k]? = some (aj 0)∧∀j:Int,zs.set k (aj j)=(r++[j]).map aj++List.replicate (L - (k+1)) (aj 0):=by
    refine⟨_,rfl,by simp[hrl];omega,?_,fun j=>?_⟩
    ·rw[List.getElem?_append_right (by simp[hrl]),List.length_map,hrl,Nat.sub_self,List.getElem?_replicate,if_pos (by omega)]
    ·rw[List.set_append_right _ _ (by simp[hrl]),List.length_map,hrl,Nat.sub_self,show L - k=(L - (k+1))+1 by omega,List.replicate_succ,List.set_cons_zero]
     simp
   obtain⟨zs,hz1,hz2,hz3,hz4⟩:=hzk;have SL:(k:Int) < L:=by omega
   have J5:(aj 0)=.v (.int .i64 0):=rfl;rw[J5] at hz3;have abd:xY most ss (kD kd n set k)=none→ug most (kD kd n set) (k+1) sQ=none:=fun h=>by simp only[ug,D.rf,h]
   have aak:∀s2 j,xY most ss (kD kd n set k)=some (s2,j)→ug most (kD kd n set) (k+1) sQ=some (s2,r++[j]):=fun s2 j h=>by simp only[ug,D.rf,h]
   have A0:=A;rw[←hz1] at A0;refine Bq id km most ss _ (kD kd n set k) ⟨m,S.g⟩ _ _ (A.up (m:=m) (by simp only at hm;omega)).mk' hvb hok El (fun hin m2 hm2=>?_) (fun hin hlt2 S' v' M' F' hv'=>?_) (fun hin hfull m2 hm2=>?_)
   ·have hnf:xY most ss (kD kd n set k)=some (ss,(ss.idxOf (kD kd n set k):Int)):=by unfold xY;rw[if_pos hin]
    have A2:=A0.up (m:=m2) (by simp only at hm hm2;omega);obtain⟨g7,_,En⟩:=A2.b7
    try simp only at g7
    simp[zC,uF,uE,yF,g7,SL,hz2,hz3,e35];rw[bI _ (by omega)];refine⟨hlt,ss,r++[(ss.idxOf (kD kd n set k):Int)],(.own tL off ss.length),⟨aak _ _ hnf,?_,?_,?_,?_,?_⟩⟩
    ·have A3:=A2.put (zs':=zs.set k (aj (ss.idxOf (kD kd n set k):Int))) (by simp) (Nat.le_refl _)
     rw[←hz4];refine A3.up ?_;simp[bB]
    ·refine D.I.same fun j hj=>?_
     rcases hj with rfl | rfl | rfl | rfl | rfl | rfl<;>simp[au]
    ·simp[au,e34,aj]
    ·simp[au,aj]
    ·first
      | exact D.pre
      | exact fun j hj=>(List.getElem?_append_left (List.getElem?_eq_some_iff.mp (D.pre j hj)).1).trans (D.pre j hj)
   ·have hnf:xY most ss (kD kd n set k)=some (ss++[kD kd n set k],(ss.length:Int)):=by unfold xY;rw[if_neg hin,if_neg (by omega)]
    have A2:=(A0.up (m:=m) (by simp only at hm;omega)).num M' F' hv';obtain⟨g7,_,En⟩:=A2.b7
    try simp only at g7
    simp[zC,uF,uE,yF,g7,SL,hz2,hz3,e35];rw[bI _ (by omega)];refine⟨hlt,(ss++[kD kd n set k]),r++[(ss.length:Int)],v',⟨aak _ _ hnf,?_,?_,?_,?_,?_⟩⟩
    ·have A3:=A2.put (zs':=zs.set k (aj (ss.length:Int))) (by simp) (Nat.le_refl _)
     rw[←hz4];refine A3.up ?_;simp[bB]
    ·refine D.I.same fun j hj=>?_
     rcases hj with rfl | rfl | rfl | rfl | rfl | rfl<;>simp[au]
    ·simp[au,e34,aj]
    ·simp[au,aj]
    ·first
      | exact D.pre
      | exact fun j hj=>(List.getElem?_append_left (List.getElem?_eq_some_iff.mp (D.pre j hj)).1).trans (D.pre j hj)
   ·have hnf:xY most ss (kD kd n set k)=none:=by unfold xY;rw[if_neg hin,if_pos hfull]
    rw[Zmn,Pw,Dm,Dm,Pw];refine hp (ZfZ (abd hnf) L (by omega)) _ _ ⟨by have:=A.jP;show bC.n≤m2;simp only at hm hm2;omega,A.old⟩
  ·have SL:k=L:=by omega
   subst SL;have hnlt:¬((k:Int) < k):=by omega
   simp[e34,e35,hnlt];refine hk _ _ ss r v D.rf (by simpa using D.A.up (m:=S.n+1) (by omega)) (D.I.same fun j hj=>?_) D.pre;rcases hj with rfl | rfl | rfl | rfl | rfl | rfl<;>simp[au]
theorem Zjr{P:Program}{fe:FuncId}{bC:St}{id km b4 b5 q i L:Nat}{n:Net}{most:Int}{ss nx:List (List Int)}{en:List Bool}{v vN vE aP:AV}{rs:List AV}{r set:List Int}(El:most≤3000)(hss:Eb n most ss)(hset:ss[i]? = some set)
  (hend:aN P fe [oU n,aA set] (aH (lC n set))) {f:AF} {S:St} {Q:Exit→AF→St→Prop} (hnx:nx.length=i) (hen:en.length=i)
  (A:mP S bC id km b4 b5 n most ss nx en v vN vE rs [.own q 0 L] [r.map aj]) (I:Ez f id b4 b5 q L i aP)
  (hk:∀f' S' Zq Zp,mP S' bC id km b4 b5 n most ss (nx++[r]) (en++[lC n set]) v Zq Zp (rs++[.own q 0 L]) [] []→(∀j,j≤6→f' j=f j)→Q .normal f' S'):AW P (VY fe) Q f S:=by
 obtain⟨hil,hse⟩:=List.getElem?_eq_some_iff.mp hset;obtain⟨J4,Eo,hvs,hr1⟩:=A.rows.head;obtain⟨hN,SC,hNs,hr2⟩:=hr1.head;obtain⟨hE,Nh,hEs,hr3⟩:=hr2.head;have e0:=I.e0;have e5:=I.e5;have e6:=I.e6;have e7:=I.e7;have Em:=A.mg;have hg5:=A.g5
 have hown:∃tL off ys,v=.own tL off ss.length∧S.g tL=some (.arr 1 ys)∧off+ss.length≤ys.length∧ys[off+i]? = some (aA set):=by
  rcases J4 with⟨_,h0⟩ | ⟨tL,off,ys,h1,h2,h3,h4⟩
  ·simp at h0;subst h0;simp at hil
  ·refine⟨tL,off,ys,by rw[h1];simp,h2,?_,?_⟩
   ·have:=congrArg List.length h4
    simp at this;omega
   ·have:(ys.drop off)[i]? = some (aA set):=by rw[h4,List.getElem?_map,hset];rfl
    simpa using this
 obtain⟨tL,off,ys,hv,hgv,hol,hyi⟩:=hown;have hilt:(i:Int) < ss.length:=by omega
 subst hv;have hce:(aA set).cells=[aA set]:=rfl;simp[VY,e5,e7,hg5];have hrl:rs.length=nx.length:=by have:=hr3.len;simpa[vZ] using this
 have hi3:i≤3000:=by have:=hss.l;omega
 have hrc:∀z∈rs,z.cells.length=1:=by
  intro z hz;obtain⟨t,ht,rfl⟩:=List.mem_iff_getElem.mp hz;have:=hr3.row t (by simp;omega) (by simp[vZ];omega);rw[List.getElem_append_left ht] at this;rcases this with⟨e,_⟩ | ⟨_,_,_,e,_⟩<;>rw[e]<;>rfl
 rw[Vec.K7 (aB:=24) (hN.frame fun _ _=>rfl) hrc rfl (by unfold dF;omega)];have Y3:b5∉vN.ids:=fun h=>(SC b5 h).2 (by simp)
 have SK:id∉vN.ids:=fun h=>(SC id h).2 (by simp)
 have aaq:tL∉vN.ids:=fun h=>hvs vN (by simp) tL (by simp[AV.ids]) h
 have Za:=A.lid;have SX:=A.jP;have SN:=A.t5;have q1:b5≠S.n+4:=by omega
 have q2:id≠S.n+4:=by omega
 have abI:tL < S.n:=(Eo tL (by simp[AV.ids])).1;have q3:tL≠S.n+4:=by omega
 simp[e0,e5,e6,Em,hg5,jW,hgv,hilt,hol,hyi,hce,mU b5 Y3,mU id SK,mU tL aaq,q1,q2,q3]
 have hfz:∀S':St,S'.g id=S.g id→mo P fe [.ptr id 0 0,aA set] S' [id] (aH (lC n set)):=fun S' h=>by
  have hz:fC (only [id] S'.g) [.ptr id 0 0,aA set] [oU n,aA set]:=
   fC.cons (.pre id 7 [aj n.signs,aX n.aB,aX n.follow,aA n.last] [aj most,.mp km,.own tL off ss.length] (by rw[DL,if_pos (by simp),h];exact A.mg) (by
    intro y hy;simp only[List.mem_cons,List.not_mem_nil,or_false] at hy;rcases hy with rfl | rfl | rfl | rfl
    ·exact aW _
    ·exact jo _
    ·exact jo _
    ·exact aS _)) (fC.cons (.closed _ (aS _)) fC.nil)
  exact⟨_,hend,hz.1,hz.2,.inl (L9 _)⟩
 have nN:∀j,j∈vN.ids∨j=S.n+4→¬j=b5:=by
  rintro j (h | rfl) rfl
  ·exact Y3 h
  ·exact q1 rfl
 have nI:∀j,j∈vN.ids∨j=S.n+4→¬j=id:=by
  rintro j (h | rfl) rfl
  ·exact SK h
  ·exact q2 rfl
 have nV:∀j,j∈vN.ids∨j=S.n+4→¬j=tL:=by
  rintro j (h | rfl) rfl
  ·exact aaq h
  ·exact q3 rfl
 refine⟨nN,nI,nV,aH (lC n set),[id],hfz _ (by rw[aG,if_neg q2,mU id SK]),?_⟩;simp;have k1:∀i,i∉vN.ids→i≠S.n+4→(((⟨S.n+22,S.g⟩:St).without vN).set (S.n+4) (some (.arr 1 (rs++[.own q 0 L])))).g i=S.g i:=fun i h1 h2=>by rw[aG,if_neg h2,mU i h1]
 have k2:(((⟨S.n+22,S.g⟩:St).without vN).set (S.n+4) (some (.arr 1 (rs++[.own q 0 L])))).g (S.n+4)=some (.arr 1 (rs++[.own q 0 L])):=by rw[aG,if_pos rfl]
 have k3:(((⟨S.n+22,S.g⟩:St).without vN).set (S.n+4) (some (.arr 1 (rs++[.own q 0 L])))).n=S.n+22:=by simp[bB,sU]
 generalize(((⟨S.n+22,S.g⟩:St).without vN).set (S.n+4) (some (.arr 1 (rs++[.own q 0 L]))))=S1 at *;obtain⟨n1,g1⟩:=S1;simp only at k1 k2 k3;have hEN:∀i∈vE.ids,i∉vN.ids:=fun i h1 h2=>hNs vE (by simp) i h2 h1
 have hEl:∀i∈vE.ids,i < S.n:=fun i hi=>(Nh i hi).1
 have hE1:Vec g1 vE 1 (en.map aH):=hE.frame fun i hi=>k1 i (hEN i hi) (by have:=hEl i hi;omega)
 have hec:∀z∈en.map aH,z.cells.length=1:=by
  intro z hz;obtain⟨b,_,rfl⟩:=List.mem_map.mp hz;rfl
 have happ:=Vec.K7 (n:=n1) (aC:=S.n+17) (x:=aH (lC n set)) (aB:=1) hE1 hec rfl (by rw[List.length_map,hen];unfold dF;omega);simp only[aH] at happ;rw[happ];have aaF:b5∉vE.ids:=fun h=>(Nh b5 h).2 (by simp)
 have q5:b5≠S.n+17:=by omega
 have g15:=(k1 b5 Y3 q1).trans hg5;simp[e5,g15,mU b5 aaF,q5];refine hk _ _ (.own (S.n+4) 0 (rs.length+1)) (.own (S.n+17) 0 (en.length+1)) ?_ (fun j hj=>?_)
 ·have key:∀i,i∉vN.ids→i∉vE.ids→i < S.n→i≠b5→∀b b2 b3,(((((⟨n1,g1⟩:St).without vE).set (S.n+17) b).set b5 b2).set b5 b3).g i=S.g i:=fun i h1 h2 h3 h4 b b2 b3=>by
   rw[aG,if_neg h4,aG,if_neg h4,aG,if_neg (by omega),mU i h2];exact k1 i h1 (by omega)
  have aaT:id∉vE.ids:=fun h=>(Nh id h).2 (by simp)
  have aaZ:km∉vN.ids:=fun h=>(SC km h).2 (by simp)
  have aaY:km∉vE.ids:=fun h=>(Nh km h).2 (by simp)
  have h4N:b4∉vN.ids:=fun h=>(SC b4 h).2 (by simp)
  have h4E:b4∉vE.ids:=fun h=>(Nh b4 h).2 (by simp)
  have Zb:=A.vG;have hl5:=A.l5;have hl4:=A.l4;have Ns:=A.t4;have hn45:=A.n45;have q4E:S.n+4∉vE.ids:=fun h=>by have:=hEl _ h;omega
  have abF:=hr3;refine⟨?_,?_,?_,?_,?_,A.ne,A.lid,A.vG,A.l4,A.l5,A.n45,?_,?_,fun w hw i hi=>?_,fun i h1 h2 h3=>?_,?_⟩
  ·rw[key id SK aaT (by omega) (by omega)];exact A.mg
  ·rw[key km aaZ aaY (by omega) (by omega)];exact A.mm
  ·rw[key b4 h4N h4E Ns hn45];exact A.g4
  ·simp[aG,aj]
  ·have hr4:lq (((((⟨n1,g1⟩:St).without vE).set (S.n+17) (some (.arr 1 (en.map aH++[.v (.bool (lC n set))])))).set b5 (some (.arr 3 [.agg [.v (.int .i64 n.signs),.own (S.n+4) 0 (rs.length+1),vE]]))).set b5 (some (.arr 3 [.agg [.v (.int .i64 n.signs),.own (S.n+4) 0 (rs.length+1),.own (S.n+17) 0 (en.length+1)]]))).g (S.n+22) [id,km,b4,b5] (rs++[.own q 0 L]) (vZ nx++[r.map aj]):=by
    refine hr3.frame (by omega) (fun w hw i hi=>?_);have ho:=hr3.out w hw i hi;have ho2:=ho.2;simp only[List.mem_cons,List.not_mem_nil,or_false,not_or] at ho2;exact key i (fun h=>hNs w (by simp at hw ⊢;exact .inr hw) i h hi) (fun h=>hEs w hw i h hi) ho.1 ho2.2.2.2 _ _ _
   have hrw:vZ (nx++[r])=vZ nx++[r.map aj]:=by simp[vZ]
   have aaR:(en++[lC n set]).map aH=en.map aH++[.v (.bool (lC n set))]:=by simp[aH]
   rw[List.append_nil,List.append_nil,hrw,aaR];have hnn:(((((⟨n1,g1⟩:St).without vE).set (S.n+17) (some (.arr 1 (en.map aH++[.v (.bool (lC n set))])))).set b5 (some (.arr 3 [.agg [.v (.int .i64 n.signs),.own (S.n+4) 0 (rs.length+1),vE]]))).set b5 (some (.arr 3 [.agg [.v (.int .i64 n.signs),.own (S.n+4) 0 (rs.length+1),.own (S.n+17) 0 (en.length+1)]]))).n=S.n+22:=by simp[bB,sU,k3]
   rw[hnn];refine lq.cons ?_ (fun i hi=>?_) (fun w hw i hi hi2=>?_) (lq.cons ?_ (fun i hi=>?_) (fun w hw i hi hi2=>?_) (lq.cons ?_ (fun i hi=>?_) (fun w hw i hi hi2=>?_) hr4))
   ·refine J4.frame fun i hi=>?_
    have ho:=Eo i hi;have ho2:=ho.2;simp only[List.mem_cons,List.not_mem_nil,or_false,not_or] at ho2;exact key i (fun h=>hvs vN (by simp) i hi h) (fun h=>hvs vE (by simp) i hi h) ho.1 ho2.2.2.2 _ _ _
   ·exact⟨by have:=(Eo i hi).1;omega,(Eo i hi).2⟩
   ·have hvl:=(Eo i hi).1
    simp only[List.mem_cons,List.mem_append,List.not_mem_nil,or_false] at hw;rcases hw with rfl | rfl | hw
    ·simp only[AV.ids,List.mem_singleton] at hi2;omega
    ·simp only[AV.ids,List.mem_singleton] at hi2;omega
    ·exact hvs w (by simp;exact .inr (.inr hw)) i hi hi2
   ·refine .mk' ?_ (by simp)
    rw[aG,if_neg (by omega),aG,if_neg (by omega),aG,if_neg (by omega),mU _ q4E];exact k2
   ·simp only[AV.ids,List.mem_singleton] at hi
    subst hi;refine⟨by omega,?_⟩;simp only[List.mem_cons,List.not_mem_nil,or_false,not_or];omega
   ·simp only[AV.ids,List.mem_singleton] at hi
    subst hi;simp only[List.mem_cons] at hw;rcases hw with rfl | hw
    ·simp only[AV.ids,List.mem_singleton] at hi2;omega
    ·have:=(hr3.out w hw _ hi2).1;omega
   ·refine .mk' ?_ (by simp)
    rw[aG,if_neg (by omega),aG,if_neg (by omega),aG,if_pos rfl]
   ·simp only[AV.ids,List.mem_singleton] at hi
    subst hi;refine⟨by omega,?_⟩;simp only[List.mem_cons,List.not_mem_nil,or_false,not_or];omega
   ·simp only[AV.ids,List.mem_singleton] at hi
    subst hi;have:=(hr3.out w hw _ hi2).1;omega
  ·simp[bB,sU,k3];omega
  ·simp[bB,sU,k3];omega
  ·have hnew:=A.new
   simp only[List.append_nil,List.mem_cons,List.mem_append,List.not_mem_nil,or_false] at hw;rcases hw with rfl | rfl | rfl | hw | rfl
   ·exact hnew _ (by simp) i hi
   ·simp only[AV.ids,List.mem_singleton] at hi;omega
   ·simp only[AV.ids,List.mem_singleton] at hi;omega
   ·exact hnew w (by simp[hw]) i hi
   ·exact hnew _ (by simp) i hi
  ·have hnew:=A.new
   rw[key i (fun h=>by have:=hnew vN (by simp) i h;omega) (fun h=>by have:=hnew vE (by simp) i h;omega) (by omega) (by omega)];exact A.old i h1 h2 h3
  ·simp[bB,sU,k3];omega
 ·have:∀x:Nat,x≥54→j≠x:=fun x hx=>by omega
  simp[au,this]
structure OuI(bC:St)(id km b4 b5:Nat)(n:Net)(most:Int)(kd:Kd)(aP:AV)(i:Nat)(f:AF)(S:St)(st:qX)(v vN vE:AV)(rs:List AV):Prop where
 eq:om kd n most i=some st
 A:mP S bC id km b4 b5 n most st.1 st.2.1 st.2.2 v vN vE rs [] []
 e0:f 0=.ptr id 0 0
 e1:f 1=aP
 e4:f 4=.ptr b4 0 0
 e5:f 5=.ptr b5 0 0
 e6:f 6=aj i
 min:∀m,m < i→∀oq,om kd n most m=some oq→m≠oq.1.length
def Zt(bC:St)(id km b4 b5:Nat)(n:Net)(most:Int)(kd:Kd)(aP:AV)(i:Nat)(f:AF)(S:St):Prop:=∃st v vN vE rs,OuI bC id km b4 b5 n most kd aP i f S st v vN vE rs
theorem Zl7{P:Program}{um fT cf fe:FuncId}{cap:List AV}{bC:St}{id km b4 b5:Nat}{n:Net}{most:Int}{kd:Kd}(R:nT n)(Bq:JD P um fT n)(GH:RP P cf cap bC id km n most kd)
  (hend:∀set,Val n set→aN P fe [oU n,aA set] (aH (lC n set))) (hm1:1≤most) (El:most≤3000) {f:AF} {S:St} {Q:Exit→AF→St→Prop}
  (h0:Zt bC id km b4 b5 n most kd (.aP cf [] cap) 0 f S)
  (hk:∀f' S' st v vN vE rs,yG kd n most=some st→mP S' bC id km b4 b5 n most st.1 st.2.1 st.2.2 v vN vE rs [] []→f' 4=.ptr b4 0 0→f' 5=.ptr b5 0 0→Q .normal f' S')
  (hp:yG kd n most=none→∀f' S',Old bC S' id km→Q (pn (Ke fT)) f' S'):AW P (Wx um fe) Q f S:=by
 simp[Wx];refine BU most.toNat (Zt bC id km b4 b5 n most kd (.aP cf [] cap)) h0 ?_;rintro i f S hi ⟨st,v,vN,vE,rs,O⟩;have o:=I9 R hm1 i O.eq;have e0:=O.e0;have e1:=O.e1;have e6:=O.e6;have Em:=O.A.mg;obtain⟨J4,_⟩:=O.A.rows.head;have hlv:=J4.len;rw[List.length_map] at hlv;simp only[fq] at hlv;have hle:=o.le;have hsl:=o.ss.l;by_cases hlt:i < st.1.length
 ·have vD:(i:Int) < st.1.length:=by omega
  have hs0:(0:Int)≤n.signs:=by have:=R.s1;omega
  have hs4:n.signs≤400:=R.s2;have ab1:8*n.signs≤281474976710656:=by omega
  have Nu:n.signs≤9223372036854775807:=by omega
  obtain⟨set,hset⟩:∃set,st.1[i]? = some set:=⟨_,List.getElem?_eq_getElem hlt⟩;have hvs:Val n set:=o.ss.v set (by obtain⟨h1,h2⟩:=List.getElem?_eq_some_iff.mp hset;rw[←h2];exact List.getElem_mem h1);have JZ:om kd n most (i+1)=uN kd n most i st:=by simp only[om,O.eq]
  simp[e0,e6,Em,jW,hlv,hlt,DW,hs0,ab1,Nu];refine Zo8 (set:=set) R Bq GH El rfl o.ss hset (mP.row O.A (by omega) (by omega) (by simp)) ⟨?_,?_,?_,?_,?_,?_⟩ ?_ ?_ (fun f1 S1 ss1 r v1 hrow A1 I1 hpre=>?_) (fun hrow f1 S1 hold=>?_)
  ·simp[au,e0]
  ·simp[au,e1]
  ·simp[au,O.e4]
  ·simp[au,O.e5]
  ·simp[au,e6]
  ·simp[au]
  ·simp[au,aj]
  ·simp[au,aj]
  ·have hsr:uN kd n most i st=some (ss1,st.2.1++[r],st.2.2++[lC n set]):=by simp only[uN,hset,hrow]
   obtain⟨hok1,_,_⟩:=Qk (n:=n) (fun s=>Qu R hvs s) o.ss _ hrow
   have abj:ss1[i]? = some set:=by
    rw[hpre i hlt,←hset,List.getElem?_eq_getElem hlt]
   simp;refine Zjr El hok1 abj (hend set hvs) o.nx o.en A1 I1 (fun f2 S2 Zq Zp A2 hf2=>?_);have e6':f2 6=aj i:=by rw[hf2 6 (by omega)];exact I1.e6
   simp[e6'];rw[bI _ (by omega)];refine⟨by omega,(ss1,st.2.1++[r],st.2.2++[lC n set]),v1,Zq,Zp,rs++[.own _ 0 n.signs.toNat],⟨by rw[JZ,hsr],A2.up (by simp),?_,?_,?_,?_,?_,?_⟩⟩
   ·simp[au,hf2,I1.e0]
   ·simp[au,hf2,I1.e1]
   ·simp[au,hf2,I1.e4]
   ·simp[au,hf2,I1.e5]
   ·simp[au,aj]
   ·intro m hm' oq uo
    by_cases qN:m=i
    ·subst qN
     rw[O.eq] at uo;cases uo;omega
    ·exact O.min m (by omega) oq uo
  ·rw[Dm,Pw,Dm,Dm,Pw]
   refine hp ?_ _ _ hold;have hsr:uN kd n most i st=none:=by simp only[uN,hset,hrow]
   refine Zid R (most.toNat+1) 0 rfl i (Nat.zero_le _) (by rw[JZ,hsr]) (fun m _ h2 oq uo=>?_);by_cases qN:m=i
   ·subst qN
    rw[O.eq] at uo;cases uo;omega
   ·exact O.min m (by omega) oq uo
 ·have aaU:i=st.1.length:=by omega
  have vD:¬((i:Int) < st.1.length):=by omega
  simp[e0,e6,Em,jW,hlv,hlt];refine hk _ _ st v vN vE rs ?_ (O.A.up (by omega)) (by simp[au,O.e4]) (by simp[au,O.e5]);exact ZlB R hm1 (most.toNat+1) 0 rfl (by omega) i st (Nat.zero_le _) O.eq aaU (fun m _ h2=>O.min m h2)
theorem Zqn{P:Program}(yS:P.follows .mixedOrders=true){fall um fT cf fe:FuncId}(hall:Bv P fall (Le um fe) [.c 4 (some 3)] 2){cap:List AV}{bC:St}{id km:Nat}{n:Net}{most:Int}{kd:Kd}(R:nT n)(Bq:JD P um fT n)(GH:RP P cf cap bC id km n most kd)
  (hend:∀set,Val n set→aN P fe [oU n,aA set] (aH (lC n set))) (hm1:1≤most) (El:most≤3000) (M:wU bC id km n most [] (.sl true [])) {K:AV→St→Prop} {X:Value→St→Prop}
  (hK:∀st S' vN vE g,yG kd n most=some st→Old bC S' id km→(∀i k,g i=some k→S'.g i=some k∧bC.n≤i∧i < S'.n)→kI g vN (aX st.2.1)→kI g vE (iY st.2.2)→K (.agg [aj n.signs,vN,vE]) S') (hX:yG kd n most=none→∀S',Old bC S' id km→X (Ke fT) S'):oO P fall [.ptr id 0 0,.aP cf [] cap] bC K X:=by
 refine hall.EM yS rfl ?_;have Em:=M.g;have hv0:Val n [0]:=⟨fun x hx=>by simp at hx;subst hx;have:=R.n1;have:=R.len;omega,by simp⟩;have aaf:id≠bC.n:=by have:=M.lid;omega
 simp[AL,uF,uE,BM,BH,Le,Em,jW,jc,iR,aaf];refine oO.weak (args':=[.ptr id 0 0,aA [0]]) ?_ rfl (fun j h1 h2 E v hv=>?_)
 ·have A0:mP ⟨bC.n+1+8+3,((((⟨bC.n+1+8,((⟨bC.n+1,bC.g⟩:St).set bC.n (some (.arr 3 [.agg [.v (.int .i64 0),.sl true [],.sl true []]]))).g⟩:St).set (bC.n+1+6) (some (.arr 3 [.agg [.v (.int .i64 0),.sl true [],.sl true []]]))).set (bC.n+1+6) (some (.arr 3 [.agg [.v (.int .i64 n.signs),.sl true [],.sl true []]])))).g⟩ bC id km bC.n (bC.n+1+6) n most [] [] [] (.sl true []) (.sl true []) (.sl true []) [] [] []:=by
   have Za:=M.lid;have Zb:=M.vG;refine⟨?_,?_,?_,?_,?_,M.ne,M.lid,M.vG,Nat.le_refl _,by omega,by omega,by show bC.n < bC.n+1+8+3;omega,by show bC.n+1+6 < bC.n+1+8+3;omega,?_,fun i h1 h2 h3=>?_,by show bC.n≤bC.n+1+8+3;omega⟩
   ·rw[aG,if_neg (by omega),aG,if_neg (by omega),aG,if_neg (by omega)];exact M.g
   ·rw[aG,if_neg (by omega),aG,if_neg (by omega),aG,if_neg (by omega)];exact M.m
   ·rw[aG,if_neg (by omega),aG,if_neg (by omega),aG,if_pos rfl];rfl
   ·rw[aG,if_pos rfl];rfl
   ·refine lq.cons .nil (by simp[AV.ids]) (by simp[AV.ids]) (lq.cons .nil (by simp[AV.ids]) (by simp[AV.ids]) (lq.cons .nil (by simp[AV.ids]) (by simp[AV.ids]) .nil))
   ·intro w hw i hi
    simp only[List.append_nil,List.mem_cons,List.not_mem_nil,or_false,or_self] at hw;subst hw;simp[AV.ids] at hi
   ·rw[aG,if_neg (by omega),aG,if_neg (by omega),aG,if_neg (by omega)]
  refine Bq id km most [] _ [0] _ _ _ A0.mk' hv0 ⟨by simp,by simp;omega⟩ El (fun h=>by simp at h) (fun _ _ S1 v1 M1 F1 hv1=>?_) (fun _ h=>by simp at h;omega);have A1:=A0.num M1 F1 hv1;simp[zC,yF];refine Zl7 R Bq GH hend hm1 El ⟨([[0]],[],[]),v1,.sl true [],.sl true [],[],⟨rfl,A1.up (by simp),?_,?_,?_,?_,?_,fun m hm=>by omega⟩⟩ (fun f' S' st v vN vE rs CR A e4 e5=>?_) (fun CR f' S' hold=>?_)
  ·simp[au,bM]
  ·simp[au,bM,bU]
  ·simp[au]
  ·simp[au]
  ·simp[au,aj]
  ·have g4:=A.g4
   have g5:=A.g5;have h45:=A.n45;simp only[rQ] at g4;simp[Wt,e4,e5,g4,g5,bK,bV,RV.ev,gH,cK];have hold:=A.old;have SX:=A.jP;obtain⟨z1,z2⟩:=A.Nc (g:=fun i=>if bC.n≤i∧i≠bC.n∧i < S'.n then S'.g i else none) (fun i h1 h2 h3=>if_pos ⟨h1,h2,h3⟩);refine hK st _ vN vE _ CR ⟨by simp only[bB];omega,fun i h1 h2 h3=>?_⟩ (fun i k e=>?_) z1 z2
   ·rw[aG,if_neg (by omega)];exact hold i h1 h2 h3
   ·have e:(if bC.n≤i∧i≠bC.n∧i < S'.n then S'.g i else none)=some k:=e
    split at e
    ·rename_i h;exact⟨by rw[aG,if_neg h.2.1];exact e,h.1,by rw[bB];show i < S'.n+2;omega⟩
    ·cases e
  ·simp[Dm,Zkk]
   exact hX CR _ hold
 ·match j with
  | 0=>exact hv
  | 1=>exact hv.loose
  | j+2=>simp at h1;omega
end Go.Rf
