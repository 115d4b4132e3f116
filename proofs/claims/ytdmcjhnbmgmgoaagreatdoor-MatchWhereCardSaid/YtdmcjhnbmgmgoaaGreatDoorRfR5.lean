import Derived.Test.YtdmcjhnbmgmgoaaGreatDoorRfZ1
import Derived.Test.YtdmcjhnbmgmgoaaGreatDoorProg
import Derived.Ground.NamesProg
import Derived.Ground.Names2Prog
import Derived.Shelf.Sort.Plain
import Derived.Shelf.Slices.CompactI
import Derived.Shelf.Strings.BuilderK
import Derived.Shelf.Strconv.Itoa3
import Derived.Shelf.LaysM
import Derived.Lib.AppendIntMem
import Derived.KernelRfl
set_option linter.unusedVariables false
set_option linter.unusedSimpArgs false
set_option linter.unusedSectionVars false
namespace Go.Rf
open Go.RowKit
attribute [local simp] mh lW l7 mP mQ mU mR l9 mX mO mJ eG iB iU iy iR iN iM iT iO gG iP fH iF iQ iE eT eU gD ig je jf gZ jk fU fQ fE eO gV gW gX gP gQ jg iV iH jc iX iZ iY jd jh iK iq gT gU gM iw dO eP gI iL ji ex aH fF dF eY cK dn aL bT fJ gH eZ gN iD iC iW iJ bS dN dV fZ fV gY fu bD bX dL eH dz gu fC gB gq gy fM dA eX eB d9 bB AV.solid S0 ah aD
def Zuw(n:Nat)(I:Nat→AF→St→Prop)(k:Nat):AF→St→Prop:=fun f S=>k < n∧I (k+1) f S
theorem y7{P:Program}{x:AC}{Q:Exit→AF→St→Prop}{f:AF}{S:St}(n:Nat)(I:Nat→AF→St→Prop)(h0:I 0 f S)(h:∀k f S,k≤n→I k f S→AW P x (nR (Zuw n I k) Q) f S):AW P (.loop x) Q f S:=by
 refine FP (fun m f S=>∃k,k≤n∧m=n - k∧I k f S) n ⟨0,by omega,by omega,h0⟩ ?_;rintro m f S ⟨k,hk,rfl,hi⟩;refine Cu _ (fun e a S' hq=>?_) (h k f S hk hi);cases e<;>simp only[nR] at hq ⊢<;>first | exact hq | skip
 obtain⟨h1,h2⟩:=hq;exact⟨n - (k+1),by omega,k+1,by omega,rfl,h2⟩
def Vh:AC:= (sq [ro 4 (.mv (ci 0))] (.seq (sq [rm 6 0,ro 7 (.len (.t 6)),ro 8 (.mv (ci 0))] (.block 0 (.loop (sq [ro 9 (.bin .lss (.t 8) (.t 7))] (.seq (.cond (.t 9) .skip (.exit 0)) (.seq (.block 1 (sq [rm 10 8,rm 5 10] (sq [rm 11 1,rm 12 0,rm 13 5,ro 14 (.aM 1 (.t 12) (.t 13)),rL 15 14,ro 16 (.bin .eql (.t 11) (.t 15))] (.cond (.t 16) (sq [rm 17 5,rm 4 17] .ret) .skip)))) (.reg none [ro 18 (.bin .add (.t 8) (ci 1)),rm 8 18]))))))) (sq [ro 4 (.mv (ci (-1)))] .ret)))
def Vb(P2z:FuncId):AC:= (sq [ro 4 (.mv (.c (.v (.bool false))))] (sq [rm 5 0,rm 6 1,rk 7 P2z [(.t 5),(.t 6)],ro 8 (.bin .geq (.t 7) (ci 0)),rm 4 8] .ret))
def Pv:AC:= (sq [ro 4 (.mv (.c (.v (.bool false))))] (.seq (sq [rm 6 0,ro 7 (.len (.t 6)),rm 8 1,ro 9 (.len (.t 8)),ro 10 (.bin .neq (.t 7) (.t 9))] (.cond (.t 10) (sq [ro 4 (.mv (.c (.v (.bool false))))] .ret) .skip)) (.seq (sq [rm 11 0,ro 12 (.len (.t 11)),ro 13 (.mv (ci 0))] (.block 0 (.loop (sq [ro 14 (.bin .lss (.t 13) (.t 12))] (.seq (.cond (.t 14) .skip (.exit 0)) (.seq (.block 1 (sq [rm 15 13,rm 5 15] (.seq (.reg (some []) [rm 16 0,rm 17 5,ro 18 (.aM 1 (.t 16) (.t 17)),rL 19 18,rm 20 1,rm 21 5,ro 22 (.aM 1 (.t 20) (.t 21)),rL 23 22,ro 24 (.bin .neq (.t 19) (.t 23))]) (.cond (.t 24) (sq [ro 4 (.mv (.c (.v (.bool false))))] .ret) .skip)))) (.reg none [ro 25 (.bin .add (.t 13) (ci 1)),rm 13 25]))))))) (sq [ro 4 (.mv (.c (.v (.bool true))))] .ret))))
def LG:AC:= (sq [ro 4 (.mv (.c (.v (.bool false))))] (.seq (sq [ro 5 (.mv (ci 0))] (.block 0 (.loop (.seq (sq [rm 6 5,rm 7 0,ro 8 (.len (.t 7)),ro 9 (.bin .lss (.t 6) (.t 8))] (.cond (.t 9) .skip (.exit 0))) (.seq (.block 1 (sq [rm 12 0,rm 13 5,ro 14 (.aM 1 (.t 12) (.t 13)),rL 15 14,rm 16 1,ro 17 (.bin .eql (.t 15) (.t 16))] (.cond (.t 17) (sq [ro 4 (.mv (.c (.v (.bool true))))] .ret) .skip))) (.reg none [rm 10 5,ro 11 (.bin .add (.t 10) (ci 1)),rm 5 11])))))) (sq [ro 4 (.mv (.c (.v (.bool false))))] .ret)))
def Py(Ce:FuncId):AC:= (sq [ro 4 (.mv (.c (.v (.bool false))))] (.seq (sq [rm 6 0,ro 7 (.len (.t 6)),rm 8 1,ro 9 (.len (.t 8)),ro 10 (.bin .neq (.t 7) (.t 9))] (.cond (.t 10) (sq [ro 4 (.mv (.c (.v (.bool false))))] .ret) .skip)) (.seq (sq [ro 5 (.mv (ci 0))] (.block 0 (.loop (.seq (sq [rm 11 5,rm 12 0,ro 13 (.len (.t 12)),ro 14 (.bin .lss (.t 11) (.t 13))] (.cond (.t 14) .skip (.exit 0))) (.seq (.block 1 (.seq (.reg (some []) [rm 17 0,rm 18 5,ro 19 (.aM 1 (.t 17) (.t 18)),rL 20 19,rm 21 1,rm 22 5,ro 23 (.aM 1 (.t 21) (.t 22)),rL 24 23,rk 25 Ce [(.t 20),(.t 24)],ro 26 (.un .not (.t 25))]) (.cond (.t 26) (sq [ro 4 (.mv (.c (.v (.bool false))))] .ret) .skip))) (.reg none [rm 15 5,ro 16 (.bin .add (.t 15) (ci 1)),rm 5 16])))))) (sq [ro 4 (.mv (.c (.v (.bool true))))] .ret))))
def P9(KV zU zT:FuncId):AC:= (sq [ro 2 (.mv (.c (.sl true [])))] (sq [rm 3 0,rk 4 KV [(.t 3)],rm 0 4] (sq [rm 5 0,rk 6 zU [(.t 5)]] (sq [rm 7 0,rk 8 zT [(.t 7)],rm 2 8] .ret))))
def IL(rT P2y:FuncId):AC:= (sq [ro 6 (.mv (.c (.v (.bool false))))] (sq [rm 7 0,ro 8 (.len (.t 7)),ro 9 (.bin .eql (.t 8) (ci 0)),rm 10 9,rg 11 10 false (.mv (.t 0)),rg 12 10 false (.aM 1 (.t 11) (ci 0)),rg 13 10 false (.load none (.t 12)),rg 14 10 false (.mv (.t 1)),rg 15 10 false (.bin .geq (.t 13) (.t 14)),rg 16 10 false (.mv (.t 15)),rg 17 16 true (.mv (.t 0)),rg 18 16 true (.mv (.t 0)),rg 19 16 true (.len (.t 18)),rg 20 16 true (.bin .sub (.t 19) (ci 1)),rg 21 16 true (.aM 1 (.t 17) (.t 20)),rg 22 16 true (.load none (.t 21)),rg 23 16 true (.mv (.t 2)),rg 24 16 true (.bin .lss (.t 22) (.t 23)),rg 25 10 false (.pick (.t 16) (.t 24) (.c (.v (.bool false)))),rg 26 10 false (.mv (.t 25)),rg 27 26 true (.mv (.t 0)),rg 28 26 true (.mv (.t 0)),rl 29 26 true rT [(.t 28)],rl 30 26 true P2y [(.t 27),(.t 29)],rg 31 10 false (.pick (.t 26) (.t 30) (.c (.v (.bool false)))),ro 32 (.pick (.t 10) (.c (.v (.bool true))) (.t 31)),rm 6 32] .ret))
def Z8l:AC:= (sq [ro 6 (.mv (.c (.v (.bool false))))] (.seq (sq [ro 7 (.mv (ci 0))] (.block 0 (.loop (.seq (sq [rm 8 7,rm 9 0,ro 10 (.len (.t 9)),ro 11 (.bin .lss (.t 8) (.t 10))] (.cond (.t 11) .skip (.exit 0))) (.seq (.block 1 (.seq (.reg (some []) [rm 14 0,rm 15 7,ro 16 (.aM 1 (.t 14) (.t 15)),rL 17 16,rm 18 1,ro 19 (.bin .lss (.t 17) (.t 18)),rm 20 19,rg 21 20 false (.mv (.t 0)),rg 22 20 false (.mv (.t 7)),rg 23 20 false (.aM 1 (.t 21) (.t 22)),rg 24 20 false (.load none (.t 23)),rg 25 20 false (.mv (.t 2)),rg 26 20 false (.bin .geq (.t 24) (.t 25)),ro 27 (.pick (.t 20) (.c (.v (.bool true))) (.t 26)),rm 28 27,rg 29 28 false (.mv (.t 7)),rg 30 28 false (.bin .gtr (.t 29) (ci 0)),rg 31 28 false (.mv (.t 30)),rg 32 31 true (.mv (.t 0)),rg 33 31 true (.mv (.t 7)),rg 34 31 true (.bin .sub (.t 33) (ci 1)),rg 35 31 true (.aM 1 (.t 32) (.t 34)),rg 36 31 true (.load none (.t 35)),rg 37 31 true (.mv (.t 0)),rg 38 31 true (.mv (.t 7)),rg 39 31 true (.aM 1 (.t 37) (.t 38)),rg 40 31 true (.load none (.t 39)),rg 41 31 true (.bin .geq (.t 36) (.t 40)),rg 42 28 false (.pick (.t 31) (.t 41) (.c (.v (.bool false)))),ro 43 (.pick (.t 28) (.c (.v (.bool true))) (.t 42))]) (.cond (.t 43) (sq [ro 6 (.mv (.c (.v (.bool false))))] .ret) .skip))) (.reg none [rm 12 7,ro 13 (.bin .add (.t 12) (ci 1)),rm 7 13])))))) (sq [ro 6 (.mv (.c (.v (.bool true))))] .ret)))
theorem Zom(l:List Int)(x:Int):l.any (fun y=>x == y)=l.contains x:=by
 rw[Bool.eq_iff_iff];simp
def ixI(l:List Int)(x:Int)(i:Nat)(f:AF)(S:St):Prop:=f 8=ah i∧f 7=ah l.length∧f 0=aj l∧f 1=ah x∧∀k (h:k < l.length),k < i→l[k]≠x
theorem ZaI{P:Program}(l:List Int)(x:Int)(hl:Len l):AW P Vh (dw [4] (dM (ah (su (fun y=>x == y) l)))) (bF [aj l,ah x]) S0:=by
 unfold Len at hl;simp[Vh,aj];refine y7 l.length (ixI l x) ?_ ?_
 ·refine⟨?_,?_,?_,?_,by omega⟩<;>simp[aH,cK,dn,ah,aj]
 ·rintro i f S hi ⟨e8,e7,e0,e1,hq⟩
  by_cases hlt:i < l.length
  ·by_cases hb:x=l[i]
   ·have hi2:su (fun y=>x == y) l=i:=by
     have h1:l.any (fun y=>x == y)=true:=List.any_eq_true.mpr ⟨_,List.getElem_mem hlt,by simp[hb]⟩;have h2:l.findIdx (fun y=>x == y)=i:=(List.findIdx_eq hlt).mpr ⟨by simp[hb],fun j hj=>by have:=hq j (by omega) hj;simp;exact fun e=>this e.symm⟩;simp[su,h1,h2]
    have hb2:(x == l[i])=true:=by simp[hb]
    simp[e8,e7,e0,e1,hlt,aj,hb2];simp[hi2];exact zh _ _
   ·have hb2:(x == l[i])=false:=by simp[hb]
    simp[e8,e7,e0,e1,hlt,aj,hb2];rw[bE _ (by omega)];refine⟨hlt,?_,?_,?_,?_,fun k h hk=>?_⟩
    ·simp[aH,ah]
    ·simp[aH,e7]
    ·simp[aH,e0]
    ·simp[aH,e1]
    ·by_cases hki:k=i
     ·subst hki;exact fun e=>hb e.symm
     ·exact hq k h (by omega)
  ·have hi2:su (fun y=>x == y) l = -1:=by
    have h1:l.any (fun y=>x == y)=false:=by
     rw[List.any_eq_false];intro y hy;obtain⟨k,hk,rfl⟩:=List.mem_iff_getElem.mp hy;have:=hq k hk (by omega);simp;exact fun e=>this e.symm
    simp[su,h1]
   simp[e8,e7,hlt,hi2];exact zh _ _
theorem Z96{P:Program}{fi:FuncId}(l:List Int)(x:Int)(h:aJ P fi [aj l,ah x] (ah (su (fun y=>x == y) l))):AW P (Vb fi) (dw [4] (dM (aD (l.contains x)))) (bF [aj l,ah x]) S0:=by
 simp[Vb];refine aN.pure h (aG (aT _) (aG (aW _) aQ)) (aW _) ?_;simp;have e:decide (x∈l)=decide (0≤su (fun y=>x == y) l):=by rw[Zc8,Zom];simp
 rw[e];exact bO _ _
def Zv3(l:List Int)(x:Int)(i:Nat)(f:AF)(S:St):Prop:=f 5=ah i∧f 0=aj l∧f 1=ah x∧∀k (h:k < l.length),k < i→l[k]≠x
theorem ZjB{P:Program}(l:List Int)(x:Int)(hl:Len l):AW P LG (dw [4] (dM (aD (l.contains x)))) (bF [aj l,ah x]) S0:=by
 unfold Len at hl;simp[LG,aj];refine y7 l.length (Zv3 l x) ?_ ?_
 ·refine⟨?_,?_,?_,by omega⟩<;>simp[aH,cK,dn,ah,aj]
 ·rintro i f S hi ⟨e5,e0,e1,hq⟩
  by_cases hlt:i < l.length
  ·by_cases hb:l[i]=x
   ·have h1:x∈l:=by rw[←hb];exact List.getElem_mem hlt
    have hb2:(l[i] == x)=true:=by simp[hb]
    simp[e5,e0,e1,hlt,aj,hb2,h1];exact bO _ _
   ·have hb2:(l[i] == x)=false:=by simp[hb]
    simp[e5,e0,e1,hlt,aj,hb2];rw[bE _ (by omega)];refine⟨hlt,?_,?_,?_,fun k h hk=>?_⟩
    ·simp[aH,ah]
    ·simp[aH,e0,aj]
    ·simp[aH,e1]
    ·by_cases hki:k=i
     ·subst hki;exact hb
     ·exact hq k h (by omega)
  ·have h1:x∉l:=by
    intro hy;obtain⟨k,hk,rfl⟩:=List.mem_iff_getElem.mp hy;exact hq k hk (by omega) rfl
   simp[e5,e0,hlt,aj,h1];exact bO _ _
def eqI(a b:List Int)(i:Nat)(f:AF)(S:St):Prop:=f 13=ah i∧f 12=ah a.length∧f 0=aj a∧f 1=aj b∧a.take i=b.take i
theorem ZaH{P:Program}(a b:List Int)(ha:Len a)(hb:Len b):AW P Pv (dw [4] (dM (aD (a == b)))) (bF [aj a,aj b]) S0:=by
 unfold Len at ha hb;by_cases hl:a.length=b.length
 ·simp[Pv,aj,hl]
  refine y7 a.length (eqI a b) ?_ ?_
  ·refine⟨?_,?_,?_,?_,?_⟩<;>simp[aH,cK,dn,ah,aj,hl]
  ·rintro i f S hi ⟨e13,e12,e0,e1,hp⟩
   by_cases hlt:i < a.length
   ·have hlb:i < b.length:=by omega
    by_cases he:a[i]=b[i]
    ·simp[e13,e12,e0,e1,aj,hlt,hlb,he]
     rw[bE _ (by omega)];refine⟨hlt,?_,?_,?_,?_,?_⟩<;>try simp[aH,e12,e0,e1,ah,aj]
     rw[List.take_add_one,List.take_add_one,hp,List.getElem?_eq_getElem hlt,List.getElem?_eq_getElem hlb,he]
    ·have hr:(a == b)=false:=beq_false_of_ne (by rintro rfl;exact he rfl)
     have hc:(a[i] != b[i])=true:=by simp[he]
     simp[e13,e12,e0,e1,aj,hlt,hlb,hc,hr];exact bO false _
   ·have hab:a=b:=by
     rw[List.take_of_length_le (by omega),List.take_of_length_le (by omega)] at hp;exact hp
    have hr:(a == b)=true:=by simp[hab]
    simp[e13,e12,hlt,hr];exact bO true _
 ·have hr:(a == b)=false:=beq_false_of_ne (by rintro rfl;exact hl rfl)
  have hc:((a.length:Int) != b.length)=true:=by simp;omega
  simp[Pv,aj,hc,hr];exact bO false _
def liI(a b:List (List Int))(i:Nat)(f:AF)(S:St):Prop:=f 5=ah i∧f 0=aU a∧f 1=aU b∧a.take i=b.take i
theorem ZeI{P:Program}{g:FuncId}(a b:List (List Int))(ha:Len a)(hb:Len b)(h:∀x∈a,∀y∈b,aJ P g [aj x,aj y] (aD (x == y))):AW P (Py g) (dw [4] (dM (aD (a == b)))) (bF [aU a,aU b]) S0:=by
 unfold Len at ha hb;by_cases hl:a.length=b.length
 ·simp[Py,aU,hl]
  refine y7 a.length (liI a b) ?_ ?_
  ·refine⟨?_,?_,?_,?_⟩<;>simp[aH,cK,dn,ah,aU]
  ·rintro i f S hi ⟨e5,e0,e1,hp⟩
   by_cases hlt:i < a.length
   ·have hlb:i < b.length:=by omega
    have hh:=h a[i] (List.getElem_mem hlt) b[i] (List.getElem_mem hlb);have hcl:=aG (aT a[i]) (aG (aT b[i]) aQ);simp only[aj] at hh hcl;have hd:∀n g',mZ P g [.sl false ((a[i]).map ah),.sl false ((b[i]).map ah)] ⟨n,g'⟩ [] (aD (a[i] == b[i])):=fun n g'=>mZ.kl hh hcl (dY _)
    simp[e5,e0,e1,aU,hlt,hlb,aj];refine⟨_,⟨_,hd _ _⟩,?_⟩;by_cases he:a[i]=b[i]
    ·simp[e5,he]
     rw[bE _ (by omega)];refine⟨hlt,?_,?_,?_,?_⟩<;>try simp[aH,e0,e1,ah,aU]
     rw[List.take_add_one,List.take_add_one,hp,List.getElem?_eq_getElem hlt,List.getElem?_eq_getElem hlb,he]
    ·have hr:(a == b)=false:=beq_false_of_ne (by rintro rfl;exact he rfl)
     have hc:(a[i] == b[i])=false:=by simp[he]
     simp[hc,hr];exact bO false _
   ·have hab:a=b:=by
     rw[List.take_of_length_le (by omega),List.take_of_length_le (by omega)] at hp;exact hp
    have hr:(a == b)=true:=by simp[hab]
    simp[e5,e0,aU,hlt,hr];exact bO true _
 ·have hr:(a == b)=false:=beq_false_of_ne (by rintro rfl;exact hl rfl)
  have hc:((a.length:Int) != b.length)=true:=by simp;omega
  simp[Py,aU,hc,hr];exact bO false _
structure Zvt(P:Program)(fc fs fm:FuncId):Prop where
 clone:xw P fc (q8 1 8 (.v (.int .i64 0))) [.t 2] 1
 sort:MQ P fs
 comp:MN P fm
 Fj:aJ P fs [.sl true []] (.aO [])
 Fh:aJ P fm [.sl true []] (.sl true [])
theorem ZfG{P:Program}{fc fs fm:FuncId}(H:Zvt P fc fs fm)(l:List Int)(hl:l.length≤17592186043904):AW P (P9 fc fs fm) (dw [2] (dM (aj (jo l)))) (bF [aj l]) S0:=by
 have hm:(l.mergeSort fun x y=>decide (x≤y)).length=l.length:=List.length_mergeSort _;by_cases h0:l=[]
 ·subst h0
  have hs0:jo []=[]:=List.eq_nil_of_length_eq_zero (by have:=W9 [];simpa using this);rw[hs0];simp[P9,aj];refine H.clone rfl ?_;have hb:dN 1 0 (.v (.int .i64 0)) []=some (.sl true []):=VG _ _
  have hr:∀n aA,(kP 1 8 (.sl true []) (.sl false [])).run ⟨n,fun _=>none⟩ aA=some (.sl true [],⟨n,fun _=>none⟩):=by
   intro n aA;simp[kP,lD,AV.ku,Eff.run,St.dX,St.fP,bY]
  simp[q8,hr];refine⟨[.sl true []],by simp[bP,RV.ev,aH],?_⟩;simp[bV];refine aN.pure H.Fj (aG (.sl _ _ (by simp)) aQ) (.aO _ (by simp)) ?_;simp;refine aN.pure H.Fh (aG (.sl _ _ (by simp)) aQ) (.sl _ _ (by simp)) ?_;simp;exact .loose true [] (.sl _ _ (by simp))
 ·have hne:0 < l.length:=List.length_pos_iff.mpr h0
  have hls:=List.length_mergeSort l (le:=fun x y=>decide (x≤y))
  have hne2:(l.mergeSort fun x y=>decide (x≤y))≠[]:=by
   intro e;rw[e] at hm;simp at hm;omega
  simp[P9,aj];refine H.clone rfl ?_;have hb:dN 1 0 (.v (.int .i64 0)) []=some (.sl true []):=VG _ _
  have hr:∀n aA,(kP 1 8 (.sl true []) (.sl false (l.map ah))).run ⟨n,fun _=>none⟩ aA=some (.own aA 0 l.length,(⟨n,fun _=>none⟩:St).set aA (some (.arr 1 (l.map ah)))):=by
   intro n aA;have hc:=QE l;have ha:bY 8 0 l.length:=by unfold bY;omega
   have hc2:∀x∈l.map ah,x.cells.length=1:=hc;have h3:lD 1 [] (.sl false (l.map ah))=some (l.map ah):=by simp only[lD];rw[if_pos hc2]
   have h4:¬(l.map ah).length=0:=by simp;exact h0
   simp only[kP,Eff.run,AV.ku,List.mapM_nil,Option.pure_def,h3,Option.bind_some,List.length_nil,Nat.zero_add,List.length_map,ha,and_true];rw[if_pos (by simp),if_neg (by simpa using h0)];simp[St.dX,St.fP]
  simp[q8,hr];refine⟨[.own 9 0 l.length],by simp[bP,RV.ev,aH],?_⟩;simp[bV];refine H.sort _ _ 0 (l.map ah) l _ (by simp[aL]) (by simp) h0 hl ?_;simp;have e:l.length=(l.mergeSort fun x y=>decide (x≤y)).length:=hm.symm;rw[e];refine H.comp _ _ 0 ((l.mergeSort fun x y=>decide (x≤y)).map ah) _ _ (by simp[aL]) (by simp) hne2 (by omega) ?_;simp;exact(Vec.mk' (es:=1) (xs:=(jo l).map ah) (by simp[aL,jo]) (by simp[jo])).fz aW
theorem Zeb{P:Program}{fs fe:FuncId}(l:List Int)(a b:Int)(hl:l.length≤17592186043904)(h1:aJ P fs [aj l] (aj (jo l)))(h2:∀x y,Len x→Len y→aJ P fe [aj x,aj y] (aD (x == y))) :
  AW P (IL fs fe) (dw [6] (dM (aD (rZ l a b)))) (bF [aj l,ah a,ah b]) S0:=by
 by_cases h0:l=[]
 ·subst h0
  simp[IL,aj];exact bO _ _
 ·have hne:0 < l.length:=List.length_pos_iff.mpr h0
  have hn:((l.length:Int) == 0)=false:=by simp;exact h0
  have hf:l[0]? = some l[0]:=List.getElem?_eq_getElem hne;have hx:l[l.length - 1]? = some l[l.length - 1]:=List.getElem?_eq_getElem (by omega);have hw:=bE ((l.length:Int) - 1) (by omega);have hnn:(1:Int)≤(l.length:Int):=by omega
  by_cases hA:a≤l[0]
  ·by_cases hB:l[l.length - 1] < b
   ·have c1:=aG (aT l) aQ
    have c2:=aG (aT l) (aG (aT (jo l)) aQ);have k2:=h2 l (jo l) (by unfold Len;omega) (by unfold Len;have:=W9 l;omega);have c3:=aT (jo l);simp only[aj] at c1 c2 c3 h1 k2;simp[IL,aj,hn,hf,hA,hw,hnn,hx,hB];refine aN.pure h1 c1 c3 ?_;simp;refine aN.pure k2 c2 (dY _) ?_;simp
    have e:(l == jo l)=rZ l a b:=by
     rw[Bool.eq_iff_iff,FE,beq_iff_eq];constructor
     ·intro h
      have hp:=Zg1.mp h.symm;refine⟨hp,fun x hx=>?_⟩;obtain⟨k,hk,rfl⟩:=List.mem_iff_getElem.mp hx;have hpw:=List.pairwise_iff_getElem.mp hp;constructor
      ·by_cases e:k=0
       ·subst e;exact hA
       ·have:=hpw 0 k hne hk (by omega);omega
      ·by_cases e:k=l.length - 1
       ·subst e;exact hB
       ·have:=hpw k (l.length - 1) hk (by omega) (by omega);omega
     ·intro h;exact(Zg1.mpr h.1).symm
    rw[e];exact bO _ _
   ·have e:rZ l a b=false:=by
     cases hr:rZ l a b with
     | false=>rfl
     | true=>exact(hB ((FE.mp hr).2 _ (List.getElem_mem (by omega))).2).elim
    simp[IL,aj,hn,hf,hA,hw,hnn,hx,hB,e];exact bO _ _
  ·have e:rZ l a b=false:=by
    cases hr:rZ l a b with
    | false=>rfl
    | true=>exact(hA ((FE.mp hr).2 _ (List.getElem_mem hne)).1).elim
   simp[IL,aj,hn,hf,hA,e];exact bO _ _
def Wl(Lg:FuncId):AC:= (.block 0 (.loop (sq [ro 48 (.bin .lss (.t 47) (.t 46))] (.seq (.cond (.t 48) .skip (.exit 0)) (.seq (.block 1 (sq [rm 49 47,rm 4 49] (.seq (.reg (some []) [rF 50 1 1,rL 51 50,rm 52 4,ro 53 (.aM 1 (.t 51) (.t 52)),rL 54 53,rF 55 0 1,rL 56 55,rk 57 Lg [(.t 54),(ci 0),(.t 56)],ro 58 (.un .not (.t 57)),rm 59 58,rg 60 59 false (.cu 2 (.t 1)),rg 61 59 false (.load none (.t 60)),rg 62 59 false (.mv (.t 4)),rg 63 59 false (.aM 1 (.t 61) (.t 62)),rg 64 59 false (.load none (.t 63)),rg 65 59 false (.mv (.t 3)),rl 66 59 false Lg [(.t 64),(ci 1),(.t 65)],rg 67 59 false (.un .not (.t 66)),ro 68 (.pick (.t 59) (.c (.v (.bool true))) (.t 67))]) (.cond (.t 68) (sq [ro 2 (.mv (.c (.v (.bool false))))] .ret) .skip)))) (.reg none [ro 69 (.bin .add (.t 47) (ci 1)),rm 47 69]))))))
def Cj(Lg:FuncId):AC:= (sq [ro 1 (.box 4 (.t 0)),ro 2 (.mv (.c (.v (.bool false))))] (sq [rF 5 1 1,rL 6 5,ro 7 (.len (.t 6)),rm 3 7] (.seq (sq [rF 8 0 1,rL 9 8,ro 10 (.bin .lss (.t 9) (ci 1)),rm 11 10,rg 12 11 false (.cu 0 (.t 1)),rg 13 11 false (.load none (.t 12)),rg 14 11 false (.bin .gtr (.t 13) (ci 400)),ro 15 (.pick (.t 11) (.c (.v (.bool true))) (.t 14)),rm 16 15,rg 17 16 false (.mv (.t 3)),rg 18 16 false (.bin .eql (.t 17) (ci 0)),ro 19 (.pick (.t 16) (.c (.v (.bool true))) (.t 18)),rm 20 19,rg 21 20 false (.mv (.t 3)),rg 22 20 false (.bin .gtr (.t 21) (ci 301)),ro 23 (.pick (.t 20) (.c (.v (.bool true))) (.t 22)),rm 24 23,rg 25 24 false (.cu 2 (.t 1)),rg 26 24 false (.load none (.t 25)),rg 27 24 false (.len (.t 26)),rg 28 24 false (.mv (.t 3)),rg 29 24 false (.bin .neq (.t 27) (.t 28)),ro 30 (.pick (.t 24) (.c (.v (.bool true))) (.t 29)),rm 31 30,rg 32 31 false (.cu 1 (.t 1)),rg 33 31 false (.load none (.t 32)),rg 34 31 false (.aM 1 (.t 33) (ci 0)),rg 35 31 false (.load none (.t 34)),rg 36 31 false (.len (.t 35)),rg 37 31 false (.bin .gtr (.t 36) (ci 0)),ro 38 (.pick (.t 31) (.c (.v (.bool true))) (.t 37)),rm 39 38,rg 40 39 false (.cu 3 (.t 1)),rg 41 39 false (.load none (.t 40)),rg 42 39 false (.mv (.t 3)),rl 43 39 false Lg [(.t 41),(ci 0),(.t 42)],rg 44 39 false (.un .not (.t 43)),ro 45 (.pick (.t 39) (.c (.v (.bool true))) (.t 44))] (.cond (.t 45) (sq [ro 2 (.mv (.c (.v (.bool false))))] .ret) .skip)) (.seq (sq [rm 46 3,ro 47 (.mv (ci 0))] (Wl Lg)) (sq [ro 2 (.mv (.c (.v (.bool true))))] .ret)))))
def ZkZ(KX:FuncId):AC:= (.block 0 (.loop (.seq (sq [rm 46 4,rm 47 3,ro 48 (.bin .lss (.t 46) (.t 47))] (.cond (.t 48) .skip (.exit 0))) (.seq (.block 1 (.seq (.reg (some []) [rF 51 1 1,rL 52 51,rm 53 4,ro 54 (.aM 1 (.t 52) (.t 53)),rL 55 54,rF 56 0 1,rL 57 56,rk 58 KX [(.t 55),(ci 0),(.t 57)],ro 59 (.un .not (.t 58)),rm 60 59,rg 61 60 false (.cu 2 (.t 1)),rg 62 60 false (.load none (.t 61)),rg 63 60 false (.mv (.t 4)),rg 64 60 false (.aM 1 (.t 62) (.t 63)),rg 65 60 false (.load none (.t 64)),rg 66 60 false (.mv (.t 3)),rl 67 60 false KX [(.t 65),(ci 1),(.t 66)],rg 68 60 false (.un .not (.t 67)),ro 69 (.pick (.t 60) (.c (.v (.bool true))) (.t 68))]) (.cond (.t 69) (sq [ro 2 (.mv (.c (.v (.bool false))))] .ret) .skip))) (.reg none [rm 49 4,ro 50 (.bin .add (.t 49) (ci 1)),rm 4 50])))))
def Z8Z(KX:FuncId):AC:= (sq [ro 1 (.box 4 (.t 0)),ro 2 (.mv (.c (.v (.bool false))))] (sq [rF 5 1 1,rL 6 5,ro 7 (.len (.t 6)),rm 3 7] (.seq (sq [rF 8 0 1,rL 9 8,ro 10 (.bin .lss (.t 9) (ci 1)),rm 11 10,rg 12 11 false (.cu 0 (.t 1)),rg 13 11 false (.load none (.t 12)),rg 14 11 false (.bin .gtr (.t 13) (ci 400)),ro 15 (.pick (.t 11) (.c (.v (.bool true))) (.t 14)),rm 16 15,rg 17 16 false (.mv (.t 3)),rg 18 16 false (.bin .lss (.t 17) (ci 1)),ro 19 (.pick (.t 16) (.c (.v (.bool true))) (.t 18)),rm 20 19,rg 21 20 false (.mv (.t 3)),rg 22 20 false (.bin .gtr (.t 21) (ci 301)),ro 23 (.pick (.t 20) (.c (.v (.bool true))) (.t 22)),rm 24 23,rg 25 24 false (.cu 2 (.t 1)),rg 26 24 false (.load none (.t 25)),rg 27 24 false (.len (.t 26)),rg 28 24 false (.mv (.t 3)),rg 29 24 false (.bin .neq (.t 27) (.t 28)),ro 30 (.pick (.t 24) (.c (.v (.bool true))) (.t 29)),rm 31 30,rg 32 31 false (.cu 1 (.t 1)),rg 33 31 false (.load none (.t 32)),rg 34 31 false (.aM 1 (.t 33) (ci 0)),rg 35 31 false (.load none (.t 34)),rg 36 31 false (.len (.t 35)),rg 37 31 false (.bin .gtr (.t 36) (ci 0)),ro 38 (.pick (.t 31) (.c (.v (.bool true))) (.t 37)),rm 39 38,rg 40 39 false (.cu 3 (.t 1)),rg 41 39 false (.load none (.t 40)),rg 42 39 false (.mv (.t 3)),rl 43 39 false KX [(.t 41),(ci 0),(.t 42)],rg 44 39 false (.un .not (.t 43)),ro 45 (.pick (.t 39) (.c (.v (.bool true))) (.t 44))] (.cond (.t 45) (sq [ro 2 (.mv (.c (.v (.bool false))))] .ret) .skip)) (.seq (sq [ro 4 (.mv (ci 0))] (ZkZ KX)) (sq [ro 2 (.mv (.c (.v (.bool true))))] .ret)))))
structure Net where
 signs:Int
 au:List (List Int)
 follow:List (List Int)
 last:List Int
 deriving DecidableEq
def jA(n:Net):AV:=.agg [ah n.signs,aU n.au,aU n.follow,aj n.last]
theorem Cm(n:Net):aY (jA n):=.agg _ (by
 intro y hy;simp only[List.mem_cons,List.not_mem_nil,or_false] at hy;rcases hy with rfl | rfl | rfl | rfl
 ·exact aW _
 ·exact jR _
 ·exact jR _
 ·exact aT _)
structure Zsv(n:Net):Prop where
 au:Len n.au
 follow:Len n.follow
 last:Len n.last
 byr:∀r∈n.au,Len r
 P6e:∀r∈n.follow,Len r
def qC(n:Net):Bool:=decide (1≤n.signs) && decide (n.signs≤400) && decide (1≤n.au.length) && decide (n.au.length≤301) && decide (n.follow.length=n.au.length) && decide ((n.au.getD 0 []).length=0) && rZ n.last 0 n.au.length &&
 (List.range n.au.length).all fun i=>rZ (n.au.getD i []) 0 n.signs && rZ (n.follow.getD i []) 1 n.au.length
structure mY(n:Net):Prop where
 s1:1≤n.signs
 s2:n.signs≤400
 n1:1≤n.au.length
 n2:n.au.length≤301
 len:n.follow.length=n.au.length
 by0:n.au.getD 0 []=[]
 last:Ea n.last 0 n.au.length
 au:∀i (h:i < n.au.length),Ea n.au[i] 0 n.signs
 follow:∀i (h:i < n.follow.length),Ea n.follow[i] 1 n.au.length
theorem Bh(n:Net):qC n=true↔mY n:=by
 simp only[qC,Bool.and_eq_true,decide_eq_true_eq,List.all_eq_true,List.mem_range,FE];constructor
 ·rintro⟨⟨⟨⟨⟨⟨⟨h1,h2⟩,h3⟩,h4⟩,h5⟩,h6⟩,h7⟩,h8⟩
  refine⟨h1,h2,h3,h4,h5,List.eq_nil_of_length_eq_zero h6,h7,fun i h=>?_,fun i h=>?_⟩
  ·have:=(h8 i h).1
   rw[List.getD_eq_getElem?_getD,List.getElem?_eq_getElem h] at this;exact this
  ·have:=(h8 i (by omega)).2
   rw[List.getD_eq_getElem?_getD,List.getElem?_eq_getElem h] at this;exact this
 ·intro h
  refine⟨⟨⟨⟨⟨⟨⟨h.s1,h.s2⟩,h.n1⟩,h.n2⟩,h.len⟩,by rw[h.by0];rfl⟩,h.last⟩,fun i hi=>⟨?_,?_⟩⟩
  ·have:=h.au i hi
   rw[List.getD_eq_getElem?_getD,List.getElem?_eq_getElem hi];exact this
  ·have hi2:i < n.follow.length:=by rw[h.len];exact hi
   have:=h.follow i hi2;rw[List.getD_eq_getElem?_getD,List.getElem?_eq_getElem hi2];exact this
theorem DK{n:Net}{x:Prop}(hx:¬x)(h:mY n→x):qC n=false:=by
 cases hr:qC n with
 | false=>rfl
 | true=>exact(hx (h ((Bh n).mp hr))).elim
def Net.rows(n:Net):List (List Int):=n.last::(n.au++n.follow)
def Ei(n:Net)(i:Nat):Bool:=rZ (n.au.getD i []) 0 n.signs && rZ (n.follow.getD i []) 1 n.au.length
def Zvs(P:Program)(fl:FuncId)(n:Net):Prop:=∀l∈n.rows,∀a b,aJ P fl [aj l,ah a,ah b] (aD (rZ l a b))
theorem Zro{P:Program}{fl:FuncId}{n:Net}(hl:Zvs P fl n)(hlen:n.follow.length=n.au.length)(hk:n.au.length≤301){f:AF}{S:St}{Q:Exit→AF→St→Prop}(e1:f 1=.ptr 0 0 0)(e3:f 3=ah n.au.length)(e46:f 46=ah n.au.length)(ei:f 47=ah 0)
  (g0:S.g 0=some (.arr 4 [jA n])) (h1:(∀i,i < n.au.length→Ei n i=true)→∀f' S',Q .normal f' S') (h2:(¬∀i,i < n.au.length→Ei n i=true)→∀f' S',f' 2=aD false→Q .ret f' S'):AW P (Wl fl) Q f S:=by
 simp[Wl];refine y7 n.au.length (fun i f S=>f 1=.ptr 0 0 0∧f 3=ah n.au.length∧(f 46=ah n.au.length)∧f 47=ah i∧S.g 0=some (.arr 4 [jA n])∧∀j,j < i→Ei n j=true) ?_ ?_
 ·exact⟨e1,e3,e46,ei,g0,by omega⟩
 ·rintro i f S hi ⟨e1,e3,e46,ei,g0,hq⟩
  simp only[jA,aU] at g0;by_cases hlt:i < n.au.length
  ·have hlf:i < n.follow.length:=by omega
   have gb:n.au.getD i []=n.au[i]:=by rw[List.getD_eq_getElem?_getD,List.getElem?_eq_getElem hlt];rfl
   have gf:n.follow.getD i []=n.follow[i]:=by rw[List.getD_eq_getElem?_getD,List.getElem?_eq_getElem hlf];rfl
   have k1:=hl n.au[i] (by simp[Net.rows]) 0 n.signs;have k2:=hl n.follow[i] (by simp[Net.rows]) 1 n.au.length;have c1:=aG (aT n.au[i]) (aG (aW 0) (aG (aW n.signs) aQ));have c2:=aG (aT n.follow[i]) (aG (aW 1) (aG (aW n.au.length) aQ));simp only[aj,ah] at k1 k2 c1 c2;have d1:∀m g',mZ P fl [.sl false ((n.au[i]).map ah),.v (.int .i64 0),.v (.int .i64 n.signs)] ⟨m,g'⟩ [] (aD (rZ n.au[i] 0 n.signs)):=fun m g'=>mZ.kl k1 c1 (dY _)
   have d2:∀m g',mZ P fl [.sl false ((n.follow[i]).map ah),.v (.int .i64 1),.v (.int .i64 n.au.length)] ⟨m,g'⟩ [] (aD (rZ n.follow[i] 1 n.au.length)):=fun m g'=>mZ.kl k2 c2 (dY _)
   simp[e1,e46,ei,g0,hlt,aj];refine⟨_,⟨_,d1 _ _⟩,?_⟩;cases hA:rZ n.au[i] 0 n.signs with
   | false=>
    simp;exact h2 (fun h=>by have:=h i hlt;rw[Ei,gb,hA] at this;cases this) _ _ (by simp[aH,aD])
   | true=>
    simp[e1,e3,g0,hlf,aj];refine⟨_,⟨_,d2 _ _⟩,?_⟩;cases hB:rZ n.follow[i] 1 n.au.length with
    | false=>
     simp;exact h2 (fun h=>by have:=h i hlt;rw[Ei,gb,gf,hA,hB] at this;cases this) _ _ (by simp[aH,aD])
    | true=>
     simp[ei];rw[bE _ (by omega)];refine⟨hlt,?_,?_,?_,?_,?_,fun j hj=>?_⟩
     ·simp[aH,e1]
     ·simp[aH,e3,ah]
     ·simp[aH,e46,ah]
     ·simp[aH]
     ·simp[g0,jA,aU,aj,ah]
     ·by_cases e:j=i
      ·subst e;rw[Ei,gb,gf,hA,hB];rfl
      ·exact hq j (by omega)
  ·simp[e46,ei,hlt]
   exact h1 (fun j hj=>hq j (by omega)) _ _
theorem ZcL{P:Program}{fl:FuncId}(n:Net)(ok:Zsv n)(hl:Zvs P fl n):AW P (Cj fl) (dw [2] (dM (aD (qC n)))) (bF [jA n]) S0:=by
 have l1:=ok.au;have l2:=ok.follow;unfold Len at l1 l2;by_cases h1:n.signs < 1
 ·have e:=DK (n:=n) (x:=1≤n.signs) (by omega) (fun h=>h.s1)
  simp[Cj,jA,aU,aj,h1,e];exact bO _ _
 by_cases h2:400 < n.signs
 ·have e:=DK (n:=n) (x:=n.signs≤400) (by omega) (fun h=>h.s2)
  simp[Cj,jA,aU,aj,h1,h2,e];exact bO _ _
 by_cases h3:n.au.length=0
 ·have e:=DK (n:=n) (x:=1≤n.au.length) (by omega) (fun h=>h.n1)
  have h3':((n.au.length:Int) == 0)=true:=by simp;exact List.eq_nil_of_length_eq_zero h3
  have aar:(n.au.length:Int) < 1:=by omega
  simp[Cj,jA,aU,h1,h2,h3',e];exact bO _ _
 have h3':((n.au.length:Int) == 0)=false:=by simp;exact fun e=>h3 (by simp[e])
 have aar:¬(n.au.length:Int) < 1:=by omega
 by_cases h4:(301:Int) < n.au.length
 ·have e:=DK (n:=n) (x:=n.au.length≤301) (by omega) (fun h=>h.n2)
  simp[Cj,jA,aU,h1,h2,h3',h4,e];exact bO _ _
 by_cases h5:¬(n.follow.length=n.au.length)
 ·have e:=DK (n:=n) h5 (fun h=>h.len)
  have h5':((n.follow.length:Int) != n.au.length)=true:=by simp;omega
  simp[Cj,jA,aU,h1,h2,h3',h4,h5',e];exact bO _ _
 have h5:n.follow.length=n.au.length:=Decidable.not_not.mp h5;have h5':((n.follow.length:Int) != n.au.length)=false:=by simp;omega
 have hlt:0 < n.au.length:=by omega
 have hg0:n.au[0]? = some n.au[0]:=List.getElem?_eq_getElem hlt;have gb:n.au.getD 0 []=n.au[0]:=by rw[List.getD_eq_getElem?_getD,hg0];rfl
 by_cases h6:(0:Int) < (n.au[0]).length
 ·have e:=DK (n:=n) (x:=n.au.getD 0 []=[]) (by rw[gb];intro h;rw[h] at h6;simp at h6) (fun h=>h.by0)
  have h6':0 < (n.au[0]).length:=by omega
  simp[Cj,jA,aU,aj,h1,h2,h3',h4,h5',hg0,h6',e];exact bO _ _
 have h6':¬0 < (n.au[0]).length:=by omega
 have h60:n.au[0]=[]:=List.eq_nil_of_length_eq_zero (by omega);have k1:=hl n.last (by simp[Net.rows]) 0 n.au.length;have c1:=aG (aT n.last) (aG (aW 0) (aG (aW n.au.length) aQ));simp only[aj,ah] at k1 c1;simp[Cj,jA,aU,aj,h1,h2,h3',h4,h5',hg0,h60];refine aN.pure k1 c1 (dY _) ?_;cases h7:rZ n.last 0 n.au.length with
 | false=>
  have e:=DK (n:=n) (x:=rZ n.last 0 n.au.length=true) (by rw[h7];simp) (fun h=>FE.mpr h.last);simp[e];exact bO _ _
 | true=>
  simp;refine Zro (n:=n) hl h5 (by omega) (by simp[aH]) (by simp[aH,ah]) (by simp[aH,ah]) (by simp[aH,ah]) (by simp[aL,jA,aU,aj,ah]) (fun h f' S'=>?_) (fun h f' S' e2=>?_)
  ·have e:qC n=true:=by
    simp only[qC,Bool.and_eq_true,decide_eq_true_eq,List.all_eq_true,List.mem_range];refine⟨⟨⟨⟨⟨⟨⟨by omega,by omega⟩,by omega⟩,by omega⟩,h5⟩,by rw[gb,h60];rfl⟩,h7⟩,fun i hi=>?_⟩;have:=h i hi;simpa[Ei] using this
   simp[e];exact bO _ _
  ·have e:=DK (n:=n) h (fun R i hi=>by
    have hi2:i < n.follow.length:=by omega
    rw[Ei,List.getD_eq_getElem?_getD,List.getElem?_eq_getElem hi,List.getD_eq_getElem?_getD,List.getElem?_eq_getElem hi2];simp only[Option.getD_some,Bool.and_eq_true];exact⟨FE.mpr (R.au i hi),FE.mpr (R.follow i hi2)⟩)
   simp[e2,e];exact bO _ _
def vC(n:Net)(sign:Int)(f:Int):Bool:=(n.au.getD f.toNat []).contains sign
def Cv(n:Net)(sign:Int)(p:Int):List Int:=if 0≤p∧p < n.follow.length then (n.follow.getD p.toNat []).filter (vC n sign) else []
def oJ(n:Net)(at_:List Int)(sign:Int):List Int:=at_.flatMap (Cv n sign)
def qJ(n:Net)(at_:List Int)(sign:Int):List Int:=jo (oJ n at_ sign)
theorem ZlE{n:Net}(R:mY n){p k:Nat}(hp:p < n.follow.length)(hk:k < (n.follow[p]).length):1≤(n.follow[p])[k]∧(n.follow[p])[k] < n.au.length:=(R.follow p hp).2 _ (List.getElem_mem hk)
theorem V4{n:Net}(R:mY n){p:Nat}(hp:p < n.follow.length):(n.follow[p]).length≤301:=by
 have:=JB (R.follow p hp).1 (R.follow p hp).2;have:=R.n2;omega
theorem ZeV{n:Net}{at_:List Int}{sign:Int}{i:Nat}(h:i < at_.length):oJ n (at_.take (i+1)) sign=oJ n (at_.take i) sign++Cv n sign at_[i]:=by
 rw[List.take_add_one,List.getElem?_eq_getElem h];unfold oJ;rw[List.flatMap_append];simp only[Option.toList_some,List.flatMap_cons,List.flatMap_nil,List.append_nil]
theorem Zgy{n:Net}(R:mY n)(sign p:Int):(Cv n sign p).length≤301:=by
 unfold Cv;split
 ·rename_i h
  have hp:p.toNat < n.follow.length:=by omega
  have:=V4 R hp;have h2:=List.length_filter_le (vC n sign) (n.follow.getD p.toNat []);rw[List.getD_eq_getElem?_getD,List.getElem?_eq_getElem hp] at h2 ⊢;simp only[Option.getD_some] at h2 ⊢;omega
 ·simp
theorem VI{n:Net}(R:mY n)(sign:Int):∀(l:List Int),(oJ n l sign).length≤301*l.length
 | []=>by simp[oJ]
 | p::l=>by
  have h1:=Zgy R sign p;have h2:=VI R sign l;simp only[oJ,List.flatMap_cons,List.length_append,List.length_cons] at h2 ⊢;omega
def Zqx(KQ wL:FuncId):AC:= (.block 2 (.loop (.seq (sq [rm 43 10,rm 44 9,ro 45 (.len (.t 44)),ro 46 (.bin .lss (.t 43) (.t 45))] (.cond (.t 46) .skip (.exit 2))) (.seq (.block 3 (.seq (.reg (some []) [rF 49 1 3,rL 50 49,rm 51 9,rm 52 10,ro 53 (.aM 1 (.t 51) (.t 52)),rL 54 53,ro 55 (.aM 1 (.t 50) (.t 54)),rL 56 55,rm 57 2,rk 58 KQ [(.t 56),(.t 57)]]) (.cond (.t 58) (.reg none [rm 59 7,rm 60 9,rm 61 10,ro 62 (.aM 1 (.t 60) (.t 61)),rL 63 62,rk 64 wL [(.t 59),(.t 63)],rm 7 64]) .skip))) (.reg none [rm 47 10,ro 48 (.bin .add (.t 47) (ci 1)),rm 10 48])))))
def ZnS(KQ wL:FuncId):AC:= (.block 0 (.loop (.seq (sq [rm 14 8,rm 15 1,ro 16 (.len (.t 15)),ro 17 (.bin .lss (.t 14) (.t 16))] (.cond (.t 17) .skip (.exit 0))) (.seq (.block 1 (.seq (.seq (.reg (some []) [rm 20 1,rm 21 8,ro 22 (.aM 1 (.t 20) (.t 21)),rL 23 22,ro 24 (.bin .lss (.t 23) (ci 0)),rm 25 24,rg 26 25 false (.mv (.t 1)),rg 27 25 false (.mv (.t 8)),rg 28 25 false (.aM 1 (.t 26) (.t 27)),rg 29 25 false (.load none (.t 28)),rg 30 25 false (.cu 2 (.t 3)),rg 31 25 false (.load none (.t 30)),rg 32 25 false (.len (.t 31)),rg 33 25 false (.bin .geq (.t 29) (.t 32)),ro 34 (.pick (.t 25) (.c (.v (.bool true))) (.t 33))]) (.cond (.t 34) (.exit 1) .skip)) (.seq (.reg (some []) [rF 35 2 3,rL 36 35,rm 37 1,rm 38 8,ro 39 (.aM 1 (.t 37) (.t 38)),rL 40 39,ro 41 (.aM 1 (.t 36) (.t 40)),rL 42 41,rm 9 42]) (sq [ro 10 (.mv (ci 0))] (Zqx KQ wL))))) (.reg none [rm 18 8,ro 19 (.bin .add (.t 18) (ci 1)),rm 8 19])))))
def Z9m(UF KQ wL:FuncId):AC:= (sq [ro 3 (.box 4 (.t 0)),ro 6 (.mv (.c (.sl true [])))] (sq [ro 7 (.mv (.c (.sl true [])))] (.seq (sq [ro 11 (.load (some 4) (.t 3)),rk 12 UF [(.t 11)],ro 13 (.un .not (.t 12))] (.cond (.t 13) (sq [ro 6 (.mv (.c (.sl true [])))] .ret) .skip)) (.seq (sq [ro 8 (.mv (ci 0))] (ZnS KQ wL)) (sq [rm 65 7,rm 6 65] .ret)))))
def ZpU(o l:List Int):List Int:=l.foldl Az o
theorem Zn8{n:Net}(R:mY n)(l:List Int)(sign:Int):(qJ n l sign).length≤301:=by
 have hm:∀x∈qJ n l sign,(1:Int)≤x∧x < n.au.length:=by
  intro x hx;have hx:=vU.mp hx;simp only[oJ,List.mem_flatMap] at hx;obtain⟨p,hp,hx⟩:=hx;unfold Cv at hx;split at hx
  ·rename_i h
   have hpl:p.toNat < n.follow.length:=by omega
   rw[List.getD_eq_getElem?_getD,List.getElem?_eq_getElem hpl] at hx;exact(R.follow _ hpl).2 x (List.mem_filter.mp hx).1
  ·simp at hx
 have:=JB (FX (oJ n l sign)) hm;have:=R.n2;show(jo (oJ n l sign)).length≤301
 omega
theorem ZjR(l:List Int):ZpU [] l=jo l:=ZmI l
def vG(n:Net)(l:List Int):List Int:=l.foldl (qJ n) [0]
def zq(n:Net)(l:List Int):Bool:=qC n && (vG n l).any fun s=>n.last.contains s
def Pz:AC:= (sq [ro 4 (.mv (.c (.v (.bool false))))] (.seq (sq [rm 6 0,ro 7 (.len (.t 6)),rm 8 1,ro 9 (.len (.t 8)),ro 10 (.bin .neq (.t 7) (.t 9))] (.cond (.t 10) (sq [ro 4 (.mv (.c (.v (.bool false))))] .ret) .skip)) (.seq (sq [ro 5 (.mv (ci 0))] (.block 0 (.loop (.seq (sq [rm 11 5,rm 12 0,ro 13 (.len (.t 12)),ro 14 (.bin .lss (.t 11) (.t 13))] (.cond (.t 14) .skip (.exit 0))) (.seq (.block 1 (.seq (.reg (some []) [rm 17 0,rm 18 5,ro 19 (.aM 1 (.t 17) (.t 18)),rL 20 19,rm 21 1,rm 22 5,ro 23 (.aM 1 (.t 21) (.t 22)),rL 24 23,ro 25 (.beq true (.t 20) (.t 24))]) (.cond (.t 25) (sq [ro 4 (.mv (.c (.v (.bool false))))] .ret) .skip))) (.reg none [rm 15 5,ro 16 (.bin .add (.t 15) (ci 1)),rm 5 16])))))) (sq [ro 4 (.mv (.c (.v (.bool true))))] .ret))))
def LC(P3e P3f:FuncId):AC:= (sq [ro 2 (.box 3 (.t 0)),ro 3 (.box 3 (.t 1)),ro 4 (.mv (.c (.v (.bool false))))] (sq [rF 5 0 2,rL 6 5,rF 7 0 3,rL 8 7,ro 9 (.bin .eql (.t 6) (.t 8)),rm 10 9,rg 11 10 true (.cu 1 (.t 2)),rg 12 10 true (.load none (.t 11)),rg 13 10 true (.cu 1 (.t 3)),rg 14 10 true (.load none (.t 13)),rl 15 10 true P3e [(.t 12),(.t 14)],ro 16 (.pick (.t 10) (.t 15) (.c (.v (.bool false)))),rm 17 16,rg 18 17 true (.cu 2 (.t 2)),rg 19 17 true (.load none (.t 18)),rg 20 17 true (.cu 2 (.t 3)),rg 21 17 true (.load none (.t 20)),rl 22 17 true P3f [(.t 19),(.t 21)],ro 23 (.pick (.t 17) (.t 22) (.c (.v (.bool false)))),rm 4 23] .ret))
theorem mZ.cd{P:Program}{f:FuncId}{args:List AV}{r:AV}{S:St}(h:aJ P f args r)(hc:∀x∈args,aY x)(hr:aY r):mZ P f args S [] r:=
 ⟨args,h,rfl,fun j h1 _=>.closed _ (hc _ (List.getElem_mem h1)),.inr (.inl ⟨rfl,hr⟩)⟩
def ZuG(a b:List Bool)(i:Nat)(f:AF)(S:St):Prop:=f 5=ah i∧f 0=bA a∧f 1=bA b∧a.take i=b.take i
theorem ZeG{P:Program}(a b:List Bool)(ha:Len a)(hb:Len b):AW P Pz (dw [4] (dM (aD (a == b)))) (bF [bA a,bA b]) S0:=by
 unfold Len at ha hb;by_cases hl:a.length=b.length
 ·simp[Pz,bA,hl]
  refine y7 a.length (ZuG a b) ?_ ?_
  ·refine⟨?_,?_,?_,?_⟩<;>simp[aH,cK,dn,ah,bA]
  ·rintro i f S hi ⟨e5,e0,e1,hp⟩
   by_cases hlt:i < a.length
   ·have hlb:i < b.length:=by omega
    by_cases he:a[i]=b[i]
    ·simp[e5,e0,e1,bA,hlt,hlb,he]
     rw[bE _ (by omega)];refine⟨hlt,?_,?_,?_,?_⟩<;>try simp[aH,e0,e1,ah,bA]
     rw[List.take_add_one,List.take_add_one,hp,List.getElem?_eq_getElem hlt,List.getElem?_eq_getElem hlb,he]
    ·have hr:(a == b)=false:=beq_false_of_ne (by rintro rfl;exact he rfl)
     have hc:(a[i] != b[i])=true:=by simp[he]
     simp[e5,e0,e1,bA,hlt,hlb,hc,hr];exact bO false _
   ·have hab:a=b:=by
     rw[List.take_of_length_le (by omega),List.take_of_length_le (by omega)] at hp;exact hp
    have hr:(a == b)=true:=by simp[hab]
    simp[e5,e0,bA,hlt,hr];exact bO true _
 ·have hr:(a == b)=false:=beq_false_of_ne (by rintro rfl;exact hl rfl)
  have hc:((a.length:Int) != b.length)=true:=by simp;omega
  simp[Pz,bA,hc,hr];exact bO false _
def yw(a b:aC):Bool:=(a.signs == b.signs) && (a.next == b.next) && (a.fin == b.fin)
theorem Zgu{P:Program}{fq fe fb:FuncId}(a b:aC)(hq:aJ P fq [aU a.next,aU b.next] (aD (a.next == b.next)))(hb:aJ P fb [bA a.fin,bA b.fin] (aD (a.fin == b.fin))) :
  AW P (LC fq fb) (dw [4] (dM (aD (yw a b)))) (bF [aR a,aR b]) S0:=by
 by_cases h1:a.signs=b.signs
 ·cases h2:(a.next == b.next) with
  | true=>
   rw[h2] at hq;have hr:yw a b=(a.fin == b.fin):=by simp[yw,h1,h2]
   rw[hr];simp[LC,aR,h1];refine aN.pure hq (aG (jR _) (aG (jR _) (aQ))) (dY _) ?_;simp;refine aN.pure hb (aG (jG _) (aG (jG _) aQ)) (dY _) ?_;simp;exact bO _ _
  | false=>
   rw[h2] at hq;have hr:yw a b=false:=by simp[yw,h1,h2]
   rw[hr];simp[LC,aR,h1];refine aN.pure hq (aG (jR _) (aG (jR _) (aQ))) (dY _) ?_;simp;exact bO _ _
 ·have hr:yw a b=false:=by simp[yw,h1]
  rw[hr];have h1':(a.signs == b.signs)=false:=by simp[h1]
  simp[LC,aR,h1'];exact bO _ _
def MZ(p:Nat→Bool)(i:Nat):List Int:=((List.range i).filter p).map Int.ofNat
def TM(n:Net)(l:List Int)(i:Nat):Bool:=zq n (l.drop (l.length - i))
def xV(n:Net)(l:List Int)(i:Nat):Bool:=zq n (l.take i)
theorem Vec.cell{g:Nat→Option aB}{v:AV}{es:Nat}{xs:List AV}(h:Vec g v es xs):v.cells=[v]∧v.solid=true:=by
 rcases h with⟨rfl,_⟩ | ⟨_,_,_,rfl,_⟩<;>exact⟨rfl,rfl⟩
theorem lS.cells{g:Nat→Option aB}{n:Nat}{av:List Nat}{vs:List AV}{ls:List (List AV)}(h:lS g n av vs ls):∀v∈vs,v.cells.length=1:=by
 intro v hv;obtain⟨t,ht,rfl⟩:=List.getElem_of_mem hv;rw[(h.row t ht (by rw[←h.len];exact ht)).cell.1];rfl
def ME(es au:Nat)(z:AV):AC:= (sq [ro 4 (.mv (.c (.sl true [])))] (.seq (sq [rm 5 1,ro 6 (.bin .lss (.t 5) (ci 0))] (.cond (.t 6) .bad .skip)) (.seq (sq [rm 8 1,rm 9 0,ro 10 (.cap (.t 9)),rm 11 0,ro 12 (.len (.t 11)),ro 13 (.bin .sub (.t 10) (.t 12)),ro 14 (.bin .sub (.t 8) (.t 13)),rm 1 14] (sq [rm 15 1,ro 16 (.bin .gtr (.t 15) (ci 0))] (.cond (.t 16) (.reg none [rm 17 0,rm 18 0,ro 19 (.cap (.t 18)),ro 20 (.slc es (.t 17) none (some (.t 19))),rm 21 1,ro 22 (.J5 es au z (.t 20) (.t 21)),rm 23 0,ro 24 (.len (.t 23)),ro 25 (.slc es (.t 22) none (some (.t 24))),rm 0 25]) .skip))) (sq [rm 26 0,rm 4 26] .ret))))
def Me(es au:Nat)(fg:FuncId):AC:= (sq [ro 2 (.mv (.c (.sl true [])))] (sq [ro 3 (.mv (ci 0))] (.seq (sq [rm 9 0,ro 10 (.len (.t 9)),ro 11 (.mv (ci 0))] (.block 0 (.loop (sq [ro 12 (.bin .lss (.t 11) (.t 10))] (.seq (.cond (.t 12) .skip (.exit 0)) (.seq (.block 1 (sq [ro 13 (.aM 1 (.t 9) (.t 11)),rL 14 13,rm 5 14] (sq [rm 15 3,rm 16 5,ro 17 (.len (.t 16)),ro 18 (.bin .add (.t 15) (.t 17)),rm 3 18] (sq [rm 19 3,ro 20 (.bin .lss (.t 19) (ci 0))] (.cond (.t 20) .bad .skip))))) (.reg none [ro 22 (.bin .add (.t 11) (ci 1)),rm 11 22]))))))) (sq [rm 23 3,rk 24 fg [(.c (.sl true [])),(.t 23)],rm 6 24] (.seq (sq [rm 25 0,ro 26 (.len (.t 25)),ro 27 (.mv (ci 0))] (.block 2 (.loop (sq [ro 28 (.bin .lss (.t 27) (.t 26))] (.seq (.cond (.t 28) .skip (.exit 2)) (.seq (.block 3 (sq [ro 29 (.aM 1 (.t 25) (.t 27)),rL 30 29,rm 8 30] (.reg none [rm 31 6,rm 32 8,ro 33 (.app es au (.t 31) (.t 32)),rm 6 33]))) (.reg none [ro 34 (.bin .add (.t 27) (ci 1)),rm 27 34]))))))) (sq [rm 35 6,rm 2 35] .ret))))))
def Av(g:Nat→Option aB)(v:AV)(es:Nat)(xs:List AV):Prop:=
 (v=.sl true []∧xs=[])∨∃id off ys,v=.own id off xs.length∧g id=some (.arr es ys)∧off+xs.length≤ys.length∧(ys.take (off+xs.length)).drop off=xs
theorem Av.frame{g g':Nat→Option aB}{v:AV}{es:Nat}{xs:List AV}(h:Av g v es xs)(hs:∀i∈v.ids,g' i=g i):Av g' v es xs:=by
 rcases h with h | ⟨id,off,ys,rfl,h1,h2,h3⟩
 ·exact .inl h
 ·exact .inr ⟨id,off,ys,rfl,by rw[hs id (by simp[AV.ids])];exact h1,h2,h3⟩
theorem Av.fz{X:Type}{enc:X→AV}{g:Nat→Option aB}{v:AV}{es:Nat}{l:List X}(h:Av g v es (l.map enc))(hc:∀x,aY (enc x)):Fz g v (.sl false (l.map enc)):=by
 rcases h with⟨rfl,hn⟩ | ⟨id,off,ys,rfl,h1,h2,h3⟩
 ·rw[hn];exact .loose true [] (.sl _ _ (by simp))
 ·rw[List.length_map] at h2 h3 ⊢
  refine .own id off l.length es ys (l.map enc) h1 h2 (by simp) (fun i a b=>?_);have e:(ys.drop off).take l.length=l.map enc:=by rw[←h3,List.drop_take];congr 1;omega
  simp only[e];exact .closed _ (by simp only[List.getElem_map];exact hc _)
def Zq5(S:St)(es:Nat)(z:AV)(n:Nat)(v:AV)(S':St):Prop:=
 S.n≤S'.n∧(∀i,i < S.n→S'.g i=S.g i)∧((n=0∧v=.sl true [])∨∃id,S.n≤id∧id < S'.n∧v=.own id 0 0∧S'.g id=some (.arr es (List.replicate n z)))
def MP(P:Program)(f:FuncId)(es:Nat)(z:AV):Prop:=∀(S:St) (n:Nat) (K:AV→St→Prop),n≤1000000→(∀v S',Zq5 S es z n v S'→K v S')→aN P f [.sl true [],ah n] S K
theorem Zhq{P:Program}(hm:P.follows .mixedOrders=true){f:FuncId}{es au:Nat}{z:AV}(hes:0 < es)(hz:z.cells.length=es)(hb:au≤1000)(h:Is P f (ME es au z) [4] 2):MP P f es z:=by
 intro S n K hn hk;refine h.xD hm rfl ?_;have hneg:¬((n:Int) < 0):=by omega
 have hw1:=bE ((n:Int) - 0) (by omega);have hw0:IntKind.i64.wrap 0=0:=bE 0 (by omega);by_cases h0:n=0
 ·subst h0
  simp[ME,M5,hw0];exact hk _ _ ⟨by simp;omega,fun i hi=>rfl,.inl ⟨rfl,rfl⟩⟩
 ·have hp:(0:Int) < n:=by omega
  have hp':0 < n:=by omega
  have aaA:(n:Int)*au≤140737488355328:=by
   have h1:n*au≤1000000*1000:=Nat.mul_le_mul hn hb;have:((n*au:Nat):Int)≤1000000000:=by omega
   rw[Int.natCast_mul] at this;omega
  have hn2:(n:Int)≤140737488355328:=by omega
  have hwn:IntKind.i64.wrap (n:Int)=n:=bE _ (by omega)
  have aaw:∀S2:St,∀aA,(MK es au z (.sl true []) (.v (.int .i64 (n:Int)))).run S2 aA=some (.own aA 0 n,S2.set aA (some (.arr es (List.replicate n z)))):=by
   intro S2 aA;simp[MK,Eff.new,Eff.run,hp',aaA,hn2,hes,hz,St.dX,St.fP]
  have hs1:∀S2:St,∀aA,(Ao es (.sl true []) none (some (.v (.int .i64 0)))).run S2 aA=some (.sl true [],S2):=by
   intro S2 aA;simp[Ao,bnd,Eff.qY]
  have hs2:∀(S2:St) (aA id:Nat) (ys:List AV),S2.g id=some (.arr es ys)→(Ao es (.own id 0 n) none (some (.v (.int .i64 0)))).run S2 aA=some (.own id 0 0,S2):=by
   intro S2 aA id ys hg;simp[Ao,bnd,Eff.rd,Eff.run,hg,St.dX,St.fP]
  simp[ME,M5,hneg,hw0,hwn,hp',hs1,aaw,gu];rw[hs2 _ _ _ (List.replicate n z) (by simp[aL])];simp;refine hk _ _ ⟨by simp;omega,fun i hi=>?_,.inr ⟨S.n+13+5,by omega,by simp,rfl,by simp[aL]⟩⟩;have:¬i=S.n+13+5:=by omega
  simp[aL,this]
theorem Av.app{n aA au es:Nat}{g:Nat→Option aB}{v:AV}{xs:List AV}(h:Av g v es xs)(t:Bool)(ys:List AV)(hx:∀z∈xs,z.cells.length=es)(hy:∀z∈ys,z.cells.length=es)(hok:bY au xs.length ys.length) :
  ∃v' S',(kP es au v (.sl t ys)).run ⟨n,g⟩ aA=some (v',S')∧S'.n=n∧(aA∉v.ids→Av S'.g v' es (xs++ys))∧(∀i,i∉v.ids→i≠aA→S'.g i=g i)∧(∀i∈v'.ids,i∈v.ids∨i=aA):=by
 have hl:lD es [] (.sl t ys)=some ys:=by simp only[lD];rw[if_pos hy]
 rcases h with⟨rfl,rfl⟩ | ⟨id,off,zs,rfl,h1,h2,h3⟩
 ·simp only[List.length_nil] at hok
  by_cases h0:ys.length=0
  ·have:ys=[]:=List.eq_nil_of_length_eq_zero h0
   subst this;refine⟨.sl true [],⟨n,g⟩,?_,rfl,fun _=>.inl ⟨rfl,rfl⟩,fun _ _ _=>rfl,by simp[AV.ids]⟩;simp[kP,AV.ku,Eff.run,hl,St.dX,St.fP,bY]
  ·refine⟨.own aA 0 ys.length,(⟨n,g⟩:St).set aA (some (.arr es ys)),?_,by simp[bT],fun _=>.inr ⟨aA,0,ys,by simp,by simp[aL],by simp,by simp⟩,fun i _ hi=>by simp[aL,hi],by simp[AV.ids]⟩
   simp only[kP,AV.ku,Eff.run,List.mapM_nil,Option.pure_def,hl,Option.bind_some,List.length_nil,Nat.zero_add,hok,and_true];rw[if_pos (by simp),if_neg h0];simp[St.dX,St.fP]
 ·refine⟨.own aA 0 (xs.length+ys.length),((⟨n,g⟩:St).set id none).set aA (some (.arr es (xs++ys))),?_,by simp[bT],fun hn=>.inr ⟨aA,0,xs++ys,by simp,by simp[aL],by simp,by simp[←List.length_append]⟩,fun i hi hn=>?_,by simp[AV.ids]⟩
  ·have ho:(AV.sl t ys).ku=[]:=rfl
   have hne:([]:List Nat)≠[id]:=by simp
   simp only[kP,Eff.run,ho,List.mapM_cons,List.mapM_nil,h1,Option.pure_def,Option.bind_eq_bind,Option.bind_some,hl];by_cases he:off+xs.length=zs.length
   ·rw[if_pos ⟨trivial,he,hok,hne⟩]
    have e:zs.drop off=xs:=by rw[←h3,he,List.take_length]
    simp[St.dX,St.fP,e]
   ·rw[if_neg (fun hh=>he hh.2.1),if_pos ⟨trivial,by omega,hok,hne⟩]
    simp[St.dX,St.fP,h3]
  ·simp only[AV.ids,List.mem_cons,List.not_mem_nil,or_false] at hi
   simp[aL,hi,hn]
def Gw(L:List (Bool×List AV)):AV:=.sl true (L.map fun p=>.sl p.1 p.2)
def wS(L:List (Bool×List AV)):Nat:=(L.map fun p=>p.2.length).sum
theorem Zmc(L:List (Bool×List AV))(k:Nat):wS (L.take k)≤wS L:=by
 unfold wS;have h:L=L.take k++L.drop k:=by simp
 conv=>rhs;rw[h]
 rw[List.map_append,List.sum_append];omega
theorem Zfv(L:List (Bool×List AV))(k:Nat)(h:k < L.length):wS (L.take (k+1))=wS (L.take k)+(L[k]).2.length:=by
 unfold wS;rw[List.take_add_one,List.getElem?_eq_getElem h,List.map_append,List.sum_append];simp
theorem Zmb(L:List (Bool×List AV)):(L.flatMap (·.2)).length=wS L:=by
 unfold wS;rw[List.length_flatMap]
def CtI(L:List (Bool×List AV))(n0:Nat)(g0:Nat→Option aB)(k:Nat)(f:AF)(S:St):Prop:=n0≤S.n∧S.g=g0∧f 0=Gw L∧f 9=Gw L∧f 10=ah L.length∧f 11=ah k∧f 3=ah (wS (L.take k))∧f 2=.sl true []
def CtJ(L:List (Bool×List AV))(es:Nat)(n0:Nat)(g0:Nat→Option aB)(k:Nat)(f:AF)(S:St):Prop:=f 25=Gw L∧f 26=ah L.length∧f 27=ah k∧Av S.g (f 6) es ((L.take k).flatMap (·.2))∧(∀i∈(f 6).ids,n0≤i∧i < S.n)∧(∀i,i < n0→S.g i=g0 i)∧n0≤S.n
def Zka(S:St)(es:Nat)(L:List (Bool×List AV))(v:AV)(S':St):Prop:=
 S.n≤S'.n∧(∀i,i < S.n→S'.g i=S.g i)∧Av S'.g v es (L.flatMap (·.2))∧∀i∈v.ids,S.n≤i∧i < S'.n
theorem ZeH{P:Program}(hm:P.follows .mixedOrders=true){f fg:FuncId}{es au:Nat}{z:AV}(hg:MP P fg es z)(hb:au≤1000)(h:Is P f (Me es au fg) [2] 1)
  {S:St} {L:List (Bool×List AV)} (hc:∀p∈L,∀x∈p.2,x.cells.length=es) (hL:L.length≤1000) (ht:wS L≤1000000) {K:AV→St→Prop} (hk:∀v S',Zka S es L v S'→K v S'):aN P f [Gw L] S K:=by
 refine h.xD hm rfl ?_;have xE:Gw L=.sl true (L.map fun p=>.sl p.1 p.2):=rfl;simp[Me,xE];refine y7 L.length (CtI L S.n S.g) ⟨?_,?_,?_,?_,?_,?_,?_,?_⟩ ?_
 ·simp;omega
 ·simp
 ·simp[aH,cK,xE]
 ·simp[aH,xE]
 ·simp[aH,ah]
 ·simp[aH,ah]
 ·simp[aH,ah,wS]
 ·simp[aH]
 ·rintro k f S1 hk1 ⟨hn1,hg1,e0,e9,e10,e11,e3,e2⟩
  rw[xE] at e0 e9;by_cases hlt:k < L.length
  ·have hgt:L[k]? = some L[k]:=List.getElem?_eq_getElem hlt
   have h1:=Zfv L k hlt;have h2:=Zmc L (k+1);have hw:=bE ((wS (L.take k):Int)+(L[k]).2.length) (by omega);have hneg:¬((wS (L.take k):Int)+(L[k]).2.length < 0):=by omega
   simp[e9,e10,e11,e3,hlt,hw,hneg];rw[bE _ (by omega)];refine⟨hlt,?_,?_,?_,?_,?_,?_,?_,?_⟩
   ·simp;omega
   ·simpa using hg1
   ·simp[aH,e0,xE]
   ·simp[aH,e9,xE]
   ·simp[aH,e10]
   ·simp[aH,ah]
   ·simp[aH,ah,h1]
   ·simp[aH,e2]
  ·have hke:k=L.length:=by omega
   subst hke;rw[List.take_length] at e3;simp[e10,e11,e3];refine hg _ (wS L) _ ht (fun v S2 hout=>?_);obtain⟨o1,o2,o3⟩:=hout;simp only at o1 o2 o3
   have hv0:Av S2.g v es ([]:List AV):=by
    rcases o3 with⟨_,rfl⟩ | ⟨id,_,_,rfl,aaG⟩
    ·exact .inl ⟨rfl,rfl⟩
    ·exact .inr ⟨id,0,_,rfl,aaG,by simp,by simp⟩
   have Dk:∀i∈v.ids,S.n≤i∧i < S2.n:=by
    rcases o3 with⟨_,rfl⟩ | ⟨id,a1,a2,rfl,_⟩
    ·simp[AV.ids]
    ·intro i hi;simp[AV.ids] at hi;subst hi;omega
   simp;simp only[e0];simp;refine y7 L.length (CtJ L es S.n S.g) ⟨?_,?_,?_,?_,?_,?_,?_⟩ ?_
   ·simp[aH,xE]
   ·simp[aH,ah]
   ·simp[aH,ah]
   ·simp[aH];exact hv0.frame (fun _ _=>rfl)
   ·intro i hi
    simp[aH] at hi;have:=Dk i hi;simp;omega
   ·intro i hi
    have:=o2 i (by omega);simp;rw[this,hg1]
   ·simp;omega
   ·rintro k f S3 hk3 ⟨e25,e26,e27,hv,Dk,hfr,hn3⟩
    rw[xE] at e25;by_cases hlt:k < L.length
    ·have hgt:L[k]? = some L[k]:=List.getElem?_eq_getElem hlt
     have h1:=Zfv L k hlt;have h2:=Zmc L (k+1);have hlen:=Zmb (L.take k)
     have hx:∀z∈(L.take k).flatMap (·.2),z.cells.length=es:=by
      intro z hz;obtain⟨p,hp,hz⟩:=List.mem_flatMap.mp hz;exact hc p (List.mem_of_mem_take hp) z hz
     have hok:bY au ((L.take k).flatMap (·.2)).length (L[k]).2.length:=by
      unfold bY;have:(((L.take k).flatMap (·.2)).length+(L[k]).2.length)*au≤1000000*1000:=Nat.mul_le_mul (by omega) hb;omega
     simp[e25,e26,e27,hlt];obtain⟨v',S',hr,q1,q2,q3,q4⟩:=(hv.frame (g':=S3.g) (fun _ _=>rfl)).app (n:=S3.n+1+3+4) (aA:=S3.n+1+3+2) (au:=au) (L[k]).1 (L[k]).2 hx (hc _ (List.getElem_mem hlt)) hok;rw[hr];simp[e27];rw[bE _ (by omega)];have aaV:S3.n+1+3+2∉(f 6).ids:=fun hh=>by have:=Dk _ hh;omega
     refine⟨hlt,?_,?_,?_,?_,?_,?_,?_⟩
     ·simp[aH,e25,xE]
     ·simp[aH,e26]
     ·simp[aH,ah]
     ·rw[List.take_add_one,hgt,List.flatMap_append]
      simpa[aH] using(q2 aaV).frame (fun _ _=>rfl)
     ·intro i hi
      simp[aH] at hi;have hi2:=q4 i hi;simp[q1];rcases hi2 with hi2 | hi2
      ·have:=Dk i hi2;omega
      ·omega
     ·intro i hi
      have h3:=q3 i (fun hh=>by have:=Dk i hh;omega) (by omega);simp[h3,hfr i hi]
     ·simp[q1];omega
    ·have hke:k=L.length:=by omega
     subst hke;rw[List.take_length] at hv;simp[e26,e27];refine hk _ _ ⟨?_,?_,?_,?_⟩
     ·simp;omega
     ·intro i hi;simp[hfr i hi]
     ·exact hv.frame (fun _ _=>rfl)
     ·intro i hi
      have:=Dk i hi;simp;omega
end Go.Rf
namespace Go.Rf
attribute [local simp] mh lW l7 mP mQ mU mR l9 mX mO mJ eG iB iU iy iR iN iM iT iO gG iP fH iF iQ iE eT eU gD ig je jf gZ jk fU fQ fE eO gV gW gX gP gQ jg iV iH jc iX iZ iY jd jh iK iq gT gU gM iw dO eP gI iL ji ex aH fF dF eY cK dn aL bT fJ gH eZ gN iD iC iW iJ bS dN dV fZ fV gY fu bD bX dL eH dz gu fC gB gq gy fM dA eX eB d9 bB AV.solid S0 ah aD
def ZkP:AC:= (.block 6 (.loop (sq [ro 66 (.bin .lss (.t 65) (.t 64))] (.seq (.cond (.t 66) .skip (.exit 6)) (.seq (.block 7 (sq [ro 67 (.aM 1 (.t 63) (.t 65)),rL 68 67,rm 14 68] (sq [rm 69 14,ro 70 (.bin .neq (.t 69) (ci (-1))),rm 71 70,rg 72 71 true (.mv (.t 6)),rg 73 71 true (.mv (.t 14)),rg 74 71 true (.aM 1 (.t 72) (.t 73)),rg 75 71 true (.load none (.t 74)),rg 76 71 true (.mv (.t 8)),rg 77 71 true (.bin .eql (.t 75) (.t 76)),ro 78 (.pick (.t 71) (.t 77) (.c (.v (.bool false))))] (.cond (.t 78) (.reg none [rm 79 10,rm 80 14,ro 81 (.dH 1 1 (.v (.int .i64 0)) [(0,(.t 80))]),ro 82 (.app 1 8 (.t 79) (.t 81)),rm 10 82]) .skip)))) (.reg none [ro 83 (.bin .add (.t 65) (ci 1)),rm 65 83]))))))
def Zqw:AC:= (.block 4 (.loop (sq [ro 50 (.bin .lss (.t 49) (.t 48))] (.seq (.cond (.t 50) .skip (.exit 4)) (.seq (.block 5 (sq [ro 51 (.aM 1 (.t 47) (.t 49)),rL 52 51,rm 12 52] (sq [rF 53 0 5,rL 54 53,rm 55 12,ro 56 (.aM 1 (.t 54) (.t 55)),rL 57 56,rm 58 9,ro 59 (.bin .mul (ci 2) (.t 58)),rm 60 9,ro 61 (.bin .mul (ci 2) (.t 60)),ro 62 (.bin .add (.t 61) (ci 2)),ro 63 (.slc 1 (.t 57) (some (.t 59)) (some (.t 62))),ro 64 (.len (.t 63)),ro 65 (.mv (ci 0))] ZkP))) (.reg none [ro 84 (.bin .add (.t 49) (ci 1)),rm 49 84]))))))
def ZkQ(zU zT:FuncId):AC:= (sq [rm 85 10,ro 86 (.len (.t 85)),ro 87 (.bin .gtr (.t 86) (ci 0))] (.cond (.t 87) (sq [rm 88 10,rk 89 zU [(.t 88)]] (sq [rm 90 10,rk 91 zT [(.t 90)],rm 7 91] (sq [rm 92 2,rm 93 9,ro 94 (.dH 1 1 (.v (.int .i64 0)) [(0,(.t 93))]),ro 95 (.app 1 8 (.t 92) (.t 94)),rm 2 95] (.exit 1)))) .skip))
def ZkN(zU zT:FuncId):AC:= (.block 2 (.loop (sq [ro 45 (.bin .lss (.t 44) (.t 43))] (.seq (.cond (.t 45) .skip (.exit 2)) (.seq (.block 3 (sq [rm 46 44,rm 9 46] (sq [ro 10 (.mv (.c (.sl true [])))] (.seq (sq [rm 47 7,ro 48 (.len (.t 47)),ro 49 (.mv (ci 0))] Zqw) (ZkQ zU zT))))) (.reg none [ro 96 (.bin .add (.t 44) (ci 1)),rm 44 96]))))))
def ZkO(zU zT:FuncId):AC:= (.block 0 (.loop (.seq (sq [rm 37 8,ro 38 (.bin .geq (.t 37) (ci 0))] (.cond (.t 38) .skip (.exit 0))) (.seq (.block 1 (sq [rF 41 0 1,rL 42 41,ro 43 (.bin .quo (.t 42) (ci 2)),ro 44 (.mv (ci 0))] (ZkN zU zT))) (.reg none [rm 39 8,ro 40 (.bin .sub (.t 39) (ci 1)),rm 8 40])))))
def Zjf(Fb E9:FuncId):AC:= (.block 8 (.loop (.seq (.seq (.reg (some []) [ro 97 (.load (some 3) (.t 1)),rm 98 2,rm 99 3,rk 100 Fb [(.t 98),(.t 99)],rk 101 E9 [(.t 97),(.t 100)],ro 102 (.un .not (.t 101))]) (.cond (.t 102) .skip (.exit 8))) (.seq (.block 9 .skip) (.reg none [rm 103 3,ro 104 (.bin .add (.t 103) (ci 1)),rm 3 104])))))
def ZnR(Fb E9:FuncId):AC:= (.seq (sq [ro 3 (.mv (ci 1))] (Zjf Fb E9)) (sq [rm 105 2,rm 106 3,rm 2 105,rm 3 106,ro 4 (.mv (.c (.v (.bool true))))] .ret))
def Z9S(Dx P4K P4i zU zT Fb E9:FuncId):AC:= (sq [ro 1 (.box 3 (.t 0)),ro 2 (.mv (.c (.sl true []))),ro 3 (.mv (ci 0)),ro 4 (.mv (.c (.v (.bool false))))] (.scp (.seq (sq [ro 15 (.load (some 3) (.t 1)),rk 16 Dx [(.t 15)],ro 17 (.un .not (.t 16)),rm 18 17,rg 19 18 false (.cu 0 (.t 1)),rg 20 18 false (.load none (.t 19)),rg 21 18 false (.bin .and (.t 20) (ci 1)),rg 22 18 false (.bin .eql (.t 21) (ci 1)),ro 23 (.pick (.t 18) (.c (.v (.bool true))) (.t 22))] (.cond (.t 23) (sq [ro 2 (.mv (.c (.sl true []))),ro 3 (.mv (ci 0)),ro 4 (.mv (.c (.v (.bool false))))] .ret) .skip)) (sq [ro 24 (.load (some 3) (.t 1)),rk 25 P4K [(.t 24)],ro 5 (.alloc (.agg [(.sl true []),(.sl true [])]) 2),rn (.store 2 (.t 5) (.t 25))] (sq [ro 26 (.load (some 2) (.t 5)),rk 27 P4i [(.t 26)],rm 6 27] (.seq (sq [rm 28 6,ro 29 (.aM 1 (.t 28) (ci 0)),rL 30 29,ro 31 (.bin .eql (.t 30) (ci (-1)))] (.cond (.t 31) (sq [ro 2 (.mv (.c (.sl true []))),ro 3 (.mv (ci 0)),ro 4 (.mv (.c (.v (.bool false))))] .ret) .skip)) (sq [ro 32 (.dH 1 1 (.v (.int .i64 0)) [(0,(ci 0))]),rm 7 32] (.seq .skip (.seq (sq [rm 33 6,ro 34 (.aM 1 (.t 33) (ci 0)),rL 35 34,ro 36 (.bin .sub (.t 35) (ci 1)),rm 8 36] (ZkO zU zT)) (ZnR Fb E9))))))))))
def TT(g:Nat→Option aB)(v:AV)(l:List Int):Prop:=v=.sl true (l.map ah)∨∃id off ys,v=.own id off l.length∧g id=some (.arr 1 ys)∧off+l.length=ys.length∧ys.drop off=l.map ah
theorem TT.frame{g g':Nat→Option aB}{v:AV}{l:List Int}(h:TT g v l)(hs:∀i∈v.ids,g' i=g i):TT g' v l:=by
 rcases h with h | ⟨id,off,ys,rfl,h1,h2,h3⟩
 ·exact .inl h
 ·exact .inr ⟨id,off,ys,rfl,by rw[hs id (by simp[AV.ids])];exact h1,h2,h3⟩
end Go.Rf
namespace Go.Proofs
open Go.Shelf Go.Rf Go.Sort
def Tryz.P4l:Go.Shelf.Ren:=⟨fun | 125=>101 | 128=>129 | 129=>130 | 166=>133 | 167=>135 | 169=>136 | 171=>134 | 189=>66 | 215=>143 | 216=>126 | 240=>144 | 243=>145 | 246=>148 | 257=>100 | 276=>147 | 283=>149 | 284=>150 | 285=>151 | 286=>152 | 294=>120 | 295=>121 | 296=>122 | 297=>123 | 298=>124 | 299=>125 | 300=>127 | 301=>128 | 317=>153 | 318=>154 | 319=>155 | 320=>156 | 328=>138 | 329=>139 | 330=>140 | 331=>141 | 332=>142 | 337=>157 | 338=>158 | 343=>146 | n=>n,fun | 28=>23 | 29=>128 | 30=>148 | 34=>44 | 35=>103 | 36=>115 | 37=>165 | 45=>74 | 46=>140 | 47=>139 | 51=>160 | 52=>159 | 53=>162 | 54=>161 | 70=>164 | 71=>166 | 72=>167 | 74=>168 | 75=>169 | 76=>170 | 77=>171 | 78=>173 | 80=>174 | 81=>203 | 83=>172 | 84=>187 | 111=>108 | 112=>156 | 114=>192 | 127=>181 | 131=>86 | 134=>138 | 164=>185 | 165=>186 | 171=>188 | 172=>189 | 173=>190 | 174=>191 | 181=>152 | 182=>153 | 183=>154 | 184=>155 | 185=>147 | 186=>157 | 187=>158 | 211=>193 | 212=>194 | 213=>195 | 218=>175 | 219=>176 | 220=>177 | 221=>178 | 222=>179 | 223=>180 | 228=>182 | 229=>183 | 230=>184 | 232=>196 | 233=>197 | 238=>198 | 239=>199 | 240=>200 | 241=>201 | 242=>202 | 245=>206 | 248=>209 | n=>n,fun | 17=>0 | 18=>1 | 19=>2 | n=>n⟩
theorem Tryz.P5K:Go.Proofs.Lays.n166 Tryz.prog Tryz.P4l:={
 mixed:=by kernel_rfl
 f166:=Tryz.func133.trans (congrArg some (by kernel_rfl))
 f240:=Tryz.func144.trans (congrArg some (by kernel_rfl))
 f276:=Tryz.func147.trans (congrArg some (by kernel_rfl))
 t0:=Tryz.underlying0
 a0:=Tryz.isAgg0
 z0:=Tryz.sizeOf0
 v0:=Tryz.zeroValue0
 t3:=Tryz.underlying3
 a3:=Tryz.isAgg3
 z3:=Tryz.sizeOf3
 v3:=Tryz.zeroValue3
 t4:=Tryz.underlying4
 a4:=Tryz.isAgg4
 z4:=Tryz.sizeOf4
 v4:=Tryz.zeroValue4
 t9:=Tryz.underlying9
 a9:=Tryz.isAgg9
 z9:=Tryz.sizeOf9
 v9:=Tryz.zeroValue9
 t20:=Tryz.underlying20
 a20:=Tryz.isAgg20
 z20:=Tryz.sizeOf20
 v20:=Tryz.zeroValue20
 t37:=Tryz.underlying165
 a37:=Tryz.isAgg165
 z37:=Tryz.sizeOf165
 v37:=Tryz.zeroValue165
 t70:=Tryz.underlying164
 a70:=Tryz.isAgg164
 z70:=Tryz.sizeOf164
 v70:=Tryz.zeroValue164
 t72:=Tryz.underlying167
 a72:=Tryz.isAgg167
 z72:=Tryz.sizeOf167
 v72:=Tryz.zeroValue167
 t75:=Tryz.underlying169
 a75:=Tryz.isAgg169
 z75:=Tryz.sizeOf169
 v75:=Tryz.zeroValue169
 t164:=Tryz.underlying185
 a164:=Tryz.isAgg185
 z164:=Tryz.sizeOf185
 v164:=Tryz.zeroValue185 }
theorem Tryz.P5L:Go.Proofs.Lays.n167 Tryz.prog Tryz.P4l:={
 mixed:=by kernel_rfl
 f167:=Tryz.func135.trans (congrArg some (by kernel_rfl))
 f240:=Tryz.func144.trans (congrArg some (by kernel_rfl))
 f276:=Tryz.func147.trans (congrArg some (by kernel_rfl))
 t0:=Tryz.underlying0
 a0:=Tryz.isAgg0
 z0:=Tryz.sizeOf0
 v0:=Tryz.zeroValue0
 t4:=Tryz.underlying4
 a4:=Tryz.isAgg4
 z4:=Tryz.sizeOf4
 v4:=Tryz.zeroValue4
 t5:=Tryz.underlying5
 a5:=Tryz.isAgg5
 z5:=Tryz.sizeOf5
 v5:=Tryz.zeroValue5
 t9:=Tryz.underlying9
 a9:=Tryz.isAgg9
 z9:=Tryz.sizeOf9
 v9:=Tryz.zeroValue9
 t20:=Tryz.underlying20
 a20:=Tryz.isAgg20
 z20:=Tryz.sizeOf20
 v20:=Tryz.zeroValue20
 t37:=Tryz.underlying165
 a37:=Tryz.isAgg165
 z37:=Tryz.sizeOf165
 v37:=Tryz.zeroValue165
 t70:=Tryz.underlying164
 a70:=Tryz.isAgg164
 z70:=Tryz.sizeOf164
 v70:=Tryz.zeroValue164
 t72:=Tryz.underlying167
 a72:=Tryz.isAgg167
 z72:=Tryz.sizeOf167
 v72:=Tryz.zeroValue167
 t75:=Tryz.underlying169
 a75:=Tryz.isAgg169
 z75:=Tryz.sizeOf169
 v75:=Tryz.zeroValue169
 t164:=Tryz.underlying185
 a164:=Tryz.isAgg185
 z164:=Tryz.sizeOf185
 v164:=Tryz.zeroValue185 }
theorem Tryz.P5M:Go.Proofs.Lays.n169 Tryz.prog Tryz.P4l:={
 mixed:=by kernel_rfl
 f169:=Tryz.func136.trans (congrArg some (by kernel_rfl))
 t0:=Tryz.underlying0
 a0:=Tryz.isAgg0
 z0:=Tryz.sizeOf0
 v0:=Tryz.zeroValue0
 t3:=Tryz.underlying3
 a3:=Tryz.isAgg3
 z3:=Tryz.sizeOf3
 v3:=Tryz.zeroValue3
 t9:=Tryz.underlying9
 a9:=Tryz.isAgg9
 z9:=Tryz.sizeOf9
 v9:=Tryz.zeroValue9
 t37:=Tryz.underlying165
 a37:=Tryz.isAgg165
 z37:=Tryz.sizeOf165
 v37:=Tryz.zeroValue165
 t70:=Tryz.underlying164
 a70:=Tryz.isAgg164
 z70:=Tryz.sizeOf164
 v70:=Tryz.zeroValue164
 t72:=Tryz.underlying167
 a72:=Tryz.isAgg167
 z72:=Tryz.sizeOf167
 v72:=Tryz.zeroValue167
 t127:=Tryz.underlying181
 a127:=Tryz.isAgg181
 z127:=Tryz.sizeOf181
 v127:=Tryz.zeroValue181 }
theorem Tryz.P5N:Go.Proofs.Lays.n171 Tryz.prog Tryz.P4l:={
 mixed:=by kernel_rfl
 f129:=Tryz.func130.trans (congrArg some (by kernel_rfl))
 f171:=Tryz.func134.trans (congrArg some (by kernel_rfl))
 f243:=Tryz.func145.trans (congrArg some (by kernel_rfl))
 f246:=Tryz.func148.trans (congrArg some (by kernel_rfl))
 f283:=Tryz.func149.trans (congrArg some (by kernel_rfl))
 f284:=Tryz.func150.trans (congrArg some (by kernel_rfl))
 f285:=Tryz.func151.trans (congrArg some (by kernel_rfl))
 f286:=Tryz.func152.trans (congrArg some (by kernel_rfl))
 f317:=Tryz.func153.trans (congrArg some (by kernel_rfl))
 f318:=Tryz.func154.trans (congrArg some (by kernel_rfl))
 f319:=Tryz.func155.trans (congrArg some (by kernel_rfl))
 f320:=Tryz.func156.trans (congrArg some (by kernel_rfl))
 f337:=Tryz.func157.trans (congrArg some (by kernel_rfl))
 f338:=Tryz.func158.trans (congrArg some (by kernel_rfl))
 t0:=Tryz.underlying0
 a0:=Tryz.isAgg0
 z0:=Tryz.sizeOf0
 v0:=Tryz.zeroValue0
 t2:=Tryz.underlying2
 a2:=Tryz.isAgg2
 z2:=Tryz.sizeOf2
 v2:=Tryz.zeroValue2
 t3:=Tryz.underlying3
 a3:=Tryz.isAgg3
 z3:=Tryz.sizeOf3
 v3:=Tryz.zeroValue3
 t4:=Tryz.underlying4
 a4:=Tryz.isAgg4
 z4:=Tryz.sizeOf4
 v4:=Tryz.zeroValue4
 t5:=Tryz.underlying5
 a5:=Tryz.isAgg5
 z5:=Tryz.sizeOf5
 v5:=Tryz.zeroValue5
 t9:=Tryz.underlying9
 a9:=Tryz.isAgg9
 z9:=Tryz.sizeOf9
 v9:=Tryz.zeroValue9
 t20:=Tryz.underlying20
 a20:=Tryz.isAgg20
 z20:=Tryz.sizeOf20
 v20:=Tryz.zeroValue20
 t37:=Tryz.underlying165
 a37:=Tryz.isAgg165
 z37:=Tryz.sizeOf165
 v37:=Tryz.zeroValue165
 t46:=Tryz.underlying140
 a46:=Tryz.isAgg140
 z46:=Tryz.sizeOf140
 v46:=Tryz.zeroValue140
 t51:=Tryz.underlying160
 a51:=Tryz.isAgg160
 z51:=Tryz.sizeOf160
 v51:=Tryz.zeroValue160
 t53:=Tryz.underlying162
 a53:=Tryz.isAgg162
 z53:=Tryz.sizeOf162
 v53:=Tryz.zeroValue162
 t171:=Tryz.underlying188
 a171:=Tryz.isAgg188
 z171:=Tryz.sizeOf188
 v171:=Tryz.zeroValue188
 t173:=Tryz.underlying190
 a173:=Tryz.isAgg190
 z173:=Tryz.sizeOf190
 v173:=Tryz.zeroValue190
 t212:=Tryz.underlying194
 a212:=Tryz.isAgg194
 z212:=Tryz.sizeOf194
 v212:=Tryz.zeroValue194
 t213:=Tryz.underlying195
 a213:=Tryz.isAgg195
 z213:=Tryz.sizeOf195
 t232:=Tryz.underlying196
 a232:=Tryz.isAgg196
 z232:=Tryz.sizeOf196
 v232:=Tryz.zeroValue196
 t233:=Tryz.underlying197
 a233:=Tryz.isAgg197
 z233:=Tryz.sizeOf197
 v233:=Tryz.zeroValue197
 g17:=by kernel_rfl
 g18:=by kernel_rfl
 g19:=by kernel_rfl }
theorem Tryz.P5O:Go.Proofs.Lays.n189 Tryz.prog Tryz.P4l:={
 mixed:=by kernel_rfl
 f125:=Tryz.func101.trans (congrArg some (by kernel_rfl))
 f128:=Tryz.func129.trans (congrArg some (by kernel_rfl))
 f129:=Tryz.func130.trans (congrArg some (by kernel_rfl))
 f189:=Tryz.func66.trans (congrArg some (by kernel_rfl))
 f215:=Tryz.func143.trans (congrArg some (by kernel_rfl))
 f216:=Tryz.func126.trans (congrArg some (by kernel_rfl))
 f257:=Tryz.func100.trans (congrArg some (by kernel_rfl))
 f294:=Tryz.func120.trans (congrArg some (by kernel_rfl))
 f295:=Tryz.func121.trans (congrArg some (by kernel_rfl))
 f296:=Tryz.func122.trans (congrArg some (by kernel_rfl))
 f297:=Tryz.func123.trans (congrArg some (by kernel_rfl))
 f298:=Tryz.func124.trans (congrArg some (by kernel_rfl))
 f299:=Tryz.func125.trans (congrArg some (by kernel_rfl))
 f300:=Tryz.func127.trans (congrArg some (by kernel_rfl))
 f301:=Tryz.func128.trans (congrArg some (by kernel_rfl))
 f328:=Tryz.func138.trans (congrArg some (by kernel_rfl))
 f329:=Tryz.func139.trans (congrArg some (by kernel_rfl))
 f330:=Tryz.func140.trans (congrArg some (by kernel_rfl))
 f331:=Tryz.func141.trans (congrArg some (by kernel_rfl))
 f332:=Tryz.func142.trans (congrArg some (by kernel_rfl))
 f343:=Tryz.func146.trans (congrArg some (by kernel_rfl))
 t0:=Tryz.underlying0
 a0:=Tryz.isAgg0
 z0:=Tryz.sizeOf0
 v0:=Tryz.zeroValue0
 t3:=Tryz.underlying3
 a3:=Tryz.isAgg3
 z3:=Tryz.sizeOf3
 v3:=Tryz.zeroValue3
 t4:=Tryz.underlying4
 a4:=Tryz.isAgg4
 z4:=Tryz.sizeOf4
 v4:=Tryz.zeroValue4
 t5:=Tryz.underlying5
 a5:=Tryz.isAgg5
 z5:=Tryz.sizeOf5
 v5:=Tryz.zeroValue5
 t9:=Tryz.underlying9
 a9:=Tryz.isAgg9
 z9:=Tryz.sizeOf9
 v9:=Tryz.zeroValue9
 t28:=Tryz.underlying23
 a28:=Tryz.isAgg23
 z28:=Tryz.sizeOf23
 v28:=Tryz.zeroValue23
 t46:=Tryz.underlying140
 a46:=Tryz.isAgg140
 z46:=Tryz.sizeOf140
 v46:=Tryz.zeroValue140
 t51:=Tryz.underlying160
 a51:=Tryz.isAgg160
 z51:=Tryz.sizeOf160
 v51:=Tryz.zeroValue160
 t53:=Tryz.underlying162
 a53:=Tryz.isAgg162
 z53:=Tryz.sizeOf162
 v53:=Tryz.zeroValue162
 t131:=Tryz.underlying86
 a131:=Tryz.isAgg86
 z131:=Tryz.sizeOf86
 v131:=Tryz.zeroValue86
 t182:=Tryz.underlying153
 a182:=Tryz.isAgg153
 z182:=Tryz.sizeOf153
 v182:=Tryz.zeroValue153
 t183:=Tryz.underlying154
 a183:=Tryz.isAgg154
 z183:=Tryz.sizeOf154
 v183:=Tryz.zeroValue154
 t218:=Tryz.underlying175
 a218:=Tryz.isAgg175
 z218:=Tryz.sizeOf175
 v218:=Tryz.zeroValue175
 t222:=Tryz.underlying179
 a222:=Tryz.isAgg179
 z222:=Tryz.sizeOf179
 v222:=Tryz.zeroValue179
 t228:=Tryz.underlying182
 a228:=Tryz.isAgg182
 z228:=Tryz.sizeOf182
 v228:=Tryz.zeroValue182
 t229:=Tryz.underlying183
 a229:=Tryz.isAgg183
 z229:=Tryz.sizeOf183
 v229:=Tryz.zeroValue183 }
theorem Tryz.P5u:Go.Proofs.LaysM.n171 Tryz.prog Tryz.P4l:={ Tryz.P5N with
 i0:=by kernel_rfl
 i2:=by kernel_rfl
 i3:=by kernel_rfl
 i4:=by kernel_rfl
 i5:=by kernel_rfl
 i9:=by kernel_rfl
 i20:=by kernel_rfl
 i37:=by kernel_rfl
 i46:=by kernel_rfl
 i51:=by kernel_rfl
 i53:=by kernel_rfl
 i171:=by kernel_rfl
 i173:=by kernel_rfl
 i212:=by kernel_rfl
 i232:=by kernel_rfl
 i233:=by kernel_rfl
 m17:=by kernel_rfl
 m18:=by kernel_rfl
 m19:=by kernel_rfl }
theorem Tryz.P67:Builder.Extra Tryz.prog Tryz.P4l:={
 sizeBuilder:=by kernel_rfl
 liesBuilder:=by kernel_rfl
 t5:=Tryz.underlying5
 a5:=Tryz.isAgg5
 z5:=Tryz.sizeOf5
 v5:=Tryz.zeroValue5
 infoByte:=by kernel_rfl
 cellsByte:=by kernel_rfl
 sizeByte:=by kernel_rfl
 neB5:=of_decide_eq_true (by kernel_rfl) }
def Tryz.P4v:Go.Shelf.Ren:=⟨fun | 20=>67 | n=>n,fun | 22=>23 | 3=>3 | 4=>4 | 0=>0 | n=>n,fun | n=>n⟩
theorem Tryz.P54:Go.Proofs.Lays2.n20 Tryz.prog Tryz.P4v:={
 mixed:=by kernel_rfl
 f20:=Tryz.func67.trans (congrArg some (by kernel_rfl))
 t0:=Tryz.underlying0
 a0:=Tryz.isAgg0
 z0:=Tryz.sizeOf0
 v0:=Tryz.zeroValue0
 t3:=Tryz.underlying3
 a3:=Tryz.isAgg3
 z3:=Tryz.sizeOf3
 v3:=Tryz.zeroValue3
 t4:=Tryz.underlying4
 a4:=Tryz.isAgg4
 z4:=Tryz.sizeOf4
 v4:=Tryz.zeroValue4
 t22:=Tryz.underlying23
 a22:=Tryz.isAgg23
 z22:=Tryz.sizeOf23
 v22:=Tryz.zeroValue23
 i3:=by kernel_rfl }
theorem Zjj:tQ Tryz.prog 66:=vR Tryz.func66 (c:=Tryz.f66.body.getD .skip) (by kernel_rfl) (by kernel_rfl)
theorem Zjk:tQ Tryz.prog 67:=vR Tryz.func67 (c:=Tryz.f67.body.getD .skip) (by kernel_rfl) (by kernel_rfl)
theorem ZgD:tQ Tryz.prog 133:=vR Tryz.func133 (c:=Tryz.f133.body.getD .skip) (by kernel_rfl) (by kernel_rfl)
theorem ZgF:tQ Tryz.prog 135:=vR Tryz.func135 (c:=Tryz.f135.body.getD .skip) (by kernel_rfl) (by kernel_rfl)
theorem ZgG:tQ Tryz.prog 136:=vR Tryz.func136 (c:=Tryz.f136.body.getD .skip) (by kernel_rfl) (by kernel_rfl)
theorem ZgE:tQ Tryz.prog 134:=vR Tryz.func134 (c:=Tryz.f134.body.getD .skip) (by kernel_rfl) (by kernel_rfl)
theorem Zv2:MQ Tryz.prog 66:=by
 intro S id off ys l K hg hd hne hl hk;have hlen:(l.mergeSort fun x y=>decide (x≤y)).length=l.length:=List.length_mergeSort _;refine aN.rewrite Zjj hg hd hne hlen (l.mergeSort fun x y=>decide (x≤y)).length (Nat.le_refl _) (fun _ _ _=>.tuple #[]) (.aO []) (.inl ⟨rfl,fun _ _ _=>rfl⟩) (fun b o cap w hH hb hcap=>?_) ?_
 ·exact Any.slices_Sort_int Tryz.P5O b o cap l w hH hb (by omega)
 ·rw[List.take_length];exact hk
theorem Zv0:MN Tryz.prog 67:=by
 intro S id off ys l K hg hd hne hl hk;have hle:(Lib.compact l).length≤l.length:=Lib.compact_length_le l
 have hpos:0 < (Lib.compact l).length:=by
  obtain⟨x,hx⟩:=List.exists_mem_of_ne_nil _ hne;exact List.length_pos_of_mem (Zmi.mpr hx)
 refine aN.rewrite Zjk hg hd hne (l':=Lib.compact l++List.replicate (l.length - (Lib.compact l).length) 0) (by simp;omega) (Lib.compact l).length (by simp) (fun b o cap=>.slice (some ⟨b,o,none⟩) (Lib.compact l).length cap) (.own id off (Lib.compact l).length) (.inr ⟨rfl,hpos,fun _ _ _=>rfl⟩) (fun b o cap w hH hb hcap=>?_) ?_
 ·refine(Any.slices_Compact_int Tryz.P54 b o cap l w hH (by omega) hcap).mono ?_
  rintro e w' ⟨rfl,q,rfl⟩;exact⟨rfl,q,#[],(grow_empty _).symm⟩
 ·have:List.take (Lib.compact l).length (Lib.compact l++List.replicate (l.length - (Lib.compact l).length) 0)=Lib.compact l:=by simp
  rw[this];exact hk
theorem ZvS:BG Tryz.prog 133 135 136 167 5:=
 ⟨ZgD,ZgF,ZgG,
  fun B b bs s w h hl hB=>(Any.Builder_WriteString_k Tryz.P5K Tryz.P67 B b bs s w h hl hB).mono fun e w' ⟨h1,h2,h3,_⟩=>⟨h1,.inr h2,h3⟩,
  fun B b bs c w h hl hB=>(Any.Builder_WriteByte_k Tryz.P5L Tryz.P67 B b bs c w h hl hB).mono fun e w' ⟨h1,h2,h3,_⟩=>⟨h1,.inr h2,h3⟩,
  fun B b l w h hB=>(Any.Builder_String_any_k Tryz.P5M Tryz.P67 B b l w h hB).mono fun e w' ⟨h1,_,h3,_⟩=>⟨h1,h3⟩⟩
theorem Zv1:Dr Tryz.prog 134 (fun n=>0≤n∧n < 10000):=by
 refine⟨ZgE,fun H n w hG hH hn=>?_⟩;refine(Any.strconv_Itoa Tryz.P5u n (by omega) (by omega) w (ZqY hG hH (g:=0) (by kernel_rfl))).mono ?_;rintro e w' ⟨h,k,os,rfl⟩;exact⟨h,Lib.below_grow _ w (Nat.le_refl _) k os⟩
end Go.Proofs
namespace Go.Rf
open Go.RowKit
def Jp(P:Program)(b:Nat)(x y:AC)(Q:Exit→AF→St→Prop)(a:AF)(S:St)(c:AV):Prop:=
 match c with
 | .v (.bool t)=>if t=true then bq P b x Q a S else bq P b y Q a S
 | _=>False
section
variable{P:Program}{b:Nat}{Q:Exit→AF→St→Prop}{a:AF}{S:St}{os:List aZ}
theorem pQ:bq P b .skip Q a S=Q .normal a S:=by simp only[bq]
theorem mW(x y:AC):bq P b (.seq x y) Q a S=bq P b x (nR (bq P b y Q) Q) a S:=by simp only[bq]
theorem mV:bq P b (.reg none os) Q a S=RG P S.n os 0 (nK Q) a ⟨S.n+os.length,S.g⟩:=by simp only[bq];rw[lW]
theorem oF(fr:List (List Bool)):bq P b (.reg (some fr) os) Q a S=RD P S.n os fr 0 [] (nK Q) a ⟨S.n+os.length,S.g⟩:=by simp only[bq];rw[l7]
private theorem Zk7 (c:aI) (x y:AC):bq P b (.cond c x y) Q a S=Jp P b x y Q a S (c.ev a):=rfl
theorem pJ(c:aI)(x y:AC):bq P b (.cond c x y) Q a S=Jp P b x y Q a S (c.ev a):=by rw[Zk7]
theorem pz(x y:AC):Jp P b x y Q a S (.v (.bool true))=bq P b x Q a S:=by simp[Jp]
theorem o7(x y:AC):Jp P b x y Q a S (.v (.bool false))=bq P b y Q a S:=by simp[Jp]
theorem pG(id:Nat)(x:AC):bq P b (.block id x) Q a S=bq P b x (uo id Q) a S:=by simp only[bq]
theorem pK(id:Nat):bq P b (.exit id) Q a S=Q (.exit id) a S:=by simp only[bq]
theorem nA:bq P b .ret Q a S=Q .ret a S:=by simp only[bq]
theorem qy(x:AC):bq P b (.scp x) Q a S=bq P b x (yt Q) a S:=by simp only[bq]
theorem pO(p:Option aI):bq P b (.lU os p) Q a S=jP P S.n p os 0 Q a ⟨S.n+os.length,S.g⟩:=by simp only[bq];rw[Bq]
theorem ow(ts:List Nat)(R:AV→St→Prop):Ni b ts R .ret a S=∃a' S',aX b a S a' S'∧R (uU ts a') S':=by simp only[Ni,dw]
theorem pq(ts:List Nat)(R:AV→St→Prop):Ni b ts R .normal a S=∃a' S',aX b a S a' S'∧R (uU ts a') S':=by simp only[Ni,dw]
end
def Zsn{σ:Type}(b n:Nat)(I:Nat→σ→Prop)(A:Nat→σ→List (Nat×AV))(N:Nat)(G:Nat→σ→List (Nat×Option aB))(k:Nat):AF→St→Prop:=
 fun f S=>k < n∧∃s,I (k+1) s∧aX b f S (jm (A (k+1) s)) ⟨N,bn (G (k+1) s)⟩
theorem lg{P:Program}{b:Nat}{x:AC}{Q:Exit→AF→St→Prop}{f:AF}{S:St}{σ:Type}(n:Nat)(I:Nat→σ→Prop)(A:Nat→σ→List (Nat×AV))(N:Nat)(G:Nat→σ→List (Nat×Option aB))(s0:σ)(hI:I 0 s0)
  (h0:aX b f S (jm (A 0 s0)) ⟨N,bn (G 0 s0)⟩) (h:∀k s,k≤n→I k s→bq P b x (nR (Zsn b n I A N G k) Q) (jm (A k s)) ⟨N,bn (G k s)⟩):bq P b (.loop x) Q f S:=by
 refine⟨fun m f S=>∃k s,k≤n∧m=n - k∧I k s∧f=jm (A k s)∧S=⟨N,bn (G k s)⟩,⟨n,_,_,h0,0,s0,by omega,by omega,hI,rfl,rfl⟩,?_⟩;rintro m f S ⟨k,s,hk,rfl,hi,rfl,rfl⟩;refine Jb _ (fun e a S' hq=>?_) (h k s hk hi);cases e<;>simp only[nR] at hq ⊢<;>first | exact hq | skip
 obtain⟨h1,s',h2,h3⟩:=hq;exact⟨n - (k+1),_,_,by omega,h3,k+1,s',by omega,rfl,h2,rfl,rfl⟩
def ZsA{σ:Type}(b:Nat)(I:Nat→σ→Prop)(A:σ→List (Nat×AV))(N:Nat)(G:σ→List (Nat×Option aB))(m:Nat):AF→St→Prop:=
 fun f S=>∃m' s,m' < m∧I m' s∧aX b f S (jm (A s)) ⟨N,bn (G s)⟩
theorem ZeF{P:Program}{b:Nat}{x:AC}{Q:Exit→AF→St→Prop}{f:AF}{S:St}{σ:Type}(I:Nat→σ→Prop)(A:σ→List (Nat×AV))(N:Nat)(G:σ→List (Nat×Option aB))(m:Nat)(s0:σ)(hI:I m s0)
  (h0:aX b f S (jm (A s0)) ⟨N,bn (G s0)⟩) (h:∀m s,I m s→bq P b x (nR (ZsA b I A N G m) Q) (jm (A s)) ⟨N,bn (G s)⟩):bq P b (.loop x) Q f S:=by
 refine⟨fun m f S=>∃s,I m s∧f=jm (A s)∧S=⟨N,bn (G s)⟩,⟨m,_,_,h0,s0,hI,rfl,rfl⟩,?_⟩;rintro m f S ⟨s,hi,rfl,rfl⟩;refine Jb _ (fun e a S' hq=>?_) (h m s hi);cases e<;>simp only[nR] at hq ⊢<;>first | exact hq | skip
 obtain⟨m',s',h1,h2,h3⟩:=hq;exact⟨m',_,_,h1,h3,s',h2,rfl,rfl⟩
def Cls(xs:List AV):Prop:=∀x∈xs,aY x
def tJ(es:Nat)(xs:List AV):Prop:=∀z∈xs,z.cells.length=es
def xu(xs:List AV):Prop:=∀z∈xs,z.cells=[z]
theorem sP:Cls []↔True:=by simp[Cls]
theorem sN(x:AV)(xs:List AV):Cls (x::xs)↔aY x∧Cls xs:=by simp[Cls]
theorem tX(xs ys:List AV):Cls (xs++ys)↔Cls xs∧Cls ys:=⟨fun h=>⟨fun x hx=>h x (by simp[hx]),fun x hx=>h x (by simp[hx])⟩,fun h x hx=>by rcases List.mem_append.mp hx with hx | hx;exact h.1 x hx;exact h.2 x hx⟩
theorem FQ{X:Type}{enc:X→AV}(h:∀x,aY (enc x))(l:List X):Cls (l.map enc):=by intro y hy;obtain⟨x,_,rfl⟩:=List.mem_map.mp hy;exact h x
theorem jM(l:List Int):Cls (l.map ah):=FQ aW l
theorem jS(l:List Bool):Cls (l.map aD):=FQ dY l
theorem kU(l:List (List Int)):Cls (l.map aj):=FQ aT l
theorem tY(n:Nat)(x:AV):Cls (List.replicate n x)↔n=0∨aY x:=by
 constructor
 ·intro h
  cases n with
  | zero=>exact .inl rfl
  | succ n=>exact .inr (h x (by simp))
 ·rintro(rfl | h) y hy
  ·simp at hy
  ·rw[(List.mem_replicate.mp hy).2];exact h
theorem ql:xu []↔True:=by simp[xu]
theorem pR(x:AV)(xs:List AV):xu (x::xs)↔x.cells=[x]∧xu xs:=by simp[xu]
theorem qz(xs ys:List AV):xu (xs++ys)↔xu xs∧xu ys:=⟨fun h=>⟨fun x hx=>h x (by simp[hx]),fun x hx=>h x (by simp[hx])⟩,fun h x hx=>by rcases List.mem_append.mp hx with hx | hx;exact h.1 x hx;exact h.2 x hx⟩
theorem Xl{X:Type}{enc:X→AV}(h:∀x,(enc x).cells=[enc x])(l:List X):xu (l.map enc):=by intro y hy;obtain⟨x,_,rfl⟩:=List.mem_map.mp hy;exact h x
theorem qG(l:List Int):xu (l.map ah):=Xl (fun _=>rfl) l
theorem qF(l:List Bool):xu (l.map aD):=Xl (fun _=>rfl) l
theorem qA(l:List (List Int)):xu (l.map aj):=Xl (fun _=>rfl) l
theorem qo(es:Nat):tJ es []↔True:=by simp[tJ]
theorem pU(es:Nat)(x:AV)(xs:List AV):tJ es (x::xs)↔x.cells.length=es∧tJ es xs:=by simp[tJ]
theorem qm(es:Nat)(xs ys:List AV):tJ es (xs++ys)↔tJ es xs∧tJ es ys:=⟨fun h=>⟨fun x hx=>h x (by simp[hx]),fun x hx=>h x (by simp[hx])⟩,fun h x hx=>by rcases List.mem_append.mp hx with hx | hx;exact h.1 x hx;exact h.2 x hx⟩
theorem Ms{es:Nat}{X:Type}{enc:X→AV}(h:∀x,(enc x).cells.length=es)(l:List X):tJ es (l.map enc):=by intro y hy;obtain⟨x,_,rfl⟩:=List.mem_map.mp hy;exact h x
theorem qI(l:List Int):tJ 1 (l.map ah):=Ms (enc:=ah) (fun _=>rfl) l
theorem qH(l:List Bool):tJ 1 (l.map aD):=Ms (enc:=aD) (fun _=>rfl) l
theorem oK(l:List (List Int)):tJ 1 (l.map aj):=Ms (enc:=aj) (fun _=>rfl) l
section
variable{gF g:Nat→Option aB}{R:Nat→Nat→Prop}
theorem gL.nil:gL gF R [] []:=⟨rfl,fun i h=>by simp at h⟩
theorem gL.cons{x y:AV}{a b:List AV}(h:bW gF R x y)(k:gL gF R a b):gL gF R (x::a) (y::b):=by
 refine⟨by simp[k.1],fun i h1 h2=>?_⟩;cases i with
 | zero=>exact h
 | succ i=>exact k.2 i (by simpa using h1) (by simpa using h2)
theorem bW.cl{x:AV}(h:aY x):bW gF R x x:=.fz _ _ (.closed _ h)
theorem gL.cl{xs:List AV}(h:Cls xs):gL gF R xs xs:=⟨rfl,fun i h1 _=>.cl (h _ (List.getElem_mem h1))⟩
theorem nZ{x y:AV}{a b:List AV}:gL gF R (x::a) (y::b)↔bW gF R x y∧gL gF R a b:=by
 refine⟨fun h=>⟨h.2 0 (by simp) (by simp),by simpa using h.1,fun i h1 h2=>h.2 (i+1) (by simpa using h1) (by simpa using h2)⟩,fun h=>.cons h.1 h.2⟩
theorem oH:gL gF R [] []↔True:=⟨fun _=>trivial,fun _=>.nil⟩
theorem uq(x y:Value):bW gF R (.v x) (.v y)↔x=y:=by
 constructor
 ·intro h
  cases h with
  | fz _ _ h=>cases h;rfl
  | wk _ _ _ h=>cases h;rfl
 ·rintro rfl;exact .cl (.v _)
theorem rW(id j o o' l l':Nat):bW gF R (.own id o l) (.own j o' l')↔R j id∧o=o'∧l=l':=by
 constructor
 ·intro h
  cases h with
  | fz _ _ h=>cases h with | closed _ h=>cases h
  | wk _ _ h _=>cases h
  | own _ _ _ _ h=>exact⟨h,rfl,rfl⟩
 ·rintro⟨h,rfl,rfl⟩;exact .own _ _ _ _ h
theorem tT(id j o o' l l':Nat):bW gF R (.ptr id o l) (.ptr j o' l')↔R j id∧o=o'∧l=l':=by
 constructor
 ·intro h
  cases h with
  | fz _ _ h=>cases h with | closed _ h=>cases h
  | wk _ _ h _=>cases h
  | ptr _ _ _ _ h=>exact⟨h,rfl,rfl⟩
 ·rintro⟨h,rfl,rfl⟩;exact .ptr _ _ _ _ h
theorem rX(id j:Nat):bW gF R (.mp id) (.mp j)↔R j id:=by
 constructor
 ·intro h
  cases h with
  | fz _ _ h=>cases h with | closed _ h=>cases h
  | wk _ _ h _=>cases h
  | mp _ _ h=>exact h
 ·intro h;exact .mp _ _ h
theorem ou(cs ds:List AV):bW gF R (.agg cs) (.agg ds)↔gL gF R cs ds:=by
 constructor
 ·intro h
  cases h with
  | fz _ _ h=>exact⟨h.cells.1,fun i h1 h2=>.fz _ _ (h.cells.2.2 i h1 h2)⟩
  | wk _ _ hc h=>exact⟨h.f.len,fun i h1 h2=>.wk _ _ (hc.cells _ (List.getElem_mem _)) (h.cells i h1 h2)⟩
  | agg _ _ hl h=>exact⟨hl,h⟩
 ·intro h;exact .agg _ _ h.1 h.2
theorem sM(k:Option aB):BI gF R k none↔True:=⟨fun _=>trivial,fun _ _ h=>by cases h⟩
theorem jy(es es':Nat)(xs ys:List AV):BI gF R (some (.arr es xs)) (some (.arr es' ys))↔es=es'∧gL gF R xs ys:=by
 constructor
 ·intro h
  obtain⟨b,h1,h2⟩:=h _ rfl;cases h1;cases h2 with
  | arr _ _ _ h=>exact⟨rfl,h⟩
 ·rintro⟨rfl,h⟩ b hb
  cases hb;exact⟨_,rfl,.arr _ _ _ h⟩
theorem bW.loose{t:Bool}{xs:List AV}(h:∀x∈xs,aY x):bW gF R (.sl t xs) (.sl false xs):=.fz _ _ (.loose t xs (.sl _ _ h))
theorem bW.sG{F:List Nat}{id es len:Nat}{xs:List AV}(hF:id∈F)(hg:g id=some (.arr es xs))(hl:len=xs.length)(hc:Cls xs):bW (only F g) R (.own id 0 len) (.sl false xs):=by
 refine .fz _ _ (.own id 0 len es xs xs (by rw[Ec,if_pos hF];exact hg) (by omega) hl.symm (fun i h1 h2=>?_));simp only[List.drop_zero,hl,List.take_length];exact .closed _ (hc _ (List.getElem_mem _))
end
theorem uy(o:List (Nat×Nat))(b j i:Nat):BN o b j i↔((j,i)∈o∨(j=i∧i < b)):=Iff.rfl
theorem sO(x:Value):aY (.v x):=.v x
theorem mM(t:Bool):aY (.sl t []):=.sl _ _ (by simp)
theorem tN(l:List Int):aY (.sl false (l.map ah)):=aT l
theorem tK(l:List (List Int)):aY (.sl false (l.map aj)):=jR l
theorem tL(l:List Bool):aY (.sl false (l.map aD)):=jG l
def vV(o:Bool)(id:Nat)(xs:List AV):AV:=if o=true then .own id 0 xs.length else .sl true xs
def vB(o:Bool)(es:Nat)(xs:List AV):Option aB:=if o=true then some (.arr es xs) else none
theorem dW(id:Nat)(xs:List AV):vV true id xs=.own id 0 xs.length:=by simp[vV]
theorem mF(id:Nat)(xs:List AV):vV false id xs=.sl true xs:=by simp[vV]
theorem bN(es:Nat)(xs:List AV):vB true es xs=some (.arr es xs):=by simp[vB]
theorem oV(es:Nat)(xs:List AV):vB false es xs=none:=by simp[vB]
theorem ZnL{S:St}{id es au len aA:Nat}{xs:List AV}{x:AV}(hg:S.g id=some (.arr es xs))(hl:xs.length=len)(hx:x.cells.length=es)(hok:bY au len 1) :
  (kP es au (.own id 0 len) (.sl true [x])).run S aA=some (.own aA 0 (len+1),(S.set id none).set aA (some (.arr es (xs++[x])))):=by
 simp[kP,Eff.run,AV.ku,lD,hx,hok,St.dX,St.fP,hg,hl]
theorem Zkw{S:St}{es au aA:Nat}{xs:List AV}{x:AV}(hes:tJ es xs)(hx:x.cells.length=es)(hok:bY au xs.length 1) :
  (kP es au (.sl true xs) (.sl true [x])).run S aA=some (.own aA 0 (xs.length+1),S.set aA (some (.arr es (xs++[x])))):=by
 simp only[kP,Eff.run,AV.ku,lD,List.mapM_nil,Option.pure_def,List.mem_singleton,forall_eq,hx,if_true,Option.bind_some,List.length_cons,List.length_nil,Nat.zero_add];rw[if_pos ⟨hes,hok⟩];simp[St.dX,St.fP]
theorem qN{S:St}{o:Bool}{id es au aA:Nat}{xs:List AV}{x:AV}(hg:S.g id=vB o es xs)(hes:tJ es xs)(hx:x.cells.length=es)(hok:bY au xs.length 1) :
  (kP es au (vV o id xs) (.sl true [x])).run S aA=some (.own aA 0 (xs.length+1),(S.set id none).set aA (some (.arr es (xs++[x])))):=by
 cases o with
 | true=>rw[dW];rw[bN] at hg;exact ZnL hg rfl hx hok
 | false=>
  rw[mF,Zkw hes hx hok];rw[oV] at hg
  have:S.set id none=S:=by
   cases S with
   | mk n g=>
    simp only[St.set,St.mk.injEq,true_and];funext j;simp only[bG];split
    ·rename_i h;subst h;exact hg.symm
    ·rfl
  rw[this]
theorem pX(t:Bool)(xs:List AV):gu (.sl t xs)=some (.v (.int .i64 xs.length)):=by simp only[gu]
theorem oh(id off len:Nat):gu (.own id off len)=some (.v (.int .i64 len)):=by simp only[gu]
theorem qc(es:Nat)(t:Bool)(xs:List AV)(k:IntKind)(n:Int):dz es (.sl t xs) (.v (.int k n))=.val ((xs[n.toNat]?).bind fun y=>if 0≤n∧y.cells.length=es then some (.bJ y 0) else none):=by simp only[dz]
theorem o8(es id off len:Nat)(k:IntKind)(n:Int):dz es (.own id off len) (.v (.int k n))=.rd id fun
  | .arr es' xs=>if es'=es∧0≤n∧n < len∧off+len≤xs.length then some (.ptr id (off+n.toNat) 0) else none
  | _=>none:=by simp only[dz];rfl
theorem pE(k:Option Nat)(x:AV)(c:Nat):bX k (.bJ x c)=.val (bB k x c):=by simp only[bX]
theorem ny(k:Option Nat)(id ix c:Nat):bX k (.ptr id ix c)=.rd id fun | .arr _ xs=>(xs[ix]?).bind fun x=>bB k x c | _=>none:=by simp only[bX];rfl
theorem pY(o:Bool)(id:Nat)(xs:List AV):gu (vV o id xs)=some (.v (.int .i64 xs.length)):=by cases o<;>simp[vV,gu]
def vP(o:Bool)(id i:Nat)(xs:List AV):AV:=if o=true then .ptr id i 0 else .bJ (xs[i]?.getD .junk) 0
theorem qO{S:St}{o:Bool}{id es aA:Nat}{xs:List AV}{k:IntKind}{n:Int}(hg:S.g id=vB o es xs)(hn:0≤n)(hlt:n < xs.length)(hes:tJ es xs) :
  (dz es (vV o id xs) (.v (.int k n))).run S aA=some (vP o id n.toNat xs,S):=by
 have hl:n.toNat < xs.length:=by omega
 have hx:xs[n.toNat]? = some xs[n.toNat]:=List.getElem?_eq_getElem hl;cases o with
 | true=>rw[bN] at hg;simp[vV,vP,dz,hg,hn,hlt]
 | false=>simp[vV,vP,dz,hx,hn,hes _ (List.getElem_mem hl)]
theorem qL{S:St}{o:Bool}{id i aA:Nat}{xs:List AV}(hg:S.g id=vB o 1 xs)(hx:i < xs.length)(hc:xu xs):(bX none (vP o id i xs)).run S aA=some (xs[i]?.getD .junk,S):=by
 have hx':xs[i]? = some xs[i]:=List.getElem?_eq_getElem hx;have hc':=hc _ (List.getElem_mem hx);cases o with
 | true=>rw[bN] at hg;simp[vP,bX,hg,hx',bB,hc']
 | false=>simp[vP,bX,bB,hc',hx']
def vF(o:Bool)(l:List Nat):List Nat:=if o=true then l else []
theorem oL(o:Bool)(l:List Nat)(j:Nat):j∈vF o l↔o=true∧j∈l:=by cases o<;>simp[vF]
theorem qK{S:St}{o:Bool}{id es aA:Nat}{xs:List AV}{k:IntKind}{n:Int}(hg:S.g id=vB o es xs)(hn:0≤n)(hlt:n < xs.length)(hes:tJ es xs) :
  (dz es (vV o id xs) (.v (.int k n))).runT S aA=some (vP o id n.toNat xs,S,vF o [id],[]):=by
 have hl:n.toNat < xs.length:=by omega
 have hx:xs[n.toNat]? = some xs[n.toNat]:=List.getElem?_eq_getElem hl;cases o with
 | true=>rw[bN] at hg;simp[vV,vP,dz,hg,hn,hlt,eP,vF]
 | false=>simp[vV,vP,dz,hx,hn,hes _ (List.getElem_mem hl),dO,vF]
theorem qE{S:St}{o:Bool}{id i aA:Nat}{xs:List AV}(hg:S.g id=vB o 1 xs)(hx:i < xs.length)(hc:xu xs):(bX none (vP o id i xs)).runT S aA=some (xs[i]?.getD .junk,S,vF o [id],[]):=by
 have hx':xs[i]? = some xs[i]:=List.getElem?_eq_getElem hx;have hc':=hc _ (List.getElem_mem hx);cases o with
 | true=>rw[bN] at hg;simp[vP,bX,hg,hx',bB,hc',eP,vF]
 | false=>simp[vP,bX,bB,hc',hx',dO,vF]
theorem oO{S:St}{o:Bool}{id es au aA:Nat}{xs:List AV}{x:AV}(hg:S.g id=vB o es xs)(hes:tJ es xs)(hx:x.cells.length=es)(hok:bY au xs.length 1) :
  (kP es au (vV o id xs) (.sl true [x])).runT S aA=some (.own aA 0 (xs.length+1),(S.set id none).set aA (some (.arr es (xs++[x]))),vF o [id],vF o [id]++[aA]):=by
 cases o with
 | true=>
  rw[bN] at hg;simp[vV,kP,Eff.runT,AV.ku,lD,hx,hok,St.dX,St.fP,hg,vF]
 | false=>
  rw[oV] at hg
  have:S.set id none=S:=by
   cases S with
   | mk n g=>
    simp only[St.set,St.mk.injEq,true_and];funext j;simp only[bG];split
    ·rename_i h;subst h;exact hg.symm
    ·rfl
  rw[this,mF];simp only[kP,Eff.runT,AV.ku,lD,List.mapM_nil,Option.pure_def,List.mem_singleton,forall_eq,hx,if_true,Option.bind_some,List.length_cons,List.length_nil,Nat.zero_add];rw[if_pos ⟨hes,hok⟩];simp[St.dX,St.fP,vF]
section
variable{gF g:Nat→Option aB}{R:Nat→Nat→Prop}
theorem qW{o:Bool}{id j:Nat}{xs:List AV}(h:R j id)(hc:Cls xs):bW gF R (vV o id xs) (vV o j xs):=by
 cases o with
 | true=>rw[dW,dW];exact .own _ _ _ _ h
 | false=>rw[mF,mF];exact .cl (.sl _ _ hc)
theorem qD{o:Bool}{es:Nat}{xs:List AV}(hc:Cls xs):BI gF R (vB o es xs) (vB o es xs):=by
 cases o with
 | true=>rw[bN,jy];exact⟨rfl,.cl hc⟩
 | false=>rw[oV,sM];trivial
theorem uh{F:List Nat}{id len:Nat}{xs:List AV}(hF:id∈F)(hg:g id=some (.arr 1 xs))(hl:len=xs.length)(hc:Cls xs):bW (only F g) R (.own id 0 len) (.sl false xs):=.sG hF hg hl hc
theorem r9{F:List Nat}{o:Bool}{id:Nat}{xs:List AV}(hF:id∈F)(hg:g id=vB o 1 xs)(hc:Cls xs):bW (only F g) R (vV o id xs) (.sl false xs):=by
 cases o with
 | true=>rw[dW];rw[bN] at hg;exact .sG hF hg rfl hc
 | false=>rw[mF];exact .loose hc
theorem um{F:List Nat}{o:Bool}{id:Nat}{l:List Int}(hF:id∈F)(hg:g id=vB o 1 (l.map ah)):bW (only F g) R (vV o id (l.map ah)) (aj l):=r9 hF hg (jM l)
theorem uj{F:List Nat}{o:Bool}{id:Nat}{l:List Bool}(hF:id∈F)(hg:g id=vB o 1 (l.map aD)):bW (only F g) R (vV o id (l.map aD)) (bA l):=r9 hF hg (jS l)
theorem tV{F:List Nat}{id len:Nat}{l:List Int}(hF:id∈F)(hg:g id=some (.arr 1 (l.map ah)))(hl:len=l.length):bW (only F g) R (.own id 0 len) (aj l):=.sG hF hg (by simpa using hl) (jM l)
theorem wo{o:Bool}{id:Nat}{xs:List AV}(hg:g id=vB o 1 xs)(hc:Cls xs):Fz g (vV o id xs) (.sl false xs):=by
 cases o with
 | true=>
  rw[dW];rw[bN] at hg;refine .own id 0 xs.length 1 xs xs hg (by omega) rfl (fun i h1 h2=>?_);simp only[List.drop_zero,List.take_length];exact .closed _ (hc _ (List.getElem_mem _))
 | false=>rw[mF];exact .loose true xs (.sl _ _ hc)
theorem tO{a b:List AV}{x y:AV}:gL gF R (a++[x]) (b++[y])↔gL gF R a b∧bW gF R x y:=by
 constructor
 ·intro h
  have hl:b.length=a.length:=by have:=h.1;simpa using this
  refine⟨⟨hl,fun i h1 h2=>?_⟩,?_⟩
  ·have:=h.2 i (by simp;omega) (by simp;omega)
   rwa[List.getElem_append_left h1,List.getElem_append_left h2] at this
  ·have:=h.2 a.length (by simp) (by simp[hl])
   rw[List.getElem_append_right (Nat.le_refl _),List.getElem_append_right (by omega)] at this;simpa[hl] using this
 ·rintro⟨h1,h2⟩
  refine⟨by simp[h1.1],fun i k1 k2=>?_⟩;have hl:=h1.1;by_cases hi:i < a.length
  ·rw[List.getElem_append_left hi,List.getElem_append_left (by omega)]
   exact h1.2 i hi (by omega)
  ·have:i=a.length:=by simp at k1;omega
   subst this;rw[List.getElem_append_right (Nat.le_refl _),List.getElem_append_right (by omega)];simpa[hl] using h2
end
theorem kT(l:List Int):(aj l).cells=[aj l]:=rfl
theorem pI(l:List (List Int)):(aU l).cells=[aU l]:=rfl
theorem pV(l:List Bool):(bA l).cells=[bA l]:=rfl
theorem pW(o:Bool)(id:Nat)(xs:List AV):(vV o id xs).cells=[vV o id xs]:=by cases o<;>simp[vV,AV.cells]
theorem qx(x:Value):(AV.v x).solid=true:=by simp only[AV.solid]
theorem oD(t:Bool)(xs:List AV):(AV.sl t xs).solid=true:=by simp only[AV.solid]
theorem oq(a b c:Nat):(AV.own a b c).solid=true:=by simp only[AV.solid]
theorem qj(a b c:Nat):(AV.ptr a b c).solid=true:=by simp only[AV.solid]
theorem o9(x:AV)(c:Nat):(AV.bJ x c).solid=true:=by simp only[AV.solid]
theorem qg(xs:List AV):(AV.agg xs).solid=true:=by simp only[AV.solid]
theorem qh(f:FuncId)(a b:List AV):(AV.aP f a b).solid=true:=by simp only[AV.solid]
theorem p9(i:Nat):(AV.mp i).solid=true:=by simp only[AV.solid]
theorem kZ(l:List Int):(aj l).solid=true:=rfl
theorem qd(l:List (List Int)):(aU l).solid=true:=rfl
theorem p8(l:List Bool):(bA l).solid=true:=rfl
theorem qb(o:Bool)(id:Nat)(xs:List AV):(vV o id xs).solid=true:=by cases o<;>simp[vV,AV.solid]
theorem rA(n:Net):(jA n).solid=true:=rfl
theorem q9(n:Net):(jA n).cells=[.v (.int .i64 n.signs),aU n.au,aU n.follow,aj n.last]:=rfl
theorem rC(n:Net):AV.agg [.v (.int .i64 n.signs),aU n.au,aU n.follow,aj n.last]=jA n:=rfl
theorem om(d:aC):(aR d).solid=true:=rfl
theorem og(d:aC):(aR d).cells=[.v (.int .i64 d.signs),aU d.next,bA d.fin]:=rfl
theorem qp(d:aC):AV.agg [.v (.int .i64 d.signs),aU d.next,bA d.fin]=aR d:=rfl
theorem rJ(l:List Int):gu (aj l)=some (.v (.int .i64 l.length)):=by simp[aj,gu]
theorem rz(l:List (List Int)):gu (aU l)=some (.v (.int .i64 l.length)):=by simp[aU,gu]
theorem rH(l:List Bool):gu (bA l)=some (.v (.int .i64 l.length)):=by simp[bA,gu]
theorem rP{S:St}{aA:Nat}{l:List Int}{k:IntKind}{n:Int}(hn:0≤n)(hlt:n < l.length):(dz 1 (aj l) (.v (.int k n))).run S aA=some (.bJ (ah (l.getD n.toNat 0)) 0,S):=by
 have hl:n.toNat < l.length:=by omega
 simp[aj,dz,hn,List.getElem?_eq_getElem hl,List.getD_eq_getElem?_getD,AV.cells,ah]
theorem rG{S:St}{aA:Nat}{l:List (List Int)}{k:IntKind}{n:Int}(hn:0≤n)(hlt:n < l.length):(dz 1 (aU l) (.v (.int k n))).run S aA=some (.bJ (aj (l.getD n.toNat [])) 0,S):=by
 have hl:n.toNat < l.length:=by omega
 simp[aU,dz,hn,List.getElem?_eq_getElem hl,List.getD_eq_getElem?_getD,AV.cells,aj]
theorem rO{S:St}{aA:Nat}{l:List Bool}{k:IntKind}{n:Int}(hn:0≤n)(hlt:n < l.length):(dz 1 (bA l) (.v (.int k n))).run S aA=some (.bJ (aD (l.getD n.toNat false)) 0,S):=by
 have hl:n.toNat < l.length:=by omega
 simp[bA,dz,hn,List.getElem?_eq_getElem hl,List.getD_eq_getElem?_getD,AV.cells,aD]
theorem rE{S:St}{aA:Nat}{l:List Int}{k:IntKind}{n:Int}(hn:0≤n)(hlt:n < l.length):(dz 1 (aj l) (.v (.int k n))).runT S aA=some (.bJ (ah (l.getD n.toNat 0)) 0,S,[],[]):=by
 have hl:n.toNat < l.length:=by omega
 simp[aj,dz,hn,List.getElem?_eq_getElem hl,List.getD_eq_getElem?_getD,AV.cells,ah,dO]
theorem rM{S:St}{aA:Nat}{l:List (List Int)}{k:IntKind}{n:Int}(hn:0≤n)(hlt:n < l.length):(dz 1 (aU l) (.v (.int k n))).runT S aA=some (.bJ (aj (l.getD n.toNat [])) 0,S,[],[]):=by
 have hl:n.toNat < l.length:=by omega
 simp[aU,dz,hn,List.getElem?_eq_getElem hl,List.getD_eq_getElem?_getD,AV.cells,aj,dO]
theorem rD{S:St}{aA:Nat}{l:List Bool}{k:IntKind}{n:Int}(hn:0≤n)(hlt:n < l.length):(dz 1 (bA l) (.v (.int k n))).runT S aA=some (.bJ (aD (l.getD n.toNat false)) 0,S,[],[]):=by
 have hl:n.toNat < l.length:=by omega
 simp[bA,dz,hn,List.getElem?_eq_getElem hl,List.getD_eq_getElem?_getD,AV.cells,aD,dO]
theorem ZpF{l:List Int}{i:Nat}(h:i < l.length):l.getD i 0=l[i]:=by rw[List.getD_eq_getElem?_getD,List.getElem?_eq_getElem h];rfl
def bZ(p:Int×Int):AV:=.agg [.v (.int .i64 p.1),.v (.int .i64 p.2)]
theorem Qy(p:Int×Int):(bZ p).solid=true:=rfl
theorem yX(p:Int×Int):(bZ p).cells=[.v (.int .i64 p.1),.v (.int .i64 p.2)]:=rfl
theorem yV(p:Int×Int):aY (bZ p):=.agg _ (aG (.v _) (aG (.v _) aQ))
theorem Q6(l:List (Int×Int)):tJ 2 (l.map bZ):=Ms (enc:=bZ) (fun _=>rfl) l
theorem Bt(l:List (Int×Int)):Cls (l.map bZ):=FQ yV l
def vQ(o:Bool)(id i c:Nat)(xs:List AV):AV:=if o=true then .ptr id i c else .bJ (xs[i]?.getD .junk) c
theorem R9{o:Bool}{id i:Nat}{xs:List AV}{k:IntKind}{n:Int}(h0:0≤n)(h1:n < 2):gY 2 1 (vP o id i xs) (.v (.int k n))=some (vQ o id i n.toNat xs):=by
 cases o<;>simp[gY,vP,vQ,h0,h1]
section
variable{S:St}{o:Bool}{id i aA:Nat}{l:List (Int×Int)}
theorem TN(hg:S.g id=vB o 2 (l.map bZ))(hx:i < l.length):(bX none (vQ o id i 0 (l.map bZ))).run S aA=some (.v (.int .i64 l[i].1),S):=by
 cases o with
 | true=>rw[bN] at hg;simp[vQ,bX,hg,hx,bB,yX]
 | false=>simp[vQ,bX,bB,hx,yX]
theorem TP(hg:S.g id=vB o 2 (l.map bZ))(hx:i < l.length):(bX none (vQ o id i 1 (l.map bZ))).run S aA=some (.v (.int .i64 l[i].2),S):=by
 cases o with
 | true=>rw[bN] at hg;simp[vQ,bX,hg,hx,bB,yX]
 | false=>simp[vQ,bX,bB,hx,yX]
theorem SF(hg:S.g id=vB o 2 (l.map bZ))(hx:i < l.length):(bX (some 2) (vP o id i (l.map bZ))).run S aA=some (bZ l[i],S):=by
 cases o with
 | true=>rw[bN] at hg;simp[vP,bX,hg,hx,bB,bZ,AV.cells]
 | false=>simp[vP,bX,bB,hx,bZ,AV.cells]
theorem SG(hg:S.g id=vB o 2 (l.map bZ))(hx:i < l.length):(bX none (vQ o id i 0 (l.map bZ))).runT S aA=some (.v (.int .i64 l[i].1),S,vF o [id],[]):=by
 cases o with
 | true=>rw[bN] at hg;simp[vQ,bX,hg,hx,bB,yX,eP,vF]
 | false=>simp[vQ,bX,bB,hx,yX,dO,vF]
theorem SH(hg:S.g id=vB o 2 (l.map bZ))(hx:i < l.length):(bX none (vQ o id i 1 (l.map bZ))).runT S aA=some (.v (.int .i64 l[i].2),S,vF o [id],[]):=by
 cases o with
 | true=>rw[bN] at hg;simp[vQ,bX,hg,hx,bB,yX,eP,vF]
 | false=>simp[vQ,bX,bB,hx,yX,dO,vF]
theorem Sb(hg:S.g id=vB o 2 (l.map bZ))(hx:i < l.length):(bX (some 2) (vP o id i (l.map bZ))).runT S aA=some (bZ l[i],S,vF o [id],[]):=by
 cases o with
 | true=>rw[bN] at hg;simp[vP,bX,hg,hx,bB,bZ,AV.cells,eP,vF]
 | false=>simp[vP,bX,bB,hx,bZ,AV.cells,dO,vF]
end
theorem M9(p q:Int×Int):fM true [0,1] (bZ p) (bZ q)=some (.v (.bool (decide (p≠q)))):=by
 obtain⟨a,b⟩:=p;obtain⟨c,d⟩:=q;by_cases h1:a=c
 ·subst h1
  by_cases h2:b=d
  ·subst h2;simp[fM,bZ,dA]
  ·simp[fM,bZ,dA,h2]
 ·simp[fM,bZ,dA,h1]
theorem Rk(p:Int×Int)(x y:Int):fM true [0,1] (bZ p) (.agg [.v (.int .i64 x),.v (.int .i64 y)])=some (.v (.bool (decide (p≠(x,y))))):=M9 p (x,y)
def GN(l:List UInt8):Nat:=l.foldl (fun a b=>10*a+(b.toNat - 48)) 0
theorem Zpc(l:List UInt8)(b:UInt8):GN (l++[b])=10*GN l+(b.toNat - 48):=by simp[GN]
theorem Ja{d:Nat}(h:d < 10):(UInt8.ofNat (48+d)).toNat=48+d:=by
 rw[UInt8.toNat_ofNat'];omega
theorem IG(n:Nat):GN (Lib.decDigits n)=n∧∀b∈Lib.decDigits n,b≠32:=by
 induction n using Nat.strongRecOn with
 | _ n ih=>
  rw[Lib.decDigits];split
  ·rename_i h
   refine⟨?_,?_⟩
   ·have:=Ja h
    simp only[GN,List.foldl_cons,List.foldl_nil];omega
   ·intro b hb e
    simp only[List.mem_cons,List.not_mem_nil,or_false] at hb;have:=Ja h;rw[←hb,e] at this;have h32:(32:UInt8).toNat=32:=rfl;omega
  ·rename_i h
   obtain⟨h1,h2⟩:=ih (n / 10) (by omega);have hd:n % 10 < 10:=Nat.mod_lt _ (by omega);refine⟨?_,?_⟩
   ·rw[Zpc,h1,Ja hd];omega
   ·intro b hb e
    rcases List.mem_append.mp hb with hb | hb
    ·exact h2 b hb e
    ·simp only[List.mem_cons,List.not_mem_nil,or_false] at hb
     have:=Ja hd;rw[←hb,e] at this;have h32:(32:UInt8).toNat=32:=rfl;omega
theorem XO{b:UInt8}:∀{xs ys us vs:List UInt8},(∀x∈xs,x≠b)→(∀y∈ys,y≠b)→xs++b::us=ys++b::vs→xs=ys∧us=vs
 | [],[],us,vs,_,_,h=>by simp at h;exact⟨rfl,h⟩
 | [],y::ys,us,vs,_,hy,h=>by simp at h;exact(hy y (by simp) h.1.symm).elim
 | x::xs,[],us,vs,hx,_,h=>by simp at h;exact(hx x (by simp) h.1).elim
 | x::xs,y::ys,us,vs,hx,hy,h=>by
  simp only[List.cons_append,List.cons.injEq] at h;obtain⟨h1,h2⟩:=XO (fun z hz=>hx z (by simp[hz])) (fun z hz=>hy z (by simp[hz])) h.2;exact⟨by rw[h.1,h1],h2⟩
def vg(l:List Int):Prop:=∀n∈l,0≤n
theorem Mv{n:Int}(h:0≤n):Lib.itoa n=Lib.decDigits n.toNat:=by unfold Lib.itoa;rw[if_neg (by omega)]
theorem LW(n:Int)(l:List Int):jY (n::l)=Lib.itoa n++32::jY l:=by simp[jY]
theorem Zga:∀{l m:List Int},vg l→vg m→jY l=jY m→l=m
 | [],[],_,_,_=>rfl
 | [],n::m,_,_,h=>by rw[LW] at h;simp[jY] at h
 | n::l,[],_,_,h=>by rw[LW] at h;simp[jY] at h
 | n::l,k::m,hl,hm,h=>by
  have hn:=hl n (by simp);have hk:=hm k (by simp);rw[LW,LW,Mv hn,Mv hk] at h;obtain⟨h1,h2⟩:=XO (IG _).2 (IG _).2 h;have:=congrArg GN h1;rw[(IG _).1,(IG _).1] at this;rw[Zga (fun z hz=>hl z (by simp[hz])) (fun z hz=>hm z (by simp[hz])) h2];congr 1;omega
def uD:Nat→List (List Int)→List (AV×AV)
 | _,[]=>[]
 | k,s::ss=>(sj (jY s),ah k)::uD (k+1) ss
theorem Zpk(a b:Array UInt8):((⟨a⟩:ByteArray) == ⟨b⟩)=(a == b):=rfl
theorem Zm4(l m:List Int)(hl:vg l)(hm:vg m):sW (sj (jY l)) (sj (jY m))=decide (l=m):=by
 have:sW (sj (jY l)) (sj (jY m))=((⟨(jY l).toArray⟩:ByteArray) == ⟨(jY m).toArray⟩):=rfl;rw[this,Zpk];by_cases h:l=m
 ·subst h;simp
 ·simp only[h,decide_false,beq_eq_false_iff_ne,ne_eq]
  intro e;refine h (Zga hl hm ?_);simpa using e
theorem Zfk{x:List Int}(hx:vg x):∀(ss:List (List Int)) (k:Nat),(∀s∈ss,vg s)→sV (sj (jY x)) (uD k ss)=if x∈ss then some (ah (k+ss.idxOf x:Nat)) else none
 | [],k,h=>by simp[uD,sV]
 | s::ss,k,h=>by
  simp only[uD,sV];rw[Zm4 x s hx (h s (by simp)),Zfk hx ss (k+1) (fun z hz=>h z (by simp[hz]))];by_cases hs:x=s
  ·subst hs;simp
  ·have hs':s≠x:=fun e=>hs e.symm
   simp only[hs,decide_false,Bool.false_eq_true,if_false,List.mem_cons,false_or];by_cases hm:x∈ss
   ·rw[if_pos hm,if_pos hm,List.idxOf_cons,show(s == x)=false by simpa using hs',cond_false]
    congr 2;omega
   ·rw[if_neg hm,if_neg hm]
theorem ZiN{x:List Int}(hx:vg x):∀(ss:List (List Int)) (k:Nat),(∀s∈ss,vg s)→x∉ss→nX (sj (jY x)) (ah (k+ss.length:Nat)) (uD k ss)=uD k (ss++[x])
 | [],k,h,_=>by simp[uD,nX]
 | s::ss,k,h,hn=>by
  simp only[List.mem_cons,not_or] at hn;simp only[uD,nX,List.cons_append];rw[Zm4 x s hx (h s (by simp)),if_neg (by simpa using hn.1)];have:=ZiN hx ss (k+1) (fun z hz=>h z (by simp[hz])) hn.2;rw[←this];congr 3;simp only[List.length_cons];omega
theorem Wp(x:List Int):∀(ss:List (List Int)) (k:Nat),isK .str (sj (jY x))=true∧∀e∈uD k ss,isK .str e.1=true
 | [],k=>⟨rfl,by simp[uD]⟩
 | s::ss,k=>⟨rfl,fun e he=>by
  simp only[uD,List.mem_cons] at he;rcases he with rfl | he
  ·rfl
  ·exact(Wp x ss (k+1)).2 e he⟩
theorem aJ.P5P{P:Program}(hm:P.follows .mixedOrders=true){f:FuncId}{fn:Func}{c:Code}{X:AC}{d:Nat}{Y:AC}{t:Nat}{T e:TypeId}(hf:P.funcs[f]? = some fn)(hnm:(fn.name == "runtime.NumGoroutine")=false)(hb:fn.body=some c)
  (hc:comp P fn.ntmps c=some (.seq X (sq [⟨some d,.alloc JW 2,none,none⟩] Y))) (hT:FY c=some T) (hr:fn.results=([t].map ResultVar.tmp).toArray) {args:List AV} (hn:args.length≤fn.ntmps) {r:Value} (hrs:Af r=true) {A:List (Nat×AV)}
  (h0:bq P 0 X (fun e a S=>e=.normal∧aX 0 a S (jm A) ⟨0,bn []⟩) (bF args) S0)
  (h1:∀E B w w0,BE E B B→jO P E.H→kR E.H w→wK T e B B w0 [] w→lH P E Y (fun ex a w'=>(ex=.ret∨ex=.normal)∧a t=.v r∧Below B w0 w') ((jm A).put (some d) (.ptr 0 0 0)) w):aJ P f args (.v r):=by
 refine⟨vR hf hnm hb,fun H w vals hG hH hv=>?_⟩;obtain⟨c0,c1,rfl,hc0,hc1⟩:=PX hc;obtain⟨c2,c3,rfl,hc2,hc3⟩:=PX hc1;have hF:=Bo hv hn;refine calls_of_wp hf hb (wp_seq (wp_mono (V6 (b:=0) (Cx hm) FJ c0 _ hc0 _ _ _ h0 ⟨uX,H⟩ w _ hG (Nat.zero_le _) (YE hH) hF) fun ex qP w1 hp=>?_));obtain⟨a0,S1,TV,⟨rfl,habs⟩,hS1,Ke,NG⟩:=hp;obtain⟨E1,hS2,hF1,wV⟩:=habs TV w1 qP _ (Nat.zero_le _) hS1 Ke;have ev:=NG.trans wV;have hE1:A9 E1 w1:=⟨fun b cs e=>hS2.hH b cs e,fun id _=>hS2.fresh id (Nat.zero_le _)⟩;have hρ1:∀id,E1.ρ id=none:=fun id=>hS2.fresh id (Nat.zero_le _)
 have aa2:Below w.heap.size w w1:=⟨ev.os,ev.tape,ev.output,ev.size,fun k hk=>ev.keep k hk (fun id l B hB=>by simp[S0] at hB)⟩
 have hsub:∀b cs,E1.H b=some cs→H b=some cs∨w.heap.size≤b:=by
  intro b cs e;rcases ev.hsub b cs e with h2 | h2 | ⟨jv,l0,k0,h2,_⟩
  ·exact .inl h2
  ·exact .inr h2
  ·simp[S0] at h2
 refine wp_seq (wp_mono (ZeN (e:=e) hc2 hF1 hρ1 hE1.hH (T:=T) (fun id ops e=>?_)) fun ex jF w2 hp=>?_)
 ·subst e
  simp only[FY] at hT;split at hT
  ·rename_i o ho
   refine⟨o,ho,?_⟩;split at hT
   ·rename_i t' ht
    cases hT;exact ht
   ·cases hT
  ·cases hT
 obtain⟨rfl,rfl,hE2,hF2,hB⟩:=hp;have hbe:BE ⟨fun i=>if i=0 then some ⟨w1.heap.size,0,2,1⟩ else none,E1.H⟩ w1.heap.size w1.heap.size:=⟨rfl,fun c cs e=>by obtain⟨el,fz,hw⟩:=hE1.hH c cs e;exact(Array.getElem?_eq_some_iff.mp hw).1⟩;refine wp_mono (V9 c3 _ hc3 _ _ _ (h1 _ _ _ w1 hbe (hG.sub ev.EJ) hE2.hH hB) _ hE2 hF2) fun ex GR w3 hp=>?_
 obtain⟨a3,⟨hex,hat,hbel⟩,ED,YV⟩:=hp;have hres:=LP (P:=P) hr GR.tmps w3;have hrep:=I5 ED [t];simp only[uU,hat] at hrep;have hval:=hrep.jC;have aaz:Below w.heap.size w w3:=aa2.trans ⟨hbel.os,hbel.tape,hbel.output,hbel.size,fun k hk=>hbel.block k (Nat.lt_of_lt_of_le hk aa2.size)⟩
 have fin:bodyPost P fn (fun e w'=>∃v H',e=.returned v∧(∀b cs,H b=some cs→H' b=some cs)∧(∀b cs,H' b=some cs→H b=some cs∨w.heap.size≤b)∧kR H' w'∧aK ⟨uX,H'⟩ (.v r) v∧Below w.heap.size w w') .ret GR w3:=
  ⟨ED.defers,_,hres,_,E1.H,rfl,ev.EJ,hsub,YV.hH,by rw[hval];exact .v _ hrs,aaz⟩
 rcases hex with rfl | rfl
 ·exact fin
 ·exact fin
structure Bv{K:Type}[DecidableEq K](d:KK)(good:K→Prop)(enc:K→AV):Prop where
 k:∀x,isK d (enc x)=true
 eq:∀x y,good x→good y→sW (enc x) (enc y)=decide (x=y)
def gK{K:Type}(enc:K→AV):Nat→List K→List (AV×AV)
 | _,[]=>[]
 | k,x::xs=>(enc x,ah k)::gK enc (k+1) xs
theorem Zfg{K:Type}(enc:K→AV):∀(k:Nat) (ks:List K),(gK enc k ks).length=ks.length
 | _,[]=>rfl
 | k,x::xs=>by simp[gK,Zfg enc (k+1) xs]
section
variable{K:Type}[DecidableEq K]{d:KK}{good:K→Prop}{enc:K→AV}
theorem LY(h:Bv d good enc):∀(ks:List K) (k:Nat),∀e∈gK enc k ks,isK d e.1=true
 | [],k=>by simp[gK]
 | x::xs,k=>fun e he=>by
  simp only[gK,List.mem_cons] at he;rcases he with rfl | he
  ·exact h.k x
  ·exact LY h xs (k+1) e he
theorem X8(h:Bv d good enc){x:K}(hx:good x):∀(ks:List K) (k:Nat),(∀s∈ks,good s)→sV (enc x) (gK enc k ks)=if x∈ks then some (ah (k+ks.idxOf x:Nat)) else none
 | [],k,_=>by simp[gK,sV]
 | s::ss,k,hs=>by
  simp only[gK,sV];rw[h.eq x s hx (hs s (by simp)),X8 h hx ss (k+1) (fun z hz=>hs z (by simp[hz]))];by_cases e:x=s
  ·subst e;simp
  ·have e':s≠x:=fun e2=>e e2.symm
   simp only[e,decide_false,Bool.false_eq_true,if_false,List.mem_cons,false_or];by_cases hm:x∈ss
   ·rw[if_pos hm,if_pos hm,List.idxOf_cons,show(s == x)=false by simpa using e',cond_false]
    congr 2;omega
   ·rw[if_neg hm,if_neg hm]
theorem YD(h:Bv d good enc){x:K}(hx:good x):∀(ks:List K) (k:Nat),(∀s∈ks,good s)→x∉ks→nX (enc x) (ah (k+ks.length:Nat)) (gK enc k ks)=gK enc k (ks++[x])
 | [],k,_,_=>by simp[gK,nX]
 | s::ss,k,hs,hn=>by
  simp only[List.mem_cons,not_or] at hn;simp only[gK,nX,List.cons_append];rw[h.eq x s hx (hs s (by simp)),if_neg (by simpa using hn.1)];have:=YD h hx ss (k+1) (fun z hz=>hs z (by simp[hz])) hn.2;rw[←this];congr 3;simp only[List.length_cons];omega
theorem Yi(h:Bv d good enc){ks:List K}{x:K}(hx:good x)(hs:∀s∈ks,good s){km aA:Nat}{S:St}(hg:S.g km=some (.map (gK enc 0 ks))) :
  (Bu d (.v (.int .i64 0)) true (.mp km) (enc x)).run S aA=some (.aO [.v (.int .i64 (if x∈ks then (ks.idxOf x:Int) else 0)),.v (.bool (decide (x∈ks)))],S):=by
 have hk:=LY h ks 0;simp only[Bu,Eff.Bc,hg,Option.bind_some,if_pos (show isK d (enc x)=true∧∀e∈gK enc 0 ks,isK d e.1=true from⟨h.k x,hk⟩),X8 h hx ks 0 hs];by_cases hin:x∈ks
 ·simp[hin,ah]
 ·simp[hin]
theorem RO(h:Bv d good enc){ks:List K}{x:K}(hx:good x)(hs:∀s∈ks,good s)(hn:x∉ks){km aA:Nat}{S:St}(hg:S.g km=some (.map (gK enc 0 ks))) :
  (CP d (.mp km) (enc x) (.v (.int .i64 ks.length))).run S aA=some (.junk,S.set km (some (.map (gK enc 0 (ks++[x]))))):=by
 have hk:=LY h ks 0;have h2:=YD h hx ks 0 hs hn;rw[Nat.zero_add] at h2;have h':nX (enc x) (.v (.int .i64 ks.length)) (gK enc 0 ks)=gK enc 0 (ks++[x]):=h2;simp only[CP,Eff.Iu,hg,Option.bind_some,if_pos (show isK d (enc x)=true∧∀e∈gK enc 0 ks,isK d e.1=true from⟨h.k x,hk⟩),h',Option.map_some]
theorem Zvz{ks:List K}{km aA:Nat}{S:St}(hg:S.g km=some (.map (gK enc 0 ks))):(Jr (.mp km)).run S aA=some (.v (.int .i64 ks.length),S):=by
 simp[Jr,hg,Zfg]
end
def Sc(es:List (AV×AV)):Prop:=∀e∈es,aY e.1∧aY e.2
theorem Ag{K:Type}{enc:K→AV}(h:∀x,aY (enc x)):∀(ks:List K) (k:Nat),Sc (gK enc k ks)
 | [],k=>by simp[Sc,gK]
 | x::xs,k=>fun e he=>by
  simp only[gK,List.mem_cons] at he;rcases he with rfl | he
  ·exact⟨h x,aW _⟩
  ·exact Ag h xs (k+1) e he
theorem Ae{gF:Nat→Option aB}{R:Nat→Nat→Prop}{es:List (AV×AV)}(h:Sc es):BI gF R (some (.map es)) (some (.map es)):=by
 intro b hb;cases hb;exact⟨_,rfl,.map _ _ rfl (fun i h1 _=>⟨.cl (h _ (List.getElem_mem h1)).1,.cl (h _ (List.getElem_mem h1)).2⟩)⟩
def yM:Nat→Option aB:=fun _=>none
def Fu(o:List (Nat×Nat))(N n:Nat)(out inn:Nat):Prop:=(inn < N∧(inn,out)∈o)∨(N≤inn∧out=n+(inn - N))
theorem aN.frame{P:Program}{f:FuncId}{args:List AV}{S:St}{K:AV→St→Prop}(N:Nat)(o:List (Nat×Nat))(G:List (Nat×Option aB))(Zl:List AV)(K0:AV→St→Prop)
  (ho:o.Pairwise fun p q=>p.1≠q.1∧p.2≠q.2) (Tn:∀p∈o,p.1 < N∧p.2 < S.n)
  (hG:∀p∈G,p.2=none∨∃i,(p.1,i)∈o∧BI yM (fun j i=>(j,i)∈o) (S.g i) p.2)
  (hargs:gL yM (fun j i=>(j,i)∈o) args Zl)
  (h:aN P f Zl ⟨N,bn G⟩ K0)
  (hk:∀r1 S1,N≤S1.n→K0 r1 S1→∃r S',K r S'∧bW yM (Fu o N S.n) r1 r∧S'.n=S.n+(S1.n - N)∧
   ∀i b,S'.g i=some b→((∀p∈o,p.2≠i)∧S.g i=some b)∨∃j,Fu o N S.n i j∧BI yM (Fu o N S.n) (S1.g j) (some b)):aN P f args S K:=by
 refine⟨h.1,fun E w vals aat hS hv=>?_⟩
 let ρ2:Nat→Option Loc:=fun j=>if j < N then match o.lookup j with | some i=>E.ρ i | none=>none else none
 let E2:Env:=⟨ρ2,E.H⟩
 have hR:∀j i l,(j,i)∈o→E.ρ i=some l→E2.ρ j=some l:=by
  intro j i l hji hl;show ρ2 j=some l
  simp only[ρ2];rw[if_pos (Tn _ hji).1,IX ho hji];exact hl
 have hrep:∀{x y:AV},bW yM (fun j i=>(j,i)∈o) x y→∀{v:Value},aK E x v→aK E2 y v:=fun h _ hv=>
  bW.rep (E2:=E2) hS (gF:=yM) (fun i k e=>by cases e) (fun _ _ e=>e) (fun id es xs l e=>by cases e) hR h hv
 have hlive:∀j k',bn G j=some k'→∃i k,(j,i)∈o∧S.g i=some k∧Gv yM (fun j i=>(j,i)∈o) k k':=by
  intro j k' h;rcases hG _ (Xk h) with h1 | ⟨i,h1,h2⟩
  ·simp at h1
  ·obtain⟨k,h3,h4⟩:=h2 k' rfl
   exact⟨i,k,h1,h3,h4⟩
 have hS2:bf E2 ⟨N,bn G⟩ w:=by
  refine⟨hS.hH,fun j k' e=>?_,fun j1 j2 k1 k2 l1 l2 e1 e2 hne r1 r2=>?_,fun j hj=>?_⟩
  ·obtain⟨i,k,h1,h2,h3⟩:=hlive j k' e
   obtain⟨l,a1,a2,a3⟩:=hS.live i k h2;exact⟨l,hR j i l h1 a1,a2,h3.ok hrep a3⟩
  ·obtain⟨i1,b1,p1,p2,_⟩:=hlive j1 k1 e1
   obtain⟨i2,b2,q1,q2,_⟩:=hlive j2 k2 e2;obtain⟨m1,a1,_⟩:=hS.live i1 b1 p2;obtain⟨m2,a2,_⟩:=hS.live i2 b2 q2;have c1:=hR j1 i1 m1 p1 a1;have c2:=hR j2 i2 m2 q1 a2;rw[c1] at r1;cases r1;rw[c2] at r2;cases r2;exact hS.nH i1 i2 b1 b2 _ _ p2 q2 (ZtA ho p1 q1 hne) a1 a2
  ·have hj:N≤j:=hj
   show ρ2 j=none
   simp only[ρ2];rw[if_neg (by omega)]
 have hv2:kJ E2 Zl vals:=by
  refine⟨by rw[hv.1,hargs.1],fun j hj=>?_⟩;have hj':j < args.length:=by have:=hargs.1;omega
  exact hrep (hargs.2 j hj' hj) (hv.2 j hj')
 refine(h.2 E2 w vals aat hS2 hv2).mono ?_;rintro e w' ⟨v,r1,S1,E1,rfl,hK,hS1,hr1,ev⟩;have hN1:N≤S1.n:=ev.jW;obtain⟨r,S',k1,k2,k3,k4⟩:=hk r1 S1 hN1 hK
 let ρ3:Nat→Option Loc:=fun i=>if i < S.n then E.ρ i else E1.ρ (N+(i - S.n))
 let E3:Env:=⟨ρ3,E1.H⟩
 have hlow:∀i l,E.ρ i=some l→i < S.n:=fun i l hl=>by
  rcases Nat.lt_or_ge i S.n with h1 | h1
  ·exact h1
  ·rw[hS.fresh i h1] at hl;cases hl
 have xg:∀j i,(j,i)∈o→E1.ρ j=E.ρ i:=by
  intro j i hji
  have e2:E2.ρ j=E.ρ i:=by
   show ρ2 j=E.ρ i
   simp only[ρ2];rw[if_pos (Tn _ hji).1,IX ho hji]
  cases hl:E.ρ i with
  | some l=>exact ev.bU.le.1 j l (by rw[e2,hl])
  | none=>exact ev.low j (Tn _ hji).1 (by rw[e2,hl])
 have wJ:∀out inn l,Fu o N S.n out inn→E1.ρ inn=some l→E3.ρ out=some l:=by
  intro out inn l hio hl;show ρ3 out=some l
  simp only[ρ3];rcases hio with⟨h1,h2⟩ | ⟨h1,rfl⟩
  ·rw[if_pos (Tn _ h2).2,←xg _ _ h2];exact hl
  ·rw[if_neg (by omega),show N+(S.n+(inn - N) - S.n)=inn by omega];exact hl
 have aag:∀{x y:AV},bW yM (Fu o N S.n) x y→∀{v:Value},aK E1 x v→aK E3 y v:=fun h _ hv=>
  bW.rep (E2:=E3) hS1 (gF:=yM) (fun i k e=>by cases e) (fun _ _ e=>e) (fun id es xs l e=>by cases e) wJ h hv
 have hle:E.le E3:=by
  refine⟨fun i l hl=>?_,fun b cs e=>ev.bU.le.2 b cs e⟩;show ρ3 i=some l
  simp only[ρ3];rw[if_pos (hlow i l hl)];exact hl
 have hout:∀i k l,S.g i=some k→E.ρ i=some l→(∀p∈o,p.2≠i)→w'.heap[l.b]? = w.heap[l.b]?∧E1.H l.b=none:=by
  intro i k l hgi hl hno;obtain⟨l',a1,a2,a3⟩:=hS.live i k hgi;rw[hl] at a1;cases a1
  have hfr:∀id l0 k0,(St.mk N (bn G)).g id=some k0→E2.ρ id=some l0→l0.b≠l.b:=by
   intro id l0 k0 b1 b2;obtain⟨i2,kk,h1,h2,h3⟩:=hlive id k0 b1;obtain⟨m2,c1,_⟩:=hS.live i2 kk h2;have:=hR id i2 m2 h1 c1;rw[this] at b2;cases b2;exact hS.nH i2 i kk k _ _ h2 hgi (fun e=>hno _ h1 e) c1 hl
  refine⟨ev.bU.keep l.b a3.lt hfr,?_⟩;cases e:E1.H l.b with
  | none=>rfl
  | some cs=>
   exfalso;rcases ev.bU.hsub _ _ e with h1 | h1 | ⟨jv,l0,k0,b1,b2,b3⟩
   ·have h1':E.H l.b=some cs:=h1
    rw[a2] at h1';cases h1'
   ·have:=a3.lt;omega
   ·exact hfr jv l0 k0 b1 b2 b3
 have hgrow:∀j k l,S1.g j=some k→E1.ρ j=some l→w.heap.size≤l.b∨∃jv l0 k0,S.g jv=some k0∧E.ρ jv=some l0∧l0.b=l.b∧∃jj,(jj,jv)∈o:=by
  intro j k l b1 b2;rcases ev.bU.grow j l k b1 b2 with h1 | ⟨jv,l0,k0,c1,c2,c3⟩
  ·exact .inl h1
  ·obtain⟨i2,kk,h1,h2,h3⟩:=hlive jv k0 c1
   obtain⟨m2,d1,_⟩:=hS.live i2 kk h2;have:=hR jv i2 m2 h1 d1;rw[this] at c2;cases c2;exact .inr ⟨i2,_,kk,h2,d1,c3,_,h1⟩
 have hinj:∀i1 i2 j1 j2,Fu o N S.n i1 j1→Fu o N S.n i2 j2→i1≠i2→j1≠j2:=by
  rintro i1 i2 j1 j2 h1 h2 hne rfl;rcases h1 with⟨a1,a2⟩ | ⟨a1,a2⟩<;>rcases h2 with⟨b1,b2⟩ | ⟨b1,b2⟩
  ·have e1:=IX ho a2
   have e2:=IX ho b2;rw[e1] at e2;cases e2;exact hne rfl
  ·omega
  ·omega
  ·omega
 refine⟨v,r,S',E3,rfl,k1,⟨fun b cs e=>hS1.hH b cs e,fun i b e=>?_,fun i1 i2 b1 b2 l1 l2 e1 e2 hne r1 r2=>?_,fun i hi=>?_⟩,aag k2 hr1,?_⟩
 ·rcases k4 i b e with⟨h2,h3⟩ | ⟨j,h1,h2⟩
  ·obtain⟨l,a1,a2,a3⟩:=hS.live i b h3
   obtain⟨c1,c2⟩:=hout i b l h3 a1 h2;exact⟨l,hle.1 i l a1,c2,a3.mono hle c1⟩
  ·obtain⟨k,h3,h4⟩:=h2 b rfl
   obtain⟨l,a1,a2,a3⟩:=hS1.live j k h3;exact⟨l,wJ i j l h1 a1,a2,h4.ok aag a3⟩
 ·rcases k4 i1 b1 e1 with⟨h2,h3⟩ | ⟨j1,h1,h2⟩<;>rcases k4 i2 b2 e2 with⟨g2,g3⟩ | ⟨j2,g1,g2⟩
  ·obtain⟨m1,a1,_⟩:=hS.live i1 b1 h3
   obtain⟨m2,a2,_⟩:=hS.live i2 b2 g3;have c1:=hle.1 i1 m1 a1;have c2:=hle.1 i2 m2 a2;rw[c1] at r1;cases r1;rw[c2] at r2;cases r2;exact hS.nH i1 i2 b1 b2 _ _ h3 g3 hne a1 a2
  ·obtain⟨m1,a1,_,a3⟩:=hS.live i1 b1 h3
   have c1:=hle.1 i1 m1 a1;rw[c1] at r1;cases r1;obtain⟨k,g3,g4⟩:=g2 b2 rfl;obtain⟨m2,a2,_⟩:=hS1.live j2 k g3;have c2:=wJ i2 j2 m2 g1 a2;rw[c2] at r2;cases r2;rcases hgrow j2 k _ g3 a2 with h5 | ⟨jv,l0,k0,d1,d2,d3,jj,d4⟩
   ·have:=a3.lt;omega
   ·rw[←d3]
    exact hS.nH i1 jv b1 k0 _ _ h3 d1 (fun e=>h2 _ d4 e.symm) a1 d2
  ·obtain⟨m2,a2,_,a3⟩:=hS.live i2 b2 g3
   have c2:=hle.1 i2 m2 a2;rw[c2] at r2;cases r2;obtain⟨k,h3,h4⟩:=h2 b1 rfl;obtain⟨m1,a1,_⟩:=hS1.live j1 k h3;have c1:=wJ i1 j1 m1 h1 a1;rw[c1] at r1;cases r1;rcases hgrow j1 k _ h3 a1 with h5 | ⟨jv,l0,k0,d1,d2,d3,jj,d4⟩
   ·have:=a3.lt;omega
   ·rw[←d3]
    exact hS.nH jv i2 k0 b2 _ _ d1 g3 (fun e=>g2 _ d4 e) d2 a2
  ·obtain⟨k,h3,h4⟩:=h2 b1 rfl
   obtain⟨m1,a1,_⟩:=hS1.live j1 k h3;have c1:=wJ i1 j1 m1 h1 a1;rw[c1] at r1;cases r1;obtain⟨k2,g3,g4⟩:=g2 b2 rfl;obtain⟨m2,a2,_⟩:=hS1.live j2 k2 g3;have c2:=wJ i2 j2 m2 g1 a2;rw[c2] at r2;cases r2;exact hS1.nH j1 j2 k k2 _ _ h3 g3 (hinj _ _ _ _ h1 g1 hne) a1 a2
 ·show ρ3 i=none
  simp only[ρ3];rw[if_neg (by omega)];exact hS1.fresh _ (by omega)
 ·refine⟨⟨ev.bU.os,ev.bU.tape,ev.bU.output,ev.bU.size,fun b hb hno=>?_,fun i l b e hl=>?_,hle,fun b cs e=>?_⟩,by omega,fun i hi e=>?_⟩
  ·refine ev.bU.keep b hb fun id l0 k0 b1 b2=>?_
   obtain⟨i2,kk,h1,h2,h3⟩:=hlive id k0 b1;obtain⟨m2,c1,_⟩:=hS.live i2 kk h2;have:=hR id i2 m2 h1 c1;rw[this] at b2;cases b2;exact hno i2 _ kk h2 c1
  ·rcases k4 i b e with⟨h2,h3⟩ | ⟨j,h1,h2⟩
   ·obtain⟨m1,a1,_⟩:=hS.live i b h3
    have c1:=hle.1 i m1 a1;rw[c1] at hl;cases hl;exact .inr ⟨i,_,b,h3,a1,rfl⟩
   ·obtain⟨k,h3,h4⟩:=h2 b rfl
    obtain⟨m1,a1,_⟩:=hS1.live j k h3;have c1:=wJ i j m1 h1 a1;rw[c1] at hl;cases hl;rcases hgrow j k _ h3 a1 with h5 | ⟨jv,l0,k0,d1,d2,d3,_⟩
    ·exact .inl h5
    ·exact .inr ⟨jv,l0,k0,d1,d2,d3⟩
  ·rcases ev.bU.hsub b cs e with h1 | h1 | ⟨jv,l0,k0,b1,b2,b3⟩
   ·exact .inl h1
   ·exact .inr (.inl h1)
   ·obtain⟨i2,kk,h1,h2,h3⟩:=hlive jv k0 b1
    obtain⟨m2,c1,_⟩:=hS.live i2 kk h2;have:=hR jv i2 m2 h1 c1;rw[this] at b2;cases b2;exact .inr (.inr ⟨i2,_,kk,h2,c1,b3⟩)
  ·show ρ3 i=none
   simp only[ρ3];rw[if_pos hi];exact e
def LV(g:Nat→Option aB)(v:AV)(xs:List AV):Prop:=(∃t,v=.sl t xs)∨Vec g v 1 xs
theorem LV.frame{g g':Nat→Option aB}{v:AV}{xs:List AV}(h:LV g v xs)(hs:∀i∈v.ids,g' i=g i):LV g' v xs:=by
 rcases h with h | h
 ·exact .inl h
 ·exact .inr (h.frame hs)
theorem LV.cell{g:Nat→Option aB}{v:AV}{xs:List AV}(h:LV g v xs):v.cells=[v]∧v.solid=true:=by
 rcases h with⟨t,rfl⟩ | h
 ·exact⟨rfl,rfl⟩
 ·exact h.cel
theorem LV.len{g:Nat→Option aB}{v:AV}{xs:List AV}(h:LV g v xs):gu v=some (.v (.int .i64 xs.length)):=by
 rcases h with⟨t,rfl⟩ | ⟨rfl,rfl⟩ | ⟨id,off,ys,rfl,_,_,_⟩<;>rfl
theorem LV.idx{g:Nat→Option aB}{v:AV}{xs:List AV}(h:LV g v xs){i:Nat}(hi:i < xs.length)(h1:(xs[i]).cells.length=1)(hs:(xs[i]).cells=[xs[i]]) :
  ∃p,(∀n aA,(dz 1 v (.v (.int .i64 (i:Int)))).run ⟨n,g⟩ aA=some (p,⟨n,g⟩))∧∀n aA,(bX none p).run ⟨n,g⟩ aA=some (xs[i],⟨n,g⟩):=by
 have hi0:(0:Int)≤(i:Int):=by omega
 rcases h with⟨t,rfl⟩ | ⟨rfl,rfl⟩ | ⟨id,off,ys,rfl,h2,h3,h4⟩
 ·refine⟨.bJ xs[i] 0,fun n aA=>?_,fun n aA=>?_⟩
  ·simp[dz,hi,h1]
  ·simp[bX,bB,hs]
 ·simp at hi
 ·have hget:ys[off+i]? = some xs[i]:=by
   have:(ys.drop off)[i]? = some xs[i]:=by rw[h4];simp[List.getElem?_eq_getElem hi]
   rwa[List.getElem?_drop] at this
  have hle:off+xs.length≤ys.length:=by have:=congrArg List.length h4;simp at this;omega
  refine⟨.ptr id (off+i) 0,fun n aA=>?_,fun n aA=>?_⟩
  ·simp[dz,hi,h2,hle]
  ·simp[bX,bB,hs,h2,hget]
theorem Zc5{n:Net}{i:Nat}(h:i < n.follow.length):n.follow.getD i []=n.follow[i]:=by
 rw[List.getD_eq_getElem?_getD,List.getElem?_eq_getElem h];rfl
def Gc(n:Net)(p q s:Int):Prop:=0≤p∧p < n.follow.length∧q∈n.follow.getD p.toNat []∧vC n s q=true
theorem IZ{n:Net}{a:List Int}{s q:Int}:q∈qJ n a s↔∃p∈a,Gc n p q s:=by
 unfold qJ oJ Cv Gc;rw[vU,List.mem_flatMap];constructor
 ·rintro⟨p,hp,h⟩
  split at h
  ·rename_i hb
   have:=List.mem_filter.mp h;exact⟨p,hp,hb.1,hb.2,this.1,this.2⟩
  ·simp at h
 ·rintro⟨p,hp,h1,h2,h3,h4⟩
  exact⟨p,hp,by rw[if_pos ⟨h1,h2⟩];exact List.mem_filter.mpr ⟨h3,h4⟩⟩
def JQ(n:Net):Int→List Int→Prop
 | p,[]=>p∈n.last
 | p,s::l=>∃q,Gc n p q s∧JQ n q l
theorem Zhy{n:Net}:∀(l a:List Int),(∃q∈l.foldl (qJ n) a,q∈n.last)↔∃p∈a,JQ n p l
 | [],a=>Iff.rfl
 | s::l,a=>by
  rw[List.foldl_cons,Zhy l (qJ n a s)];constructor
  ·rintro⟨q,h1,h2⟩
   obtain⟨p,h3,h4⟩:=IZ.mp h1;exact⟨p,h3,q,h4,h2⟩
  ·rintro⟨p,h3,q,h4,h2⟩
   exact⟨q,IZ.mpr ⟨p,h3,h4⟩,h2⟩
theorem ZnI{n:Net}{l:List Int}:zq n l=true↔qC n=true∧JQ n 0 l:=by
 unfold zq vG;rw[Bool.and_eq_true,List.any_eq_true];refine and_congr_right (fun _=>?_);have:=Zhy (n:=n) l [0];simp only[List.mem_singleton,exists_eq_left] at this;rw[←this];constructor
 ·rintro⟨q,h1,h2⟩;exact⟨q,h1,by simpa using h2⟩
 ·rintro⟨q,h1,h2⟩;exact⟨q,h1,by simpa using h2⟩
theorem Wz(n:Net)(l:List Int)(s:Int):vG n (l++[s])=qJ n (vG n l) s:=by
 unfold vG;rw[List.foldl_append];rfl
end Go.Rf
namespace Go.Rf
theorem VH{P:Program}(hm:P.follows .mixedOrders=true){f fg:FuncId}{es au:Nat}{z:AV}(hg:MP P fg es z)(hb:au≤1000)(h:Is P f (Me es au fg) [2] 1){X:Type}{enc:X→AV}(hcl:∀x,aY (enc x))(hce:∀x,(enc x).cells.length=es)
  (L:List (Bool×List X)) (hL:L.length≤1000) (ht:(L.map fun p=>p.2.length).sum≤1000000):aJ P f [.sl true (L.map fun p=>.sl p.1 (p.2.map enc))] (.sl false ((L.flatMap (·.2)).map enc)):=by
 have e:AV.sl true (L.map fun p=>AV.sl p.1 (p.2.map enc))=Gw (L.map fun p=>(p.1,p.2.map enc)):=by simp[Gw]
 rw[e];refine .xC (ZeH hm hg hb h (fun p hp x hx=>?_) (by simpa using hL) (by simpa[wS,Function.comp_def] using ht) (fun v S' ho=>?_))
 ·obtain⟨q,hq,rfl⟩:=List.mem_map.mp hp
  obtain⟨y,_,rfl⟩:=List.mem_map.mp hx;exact hce y
 ·obtain⟨_,_,hv,_⟩:=ho
  have e2:(L.map fun p=>(p.1,p.2.map enc)).flatMap (·.2)=(L.flatMap (·.2)).map enc:=by
   rw[List.flatMap_map,List.map_flatMap]
  rw[e2] at hv;exact hv.fz hcl
end Go.Rf
namespace Go.Rf
open Go.RowKit
theorem ZjV(a:aC):yw a a=true:=by simp[yw]
def cst:aI→Option AV
 | .c x=>some x
 | .t _=>none
def JZ(P:Program)(op:Op):Option jJ:=
 match op with
 | .buildSlice t m ps=>match QZ ps,xI P t with
  | some qs,some p=>match qs.mapM (fun q=>(cst q.2).map fun x=>(q.1,x)) with
   | some cs=>match dV p.2.1 (List.replicate m p.1) cs with
    | some xs=>if 0 < xs.length∧m*p.2.1≤16777216 then some (.app p.2.1 p.2.2 (.c (.sl true [])) (.c (.sl true xs))) else none
    | none=>none
   | none=>none
  | _,_=>none
 | _=>none
def MC(P:Program)(n:Nat)(ops:Array Oper)(o:Oper):Option aZ:=
 match JZ P o.op with
 | some op=>if RU n o.dst=true then (CG ops o).map fun g=>⟨o.dst,op,g,none⟩ else none
 | none=>nC P n ops o
theorem Zje{P:Program}{n:Nat}{ops:Array Oper}{o:Oper}{ao:aZ}(h:MC P n ops o=some ao) :
  (∀d,o.dst=some d→d < n)∧ao.dst=o.dst∧CG ops o=some ao.guard∧((∃p,ao.call=some p∧Df o.op=some p)∨(ao.call=none∧(cop P o.op=some ao.op∨JZ P o.op=some ao.op))):=by
 unfold MC at h;split at h
 ·rename_i op hop
  split at h
  ·rename_i hd
   have hd':∀d,o.dst=some d→d < n:=fun d e=>by rw[e] at hd;simpa[RU] using hd
   simp only[Option.map_eq_some_iff] at h;obtain⟨g,h2,rfl⟩:=h;exact⟨hd',rfl,h2,.inr ⟨rfl,.inr hop⟩⟩
  ·cases h
 ·obtain⟨h1,h2,h3,h4⟩:=FC h
  exact⟨h1,h2,h3,h4.imp id fun h=>⟨h.1,.inl h.2⟩⟩
theorem ZhU{P:Program}{op:Op}{ao:jJ}(h:JZ P op=some ao):∃t m ps qs z es au cs xs,op=.buildSlice t m ps∧QZ ps=some qs∧xI P t=some (z,es,au)∧qs.mapM (fun q=>(cst q.2).map fun x=>(q.1,x))=some cs∧
  dV es (List.replicate m z) cs=some xs∧0 < xs.length∧m*es≤16777216∧ao=.app es au (.c (.sl true [])) (.c (.sl true xs)):=by
 unfold JZ at h;split at h
 ·rename_i t m ps
  split at h
  ·rename_i qs p hq hp
   obtain⟨z,es,au⟩:=p;split at h
   ·rename_i cs hc
    split at h
    ·rename_i xs hx
     split at h
     ·rename_i hh
      cases h;exact⟨t,m,ps,qs,z,es,au,cs,xs,rfl,hq,hp,hc,hx,hh.1,hh.2,rfl⟩
     ·cases h
    ·cases h
   ·cases h
  ·cases h
 ·cases h
theorem Zpt{a:AF}:∀{qs:List (Nat×aI)} {cs:List (Nat×AV)},qs.mapM (fun q=>(cst q.2).map fun x=>(q.1,x))=some cs→(qs.map fun q=>(q.1,q.2.ev a))=cs
 | [],cs,h=>by simp at h;subst h;rfl
 | (i,x)::qs,cs,h=>by
  simp only[List.mapM_cons,Option.bind_eq_bind,Option.bind_eq_some_iff,Option.pure_def,Option.some.injEq,Option.map_eq_some_iff] at h;obtain⟨c,⟨y,hy,rfl⟩,cs',h2,rfl⟩:=h;rw[List.map_cons,Zpt h2];cases x with
  | t _=>simp[cst] at hy
  | c z=>simp only[cst,Option.some.injEq] at hy;subst hy;simp only[aI.ev]
theorem Zo6{P:Program}{op:Op}{ao:jJ}(h:JZ P op=some ao){a:AF}{k:AV→Prop}(hn:sD ao a k):False:=by
 obtain⟨t,m,ps,qs,z,es,au,cs,xs,_,_,_,_,_,_,_,rfl⟩:=ZhU h;simp only[sD] at hn
section
variable{P:Program}{n:Nat}{o:Oper}{a:AF}{S:St}{aA:Nat}{v:AV}
theorem ZqJ(hd:∀d,o.dst=some d→d < n){ao:jJ}(hc:JZ P o.op=some ao){S':St}(h:(ex ao a).run S aA=some (v,S')):fD P n o a S aA v S':=by
 obtain⟨t,m,ps,qs,z,es,au,cs,xs,hop,hq,ht,hcs,hf,hx0,hms,rfl⟩:=ZhU hc;have hqc:=Zpt (a:=a) hcs;obtain⟨e,i,hu,hz,hi,hb⟩:=IW ht;obtain⟨_,_,q1,q2,q3,q4,q5,q6,q7⟩:=LX hz;have yL:∀x∈List.replicate m z,x.cells.length=es:=by intro x hx;rw[(List.mem_replicate.mp hx).2];exact q5
 obtain⟨f1,f2,f3⟩:=VK _ _ _ yL hf
 have hv:v=.own aA 0 xs.length∧S'=S.set aA (some (.arr es xs)):=by
  have h3:lD es [] (.sl true xs)=some xs:=by simp only[lD];rw[if_pos f2]
  have hne:¬xs.length=0:=by omega
  simp only[ex,aI.ev,kP,Eff.run,AV.ku,List.mapM_nil,Option.pure_def,h3,Option.bind_some] at h;by_cases hap:bY au 0 xs.length
  ·rw[if_pos ⟨by simp,by simpa using hap⟩,if_neg hne] at h
   simp only[Option.some.injEq,Prod.mk.injEq] at h;obtain⟨rfl,rfl⟩:=h;exact⟨by simp,by simp[St.dX,St.fP]⟩
  ·rw[if_neg (fun hh=>hap (by simpa using hh.2))] at h
   cases h
 obtain⟨rfl,rfl⟩:=hv;refine fD.alloc (f:=fun i=>.own i 0 xs.length) hd (by rw[hop];rfl) f2 fun E w act hS hF=>?_
 obtain⟨i',zv,g1,g2,g3,g4,g5⟩:=Bl (E:=E) hz;rw[hi] at g1;cases g1;obtain⟨p1,p2⟩:=WW hF hq;have hl0:=rV yL;simp only[List.length_replicate] at hl0
 have hstart:JV E (flat (List.replicate m z)) ((Array.range (m*es)).map (zv.cells[· % zv.cells.size]!)):=by
  refine⟨by simp[hl0],?_,L6 g4 q5 m m (Nat.le_refl _)⟩;intro y hy;obtain⟨x,hx,hyx⟩:=List.mem_flatMap.mp hy;rw[(List.mem_replicate.mp hx).2] at hyx;exact g4.2.1 y hyx
 let ps':=ps.map fun p=>(p.1,act.eval p.2)
 obtain⟨cells',e1,e2⟩:=Mt (fun j=>some (j*es,es)) ps'.toList ((qs.map fun q=>(q.1,q.2.ev a)).map fun p=>(p.1*es,es,p.2)) _ _ _ hstart (by simp[ps'];simpa using p1)
  (fun j hj hj'=>by
   simp only[ps',Array.toList_map,List.length_map] at hj hj';obtain⟨a1,a2⟩:=p2 j hj (by omega);simp only[ps',Array.toList_map,List.getElem_map];exact⟨by rw[a1],a2⟩) (by rw[hqc];exact f1)
 have hrun:(execOp act.eval o).run P w=.ok (.value (.slice (some ⟨w.heap.size,0,none⟩) m m)) (w.alloc (.cells cells' e)):=by
  simp only[execOp,hop];by_cases h0:m*i.size=0
  ·have h00:m*es=0:=by rw[←g3];exact h0
   have YL:Instr.fill (fun j=>some (j*i.size,i.size)) #[] ps'.toList=some cells':=by
    rw[g3,←e1];congr 1;rw[h00];simp[Array.range_zero']
   simp[Instr.buildSlice,run_underlying hu,uO hi,h0,newRow,Array.range_zero'];have GZ:Instr.fill (fun j=>some (j*i.size,i.size)) #[] (List.map (fun x=>(x.1,act.eval x.2)) ps.toList)=some cells':=by simpa[ps'] using YL
   rw[GZ];simp
  ·have hle:¬(m*i.size > 16777216):=by rw[g3];omega
   have GZ:Instr.fill (fun j=>some (j*i.size,i.size)) ((Array.range (m*i.size)).map (zv.cells[· % zv.cells.size]!)) (List.map (fun x=>(x.1,act.eval x.2)) ps.toList)=some cells':=by
    rw[g3];simpa[ps'] using e1
   simp[Instr.buildSlice,run_underlying hu,uO hi,h0,newRow,zeroValue,typeInfo,hi,g2];rw[if_neg (by omega)];simp[GZ]
 have hxl:xs.length=m:=by rw[f3];simp
 have hfl:=rV f2;have hcz:cells'.size=m*es:=by rw[e2.1,hfl,hxl]
 refine⟨_,cells',e,m,w,rfl,hS,.refl _ _ _,hrun,e2.2.1,by omega,by omega,e2.2.2,fun E' he=>?_⟩;rw[hxl];exact .own aA 0 m (some ⟨w.heap.size,0,none⟩) m _ he (Nat.le_refl _) (fun _=>⟨by simp,by simp⟩)
end
theorem Ww{P:Program}{n:Nat}{ops:Array Oper}{base:Nat}{Q:Exit→AF→St→Prop}{E0:Env}{S0:St}{w0:World}(hG0:jO P E0.H)(hb:S0.n≤base) :
  ∀(os:List aZ) (i:Nat) (a:AF) (S:St),(∀k (hk:k < os.length),∃o,ops[i+k]? = some o∧MC P n ops o=some (os[k]))→RG P base os i (fun a S=>Q .normal a S) a S→
   ∀E w act,bf E S w→eu E n a act→(∀k,i≤k→k < i+os.length→E.ρ (base+k)=none∧base+k < S.n)→Ev E0 S0 w0 E S w→
    wpOps P ops (nG E0 S0 w0 n Q) (List.range' i os.length) act w
 | [],i,a,S,_,h,E,w,act,hS,hF,_,hE=>⟨a,S,E,h,hS,hF,hE⟩
 | ao::os,i,a,S,hc,h,E,w,act,hS,hF,hr,hE=>by
  obtain⟨o,ho,hco⟩:=hc 0 (by simp);simp only[Nat.add_zero,List.getElem_cons_zero] at ho hco;obtain⟨hd,hdst,hgd,hor⟩:=Zje hco
  have hc':∀k (hk:k < os.length),∃o,ops[i+1+k]? = some o∧MC P n ops o=some (os[k]):=by
   intro k hk;obtain⟨o',h1,h2⟩:=hc (k+1) (by simpa using hk);exact⟨o',by rw[←h1];congr 1;omega,by simpa using h2⟩
  have hr0:=hr i (Nat.le_refl _) (by simp);simp only[List.length_cons,List.range'_succ,wpOps,ho];simp only[RG] at h;split at h
  ·exact h.elim
  ·rename_i hg
   rw[z8 hF hgd hg];simp only[Bool.false_eq_true,if_false];rw[hdst] at h;exact Ww hG0 hb os (i+1) _ S hc' h E w _ hS (hF.put hd L8) (fun k h1 h2=>hr k (by omega) (by simp;omega)) hE
  ·rename_i hg
   rw[z8 hF hgd hg];simp only[if_true];left;rw[hdst] at h
   have next:∀{r:AV} {S':St} {act':Act} {w':World} {E':Env},RG P base os (i+1) (fun a S=>Q .normal a S) (a.put o.dst r) S'→bf E' S' w'→eu E' n (a.put o.dst r) act'→Ev E0 S0 w0 E' S' w'→
     (∀k,i < k→k < i+(os.length+1)→E'.ρ (base+k)=none∧base+k < S'.n)→wpOps P ops (nG E0 S0 w0 n Q) (List.range' (i+1) os.length) act' w':=
    fun h1 h2 h3 h4 h5=>Ww hG0 hb os (i+1) _ _ hc' h1 _ _ _ h2 h3 (fun k a1 a2=>h5 k (by omega) (by omega)) h4
   have hcall:∀{f:FuncId} {args:List AV} {vals:Array Value},aN P f args S (fun r S'=>RG P base os (i+1) (fun a S=>Q .normal a S) (a.put o.dst r) S')→kJ E args vals→
     (execOp act.eval o).run P w=.ok (.enter f vals) w→o.wp P act w (wpOps P ops (nG E0 S0 w0 n Q) (List.range' (i+1) os.length)) (nG E0 S0 w0 n Q):=by
    intro f args vals h1 h2 h3;refine Qa hd h1 (hG0.le hE.bU.le) hS hF h2 h3 fun r S' act' w' E' k1 k2 k3 k4=>next k1 k2 k3 (hE.trans k4) fun k a1 a2=>?_
    obtain⟨b1,b2⟩:=hr k (by omega) (by simp;omega);exact⟨k4.low _ b2 b1,Nat.lt_of_lt_of_le b2 k4.jW⟩
   rcases hor with⟨p,hp1,hp2⟩ | ⟨hp1,hop⟩
   ·
    rw[hp1] at h;obtain⟨G,xs⟩:=p;simp only at h;unfold Df at hp2;split at hp2
    ·rename_i g ys ts xg
     simp only[Option.bind_eq_some_iff,Option.map_eq_some_iff,Prod.mk.injEq] at hp2;obtain⟨G',hG,XS,AU,rfl,rfl⟩:=hp2;have rg:=bQ hF hG;split at h
     ·rename_i f first cap AX
      rw[AX] at rg;generalize hev:act.eval g=gv at rg;cases rg with
      | aP _ _ _ fv cv hn hm hf hcc=>
       have hx:=IJ hF AU;have hargs:kJ E (first++XS.map (·.ev a)++cap) (fv++ys.map act.eval++cv):=(kJ.append ⟨hn,hf⟩ hx).append ⟨hm,hcc⟩;refine hcall h hargs ?_;simp only[execOp,xg,Sem.run_bind,Fv act.eval g ys ts o.type hev,Result.andThen_ok,invoke];exact Fx h.1 _ _
     ·exact h.elim
    ·cases hp2
   ·rw[hp1] at h
    simp only at h;split at h
    ·rename_i v S' hex
     have hok:fD P n o a S (base+i) v S':=hop.elim (fun h1=>Jq (P:=P) (n:=n) (o:=o) hd h1 hex) (fun h1=>ZqJ (P:=P) (n:=n) (o:=o) hd h1 hex);have hn:=Eff.Pk hex;refine hok E w act hS hF hr0.1 hr0.2 _ _ fun act' w' E' k1 k2 k3 k4=>next h k1 k2 ⟨hE.bU.trans k3,by have:=hE.jW;omega,fun id hid e=>k4.2 id (by omega) (hE.low id hid e)⟩ fun k a1 a2=>?_
     ·obtain⟨b1,b2⟩:=hr k (by omega) (by simp;omega)
      exact⟨k4.2 _ (by omega) b1,by omega⟩
    ·have hop:cop P o.op=some ao.op:=hop.elim id fun h1=>(Zo6 h1 h).elim
     obtain⟨b,g1,g2⟩:=QK hop h hF w;unfold Oper.wp;rw[g2,Oper.upon_value];exact next g1 hS (hF.put hd (.v _ rfl)) hE fun k a1 a2=>hr k (by omega) (by simp;omega)
def Nr(P:Program)(n:Nat)(draw:Bool)(ops:Array Oper):AC:= if draw=true then wB P n draw ops else match ops.toList.mapM (MC P n ops) with | some os=>.reg none os | none=>.bad
def ZsQ(P:Program)(n:Nat)(c:Code):Option AC:=dQ Nr P n c
theorem ZrL{P:Program}(hm:P.follows .mixedOrders=true){n:Nat}:Gf P n Nr:=by
 intro id ops dr Q a S h;unfold Nr at h;split at h
 ·exact Cx hm id ops dr Q a S h
 ·rename_i hdr
  simp only[Bool.not_eq_true] at hdr;subst hdr;split at h
  ·rename_i ys hy
   obtain⟨h1,h2⟩:=Bp hy;have hlen:ys.length=ops.size:=by rw[h1];simp
   intro E w act hG hS hF;simp only[AW] at h;refine wp_region ?_
   have:=Ww (P:=P) (n:=n) (ops:=ops) (base:=S.n) (E0:=E) (S0:=S) (w0:=w) hG (Nat.le_refl _) ys 0 a ⟨S.n+ys.length,S.g⟩ (fun k hk=>by
    obtain⟨o,a1,a2⟩:=h2 k hk;exact⟨o,by rw[Nat.zero_add];simpa using a1,a2⟩) h E w act (hS.drop S.g (fun _ _ e=>e) _ (by show S.n≤S.n+_;omega)) hF (fun k _ hk=>⟨hS.fresh _ (by omega),by show S.n+k < S.n+ys.length;omega⟩)
    ⟨⟨rfl,rfl,rfl,Nat.le_refl _,fun _ _ _=>rfl,fun id l k hk hl=>.inr ⟨id,l,k,hk,hl,rfl⟩,Env.le_refl _,fun _ _ e=>.inl e⟩,by show S.n≤S.n+_;omega,fun _ _ e=>e⟩
   rw[List.range_eq_range',←hlen];exact this
  ·simp only[AW] at h
theorem Zma{P:Program}{n:Nat}(d:Bool)(ops:Array Oper):F7 (Nr P n d ops)=true:=by
 unfold Nr;split
 ·exact FJ d ops
 ·split<;>rfl
structure ER(P:Program)(f:FuncId)(ac:AC)(rs:List RV)(n:Nat):Prop where
 h:∃fn c,P.funcs[f]? = some fn∧(fn.name == "runtime.NumGoroutine")=false∧fn.body=some c∧ZsQ P fn.ntmps c=some ac∧fn.results.toList.mapM (vI P)=some rs∧n≤fn.ntmps
theorem ER.wM{P:Program}(hm:P.follows .mixedOrders=true){f:FuncId}{ac:AC}{rs:List RV}{n:Nat}(h:ER P f ac rs n){args:List AV}(hn:args.length=n){S:St}{K:AV→St→Prop}
  (hb:bq P S.n ac (JG S.n rs K) (bF args) S):aN P f args S K:=VZ (fun _=>ZrL hm) (fun _=>Zma) h.h hn hb
theorem ER.lV{P:Program}(hm:P.follows .mixedOrders=true){f:FuncId}{ac:AC}{rs:List RV}{n:Nat}(h:ER P f ac rs n){args:List AV}(hn:args.length=n){r:AV}
  (hb:bq P 0 ac (bL rs (dM r)) (bF args) S0):aJ P f args r:=
 .xC (h.wM hm hn (Jb _ (fun e a S k=>⟨a,S,.refl _ _,k⟩) hb))
end Go.Rf
namespace Go.Rf
variable{P:Program}{f:FuncId}{ac:AC}{ts:List Nat}{rs:List RV}{n:Nat}
def Kr(co:Nat→Code→Option AC)(fn:Func)(n:Nat)(r:Option (List RV)):Option (Bool×AC×Option (List RV)×Bool):=
 fn.body.bind fun c=>(co fn.ntmps c).map fun a=>(fn.name == "runtime.NumGoroutine",a,r,Nat.ble n fn.ntmps)
theorem Ro{co:Nat→Code→Option AC}{fn:Func}{r:Option (List RV)}(h:Kr co fn n r=some (false,ac,some rs,true)) :
  ∃c,(fn.name == "runtime.NumGoroutine")=false∧fn.body=some c∧co fn.ntmps c=some ac∧r=some rs∧n≤fn.ntmps:=by
 unfold Kr at h;obtain⟨c,h1,h2⟩:=Option.bind_eq_some_iff.mp h;obtain⟨a,h3,h4⟩:=Option.map_eq_some_iff.mp h2;simp only[Prod.mk.injEq] at h4;obtain⟨h5,rfl,rfl,h6⟩:=h4;exact⟨c,h5,h1,h3,rfl,Nat.le_of_ble_eq_true h6⟩
def isR(fn:Func)(n:Nat)(co:Nat→Code→Option AC):Option (Bool×AC×Array ResultVar×Bool):=
 fn.body.bind fun c=>(co fn.ntmps c).map fun a=>(fn.name == "runtime.NumGoroutine",a,fn.results,Nat.ble n fn.ntmps)
theorem Is.k{fn:Func}(hf:P.funcs[f]? = some fn)(h:isR fn n (comp P)=some (false,ac,(ts.map ResultVar.tmp).toArray,true)):Is P f ac ts n:=by
 unfold isR at h;obtain⟨c,h1,h2⟩:=Option.bind_eq_some_iff.mp h;obtain⟨a,h3,h4⟩:=Option.map_eq_some_iff.mp h2;simp only[Prod.mk.injEq] at h4;obtain⟨h5,rfl,h7,h6⟩:=h4;exact⟨fn,c,hf,h5,h1,h3,h7,Nat.le_of_ble_eq_true h6⟩
theorem kS.k{fn:Func}(hf:P.funcs[f]? = some fn)(h:Kr (comp P) fn n (fn.results.toList.mapM (vI P))=some (false,ac,some rs,true)):kS P f ac rs n:=by
 obtain⟨c,h1,h2,h3,h4,h5⟩:=Ro h;exact⟨fn,c,hf,h1,h2,h3,h4,h5⟩
theorem xA.k{fn:Func}(hf:P.funcs[f]? = some fn)(h:Kr (RH P) fn n (fn.results.toList.mapM (vI P))=some (false,ac,some rs,true)):xA P f ac rs n:=by
 obtain⟨c,h1,h2,h3,h4,h5⟩:=Ro h;exact⟨fn,c,hf,h1,h2,h3,h4,h5⟩
theorem Cc.k{fn:Func}(hf:P.funcs[f]? = some fn)(h:Kr (yC P) fn n (fn.results.toList.mapM (vI P))=some (false,ac,some rs,true)):Cc P f ac rs n:=by
 obtain⟨c,h1,h2,h3,h4,h5⟩:=Ro h;exact⟨fn,c,hf,h1,h2,h3,h4,h5⟩
theorem ER.k{fn:Func}(hf:P.funcs[f]? = some fn)(h:Kr (ZsQ P) fn n (fn.results.toList.mapM (vI P))=some (false,ac,some rs,true)):ER P f ac rs n:=by
 obtain⟨c,h1,h2,h3,h4,h5⟩:=Ro h;exact⟨fn,c,hf,h1,h2,h3,h4,h5⟩
end Go.Rf
namespace Go.Rf
open Go.RowKit
attribute [local simp] mh lW l7 mP mQ mU mR l9 mX mO mJ eG iB iU iy iR iN iM iT iO gG iP fH iF iQ iE eT eU gD ig je jf gZ jk fU fQ fE eO gV gW gX gP gQ jg iV iH jc iX iZ iY jd jh iK iq gT gU gM iw dO eP gI iL ji ex aH fF dF eY cK dn aL bT fJ gH eZ gN iD iC iW iJ bS dN dV fZ fV gY fu bD bX dL eH dz gu fC gB gq gy fM dA eX eB d9 bB AV.solid S0 ah aD
def Vk(P5g YM:FuncId):AC:= (sq [ro 4 (.mv (ci 0))] (.seq (.lU [rm 8 1,rk 9 P5g [(.t 8)],rm 5 9] none) (sq [rm 11 0,ro 12 (.fO (.t 11)),rF 13 5 12,rL 14 13,rm 15 5,ro 16 (.look .str (.v (.int .i64 0)) true (.t 14) (.t 15)),rm 10 16,ro 17 (.ext 0 (.t 10)),ro 18 (.ext 1 (.t 10)),rm 6 17,rm 7 18] (.seq (sq [rm 19 7,ro 20 (.un .not (.t 19))] (.cond (.t 20) (.seq (sq [rm 21 0,ro 22 (.fO (.t 21)),rF 23 6 22,rL 24 23,ro 25 (.len (.t 24)),rm 6 25] (sq [rm 26 6,rm 27 0,ro 28 (.fO (.t 27)),rF 29 4 28,rL 30 29,ro 31 (.bin .eql (.t 26) (.t 30))] (.cond (.t 31) (.lU [ro 32 (.build (.agg []) [] []),ro 33 (.Oa YM (.t 32))] (some (.t 33))) .skip))) (sq [rm 34 0,ro 35 (.fO (.t 34)),rF 36 5 35,rL 37 36,rm 38 5,rm 39 6,rn (.BX .str (.t 37) (.t 38) (.t 39))] (.reg none [rm 40 0,rm 41 0,ro 42 (.fO (.t 41)),rF 43 6 42,rL 44 43,rm 45 1,ro 46 (.dH 1 1 (.sl true []) [(0,(.t 45))]),ro 47 (.app 1 24 (.t 44) (.t 46)),ro 48 (.fO (.t 40)),rF 49 6 48,rn (.store 1 (.t 49) (.t 47))]))) .skip)) (sq [rm 50 6,rm 4 50] .ret)))))
structure xB(S:St)(id km:Nat)(n:Net)(most:Int)(ss:List (List Int))(v:AV):Prop where
 g:S.g id=some (.arr 7 [.agg [ah n.signs,aU n.au,aU n.follow,aj n.last,ah most,.mp km,v]])
 m:S.g km=some (.map (uD 0 ss))
 vec:Vec S.g v 1 (ss.map aj)
 ne:id≠km
 hv:∀i∈v.ids,i≠id∧i≠km
 lid:id < S.n
 vL:km < S.n
 lv:∀i∈v.ids,i < S.n
structure T9(S S':St)(R:List Nat):Prop where
 n:S.n≤S'.n
 g:∀i,i < S.n→i∉R→S'.g i=S.g i
section
variable{g:Nat→Option aB}{km m aA:Nat}{ss:List (List Int)}{x:List Int}
theorem WO(hg:g km=some (.map (uD 0 ss)))(hx:vg x)(hs:∀s∈ss,vg s) :
  (Bu .str (.v (.int .i64 0)) true (.mp km) (sj (jY x))).run ⟨m,g⟩ aA=some (.aO [ah (if x∈ss then (ss.idxOf x:Int) else 0),.v (.bool (decide (x∈ss)))],⟨m,g⟩):=by
 have hk:=Wp x ss 0;simp only[Bu,Eff.Bc,hg,Option.bind_some,if_pos hk,Zfk hx ss 0 hs];by_cases h:x∈ss
 ·simp[h,ah]
 ·simp[h,ah]
theorem ZoF(hg:g km=some (.map (uD 0 ss)))(hx:vg x)(hs:∀s∈ss,vg s)(hn:x∉ss) :
  (CP .str (.mp km) (sj (jY x)) (.v (.int .i64 ss.length))).run ⟨m,g⟩ aA=some (.junk,(St.mk m g).set km (some (.map (uD 0 (ss++[x]))))):=by
 have hk:=Wp x ss 0;have h:=ZiN hx ss 0 hs hn;rw[Nat.zero_add] at h;have h':nX (sj (jY x)) (.v (.int .i64 ss.length)) (uD 0 ss)=uD 0 (ss++[x]):=h;simp only[CP,Eff.Iu,hg,Option.bind_some,if_pos hk,h',Option.map_some]
end
theorem Zha{P:Program}{ft fT:FuncId}{id km:Nat}{n:Net}{most:Int}{ss:List (List Int)}{v:AV}{set:List Int}{S:St}(M:xB S id km n most ss v)(ht:aJ P ft [aj set] (sj (jY set)))
  (hx:vg set) (hs:∀s∈ss,vg s) (hlen:(ss.length:Int)≤most) (abo:most≤3000) {K:AV→St→Prop} {X:Value→St→Prop}
  (hK1:set∈ss→∀m,S.n≤m→K (ah (ss.idxOf set)) ⟨m,S.g⟩)
  (hK2:set∉ss→(ss.length:Int) < most→∀S' v',xB S' id km n most (ss++[set]) v'→T9 S S' (id::km::v.ids)→(∀i∈v'.ids,S.n≤i)→K (ah ss.length) S')
  (hX:set∉ss→(ss.length:Int)=most→∀m,S.n≤m→X (.iface fT (.agg #[])) ⟨m,S.g⟩) :
  AW P (Vk ft fT) (BJ [.t 4] K X) (bF [.ptr id 0 0,aj set]) S:=by
 have hg:=M.g;have hm:=M.m;unfold Vk;simp[Bq,uS,uP,Cq,Ck];refine nT.H6 (aN.pure ht (aG (aT _) aQ) (.v _) ?_);by_cases hin:set∈ss
 ·simp[Ac,uS,uP,yY,WC,hg,WO hm hx hs,Eff.Bc,Eff.qY,kg,hin,bL,bP,RV.ev,bV]
  exact hK1 hin _ (by omega)
 ·have hlv:=M.vec.len
  rw[List.length_map] at hlv;simp only[gu] at hlv;by_cases hfull:(ss.length:Int)=most
  ·have hbe:((ss.length:Int) == most)=true:=by simpa using hfull
   simp[Bq,Ac,Zq7,ZqP,uS,uP,yY,DN,Zkm,RY,JA,wP,hg,WO hm hx hs,Eff.Bc,Eff.qY,kg,hin,hlv,hbe,jr,gJ];exact hX hin hfull _ (by omega)
  ·have hbe:((ss.length:Int) == most)=false:=by simpa using hfull
   have hne:=M.ne;have hce:(aj set).cells=[aj set]:=rfl;have hso:(aj set).solid=true:=rfl;simp only[AV.solid] at hso;have hat:(aj set).atom=true:=rfl;simp[Ac,uS,uP,yY,hg,WO hm hx hs,Eff.Bc,Eff.qY,kg,hin,hlv,hbe,ZoF hm hx hs hin,hne,hce,hso]
   have hvf:∀k:Nat,Vec (St.set ⟨k,S.g⟩ km (some (.map (uD 0 (ss++[set]))))).g v 1 (ss.map aj):=fun k=>M.vec.frame fun i hi=>by
    rw[aL,if_neg (M.hv i hi).2]
   rw[Vec.app (hvf _) (by intro z hz;obtain⟨s,_,rfl⟩:=List.mem_map.mp hz;rfl) rfl (by rw[List.length_map];unfold bY;omega)];have hid:id∉v.ids:=fun h=>(M.hv id h).1 rfl
   have hkm:km∉v.ids:=fun h=>(M.hv km h).2 rfl
   generalize hq:S.n+1+3+11+2+6+6+7=q;have Y5:id≠q+7:=by have:=M.lid;omega
   simp[WC,hg,Eff.Iu,Eff.qY,kg,bL,bP,RV.ev,bV,hne,yh id hid,FK,Y5];have hkq:km≠q+7:=by have:=M.vL;omega
   have hnk:km≠id:=fun e=>hne e.symm
   refine hK2 hin (by omega) _ (.own (q+7) 0 (ss.length+1)) ⟨?_,?_,?_,M.ne,?_,?_,?_,?_⟩ ⟨?_,?_⟩ ?_
   ·simp[aL,ah]
   ·simp[aL,hnk,hkq,yh km hkm]
   ·refine Vec.mk' (xs:=(ss++[set]).map aj) ?_ (by simp)
    have:q+7≠id:=fun e=>Y5 e.symm
    simp[aL,this]
   ·intro i hi
    simp only[AV.ids,List.mem_cons,List.not_mem_nil,or_false] at hi;subst hi;exact⟨fun e=>Y5 e.symm,fun e=>hkq e.symm⟩
   ·show id < q+11+2
    have:=M.lid;omega
   ·show km < q+11+2
    have:=M.vL;omega
   ·intro i hi
    simp only[AV.ids,List.mem_cons,List.not_mem_nil,or_false] at hi;subst hi;show q+7 < q+11+2
    omega
   ·show S.n≤q+11+2
    omega
   ·intro i hi hR
    simp only[List.mem_cons,not_or] at hR;have:i≠q+7:=by omega
    simp[aL,hR.1,hR.2.1,this,yh i hR.2.2]
   ·intro i hi
    simp only[AV.ids,List.mem_cons,List.not_mem_nil,or_false] at hi;omega
def Xb(EU:FuncId):AC:= (.block 2 (.loop (sq [ro 28 (.bin .lss (.t 27) (.t 26))] (.seq (.cond (.t 28) .skip (.exit 2)) (.seq (.block 3 (sq [ro 29 (.aM 1 (.t 25) (.t 27)),rL 30 29,rm 11 30] (sq [rm 31 0,ro 32 (.fO (.t 31)),rF 33 0 32,rF 34 1 33,rL 35 34,rm 36 11,ro 37 (.aM 1 (.t 35) (.t 36)),rL 38 37,rm 39 2,rk 40 EU [(.t 38),(.t 39)]] (.cond (.t 40) (.reg none [rm 41 7,rm 42 11,ro 43 (.dH 1 1 (.v (.int .i64 0)) [(0,(.t 42))]),ro 44 (.app 1 8 (.t 41) (.t 43)),rm 7 44]) .skip)))) (.reg none [ro 45 (.bin .add (.t 27) (ci 1)),rm 27 45]))))))
def ZhE(EU:FuncId):AC:= (.block 0 (.loop (sq [ro 15 (.bin .lss (.t 14) (.t 13))] (.seq (.cond (.t 15) .skip (.exit 0)) (.seq (.block 1 (sq [ro 16 (.aM 1 (.t 12) (.t 14)),rL 17 16,rm 9 17] (sq [rm 18 0,ro 19 (.fO (.t 18)),rF 20 0 19,rF 21 2 20,rL 22 21,rm 23 9,ro 24 (.aM 1 (.t 22) (.t 23)),rL 25 24,ro 26 (.len (.t 25)),ro 27 (.mv (ci 0))] (Xb EU)))) (.reg none [ro 46 (.bin .add (.t 14) (ci 1)),rm 14 46]))))))
def Vt(EU zU zT:FuncId):AC:= (sq [ro 6 (.mv (.c (.sl true [])))] (sq [ro 7 (.mv (.c (.sl true [])))] (.seq (sq [rm 12 1,ro 13 (.len (.t 12)),ro 14 (.mv (ci 0))] (ZhE EU)) (sq [rm 47 7,rk 48 zU [(.t 47)]] (sq [rm 49 7,rk 50 zT [(.t 49)],rm 6 50] .ret)))))
def Vs(P3R KT:FuncId):AC:= (sq [ro 2 (.box 1 (.t 0)),ro 4 (.mv (.c (.v (.bool false))))] (sq [rm 5 1,ro 6 (.A8 P3R [] [(.t 2)]),rk 7 KT [(.t 5),(.t 6)],rm 4 7] .ret))
def Vj(EU:FuncId):AC:= (sq [ro 3 (.mv (.c (.v (.bool false))))] (sq [rL 4 1,ro 5 (.fO (.t 4)),rF 6 0 5,rF 7 3 6,rL 8 7,rm 9 0,rk 10 EU [(.t 8),(.t 9)],rm 3 10] .ret))
def nW(n:Net):AV:=.bJ (jA n) 0
structure Dq(n:Net)(at_:List Int)(sign:Int)(i:Nat)(cur:List Int)(f:AF)(S:St):Prop where
 e12:f 12=aj at_
 e13:f 13=ah at_.length
 e14:f 14=ah i
 e2:f 2=ah sign
 e0:f 0=nW n
 vec:Vec S.g (f 7) 1 (cur.map ah)
 nil:cur=[]→f 7=.sl true []
theorem Dq.same{n:Net}{at_:List Int}{sign:Int}{i:Nat}{cur:List Int}{f f':AF}{S S':St}(h:Dq n at_ sign i cur f S)(hf:∀j,j=12∨j=13∨j=14∨j=2∨j=0∨j=7→f' j=f j)(hg:S'.g=S.g):Dq n at_ sign i cur f' S':=
 ⟨by rw[hf _ (by simp)];exact h.e12,by rw[hf _ (by simp)];exact h.e13,by rw[hf _ (by simp)];exact h.e14,by rw[hf _ (by simp)];exact h.e2,by rw[hf _ (by simp)];exact h.e0,by rw[hg,hf _ (by simp)];exact h.vec,fun e=>by rw[hf _ (by simp)];exact h.nil e⟩
theorem ZuQ{P:Program}{fc:FuncId}{n:Net}(R:mY n)(hc:∀l∈n.au,∀x,aJ P fc [aj l,ah x] (aD (l.contains x))){at_:List Int}{sign:Int}{i p:Nat}{cur:List Int}(hp:p < n.follow.length)(hcur:cur.length≤100000000){f:AF}{S:St}{Q:Exit→AF→St→Prop}
  (h:Dq n at_ sign i cur f S) (e25:f 25=aj n.follow[p]) (e26:f 26=ah (n.follow[p]).length) (e27:f 27=ah 0)
  (hk:∀f' S',Dq n at_ sign i (cur++(n.follow[p]).filter (vC n sign)) f' S'→Q .normal f' S'):AW P (Xb fc) Q f S:=by
 have hlen:=V4 R hp;simp[Xb];refine y7 (n.follow[p]).length (fun k f S=>Dq n at_ sign i (cur++((n.follow[p]).take k).filter (vC n sign)) f S∧f 25=aj n.follow[p]∧f 26=ah (n.follow[p]).length∧f 27=ah k) ?_ ?_
 ·exact⟨by simpa using h,e25,e26,e27⟩
 ·rintro k f S hk' ⟨h,e25,e26,e27⟩
  generalize hrow:n.follow[p]=row at *;have e2:=h.e2;have e0:=h.e0;simp only[nW,jA,aU] at e0;by_cases hlt:k < row.length
  ·have hat:1≤row[k]∧row[k] < n.au.length:=by subst hrow;exact ZlE R hp hlt
   have hge:(0:Int)≤row[k]:=by omega
   have hbl:(row[k]).toNat < n.au.length:=by omega
   have hby:n.au[(row[k]).toNat]? = some n.au[(row[k]).toNat]:=List.getElem?_eq_getElem hbl;have hbs:vC n sign row[k]=(n.au[(row[k]).toNat]).contains sign:=by simp[vC,List.getD_eq_getElem?_getD,hby]
   have kc:=hc _ (List.getElem_mem hbl) sign;have cc:=aG (aT n.au[(row[k]).toNat]) (aG (aW sign) aQ);simp only[aj,ah] at kc cc;have htk:row.take (k+1)=row.take k++[row[k]]:=by rw[List.take_add_one,List.getElem?_eq_getElem hlt];rfl
   have hcl:(cur++(row.take k).filter (vC n sign)).length≤200000000:=by
    have:=List.length_filter_le (vC n sign) (row.take k);have:(row.take k).length≤k:=by rw[List.length_take];omega
    rw[List.length_append];omega
   simp[e25,e26,e27,e2,e0,hlt,aj,hge,hby,kg];refine aN.pure kc cc (dY _) ?_;rw[←hbs];cases hb:vC n sign row[k] with
   | false=>
    simp[e27];rw[bE _ (by omega)];refine⟨hlt,?_,?_,?_,?_⟩
    ·rw[htk,List.filter_append]
     simp only[List.filter_cons,hb,List.filter_nil,Bool.false_eq_true,if_false,List.append_nil];refine h.same (fun j hj=>?_) rfl;rcases hj with rfl | rfl | rfl | rfl | rfl | rfl<;>simp[aH]
    ·simp[aH,e25,aj]
    ·simp[aH,e26,ah]
    ·simp[aH]
   | true=>
    simp;rw[Vec.app (xs:=(cur++(row.take k).filter (vC n sign)).map ah) (h.vec.frame (fun i hi=>rfl)) (QE _) (by simp[AV.cells]) (Zpj (by rw[List.length_map];omega))];simp[e27,FK];rw[bE _ (by omega)];refine⟨hlt,⟨?_,?_,?_,?_,?_,?_,?_⟩,?_,?_,?_⟩
    ·simp[aH,h.e12]
    ·simp[aH,h.e13]
    ·simp[aH,h.e14]
    ·simp[aH,h.e2,ah]
    ·simp[aH,h.e0]
    ·rw[htk,List.filter_append]
     simp only[List.filter_cons,hb,List.filter_nil,if_true];have hl1:(cur++((row.take k).filter (vC n sign)++[row[k]])).map ah=(cur++(row.take k).filter (vC n sign)).map ah++[ah row[k]]:=by simp
     rw[hl1];simp only[aH,if_true];exact .mk' (by simp[aL,ah]) (by simp[Nat.add_assoc])
    ·intro e
     rw[htk,List.filter_append] at e;simp[hb] at e
    ·simp[aH,e25,aj]
    ·simp[aH,e26,ah]
    ·simp[aH]
  ·have:row.take k=row:=List.take_of_length_le (by omega)
   rw[this] at h;simp[e26,e27,hlt];refine hk _ _ (h.same (fun j hj=>?_) rfl);rcases hj with rfl | rfl | rfl | rfl | rfl | rfl<;>simp[aH]
structure Zsr(P:Program)(fc fs fm:FuncId):Prop where
 cont:∀(l:List Int) x,Len l→aJ P fc [aj l,ah x] (aD (l.contains x))
 sort:MQ P fs
 comp:MN P fm
 Fj:aJ P fs [.sl true []] (.aO [])
 Fh:aJ P fm [.sl true []] (.sl true [])
theorem ZdX{P:Program}{fc fs fm:FuncId}{n:Net}(R:mY n)(H:Zsr P fc fs fm)(at_:List Int)(hat:at_.length≤3000)(hv:∀s∈at_,0≤s∧s < n.follow.length)(sign:Int) :
  AW P (Vt fc fs fm) (dw [6] fun r S=>kQ S.g r (aj (qJ n at_ sign))) (bF [nW n,aj at_,ah sign]) S0:=by
 have hfl:n.follow.length≤301:=by have:=R.len;have:=R.n2;omega
 have hbl:=VI R sign at_
 have hcont:∀l∈n.au,∀x,aJ P fc [aj l,ah x] (aD (l.contains x)):=by
  intro l hl x;refine H.cont l x ?_;obtain⟨j,hj,rfl⟩:=List.mem_iff_getElem.mp hl;have:=JB (R.au j hj).1 (R.au j hj).2;have:=R.s2;unfold Len;omega
 simp[Vt,ZhE,aj,nW,jA,aU];refine y7 at_.length (fun i f S=>Dq n at_ sign i (oJ n (at_.take i) sign) f S) ?_ ?_
 ·refine⟨?_,?_,?_,?_,?_,?_,fun _=>?_⟩
  ·simp[aH,aj]
  ·simp[aH,ah]
  ·simp[aH,ah]
  ·simp[aH,cK,dn,ah]
  ·simp[aH,cK,nW,jA,ah,aU,aj]
  ·simp[aH,oJ];exact .nil
  ·simp[aH]
 ·rintro i f S hi h
  have e12:=h.e12;have e13:=h.e13;have e14:=h.e14;have e0:=h.e0;simp only[nW,jA,aU] at e0;by_cases hlt:i < at_.length
  ·have htk:=ZeV (n:=n) (sign:=sign) hlt
   have hcur:(oJ n (at_.take i) sign).length≤100000000:=by
    have:=VI R sign (at_.take i);have:(at_.take i).length≤at_.length:=by rw[List.length_take];omega
    omega
   have Dk:=hv _ (List.getElem_mem hlt);have hp:(at_[i]).toNat < n.follow.length:=by omega
   have hge:(0:Int)≤at_[i]:=by omega
   have hgf:n.follow[(at_[i]).toNat]? = some n.follow[(at_[i]).toNat]:=List.getElem?_eq_getElem hp
   have hb1:Cv n sign at_[i]=(n.follow[(at_[i]).toNat]).filter (vC n sign):=by
    unfold Cv;rw[if_pos (by omega),List.getD_eq_getElem?_getD,hgf];rfl
   simp[e12,e13,e14,e0,hlt,aj,hge,hgf,kg];refine ZuQ R hcont hp hcur (h.same (fun j hj=>?_) rfl) ?_ ?_ ?_ (fun f' S' h'=>?_)
   ·rcases hj with rfl | rfl | rfl | rfl | rfl | rfl<;>simp[aH]
   ·simp[aH,aj]
   ·simp[aH,ah]
   ·simp[aH,ah]
   ·have aao:=h'.e14
    simp[aao];rw[bE _ (by omega)];refine⟨hlt,?_⟩;show Dq n at_ sign (i+1) (oJ n (at_.take (i+1)) sign) _ _
    rw[htk,hb1];refine⟨?_,?_,?_,?_,?_,?_,fun e=>?_⟩
    ·simp[aH,h'.e12]
    ·simp[aH,h'.e13]
    ·simp[aH,ah]
    ·simp[aH,h'.e2]
    ·simp[aH,h'.e0]
    ·rw[aH,if_neg (by decide),aH,if_neg (by decide)];exact h'.vec
    ·rw[aH,if_neg (by decide),aH,if_neg (by decide)];exact h'.nil e
  ·have htk:at_.take i=at_:=List.take_of_length_le (by omega)
   rw[htk] at h;rcases h.vec with⟨hv7,hl0⟩ | ⟨id,off,ys,hv7,hg7,ho,hd⟩
   ·have hb0:oJ n at_ sign=[]:=by simpa using hl0
    have hs0:qJ n at_ sign=[]:=by
     unfold qJ;rw[hb0];exact List.eq_nil_of_length_eq_zero (by have:=W9 [];simpa using this)
    simp[e13,e14,hlt,hv7];refine aN.pure H.Fj (aG (.sl _ _ (by simp)) aQ) (.aO _ (by simp)) ?_;simp[hv7];refine aN.pure H.Fh (aG (.sl _ _ (by simp)) aQ) (.sl _ _ (by simp)) ?_;simp[hs0];exact .nil true false (by simp)
   ·have hb0:oJ n at_ sign≠[]:=by
     intro e;have:=h.nil e;rw[this] at hv7;cases hv7
    have hm:((oJ n at_ sign).mergeSort fun x y=>decide (x≤y)).length=(oJ n at_ sign).length:=List.length_mergeSort _
    have hne2:((oJ n at_ sign).mergeSort fun x y=>decide (x≤y))≠[]:=by
     intro e;rw[e] at hm;exact hb0 (List.eq_nil_of_length_eq_zero hm.symm)
    rw[List.length_map] at hv7;simp[e13,e14,hlt,hv7];refine H.sort _ _ off ys (oJ n at_ sign) _ hg7 hd hb0 (by omega) ?_;simp[hv7];rw[←hm];have hto:(ys.take off).length=off:=by rw[List.length_take];omega
    refine H.comp _ _ off (ys.take off++((oJ n at_ sign).mergeSort fun x y=>decide (x≤y)).map ah) _ _ (by simp[aL]) (by rw[List.drop_left' hto]) hne2 (by omega) ?_;simp;refine Vec.NI (es:=1) (.inr ⟨id,off,ys.take off++(jo (oJ n at_ sign)).map ah,?_,?_,?_,?_⟩)
    ·simp[qJ,jo]
    ·rw[List.take_left' hto];simp[aL,jo]
    ·simp[hto]
    ·rw[List.drop_left' hto];rfl
def kW(n:Net)(set:List Int):Bool:=set.any fun s=>n.last.contains s
theorem ZbZ{P:Program}{fc:FuncId}(n:Net)(s:Int)(hc:aJ P fc [aj n.last,ah s] (aD (n.last.contains s))):AW P (Vj fc) (dw [3] (dM (aD (n.last.contains s)))) (bF [ah s,.bJ (nW n) 0]) S0:=by
 simp[Vj,nW,jA,kg];refine aN.pure hc (aG (aT _) (aG (aW _) aQ)) (dY _) ?_;simp;exact bO _ _
theorem ZbW(n:Net):aY (nW n):=.bJ _ _ (Cm n)
theorem ZdW{P:Program}{f1 fcf:FuncId}(n:Net)(set:List Int)(hcf:aJ P fcf [aj set,.aP f1 [] [.bJ (nW n) 0]] (aD (kW n set))) :
  AW P (Vs f1 fcf) (dw [4] (dM (aD (kW n set)))) (bF [nW n,aj set]) S0:=by
 have h1:(nW n).solid=true:=rfl;have h2:(nW n).cells=[nW n]:=rfl;simp only[AV.solid] at h1;simp[Vs,h1,h2];refine aN.looks hcf (dJ.cons (.closed _ (aT _)) (dJ.cons (.Pn (dJ.cons (.box _ _ 1 (nW n) _ ?_ (.closed _ (ZbW n))) dJ.nil)) dJ.nil)) (QM _) ?_
 ·simp[aL]
 ·simp
  exact bO _ _
mutual
def oP:aF→Prop
 | .mk k s g ks=>g.length≤17592186043904∧ks.length≤100000∧yB ks
def yB:List aF→Prop
 | []=>True
 | p::ps=>oP p∧yB ps
end
theorem yB.mem:∀{ks:List aF},yB ks→∀q∈ks,oP q
 | [],_,q,h=>by simp at h
 | p::ps,h,q,hq=>by
  simp only[yB] at h;rcases List.mem_cons.mp hq with rfl | hq
  ·exact h.1
  ·exact yB.mem h.2 q hq
end Go.Rf
