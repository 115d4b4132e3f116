import Derived.Test.YtdmcjhnbmgmgoaaGreatDoorRfP1
set_option linter.unusedVariables false
set_option linter.unusedSimpArgs false
set_option linter.unusedSectionVars false
namespace Go.Rf
open Go.RowKit
attribute [local simp] Z4t Z4q Z3h Z2s Z3f Z3j Z3g Z4r Z4s Z3i Z3n Z1A Z1y Z2q Z1H Z41 Z3v ZcH Z7E Z7D Z5R ZcG Z7C Z5P Z4v Z3k Z4u Z7x Z7w Z5J Z4x Z3l Z4w Z7z Z7y Z5K Z1z Z2v Z3o Z3p Z1D Z1o Z0c Z0B Z0q Z08 Z0o Z0h Z09 Z0p Z0i Z0Y Z0j Z0z Z0K Z0k Z0J Z1W Z3U Z0X Z25 Z22 Z24 Z23 Z26 Z1j Z0D Z11 Z12 Z1T Z1U Z1V Z0H Z0I Z1i Z0r Z0W Z20 Z1X Z1Z Z1Y Z21 Z1k Z13 Z1g Z0U Z0V Z0C Z1h Z0P Z1a Z1f Z14 Z1l ex Z00 Z0R Z6K Z6P Z0f Z0g Z0A Z2k Z1d Z10 Z0y Z0F Z0G Z0E Z0s Z0Z Z5y Z0O Z37 Z1c Z1O Z1R Z3s Z0b Z1E Z28 Z19 Z0Q Z2w Z27 Z3u Z2x Z1P Z6A Z3C Z6z Z3w Z2Y Z3t Z6w Z3D Z51 Z4A Z3z Z2B Z2C Z29 Z2z Z2A Z3y Z1M Z2y Z3x Z3A S0 Z06 Z1n Z39 Z34 Z56 Z38 Z33 Z55 Z44 Z36 Z43 Z6j Z5a Z6i Z59 Z45 Z58 Z2U Z72.cl Z5z.cl Z04 Z0L Z02 Z0T Z1w Z2j Z1N Z2n Z1p Z3r Z4N Z3V Z4M Z5L Z5W Z3E Z4O Z5w Z5m Z5S Z4U Z4X Z4W Z42 Z2c Z2H Z62 Z3m Z3W Z4y Z2J Z2I Z17 Z68 Z2G Z4k Z1S Z4B
def ZjJ:AC :=
 (.block 2 (.loop (.seq (.reg none [
    ro 48 (.bin .lss (.t 47) (.t 46))])
   (.seq (.cond (.t 48) .skip (.exit 2))
   (.seq (.block 3 (.seq (.reg none [
    rm 49 47,
    ro 50 (.idxA 1 (.t 45) (.t 47)),
    ro 51 (.load none (.t 50)),
    rm 10 49,
    rm 11 51])
    (.seq (.reg none [
    rm 53 5,
    rm 54 4,
    rm 55 11,
    ro 56 (.idxA 1 (.t 54) (.t 55)),
    ro 57 (.load none (.t 56)),
    ro 58 (.look (.int .i64) (.v (.int .i64 0)) true (.t 53) (.t 57)),
    rm 52 58,
    ro 59 (.ext 0 (.t 52)),
    ro 60 (.ext 1 (.t 52)),
    rm 12 59,
    rm 13 60])
    (.seq (.seq (.reg none [
    rm 61 13,
    ro 62 (.un .not (.t 61))])
    (.cond (.t 62) (.seq (.reg none [
     rm 63 6,
     ro 64 (.len (.t 63)),
     rm 12 64])
    (.seq (.reg none [
     rm 65 5,
     rm 66 4,
     rm 67 11,
     ro 68 (.idxA 1 (.t 66) (.t 67)),
     ro 69 (.load none (.t 68)),
     rm 70 12,
     rn (.mset (.int .i64) (.t 65) (.t 69) (.t 70))])
    (.reg none [
     rm 71 6,
     rm 72 11,
     ro 73 (.bslice 1 1 (.v (.int .i64 0)) [(0,(.t 72))]),
     ro 74 (.app 1 8 (.t 71) (.t 73)),
     rm 6 74]))) .skip))
    (.reg none [
    rm 75 9,
    rm 76 10,
    rm 77 12,
    ro 78 (.idxA 1 (.t 75) (.t 76)),
    rn (.store 1 (.t 78) (.t 77))])))))
   (.reg none [
    ro 79 (.bin .add (.t 47) (ci 1)),
    rm 47 79]))))))
def ZjG:AC :=
 (.reg (some [[],[],[],[],[],[true],[false,true],[false,false,true],[false,false,false,true],[false,false,false,false,true],[false,false,false,false,false,true],[false,false,false,false,false,false,true],[false,false,false,false,false,false,false,true],[false,false,false,false,false,false,false,false,true],[false,false,false,false,false,false,false,false,false,true],[false,false,false,false,false,false,false,false,false,false,true],[],[true]]) [
   ro 80 (.fieldA 1 (.t 7)),
   ro 81 (.load none (.t 80)),
   rm 82 9,
   ro 83 (.bslice 1 1 (.sl true []) [(0,(.t 82))]),
   ro 84 (.app 1 24 (.t 81) (.t 83)),
   ro 85 (.fieldA 2 (.t 7)),
   ro 86 (.load none (.t 85)),
   ro 87 (.fieldA 2 (.t 1)),
   ro 88 (.load none (.t 87)),
   rm 89 6,
   rm 90 8,
   ro 91 (.idxA 1 (.t 89) (.t 90)),
   ro 92 (.load none (.t 91)),
   ro 93 (.idxA 1 (.t 88) (.t 92)),
   ro 94 (.load none (.t 93)),
   ro 95 (.bslice 1 1 (.v (.bool false)) [(0,(.t 94))]),
   ro 96 (.app 1 1 (.t 86) (.t 95)),
   ro 97 (.fieldA 1 (.t 7)),
   rn (.store 1 (.t 97) (.t 84)),
   ro 98 (.fieldA 2 (.t 7)),
   rn (.store 1 (.t 98) (.t 96))])
def ZjI:AC :=
 (.block 0 (.loop (.seq (.seq (.reg none [
  rm 29 8,
  rm 30 6,
  ro 31 (.len (.t 30)),
  ro 32 (.bin .lss (.t 29) (.t 31))])
  (.cond (.t 32) .skip (.exit 0)))
  (.seq (.block 1 (.seq (.reg none [
   ro 35 (.fieldA 0 (.t 1)),
   ro 36 (.load none (.t 35)),
   ro 37 (.mks 1 8 (.v (.int .i64 0)) (.t 36) (.t 36)),
   rm 9 37])
  (.seq (.seq (.reg (some []) [
   ro 38 (.fieldA 1 (.t 1)),
   ro 39 (.load none (.t 38)),
   rm 40 6,
   rm 41 8,
   ro 42 (.idxA 1 (.t 40) (.t 41)),
   ro 43 (.load none (.t 42)),
   ro 44 (.idxA 1 (.t 39) (.t 43)),
   ro 45 (.load none (.t 44)),
   ro 46 (.len (.t 45)),
   ro 47 (.mv (ci 0))])
  ZjJ)
  ZjG)))
  (.reg none [
  rm 33 8,
  ro 34 (.bin .add (.t 33) (ci 1)),
  rm 8 34])))))
def ZjH:AC :=
 (.seq (.reg none [
 ro 99 (.load (some 3) (.t 7)),
 rn (.store 3 (.t 2) (.t 99)),
 ro 3 (.mv (ci 0))])
 .ret)
def Za1(P1j P46:FuncId):AC :=
 (.seq (.reg none [
 ro 1 (.box 3 (.t 0)),
 ro 2 (.alloc (.agg [(.v (.int .i64 0)),(.sl true []),(.sl true [])]) 3),
 ro 3 (.mv (ci 0))])
 (.seq (.seq (.reg none [
 ro 14 (.load (some 3) (.t 1)),
 rk 15 P1j [(.t 14)],
 ro 16 (.un .not (.t 15))])
 (.cond (.t 16) (.seq (.reg none [
  ro 17 (.build (.agg [(.v (.int .i64 0)),(.sl true []),(.sl true [])]) [] []),
  rn (.store 3 (.t 2) (.t 17)),
  ro 3 (.mv (ci 1))])
 .ret) .skip))
 (.seq (.reg none [
 ro 18 (.load (some 3) (.t 1)),
 rk 19 P46 [(.t 18)],
 rm 4 19])
 (.seq (.reg none [
 ro 20 (.mmk),
 rm 21 4,
 ro 22 (.idxA 1 (.t 21) (ci 0)),
 ro 23 (.load none (.t 22)),
 rn (.mset (.int .i64) (.t 20) (.t 23) (ci 0)),
 rm 24 20,
 rm 5 24])
 (.seq (.reg none [
 ro 25 (.bslice 1 1 (.v (.int .i64 0)) [(0,(ci 0))]),
 rm 6 25])
 (.seq (.reg none [
 ro 26 (.fieldA 0 (.t 1)),
 ro 27 (.load none (.t 26)),
 ro 28 (.build (.agg [(.v (.int .i64 0)),(.sl true []),(.sl true [])]) [(0,1)] [(0,(.t 27))]),
 ro 7 (.alloc (.agg [(.v (.int .i64 0)),(.sl true []),(.sl true [])]) 3),
 rn (.store 3 (.t 7) (.t 28))])
 (.seq (.seq (.reg none [
 ro 8 (.mv (ci 0))])
 ZjI)
 ZjH)))))))
def Zo6(l:List Nat):List Int:=l.map fun(q:Nat)=>(q:Int)
theorem ZcT(l:List Nat):(Zo6 l).length=l.length:=by simp[Zo6]
theorem Zhy(l:List Nat)(q:Nat):Zo6 (l++[q])=Zo6 l++[(q:Int)]:=by simp[Zo6]
theorem ZcS{l:List Nat}{i q:Nat}(h:l[i]? = some q):(Zo6 l)[i]? = some (q:Int):=by simp[Zo6,h]
theorem Zwc:Zem (.int .i64) (fun _:Int=>True) Z06 :=
 ⟨fun _=>rfl,fun x y _ _=>by
  have:Z8C (Z06 x) (Z06 y)=(x == y):=rfl;rw[this];by_cases h:x=y
  ·subst h;simp
  ·simp[h]⟩
def ZdP(d:Det):Det×Int:=if Z2r d=true then (Z5j d,0) else (⟨0,[],[]⟩,1)
abbrev LoS:=(List Int×List Int×List (List Int)×List Bool)×(Bool×Bool×Bool)
def loI(d:Det)(c:List Int)(i:Nat)(s:LoS):Prop:=s.1=(Zo6 (lsF d c i).1,(lsF d c i).1.map (Z5I c),(lsF d c i).2)∧∀m,m < i→m < (lsF d c m).1.length
def Zm9(c:List Int)(i:Nat)(os:List Int)(o:Bool):List (Nat×AV):=[(1,.ptr 0 0 0),(2,.ptr 1 0 0),(4,Z03 c),(5,.mp 3),(6,vV o 4 (os.map Z06)),(7,.ptr 2 0 0),(8,Z06 i)]
def Zma(d:Det)(os ks:List Int)(nx:List (List Int))(en:List Bool)(o oN oE:Bool):List (Nat×Option Blk) :=
 [(0,some (.arr 3 [Z0v d])),(1,some (.arr 3 [Z7i])),(2,some (.arr 3 [.agg [Z06 d.signs,vV oN 5 (nx.map Z03),vV oE 6 (en.map Z1n)]])),(3,some (.map (Z49 Z06 0 ks))),(4,vB o 1 (os.map Z06)),(5,vB oN 1 (nx.map Z03)),(6,vB oE 1 (en.map Z1n))]
def loA(c:List Int)(i:Nat)(s:LoS):List (Nat×AV):=Zm9 c i s.1.1 s.2.1
def loG(d:Det)(_:Nat)(s:LoS):List (Nat×Option Blk):=Zma d s.1.1 s.1.2.1 s.1.2.2.1 s.1.2.2.2 s.2.1 s.2.2.1 s.2.2.2
abbrev LrS:=(List Int×List Int×List Int)×Bool
def lrI(d:Det)(c:List Int)(q:Nat)(one:List Nat)(k:Nat)(s:LrS):Prop :=
 s.1.1=Zo6 (Z9e c (fun s=>Z2o d q s) k one).1∧s.1.2.1=(Z9e c (fun s=>Z2o d q s) k one).1.map (Z5I c)∧s.1.2.2.length=d.signs.toNat∧s.1.2.2.take k=(Z9e c (fun s=>Z2o d q s) k one).2
def lrA(d:Det)(c:List Int)(i:Nat)(row:List Int)(k:Nat)(s:LrS):List (Nat×AV):=(9,.own 7 0 d.signs.toNat)::(45,Z03 row)::(46,Z06 d.signs)::(47,Z06 k)::Zm9 c i s.1.1 s.2
def lrG(d:Det)(nx:List (List Int))(en:List Bool)(oN oE:Bool)(_:Nat)(s:LrS):List (Nat×Option Blk):=(7,some (.arr 1 (s.1.2.2.map Z06)))::Zma d s.1.1 s.1.2.1 nx en s.2 oN oE
theorem ZgI{gF:Nat→Option Blk}{R:Nat→Nat→Prop}(rw_:List Int)(k:Nat)(v:Int):Z72 gF R ((List.map Z06 rw_).set k (.v (.int .i64 v))) ((List.map Z06 rw_).set k (.v (.int .i64 v))):=by
 have:(List.map Z06 rw_).set k (.v (.int .i64 v))=List.map Z06 (rw_.set k v):=by rw[List.map_set];rfl
 rw[this];exact Z72.cl (Z5L _)
theorem Zi5(l:List Int)(k:Nat)(v:Int)(h:k < l.length):(l.set k v).take (k+1)=l.take k++[v]:=by
 rw[List.take_succ_eq_append_getElem (by simpa using h),List.take_set_of_le (Nat.le_refl _)];simp
theorem ZfZ{P:Program}{fr fc:FuncId}{d:Det}(hr:Z0t P fr [Z0v d] (Z1n (Z2r d)))(hc:Z1Q d→Z0t P fc [Z0v d] (Z03 (Z3q d))) :
  AWb P 0 (Za1 fr fc) (Z2L [.c 2 (some 3),.t 3] (FzK (Z3N (ZdP d)))) (Z53 [Z0v d]) S0:=by
 have ed:(Z0v d).cells=[Z06 d.signs,Z0l d.next,Z2E d.fin]:=rfl;simp[Za1];refine Z0x.pure hr (Z01 (Z0e d) Z0a) (Z0L _) ?_;cases hb:Z2r d with
 | false =>
  have hz:ZdP d=(⟨0,[],[]⟩,1):=by simp[ZdP,hb]
  rw[hz];simp[Z2L,evC,RV.ev,ldC,Z1b,Z0w,Z1t];exact Z2F _ 1
 | true =>
  have R:=(Z5v d).mp hb;have hz:ZdP d=(Z5j d,0):=by simp[ZdP,hb]
  rw[hz];have C:=Z6y R;have hn1:=R.n1;have hn2:=R.n2;have hs1:=R.s1;have hs2:=R.s2;have hcl:=C.len;have hc0:(0:Nat) < (Z3q d).length:=by omega
  simp;refine Z0x.pure (hc R) (Z01 (Z0e d) Z0a) (Z02 _) ?_;have hspec:=Z6B R;have hlD:Z5j d=⟨d.signs,(Z4E d).2.1,(Z4E d).2.2⟩:=rfl;generalize hcc:Z3q d=c at *;have hmset0:=fun(km nid:Nat) (S:St) (hg:S.g km=some (.map []))=>Zq9 (ks:=[]) (x:=c[0]) (nid:=nid) Zwc trivial (by simp) (by simp) hg
  simp[Z49,Z06] at hmset0;simp[ZiP,hc0,hmset0,Z0w,Z1t,ZjI];refine Z2D (d.next.length+1) (loI d c) (loA c) 10 (loG d) (([0],[Z5I c 0],[],[]),(false,false,false)) ⟨rfl,fun m hm=>by omega⟩ ?_ ?_
  ·refine Abs.of [(0,0),(1,1),(2,21),(3,9)] [] (by omega) ⟨by simp,by simp⟩ ?_ ?_
   ·simp[loG,Zma,Z7i,Z0e,Z49]
    have hc00:c[0]=Z5I c 0:=by rw[Z5I,List.getD_eq_getElem?_getD,List.getElem?_eq_getElem hc0];rfl
    rw[hc00];exact Z7Y (Z9h (enc:=Z06) Z04 [Z5I c 0] 0)
   ·simp[loA,Zm9]
    exact .cl (.sl _ _ (Z01 (Z04 _) Z0a))
  ·rintro i ⟨⟨os,ks,nx,en⟩,oo,oN,oE⟩ hi ⟨heq,hmin⟩
   simp only[Prod.mk.injEq] at heq;obtain⟨ho,hk,hne⟩:=heq;have ok:=Zf5 R c i hmin;have hle:=ok.le;have hlen:=ok.len;have hnd:=ok.nd;generalize hst:lsF d c i=st at *;obtain⟨one,nx',en'⟩:=st;simp only[Prod.mk.injEq] at ho hk hne hle hlen hnd;obtain⟨rfl,rfl⟩:=hne;have hol:os.length=one.length:=by rw[ho,ZcT]
   by_cases hlt:i < one.length
   ·obtain⟨q,hq⟩:∃q,one[i]? = some q:=⟨_,List.getElem?_eq_getElem hlt⟩
    have hqn:q < d.next.length:=ok.lt q (by obtain⟨h1,h2⟩:=List.getElem?_eq_some_iff.mp hq;rw[←h2];exact List.getElem_mem h1)
    have hoi:i < os.length:=by omega
    have hoq:os[i]? = some (q:Int):=by rw[ho];exact ZcS hq
    obtain⟨_,hoq2⟩:=List.getElem?_eq_some_iff.mp hoq;have hrl:((d.next[q]).length:Int)=d.signs:=R.row q hqn;have hsa:=fun(k:Nat) (h:(k:Int) < d.signs)=>Zeh R hqn (s:=(k:Int)) (by omega) h
    have hgq:d.next.getD q []=d.next[q]:=by rw[List.getD_eq_getElem?_getD,List.getElem?_eq_getElem hqn];rfl
    have hfl:q < d.fin.length:=by have:=R.fin;omega
    have hfb:d.fin[q]=Z6n d q:=by rw[Z6n,List.getD_eq_getElem?_getD,List.getElem?_eq_getElem hfl];rfl
    have hoI:(i:Int) < os.length:=by omega
    have hm0:(0:Int)≤d.signs:=by omega
    have hmk:8*d.signs≤281474976710656:=by omega
    have hmk2:d.signs≤9223372036854775807:=by omega
    have hnx:lsF d c (i+1)=((Z9e c (fun s=>Z2o d q s) d.signs.toNat one).1,nx++[(Z9e c (fun s=>Z2o d q s) d.signs.toNat one).2],en++[Z6n d q]):=by
     simp only[lsF,hst,lnx,hq]
    generalize hrow:d.next[q]=row at *
    simp[loA,Zm9,loG,Zma,hoI,Zhd,hm0,hmk,hmk2,hoi,hoq,hoq2,hqn,hrl,hrow,ZjJ];refine Z2D d.signs.toNat (lrI d c q one) (lrA d c i row) 10 (lrG d nx en oN oE) ((os,ks,List.replicate d.signs.toNat 0),oo) ⟨ho,hk,by simp,by simp[Z9e]⟩ ?_ ?_
    ·refine Abs.of [(0,0),(1,1),(2,2),(3,3),(4,4),(5,5),(6,6),(7,16)] [] (by omega) ⟨by simp,by simp⟩ ?_ ?_
     ·simp[lrG,Zma,Z7i,Z0e]
      exact Z7Y (Z9h Z04 _ _)
     ·simp[lrA,Zm9]
    ·rintro k ⟨⟨os1,ks1,rw⟩,o1⟩ hkn ⟨h1,h2,h3,h4⟩
     simp only at h1 h2 h3 h4;have hro:=Zg2 (c:=c) (t:=fun s=>Z2o d q s) hnd k;have hlr:Z9e c (fun s=>Z2o d q s) (k+1) one=((ZbW c (Z9e c (fun s=>Z2o d q s) k one).1 (Z2o d q k)).1,(Z9e c (fun s=>Z2o d q s) k one).2++[((ZbW c (Z9e c (fun s=>Z2o d q s) k one).1 (Z2o d q k)).2:Int)]):=rfl;generalize hp:Z9e c (fun s=>Z2o d q s) k one=p at *;obtain⟨Z73,r⟩:=p;simp only at h1 h2 h4 hlr hro;have hol1:os1.length=Z73.length:=by rw[h1,ZcT]
     have hkl1:ks1.length=Z73.length:=by rw[h2,List.length_map]
     have hle1:Z73.length≤d.next.length:=by
      refine Zbm _ _ ((List.pairwise_map.mp hro.nd).imp (fun h e=>h (congrArg _ e))) (fun x hx=>?_);rcases hro.new x hx with h | ⟨s,hs,rfl⟩
      ·exact ok.lt x h
      ·exact Z5Y R hqn (by omega) (by omega)
     by_cases hkl:(k:Int) < d.signs
     ·obtain⟨hj,hs1,hs2⟩:=hsa k hkl
      have hkn':k < d.signs.toNat:=by omega
      have hkr:k < row.length:=by omega
      have hs3:row[k]=(Z2o d q k:Int):=hs1;generalize ht:Z2o d q k=t at *;have htc:t < c.length:=by omega
      have hct:c[t]=Z5I c t:=by rw[Z5I,List.getD_eq_getElem?_getD,List.getElem?_eq_getElem htc];rfl
      have hkw:k < rw.length:=by omega
      have hkm:(k:Int) < max d.signs 0:=by omega
      have hrw:d.signs≤rw.length:=by omega
      have hlook:=fun(km nid:Nat) (S:St) (hg:S.g km=some (.map (Z49 Z06 0 ks1)))=>ZsE (x:=Z5I c t) (nid:=nid) Zwc trivial (fun _ _=>trivial) hg
      simp only[Z06] at hlook;have hok:Z1K 8 os1.length 1:=by unfold Z1K;omega
      by_cases hin:Z5I c t∈ks1
      ·have hln:ZbW c Z73 t=(Z73,ks1.idxOf (Z5I c t)):=by rw[ZbW,←h2,if_pos hin]
       rw[hln] at hlr;simp[lrA,Zm9,lrG,Zma,hkl,hkr,hs3,htc,hct,hlook,hin,hkw,hkm,hrw];rw[Z0m _ (by omega)];refine⟨hkn',((os1,ks1,rw.set k (ks1.idxOf (Z5I c t))),o1),⟨by rw[hlr];exact h1,by rw[hlr];exact h2,by simpa using h3,?_⟩,Abs.of [(0,0),(1,1),(2,2),(3,3),(4,4),(5,5),(6,6),(7,7)] [] (by omega) ⟨by simp,by simp⟩ ?_ ?_⟩
       ·simp only;rw[hlr,Zi5 _ _ _ hkw,h4]
       ·simp[lrG,Zma,Z7i,Z0e]
        exact⟨ZgI _ _ _,Z7Y (Z9h Z04 _ _)⟩
       ·simp[lrA,Zm9]
      ·have hln:ZbW c Z73 t=(Z73++[t],Z73.length):=by rw[ZbW,←h2,if_neg hin]
       rw[hln] at hlr;have hmset:=fun(km nid:Nat) (S:St) (hg:S.g km=some (.map (Z49 Z06 0 ks1)))=>Zq9 (x:=Z5I c t) (nid:=nid) Zwc trivial (fun _ _=>trivial) hin hg
       simp only[Z06,hkl1,←hol1] at hmset;simp[lrA,Zm9,lrG,Zma,hkl,hkr,hs3,htc,hct,hlook,hin,hkw,hmset,hok,hkm,hrw];rw[Z0m _ (by omega)];refine⟨hkn',((os1++[(t:Int)],ks1++[Z5I c t],rw.set k os1.length),true),⟨by rw[hlr];simp only;rw[Zhy,h1],by rw[hlr];simp only;rw[List.map_append,h2];rfl,by simpa using h3,?_⟩,Abs.of [(0,0),(1,1),(2,2),(3,3),(4,42),(5,5),(6,6),(7,7)] [] (by omega) ⟨by simp,by simp⟩ ?_ ?_⟩
       ·simp only;rw[hlr,Zi5 _ _ _ hkw,h4,hol1]
       ·simp[lrG,Zma,Z7i,Z0e]
        exact⟨ZgI _ _ _,Z7Y (Z9h Z04 _ _)⟩
       ·simp[lrA,Zm9]
     ·have hke:k=d.signs.toNat:=by omega
      have hrr:rw=r:=by rw[←h4,hke,←h3,List.take_length]
      have hokx:Z1K 24 nx.length 1:=by have:=ok.nx;simp only at this;unfold Z1K;omega
      have hoke:Z1K 1 en.length 1:=by have:=ok.en;simp only at this;unfold Z1K;omega
      have hpre:=hro.pre i q hq;have hoi1:i < os1.length:=by rw[hol1];exact(List.getElem?_eq_some_iff.mp hpre).1
      have hoq1:os1[i]? = some (q:Int):=by rw[h1];exact ZcS hpre
      obtain⟨_,hoq3⟩:=List.getElem?_eq_some_iff.mp hoq1;simp[lrA,Zm9,lrG,Zma,hkl,hoi1,hoq1,hoq3,hqn,hfl,hfb,hokx,hoke,hrow,ZjG];rw[Z0m _ (by omega)];refine⟨by rintro j (⟨_,rfl⟩ | rfl)<;>simp,by rintro j (⟨_,rfl⟩ | rfl)<;>simp,by rintro j (⟨_,rfl⟩ | rfl)<;>simp,by omega,((os1,ks1,nx++[rw],en++[Z6n d q]),(o1,true,true)),⟨?_,fun m hm=>?_⟩,Abs.of [(0,0),(1,1),(2,2),(3,3),(4,4),(5,15),(6,27)] [7] (by omega) ⟨by simp,by simp⟩ ?_ ?_⟩
      ·simp only;rw[hnx,←hke,hp,h1,h2,hrr]
      ·by_cases hmi:m=i
       ·subst hmi;rw[hst];exact hlt
       ·exact hmin m (by omega)
      ·simp[loG,Zma,Z7i,Z0e,h3]
       exact Z7Y (Z9h Z04 _ _)
      ·simp[loA,Zm9]
   ·have hie:i=one.length:=by omega
    have hlast:Z4E d=(one,nx,en):=by
     obtain⟨k,e1,e2,e3,e4⟩:=hspec
     have hki:k=i:=by
      rcases Nat.lt_trichotomy k i with h | h | h
      ·have:=hmin k h
       rw[←e1] at this;omega
      ·exact h
      ·have:=e3 i h
       rw[hst] at this;simp only at this;omega
     rw[e1,hki,hst]
    rw[hlD,hlast];have hoI:¬(i:Int) < os.length:=by omega
    simp[loA,Zm9,loG,Zma,hoI,ZjH,Z2L,evC,RV.ev,ldC,Z1b,Z7i];refine .P5g (.cons (.P5i (.cons (.closed _ (.v _)) (.cons (Zam ?_ (Z3E _)) (.cons (Zam ?_ (Z5W _)) .nil)))) (.cons (.closed _ (.v _)) .nil))
    ·simp
    ·simp
end Go.Rf
namespace Go.Rf
open Go.RowKit
attribute [local simp] Z4t Z4q Z3h Z2s Z3f Z3j Z3g Z4r Z4s Z3i Z3n Z1A Z1y Z2q Z1H Z41 Z3v ZcH Z7E Z7D Z5R ZcG Z7C Z5P Z4v Z3k Z4u Z7x Z7w Z5J Z4x Z3l Z4w Z7z Z7y Z5K Z1z Z2v Z3o Z3p Z1D Z1o Z0c Z0B Z0q Z08 Z0o Z0h Z09 Z0p Z0i Z0Y Z0j Z0z Z0K Z0k Z0J Z1W Z3U Z0X Z25 Z22 Z24 Z23 Z26 Z1j Z0D Z11 Z12 Z1T Z1U Z1V Z0H Z0I Z1i Z0r Z0W Z20 Z1X Z1Z Z1Y Z21 Z1k Z13 Z1g Z0U Z0V Z0C Z1h Z0P Z1a Z1f Z14 Z1l ex Z00 Z0R Z6K Z6P Z0f Z0g Z0A Z2k Z1d Z10 Z0y Z0F Z0G Z0E Z0s Z0Z Z5y Z0O Z37 Z1c Z1O Z1R Z3s Z0b Z1E Z28 Z19 Z0Q Z2w Z27 Z3u Z2x Z1P Z6A Z3C Z6z Z3w Z2Y Z3t Z6w Z3D Z51 Z4A Z3z Z2B Z2C Z29 Z2z Z2A Z3y Z1M Z2y Z3x Z3A S0 Z06 Z1n Z39 Z34 Z56 Z38 Z33 Z55 Z44 Z36 Z43 Z6j Z5a Z6i Z59 Z45 Z58 Z2U Z72.cl Z5z.cl Z04 Z0L Z02 Z0T Z1w Z2j Z1N Z2n Z1p Z3r Z4N Z3V Z4M Z5L Z5W Z3E Z4O Z5w Z5m Z5S Z4U Z4X Z4W Z42 Z2c Z2H Z62 Z3m Z3W Z4y Z2J Z2I Z17 Z68 Z2G Z4k Z1S Z4B
def ZgX:AC :=
 (.block 2 (.loop (.seq (.seq (.reg none [
    rm 19 7,
    rm 20 6,
    ro 21 (.bin .lss (.t 19) (.t 20)),
    rm 22 21,
    rg 23 22 true (.mv (.t 3)),
    rg 24 22 true (.mv (.t 6)),
    rg 25 22 true (.idxA 1 (.t 23) (.t 24)),
    rg 26 22 true (.load none (.t 25)),
    rg 27 22 true (.mv (.t 7)),
    rg 28 22 true (.idxA 1 (.t 26) (.t 27)),
    rg 29 22 true (.load none (.t 28)),
    ro 30 (.pick (.t 22) (.t 29) (.c (.v (.bool false))))])
   (.cond (.t 30) .skip (.exit 2)))
   (.block 3 (.reg none [
    rm 31 7,
    ro 32 (.bin .add (.t 31) (ci 1)),
    rm 7 32])))))
def ZfF:AC :=
 (.seq (.reg none [
   rm 33 7,
   rm 34 6,
   ro 35 (.bin .lss (.t 33) (.t 34))])
  (.cond (.t 35) (.reg none [
   rm 36 4,
   rm 37 4,
   rm 38 7,
   ro 39 (.idxA 1 (.t 37) (.t 38)),
   ro 40 (.load none (.t 39)),
   ro 41 (.bslice 1 1 (.v (.int .i64 0)) [(0,(.t 40))]),
   ro 42 (.app 1 8 (.t 36) (.t 41)),
   rm 4 42]) (.seq (.reg none [
   rm 43 4,
   rm 44 5,
   ro 45 (.bslice 1 1 (.v (.int .i64 0)) [(0,(.t 44))]),
   ro 46 (.app 1 8 (.t 43) (.t 45)),
   rm 4 46])
   (.reg none [
   rm 47 5,
   ro 48 (.bin .add (.t 47) (ci 1)),
   rm 5 48]))))
def Z50(P0h P3j:FuncId):AC :=
 (.seq (.reg none [
 ro 1 (.box 3 (.t 0)),
 ro 2 (.mv (.c (.sl true [])))])
 (.seq (.seq (.reg none [
 ro 8 (.load (some 3) (.t 1)),
 rk 9 P0h [(.t 8)],
 ro 10 (.un .not (.t 9))])
 (.cond (.t 10) (.seq (.reg none [
  ro 2 (.mv (.c (.sl true [])))])
 .ret) .skip))
 (.seq (.reg none [
 ro 11 (.load (some 3) (.t 1)),
 rk 12 P3j [(.t 11)],
 rm 3 12])
 (.seq (.reg none [
 ro 4 (.mv (.c (.sl true [])))])
 (.seq (.reg none [
 ro 5 (.mv (ci 0))])
 (.seq (.seq (.reg none [
 ro 6 (.mv (ci 0))])
 (.block 0 (.loop (.seq (.seq (.reg none [
  rm 13 6,
  rm 14 3,
  ro 15 (.len (.t 14)),
  ro 16 (.bin .lss (.t 13) (.t 15))])
  (.cond (.t 16) .skip (.exit 0)))
  (.seq (.block 1 (.seq (.reg none [
   ro 7 (.mv (ci 0))])
  (.seq ZgX
  ZfF)))
  (.reg none [
  rm 17 6,
  ro 18 (.bin .add (.t 17) (ci 1)),
  rm 6 18]))))))
 (.seq (.reg none [
 rm 49 4,
 rm 2 49])
 .ret)))))))
def ZjN:AC :=
 (.reg (some [[],[],[],[],[],[true],[false,true],[false,false,true],[false,false,false,true],[false,false,false,false,true],[false,false,false,false,false,true],[false,false,false,false,false,false,true],[false,false,false,false,false,false,false,true],[false,false,false,false,false,false,false,false,true],[false,false,false,false,false,false,false,false,false,true],[false,false,false,false,false,false,false,false,false,false,true],[],[true]]) [
   ro 77 (.fieldA 1 (.t 6)),
   ro 78 (.load none (.t 77)),
   rm 79 8,
   ro 80 (.bslice 1 1 (.sl true []) [(0,(.t 79))]),
   ro 81 (.app 1 24 (.t 78) (.t 80)),
   ro 82 (.fieldA 2 (.t 6)),
   ro 83 (.load none (.t 82)),
   ro 84 (.fieldA 2 (.t 1)),
   ro 85 (.load none (.t 84)),
   rm 86 5,
   rm 87 7,
   ro 88 (.idxA 1 (.t 86) (.t 87)),
   ro 89 (.load none (.t 88)),
   ro 90 (.idxA 1 (.t 85) (.t 89)),
   ro 91 (.load none (.t 90)),
   ro 92 (.bslice 1 1 (.v (.bool false)) [(0,(.t 91))]),
   ro 93 (.app 1 1 (.t 83) (.t 92)),
   ro 94 (.fieldA 1 (.t 6)),
   rn (.store 1 (.t 94) (.t 81)),
   ro 95 (.fieldA 2 (.t 6)),
   rn (.store 1 (.t 95) (.t 93))])
def ZgY:AC :=
 (.block 4 (.loop (.seq (.seq (.reg (some []) [
     rm 45 11,
     rm 46 5,
     ro 47 (.len (.t 46)),
     ro 48 (.bin .lss (.t 45) (.t 47)),
     rm 49 48,
     rg 50 49 true (.mv (.t 4)),
     rg 51 49 true (.mv (.t 5)),
     rg 52 49 true (.mv (.t 11)),
     rg 53 49 true (.idxA 1 (.t 51) (.t 52)),
     rg 54 49 true (.load none (.t 53)),
     rg 55 49 true (.idxA 1 (.t 50) (.t 54)),
     rg 56 49 true (.load none (.t 55)),
     rg 57 49 true (.mv (.t 4)),
     rg 58 49 true (.mv (.t 10)),
     rg 59 49 true (.idxA 1 (.t 57) (.t 58)),
     rg 60 49 true (.load none (.t 59)),
     rg 61 49 true (.bin .neq (.t 56) (.t 60)),
     ro 62 (.pick (.t 49) (.t 61) (.c (.v (.bool false))))])
     (.cond (.t 62) .skip (.exit 4)))
     (.block 5 (.reg none [
      rm 63 11,
      ro 64 (.bin .add (.t 63) (ci 1)),
      rm 11 64])))))
def ZjQ:AC :=
 (.block 2 (.loop (.seq (.seq (.reg none [
    rm 28 9,
    ro 29 (.fieldA 0 (.t 1)),
    ro 30 (.load none (.t 29)),
    ro 31 (.bin .lss (.t 28) (.t 30))])
   (.cond (.t 31) .skip (.exit 2)))
   (.seq (.block 3 (.seq (.reg (some []) [
    ro 34 (.fieldA 1 (.t 1)),
    ro 35 (.load none (.t 34)),
    rm 36 5,
    rm 37 7,
    ro 38 (.idxA 1 (.t 36) (.t 37)),
    ro 39 (.load none (.t 38)),
    ro 40 (.idxA 1 (.t 35) (.t 39)),
    ro 41 (.load none (.t 40)),
    rm 42 9,
    ro 43 (.idxA 1 (.t 41) (.t 42)),
    ro 44 (.load none (.t 43)),
    rm 10 44])
    (.seq (.reg none [
    ro 11 (.mv (ci 0))])
    (.seq ZgY
    (.seq (.seq (.reg none [
    rm 65 11,
    rm 66 5,
    ro 67 (.len (.t 66)),
    ro 68 (.bin .eql (.t 65) (.t 67))])
    (.cond (.t 68) (.reg none [
     rm 69 5,
     rm 70 10,
     ro 71 (.bslice 1 1 (.v (.int .i64 0)) [(0,(.t 70))]),
     ro 72 (.app 1 8 (.t 69) (.t 71)),
     rm 5 72]) .skip))
    (.reg none [
    rm 73 8,
    rm 74 11,
    ro 75 (.bslice 1 1 (.v (.int .i64 0)) [(0,(.t 74))]),
    ro 76 (.app 1 8 (.t 73) (.t 75)),
    rm 8 76]))))))
   (.reg none [
    rm 32 9,
    ro 33 (.bin .add (.t 32) (ci 1)),
    rm 9 33])))))
def ZjP:AC :=
 (.block 0 (.loop (.seq (.seq (.reg none [
  rm 22 7,
  rm 23 5,
  ro 24 (.len (.t 23)),
  ro 25 (.bin .lss (.t 22) (.t 24))])
  (.cond (.t 25) .skip (.exit 0)))
  (.seq (.block 1 (.seq (.reg none [
   ro 8 (.mv (.c (.sl true [])))])
  (.seq (.seq (.reg none [
   ro 9 (.mv (ci 0))])
  ZjQ)
  ZjN)))
  (.reg none [
  rm 26 7,
  ro 27 (.bin .add (.t 26) (ci 1)),
  rm 7 27])))))
def ZjO:AC :=
 (.seq (.reg none [
 ro 96 (.load (some 3) (.t 6)),
 rn (.store 3 (.t 2) (.t 96)),
 ro 3 (.mv (ci 0))])
 .ret)
def Z6b(P0h P31:FuncId):AC :=
 (.seq (.reg none [
 ro 1 (.box 3 (.t 0)),
 ro 2 (.alloc (.agg [(.v (.int .i64 0)),(.sl true []),(.sl true [])]) 3),
 ro 3 (.mv (ci 0))])
 (.seq (.seq (.reg none [
 ro 12 (.load (some 3) (.t 1)),
 rk 13 P0h [(.t 12)],
 ro 14 (.un .not (.t 13))])
 (.cond (.t 14) (.seq (.reg none [
  ro 15 (.build (.agg [(.v (.int .i64 0)),(.sl true []),(.sl true [])]) [] []),
  rn (.store 3 (.t 2) (.t 15)),
  ro 3 (.mv (ci 1))])
 .ret) .skip))
 (.seq (.reg none [
 ro 16 (.load (some 3) (.t 1)),
 rk 17 P31 [(.t 16)],
 rm 4 17])
 (.seq (.reg none [
 ro 18 (.bslice 1 1 (.v (.int .i64 0)) [(0,(ci 0))]),
 rm 5 18])
 (.seq (.reg none [
 ro 19 (.fieldA 0 (.t 1)),
 ro 20 (.load none (.t 19)),
 ro 21 (.build (.agg [(.v (.int .i64 0)),(.sl true []),(.sl true [])]) [(0,1)] [(0,(.t 20))]),
 ro 6 (.alloc (.agg [(.v (.int .i64 0)),(.sl true []),(.sl true [])]) 3),
 rn (.store 3 (.t 6) (.t 21))])
 (.seq (.seq (.reg none [
 ro 7 (.mv (ci 0))])
 ZjP)
 ZjO))))))
def Zbc(l:List (List Bool)):AV:=.sl false (l.map Z2E)
theorem Z7R(l:List (List Bool)):Z0S (Zbc l):=.sl _ _ (Zax Z1w l)
theorem Z9r(l:List (List Bool)):Z3S (Zbc l)=some (.v (.int .i64 l.length)):=by simp[Zbc,Z3S]
theorem ZfX{S:St}{nid:Nat}{l:List (List Bool)}{k:IntKind}{n:Int}(hn:0≤n)(hlt:n < l.length):(Z1F 1 (Zbc l) (.v (.int k n))).run S nid=some (.eptr (Z2E (l.getD n.toNat [])) 0,S):=by
 have hl:n.toNat < l.length:=by omega
 simp[Zbc,Z1F,hn,List.getElem?_eq_getElem hl,List.getD_eq_getElem?_getD,AV.cells,Z2E]
def ZgO(c:List Int)(n i:Nat):List Bool:=(List.range n).map fun k=>decide (Z5I c i≠Z5I c k)
def apM(c:List Int)(n:Nat):List (List Bool):=(List.range n).map fun i=>ZgO c n i
theorem ZmB(c:List Int)(n:Nat):(apM c n).length=n:=by simp[apM]
theorem ZgP(c:List Int)(n i:Nat):(ZgO c n i).length=n:=by simp[ZgO]
theorem ZrU(c:List Int){n i:Nat}(h:i < n):(apM c n).getD i []=ZgO c n i:=by simp[apM,List.getD_eq_getElem?_getD,h]
theorem ZmC(c:List Int){n i k:Nat}(h:k < n):(ZgO c n i).getD k false=decide (Z5I c i≠Z5I c k):=by simp[ZgO,List.getD_eq_getElem?_getD,h]
abbrev RcS:=List Int×Bool
def ZuZ(c:List Int)(i:Nat)(s:RcS):Prop:=s.1=(Z2l (c.take i)).2
def Zmb(c:List Int)(i:Nat)(s:RcS):List (Nat×AV):=[(1,.ptr 0 0 0),(3,Zbc (apM c c.length)),(4,vV s.2 1 (s.1.map Z06)),(5,Z06 (Z2l (c.take i)).1.length),(6,Z06 i)]
def Zmc(d:Det)(_:Nat)(s:RcS):List (Nat×Option Blk):=[(0,some (.arr 3 [Z0v d])),(1,vB s.2 1 (s.1.map Z06))]
def rfI(c:List Int)(i:Nat)(k:Nat)(_:Unit):Prop:=∀j,j < k→Z5I c i≠Z5I c j
def rfA(c:List Int)(i:Nat)(s:RcS)(k:Nat)(_:Unit):List (Nat×AV):=(7,Z06 k)::Zmb c i s
def rfG(d:Det)(s:RcS)(_:Nat)(_:Unit):List (Nat×Option Blk):=Zmc d 0 s
theorem Zbt{P:Program}{fr fa:FuncId}{d:Det}(hr:Z0t P fr [Z0v d] (Z1n (Z2r d)))(ha:Z1Q d→Z0t P fa [Z0v d] (Zbc (apM (Z3q d) d.next.length))) :
  AWb P 0 (Z50 fr fa) (Z75 [2] (FzK (Z03 (if Z2r d=true then Z3q d else [])))) (Z53 [Z0v d]) S0:=by
 simp[Z50];refine Z0x.pure hr (Z01 (Z0e d) Z0a) (Z0L _) ?_;cases hb:Z2r d with
 | false =>
  simp;exact ZeZ
 | true =>
  have R:=(Z5v d).mp hb;have C:=Z6y R;have hn2:=R.n2;have hcl:=C.len;have hnum:=C.num;simp;refine Z0x.pure (ha R) (Z01 (Z0e d) Z0a) (Z7R _) ?_;generalize Z3q d=c at *;rw[←hcl];simp;refine Z2D c.length (ZuZ c) (Zmb c) 10 (Zmc d) ([],false) (by simp[ZuZ,Z2l]) ?_ ?_
  ·refine Abs.of [(0,0)] [] (by omega) ⟨by simp,by simp⟩ ?_ ?_
   ·simp[Zmc,Z0e]
   ·simp[Zmb,Z2l]
    exact .cl (Z7R _)
  ·rintro i ⟨out,o⟩ hi hx
   simp only[ZuZ] at hx;have ok:=Z6X (c.take i);have hol:=ok.len;rw[←hx] at hol;simp only[List.length_take] at hol;have hol2:out.length=i:=by omega
   have hkle:=Zoc (c.take i);simp only[List.length_take] at hkle;have hml:=ZmB c c.length;by_cases hlt:i < c.length
   ·have hok:Z1K 8 out.length 1:=by unfold Z1K;omega
    have hiI:(i:Int) < c.length:=by omega
    have hci:Z5I c i=c[i]:=by rw[Z5I,List.getD_eq_getElem?_getD,List.getElem?_eq_getElem hlt];rfl
    have hst:Z2l (c.take (i+1))=Z5H (Z2l (c.take i)) c[i]:=by rw[List.take_succ_eq_append_getElem hlt,Z6G]
    have him:i < (apM c c.length).length:=by omega
    have hgi:=ZrU c hlt;rw[List.getD_eq_getElem?_getD,List.getElem?_eq_getElem him,Option.getD_some] at hgi;have hrl:=ZgP c c.length i;simp[Zmb,Zmc,Z9r,ZfX,hml,hiI,ZgX];refine Z2D i (rfI c i) (rfA c i (out,o)) 10 (rfG d (out,o)) () (by simp[rfI]) ?_ ?_
    ·refine Abs.of [(0,0),(1,1)] [] (by omega) ⟨by simp,by simp⟩ ?_ ?_
     ·simp[rfG,Zmc,Z0e]
     ·simp[rfA,Zmb]
      exact .cl (Z7R _)
    ·rintro k _ hk hq
     by_cases hki:k < i
     ·have hkI:(k:Int) < i:=by omega
      have hkr:k < (ZgO c c.length i).length:=by omega
      have hkc:k < c.length:=by omega
      have hgk:=ZmC c (n:=c.length) (i:=i) (k:=k) (by omega);rw[List.getD_eq_getElem?_getD,List.getElem?_eq_getElem hkr,Option.getD_some] at hgk;have hko:k < out.length:=by omega
      by_cases he:Z5I c i=Z5I c k
      ·have hck:Z5I c k=c[k]:=by rw[Z5I,List.getD_eq_getElem?_getD,List.getElem?_eq_getElem (by omega)];rfl
       have hkt:k < (c.take i).length:=by simp;omega
       have hat:=ok.at_ k hkt
       rw[←hx,List.getElem_take] at hat;rw[List.getElem?_eq_getElem hko,Option.some.injEq] at hat
       have hin:c[i]∈(Z2l (c.take i)).1:=by
        rw[ok.mem,←hci,he,hck];exact List.mem_iff_getElem.mpr ⟨k,hkt,by simp⟩
       have hns:Z5H (Z2l (c.take i)) c[i]=((Z2l (c.take i)).1,(Z2l (c.take i)).2++[out[k]]):=by
        rw[Z5H,if_pos (by simpa using hin),hat];congr 5;rw[←hck,←he,hci]
       have hdk:decide (Z5I c i≠Z5I c k)=false:=by simp[he]
       rw[hdk] at hgk;rw[hns] at hst;simp[rfA,Zmb,rfG,Zmc,Z9r,ZfX,hml,hkI,hgi,hkr,hgk,hlt,hrl,hkc,hko,ZfF,hok];rw[Z0m _ (by omega)];refine⟨hlt,(out++[out[k]],true),by rw[ZuZ,hst,←hx],Abs.of [(0,0),(1,31)] [] (by omega) ⟨by simp,by simp⟩ ?_ ?_⟩
       ·simp[Zmc,Z0e]
       ·simp[Zmb,hst]
        exact .cl (Z7R _)
      ·have hdk:decide (Z5I c i≠Z5I c k)=true:=by simp[he]
       rw[hdk] at hgk;simp[rfA,Zmb,rfG,Zmc,Z9r,ZfX,hml,hkI,hgi,hkr,hgk,hlt,hrl,hkc];rw[Z0m _ (by omega)];refine⟨hki,(),fun j hj=>?_,Abs.of [(0,0),(1,1)] [] (by omega) ⟨by simp,by simp⟩ ?_ ?_⟩
       ·by_cases hjk:j=k
        ·subst hjk;exact he
        ·exact hq j (by omega)
       ·simp[rfG,Zmc,Z0e]
       ·simp[rfA,Zmb]
        exact .cl (Z7R _)
     ·have hke:k=i:=by omega
      subst hke
      have hnin:c[k]∉(Z2l (c.take k)).1:=by
       rw[ok.mem,←hci];intro hm;obtain⟨j,hj,hj2⟩:=List.mem_iff_getElem.mp hm;simp only[List.length_take] at hj;rw[List.getElem_take] at hj2;refine hq j (by omega) ?_;rw[←hj2,Z5I,List.getD_eq_getElem?_getD,List.getElem?_eq_getElem (by omega)];rfl
      have hns:Z5H (Z2l (c.take k)) c[k]=((Z2l (c.take k)).1++[c[k]],(Z2l (c.take k)).2++[((Z2l (c.take k)).1.length:Int)]):=by
       rw[Z5H,if_neg (by simpa using hnin)]
      rw[hns] at hst;simp[rfA,Zmb,rfG,Zmc,Z9r,ZfX,hml,ZfF,hok];rw[Z0m (k+1:Int) (by omega),Z0m _ (by omega)];refine⟨hlt,(out++[((Z2l (c.take k)).1.length:Int)],true),by rw[ZuZ,hst,←hx],Abs.of [(0,0),(1,28)] [] (by omega) ⟨by simp,by simp⟩ ?_ ?_⟩
      ·simp[Zmc,Z0e]
      ·simp[Zmb,hst]
       exact .cl (Z7R _)
   ·have hie:i=c.length:=by omega
    have hout:out=c:=by rw[hx,hie,List.take_length];exact hnum
    have hiI:¬(i:Int) < c.length:=by omega
    simp[Zmb,Zmc,Z9r,hml,hiI];rw[←hout];refine Zam ?_ (Z5L _);simp
theorem ZnQ{l:List Int}{x:Int}{j:Nat}(hj:j < l.length)(he:l[j]=x)(hn:∀m (h:m < j),l[m]'(by omega)≠x):l.idxOf x=j:=by
 refine ZfW hj he fun hm=>?_
 obtain⟨m,hm1,hm2⟩:=List.mem_iff_getElem.mp hm;simp only[List.length_take] at hm1;rw[List.getElem_take] at hm2;exact hn m (by omega) hm2
def Zij(c:List Int)(i:Nat)(os:List Int)(o:Bool):List (Nat×AV):=[(1,.ptr 0 0 0),(2,.ptr 1 0 0),(4,Z03 c),(5,vV o 4 (os.map Z06)),(6,.ptr 2 0 0),(7,Z06 i)]
def Zik(d:Det)(os:List Int)(nx:List (List Int))(en:List Bool)(o oN oE:Bool):List (Nat×Option Blk) :=
 [(0,some (.arr 3 [Z0v d])),(1,some (.arr 3 [Z7i])),(2,some (.arr 3 [.agg [Z06 d.signs,vV oN 5 (nx.map Z03),vV oE 6 (en.map Z1n)]])),(4,vB o 1 (os.map Z06)),(5,vB oN 1 (nx.map Z03)),(6,vB oE 1 (en.map Z1n))]
abbrev RoS:=(List Int×List (List Int)×List Bool)×(Bool×Bool×Bool)
def roI(d:Det)(c:List Int)(i:Nat)(s:RoS):Prop:=s.1=(Zo6 (lsF d c i).1,(lsF d c i).2)∧∀m,m < i→m < (lsF d c m).1.length
def roA(c:List Int)(i:Nat)(s:RoS):List (Nat×AV):=Zij c i s.1.1 s.2.1
def roG(d:Det)(_:Nat)(s:RoS):List (Nat×Option Blk):=Zik d s.1.1 s.1.2.1 s.1.2.2 s.2.1 s.2.2.1 s.2.2.2
abbrev RrS:=(List Int×List Int)×(Bool×Bool)
def rrI(d:Det)(c:List Int)(q:Nat)(one:List Nat)(k:Nat)(s:RrS):Prop :=
 s.1.1=Zo6 (Z9e c (fun s=>Z2o d q s) k one).1∧s.1.2=(Z9e c (fun s=>Z2o d q s) k one).2
def rrA(c:List Int)(i:Nat)(k:Nat)(s:RrS):List (Nat×AV):=(8,vV s.2.2 7 (s.1.2.map Z06))::(9,Z06 k)::Zij c i s.1.1 s.2.1
def rrG(d:Det)(nx:List (List Int))(en:List Bool)(oN oE:Bool)(_:Nat)(s:RrS):List (Nat×Option Blk):=(7,vB s.2.2 1 (s.1.2.map Z06))::Zik d s.1.1 nx en s.2.1 oN oE
def rnI(c:List Int)(one:List Nat)(t:Nat)(j:Nat)(_:Unit):Prop:=∀m (h:m < one.length),m < j→Z5I c one[m]≠Z5I c t
def rnA(c:List Int)(i k:Nat)(t:Int)(s:RrS)(j:Nat)(_:Unit):List (Nat×AV):=(10,Z06 t)::(11,Z06 j)::rrA c i k s
def rnG(d:Det)(nx:List (List Int))(en:List Bool)(oN oE:Bool)(s:RrS)(_:Nat)(_:Unit):List (Nat×Option Blk):=rrG d nx en oN oE 0 s
theorem Zgg{P:Program}{fr fc:FuncId}{d:Det}(hr:Z0t P fr [Z0v d] (Z1n (Z2r d)))(hc:Z1Q d→Z0t P fc [Z0v d] (Z03 (Z3q d))) :
  AWb P 0 (Z6b fr fc) (Z2L [.c 2 (some 3),.t 3] (FzK (Z3N (ZdP d)))) (Z53 [Z0v d]) S0:=by
 have ed:(Z0v d).cells=[Z06 d.signs,Z0l d.next,Z2E d.fin]:=rfl;simp[Z6b];refine Z0x.pure hr (Z01 (Z0e d) Z0a) (Z0L _) ?_;cases hb:Z2r d with
 | false =>
  have hz:ZdP d=(⟨0,[],[]⟩,1):=by simp[ZdP,hb]
  rw[hz];simp[Z2L,evC,RV.ev,ldC,Z1b,Z0w,Z1t];exact Z2F _ 1
 | true =>
  have R:=(Z5v d).mp hb;have hz:ZdP d=(Z5j d,0):=by simp[ZdP,hb]
  rw[hz];have C:=Z6y R;have hn1:=R.n1;have hn2:=R.n2;have hs1:=R.s1;have hs2:=R.s2;have hcl:=C.len;simp;refine Z0x.pure (hc R) (Z01 (Z0e d) Z0a) (Z02 _) ?_;have hspec:=Z6B R;have hlD:Z5j d=⟨d.signs,(Z4E d).2.1,(Z4E d).2.2⟩:=rfl;generalize hcc:Z3q d=c at *;simp[Z0w,Z1t,ZjO,ZjP];refine Z2D (d.next.length+1) (roI d c) (roA c) 10 (roG d) (([0],[],[]),(false,false,false)) ⟨rfl,fun m hm=>by omega⟩ ?_ ?_
  ·refine Abs.of [(0,0),(1,1),(2,14)] [] (by omega) ⟨by simp,by simp⟩ ?_ ?_
   ·simp[roG,Zik,Z7i,Z0e]
   ·simp[roA,Zij]
    exact .cl (.sl _ _ (Z01 (Z04 _) Z0a))
  ·rintro i ⟨⟨os,nx,en⟩,oo,oN,oE⟩ hi ⟨heq,hmin⟩
   simp only[Prod.mk.injEq] at heq;obtain⟨ho,hne⟩:=heq;have ok:=Zf5 R c i hmin;have hle:=ok.le;have hlen:=ok.len;have hnd:=ok.nd;generalize hst:lsF d c i=st at *;obtain⟨one,nx',en'⟩:=st;simp only[Prod.mk.injEq] at ho hne hle hlen hnd;obtain⟨rfl,rfl⟩:=hne;have hol:os.length=one.length:=by rw[ho,ZcT]
   by_cases hlt:i < one.length
   ·obtain⟨q,hq⟩:∃q,one[i]? = some q:=⟨_,List.getElem?_eq_getElem hlt⟩
    have hqn:q < d.next.length:=ok.lt q (by obtain⟨h1,h2⟩:=List.getElem?_eq_some_iff.mp hq;rw[←h2];exact List.getElem_mem h1)
    have hsa:=fun(k:Nat) (h:(k:Int) < d.signs)=>Zeh R hqn (s:=(k:Int)) (by omega) h
    have hfl:q < d.fin.length:=by have:=R.fin;omega
    have hfb:d.fin[q]=Z6n d q:=by rw[Z6n,List.getD_eq_getElem?_getD,List.getElem?_eq_getElem hfl];rfl
    have hrl:((d.next[q]).length:Int)=d.signs:=R.row q hqn;have hoI:(i:Int) < os.length:=by omega
    have hnx:lsF d c (i+1)=((Z9e c (fun s=>Z2o d q s) d.signs.toNat one).1,nx++[(Z9e c (fun s=>Z2o d q s) d.signs.toNat one).2],en++[Z6n d q]):=by
     simp only[lsF,hst,lnx,hq]
    generalize hrow:d.next[q]=row at *
    simp[roA,Zij,roG,Zik,hoI,ZjQ];refine Z2D d.signs.toNat (rrI d c q one) (rrA c i) 10 (rrG d nx en oN oE) ((os,[]),(oo,false)) ⟨ho,rfl⟩ ?_ ?_
    ·refine Abs.of [(0,0),(1,1),(2,2),(4,4),(5,5),(6,6)] [] (by omega) ⟨by simp,by simp⟩ ?_ ?_
     ·simp[rrG,Zik,Z7i,Z0e]
     ·simp[rrA,Zij]
    ·rintro k ⟨⟨os1,rw_⟩,o1,oR⟩ hkn ⟨h1,h2⟩
     simp only at h1 h2;have hro:=Zg2 (c:=c) (t:=fun s=>Z2o d q s) hnd k;have hlr:Z9e c (fun s=>Z2o d q s) (k+1) one=((ZbW c (Z9e c (fun s=>Z2o d q s) k one).1 (Z2o d q k)).1,(Z9e c (fun s=>Z2o d q s) k one).2++[((ZbW c (Z9e c (fun s=>Z2o d q s) k one).1 (Z2o d q k)).2:Int)]):=rfl;generalize hp:Z9e c (fun s=>Z2o d q s) k one=p at *;obtain⟨Z73,r⟩:=p;simp only at h1 h2 hlr hro;have hol1:os1.length=Z73.length:=by rw[h1,ZcT]
     have hle1:Z73.length≤d.next.length:=by
      refine Zbm _ _ ((List.pairwise_map.mp hro.nd).imp (fun h e=>h (congrArg _ e))) (fun x hx=>?_);rcases hro.new x hx with h | ⟨s,hs,rfl⟩
      ·exact ok.lt x h
      ·exact Z5Y R hqn (by omega) (by omega)
     have hlt1:∀x∈Z73,x < d.next.length:=fun x hx=>by
      rcases hro.new x hx with h | ⟨s,hs,rfl⟩
      ·exact ok.lt x h
      ·exact Z5Y R hqn (by omega) (by omega)
     have hrlen:=hro.len;have hpre:=hro.pre i q hq;have hoi1:i < os1.length:=by rw[hol1];exact(List.getElem?_eq_some_iff.mp hpre).1
     have hoq1:os1[i]? = some (q:Int):=by rw[h1];exact ZcS hpre
     obtain⟨_,hoq3⟩:=List.getElem?_eq_some_iff.mp hoq1;by_cases hkl:(k:Int) < d.signs
     ·obtain⟨hj,hs1,hs2⟩:=hsa k hkl
      have hkn':k < d.signs.toNat:=by omega
      have hkr:k < row.length:=by omega
      have hs3:row[k]=(Z2o d q k:Int):=hs1;generalize ht:Z2o d q k=t at *;have htc:t < c.length:=by omega
      have hct:c[t]=Z5I c t:=by rw[Z5I,List.getD_eq_getElem?_getD,List.getElem?_eq_getElem htc];rfl
      have hok:Z1K 8 os1.length 1:=by unfold Z1K;omega
      have hokr:Z1K 8 rw_.length 1:=by rw[h2];unfold Z1K;omega
      simp[rrA,Zij,rrG,Zik,hkl,hoi1,hoq1,hoq3,hqn,hrow,hkr,hs3,ZgY];refine Z2D Z73.length (rnI c Z73 t) (rnA c i k t ((os1,rw_),(o1,oR))) 10 (rnG d nx en oN oE ((os1,rw_),(o1,oR))) () (fun m h hm=>by omega) ?_ ?_
      ·refine Abs.of [(0,0),(1,1),(2,2),(4,4),(5,5),(6,6),(7,7)] [] (by omega) ⟨by simp,by simp⟩ ?_ ?_
       ·simp[rnG,rrG,Zik,Z7i,Z0e]
       ·simp[rnA,rrA,Zij]
      ·rintro j _ hj1 hnot
       by_cases hjl:j < Z73.length
       ·have hjI:(j:Int) < os1.length:=by omega
        have hjo:os1[j]? = some (Z73[j]:Int):=by rw[h1];exact ZcS (List.getElem?_eq_getElem hjl)
        obtain⟨hjo2,hjo3⟩:=List.getElem?_eq_some_iff.mp hjo;have hoc:Z73[j] < c.length:=by have:=hlt1 _ (List.getElem_mem hjl);omega
        have hcj:c[Z73[j]]=Z5I c Z73[j]:=by rw[Z5I,List.getD_eq_getElem?_getD,List.getElem?_eq_getElem hoc];rfl
        by_cases he:Z5I c Z73[j]=Z5I c t
        ·have hne2:(Z5I c Z73[j] != Z5I c t)=false:=by simp[he]
         have hji:(Z73.map (Z5I c)).idxOf (Z5I c t)=j:=ZnQ (by simpa using hjl) (by simpa using he) (fun m hm=>by simpa using hnot m (by omega) hm);have hin:Z5I c t∈Z73.map (Z5I c):=List.mem_map.mpr ⟨_,List.getElem_mem hjl,he⟩;have hln:ZbW c Z73 t=(Z73,j):=by rw[ZbW,if_pos hin,hji]
         rw[hln] at hlr;have hjne:((j:Int) == (os1.length:Int))=false:=by simp;omega
         simp[rnA,rrA,Zij,rnG,rrG,Zik,hjI,hjo,hjo2,hjo3,hoc,hcj,htc,hct,hne2,hjne,hokr];rw[Z0m _ (by omega)];refine⟨hkn',((os1,rw_++[(j:Int)]),(o1,true)),⟨by rw[hlr];exact h1,by rw[hlr];simp only;rw[h2]⟩,Abs.of [(0,0),(1,1),(2,2),(4,4),(5,5),(6,6),(7,35)] [] (by omega) ⟨by simp,by simp⟩ ?_ ?_⟩
         ·simp[rrG,Zik,Z7i,Z0e]
         ·simp[rrA,Zij]
        ·have hne2:(Z5I c Z73[j] != Z5I c t)=true:=by simp[he]
         simp[rnA,rrA,Zij,rnG,rrG,Zik,hjI,hjo,hjo2,hjo3,hoc,hcj,htc,hct,hne2];rw[Z0m _ (by omega)];refine⟨hjl,(),fun m h hm=>?_,Abs.of [(0,0),(1,1),(2,2),(4,4),(5,5),(6,6),(7,7)] [] (by omega) ⟨by simp,by simp⟩ ?_ ?_⟩
         ·by_cases hmj:m=j
          ·subst hmj;exact he
          ·exact hnot m h (by omega)
         ·simp[rnG,rrG,Zik,Z7i,Z0e]
         ·simp[rnA,rrA,Zij]
       ·have hje:j=Z73.length:=by omega
        have hnin:Z5I c t∉Z73.map (Z5I c):=by
         intro hm;obtain⟨x,hx,hx2⟩:=List.mem_map.mp hm;obtain⟨m,hm1,hm2⟩:=List.mem_iff_getElem.mp hx;exact hnot m hm1 (by omega) (by rw[hm2];exact hx2)
        have hln:ZbW c Z73 t=(Z73++[t],Z73.length):=by rw[ZbW,if_neg hnin]
        rw[hln] at hlr;have hjI:(j:Int)=os1.length:=by omega
        simp[rnA,rrA,Zij,rnG,rrG,Zik,hjI,hok,hokr];rw[Z0m _ (by omega)];refine⟨hkn',((os1++[(t:Int)],rw_++[(os1.length:Int)]),(true,true)),⟨by rw[hlr];simp only;rw[Zhy,h1],by rw[hlr];simp only;rw[h2,hol1]⟩,Abs.of [(0,0),(1,1),(2,2),(4,35),(5,5),(6,6),(7,40)] [] (by omega) ⟨by simp,by simp⟩ ?_ ?_⟩
        ·simp[rrG,Zik,Z7i,Z0e]
        ·simp[rrA,Zij]
     ·have hke:k=d.signs.toNat:=by omega
      have hokx:Z1K 24 nx.length 1:=by have:=ok.nx;simp only at this;unfold Z1K;omega
      have hoke:Z1K 1 en.length 1:=by have:=ok.en;simp only at this;unfold Z1K;omega
      simp[rrA,Zij,rrG,Zik,hkl,hoi1,hoq1,hoq3,hqn,hfl,hfb,hokx,hoke,hrow,ZjN];rw[Z0m _ (by omega)];refine⟨by rintro j (⟨_,rfl⟩ | rfl)<;>simp,by rintro j (⟨_,rfl⟩ | rfl)<;>simp,by rintro j (⟨_,rfl⟩ | rfl)<;>simp,by omega,((os1,nx++[rw_],en++[Z6n d q]),(o1,true,true)),⟨?_,fun m hm=>?_⟩,Abs.of [(0,0),(1,1),(2,2),(4,4),(5,18),(6,30)] [7] (by omega) ⟨by simp,by simp⟩ ?_ ?_⟩
      ·simp only;rw[hnx,←hke,hp,h1,h2]
      ·by_cases hmi:m=i
       ·subst hmi;rw[hst];exact hlt
       ·exact hmin m (by omega)
      ·simp[roG,Zik,Z7i,Z0e]
      ·simp[roA,Zij]
   ·have hie:i=one.length:=by omega
    have hlast:Z4E d=(one,nx,en):=by
     obtain⟨k,e1,e2,e3,e4⟩:=hspec
     have hki:k=i:=by
      rcases Nat.lt_trichotomy k i with h | h | h
      ·have:=hmin k h
       rw[←e1] at this;omega
      ·exact h
      ·have:=e3 i h
       rw[hst] at this;simp only at this;omega
     rw[e1,hki,hst]
    rw[hlD,hlast];have hoI:¬(i:Int) < os.length:=by omega
    simp[roA,Zij,roG,Zik,hoI,Z2L,evC,RV.ev,ldC,Z1b,Z7i];refine .P5g (.cons (.P5i (.cons (.closed _ (.v _)) (.cons (Zam ?_ (Z3E _)) (.cons (Zam ?_ (Z5W _)) .nil)))) (.cons (.closed _ (.v _)) .nil))
    ·simp
    ·simp
end Go.Rf
namespace Go.Rf
open Go.RowKit
inductive Pat where
 | mk (kind:Int) (set:List Rg) (signs:List Int) (kids:List Pat)
def Pat.kind:Pat→Int | .mk k _ _ _=>k
def Pat.set:Pat→List Rg | .mk _ s _ _=>s
def Pat.signs:Pat→List Int | .mk _ _ g _=>g
def Pat.kids:Pat→List Pat | .mk _ _ _ ks=>ks
mutual
def Z1s:Pat→AV
 | .mk k s g ks=>.agg [Z06 k,Zdz s,Z03 g,.sl false (Z9q ks)]
def Z9q:List Pat→List AV
 | []=>[]
 | p::ps=>Z1s p::Z9q ps
end
theorem ZeU:∀(ks:List Pat),Z9q ks=ks.map Z1s
 | []=>by simp[Z9q]
 | p::ps=>by simp[Z9q,ZeU ps]
theorem Z0d(k:Int)(s:List Rg)(g:List Int)(ks:List Pat):Z1s (.mk k s g ks)=.agg [Z06 k,Zdz s,Z03 g,.sl false (ks.map Z1s)]:=by rw[Z1s,ZeU]
theorem Z9p(p:Pat):(Z1s p).cells.length=4:=by cases p;rw[Z0d];rfl
mutual
theorem Z3M:∀(p:Pat),Z0S (Z1s p)
 | .mk k s g ks=>by
  rw[Z1s];refine .agg _ (fun y hy=>?_);simp only[List.mem_cons,List.not_mem_nil,or_false] at hy;rcases hy with rfl | rfl | rfl | rfl
  ·exact Z04 _
  ·exact Z4S _
  ·exact Z02 _
  ·exact .sl _ _ (Zdt ks)
theorem Zdt:∀(ks:List Pat),∀y∈Z9q ks,Z0S y
 | [],y,h=>by simp[Z9q] at h
 | p::ps,y,h=>by
  simp only[Z9q,List.mem_cons] at h;rcases h with rfl | h
  ·exact Z3M p
  ·exact Zdt ps y h
end
def Zl8(acc:List Int):List Int→List Int
 | []=>acc
 | x::xs=>Zl8 (if acc.contains x=true then acc else acc++[x]) xs
def ddp(l:List Int):List Int:=Zl8 [] l
theorem Z8f:∀{xs acc:List Int} {y:Int},y∈Zl8 acc xs↔y∈acc∨y∈xs
 | [],acc,y=>by simp[Zl8]
 | x::xs,acc,y=>by
  simp only[Zl8];rw[Z8f];by_cases h:acc.contains x=true
  ·rw[if_pos h]
   have h':x∈acc:=by simpa using h
   constructor
   ·rintro(h1 | h1)
    ·exact .inl h1
    ·exact .inr (by simp[h1])
   ·rintro(h1 | h1)
    ·exact .inl h1
    ·rcases List.mem_cons.mp h1 with rfl | h1
     ·exact .inl h'
     ·exact .inr h1
  ·rw[if_neg h]
   simp only[List.mem_append,List.mem_cons,List.not_mem_nil,or_false];constructor
   ·rintro((h1 | h1) | h1)
    ·exact .inl h1
    ·exact .inr (.inl h1)
    ·exact .inr (.inr h1)
   ·rintro(h1 | h1 | h1)
    ·exact .inl (.inl h1)
    ·exact .inl (.inr h1)
    ·exact .inr h1
theorem ZbL:∀{xs acc:List Int},acc.Nodup→(Zl8 acc xs).Nodup
 | [],acc,h=>h
 | x::xs,acc,h=>by
  simp only[Zl8];refine ZbL ?_;by_cases hc:acc.contains x=true
  ·rw[if_pos hc];exact h
  ·rw[if_neg hc]
   have h':x∉acc:=by simpa using hc
   rw[List.nodup_append];exact⟨h,by simp,fun a ha b hb=>by simp at hb;subst hb;intro e;subst e;exact h' ha⟩
theorem Z7Z{xs:List Int}{y:Int}:y∈ddp xs↔y∈xs:=by unfold ddp;rw[Z8f];simp
theorem Znj(xs:List Int):(ddp xs).Nodup:=ZbL (by simp)
theorem ZdV:∀(n:Nat) {l:List Int},l.Nodup→(∀x∈l,0≤x∧x < (n:Int))→l.length≤n
 | 0,l,_,h=>by
  cases l with
  | nil=>simp
  | cons x l=>have:=h x (by simp);omega
 | n+1,l,hd,h=>by
  have h1:(l.filter (fun x=>x != (n:Int))).length≤n:=ZdV n (hd.filter _) (fun x hx=>by
   have hm:=List.mem_filter.mp hx;have:=h x hm.1;have hne:x≠(n:Int):=by simpa using hm.2
   omega)
  have h2:(l.filter (fun x=>x == (n:Int))).length≤1:=by
   have hd2:=hd.filter (fun x=>x == (n:Int));have hall:∀x∈l.filter (fun x=>x == (n:Int)),x=(n:Int):=fun x hx=>by simpa using(List.mem_filter.mp hx).2
   generalize l.filter (fun x=>x == (n:Int))=m at *
   match m,hd2,hall with
   | [],_,_=>simp
   | [_],_,_=>simp
   | a::b::m,hd2,hall =>
    exfalso;have:=(List.nodup_cons.mp hd2).1;rw[hall a (by simp)] at this;rw[hall b (by simp)] at this;simp at this
  have h3:l.length=(l.filter (fun x=>x == (n:Int))).length+(l.filter (fun x=>x != (n:Int))).length:=by
   have:=List.length_eq_countP_add_countP (p:=fun x:Int=>x == (n:Int)) (l:=l);rw[List.countP_eq_length_filter,List.countP_eq_length_filter] at this;rw[this];congr 2;exact List.filter_congr (fun x _=>by rw[bne];cases(x == (n:Int))<;>rfl)
  omega
def ZtD(v:Int→List Int):Nat→List Int→Nat→List Int
 | 0,met,_=>met
 | f+1,met,i=>if h:i < met.length then ZtD v f (Zl8 met (v met[i])) (i+1) else met
def agn(v:Int→List Int)(k:Int)(n:Nat)(at_:Int):List Int:=(if k=6 then [] else [at_])++(if k=7 then ddp (v at_) else ZtD v (n+2) (ddp (v at_)) 0)
mutual
def Zaw(l:List Int):Pat→Int→List Int
 | .mk k s g ks,at_=>if k=1 then [at_] else if k=2 then (if at_ < l.length∧g.contains (l.getD at_.toNat 0)=true then [at_+1] else []) else if k=3 then Zcp l ks [at_] else if k=4 then Zig l ks at_
   else if k=7∨k=5∨k=6 then Zgx l ks k at_ else []
def Zcp(l:List Int):List Pat→List Int→List Int
 | [],cur=>cur
 | q::qs,cur=>Zcp l qs (ddp (cur.flatMap fun a=>Zaw l q a))
def Zig(l:List Int):List Pat→Int→List Int
 | [],_=>[]
 | q::qs,at_=>Zaw l q at_++Zig l qs at_
def Zgx(l:List Int):List Pat→Int→Int→List Int
 | [q],k,at_=>agn (fun a=>Zaw l q a) k l.length at_
 | _,_,_=>[]
end
theorem Znc{v:Int→List Int}{a b:Int}(hv:∀x,a≤x→x≤b→∀y∈v x,a≤y∧y≤b):∀(f:Nat) (met:List Int) (i:Nat),(∀x∈met,a≤x∧x≤b)→∀x∈ZtD v f met i,a≤x∧x≤b
 | 0,met,i,h,x,hx=>h x hx
 | f+1,met,i,h,x,hx=>by
  simp only[ZtD] at hx;split at hx
  ·rename_i hlt
   refine Znc hv f _ _ (fun y hy=>?_) x hx;rcases Z8f.mp hy with hy | hy
   ·exact h y hy
   ·have hm:=h _ (List.getElem_mem hlt)
    exact hv _ hm.1 hm.2 y hy
  ·exact h x hx
theorem Zu0{v:Int→List Int}{b:Int}{k:Int}{n:Nat}{at_:Int}(hab:at_≤b)(hv:∀x,at_≤x→x≤b→∀y∈v x,at_≤y∧y≤b):∀x∈agn v k n at_,at_≤x∧x≤b:=by
 intro x hx;have h0:∀y∈ddp (v at_),at_≤y∧y≤b:=fun y hy=>hv at_ (Int.le_refl _) hab y (Z7Z.mp hy)
 unfold agn at hx;rcases List.mem_append.mp hx with hx | hx
 ·split at hx
  ·simp at hx
  ·simp at hx;subst hx;exact⟨Int.le_refl _,hab⟩
 ·split at hx
  ·exact h0 x hx
  ·exact Znc hv _ _ _ h0 x hx
mutual
theorem Z83(l:List Int):∀(p:Pat) (at_:Int),0≤at_→at_≤l.length→∀x∈Zaw l p at_,at_≤x∧x≤l.length
 | .mk k s g ks,at_,h0,hn,x,hx=>by
  rw[Zaw] at hx;split at hx
  ·simp at hx;subst hx;exact⟨Int.le_refl _,hn⟩
  ·split at hx
   ·split at hx
    ·rename_i hc;simp at hx;subst hx;omega
    ·simp at hx
   ·split at hx
    ·exact Zif l ks [at_] at_ h0 (fun y hy=>by simp at hy;subst hy;exact⟨Int.le_refl _,hn⟩) x hx
    ·split at hx
     ·exact ZkY l ks at_ h0 hn x hx
     ·split at hx
      ·exact ZqM l ks k at_ h0 hn x hx
      ·simp at hx
theorem Zif(l:List Int):∀(ks:List Pat) (cur:List Int) (a:Int),0≤a→(∀x∈cur,a≤x∧x≤l.length)→∀x∈Zcp l ks cur,a≤x∧x≤l.length
 | [],cur,a,h0,h,x,hx=>by rw[Zcp] at hx;exact h x hx
 | q::qs,cur,a,h0,h,x,hx=>by
  rw[Zcp] at hx;refine Zif l qs _ a h0 (fun y hy=>?_) x hx;obtain⟨c,hc,hy⟩:=List.mem_flatMap.mp (Z7Z.mp hy);have h1:=h c hc;have h2:=Z83 l q c (by omega) h1.2 y hy;omega
theorem ZkY(l:List Int):∀(ks:List Pat) (at_:Int),0≤at_→at_≤l.length→∀x∈Zig l ks at_,at_≤x∧x≤l.length
 | [],at_,h0,hn,x,hx=>by rw[Zig] at hx;simp at hx
 | q::qs,at_,h0,hn,x,hx=>by
  rw[Zig] at hx;rcases List.mem_append.mp hx with hx | hx
  ·exact Z83 l q at_ h0 hn x hx
  ·exact ZkY l qs at_ h0 hn x hx
theorem ZqM(l:List Int):∀(ks:List Pat) (k at_:Int),0≤at_→at_≤l.length→∀x∈Zgx l ks k at_,at_≤x∧x≤l.length
 | [q],k,at_,h0,hn,x,hx=>by
  rw[Zgx] at hx;exact Zu0 hn (fun y h1 h2 z hz=>by have:=Z83 l q y (by omega) h2 z hz;omega) x hx
 | [],k,at_,h0,hn,x,hx=>by simp[Zgx] at hx
 | q::r::qs,k,at_,h0,hn,x,hx=>by simp[Zgx] at hx
end
theorem Vec.cel{g:Nat→Option Blk}{v:AV}{es:Nat}{xs:List AV}(h:Vec g v es xs):v.cells=[v]∧v.solid=true:=by
 rcases h with⟨rfl,_⟩ | ⟨_,_,_,rfl,_⟩<;>exact⟨rfl,rfl⟩
def LV(g:Nat→Option Blk)(v:AV)(xs:List AV):Prop:=(∃t,v=.sl t xs)∨Vec g v 1 xs
theorem LV.frame{g g':Nat→Option Blk}{v:AV}{xs:List AV}(h:LV g v xs)(hs:∀i∈v.ids,g' i=g i):LV g' v xs:=by
 rcases h with h | h
 ·exact .inl h
 ·exact .inr (h.frame hs)
theorem LV.cell{g:Nat→Option Blk}{v:AV}{xs:List AV}(h:LV g v xs):v.cells=[v]∧v.solid=true:=by
 rcases h with⟨t,rfl⟩ | h
 ·exact⟨rfl,rfl⟩
 ·exact h.cel
theorem LV.len{g:Nat→Option Blk}{v:AV}{xs:List AV}(h:LV g v xs):Z3S v=some (.v (.int .i64 xs.length)):=by
 rcases h with⟨t,rfl⟩ | ⟨rfl,rfl⟩ | ⟨id,off,ys,rfl,_,_,_⟩<;>rfl
theorem LV.idx{g:Nat→Option Blk}{v:AV}{xs:List AV}(h:LV g v xs){i:Nat}(hi:i < xs.length)(h1:(xs[i]).cells.length=1)(hs:(xs[i]).cells=[xs[i]]) :
  ∃p,(∀n nid,(Z1F 1 v (.v (.int .i64 (i:Int)))).run ⟨n,g⟩ nid=some (p,⟨n,g⟩))∧∀n nid,(Z1q none p).run ⟨n,g⟩ nid=some (xs[i],⟨n,g⟩):=by
 have hi0:(0:Int)≤(i:Int):=by omega
 rcases h with⟨t,rfl⟩ | ⟨rfl,rfl⟩ | ⟨id,off,ys,rfl,h2,h3,h4⟩
 ·refine⟨.eptr xs[i] 0,fun n nid=>?_,fun n nid=>?_⟩
  ·simp[Z1F,hi,h1]
  ·simp[Z1q,Z51,hs]
 ·simp at hi
 ·have hget:ys[off+i]? = some xs[i]:=by
   have:(ys.drop off)[i]? = some xs[i]:=by rw[h4];simp[List.getElem?_eq_getElem hi]
   rwa[List.getElem?_drop] at this
  have hle:off+xs.length≤ys.length:=by have:=congrArg List.length h4;simp at this;omega
  refine⟨.ptr id (off+i) 0,fun n nid=>?_,fun n nid=>?_⟩
  ·simp[Z1F,hi,h2,hle]
  ·simp[Z1q,Z51,hs,h2,hget]
def opS(P:Program)(base:Nat)(l:List SOp)(i:Nat)(d:Option Nat)(op:AOp)(T:List (Nat×List Nat))(K:AF→St→Prop)(a:AF)(S:St):Option (AV×St)→Prop
 | some (v,S')=>RSp P base l ((i,Fq ⟨d,op,none,none⟩ a)::T) K (a.put d v) S'
 | none=>Zer op a fun v=>RSp P base l ((i,Fq ⟨d,op,none,none⟩ a)::T) K (a.put d v) S
def Zs0(P:Program)(base:Nat)(l:List SOp)(i:Nat)(o:Z1x)(w:List Nat)(T:List (Nat×List Nat))(K:AF→St→Prop)(a:AF)(S:St)(args:List AV):AV→Prop
 | .clo f first cap=>Z0x P f (first++args++cap) S fun r S'=>Zjw w S.g S'.g T∧RSp P base l ((i,[])::T) K (a.put o.dst r) S'
 | _=>False
section
variable{P:Program}{Q:Exit→AF→St→Prop}{a:AF}{S:St}{K:AF→St→Prop}{base i:Nat}{l:List SOp}{d:Option Nat}{op:AOp}{T:List (Nat×List Nat)}{w:List Nat}
private theorem Zpd:AW P (.regS l) Q a S=RSp P S.n l [] (nK Q) a ⟨S.n+l.length,S.g⟩:=rfl
theorem Zrx:AW P (.regS l) Q a S=RSp P S.n l [] (nK Q) a ⟨S.n+l.length,S.g⟩:=by rw[Zpd]
theorem Zin:RSp P base [] T (nK Q) a S=Q .normal a S:=by simp only[RSp,nK]
theorem Zmq:RSp P base ((i,⟨d,op,none,none⟩,w)::l) T K a S=opS P base l i d op T K a S ((ex op a).run S (base+i)):=by
 simp only[RSp,Za9,gd,opS];cases(ex op a).run S (base+i)<;>rfl
theorem Zgb(v:AV)(S':St):opS P base l i d op T K a S (some (v,S'))=RSp P base l ((i,Fq ⟨d,op,none,none⟩ a)::T) K (a.put d v) S':=by simp only[opS]
theorem Zfw(G:Opd)(xs:List Opd):RSp P base ((i,⟨d,op,none,some (G,xs)⟩,w)::l) T K a S=Zs0 P base l i ⟨d,op,none,some (G,xs)⟩ w T K a S (xs.map (·.ev a)) (G.ev a):=by
 have hF:Fq ⟨d,op,none,some (G,xs)⟩ a=[]:=by unfold Fq;rw[if_neg (by simp[Z7L])]
 simp only[RSp,Za9,gd,hF];cases G.ev a<;>rfl
theorem Zdp(f:FuncId)(first cap args:List AV)(o:Z1x):Zs0 P base l i o w T K a S args (.clo f first cap)=Z0x P f (first++args++cap) S (fun r S'=>Zjw w S.g S'.g T∧RSp P base l ((i,[])::T) K (a.put o.dst r) S'):=by simp only[Zs0]
theorem ZrB(k:Option Nat)(p:Opd)(id ix c:Nat)(h:p.ev a=.ptr id ix c):Fq ⟨d,.load k p,none,none⟩ a=[id]:=by
 unfold Fq;rw[if_pos (by simp[Z7L,Zux,Zqc])];simp[gd,ex,h,Z1q,Eff.rd]
end
end Go.Rf
namespace Go.Rf
open Go.RowKit
attribute [local simp] Z4c Z48 Z2M Z2a Z2P Z2R Z2Q Z4a Z4b Z1e Z16 Z0c Z0B Z0q Z08 Z0o Z0h Z09 Z0p Z0i Z0Y Z0j Z0z Z0K Z0k Z0J Z1W Z3U Z0X Z25 Z22 Z24 Z23 Z26 Z1j Z0D Z11 Z12 Z1T Z1U Z1V Z0H Z0I Z1i Z0r Z0W Z20 Z1X Z1Z Z1Y Z21 Z1k Z13 Z1g Z0U Z0V Z0C Z1h Z0P Z1a Z1f Z14 Z1l ex Z00 Z0R Z6K Z6P Z0f Z0g Z0A Z2k Z1d Z10 Z0y Z0F Z0G Z0E Z0s Z0Z Z5y Z0O Z37 Z1c Z1O Z1R Z3s Z0b Z1q Z19 Z0Q Z1F Z3S Z1P Z6A Z3C Z6z Z3w Z2Y Z3t Z6w Z3D Z51 AV.solid S0 Z06 Z1n
mutual
def Zce:Pat→Prop
 | .mk k s g ks=>g.length≤17592186043904∧ks.length≤100000∧ZaB ks
def ZaB:List Pat→Prop
 | []=>True
 | p::ps=>Zce p∧ZaB ps
end
theorem ZaB.mem:∀{ks:List Pat},ZaB ks→∀q∈ks,Zce q
 | [],_,q,h=>by simp at h
 | p::ps,h,q,hq=>by
  simp only[ZaB] at h;rcases List.mem_cons.mp hq with rfl | hq
  ·exact h.1
  ·exact ZaB.mem h.2 q hq
end Go.Rf
namespace Go.Rf
open Go.RowKit
def Znp(p:Pat)(l:List Int)(at_:Int):List Int:=if at_ < 0∨(l.length:Int) < at_ then [] else (ddp (Zaw l p at_)).mergeSort fun x y=>decide (x≤y)
end Go.Rf
namespace Go.Rf
open Go.RowKit
attribute [local simp] Z4c Z48 Z2M Z2a Z2P Z2R Z2Q Z4a Z4b Z1e Z16 Z0c Z0B Z0q Z08 Z0o Z0h Z09 Z0p Z0i Z0Y Z0j Z0z Z0K Z0k Z0J Z1W Z3U Z0X Z25 Z22 Z24 Z23 Z26 Z1j Z0D Z11 Z12 Z1T Z1U Z1V Z0H Z0I Z1i Z0r Z0W Z20 Z1X Z1Z Z1Y Z21 Z1k Z13 Z1g Z0U Z0V Z0C Z1h Z0P Z1a Z1f Z14 Z1l ex Z00 Z0R Z6K Z6P Z0f Z0g Z0A Z2k Z1d Z10 Z0y Z0F Z0G Z0E Z0s Z0Z Z5y Z0O Z37 Z1c Z1O Z1R Z3s Z0b Z1q Z19 Z0Q Z1F Z3S Z1P Z6A Z3C Z6z Z3w Z2Y Z3t Z6w Z3D Z51 AV.solid S0 Z06 Z1n
def ZnA(p:Nat→Bool)(i:Nat):List Int:=((List.range i).filter p).map Int.ofNat
def tlP(n:Net)(l:List Int)(i:Nat):Bool:=Zm7 n (l.drop (l.length - i))
def hdP(n:Net)(l:List Int)(i:Nat):Bool:=Zm7 n (l.take i)
end Go.Rf
namespace Go.Rf
open Go.RowKit
def ZbX(p:Pat)(l:List Int)(a b:Int):Bool:=(Znp p l a).contains b
theorem ZpR{p:Pat}{l:List Int}{at_:Int}:∀x∈Znp p l at_,0≤x∧x≤(l.length:Int):=by
 intro x hx;unfold Znp at hx;split at hx
 ·simp at hx
 ·rename_i h
  have h1:=Z7Z.mp ((List.mergeSort_perm _ _).mem_iff.mp hx);have:=Z83 l p at_ (by omega) (by omega) x h1
  omega
theorem Zjy:∀{ks:List Pat},(∀q∈ks,Zce q)→ZaB ks
 | [],_=>trivial
 | p::ps,h=>⟨h p (by simp),Zjy (fun q hq=>h q (by simp[hq]))⟩
structure Rul where
 num:Int
 cut:Bool
 before:Pat
 after:Pat
 pos:Int
def Z5u(r:Rul):AV:=.agg ([Z06 r.num,Z1n r.cut]++(Z1s r.before).cells++(Z1s r.after).cells++[Z06 r.pos])
theorem Zh8(r:Rul):∃cs:List AV,Z5u r=.agg cs∧cs.length=11∧∀y∈cs,Z0S y:=by
 refine⟨_,rfl,?_,fun y hy=>?_⟩
 ·simp[Z9p]
 ·simp only[List.mem_append,List.mem_cons,List.not_mem_nil,or_false] at hy
  rcases hy with(((rfl | rfl) | hy) | hy) | rfl
  ·exact Z04 _
  ·exact Z0L _
  ·exact(Z3M r.before).cells y hy
  ·exact(Z3M r.after).cells y hy
  ·exact Z04 _
theorem Zlj(r:Rul):Z0S (Z5u r):=by
 obtain⟨cs,h1,_,h3⟩:=Zh8 r;rw[h1];exact .agg _ h3
theorem ZrF(r:Rul):(Z5u r).cells.length=11:=by
 obtain⟨cs,h1,h2,_⟩:=Zh8 r;rw[h1];simpa[AV.cells] using h2
structure Bk where
 vars:AV
 rules:List Rul
 allows:AV
 used:AV
def ZtU(g:Nat→Option Blk)(v:AV)(es:Nat)(xs:List AV):Prop:=(v=.sl true []∧xs=[])∨∃id,v=.own id 0 xs.length∧g id=some (.arr es xs)
theorem ZtU.vec{g:Nat→Option Blk}{v:AV}{es:Nat}{xs:List AV}(h:ZtU g v es xs):Vec g v es xs:=by
 rcases h with⟨rfl,rfl⟩ | ⟨id,rfl,h⟩
 ·exact .nil
 ·exact .mk h
theorem ZtU.frame{g g':Nat→Option Blk}{v:AV}{es:Nat}{xs:List AV}(h:ZtU g v es xs)(hs:∀i∈v.ids,g' i=g i):ZtU g' v es xs:=by
 rcases h with h | ⟨id,rfl,h⟩
 ·exact .inl h
 ·exact .inr ⟨id,rfl,by rw[hs id (by simp[AV.ids])];exact h⟩
inductive Clo (r:Int→Int→Prop):Int→Int→Prop
 | one {a b:Int} (h:r a b):Clo r a b
 | more {a b c:Int} (h:Clo r a b) (k:r b c):Clo r a c
theorem Clo.trans{r:Int→Int→Prop}{a b c:Int}(h:Clo r a b)(k:Clo r b c):Clo r a c:=by
 induction k with
 | one k=>exact .more h k
 | more _ k ih=>exact .more ih k
theorem Clo.head{r:Int→Int→Prop}{a c:Int}(h:Clo r a c):∃b,r a b∧(b=c∨Clo r b c):=by
 induction h with
 | one h=>exact⟨_,h,.inl rfl⟩
 | more h k ih =>
  obtain⟨b,h1,h2⟩:=ih;refine⟨b,h1,.inr ?_⟩;rcases h2 with rfl | h2
  ·exact .one k
  ·exact .more h2 k
mutual
def MR(S:List Int→Int→Int→Prop):Pat→Int→Int→Prop
 | .mk k _ g ks,a,b=>if k=1 then a=b else if k=2 then S g a b else if k=3 then MA S ks a b else if k=4 then MO S ks a b else if k=7∨k=5∨k=6 then MG S ks k a b else False
def MA(S:List Int→Int→Int→Prop):List Pat→Int→Int→Prop
 | [],a,b=>a=b
 | q::qs,a,b=>∃m,MR S q a m∧MA S qs m b
def MO(S:List Int→Int→Int→Prop):List Pat→Int→Int→Prop
 | [],_,_=>False
 | q::qs,a,b=>MR S q a b∨MO S qs a b
def MG(S:List Int→Int→Int→Prop):List Pat→Int→Int→Int→Prop
 | [q],k,a,b=>(k≠6∧a=b)∨(if k=7 then MR S q a b else Clo (MR S q) a b)
 | _,_,_,_=>False
end
def stp(l:List Int)(g:List Int)(a b:Int):Prop:=b=a+1∧0≤a∧a < l.length∧l.getD a.toNat 0∈g
theorem Zmz(xs:List Int):∀(acc:List Int),∃t,Zl8 acc xs=acc++t:=by
 induction xs with
 | nil=>intro acc;exact⟨[],by simp[Zl8]⟩
 | cons x xs ih =>
  intro acc;simp only[Zl8];obtain⟨t,ht⟩:=ih (if acc.contains x=true then acc else acc++[x]);split at ht
  ·exact⟨t,by rw[if_pos (by assumption)];exact ht⟩
  ·rw[if_neg (by assumption)]
   exact⟨[x]++t,by rw[ht];simp⟩
theorem ZpD{v:Int→List Int}{n:Nat}{at_:Int}(hv:∀x:Int,0≤x→x≤n→∀y∈v x,0≤y∧y≤(n:Int))(h0:0≤at_∧at_≤n) :
  ∀(f:Nat) (met:List Int) (i:Nat),met.Nodup→(∀x∈met,0≤x∧x≤(n:Int))→i≤met.length→n+2≤f+i→(∀y∈v at_,y∈met)→(∀x∈met,Clo (fun a b=>b∈v a) at_ x) →
   (∀j (h:j < met.length),j < i→∀y∈v met[j],y∈met)→∀y,y∈ZtD v f met i↔Clo (fun a b=>b∈v a) at_ y:=by
 have done:∀(met:List Int),(∀y∈v at_,y∈met)→(∀x∈met,∀y∈v x,y∈met)→∀y,Clo (fun a b=>b∈v a) at_ y→y∈met:=by
  intro met h1 h2 y hy;induction hy with
  | one h=>exact h1 _ h
  | more h k ih=>exact h2 _ ih _ k
 intro f;induction f with
 | zero =>
  intro met i hnd hb hi hf h1 h2 h3 y;have:=ZdV (n+1) hnd (fun x hx=>by have:=hb x hx;omega);omega
 | succ f ih =>
  intro met i hnd hb hi hf h1 h2 h3 y;simp only[ZtD];split
  ·rename_i hlt
   have hbi:=hb _ (List.getElem_mem hlt);obtain⟨t,ht⟩:=Zmz (v met[i]) met;have hlen:met.length≤(Zl8 met (v met[i])).length:=by rw[ht];simp
   refine ih _ _ (ZbL hnd) (fun x hx=>?_) (by omega) (by omega) (fun y hy=>Z8f.mpr (.inl (h1 y hy))) (fun x hx=>?_) (fun j hj hji y hy=>?_) y
   ·rcases Z8f.mp hx with hx | hx
    ·exact hb x hx
    ·exact hv _ hbi.1 hbi.2 x hx
   ·rcases Z8f.mp hx with hx | hx
    ·exact h2 x hx
    ·exact .more (h2 _ (List.getElem_mem hlt)) hx
   ·have hjm:j < met.length:=by omega
    have e:(Zl8 met (v met[i]))[j]=met[j]:=by simp only[ht];exact List.getElem_append_left hjm
    rw[e] at hy;by_cases hji2:j=i
    ·subst hji2;exact Z8f.mpr (.inr hy)
    ·exact Z8f.mpr (.inl (h3 j hjm (by omega) y hy))
  ·rename_i hlt
   have hie:i=met.length:=by omega
   refine⟨fun h=>h2 y h,fun h=>done met h1 (fun x hx y hy=>?_) y h⟩;obtain⟨j,hj,rfl⟩:=List.mem_iff_getElem.mp hx;exact h3 j hj (by omega) y hy
theorem ZrQ{v:Int→List Int}{n:Nat}{k at_:Int}(hv:∀x:Int,0≤x→x≤n→∀y∈v x,0≤y∧y≤(n:Int))(h0:0≤at_∧at_≤n)(y:Int) :
  y∈agn v k n at_↔(k≠6∧at_=y)∨(if k=7 then y∈v at_ else Clo (fun a b=>b∈v a) at_ y):=by
 unfold agn;rw[List.mem_append]
 have h1:y∈(if k=6 then ([]:List Int) else [at_])↔k≠6∧at_=y:=by
  by_cases h:k=6
  ·simp[h]
  ·simp[h];exact⟨fun e=>e.symm,fun e=>e.symm⟩
 rw[h1];by_cases h7:k=7
 ·rw[if_pos h7,if_pos h7,Z7Z]
 ·rw[if_neg h7,if_neg h7]
  have:=ZpD hv h0 (n+2) (ddp (v at_)) 0 (Znj _) (fun x hx=>hv _ h0.1 h0.2 x (Z7Z.mp hx)) (Nat.zero_le _) (by omega) (fun y hy=>Z7Z.mpr hy) (fun x hx=>.one (Z7Z.mp hx)) (fun j hj h=>by omega) y;rw[this]
theorem Clo.congr{r s:Int→Int→Prop}{lo hi:Int}(hrs:∀a b,lo≤a→a≤hi→(r a b↔s a b))(hb:∀a b,lo≤a→a≤hi→r a b→lo≤b∧b≤hi){a b:Int}(ha:lo≤a∧a≤hi):Clo r a b↔Clo s a b:=by
 constructor
 ·intro h
  have key:∀{b},Clo r a b→(lo≤b∧b≤hi)∧Clo s a b:=by
   intro b h;induction h with
   | one h=>exact⟨hb _ _ ha.1 ha.2 h,.one ((hrs _ _ ha.1 ha.2).mp h)⟩
   | more _ k ih =>
    obtain⟨h1,h2⟩:=ih;exact⟨hb _ _ h1.1 h1.2 k,.more h2 ((hrs _ _ h1.1 h1.2).mp k)⟩
  exact(key h).2
 ·intro h
  have key:∀{b},Clo s a b→(lo≤b∧b≤hi)∧Clo r a b:=by
   intro b h;induction h with
   | one h=>have h':=(hrs _ _ ha.1 ha.2).mpr h;exact⟨hb _ _ ha.1 ha.2 h',.one h'⟩
   | more _ k ih =>
    obtain⟨h1,h2⟩:=ih;have h':=(hrs _ _ h1.1 h1.2).mpr k;exact⟨hb _ _ h1.1 h1.2 h',.more h2 h'⟩
  exact(key h).2
mutual
theorem Z8M(l:List Int):∀(p:Pat) (a b:Int),0≤a→a≤l.length→(b∈Zaw l p a↔MR (stp l) p a b)
 | .mk k s g ks,a,b,h0,hn=>by
  rw[Zaw,MR];by_cases h1:k=1
  ·rw[if_pos h1,if_pos h1];simp;exact⟨fun e=>e.symm,fun e=>e.symm⟩
  ·rw[if_neg h1,if_neg h1]
   by_cases h2:k=2
   ·rw[if_pos h2,if_pos h2]
    unfold stp;by_cases hc:a < l.length∧g.contains (l.getD a.toNat 0)=true
    ·rw[if_pos hc]
     have hm:l.getD a.toNat 0∈g:=by simpa using hc.2
     simp only[List.mem_cons,List.not_mem_nil,or_false];exact⟨fun e=>⟨e,h0,hc.1,hm⟩,fun e=>e.1⟩
    ·rw[if_neg hc]
     simp only[List.not_mem_nil,false_iff];rintro⟨_,_,h3,h4⟩;exact hc ⟨h3,by simpa using h4⟩
   ·rw[if_neg h2,if_neg h2]
    by_cases h3:k=3
    ·rw[if_pos h3,if_pos h3,Zie l ks [a] b (by simp;exact⟨h0,hn⟩)];simp
    ·rw[if_neg h3,if_neg h3]
     by_cases h4:k=4
     ·rw[if_pos h4,if_pos h4,ZkX l ks a b h0 hn]
     ·rw[if_neg h4,if_neg h4]
      by_cases h5:k=7∨k=5∨k=6
      ·rw[if_pos h5,if_pos h5];exact ZqL l ks k a b h0 hn
      ·rw[if_neg h5,if_neg h5];simp
theorem Zie(l:List Int):∀(ks:List Pat) (cur:List Int) (b:Int),(∀x∈cur,0≤x∧x≤l.length)→(b∈Zcp l ks cur↔∃a∈cur,MA (stp l) ks a b)
 | [],cur,b,h=>by rw[Zcp];simp[MA]
 | q::qs,cur,b,h=>by
  rw[Zcp,Zie l qs _ b (fun x hx=>by
   obtain⟨a,ha,hx2⟩:=List.mem_flatMap.mp (Z7Z.mp hx);have h1:=h a ha;have:=Z83 l q a h1.1 h1.2 x hx2;omega)]
  constructor
  ·rintro⟨m,hm,hr⟩
   obtain⟨a,ha,hx2⟩:=List.mem_flatMap.mp (Z7Z.mp hm);have h1:=h a ha;exact⟨a,ha,by rw[MA];exact⟨m,(Z8M l q a m h1.1 h1.2).mp hx2,hr⟩⟩
  ·rintro⟨a,ha,hr⟩
   rw[MA] at hr;obtain⟨m,h2,h3⟩:=hr;have h1:=h a ha;exact⟨m,Z7Z.mpr (List.mem_flatMap.mpr ⟨a,ha,(Z8M l q a m h1.1 h1.2).mpr h2⟩),h3⟩
theorem ZkX(l:List Int):∀(ks:List Pat) (a b:Int),0≤a→a≤l.length→(b∈Zig l ks a↔MO (stp l) ks a b)
 | [],a,b,_,_=>by rw[Zig,MO];simp
 | q::qs,a,b,h0,hn=>by rw[Zig,MO,List.mem_append,Z8M l q a b h0 hn,ZkX l qs a b h0 hn]
theorem ZqL(l:List Int):∀(ks:List Pat) (k a b:Int),0≤a→a≤l.length→(b∈Zgx l ks k a↔MG (stp l) ks k a b)
 | [q],k,a,b,h0,hn=>by
  rw[Zgx,MG,ZrQ (fun x hx hy y hm=>by have:=Z83 l q x hx hy y hm;omega) ⟨h0,hn⟩]
  have e1:(if k=7 then b∈Zaw l q a else Clo (fun a b=>b∈Zaw l q a) a b)↔(if k=7 then MR (stp l) q a b else Clo (MR (stp l) q) a b):=by
   by_cases h7:k=7
   ·rw[if_pos h7,if_pos h7];exact Z8M l q a b h0 hn
   ·rw[if_neg h7,if_neg h7]
    exact Clo.congr (lo:=0) (hi:=l.length) (fun x y hx hy=>Z8M l q x y hx hy) (fun x y hx hy hm=>by have:=Z83 l q x hx hy y hm;omega) ⟨h0,hn⟩
  rw[e1]
 | [],k,a,b,_,_=>by rw[Zgx,MG]<;>simp
 | q::r::qs,k,a,b,_,_=>by rw[Zgx,MG]<;>simp
end
theorem ZpQ{p:Pat}{l:List Int}{a b:Int}:b∈Znp p l a↔0≤a∧a≤l.length∧MR (stp l) p a b:=by
 unfold Znp;by_cases h:a < 0∨(l.length:Int) < a
 ·rw[if_pos h];simp;intro h1 h2;omega
 ·rw[if_neg h,(List.mergeSort_perm _ _).mem_iff,Z7Z,Z8M l p a b (by omega) (by omega)]
  constructor
  ·intro hm;exact⟨by omega,by omega,hm⟩
  ·exact fun hm=>hm.2.2
theorem Z9z{p:Pat}{l:List Int}{a b:Int}:ZbX p l a b=true↔0≤a∧a≤l.length∧MR (stp l) p a b:=by
 unfold ZbX;rw[List.contains_iff_mem,ZpQ]
def Inc(S:List Int→Int→Int→Prop):Prop:=∀g a b,S g a b→a < b
theorem Zr2{r:Int→Int→Prop}(h:∀a b,r a b→a≤b){a b:Int}(k:Clo r a b):a≤b:=by
 induction k with
 | one k=>exact h _ _ k
 | more _ k ih=>have:=h _ _ k;omega
mutual
theorem Zd6{S:List Int→Int→Int→Prop}(hS:Inc S):∀(p:Pat) (a b:Int),MR S p a b→a≤b
 | .mk k s g ks,a,b,h=>by
  rw[MR] at h;split at h
  ·omega
  ·split at h
   ·have:=hS _ _ _ h;omega
   ·split at h
    ·exact Zmm hS ks a b h
    ·split at h
     ·exact ZqQ hS ks a b h
     ·split at h
      ·exact ZtP hS ks k a b h
      ·exact h.elim
theorem Zmm{S:List Int→Int→Int→Prop}(hS:Inc S):∀(ks:List Pat) (a b:Int),MA S ks a b→a≤b
 | [],a,b,h=>by rw[MA] at h;omega
 | q::qs,a,b,h=>by
  rw[MA] at h;obtain⟨m,h1,h2⟩:=h;have:=Zd6 hS q a m h1;have:=Zmm hS qs m b h2;omega
theorem ZqQ{S:List Int→Int→Int→Prop}(hS:Inc S):∀(ks:List Pat) (a b:Int),MO S ks a b→a≤b
 | [],a,b,h=>by rw[MO] at h;exact h.elim
 | q::qs,a,b,h=>by
  rw[MO] at h;rcases h with h | h
  ·exact Zd6 hS q a b h
  ·exact ZqQ hS qs a b h
theorem ZtP{S:List Int→Int→Int→Prop}(hS:Inc S):∀(ks:List Pat) (k a b:Int),MG S ks k a b→a≤b
 | [q],k,a,b,h=>by
  rw[MG] at h;rcases h with h | h
  ·omega
  ·split at h
   ·exact Zd6 hS q a b h
   ·exact Zr2 (fun a b h=>Zd6 hS q a b h) h
 | [],k,a,b,h=>by simp[MG] at h
 | q::r::qs,k,a,b,h=>by simp[MG] at h
end
structure GE where
 nul:Prop
 fst:Nat→Prop
 lst:Nat→Prop
 fol:Nat→Nat→Prop
section
variable(T:Nat→Int→Int→Prop)
inductive Rn (F:Nat→Nat→Prop):Nat→Int→Nat→Int→Prop where
 | refl (s:Nat) (a:Int):Rn F s a s a
 | step (s t u:Nat) (a m b:Int) (h:F s t) (k:T t a m) (r:Rn F t m u b):Rn F s a u b
def Acc(E:GE)(a b:Int):Prop:=(E.nul∧a=b)∨∃s m t,E.fst s∧T s a m∧Rn T E.fol s m t b∧E.lst t
end
section
variable{T:Nat→Int→Int→Prop}
theorem Rn.mono{F G:Nat→Nat→Prop}(h:∀s t,F s t→G s t){s t:Nat}{a b:Int}(r:Rn T F s a t b):Rn T G s a t b:=by
 induction r with
 | refl s a=>exact .refl s a
 | step s t u a m b hf k r ih=>exact .step s t u a m b (h _ _ hf) k ih
theorem Rn.trans{F:Nat→Nat→Prop}{s t u:Nat}{a m b:Int}(r:Rn T F s a t m)(r2:Rn T F t m u b):Rn T F s a u b:=by
 induction r with
 | refl s a=>exact r2
 | step s t u a m b hf k r ih=>exact .step _ _ _ _ _ _ hf k (ih r2)
structure In(E:GE)(b c:Nat):Prop where
 fst:∀s,E.fst s→b≤s∧s < c
 lst:∀s,E.lst s→b≤s∧s < c
 fol:∀s t,E.fol s t→(b≤s∧s < c)∧b≤t∧t < c
def Zar(E G:GE):GE:=⟨E.nul∧G.nul,fun s=>E.fst s∨(E.nul∧G.fst s),fun s=>(E.lst s∧G.nul)∨G.lst s,fun s t=>E.fol s t∨G.fol s t∨(E.lst s∧G.fst t)⟩
def ZaX(E G:GE):GE:=⟨E.nul∨G.nul,fun s=>E.fst s∨G.fst s,fun s=>E.lst s∨G.lst s,fun s t=>E.fol s t∨G.fol s t⟩
def ZdY(E:GE)(n:Prop):GE:=⟨E.nul∨n,E.fst,E.lst,fun s t=>E.fol s t∨(E.lst s∧E.fst t)⟩
def Zbk(E:GE):GE:=⟨True,E.fst,E.lst,E.fol⟩
theorem In.cat{E G:GE}{b c d:Nat}(h:In E b c)(k:In G c d)(hbc:b≤c)(hcd:c≤d):In (Zar E G) b d:=by
 refine⟨fun s hs=>?_,fun s hs=>?_,fun s t hs=>?_⟩
 ·rcases hs with hs | ⟨_,hs⟩
  ·have:=h.fst s hs;omega
  ·have:=k.fst s hs;omega
 ·rcases hs with⟨hs,_⟩ | hs
  ·have:=h.lst s hs;omega
  ·have:=k.lst s hs;omega
 ·rcases hs with hs | hs | ⟨h1,h2⟩
  ·have:=h.fol s t hs;omega
  ·have:=k.fol s t hs;omega
  ·have:=h.lst s h1;have:=k.fst t h2;omega
theorem In.alt{E G:GE}{b c d:Nat}(h:In E b c)(k:In G c d)(hbc:b≤c)(hcd:c≤d):In (ZaX E G) b d:=by
 refine⟨fun s hs=>?_,fun s hs=>?_,fun s t hs=>?_⟩
 ·rcases hs with hs | hs
  ·have:=h.fst s hs;omega
  ·have:=k.fst s hs;omega
 ·rcases hs with hs | hs
  ·have:=h.lst s hs;omega
  ·have:=k.lst s hs;omega
 ·rcases hs with hs | hs
  ·have:=h.fol s t hs;omega
  ·have:=k.fol s t hs;omega
theorem In.plus{E:GE}{b c:Nat}(h:In E b c)(n:Prop):In (ZdY E n) b c:=by
 refine⟨h.fst,h.lst,fun s t hs=>?_⟩;rcases hs with hs | ⟨h1,h2⟩
 ·exact h.fol s t hs
 ·exact⟨h.lst s h1,h.fst t h2⟩
theorem Rn.right{E G:GE}{b c d:Nat}(h:In E b c)(k:In G c d){F:Nat→Nat→Prop}(hF:∀s t,F s t→E.fol s t∨G.fol s t∨(E.lst s∧G.fst t)){s t:Nat}{a e:Int}(r:Rn T F s a t e)(hs:c≤s):Rn T G.fol s a t e∧c≤t:=by
 induction r with
 | refl s a=>exact⟨.refl s a,hs⟩
 | step s t u a m e hf kk r ih =>
  rcases hF s t hf with hf | hf | ⟨h1,_⟩
  ·have:=h.fol s t hf;omega
  ·have:=k.fol s t hf
   obtain⟨i1,i2⟩:=ih (by omega);exact⟨.step _ _ _ _ _ _ hf kk i1,i2⟩
  ·have:=h.lst s h1;omega
theorem Rn.left{E G:GE}{b c d:Nat}(h:In E b c)(k:In G c d){F:Nat→Nat→Prop}(hF:∀s t,F s t→E.fol s t∨G.fol s t∨(E.lst s∧G.fst t)){s t:Nat}{a e:Int}(r:Rn T F s a t e)(hs:s < c) :
  (t < c∧Rn T E.fol s a t e)∨∃u m v w,Rn T E.fol s a u m∧E.lst u∧G.fst v∧T v m w∧Rn T G.fol v w t e∧c≤t:=by
 induction r with
 | refl s a=>exact .inl ⟨hs,.refl s a⟩
 | step s t u a m e hf kk r ih =>
  rcases hF s t hf with hf | hf | ⟨h1,h2⟩
  ·have:=h.fol s t hf
   rcases ih (by omega) with⟨i1,i2⟩ | ⟨u',m',v,w,j1,j2,j3,j4,j5,j6⟩
   ·exact .inl ⟨i1,.step _ _ _ _ _ _ hf kk i2⟩
   ·exact .inr ⟨u',m',v,w,.step _ _ _ _ _ _ hf kk j1,j2,j3,j4,j5,j6⟩
  ·have:=k.fol s t hf;omega
  ·have:=k.fst t h2
   obtain⟨i1,i2⟩:=Rn.right h k hF r (by omega);exact .inr ⟨s,a,t,m,.refl s a,h1,h2,kk,i1,i2⟩
theorem ZrM{E G:GE}{b c d:Nat}(h:In E b c)(k:In G c d){a e:Int}:Acc T (Zar E G) a e↔∃m,Acc T E a m∧Acc T G m e:=by
 constructor
 ·rintro(⟨⟨h1,h2⟩,rfl⟩ | ⟨s,m,t,hf,hT,hr,hl⟩)
  ·exact⟨a,.inl ⟨h1,rfl⟩,.inl ⟨h2,rfl⟩⟩
  ·rcases hf with hf | ⟨hn,hf⟩
   ·have hs:=h.fst s hf
    rcases Rn.left h k (fun _ _ x=>x) hr (by omega) with⟨i1,i2⟩ | ⟨u,m',v,w,j1,j2,j3,j4,j5,j6⟩
    ·rcases hl with⟨hl,hn⟩ | hl
     ·exact⟨e,.inr ⟨s,m,t,hf,hT,i2,hl⟩,.inl ⟨hn,rfl⟩⟩
     ·have:=k.lst t hl;omega
    ·rcases hl with⟨hl,hn⟩ | hl
     ·have:=h.lst t hl;omega
     ·exact⟨m',.inr ⟨s,m,u,hf,hT,j1,j2⟩,.inr ⟨v,w,t,j3,j4,j5,hl⟩⟩
   ·have hs:=k.fst s hf
    obtain⟨i1,i2⟩:=Rn.right h k (fun _ _ x=>x) hr (by omega);rcases hl with⟨hl,_⟩ | hl
    ·have:=h.lst t hl;omega
    ·exact⟨a,.inl ⟨hn,rfl⟩,.inr ⟨s,m,t,hf,hT,i1,hl⟩⟩
 ·rintro⟨m,(⟨h1,rfl⟩ | ⟨s,m1,t,hf,hT,hr,hl⟩),(⟨h2,rfl⟩ | ⟨s2,m2,t2,hf2,hT2,hr2,hl2⟩)⟩
  ·exact .inl ⟨⟨h1,h2⟩,rfl⟩
  ·exact .inr ⟨s2,m2,t2,.inr ⟨h1,hf2⟩,hT2,hr2.mono fun _ _ x=>.inr (.inl x),.inr hl2⟩
  ·exact .inr ⟨s,m1,t,.inl hf,hT,hr.mono fun _ _ x=>.inl x,.inl ⟨hl,h2⟩⟩
  ·exact .inr ⟨s,m1,t2,.inl hf,hT,(hr.mono fun _ _ x=>.inl x).trans (.step _ _ _ _ _ _ (.inr (.inr ⟨hl,hf2⟩)) hT2 (hr2.mono fun _ _ x=>.inr (.inl x))),.inr hl2⟩
theorem ZrL{E G:GE}{b c d:Nat}(h:In E b c)(k:In G c d){a e:Int}:Acc T (ZaX E G) a e↔Acc T E a e∨Acc T G a e:=by
 have hF:∀s t,(ZaX E G).fol s t→E.fol s t∨G.fol s t∨(E.lst s∧(fun _=>False) t):=fun s t x=>x.elim .inl (fun x=>.inr (.inl x))
 have k':In ⟨G.nul,fun _=>False,G.lst,G.fol⟩ c d:=⟨fun s hs=>hs.elim,k.lst,k.fol⟩;constructor
 ·rintro(⟨h1 | h1,rfl⟩ | ⟨s,m,t,hf,hT,hr,hl⟩)
  ·exact .inl (.inl ⟨h1,rfl⟩)
  ·exact .inr (.inl ⟨h1,rfl⟩)
  ·rcases hf with hf | hf
   ·have hs:=h.fst s hf
    rcases Rn.left (G:=⟨G.nul,fun _=>False,G.lst,G.fol⟩) h k' hF hr (by omega) with⟨i1,i2⟩ | ⟨u,m',v,w,j1,j2,j3,j4,j5,j6⟩
    ·rcases hl with hl | hl
     ·exact .inl (.inr ⟨s,m,t,hf,hT,i2,hl⟩)
     ·have:=k.lst t hl;omega
    ·exact j3.elim
   ·have hs:=k.fst s hf
    obtain⟨i1,i2⟩:=Rn.right (G:=⟨G.nul,fun _=>False,G.lst,G.fol⟩) h k' hF hr (by omega);rcases hl with hl | hl
    ·have:=h.lst t hl;omega
    ·exact .inr (.inr ⟨s,m,t,hf,hT,i1,hl⟩)
 ·rintro((⟨h1,rfl⟩ | ⟨s,m,t,hf,hT,hr,hl⟩) | (⟨h1,rfl⟩ | ⟨s,m,t,hf,hT,hr,hl⟩))
  ·exact .inl ⟨.inl h1,rfl⟩
  ·exact .inr ⟨s,m,t,.inl hf,hT,hr.mono fun _ _ x=>.inl x,.inl hl⟩
  ·exact .inl ⟨.inr h1,rfl⟩
  ·exact .inr ⟨s,m,t,.inr hf,hT,hr.mono fun _ _ x=>.inr x,.inr hl⟩
end
section
variable{T:Nat→Int→Int→Prop}
theorem Acc.mono{E G:GE}(hn:E.nul→G.nul)(h1:∀s,E.fst s→G.fst s)(h2:∀s,E.lst s→G.lst s)(h3:∀s t,E.fol s t→G.fol s t){a e:Int}(h:Acc T E a e):Acc T G a e:=by
 rcases h with⟨h,rfl⟩ | ⟨s,m,t,hf,hT,hr,hl⟩
 ·exact .inl ⟨hn h,rfl⟩
 ·exact .inr ⟨s,m,t,h1 s hf,hT,hr.mono h3,h2 t hl⟩
theorem Zmx{E:GE}{a e:Int}:Acc T (Zbk E) a e↔a=e∨Acc T E a e:=by
 constructor
 ·rintro(⟨_,rfl⟩ | h)
  ·exact .inl rfl
  ·exact .inr (.inr h)
 ·rintro(rfl | h)
  ·exact .inl ⟨trivial,rfl⟩
  ·exact Acc.mono (E:=E) (G:=Zbk E) (fun _=>trivial) (fun _ x=>x) (fun _ x=>x) (fun _ _ x=>x) h
theorem Zqm{E:GE}{s t:Nat}{m e:Int}(r:Rn T (fun s t=>E.fol s t∨(E.lst s∧E.fst t)) s m t e)(hl:E.lst t):∀{a:Int} {s0:Nat} {m0:Int},E.fst s0→T s0 a m0→Rn T E.fol s0 m0 s m→Clo (Acc T E) a e:=by
 induction r with
 | refl s m=>intro a s0 m0 h0 hT hr;exact .one (.inr ⟨s0,m0,s,h0,hT,hr,hl⟩)
 | step s t u m m2 e hf kk r ih =>
  intro a s0 m0 h0 hT hr;rcases hf with hf | ⟨h1,h2⟩
  ·exact ih hl h0 hT (hr.trans (.step _ _ _ _ _ _ hf kk (.refl _ _)))
  ·exact(Clo.one (.inr ⟨s0,m0,s,h0,hT,hr,h1⟩)).trans (ih hl h2 kk (.refl _ _))
theorem Zpq{E:GE}{n:Prop}{a e:Int}:Acc T (ZdY E n) a e↔(n∧a=e)∨Clo (Acc T E) a e:=by
 constructor
 ·rintro(⟨h | h,rfl⟩ | ⟨s,m,t,hf,hT,hr,hl⟩)
  ·exact .inr (.one (.inl ⟨h,rfl⟩))
  ·exact .inl ⟨h,rfl⟩
  ·exact .inr (Zqm hr hl hf hT (.refl _ _))
 ·rintro(⟨h,rfl⟩ | h)
  ·exact .inl ⟨.inr h,rfl⟩
  ·have up:∀{a e:Int},Acc T E a e→Acc T (ZdY E n) a e:=fun h=>Acc.mono (E:=E) (G:=ZdY E n) (fun x=>.inl x) (fun _ x=>x) (fun _ x=>x) (fun _ _ x=>.inl x) h
   induction h with
   | one h=>exact up h
   | more h k ih =>
    rcases ih with⟨_,rfl⟩ | ⟨s,m,t,hf,hT,hr,hl⟩
    ·exact up k
    ·rcases k with⟨_,rfl⟩ | ⟨s2,m2,t2,hf2,hT2,hr2,hl2⟩
     ·exact .inr ⟨s,m,t,hf,hT,hr,hl⟩
     ·exact .inr ⟨s,m,t2,hf,hT,hr.trans (.step _ _ _ _ _ _ (.inr ⟨hl,hf2⟩) hT2 (hr2.mono fun _ _ x=>.inl x)),hl2⟩
end
mutual
def Z79:Pat→Nat
 | .mk k _ _ ks=>if k=1 then 0 else if k=2 then 1 else Z76 ks
def Z76:List Pat→Nat
 | []=>0
 | q::qs=>Z79 q+Z76 qs
end
def noE:GE:=⟨False,fun _=>False,fun _=>False,fun _ _=>False⟩
def ZbG:GE:=⟨True,fun _=>False,fun _=>False,fun _ _=>False⟩
def Zt5(b:Nat):GE:=⟨False,fun s=>s=b,fun s=>s=b,fun _ _=>False⟩
mutual
def geP:Pat→Nat→GE
 | .mk k _ _ ks,b=>if k=1 then ZbG else if k=2 then Zt5 b else if k=3 then geA ks b else if k=4 then geO ks b else ⟨(geG ks k b).nul,(geG ks k b).fst,(geG ks k b).lst,fun s t=>(geG ks k b).fol s t∨geW ks b s t⟩
def geA:List Pat→Nat→GE
 | [],_=>ZbG
 | q::qs,b=>Zar (geP q b) (geA qs (b+Z79 q))
def geO:List Pat→Nat→GE
 | [],_=>noE
 | q::qs,b=>ZaX (geP q b) (geO qs (b+Z79 q))
def geG:List Pat→Int→Nat→GE
 | [q],k,b=>if k=7 then Zbk (geP q b) else if k=5∨k=6 then ZdY (geP q b) (k≠6) else noE
 | _,_,_=>noE
def geW:List Pat→Nat→Nat→Nat→Prop
 | [],_,_,_=>False
 | q::qs,b,s,t=>(geP q b).fol s t∨geW qs (b+Z79 q) s t
end
mutual
theorem Zp9:∀(p:Pat) (b:Nat),In (geP p b) b (b+Z79 p)
 | .mk k r g ks,b=>by
  simp only[geP,Z79];split
  ·exact⟨fun s hs=>hs.elim,fun s hs=>hs.elim,fun s t hs=>hs.elim⟩
  ·split
   ·exact⟨fun s hs=>by have:s=b:=hs;omega,fun s hs=>by have:s=b:=hs;omega,fun s t hs=>hs.elim⟩
   ·split
    ·exact Zw8 ks b
    ·split
     ·exact Zw9 ks b
     ·have h:=Zx9 ks k b
      refine⟨h.fst,h.lst,fun s t hs=>?_⟩;rcases hs with hs | hs
      ·exact h.fol s t hs
      ·exact ZwF ks b s t hs
theorem Zw8:∀(ks:List Pat) (b:Nat),In (geA ks b) b (b+Z76 ks)
 | [],b=>by
  simp only[geA];exact⟨fun s hs=>hs.elim,fun s hs=>hs.elim,fun s t hs=>hs.elim⟩
 | q::qs,b=>by
  simp only[geA,Z76];have:=(Zp9 q b).cat (Zw8 qs (b+Z79 q)) (by omega) (by omega);rwa[Nat.add_assoc] at this
theorem Zw9:∀(ks:List Pat) (b:Nat),In (geO ks b) b (b+Z76 ks)
 | [],b=>by
  simp only[geO];exact⟨fun s hs=>hs.elim,fun s hs=>hs.elim,fun s t hs=>hs.elim⟩
 | q::qs,b=>by
  simp only[geO,Z76];have:=(Zp9 q b).alt (Zw9 qs (b+Z79 q)) (by omega) (by omega);rwa[Nat.add_assoc] at this
theorem Zx9:∀(ks:List Pat) (k:Int) (b:Nat),In (geG ks k b) b (b+Z76 ks)
 | [],k,b=>by
  simp only[geG];exact⟨fun s hs=>hs.elim,fun s hs=>hs.elim,fun s t hs=>hs.elim⟩
 | [q],k,b=>by
  have h:=Zp9 q b;simp only[geG,Z76,Nat.add_zero];split
  ·exact⟨h.fst,h.lst,h.fol⟩
  ·split
   ·exact h.plus _
   ·exact⟨fun s hs=>hs.elim,fun s hs=>hs.elim,fun s t hs=>hs.elim⟩
 | _::_::_,k,b=>by
  simp only[geG];exact⟨fun s hs=>hs.elim,fun s hs=>hs.elim,fun s t hs=>hs.elim⟩
theorem ZwF:∀(ks:List Pat) (b s t:Nat),geW ks b s t→(b≤s∧s < b+Z76 ks)∧b≤t∧t < b+Z76 ks
 | [],b,s,t,h=>by simp only[geW] at h
 | q::qs,b,s,t,h=>by
  simp only[geW] at h;simp only[Z76];rcases h with h | h
  ·have:=(Zp9 q b).fol s t h;omega
  ·have:=ZwF qs (b+Z79 q) s t h;omega
end
mutual
def LfP(T:Nat→Int→Int→Prop)(S:List Int→Int→Int→Prop):Pat→Nat→Prop
 | .mk k _ g ks,b=>(k=2→∀a e,T b a e↔S g a e)∧(k≠1→k≠2→LfL T S ks b)
def LfL(T:Nat→Int→Int→Prop)(S:List Int→Int→Int→Prop):List Pat→Nat→Prop
 | [],_=>True
 | q::qs,b=>LfP T S q b∧LfL T S qs (b+Z79 q)
end
section
variable{T:Nat→Int→Int→Prop}{S:List Int→Int→Int→Prop}
theorem Zmy{a e:Int}:Acc T ZbG a e↔a=e:=⟨fun h=>h.elim (fun h=>h.2) (fun⟨_,_,_,h,_⟩=>h.elim),fun h=>.inl ⟨trivial,h⟩⟩
theorem ZtY{a e:Int}:Acc T noE a e↔False:=⟨fun h=>h.elim (fun h=>h.1) (fun⟨_,_,_,h,_⟩=>h.elim),False.elim⟩
theorem ZrO{b:Nat}{a e:Int}:Acc T (Zt5 b) a e↔T b a e:=by
 constructor
 ·rintro(⟨h,_⟩ | ⟨s,m,t,rfl,hT,hr,rfl⟩)
  ·exact h.elim
  ·cases hr with
   | refl=>exact hT
   | step _ _ _ _ _ _ h=>exact h.elim
 ·intro h
  exact .inr ⟨b,e,b,rfl,h,.refl _ _,rfl⟩
theorem Zh1{r q:Int→Int→Prop}(h:∀a b,r a b↔q a b){a b:Int}:Clo r a b↔Clo q a b:=by
 have:r=q:=funext fun a=>funext fun b=>propext (h a b)
 rw[this]
mutual
theorem Zmw:∀(p:Pat) (b:Nat),LfP T S p b→∀a e,Acc T (geP p b) a e↔MR S p a e
 | .mk k r g ks,b,h,a,e=>by
  simp only[LfP] at h;simp only[geP,MR];by_cases h1:k=1
  ·rw[if_pos h1,if_pos h1];exact Zmy
  rw[if_neg h1,if_neg h1];by_cases h2:k=2
  ·rw[if_pos h2,if_pos h2,ZrO];exact h.1 h2 a e
  rw[if_neg h2,if_neg h2];have hL:=h.2 h1 h2;by_cases h3:k=3
  ·rw[if_pos h3,if_pos h3];exact ZrK ks b hL a e
  rw[if_neg h3,if_neg h3];by_cases h4:k=4
  ·rw[if_pos h4,if_pos h4];exact ZtX ks b hL a e
  rw[if_neg h4,if_neg h4];exact ZvP ks k b hL a e
theorem ZrK:∀(ks:List Pat) (b:Nat),LfL T S ks b→∀a e,Acc T (geA ks b) a e↔MA S ks a e
 | [],b,h,a,e=>by simp only[geA,MA];exact Zmy
 | q::qs,b,h,a,e=>by
  simp only[LfL] at h;simp only[geA,MA];rw[ZrM (Zp9 q b) (Zw8 qs (b+Z79 q))];exact⟨fun⟨m,h1,h2⟩=>⟨m,(Zmw q b h.1 a m).mp h1,(ZrK qs _ h.2 m e).mp h2⟩,fun⟨m,h1,h2⟩=>⟨m,(Zmw q b h.1 a m).mpr h1,(ZrK qs _ h.2 m e).mpr h2⟩⟩
theorem ZtX:∀(ks:List Pat) (b:Nat),LfL T S ks b→∀a e,Acc T (geO ks b) a e↔MO S ks a e
 | [],b,h,a,e=>by simp only[geO,MO];exact ZtY
 | q::qs,b,h,a,e=>by
  simp only[LfL] at h;simp only[geO,MO];rw[ZrL (Zp9 q b) (Zw9 qs (b+Z79 q)),Zmw q b h.1 a e,ZtX qs _ h.2 a e]
theorem ZvP:∀(ks:List Pat) (k:Int) (b:Nat),LfL T S ks b→∀a e,Acc T ⟨(geG ks k b).nul,(geG ks k b).fst,(geG ks k b).lst,fun s t=>(geG ks k b).fol s t∨geW ks b s t⟩ a e↔(if k=7∨k=5∨k=6 then MG S ks k a e else False)
 | [],k,b,h,a,e=>by
  simp only[geG,MG];have:Acc T ⟨noE.nul,noE.fst,noE.lst,fun s t=>noE.fol s t∨geW [] b s t⟩ a e↔False:=⟨fun h=>h.elim (fun h=>h.1) (fun⟨_,_,_,h,_⟩=>h.elim),False.elim⟩;rw[this];split<;>rfl
 | [q],k,b,h,a,e=>by
  simp only[LfL] at h;have hq:=Zmw q b h.1;have hW:∀s t,geW [q] b s t↔(geP q b).fol s t:=fun s t=>by simp only[geW];exact⟨fun h=>h.elim id False.elim,.inl⟩
  by_cases h7:k=7
  ·have hg:geG [q] k b=Zbk (geP q b):=by simp only[geG];rw[if_pos h7]
   rw[if_pos (.inl h7),hg];have e1:(fun s t=>(Zbk (geP q b)).fol s t∨geW [q] b s t)=(Zbk (geP q b)).fol:=funext fun s=>funext fun t=>propext ⟨fun h=>h.elim id (hW s t).mp,.inl⟩
   rw[e1];show Acc T (Zbk (geP q b)) a e↔_
   rw[Zmx,hq a e];simp only[MG];rw[if_pos h7];have:k≠6:=by omega
   exact⟨fun h=>h.elim (fun h=>.inl ⟨this,h⟩) .inr,fun h=>h.elim (fun h=>.inl h.2) .inr⟩
  ·by_cases h56:k=5∨k=6
   ·have hg:geG [q] k b=ZdY (geP q b) (k≠6):=by simp only[geG];rw[if_neg h7,if_pos h56]
    rw[if_pos (.inr h56),hg];have e1:(fun s t=>(ZdY (geP q b) (k≠6)).fol s t∨geW [q] b s t)=(ZdY (geP q b) (k≠6)).fol:=funext fun s=>funext fun t=>propext ⟨fun h=>h.elim id (fun h=>.inl ((hW s t).mp h)),.inl⟩
    rw[e1];show Acc T (ZdY (geP q b) (k≠6)) a e↔_
    rw[Zpq];simp only[MG];rw[if_neg h7,Zh1 hq]
   ·have hg:geG [q] k b=noE:=by simp only[geG];rw[if_neg h7,if_neg h56]
    rw[if_neg (by omega),hg];exact⟨fun h=>h.elim (fun h=>h.1) (fun⟨_,_,_,h,_⟩=>h.elim),False.elim⟩
 | p::q::r,k,b,h,a,e=>by
  simp only[geG,MG];have:Acc T ⟨noE.nul,noE.fst,noE.lst,fun s t=>noE.fol s t∨geW (p::q::r) b s t⟩ a e↔False:=⟨fun h=>h.elim (fun h=>h.1) (fun⟨_,_,_,h,_⟩=>h.elim),False.elim⟩;rw[this];split<;>rfl
end
end
end Go.Rf
namespace Go.Rf
open Go.RowKit
attribute [local simp] Z4c Z48 Z2M Z2a Z2P Z2R Z2Q Z4a Z4b Z1e Z16 Z0c Z0B Z0q Z08 Z0o Z0h Z09 Z0p Z0i Z0Y Z0j Z0z Z0K Z0k Z0J Z1W Z3U Z0X Z25 Z22 Z24 Z23 Z26 Z1j Z0D Z11 Z12 Z1T Z1U Z1V Z0H Z0I Z1i Z0r Z0W Z20 Z1X Z1Z Z1Y Z21 Z1k Z13 Z1g Z0U Z0V Z0C Z1h Z0P Z1a Z1f Z14 Z1l ex Z00 Z0R Z6K Z6P Z0f Z0g Z0A Z2k Z1d Z10 Z0y Z0F Z0G Z0E Z0s Z0Z Z5y Z0O Z37 Z1c Z1O Z1R Z3s Z0b Z1q Z19 Z0Q Z1F Z3S Z1P Z6A Z3C Z6z Z3w Z2Y Z3t Z6w Z3D Z51 AV.solid S0 Z06 Z1n
theorem Vec.cell{g:Nat→Option Blk}{v:AV}{es:Nat}{xs:List AV}(h:Vec g v es xs):v.cells=[v]∧v.solid=true:=by
 rcases h with⟨rfl,_⟩ | ⟨_,_,_,rfl,_⟩<;>exact⟨rfl,rfl⟩
theorem Z6u.cells{g:Nat→Option Blk}{n:Nat}{av:List Nat}{vs:List AV}{ls:List (List AV)}(h:Z6u g n av vs ls):∀v∈vs,v.cells.length=1:=by
 intro v hv;obtain⟨t,ht,rfl⟩:=List.getElem_of_mem hv;rw[(h.row t ht (by rw[←h.len];exact ht)).cell.1];rfl
end Go.Rf
namespace Go.Rf
open Go.RowKit
theorem ZdG{n:Net}{i:Nat}(h:i < n.follow.length):n.follow.getD i []=n.follow[i]:=by
 rw[List.getD_eq_getElem?_getD,List.getElem?_eq_getElem h];rfl
def ZiL(n:Net)(p q s:Int):Prop:=0≤p∧p < n.follow.length∧q∈n.follow.getD p.toNat []∧ZbM n s q=true
theorem Z8F{n:Net}{a:List Int}{s q:Int}:q∈Z70 n a s↔∃p∈a,ZiL n p q s:=by
 unfold Z70 Z3P Z6v ZiL;rw[Z4o,List.mem_flatMap];constructor
 ·rintro⟨p,hp,h⟩
  split at h
  ·rename_i hb
   have:=List.mem_filter.mp h;exact⟨p,hp,hb.1,hb.2,this.1,this.2⟩
  ·simp at h
 ·rintro⟨p,hp,h1,h2,h3,h4⟩
  exact⟨p,hp,by rw[if_pos ⟨h1,h2⟩];exact List.mem_filter.mpr ⟨h3,h4⟩⟩
def Ztx(n:Net):Int→List Int→Prop
 | p,[]=>p∈n.last
 | p,s::l=>∃q,ZiL n p q s∧Ztx n q l
theorem ZjB{n:Net}:∀(l a:List Int),(∃q∈l.foldl (Z70 n) a,q∈n.last)↔∃p∈a,Ztx n p l
 | [],a=>Iff.rfl
 | s::l,a=>by
  rw[List.foldl_cons,ZjB l (Z70 n a s)];constructor
  ·rintro⟨q,h1,h2⟩
   obtain⟨p,h3,h4⟩:=Z8F.mp h1;exact⟨p,h3,q,h4,h2⟩
  ·rintro⟨p,h3,q,h4,h2⟩
   exact⟨q,Z8F.mpr ⟨p,h3,h4⟩,h2⟩
theorem Zpp{n:Net}{l:List Int}:Zm7 n l=true↔Z4p n=true∧Ztx n 0 l:=by
 unfold Zm7 ZhS;rw[Bool.and_eq_true,List.any_eq_true];refine and_congr_right (fun _=>?_);have:=ZjB (n:=n) l [0];simp only[List.mem_singleton,exists_eq_left] at this;rw[←this];constructor
 ·rintro⟨q,h1,h2⟩;exact⟨q,h1,by simpa using h2⟩
 ·rintro⟨q,h1,h2⟩;exact⟨q,h1,by simpa using h2⟩
theorem Ze9(n:Net)(l:List Int)(s:Int):ZhS n (l++[s])=Z70 n (ZhS n l) s:=by
 unfold ZhS;rw[List.foldl_append];rfl
structure Zph(n:Net)(E:GE):Prop where
 R:Z4H n
 inn:In E 1 n.by_.length
 f0:∀t:Nat,(t:Int)∈n.follow.getD 0 []↔E.fst t
 fs:∀s t:Nat,1≤s→((t:Int)∈n.follow.getD s []↔E.fol s t)
 l0:(0:Int)∈n.last↔E.nul
 ls:∀s:Nat,1≤s→((s:Int)∈n.last↔E.lst s)
def sgT(n:Net)(l:List Int)(s:Nat)(a b:Int):Prop:=stp l (n.by_.getD s []) a b
theorem ZkO{n:Net}{l:List Int}{i q:Nat}(h:i < l.length){m:Int}:sgT n l q i m↔m=(i:Int)+1∧ZbM n l[i] q=true:=by
 unfold sgT stp ZbM;have hg:l.getD i 0=l[i]:=by rw[List.getD_eq_getElem?_getD,List.getElem?_eq_getElem h];rfl
 rw[Int.toNat_natCast,Int.toNat_natCast,hg];constructor
 ·rintro⟨h1,h2,h3,h4⟩;exact⟨h1,by simpa using h4⟩
 ·rintro⟨h1,h2⟩;exact⟨h1,by omega,by omega,by simpa using h2⟩
theorem ZfO{n:Net}{E:GE}(h:Zph n E){p:Nat}{q:Int}{s:Int}(hp:p < n.by_.length):ZiL n p q s↔∃t:Nat,q=t∧(if p=0 then E.fst t else E.fol p t)∧ZbM n s t=true:=by
 unfold ZiL;rw[Int.toNat_natCast];constructor
 ·rintro⟨h1,h2,h3,h4⟩
  have hq:0≤q:=by
   rw[ZdG (by omega)] at h3;have:=(h.R.follow p (by omega)).2 q h3;omega
  have e:((q.toNat:Nat):Int)=q:=by omega
  refine⟨q.toNat,e.symm,?_,by rw[e];exact h4⟩;rw[←e] at h3;split
  ·rename_i hp0;subst hp0;exact(h.f0 _).mp h3
  ·exact(h.fs p _ (by omega)).mp h3
 ·rintro⟨t,rfl,h1,h2⟩
  refine⟨by omega,by rw[h.R.len];omega,?_,h2⟩;split at h1
  ·rename_i hp0;subst hp0;exact(h.f0 _).mpr h1
  ·exact(h.fs p _ (by omega)).mpr h1
theorem Zfx{n:Net}{E:GE}(h:Zph n E){l:List Int}:∀(k i t:Nat),i+k=l.length→1≤t→t < n.by_.length→(Ztx n t (l.drop i)↔∃u,Rn (sgT n l) E.fol t i u l.length∧E.lst u)
 | 0,i,t,hk,h1,h2=>by
  rw[List.drop_eq_nil_of_le (by omega)];have hi:i=l.length:=by omega
  subst hi;show(t:Int)∈n.last↔_
  rw[h.ls t h1];constructor
  ·intro hl;exact⟨t,.refl _ _,hl⟩
  ·rintro⟨u,hr,hl⟩
   cases hr with
   | refl=>exact hl
   | step _ q _ _ m _ hf hT hr =>
    obtain⟨_,_,h4,_⟩:=hT;omega
 | k+1,i,t,hk,h1,h2=>by
  have hi:i < l.length:=by omega
  rw[List.drop_eq_getElem_cons hi];show(∃q,ZiL n t q l[i]∧Ztx n q (l.drop (i+1)))↔_
  constructor
  ·rintro⟨q,he,ha⟩
   obtain⟨q',rfl,hf,hb⟩:=(ZfO h h2).mp he;rw[if_neg (by omega)] at hf;obtain⟨_,hq1,hq2⟩:=h.inn.fol t q' hf;obtain⟨u,hr,hl⟩:=(Zfx h k (i+1) q' (by omega) hq1 hq2).mp ha;exact⟨u,.step _ _ _ _ _ _ hf ((ZkO hi).mpr ⟨rfl,hb⟩) (by rw[Int.natCast_add,Int.natCast_one] at hr;exact hr),hl⟩
  ·rintro⟨u,hr,hl⟩
   generalize hL:(l.length:Int)=L at hr;cases hr with
   | refl=>omega
   | step _ q' _ _ m _ hf hT hr =>
    subst hL;obtain⟨rfl,hb⟩:=(ZkO hi).mp hT;obtain⟨_,hq1,hq2⟩:=h.inn.fol t q' hf;refine⟨q',(ZfO h h2).mpr ⟨q',rfl,by rw[if_neg (by omega)];exact hf,hb⟩,(Zfx h k (i+1) q' (by omega) hq1 hq2).mpr ⟨u,?_,hl⟩⟩;rw[Int.natCast_add,Int.natCast_one];exact hr
theorem ZrN{n:Net}{E:GE}(h:Zph n E)(l:List Int):Zm7 n l=true↔Acc (sgT n l) E 0 l.length:=by
 have hR:Z4p n=true:=(Z5c n).mpr h.R;have hn1:=h.R.n1;rw[Zpp];simp only[hR,true_and];cases l with
 | nil =>
  show(0:Int)∈n.last↔_
  rw[h.l0];constructor
  ·intro hn;exact .inl ⟨hn,rfl⟩
  ·rintro(⟨hn,_⟩ | ⟨s,m,t,hf,hT,hr,hl⟩)
   ·exact hn
   ·obtain⟨_,_,h4,_⟩:=hT
    simp at h4
 | cons s l =>
  have hi:0 < (s::l).length:=by simp
  show(∃q,ZiL n 0 q s∧Ztx n q l)↔_
  constructor
  ·rintro⟨q,he,ha⟩
   obtain⟨q',rfl,hf,hb⟩:=(ZfO h (p:=0) (by omega)).mp he;rw[if_pos rfl] at hf;obtain⟨hq1,hq2⟩:=h.inn.fst q' hf;obtain⟨u,hr,hl⟩:=(Zfx h (l:=s::l) l.length 1 q' (by simp;omega) hq1 hq2).mp ha;exact .inr ⟨q',1,u,hf,(ZkO (i:=0) hi).mpr ⟨rfl,hb⟩,hr,hl⟩
  ·rintro(⟨_,hn⟩ | ⟨q',m,u,hf,hT,hr,hl⟩)
   ·simp at hn;omega
   ·obtain⟨rfl,hb⟩:=(ZkO (i:=0) hi).mp hT
    obtain⟨hq1,hq2⟩:=h.inn.fst q' hf;refine⟨q',(ZfO h (p:=0) (by omega)).mpr ⟨q',rfl,by rw[if_pos rfl];exact hf,hb⟩,?_⟩;exact(Zfx h (l:=s::l) l.length 1 q' (by simp;omega) hq1 hq2).mpr ⟨u,hr,hl⟩
structure Gs where
 by_:List (List Int)
 fo:List (List Int)
structure Ed where
 nul:Bool
 fst:List Int
 lst:List Int
def Z6k(fo:List (List Int)):List Int→List Int→List (List Int)
 | [],_=>fo
 | s::ss,be=>Z6k (fo.set s.toNat (Z6l (fo.getD s.toNat []++be))) ss be
def Z61:List Ed→Ed→Gs→Ed×Gs
 | [],all,st=>(all,st)
 | e::es,all,st=>Z61 es ⟨all.nul && e.nul,if all.nul=true then Z6l (all.fst++e.fst) else all.fst,Z6l ((if e.nul=true then all.lst else [])++e.lst)⟩ ⟨st.by_,Z6k st.fo all.lst e.fst⟩
def Z5G:List Ed→Ed→Ed
 | [],all=>all
 | e::es,all=>Z5G es ⟨all.nul || e.nul,Z6l (all.fst++e.fst),Z6l (all.lst++e.lst)⟩
def ZbF:List Ed→Int→Gs→Ed×Gs
 | [e],k,st=>if 5≤k∧k≤7 then (⟨e.nul || decide (k≠6),e.fst,e.lst⟩,if k=7 then st else ⟨st.by_,Z6k st.fo e.lst e.fst⟩) else (⟨false,[],[]⟩,st)
 | _,_,st=>(⟨false,[],[]⟩,st)
def ZaG(sg:Int)(g:List Int):List Int:=Z6l (g.filter fun n=>decide (0≤n) && decide (n < sg))
mutual
def Z2Z(sg:Int):Pat→Gs→Ed×Gs
 | .mk k _ g ks,st=>if k=1 then (⟨true,[],[]⟩,st) else if k=2 then (⟨false,[(st.by_.length:Int)],[(st.by_.length:Int)]⟩,⟨st.by_++[ZaG sg g],st.fo++[[]]⟩)
  else if k=3 then Z61 (Z30 sg ks st).1 ⟨true,[],[]⟩ (Z30 sg ks st).2 else if k=4 then (Z5G (Z30 sg ks st).1 ⟨false,[],[]⟩,(Z30 sg ks st).2) else ZbF (Z30 sg ks st).1 k (Z30 sg ks st).2
def Z30(sg:Int):List Pat→Gs→List Ed×Gs
 | [],st=>([],st)
 | q::qs,st=>((Z2Z sg q st).1::(Z30 sg qs (Z2Z sg q st).2).1,(Z30 sg qs (Z2Z sg q st).2).2)
end
def FoR(fo:List (List Int))(s t:Nat):Prop:=(t:Int)∈fo.getD s []
def Up(l:List Int):Prop:=l.Pairwise (· < ·)∧∀x∈l,0≤x
structure Zcs(e:Ed)(E:GE):Prop where
 nul:e.nul=true↔E.nul
 fst:∀t:Nat,(t:Int)∈e.fst↔E.fst t
 lst:∀t:Nat,(t:Int)∈e.lst↔E.lst t
 uf:Up e.fst
 ul:Up e.lst
theorem Zco:Up []:=⟨by simp,by simp⟩
theorem Zp4(n:Nat):Up [(n:Int)]:=⟨by simp,fun x hx=>by simp at hx;omega⟩
theorem Zfp{a b:List Int}(ha:∀x∈a,0≤x)(hb:∀x∈b,0≤x):Up (Z6l (a++b)) :=
 ⟨Z8r _,fun x hx=>(List.mem_append.mp (Z4o.mp hx)).elim (ha x) (hb x)⟩
theorem Z7k:∀(ss:List Int) (fo:List (List Int)) (be:List Int),(Z6k fo ss be).length=fo.length
 | [],fo,be=>rfl
 | s::ss,fo,be=>by rw[Z6k,Z7k ss];simp
theorem ZcO:∀(ss:List Int) (fo:List (List Int)) (be:List Int),(∀x∈ss,0≤x)→∀s t:Nat,FoR (Z6k fo ss be) s t↔FoR fo s t∨((s:Int)∈ss∧s < fo.length∧(t:Int)∈be)
 | [],fo,be,_,s,t=>by simp[Z6k]
 | x::ss,fo,be,h,s,t=>by
  have h0:=h x (by simp);rw[Z6k,ZcO ss _ be (fun y hy=>h y (by simp[hy])) s t,List.length_set]
  have key:FoR (fo.set x.toNat (Z6l (fo.getD x.toNat []++be))) s t↔FoR fo s t∨(x=s∧s < fo.length∧(t:Int)∈be):=by
   unfold FoR;rw[List.getD_eq_getElem?_getD,List.getElem?_set];by_cases e:x.toNat=s
   ·rw[if_pos e]
    have e2:x=s:=by omega
    by_cases hl:s < fo.length
    ·rw[if_pos (by omega),Option.getD_some,Z4o,List.mem_append,e]
     exact⟨fun h=>h.elim .inl (fun h=>.inr ⟨e2,hl,h⟩),fun h=>h.elim .inl (fun h=>.inr h.2.2)⟩
    ·rw[if_neg (by omega),Option.getD_none]
     constructor
     ·intro h;simp at h
     ·rintro(h | ⟨_,h,_⟩)
      ·rw[List.getD_eq_getElem?_getD,List.getElem?_eq_none (by omega)] at h;exact h
      ·omega
   ·rw[if_neg e,←List.getD_eq_getElem?_getD]
    exact⟨.inl,fun h=>h.elim id (fun h=>by omega)⟩
  rw[key];simp only[List.mem_cons];constructor
  ·rintro((h | ⟨h1,h2,h3⟩) | ⟨h1,h2,h3⟩)
   ·exact .inl h
   ·exact .inr ⟨.inl h1.symm,h2,h3⟩
   ·exact .inr ⟨.inr h1,h2,h3⟩
  ·rintro(h | ⟨h1 | h1,h2,h3⟩)
   ·exact .inl (.inl h)
   ·exact .inl (.inr ⟨h1.symm,h2,h3⟩)
   ·exact .inr ⟨h1,h2,h3⟩
theorem ZfQ:∀(ss:List Int) (fo:List (List Int)) (be:List Int),(∀r∈fo,Up r)→(∀x∈be,0≤x)→∀r∈Z6k fo ss be,Up r
 | [],fo,be,h,_=>h
 | x::ss,fo,be,h,hb=>by
  refine ZfQ ss _ be (fun r hr=>?_) hb;rcases List.mem_or_eq_of_mem_set hr with hr | rfl
  ·exact h r hr
  ·refine Zfp (fun y hy=>?_) hb
   rw[List.getD_eq_getElem?_getD] at hy;cases hg:fo[x.toNat]? with
   | none=>rw[hg] at hy;simp at hy
   | some r=>rw[hg] at hy;exact(h r (List.mem_of_getElem? hg)).2 y hy
def Zdw:List Pat→Nat→Nat→Nat→Prop
 | [],_,_,_=>False
 | q::qs,b,s,t=>((geP q b).lst s∧(geA qs (b+Z79 q)).fst t)∨Zdw qs (b+Z79 q) s t
theorem ZnG:∀(ks:List Pat) (b s t:Nat),(geA ks b).fol s t↔geW ks b s t∨Zdw ks b s t
 | [],b,s,t=>by simp only[geA,geW,Zdw,ZbG];simp
 | q::qs,b,s,t=>by
  simp only[geA,geW,Zdw,Zar];rw[ZnG qs];constructor
  ·rintro(h | (h | h) | h)
   ·exact .inl (.inl h)
   ·exact .inl (.inr h)
   ·exact .inr (.inr h)
   ·exact .inr (.inl h)
  ·rintro((h | h) | (h | h))
   ·exact .inl h
   ·exact .inr (.inl (.inl h))
   ·exact .inr (.inr h)
   ·exact .inr (.inl (.inr h))
theorem ZiV:∀(ks:List Pat) (b s t:Nat),(geO ks b).fol s t↔geW ks b s t
 | [],b,s,t=>by simp only[geO,geW,noE]
 | q::qs,b,s,t=>by
  simp only[geO,geW,ZaX];rw[ZiV qs]
def Za8:List Ed→List Pat→Nat→Prop
 | [],[],_=>True
 | e::es,q::qs,b=>Zcs e (geP q b)∧Za8 es qs (b+Z79 q)
 | _,_,_=>False
theorem Zrb{e f:Ed}{E G:GE}(h:Zcs e E)(k:Zcs f G):Zcs ⟨e.nul && f.nul,if e.nul=true then Z6l (e.fst++f.fst) else e.fst,Z6l ((if f.nul=true then e.lst else [])++f.lst)⟩ (Zar E G):=by
 refine⟨?_,fun t=>?_,fun t=>?_,?_,?_⟩
 ·simp only[Bool.and_eq_true,h.nul,k.nul,Zar]
 ·simp only[Zar]
  have h1:=h.fst t;have h2:=k.fst t;have h3:=h.nul;cases hn:e.nul with
  | true =>
   rw[hn] at h3;have:=h3.mp rfl;simp only[if_true,Z4o,List.mem_append,h1,h2];exact⟨fun x=>x.elim .inl (fun x=>.inr ⟨this,x⟩),fun x=>x.elim .inl (fun x=>.inr x.2)⟩
  | false =>
   rw[hn] at h3;have:¬E.nul:=fun x=>by have:=h3.mpr x;cases this
   simp only[Bool.false_eq_true,if_false,h1];exact⟨.inl,fun x=>x.elim id (fun x=>(this x.1).elim)⟩
 ·simp only[Zar,Z4o,List.mem_append]
  have h1:=h.lst t;have h2:=k.lst t;have h3:=k.nul;cases hn:f.nul with
  | true =>
   rw[hn] at h3;have:=h3.mp rfl;simp only[if_true,h1,h2];exact⟨fun x=>x.elim (fun x=>.inl ⟨x,this⟩) .inr,fun x=>x.elim (fun x=>.inl x.1) .inr⟩
  | false =>
   rw[hn] at h3;have:¬G.nul:=fun x=>by have:=h3.mpr x;cases this
   simp only[Bool.false_eq_true,if_false,List.not_mem_nil,false_or,h2];exact⟨.inr,fun x=>x.elim (fun x=>(this x.2).elim) id⟩
 ·simp only
  split
  ·exact Zfp h.uf.2 k.uf.2
  ·exact h.uf
 ·refine Zfp (fun x hx=>?_) k.ul.2
  split at hx
  ·exact h.ul.2 x hx
  ·simp at hx
theorem Zra{e f:Ed}{E G:GE}(h:Zcs e E)(k:Zcs f G):Zcs ⟨e.nul || f.nul,Z6l (e.fst++f.fst),Z6l (e.lst++f.lst)⟩ (ZaX E G):=by
 refine⟨?_,fun t=>?_,fun t=>?_,Zfp h.uf.2 k.uf.2,Zfp h.ul.2 k.ul.2⟩
 ·simp only[Bool.or_eq_true,h.nul,k.nul,ZaX]
 ·simp only[Z4o,List.mem_append,h.fst,k.fst,ZaX]
 ·simp only[Z4o,List.mem_append,h.lst,k.lst,ZaX]
theorem Z6t{e:Ed}{E G:GE}(h:Zcs e E)(hn:E.nul↔G.nul)(h1:∀t,E.fst t↔G.fst t)(h2:∀t,E.lst t↔G.lst t):Zcs e G :=
 ⟨h.nul.trans hn,fun t=>(h.fst t).trans (h1 t),fun t=>(h.lst t).trans (h2 t),h.uf,h.ul⟩
structure Zek(st:Gs):Prop where
 len:st.fo.length=st.by_.length
 up:∀r∈st.fo,Up r
theorem ZcQ:∀(es:List Ed) (all:Ed) (st:Gs),(Z61 es all st).2.by_=st.by_∧(Z61 es all st).2.fo.length=st.fo.length
 | [],all,st=>⟨rfl,rfl⟩
 | e::es,all,st=>by
  obtain⟨h1,h2⟩:=ZcQ es ⟨all.nul && e.nul,if all.nul=true then Z6l (all.fst++e.fst) else all.fst,Z6l ((if e.nul=true then all.lst else [])++e.lst)⟩ ⟨st.by_,Z6k st.fo all.lst e.fst⟩;rw[Z61];exact⟨h1,h2.trans (Z7k _ _ _)⟩
theorem Zkj:∀(es:List Ed) (ks:List Pat) (b:Nat) (all:Ed) (A:GE) (st:Gs),Za8 es ks b→Zcs all A→Zek st→b+Z76 ks≤st.fo.length→(∀s,A.lst s→s < st.fo.length) →
  Zcs (Z61 es all st).1 (Zar A (geA ks b))∧(∀r∈(Z61 es all st).2.fo,Up r)∧∀s t,FoR (Z61 es all st).2.fo s t↔FoR st.fo s t∨Zdw ks b s t∨(A.lst s∧(geA ks b).fst t)
 | [],[],b,all,A,st,_,hA,hst,_,_=>by
  simp only[Z61,geA,Zdw];refine⟨Z6t hA ?_ (fun t=>?_) (fun t=>?_),hst.up,fun s t=>?_⟩
  ·simp[Zar,ZbG]
  ·simp[Zar,ZbG]
  ·simp[Zar,ZbG]
  ·simp[ZbG]
 | [],_::_,_,_,_,_,h,_,_,_,_=>by simp[Za8] at h
 | _::_,[],_,_,_,_,h,_,_,_,_=>by simp[Za8] at h
 | e::es,q::qs,b,all,A,st,h,hA,hst,hl,hlt=>by
  simp only[Za8] at h;simp only[Z76] at hl;have hE:=Zp9 q b;have hc:=Zrb hA h.1;have hst':Zek ⟨st.by_,Z6k st.fo all.lst e.fst⟩:=⟨(Z7k _ _ _).trans hst.len,ZfQ _ _ _ hst.up h.1.uf.2⟩
  obtain⟨i1,i2,i3⟩:=Zkj es qs (b+Z79 q) ⟨all.nul && e.nul,if all.nul=true then Z6l (all.fst++e.fst) else all.fst,Z6l ((if e.nul=true then all.lst else [])++e.lst)⟩ (Zar A (geP q b)) ⟨st.by_,Z6k st.fo all.lst e.fst⟩ h.2 hc hst' (by rw[Z7k];omega) (fun s hs=>by
   rw[Z7k];rcases hs with⟨hs,_⟩ | hs
   ·exact hlt s hs
   ·have:=hE.lst s hs;omega)
  simp only[Z61,geA,Zdw];refine⟨Z6t i1 ?_ (fun t=>?_) (fun t=>?_),i2,fun s t=>?_⟩
  ·simp only[Zar,and_assoc]
  ·simp only[Zar]
   constructor
   ·rintro((h | ⟨h1,h2⟩) | ⟨⟨h1,h2⟩,h3⟩)
    ·exact .inl h
    ·exact .inr ⟨h1,.inl h2⟩
    ·exact .inr ⟨h1,.inr ⟨h2,h3⟩⟩
   ·rintro(h | ⟨h1,h2 | ⟨h2,h3⟩⟩)
    ·exact .inl (.inl h)
    ·exact .inl (.inr ⟨h1,h2⟩)
    ·exact .inr ⟨⟨h1,h2⟩,h3⟩
  ·simp only[Zar]
   constructor
   ·rintro(⟨⟨h1,h2⟩ | h1,h3⟩ | h)
    ·exact .inl ⟨h1,h2,h3⟩
    ·exact .inr (.inl ⟨h1,h3⟩)
    ·exact .inr (.inr h)
   ·rintro(⟨h1,h2,h3⟩ | ⟨h1,h3⟩ | h)
    ·exact .inl ⟨.inl ⟨h1,h2⟩,h3⟩
    ·exact .inl ⟨.inr h1,h3⟩
    ·exact .inr h
  ·rw[i3,ZcO _ _ _ hA.ul.2]
   have e1:=hA.lst s;have e2:=h.1.fst t;rw[e1,e2];simp only[Zar];constructor
   ·rintro((h | ⟨h1,h2,h3⟩) | h | ⟨⟨h1,h2⟩ | h1,h3⟩)
    ·exact .inl h
    ·exact .inr (.inr ⟨h1,.inl h3⟩)
    ·exact .inr (.inl (.inr h))
    ·exact .inr (.inr ⟨h1,.inr ⟨h2,h3⟩⟩)
    ·exact .inr (.inl (.inl ⟨h1,h3⟩))
   ·rintro(h | (⟨h1,h3⟩ | h) | ⟨h1,h2 | ⟨h2,h3⟩⟩)
    ·exact .inl (.inl h)
    ·exact .inr (.inr ⟨.inr h1,h3⟩)
    ·exact .inr (.inl h)
    ·exact .inl (.inr ⟨h1,hlt s h1,h2⟩)
    ·exact .inr (.inr ⟨.inl ⟨h1,h2⟩,h3⟩)
theorem Zf2:∀(es:List Ed) (ks:List Pat) (b:Nat) (all:Ed) (A:GE),Za8 es ks b→Zcs all A→Zcs (Z5G es all) (ZaX A (geO ks b))
 | [],[],b,all,A,_,hA=>by
  simp only[Z5G,geO];exact Z6t hA (by simp[ZaX,noE]) (fun t=>by simp[ZaX,noE]) (fun t=>by simp[ZaX,noE])
 | [],_::_,_,_,_,h,_=>by simp[Za8] at h
 | _::_,[],_,_,_,h,_=>by simp[Za8] at h
 | e::es,q::qs,b,all,A,h,hA=>by
  simp only[Za8] at h;simp only[Z5G,geO];exact Z6t (Zf2 es qs (b+Z79 q) _ _ h.2 (Zra hA h.1)) (by simp only[ZaX,or_assoc]) (fun t=>by simp only[ZaX,or_assoc]) (fun t=>by simp only[ZaX,or_assoc])
mutual
def lvP(sg:Int):Pat→List (List Int)
 | .mk k _ g ks=>if k=1 then [] else if k=2 then [ZaG sg g] else lvL sg ks
def lvL(sg:Int):List Pat→List (List Int)
 | []=>[]
 | q::qs=>lvP sg q++lvL sg qs
end
structure ZgC(sg:Int)(p:Pat)(st:Gs)(r:Ed×Gs):Prop where
 by_:r.2.by_=st.by_++lvP sg p
 len:(lvP sg p).length=Z79 p
 ok:Zek r.2
 ed:Zcs r.1 (geP p st.by_.length)
 fo:∀s t,FoR r.2.fo s t↔FoR st.fo s t∨(geP p st.by_.length).fol s t
structure ZtI(sg:Int)(ks:List Pat)(st:Gs)(r:List Ed×Gs):Prop where
 by_:r.2.by_=st.by_++lvL sg ks
 len:(lvL sg ks).length=Z76 ks
 ok:Zek r.2
 eds:Za8 r.1 ks st.by_.length
 fo:∀s t,FoR r.2.fo s t↔FoR st.fo s t∨geW ks st.by_.length s t
theorem Znm:Zcs ⟨true,[],[]⟩ ZbG:=⟨by simp[ZbG],by simp[ZbG],by simp[ZbG],Zco,Zco⟩
theorem Zsk:Zcs ⟨false,[],[]⟩ noE:=⟨by simp[noE],by simp[noE],by simp[noE],Zco,Zco⟩
theorem Zhf:∀(ss:List Int) (fo:List (List Int)) (be:List Int) (s t:Nat),FoR fo s t→FoR (Z6k fo ss be) s t
 | [],fo,be,s,t,h=>h
 | x::ss,fo,be,s,t,h=>by
  refine Zhf ss _ be s t ?_;unfold FoR at h ⊢;rw[List.getD_eq_getElem?_getD,List.getElem?_set];by_cases e:x.toNat=s
  ·rw[if_pos e]
   by_cases hl:s < fo.length
   ·rw[if_pos (by omega),Option.getD_some,Z4o,List.mem_append,e]
    exact .inl h
   ·rw[List.getD_eq_getElem?_getD,List.getElem?_eq_none (by omega)] at h
    simp at h
  ·rw[if_neg e,←List.getD_eq_getElem?_getD];exact h
theorem ZnI(es:List Ed)(k:Int)(st:Gs)(s t:Nat)(h:FoR st.fo s t):FoR (ZbF es k st).2.fo s t:=by
 match es with
 | []=>exact h
 | [e] =>
  simp only[ZbF];split
  ·split
   ·exact h
   ·exact Zhf _ _ _ s t h
  ·exact h
 | _::_::_=>exact h
theorem Zsv{es:List Ed}{ks:List Pat}{k:Int}{b:Nat}{st:Gs}(h:Za8 es ks b)(hst:Zek st)(hl:b+Z76 ks≤st.fo.length) :
  (ZbF es k st).2.by_=st.by_∧Zek (ZbF es k st).2∧Zcs (ZbF es k st).1 (geG ks k b)∧∀s t,(FoR st.fo s t→geW ks b s t→True)→(FoR (ZbF es k st).2.fo s t∨geW ks b s t↔FoR st.fo s t∨(geG ks k b).fol s t∨geW ks b s t):=by
 have no:∀(st:Gs),Zek st→st.by_=st.by_∧Zek st∧Zcs ⟨false,[],[]⟩ noE∧∀s t,(FoR st.fo s t→geW ks b s t→True)→(FoR st.fo s t∨geW ks b s t↔FoR st.fo s t∨noE.fol s t∨geW ks b s t):=fun st h =>
  ⟨rfl,h,Zsk,fun s t _=>by simp[noE]⟩
 match es,ks,h with
 | [],[],_=>simp only[ZbF,geG];exact⟨trivial,(no st hst).2⟩
 | [e],[q],h =>
  simp only[Za8,and_true] at h;simp only[ZbF,geG];by_cases h7:k=7
  ·subst h7
   rw[if_pos (by omega),if_pos rfl,if_pos rfl];refine⟨rfl,hst,⟨by simp[Zbk],h.fst,h.lst,h.uf,h.ul⟩,fun s t _=>?_⟩;simp only[Zbk,geW,or_false];constructor
   ·rintro(h | h)
    ·exact .inl h
    ·exact .inr (.inl h)
   ·rintro(h | h | h)
    ·exact .inl h
    ·exact .inr h
    ·exact .inr h
  ·by_cases h56:k=5∨k=6
   ·rw[if_pos (by omega),if_neg h7,if_neg h7,if_pos h56]
    simp only[Z76,Nat.add_zero] at hl;refine⟨rfl,⟨(Z7k _ _ _).trans hst.len,ZfQ _ _ _ hst.up h.uf.2⟩,⟨?_,h.fst,h.lst,h.uf,h.ul⟩,fun s t _=>?_⟩
    ·simp only[ZdY,Bool.or_eq_true,h.nul,decide_eq_true_eq]
    ·rw[ZcO _ _ _ h.ul.2,h.lst,h.fst]
     simp only[ZdY,geW,or_false];constructor
     ·rintro((h1 | ⟨h1,h2,h3⟩) | h1)
      ·exact .inl h1
      ·exact .inr (.inl (.inr ⟨h1,h3⟩))
      ·exact .inr (.inr h1)
     ·rintro(h1 | (h1 | ⟨h1,h3⟩) | h1)
      ·exact .inl (.inl h1)
      ·exact .inr h1
      ·have:=(Zp9 q b).lst s h1
       exact .inl (.inr ⟨h1,by omega,h3⟩)
      ·exact .inr h1
   ·rw[if_neg (by omega),if_neg h7,if_neg h56]
    exact no st hst
 | _::_::_,_::_::_,_=>simp only[ZbF,geG];exact⟨trivial,(no st hst).2⟩
 | [],_::_,h=>simp[Za8] at h
 | _::_,[],h=>simp[Za8] at h
 | [_],_::_::_,h=>simp[Za8] at h
 | _::_::_,[_],h=>simp[Za8] at h
mutual
theorem Z9t(sg:Int):∀(p:Pat) (st:Gs),Zek st→ZgC sg p st (Z2Z sg p st)
 | .mk k r g ks,st,h=>by
  simp only[Z2Z];by_cases h1:k=1
  ·have hp:geP (.mk k r g ks) st.by_.length=ZbG:=by simp only[geP];rw[if_pos h1]
   rw[if_pos h1];refine⟨by simp[lvP,h1],by simp[lvP,Z79,h1],h,by rw[hp];exact Znm,fun s t=>by rw[hp];simp[ZbG]⟩
  rw[if_neg h1];by_cases h2:k=2
  ·have hp:geP (.mk k r g ks) st.by_.length=Zt5 st.by_.length:=by simp only[geP];rw[if_neg h1,if_pos h2]
   rw[if_pos h2];refine⟨by simp[lvP,h1,h2],by simp[lvP,Z79,h1,h2],⟨by simp[h.len],fun r hr=>?_⟩,?_,fun s t=>?_⟩
   ·rcases List.mem_append.mp hr with hr | hr
    ·exact h.up r hr
    ·rw[List.mem_singleton] at hr;subst hr;exact Zco
   ·rw[hp]
    exact⟨by simp[Zt5],fun t=>by simp[Zt5];omega,fun t=>by simp[Zt5];omega,Zp4 _,Zp4 _⟩
   ·rw[hp]
    simp only[Zt5,or_false];unfold FoR;rw[List.getD_eq_getElem?_getD,List.getD_eq_getElem?_getD];by_cases hs:s < st.fo.length
    ·rw[List.getElem?_append_left hs]
    ·rw[List.getElem?_eq_none (l:=st.fo) (by omega),List.getElem?_append_right (by omega)]
     by_cases he:s - st.fo.length=0
     ·rw[he];simp
     ·rw[List.getElem?_eq_none (by simp;omega)]
  rw[if_neg h2];have he:=Znl sg ks st h;have hlv:lvP sg (.mk k r g ks)=lvL sg ks:=by simp only[lvP];rw[if_neg h1,if_neg h2]
  have hcn:Z79 (.mk k r g ks)=Z76 ks:=by simp only[Z79];rw[if_neg h1,if_neg h2]
  have hlen:st.by_.length+Z76 ks≤(Z30 sg ks st).2.fo.length:=by
   rw[he.ok.len,he.by_,List.length_append,he.len];exact Nat.le_refl _
  by_cases h3:k=3
  ·have hp:geP (.mk k r g ks) st.by_.length=geA ks st.by_.length:=by simp only[geP];rw[if_neg h1,if_neg h2,if_pos h3]
   rw[if_pos h3];obtain⟨j1,j2⟩:=ZcQ (Z30 sg ks st).1 ⟨true,[],[]⟩ (Z30 sg ks st).2;obtain⟨i1,i2,i3⟩:=Zkj (Z30 sg ks st).1 ks st.by_.length ⟨true,[],[]⟩ ZbG (Z30 sg ks st).2 he.eds Znm he.ok hlen (fun s hs=>hs.elim);refine⟨by rw[j1,he.by_,hlv],by rw[hlv,hcn];exact he.len,⟨by rw[j2,j1];exact he.ok.len,i2⟩,?_,fun s t=>?_⟩
   ·rw[hp]
    exact Z6t i1 (by simp[Zar,ZbG]) (fun t=>by simp[Zar,ZbG]) (fun t=>by simp[Zar,ZbG])
   ·rw[i3,he.fo,hp,ZnG]
    simp only[ZbG,false_and,or_false,or_assoc]
  rw[if_neg h3];by_cases h4:k=4
  ·have hp:geP (.mk k r g ks) st.by_.length=geO ks st.by_.length:=by simp only[geP];rw[if_neg h1,if_neg h2,if_neg h3,if_pos h4]
   rw[if_pos h4];refine⟨by rw[he.by_,hlv],by rw[hlv,hcn];exact he.len,he.ok,?_,fun s t=>?_⟩
   ·rw[hp]
    exact Z6t (Zf2 _ ks st.by_.length _ noE he.eds Zsk) (by simp[ZaX,noE]) (fun t=>by simp[ZaX,noE]) (fun t=>by simp[ZaX,noE])
   ·rw[he.fo,hp,ZiV]
  rw[if_neg h4]
  have hp:geP (.mk k r g ks) st.by_.length=⟨(geG ks k st.by_.length).nul,(geG ks k st.by_.length).fst,(geG ks k st.by_.length).lst,fun s t=>(geG ks k st.by_.length).fol s t∨geW ks st.by_.length s t⟩:=by
   simp only[geP];rw[if_neg h1,if_neg h2,if_neg h3,if_neg h4]
  obtain⟨o1,o2,o3,o4⟩:=Zsv (k:=k) he.eds he.ok hlen;refine⟨by rw[o1,he.by_,hlv],by rw[hlv,hcn];exact he.len,o2,?_,fun s t=>?_⟩
  ·rw[hp]
   exact⟨o3.nul,o3.fst,o3.lst,o3.uf,o3.ul⟩
  ·rw[hp]
   have h5:=o4 s t (fun _ _=>trivial);have h6:=he.fo s t;have h7:geW ks st.by_.length s t→FoR (ZbF (Z30 sg ks st).1 k (Z30 sg ks st).2).2.fo s t:=fun hw=>ZnI _ k _ s t (h6.mpr (.inr hw))
   simp only;constructor
   ·intro hx
    rcases h5.mp (.inl hx) with hx | hx | hx
    ·rcases h6.mp hx with hx | hx
     ·exact .inl hx
     ·exact .inr (.inr hx)
    ·exact .inr (.inl hx)
    ·exact .inr (.inr hx)
   ·rintro(hx | hx | hx)
    ·exact(h5.mpr (.inl (h6.mpr (.inl hx)))).elim id h7
    ·exact(h5.mpr (.inr (.inl hx))).elim id h7
    ·exact h7 hx
theorem Znl(sg:Int):∀(ks:List Pat) (st:Gs),Zek st→ZtI sg ks st (Z30 sg ks st)
 | [],st,h=>by
  simp only[Z30];exact⟨by simp[lvL],rfl,h,trivial,fun s t=>by simp only[geW,or_false]⟩
 | q::qs,st,h=>by
  simp only[Z30];have f:=Z9t sg q st h;have e:=Znl sg qs (Z2Z sg q st).2 f.ok;have hb:(Z2Z sg q st).2.by_.length=st.by_.length+Z79 q:=by rw[f.by_,List.length_append,f.len]
  refine⟨by rw[e.by_,f.by_];simp[lvL],by simp[lvL,Z76,f.len,e.len],e.ok,⟨f.ed,?_⟩,fun s t=>?_⟩
  ·have:=e.eds
   rwa[hb] at this
  ·simp only
   rw[e.fo,f.fo,hb];simp only[geW,or_assoc]
end
theorem Zs9{r s:Int→Int→Prop}{f:Int→Int}{lo hi:Int}(hle:∀a b,r a b→a≤b)(h:∀a b,lo≤a→b≤hi→r a b→s (f a) (f b)){a b:Int}(ha:lo≤a)(k:Clo r a b):b≤hi→Clo s (f a) (f b):=by
 induction k with
 | one k=>intro hb;exact .one (h _ _ ha hb k)
 | more k1 k2 ih =>
  intro hb;have h1:=Zr2 hle k1;have h2:=hle _ _ k2;exact .more (ih (by omega)) (h _ _ (by omega) hb k2)
def Hom(S S':List Int→Int→Int→Prop)(f:Int→Int)(lo hi:Int):Prop:=∀g x y,lo≤x→y≤hi→S g x y→S' g (f x) (f y)
mutual
theorem ZeE{S S':List Int→Int→Int→Prop}(hS:Inc S){f:Int→Int}{lo hi:Int}(H:Hom S S' f lo hi):∀(p:Pat) (a b:Int),lo≤a→b≤hi→MR S p a b→MR S' p (f a) (f b)
 | .mk k s g ks,a,b,ha,hb,h=>by
  rw[MR] at h ⊢;by_cases h1:k=1
  ·rw[if_pos h1] at h ⊢;rw[h]
  ·rw[if_neg h1] at h ⊢
   by_cases h2:k=2
   ·rw[if_pos h2] at h ⊢;exact H g a b ha hb h
   ·rw[if_neg h2] at h ⊢
    by_cases h3:k=3
    ·rw[if_pos h3] at h ⊢;exact ZqO hS H ks a b ha hb h
    ·rw[if_neg h3] at h ⊢
     by_cases h4:k=4
     ·rw[if_pos h4] at h ⊢;exact ZqP hS H ks a b ha hb h
     ·rw[if_neg h4] at h ⊢
      by_cases h5:k=7∨k=5∨k=6
      ·rw[if_pos h5] at h ⊢;exact ZtO hS H ks k a b ha hb h
      ·rw[if_neg h5] at h;exact h.elim
theorem ZqO{S S':List Int→Int→Int→Prop}(hS:Inc S){f:Int→Int}{lo hi:Int}(H:Hom S S' f lo hi):∀(ks:List Pat) (a b:Int),lo≤a→b≤hi→MA S ks a b→MA S' ks (f a) (f b)
 | [],a,b,ha,hb,h=>by rw[MA] at h ⊢;rw[h]
 | q::qs,a,b,ha,hb,h=>by
  rw[MA] at h ⊢;obtain⟨m,h1,h2⟩:=h;have i1:=Zd6 hS q a m h1;have i2:=Zmm hS qs m b h2;exact⟨f m,ZeE hS H q a m ha (by omega) h1,ZqO hS H qs m b (by omega) hb h2⟩
theorem ZqP{S S':List Int→Int→Int→Prop}(hS:Inc S){f:Int→Int}{lo hi:Int}(H:Hom S S' f lo hi):∀(ks:List Pat) (a b:Int),lo≤a→b≤hi→MO S ks a b→MO S' ks (f a) (f b)
 | [],a,b,ha,hb,h=>by rw[MO] at h;exact h.elim
 | q::qs,a,b,ha,hb,h=>by
  rw[MO] at h ⊢;rcases h with h | h
  ·exact .inl (ZeE hS H q a b ha hb h)
  ·exact .inr (ZqP hS H qs a b ha hb h)
theorem ZtO{S S':List Int→Int→Int→Prop}(hS:Inc S){f:Int→Int}{lo hi:Int}(H:Hom S S' f lo hi):∀(ks:List Pat) (k a b:Int),lo≤a→b≤hi→MG S ks k a b→MG S' ks k (f a) (f b)
 | [q],k,a,b,ha,hb,h=>by
  rw[MG] at h ⊢;rcases h with⟨h1,h2⟩ | h
  ·exact .inl ⟨h1,by rw[h2]⟩
  ·right
   by_cases h7:k=7
   ·rw[if_pos h7] at h ⊢;exact ZeE hS H q a b ha hb h
   ·rw[if_neg h7] at h ⊢;exact Zs9 (fun a b h=>Zd6 hS q a b h) (fun a b ha hb h=>ZeE hS H q a b ha hb h) ha h hb
 | [],k,a,b,_,_,h=>by simp[MG] at h
 | q::r::qs,k,a,b,_,_,h=>by simp[MG] at h
end
theorem Zjl(l:List Int):Inc (stp l):=fun g a b h=>by have:=h.1;omega
theorem Zau(l:List Int)(c n:Nat)(k:Nat)(hk:k < n):((l.drop c).take n).getD k 0=l.getD (c+k) 0:=by
 simp only[List.getD_eq_getElem?_getD,List.getElem?_take,hk,if_true,List.getElem?_drop]
theorem Zrk(l:List Int)(c n:Nat)(h:c+n≤l.length):((l.drop c).take n).length=n:=by simp;omega
theorem Zmn{p:Pat}{l:List Int}{c n a b:Nat}(h:c+n≤l.length)(hca:c≤a)(hb:b≤c+n):MR (stp l) p a b↔MR (stp ((l.drop c).take n)) p (a - c) (b - c):=by
 have hl:=Zrk l c n h;constructor
 ·exact ZeE (f:=fun x=>x - c) (lo:=a) (hi:=b) (Zjl l) (fun g x y hx hy hs=>by
   obtain⟨h1,h2,h3,h4⟩:=hs;show stp _ g (x - c) (y - c)
   refine⟨by omega,by omega,by omega,?_⟩;rw[Zau l c n _ (by omega)];have:c+(x - (c:Int)).toNat=x.toNat:=by omega
   rw[this];exact h4) p a b (by omega) (by omega)
 ·intro hm
  have:=ZeE (f:=fun x=>x+c) (lo:=(a:Int) - c) (hi:=(b:Int) - c) (Zjl _) (S':=stp l) (fun g x y hx hy hs=>by
   obtain⟨h1,h2,h3,h4⟩:=hs;show stp _ g (x+c) (y+c)
   refine⟨by omega,by omega,by omega,?_⟩;rw[Zau l c n _ (by omega)] at h4;have:c+x.toNat=(x+(c:Int)).toNat:=by omega
   rw[←this];exact h4) p _ _ (by omega) (by omega) hm
  have e1:(a:Int) - c+c=a:=by omega
  have e2:(b:Int) - c+c=b:=by omega
  simp only[e1,e2] at this;exact this
theorem Zhw(p:Pat)(l:List Int)(a b:Nat)(hab:a≤b)(hb:b≤l.length):ZbX p ((l.drop a).take (b - a)) 0 ((b:Int) - a)=ZbX p l a b:=by
 rw[Bool.eq_iff_iff,Z9z,Z9z,Zmn (c:=a) (n:=b - a) (by omega) (Nat.le_refl _) (by omega),Zrk l a (b - a) (by omega)];have e:(a:Int) - a=0:=by omega
 rw[e];constructor
 ·rintro⟨h1,h2,h3⟩;exact⟨by omega,by omega,h3⟩
 ·rintro⟨h1,h2,h3⟩;exact⟨by omega,by omega,h3⟩
theorem Zbj(p:Pat)(l:List Int)(a b:Nat)(hab:a≤b)(hb:b≤l.length):ZbX p (l.take b) a b=ZbX p l a b:=by
 have:=Zmn (p:=p) (l:=l) (c:=0) (n:=b) (a:=a) (b:=b) (by omega) (by omega) (by omega);rw[Bool.eq_iff_iff,Z9z,Z9z,this];simp only[List.drop_zero,List.length_take,Int.natCast_zero,Int.sub_zero,Int.ofNat_zero];constructor
 ·rintro⟨h1,h2,h3⟩;exact⟨by omega,by omega,by simpa using h3⟩
 ·rintro⟨h1,h2,h3⟩;exact⟨by omega,by omega,by simpa using h3⟩
theorem Zq8(p:Pat)(l:List Int)(a b:Int)(hb:(l.length:Int) < b):ZbX p l a b=false:=by
 rw[Bool.eq_false_iff];intro h;unfold ZbX at h;rw[List.contains_iff_mem] at h;have:=ZpR _ h;omega
def st0:Gs:=⟨[[]],[[]]⟩
theorem ZoS:Zek st0:=⟨rfl,fun r hr=>by simp[st0] at hr;subst hr;exact Zco⟩
def Z6L(p:Pat)(sg:Int):Net :=
 ⟨sg,(Z2Z sg p st0).2.by_,(Z2Z sg p st0).2.fo.set 0 (Z2Z sg p st0).1.fst,if (Z2Z sg p st0).1.nul=true then Z6l ((Z2Z sg p st0).1.lst++[0]) else (Z2Z sg p st0).1.lst⟩
theorem ZlD(sg:Int)(g:List Int):Zap (ZaG sg g) 0 sg:=⟨Z8r _,fun x hx=>by
 have:=List.mem_filter.mp (Z4o.mp hx);simpa using this.2⟩
theorem Zks{sg:Int}{g:List Int}{x:Int}:x∈ZaG sg g↔x∈g∧0≤x∧x < sg:=by
 unfold ZaG;rw[Z4o,List.mem_filter];simp
mutual
theorem Zhs(sg:Int):∀(p:Pat),∀r∈lvP sg p,Zap r 0 sg
 | .mk k _ g ks,r,hr=>by
  simp only[lvP] at hr;split at hr
  ·simp at hr
  ·split at hr
   ·rw[List.mem_singleton] at hr;subst hr;exact ZlD sg g
   ·exact Zhr sg ks r hr
theorem Zhr(sg:Int):∀(ks:List Pat),∀r∈lvL sg ks,Zap r 0 sg
 | [],r,hr=>by simp[lvL] at hr
 | q::qs,r,hr=>by
  simp only[lvL] at hr;rcases List.mem_append.mp hr with hr | hr
  ·exact Zhs sg q r hr
  ·exact Zhr sg qs r hr
end
theorem Zku(p:Pat)(sg:Int):(Z6L p sg).by_=[]::lvP sg p∧(Z6L p sg).by_.length=1+Z79 p∧(Z6L p sg).follow.length=1+Z79 p:=by
 have f:=Z9t sg p st0 ZoS;have h1:(Z6L p sg).by_=[]::lvP sg p:=f.by_;have h2:(Z6L p sg).by_.length=1+Z79 p:=by rw[h1,List.length_cons,f.len];omega
 refine⟨h1,h2,?_⟩;show((Z2Z sg p st0).2.fo.set 0 _).length=_
 rw[List.length_set,f.ok.len];exact h2
theorem Zkv{p:Pat}{sg:Int}(h1:1≤sg)(h2:sg≤400)(hc:Z79 p≤300):Zph (Z6L p sg) (geP p 1):=by
 have f:=Z9t sg p st0 ZoS;have hI:=Zp9 p 1;obtain⟨hb,hbl,hfl⟩:=Zku p sg;have hb1:st0.by_.length=1:=rfl;have hed:=f.ed;rw[hb1] at hed;have hfo:=fun s t=>f.fo s t
 have hz:∀s t,¬FoR st0.fo s t:=fun s t=>by
  unfold FoR st0;cases s with
  | zero=>simp
  | succ s=>simp
 have hl0:0 < (Z2Z sg p st0).2.fo.length:=by
  have:(Z6L p sg).follow.length=(Z2Z sg p st0).2.fo.length:=List.length_set ..;omega
 have f0:∀t:Nat,(t:Int)∈(Z6L p sg).follow.getD 0 []↔(geP p 1).fst t:=fun t=>by
  show(t:Int)∈((Z2Z sg p st0).2.fo.set 0 (Z2Z sg p st0).1.fst).getD 0 []↔_
  rw[List.getD_eq_getElem?_getD,List.getElem?_set,if_pos rfl,if_pos hl0,Option.getD_some];exact hed.fst t
 have fs:∀s t:Nat,1≤s→((t:Int)∈(Z6L p sg).follow.getD s []↔(geP p 1).fol s t):=fun s t hs=>by
  show(t:Int)∈((Z2Z sg p st0).2.fo.set 0 (Z2Z sg p st0).1.fst).getD s []↔_
  rw[List.getD_eq_getElem?_getD,List.getElem?_set,if_neg (by omega),←List.getD_eq_getElem?_getD];have:=hfo s t;rw[hb1] at this;exact this.trans ⟨fun h=>h.elim (fun h=>(hz s t h).elim) id,.inr⟩
 have hlast:∀q:Int,q∈(Z6L p sg).last↔((geP p 1).nul∧q=0)∨q∈(Z2Z sg p st0).1.lst:=fun q=>by
  show q∈(if (Z2Z sg p st0).1.nul=true then Z6l ((Z2Z sg p st0).1.lst++[0]) else (Z2Z sg p st0).1.lst)↔_
  by_cases hn:(Z2Z sg p st0).1.nul=true
  ·rw[if_pos hn,Z4o,List.mem_append,List.mem_singleton]
   have:=hed.nul.mp hn;exact⟨fun h=>h.elim .inr (fun h=>.inl ⟨this,h⟩),fun h=>h.elim (fun h=>.inr h.2) .inl⟩
  ·rw[if_neg hn]
   exact⟨.inr,fun h=>h.elim (fun h=>(hn (hed.nul.mpr h.1)).elim) id⟩
 have hlp:∀q∈(Z2Z sg p st0).1.lst,1≤q∧q < 1+Z79 p:=fun q hq=>by
  have h0:=hed.ul.2 q hq;have e:((q.toNat:Nat):Int)=q:=by omega
  rw[←e] at hq;have:=hI.lst _ ((hed.lst q.toNat).mp hq);omega
 refine⟨⟨h1,h2,by omega,by omega,by omega,by rw[hb];rfl,⟨?_,fun q hq=>?_⟩,fun i h=>?_,fun i h=>?_⟩,by rw[hbl];exact hI,f0,fs,?_,fun s hs=>?_⟩
 ·show(if (Z2Z sg p st0).1.nul=true then Z6l ((Z2Z sg p st0).1.lst++[0]) else (Z2Z sg p st0).1.lst).Pairwise (· < ·)
  split
  ·exact Z8r _
  ·exact hed.ul.1
 ·rcases(hlast q).mp hq with⟨_,rfl⟩ | hq
  ·omega
  ·have:=hlp q hq;omega
 ·have hm:(Z6L p sg).by_[i]∈[]::lvP sg p:=by rw[←hb];exact List.getElem_mem h
  rcases List.mem_cons.mp hm with e | hm
  ·rw[e];exact⟨by simp,by simp⟩
  ·exact Zhs sg p _ hm
 ·have hrow:(Z6L p sg).follow.getD i []=(Z6L p sg).follow[i]:=ZdG h
  have hup:Up (Z6L p sg).follow[i]:=by
   have hm:(Z6L p sg).follow[i]∈(Z2Z sg p st0).2.fo.set 0 (Z2Z sg p st0).1.fst:=List.getElem_mem h;rcases List.mem_or_eq_of_mem_set hm with hm | e
   ·exact f.ok.up _ hm
   ·rw[e];exact hed.uf
  refine⟨hup.1,fun x hx=>?_⟩;have h0:=hup.2 x hx;have e:((x.toNat:Nat):Int)=x:=by omega
  rw[←hrow,←e] at hx;by_cases hi:i=0
  ·subst hi
   have:=hI.fst _ ((f0 x.toNat).mp hx);omega
  ·have:=hI.fol _ _ ((fs i x.toNat (by omega)).mp hx);omega
 ·rw[hlast]
  exact⟨fun h=>h.elim (fun h=>h.1) (fun h=>by have:=hlp 0 h;omega),fun h=>.inl ⟨h,rfl⟩⟩
 ·rw[hlast]
  rw[←hed.lst s];exact⟨fun h=>h.elim (fun h=>by omega) id,.inr⟩
def sgS(sg:Int)(l:List Int)(g:List Int)(a b:Int):Prop:=stp l (ZaG sg g) a b
mutual
theorem ZwK(sg:Int)(l:List Int):∀(p:Pat) (pre post:List (List Int)),LfP (fun s a e=>stp l ((pre++lvP sg p++post).getD s []) a e) (sgS sg l) p pre.length
 | .mk k _ g ks,pre,post=>by
  simp only[LfP];refine⟨fun h2 a e=>?_,fun h1 h2=>?_⟩
  ·subst h2
   have:lvP sg (.mk 2 ‹_› g ks)=[ZaG sg g]:=by simp[lvP]
   rw[this,List.append_assoc,List.getD_eq_getElem?_getD,List.getElem?_append_right (Nat.le_refl _)];simp[sgS]
  ·have:lvP sg (.mk k ‹_› g ks)=lvL sg ks:=by simp only[lvP];rw[if_neg h1,if_neg h2]
   rw[this];exact ZwJ sg l ks pre post
theorem ZwJ(sg:Int)(l:List Int):∀(ks:List Pat) (pre post:List (List Int)),LfL (fun s a e=>stp l ((pre++lvL sg ks++post).getD s []) a e) (sgS sg l) ks pre.length
 | [],pre,post=>by simp only[LfL]
 | q::qs,pre,post=>by
  simp only[LfL];have h1:=ZwK sg l q pre (lvL sg qs++post);have h2:=ZwJ sg l qs (pre++lvP sg q) post;have e1:pre++lvP sg q++(lvL sg qs++post)=pre++lvL sg (q::qs)++post:=by simp[lvL]
  have e2:pre++lvP sg q++lvL sg qs++post=pre++lvL sg (q::qs)++post:=by simp[lvL]
  have hc:(lvP sg q).length=Z79 q:=(Z9t sg q st0 ZoS).len;rw[e1] at h1;rw[e2,List.length_append,hc] at h2;exact⟨h1,h2⟩
end
mutual
def flP(sg:Int):Pat→Pat
 | .mk k _ g ks=>.mk k [] (ZaG sg g) (flL sg ks)
def flL(sg:Int):List Pat→List Pat
 | []=>[]
 | q::qs=>flP sg q::flL sg qs
end
mutual
theorem Zj7(sg:Int)(l:List Int):∀(p:Pat) (a b:Int),MR (sgS sg l) p a b↔MR (stp l) (flP sg p) a b
 | .mk k r g ks,a,b=>by
  simp only[flP,MR];by_cases h1:k=1
  ·rw[if_pos h1,if_pos h1]
  rw[if_neg h1,if_neg h1];by_cases h2:k=2
  ·rw[if_pos h2,if_pos h2];rfl
  rw[if_neg h2,if_neg h2];by_cases h3:k=3
  ·rw[if_pos h3,if_pos h3];exact ZsG sg l ks a b
  rw[if_neg h3,if_neg h3];by_cases h4:k=4
  ·rw[if_pos h4,if_pos h4];exact Zuy sg l ks a b
  rw[if_neg h4,if_neg h4];by_cases h5:k=7∨k=5∨k=6
  ·rw[if_pos h5,if_pos h5];exact Zwg sg l ks k a b
  ·rw[if_neg h5,if_neg h5]
theorem ZsG(sg:Int)(l:List Int):∀(ks:List Pat) (a b:Int),MA (sgS sg l) ks a b↔MA (stp l) (flL sg ks) a b
 | [],a,b=>by simp only[flL,MA]
 | q::qs,a,b=>by
  simp only[flL,MA];exact⟨fun⟨m,h1,h2⟩=>⟨m,(Zj7 sg l q a m).mp h1,(ZsG sg l qs m b).mp h2⟩,fun⟨m,h1,h2⟩=>⟨m,(Zj7 sg l q a m).mpr h1,(ZsG sg l qs m b).mpr h2⟩⟩
theorem Zuy(sg:Int)(l:List Int):∀(ks:List Pat) (a b:Int),MO (sgS sg l) ks a b↔MO (stp l) (flL sg ks) a b
 | [],a,b=>by simp only[flL,MO]
 | q::qs,a,b=>by
  simp only[flL,MO];rw[Zj7 sg l q a b,Zuy sg l qs a b]
theorem Zwg(sg:Int)(l:List Int):∀(ks:List Pat) (k a b:Int),MG (sgS sg l) ks k a b↔MG (stp l) (flL sg ks) k a b
 | [],k,a,b=>by simp only[flL,MG]
 | [q],k,a,b=>by
  simp only[flL,MG];rw[Zj7 sg l q a b,Zh1 (Zj7 sg l q)]
 | _::_::_,k,a,b=>by simp only[flL,MG]
end
theorem ZsJ{p:Pat}{sg:Int}(h1:1≤sg)(h2:sg≤400)(hc:Z79 p≤300)(l:List Int):Zm7 (Z6L p sg) l=ZbX (flP sg p) l 0 l.length:=by
 have hL:=ZwK sg l p [[]] [];rw[List.append_nil] at hL;have hb:=(Zku p sg).1
 have hL':LfP (sgT (Z6L p sg) l) (sgS sg l) p 1:=by
  have:sgT (Z6L p sg) l=fun s a e=>stp l (([[]]++lvP sg p).getD s []) a e:=by
   funext s a e;unfold sgT;rw[hb];rfl
  rw[this];exact hL
 have h3:=(ZrN (Zkv h1 h2 hc) l).trans ((Zmw p 1 hL' 0 l.length).trans (Zj7 sg l p 0 l.length));have h4:ZbX (flP sg p) l 0 l.length=true↔MR (stp l) (flP sg p) 0 l.length:=Z9z.trans ⟨fun h=>h.2.2,fun h=>⟨by omega,by omega,h⟩⟩;cases hA:Zm7 (Z6L p sg) l<;>cases hB:ZbX (flP sg p) l 0 l.length<;>simp_all
def UpN(N:Nat)(l:List Int):Prop:=Up l∧∀x∈l,x < (N:Int)
theorem UpN.len{N:Nat}{l:List Int}(h:UpN N l):l.length≤N :=
 ZdV N (h.1.1.imp fun h=>by omega) fun x hx=>⟨h.1.2 x hx,h.2 x hx⟩
theorem UpN.mono{N M:Nat}{l:List Int}(h:UpN N l)(hm:N≤M):UpN M l:=⟨h.1,fun x hx=>by have:=h.2 x hx;omega⟩
theorem UpN.nil{N:Nat}:UpN N []:=⟨Zco,by simp⟩
theorem UpN.one{N k:Nat}(h:k < N):UpN N [(k:Int)]:=⟨Zp4 k,fun x hx=>by simp at hx;omega⟩
theorem UpN.app{N:Nat}{a b:List Int}(ha:UpN N a)(hb:UpN N b):UpN N (Z6l (a++b)) :=
 ⟨Zfp ha.1.2 hb.1.2,fun x hx=>(List.mem_append.mp (Z4o.mp hx)).elim (ha.2 x) (hb.2 x)⟩
structure StN(st:Gs):Prop where
 len:st.fo.length=st.by_.length
 rows:∀r∈st.fo,UpN st.by_.length r
structure EdN(N:Nat)(e:Ed):Prop where
 f:UpN N e.fst
 l:UpN N e.lst
theorem EdN.mono{N M:Nat}{e:Ed}(h:EdN N e)(hm:N≤M):EdN M e:=⟨h.f.mono hm,h.l.mono hm⟩
theorem ZfS{N:Nat}{fo:List (List Int)}(h:∀r∈fo,UpN N r)(i:Nat):UpN N (fo.getD i []):=by
 rw[List.getD_eq_getElem?_getD];cases e:fo[i]? with
 | none=>exact UpN.nil
 | some r=>exact h r (List.mem_of_getElem? e)
theorem Zkf{N:Nat}:∀(ss:List Int) (fo:List (List Int)) (be:List Int),(∀r∈fo,UpN N r)→UpN N be→∀r∈Z6k fo ss be,UpN N r
 | [],fo,be,h,_=>h
 | x::ss,fo,be,h,hb=>by
  refine Zkf ss _ be (fun r hr=>?_) hb;rcases List.mem_or_eq_of_mem_set hr with hr | rfl
  ·exact h r hr
  ·exact(ZfS h _).app hb
theorem ZdE:∀(ss:List Int) (fo:List (List Int)) (s:Int) (be:List Int),Z6k fo (ss++[s]) be=(Z6k fo ss be).set s.toNat (Z6l ((Z6k fo ss be).getD s.toNat []++be))
 | [],fo,s,be=>rfl
 | x::ss,fo,s,be=>by rw[List.cons_append,Z6k,ZdE ss];rfl
theorem StN.fol{st:Gs}(h:StN st){a b:List Int}(hb:UpN st.by_.length b):StN ⟨st.by_,Z6k st.fo a b⟩:=⟨(Z7k _ _ _).trans h.len,Zkf _ _ _ h.rows hb⟩
theorem ZiW:∀(es:List Ed) (all:Ed) (st:Gs),StN st→EdN st.by_.length all→(∀e∈es,EdN st.by_.length e)→StN (Z61 es all st).2∧EdN st.by_.length (Z61 es all st).1
 | [],all,st,h,ha,_=>⟨h,ha⟩
 | e::es,all,st,h,ha,he=>by
  have h1:=he e (by simp);rw[Z61];refine ZiW es _ ⟨st.by_,Z6k st.fo all.lst e.fst⟩ (h.fol h1.f) ⟨?_,?_⟩ (fun e' h'=>he e' (by simp[h']))
  ·simp only
   split
   ·exact ha.f.app h1.f
   ·exact ha.f
  ·simp only
   split
   ·exact ha.l.app h1.l
   ·exact UpN.nil.app h1.l
theorem ZdI{N:Nat}:∀(es:List Ed) (all:Ed),EdN N all→(∀e∈es,EdN N e)→EdN N (Z5G es all)
 | [],all,ha,_=>ha
 | e::es,all,ha,he=>by
  have h1:=he e (by simp);rw[Z5G];exact ZdI es _ ⟨ha.f.app h1.f,ha.l.app h1.l⟩ (fun e' h'=>he e' (by simp[h']))
theorem Zuq(es:List Ed)(k:Int)(st:Gs)(h:StN st)(he:∀e∈es,EdN st.by_.length e):StN (ZbF es k st).2∧(ZbF es k st).2.by_=st.by_∧EdN st.by_.length (ZbF es k st).1:=by
 have no:EdN st.by_.length ⟨false,[],[]⟩:=⟨UpN.nil,UpN.nil⟩
 match es,he with
 | [],_=>exact⟨h,rfl,no⟩
 | [e],he =>
  have h1:=he e (by simp);simp only[ZbF];split
  ·refine⟨?_,?_,⟨h1.f,h1.l⟩⟩
   ·split
    ·exact h
    ·exact h.fol h1.f
   ·split<;>rfl
  ·exact⟨h,rfl,no⟩
 | _::_::_,_=>exact⟨h,rfl,no⟩
mutual
theorem ZfT(sg:Int):∀(p:Pat) (st:Gs),StN st→StN (Z2Z sg p st).2∧EdN (Z2Z sg p st).2.by_.length (Z2Z sg p st).1∧(Z2Z sg p st).2.by_.length=st.by_.length+Z79 p
 | .mk k s g ks,st,h=>by
  simp only[Z2Z,Z79];split
  ·exact⟨h,⟨UpN.nil,UpN.nil⟩,rfl⟩
  ·split
   ·refine⟨⟨by simp[h.len],fun r hr=>?_⟩,⟨UpN.one (by simp),UpN.one (by simp)⟩,by simp⟩
    simp only at hr ⊢;rcases List.mem_append.mp hr with hr | hr
    ·exact(h.rows r hr).mono (by simp)
    ·rw[List.mem_singleton] at hr;subst hr;exact UpN.nil
   ·obtain⟨i1,i2,i3⟩:=ZdH sg ks st h
    split
    ·obtain⟨j1,j2⟩:=ZiW (Z30 sg ks st).1 ⟨true,[],[]⟩ (Z30 sg ks st).2 i1 ⟨UpN.nil,UpN.nil⟩ i2
     have hb:=(ZcQ (Z30 sg ks st).1 ⟨true,[],[]⟩ (Z30 sg ks st).2).1;exact⟨j1,by rw[hb];exact j2,by rw[hb];exact i3⟩
    ·split
     ·exact⟨i1,ZdI _ _ ⟨UpN.nil,UpN.nil⟩ i2,i3⟩
     ·obtain⟨j1,j2,j3⟩:=Zuq (Z30 sg ks st).1 k (Z30 sg ks st).2 i1 i2
      exact⟨j1,by rw[j2];exact j3,by rw[j2];exact i3⟩
theorem ZdH(sg:Int):∀(ks:List Pat) (st:Gs),StN st→StN (Z30 sg ks st).2∧(∀e∈(Z30 sg ks st).1,EdN (Z30 sg ks st).2.by_.length e)∧(Z30 sg ks st).2.by_.length=st.by_.length+Z76 ks
 | [],st,h=>by simp only[Z30,Z76];exact⟨h,by simp,rfl⟩
 | q::qs,st,h=>by
  obtain⟨i1,i2,i3⟩:=ZfT sg q st h;obtain⟨j1,j2,j3⟩:=ZdH sg qs (Z2Z sg q st).2 i1;simp only[Z30,Z76];refine⟨j1,fun e he=>?_,by omega⟩;rcases List.mem_cons.mp he with rfl | he
  ·exact i2.mono (by omega)
  ·exact j2 e he
end
theorem Zf1(sg:Int):∀(ks:List Pat) (q:Pat) (st:Gs),Z30 sg (ks++[q]) st=((Z30 sg ks st).1++[(Z2Z sg q (Z30 sg ks st).2).1],(Z2Z sg q (Z30 sg ks st).2).2)
 | [],q,st=>by simp only[List.nil_append,Z30]
 | k::ks,q,st=>by simp only[List.cons_append,Z30];rw[Zf1 sg ks]
theorem Zf3:∀(es:List Ed) (e:Ed) (all:Ed) (st:Gs),Z61 (es++[e]) all st =
  (⟨(Z61 es all st).1.nul && e.nul,if (Z61 es all st).1.nul=true then Z6l ((Z61 es all st).1.fst++e.fst) else (Z61 es all st).1.fst,Z6l ((if e.nul=true then (Z61 es all st).1.lst else [])++e.lst)⟩,⟨(Z61 es all st).2.by_,Z6k (Z61 es all st).2.fo (Z61 es all st).1.lst e.fst⟩)
 | [],e,all,st=>rfl
 | k::es,e,all,st=>by simp only[List.cons_append,Z61];rw[Zf3 es];rfl
theorem Zci:∀(es:List Ed) (e:Ed) (all:Ed),Z5G (es++[e]) all=⟨(Z5G es all).nul || e.nul,Z6l ((Z5G es all).fst++e.fst),Z6l ((Z5G es all).lst++e.lst)⟩
 | [],e,all=>rfl
 | k::es,e,all=>by simp only[List.cons_append,Z5G];rw[Zci es]
theorem Z7W:∀(a b:List Pat),Z76 (a++b)=Z76 a+Z76 b
 | [],b=>by simp[Z76]
 | p::a,b=>by simp only[List.cons_append,Z76];rw[Z7W a b];omega
def Z0N(sg:Int)(v w:AV):AV:=.agg [Z06 sg,v,w,.sl true []]
def mG(sg:Int)(o:Bool)(st:Gs)(a b c:Nat):List (Nat×Option Blk) :=
 [(a,some (.arr 4 [Z0N sg (vV o b (st.by_.map Z03)) (vV o c (st.fo.map Z03))])),(b,vB o 1 (st.by_.map Z03)),(c,vB o 1 (st.fo.map Z03))]
def ZvK(sg:Int)(st:Gs)(S:St):Prop:=S.n=10∧S.g 0=some (.arr 4 [Z0N sg (.own 3 0 st.by_.length) (.own 4 0 st.fo.length)])∧S.g 3=some (.arr 1 (st.by_.map Z03))∧S.g 4=some (.arr 1 (st.fo.map Z03))
theorem ZvK.of{sg:Int}{st:Gs}{G:List (Nat×Option Blk)}:ZvK sg st ⟨10,gOf (mG sg true st 0 3 4++G)⟩:=⟨rfl,by simp[mG,gOf,Z2G],by simp[mG,gOf,Z1S],by simp[mG,gOf,Z1S]⟩
def Z52(P:Program)(f:FuncId)(args:List AV)(sg:Int)(o:Bool)(st st':Gs)(r:AV):Prop :=
 Z0x P f (.ptr 0 0 0::args) ⟨3,gOf (mG sg o st 0 1 2)⟩ fun r' S'=>r'=r∧ZvK sg st' S'
def Z7v(sg:Int)(st:Gs)(id b c:Nat)(S:St):St :=
 ((((((St.mk (S.n+7) S.g).set id (some (.arr 4 [Z0N sg (.own S.n 0 st.by_.length) (.own (S.n+1) 0 st.fo.length)]))).set b none).set c none).set S.n (some (.arr 1 (st.by_.map Z03)))).set (S.n+1) (some (.arr 1 (st.fo.map Z03))))
theorem Z52.P6i{P:Program}{f:FuncId}{args args0:List AV}{sg:Int}{o:Bool}{st st':Gs}{r:AV}(h:Z52 P f args sg o st st' r)(ha:∀R,Z72 noG R args0 args)(hr:Z0S r){S:St}{K:AV→St→Prop}{id b c:Nat}
  (h1:S.g id=some (.arr 4 [Z0N sg (vV o b (st.by_.map Z03)) (vV o c (st.fo.map Z03))])) (h2:∀R,Zmr noG R (S.g b) (vB o 1 (st.by_.map Z03))) (h3:∀R,Zmr noG R (S.g c) (vB o 1 (st.fo.map Z03)))
  (hd:id≠b∧id≠c∧b≠c) (hl:id < S.n∧b < S.n∧c < S.n) (hk:K r (Z7v sg st' id b c S)):Z0x P f (.ptr id 0 0::args0) S K:=by
 refine Z0x.frame 3 [(0,id),(1,b),(2,c)] (mG sg o st 0 1 2) (.ptr 0 0 0::args) _ (by simp;omega) (by simp;omega) ?_ ?_ h ?_
 ·intro p hp
  simp only[mG,List.mem_cons,List.not_mem_nil,or_false] at hp;rcases hp with rfl | rfl | rfl
  ·refine .inr ⟨id,by simp,?_⟩
   rw[h1,Z17];refine⟨rfl,?_⟩;simp only[Z0N,Z2c,Z2H,and_true,Z2J];exact⟨.cl (Z04 _),Z5w (by simp) (Z3E _),Z5w (by simp) (Z3E _),.cl (Z1p _)⟩
  ·exact .inr ⟨b,by simp,h2 _⟩
  ·exact .inr ⟨c,by simp,h3 _⟩
 ·exact .cons (.ptr _ _ _ _ (by simp)) (ha _)
 ·rintro r1 S1 hn ⟨rfl,q1,q2,q3,q4⟩
  refine⟨r1,_,hk,.cl hr,by simp[Z7v,Z2k,q1],fun i k hi=>?_⟩;simp only[Z7v,Z0A] at hi;by_cases e5:i=S.n+1
  ·rw[if_pos e5] at hi
   refine .inr ⟨4,.inr ⟨by omega,by omega⟩,?_⟩;rw[←hi,q4,Z17];exact⟨rfl,.cl (Z3E _)⟩
  rw[if_neg e5] at hi;by_cases e4:i=S.n
  ·rw[if_pos e4] at hi
   refine .inr ⟨3,.inr ⟨by omega,by omega⟩,?_⟩;rw[←hi,q3,Z17];exact⟨rfl,.cl (Z3E _)⟩
  rw[if_neg e4] at hi;by_cases ec:i=c
  ·rw[if_pos ec] at hi;cases hi
  rw[if_neg ec] at hi;by_cases eb:i=b
  ·rw[if_pos eb] at hi;cases hi
  rw[if_neg eb] at hi;by_cases ea:i=id
  ·rw[if_pos ea] at hi
   refine .inr ⟨0,.inl ⟨by omega,by simp[ea]⟩,?_⟩;rw[←hi,q2,Z17];refine⟨rfl,?_⟩;simp only[Z0N,Z2c,Z2H,and_true,Z2J,Z3m];exact⟨.cl (Z04 _),(.inr ⟨by omega,by omega⟩),(.inr ⟨by omega,by omega⟩),.cl (Z1p _)⟩
  ·rw[if_neg ea] at hi
   refine .inl ⟨?_,hi⟩;simp;omega
theorem Z52.use{P:Program}{f:FuncId}{args args0:List AV}{sg:Int}{o:Bool}{st st':Gs}{r:AV}(h:Z52 P f args sg o st st' r)(ha:∀R,Z72 noG R args0 args)(hr:Z0S r){S:St}{K:AV→St→Prop}{id b c:Nat}
  (h1:S.g id=some (.arr 4 [Z0N sg (vV o b (st.by_.map Z03)) (vV o c (st.fo.map Z03))])) (h2:S.g b=vB o 1 (st.by_.map Z03)) (h3:S.g c=vB o 1 (st.fo.map Z03))
  (hd:id≠b∧id≠c∧b≠c) (hl:id < S.n∧b < S.n∧c < S.n) (hk:K r (Z7v sg st' id b c S)):Z0x P f (.ptr id 0 0::args0) S K :=
 Z52.P6i h ha hr h1 (fun _=>by rw[h2];exact Z5m (Z3E _)) (fun _=>by rw[h3];exact Z5m (Z3E _)) hd hl hk
end Go.Rf
namespace Go.Rf
open Go.RowKit
attribute [local simp] Z4c Z48 Z2M Z2a Z2P Z2R Z2Q Z4a Z4b Z1e Z16 Z0c Z0B Z0q Z08 Z0o Z0h Z09 Z0p Z0i Z0Y Z0j Z0z Z0K Z0k Z0J Z1W Z3U Z0X Z25 Z22 Z24 Z23 Z26 Z1j Z0D Z11 Z12 Z1T Z1U Z1V Z0H Z0I Z1i Z0r Z0W Z20 Z1X Z1Z Z1Y Z21 Z1k Z13 Z1g Z0U Z0V Z0C Z1h Z0P Z1a Z1f Z14 Z1l ex Z00 Z0R Z6K Z6P Z0f Z0g Z0A Z2k Z1d Z10 Z0y Z0F Z0G Z0E Z0s Z0Z Z5y Z0O Z37 Z1c Z1O Z1R Z3s Z0b Z1q Z19 Z0Q Z1F Z3S Z1P Z6A Z3C Z6z Z3w Z2Y Z3t Z6w Z3D Z51 AV.solid S0 Z06 Z1n
def ZeK(es by_:Nat)(z:AV):AC :=
 (.seq (.reg none [
 ro 4 (.mv (.c (.sl true [])))])
 (.seq (.seq (.reg none [
 rm 5 1,
 ro 6 (.bin .lss (.t 5) (ci 0))])
 (.cond (.t 6) .bad .skip))
 (.seq (.seq (.reg none [
 rm 8 1,
 rm 9 0,
 ro 10 (.cap (.t 9)),
 rm 11 0,
 ro 12 (.len (.t 11)),
 ro 13 (.bin .sub (.t 10) (.t 12)),
 ro 14 (.bin .sub (.t 8) (.t 13)),
 rm 1 14])
 (.seq (.reg none [
 rm 15 1,
 ro 16 (.bin .gtr (.t 15) (ci 0))])
 (.cond (.t 16) (.reg none [
  rm 17 0,
  rm 18 0,
  ro 19 (.cap (.t 18)),
  ro 20 (.slc es (.t 17) none (some (.t 19))),
  rm 21 1,
  ro 22 (.appz es by_ z (.t 20) (.t 21)),
  rm 23 0,
  ro 24 (.len (.t 23)),
  ro 25 (.slc es (.t 22) none (some (.t 24))),
  rm 0 25]) .skip)))
 (.seq (.reg none [
 rm 26 0,
 rm 4 26])
 .ret))))
def Za0(es by_:Nat)(fg:FuncId):AC :=
 (.seq (.reg none [
 ro 2 (.mv (.c (.sl true [])))])
 (.seq (.reg none [
 ro 3 (.mv (ci 0))])
 (.seq (.seq (.reg none [
 rm 9 0,
 ro 10 (.len (.t 9)),
 ro 11 (.mv (ci 0))])
 (.block 0 (.loop (.seq (.reg none [
  ro 12 (.bin .lss (.t 11) (.t 10))])
  (.seq (.cond (.t 12) .skip (.exit 0))
  (.seq (.block 1 (.seq (.reg none [
   ro 13 (.idxA 1 (.t 9) (.t 11)),
   ro 14 (.load none (.t 13)),
   rm 5 14])
  (.seq (.reg none [
   rm 15 3,
   rm 16 5,
   ro 17 (.len (.t 16)),
   ro 18 (.bin .add (.t 15) (.t 17)),
   rm 3 18])
  (.seq (.reg none [
   rm 19 3,
   ro 20 (.bin .lss (.t 19) (ci 0))])
  (.cond (.t 20) .bad .skip)))))
  (.reg none [
  ro 22 (.bin .add (.t 11) (ci 1)),
  rm 11 22])))))))
 (.seq (.reg none [
 rm 23 3,
 rk 24 fg [(.c (.sl true [])),(.t 23)],
 rm 6 24])
 (.seq (.seq (.reg none [
 rm 25 0,
 ro 26 (.len (.t 25)),
 ro 27 (.mv (ci 0))])
 (.block 2 (.loop (.seq (.reg none [
  ro 28 (.bin .lss (.t 27) (.t 26))])
  (.seq (.cond (.t 28) .skip (.exit 2))
  (.seq (.block 3 (.seq (.reg none [
   ro 29 (.idxA 1 (.t 25) (.t 27)),
   ro 30 (.load none (.t 29)),
   rm 8 30])
  (.reg none [
   rm 31 6,
   rm 32 8,
   ro 33 (.app es by_ (.t 31) (.t 32)),
   rm 6 33])))
  (.reg none [
  ro 34 (.bin .add (.t 27) (ci 1)),
  rm 27 34])))))))
 (.seq (.reg none [
 rm 35 6,
 rm 2 35])
 .ret))))))
def Zmt(g:Nat→Option Blk)(v:AV)(es:Nat)(xs:List AV):Prop :=
 (v=.sl true []∧xs=[])∨∃id off ys,v=.own id off xs.length∧g id=some (.arr es ys)∧off+xs.length≤ys.length∧(ys.take (off+xs.length)).drop off=xs
theorem Zmt.frame{g g':Nat→Option Blk}{v:AV}{es:Nat}{xs:List AV}(h:Zmt g v es xs)(hs:∀i∈v.ids,g' i=g i):Zmt g' v es xs:=by
 rcases h with h | ⟨id,off,ys,rfl,h1,h2,h3⟩
 ·exact .inl h
 ·exact .inr ⟨id,off,ys,rfl,by rw[hs id (by simp[AV.ids])];exact h1,h2,h3⟩
theorem Zmt.fz{X:Type}{enc:X→AV}{g:Nat→Option Blk}{v:AV}{es:Nat}{l:List X}(h:Zmt g v es (l.map enc))(hc:∀x,Z0S (enc x)):Fz g v (.sl false (l.map enc)):=by
 rcases h with⟨rfl,hn⟩ | ⟨id,off,ys,rfl,h1,h2,h3⟩
 ·rw[hn];exact .loose true [] (.sl _ _ (by simp))
 ·rw[List.length_map] at h2 h3 ⊢
  refine .own id off l.length es ys (l.map enc) h1 h2 (by simp) (fun i a b=>?_);have e:(ys.drop off).take l.length=l.map enc:=by rw[←h3,List.drop_take];congr 1;omega
  simp only[e];exact .closed _ (by simp only[List.getElem_map];exact hc _)
def ZrC(S:St)(es:Nat)(z:AV)(n:Nat)(v:AV)(S':St):Prop :=
 S.n≤S'.n∧(∀i,i < S.n→S'.g i=S.g i)∧((n=0∧v=.sl true [])∨∃id,S.n≤id∧id < S'.n∧v=.own id 0 0∧S'.g id=some (.arr es (List.replicate n z)))
def Zmk(P:Program)(f:FuncId)(es:Nat)(z:AV):Prop:=∀(S:St) (n:Nat) (K:AV→St→Prop),n≤1000000→(∀v S',ZrC S es z n v S'→K v S')→Z0x P f [.sl true [],Z06 n] S K
theorem Zjv{P:Program}(hm:P.follows .mixedOrders=true){f:FuncId}{es by_:Nat}{z:AV}(hes:0 < es)(hz:z.cells.length=es)(hb:by_≤1000)(h:Is P f (ZeK es by_ z) [4] 2):Zmk P f es z:=by
 intro S n K hn hk;refine h.P3z hm rfl ?_;have hneg:¬((n:Int) < 0):=by omega
 have hw1:=Z0m ((n:Int) - 0) (by omega);have hw0:IntKind.i64.wrap 0=0:=Z0m 0 (by omega);by_cases h0:n=0
 ·subst h0
  simp[ZeK,Zns,hw0];exact hk _ _ ⟨by simp;omega,fun i hi=>rfl,.inl ⟨rfl,rfl⟩⟩
 ·have hp:(0:Int) < n:=by omega
  have hp':0 < n:=by omega
  have hbnd:(n:Int)*by_≤140737488355328:=by
   have h1:n*by_≤1000000*1000:=Nat.mul_le_mul hn hb;have:((n*by_:Nat):Int)≤1000000000:=by omega
   rw[Int.natCast_mul] at this;omega
  have hn2:(n:Int)≤140737488355328:=by omega
  have hwn:IntKind.i64.wrap (n:Int)=n:=Z0m _ (by omega)
  have hapz:∀S2:St,∀nid,(Zhb es by_ z (.sl true []) (.v (.int .i64 (n:Int)))).run S2 nid=some (.own nid 0 n,S2.set nid (some (.arr es (List.replicate n z)))):=by
   intro S2 nid;simp[Zhb,Eff.new,Eff.run,hp,hp',hbnd,hn2,hes,hz,St.P1B,St.P1P]
  have hs1:∀S2:St,∀nid,(ZaE es (.sl true []) none (some (.v (.int .i64 0)))).run S2 nid=some (.sl true [],S2):=by
   intro S2 nid;simp[ZaE,bnd,Eff.P0F]
  have hs2:∀(S2:St) (nid id:Nat) (ys:List AV),S2.g id=some (.arr es ys)→(ZaE es (.own id 0 n) none (some (.v (.int .i64 0)))).run S2 nid=some (.own id 0 0,S2):=by
   intro S2 nid id ys hg;simp[ZaE,bnd,Eff.rd,Eff.run,hg,St.P1B,St.P1P]
  simp[ZeK,Zns,hneg,hw0,hw1,hwn,hp,hp',hs1,hapz,Z3S];rw[hs2 _ _ _ (List.replicate n z) (by simp[Z0A])];simp;refine hk _ _ ⟨by simp[Z2k];omega,fun i hi=>?_,.inr ⟨S.n+13+5,by omega,by simp[Z2k],rfl,by simp[Z0A]⟩⟩;have:¬i=S.n+13+5:=by omega
  simp[Z0A,this]
theorem Zmt.app{n nid by_ es:Nat}{g:Nat→Option Blk}{v:AV}{xs:List AV}(h:Zmt g v es xs)(t:Bool)(ys:List AV)(hx:∀z∈xs,z.cells.length=es)(hy:∀z∈ys,z.cells.length=es)(hok:Z1K by_ xs.length ys.length) :
  ∃v' S',(Z57 es by_ v (.sl t ys)).run ⟨n,g⟩ nid=some (v',S')∧S'.n=n∧(nid∉v.ids→Zmt S'.g v' es (xs++ys))∧(∀i,i∉v.ids→i≠nid→S'.g i=g i)∧(∀i∈v'.ids,i∈v.ids∨i=nid):=by
 have hl:Z9f es [] (.sl t ys)=some ys:=by simp only[Z9f];rw[if_pos hy]
 rcases h with⟨rfl,rfl⟩ | ⟨id,off,zs,rfl,h1,h2,h3⟩
 ·simp only[List.length_nil] at hok
  by_cases h0:ys.length=0
  ·have:ys=[]:=List.eq_nil_of_length_eq_zero h0
   subst this;refine⟨.sl true [],⟨n,g⟩,?_,rfl,fun _=>.inl ⟨rfl,rfl⟩,fun _ _ _=>rfl,by simp[AV.ids]⟩;simp[Z57,AV.oid,Eff.run,hl,St.P1B,St.P1P,Z1K]
  ·refine⟨.own nid 0 ys.length,(⟨n,g⟩:St).set nid (some (.arr es ys)),?_,by simp[Z2k],fun _=>.inr ⟨nid,0,ys,by simp,by simp[Z0A],by simp,by simp⟩,fun i _ hi=>by simp[Z0A,hi],by simp[AV.ids]⟩
   simp only[Z57,AV.oid,Eff.run,List.mapM_nil,Option.pure_def,hl,Option.bind_some,List.length_nil,Nat.zero_add,hok,and_true];rw[if_pos (by simp),if_neg h0];simp[St.P1B,St.P1P]
 ·refine⟨.own nid 0 (xs.length+ys.length),((⟨n,g⟩:St).set id none).set nid (some (.arr es (xs++ys))),?_,by simp[Z2k],fun hn=>.inr ⟨nid,0,xs++ys,by simp,by simp[Z0A],by simp,by simp[←List.length_append]⟩,fun i hi hn=>?_,by simp[AV.ids]⟩
  ·have ho:(AV.sl t ys).oid=[]:=rfl
   have hne:([]:List Nat)≠[id]:=by simp
   simp only[Z57,Eff.run,ho,List.mapM_cons,List.mapM_nil,h1,Option.pure_def,Option.bind_eq_bind,Option.bind_some,hl];by_cases he:off+xs.length=zs.length
   ·rw[if_pos ⟨trivial,he,hok,hne⟩]
    have e:zs.drop off=xs:=by rw[←h3,he,List.take_length]
    simp[St.P1B,St.P1P,e]
   ·rw[if_neg (fun hh=>he hh.2.1),if_pos ⟨trivial,by omega,hok,hne⟩]
    simp[St.P1B,St.P1P,h3]
  ·simp only[AV.ids,List.mem_cons,List.not_mem_nil,or_false] at hi
   simp[Z0A,hi,hn]
def Zs1(L:List (Bool×List AV)):AV:=.sl true (L.map fun p=>.sl p.1 p.2)
def Zj1(L:List (Bool×List AV)):Nat:=(L.map fun p=>p.2.length).sum
theorem ZnZ(L:List (Bool×List AV))(k:Nat):Zj1 (L.take k)≤Zj1 L:=by
 unfold Zj1;have h:L=L.take k++L.drop k:=by simp
 conv=>rhs;rw[h]
 rw[List.map_append,List.sum_append];omega
theorem Zhp(L:List (Bool×List AV))(k:Nat)(h:k < L.length):Zj1 (L.take (k+1))=Zj1 (L.take k)+(L[k]).2.length:=by
 unfold Zj1;rw[List.take_add_one,List.getElem?_eq_getElem h,List.map_append,List.sum_append];simp
theorem ZnY(L:List (Bool×List AV)):(L.flatMap (·.2)).length=Zj1 L:=by
 unfold Zj1;rw[List.length_flatMap]
def CtI(L:List (Bool×List AV))(n0:Nat)(g0:Nat→Option Blk)(k:Nat)(f:AF)(S:St):Prop:=n0≤S.n∧S.g=g0∧f 0=Zs1 L∧f 9=Zs1 L∧f 10=Z06 L.length∧f 11=Z06 k∧f 3=Z06 (Zj1 (L.take k))∧f 2=.sl true []
def CtJ(L:List (Bool×List AV))(es:Nat)(n0:Nat)(g0:Nat→Option Blk)(k:Nat)(f:AF)(S:St):Prop:=f 25=Zs1 L∧f 26=Z06 L.length∧f 27=Z06 k∧Zmt S.g (f 6) es ((L.take k).flatMap (·.2))∧(∀i∈(f 6).ids,n0≤i∧i < S.n)∧(∀i,i < n0→S.g i=g0 i)∧n0≤S.n
def Zmg(S:St)(es:Nat)(L:List (Bool×List AV))(v:AV)(S':St):Prop :=
 S.n≤S'.n∧(∀i,i < S.n→S'.g i=S.g i)∧Zmt S'.g v es (L.flatMap (·.2))∧∀i∈v.ids,S.n≤i∧i < S'.n
theorem ZgB{P:Program}(hm:P.follows .mixedOrders=true){f fg:FuncId}{es by_:Nat}{z:AV}(hg:Zmk P fg es z)(hb:by_≤1000)(h:Is P f (Za0 es by_ fg) [2] 1)
  {S:St} {L:List (Bool×List AV)} (hc:∀p∈L,∀x∈p.2,x.cells.length=es) (hL:L.length≤1000) (ht:Zj1 L≤1000000) {K:AV→St→Prop} (hk:∀v S',Zmg S es L v S'→K v S'):Z0x P f [Zs1 L] S K:=by
 refine h.P3z hm rfl ?_;have P4Q:Zs1 L=.sl true (L.map fun p=>.sl p.1 p.2):=rfl;simp[Za0,P4Q];refine Z7F L.length (CtI L S.n S.g) ⟨?_,?_,?_,?_,?_,?_,?_,?_⟩ ?_
 ·simp;omega
 ·simp
 ·simp[Z00,Z0f,P4Q]
 ·simp[Z00,P4Q]
 ·simp[Z00,Z06]
 ·simp[Z00,Z06]
 ·simp[Z00,Z06,Zj1]
 ·simp[Z00]
 ·rintro k f S1 hk1 ⟨hn1,hg1,e0,e9,e10,e11,e3,e2⟩
  rw[P4Q] at e0 e9;by_cases hlt:k < L.length
  ·have hgt:L[k]? = some L[k]:=List.getElem?_eq_getElem hlt
   have h1:=Zhp L k hlt;have h2:=ZnZ L (k+1);have hw:=Z0m ((Zj1 (L.take k):Int)+(L[k]).2.length) (by omega);have hneg:¬((Zj1 (L.take k):Int)+(L[k]).2.length < 0):=by omega
   simp[e0,e9,e10,e11,e3,e2,hlt,hgt,hw,hneg];rw[Z0m _ (by omega)];refine⟨hlt,?_,?_,?_,?_,?_,?_,?_,?_⟩
   ·simp;omega
   ·simpa using hg1
   ·simp[Z00,e0,P4Q]
   ·simp[Z00,e9,P4Q]
   ·simp[Z00,e10]
   ·simp[Z00,Z06]
   ·simp[Z00,Z06,h1]
   ·simp[Z00,e2]
  ·have hke:k=L.length:=by omega
   subst hke;rw[List.take_length] at e3;simp[e0,e9,e10,e11,e3,e2,hlt];refine hg _ (Zj1 L) _ ht (fun v S2 hout=>?_);obtain⟨o1,o2,o3⟩:=hout;simp only at o1 o2 o3
   have hv0:Zmt S2.g v es ([]:List AV):=by
    rcases o3 with⟨_,rfl⟩ | ⟨id,_,_,rfl,hgid⟩
    ·exact .inl ⟨rfl,rfl⟩
    ·exact .inr ⟨id,0,_,rfl,hgid,by simp,by simp⟩
   have hvi:∀i∈v.ids,S.n≤i∧i < S2.n:=by
    rcases o3 with⟨_,rfl⟩ | ⟨id,a1,a2,rfl,_⟩
    ·simp[AV.ids]
    ·intro i hi;simp[AV.ids] at hi;subst hi;omega
   simp;simp only[e0];simp;refine Z7F L.length (CtJ L es S.n S.g) ⟨?_,?_,?_,?_,?_,?_,?_⟩ ?_
   ·simp[Z00,P4Q,e0]
   ·simp[Z00,Z06]
   ·simp[Z00,Z06]
   ·simp[Z00];exact hv0.frame (fun _ _=>rfl)
   ·intro i hi
    simp[Z00] at hi;have:=hvi i hi;simp;omega
   ·intro i hi
    have:=o2 i (by omega);simp;rw[this,hg1]
   ·simp;omega
   ·rintro k f S3 hk3 ⟨e25,e26,e27,hv,hvi,hfr,hn3⟩
    rw[P4Q] at e25;by_cases hlt:k < L.length
    ·have hgt:L[k]? = some L[k]:=List.getElem?_eq_getElem hlt
     have h1:=Zhp L k hlt;have h2:=ZnZ L (k+1);have hlen:=ZnY (L.take k)
     have hx:∀z∈(L.take k).flatMap (·.2),z.cells.length=es:=by
      intro z hz;obtain⟨p,hp,hz⟩:=List.mem_flatMap.mp hz;exact hc p (List.mem_of_mem_take hp) z hz
     have hok:Z1K by_ ((L.take k).flatMap (·.2)).length (L[k]).2.length:=by
      unfold Z1K;have:(((L.take k).flatMap (·.2)).length+(L[k]).2.length)*by_≤1000000*1000:=Nat.mul_le_mul (by omega) hb;omega
     simp[e25,e26,e27,hlt,hgt];obtain⟨v',S',hr,q1,q2,q3,q4⟩:=(hv.frame (g':=S3.g) (fun _ _=>rfl)).app (n:=S3.n+1+3+4) (nid:=S3.n+1+3+2) (by_:=by_) (L[k]).1 (L[k]).2 hx (hc _ (List.getElem_mem hlt)) hok;rw[hr];simp[e25,e26,e27];rw[Z0m _ (by omega)];have hnid:S3.n+1+3+2∉(f 6).ids:=fun hh=>by have:=hvi _ hh;omega
     refine⟨hlt,?_,?_,?_,?_,?_,?_,?_⟩
     ·simp[Z00,e25,P4Q]
     ·simp[Z00,e26]
     ·simp[Z00,Z06]
     ·rw[List.take_add_one,hgt,List.flatMap_append]
      simpa[Z00] using(q2 hnid).frame (fun _ _=>rfl)
     ·intro i hi
      simp[Z00] at hi;have hi2:=q4 i hi;simp[q1];rcases hi2 with hi2 | hi2
      ·have:=hvi i hi2;omega
      ·omega
     ·intro i hi
      have h3:=q3 i (fun hh=>by have:=hvi i hh;omega) (by omega);simp[h3,hfr i hi]
     ·simp[q1];omega
    ·have hke:k=L.length:=by omega
     subst hke;rw[List.take_length] at hv;simp[e25,e26,e27,hlt];refine hk _ _ ⟨?_,?_,?_,?_⟩
     ·simp;omega
     ·intro i hi;simp[hfr i hi]
     ·exact hv.frame (fun _ _=>rfl)
     ·intro i hi
      have:=hvi i hi;simp;omega
end Go.Rf
namespace Go.Rf
theorem Zay{P:Program}(hm:P.follows .mixedOrders=true){f fg:FuncId}{es by_:Nat}{z:AV}(hg:Zmk P fg es z)(hb:by_≤1000)(h:Is P f (Za0 es by_ fg) [2] 1){X:Type}{enc:X→AV}(hcl:∀x,Z0S (enc x))(hce:∀x,(enc x).cells.length=es)
  (L:List (Bool×List X)) (hL:L.length≤1000) (ht:(L.map fun p=>p.2.length).sum≤1000000):Z0t P f [.sl true (L.map fun p=>.sl p.1 (p.2.map enc))] (.sl false ((L.flatMap (·.2)).map enc)):=by
 have e:AV.sl true (L.map fun p=>AV.sl p.1 (p.2.map enc))=Zs1 (L.map fun p=>(p.1,p.2.map enc)):=by simp[Zs1]
 rw[e];refine .P1h (ZgB hm hg hb h (fun p hp x hx=>?_) (by simpa using hL) (by simpa[Zj1,Function.comp_def] using ht) (fun v S' ho=>?_))
 ·obtain⟨q,hq,rfl⟩:=List.mem_map.mp hp
  obtain⟨y,_,rfl⟩:=List.mem_map.mp hx;exact hce y
 ·obtain⟨_,_,hv,_⟩:=ho
  have e2:(L.map fun p=>(p.1,p.2.map enc)).flatMap (·.2)=(L.flatMap (·.2)).map enc:=by
   rw[List.flatMap_map,List.map_flatMap]
  rw[e2] at hv;exact hv.fz hcl
end Go.Rf
