import Derived.Test.YtdmcjhnbmgmgoaaGreatDoorRfB11
import Derived.Test.YtdmcjhnbmgmgoaaGreatDoorProg
import Derived.Ground.NamesProg
import Derived.Ground.Names2Prog
import Derived.Shelf.Sort.Plain
import Derived.Shelf.Slices.CompactI
import Derived.Shelf.Strings.BuilderK
import Derived.Shelf.Strconv.Itoa3
import Derived.Shelf.LaysM
import Derived.Lib.AppendIntMem
import Derived.KernelRfl
set_option linter.unusedVariables false
set_option linter.unusedSimpArgs false
set_option linter.unusedSectionVars false
namespace Go.Rf
attribute [local simp] l9 lT l6 mI mJ mM mK l7 mP mH mF dN gL fJ gJ ig fI gK iq gX gV gY eZ gQ gZ gP d9 eF gU iN iK iM iL iO gD fM fH dZ fQ fU fV fP fE iH iw gT iF iC iE iD iG iI iA gu fF fG fK gy dx dL fq iB iJ ex au bS dM dY bF bJ aG bf dU eY dQ fO gN gM iy gW bO dw dz eD eu fZ dR bC bZ dD dJ dF fu eB eX eP eU dW dh dS dP dO bB AV.solid S0 aj aH
def WT:AC:= (.block 6 (.loop (sq [ro 66 (.bin .lss (.t 65) (.t 64))] (.seq (.cond (.t 66) .skip (.exit 6)) (.seq (.block 7 (sq [ro 67 (.aI 1 (.t 63) (.t 65)),rL 68 67,rm 14 68] (sq [rm 69 14,ro 70 (.bin .neq (.t 69) (ci (-1))),rm 71 70,rg 72 71 true (.mv (.t 6)),rg 73 71 true (.mv (.t 14)),rg 74 71 true (.aI 1 (.t 72) (.t 73)),rg 75 71 true (.load none (.t 74)),rg 76 71 true (.mv (.t 8)),rg 77 71 true (.bin .eql (.t 75) (.t 76)),ro 78 (.pick (.t 71) (.t 77) (.c (.v (.bool false))))] (.cond (.t 78) (.reg none [rm 79 10,rm 80 14,ro 81 (.dn 1 1 (.v (.int .i64 0)) [(0,(.t 80))]),ro 82 (.app 1 8 (.t 79) (.t 81)),rm 10 82]) .skip)))) (.reg none [ro 83 (.bin .add (.t 65) (ci 1)),rm 65 83]))))))
def XL:AC:= (.block 4 (.loop (sq [ro 50 (.bin .lss (.t 49) (.t 48))] (.seq (.cond (.t 50) .skip (.exit 4)) (.seq (.block 5 (sq [ro 51 (.aI 1 (.t 47) (.t 49)),rL 52 51,rm 12 52] (sq [rF 53 0 5,rL 54 53,rm 55 12,ro 56 (.aI 1 (.t 54) (.t 55)),rL 57 56,rm 58 9,ro 59 (.bin .mul (ci 2) (.t 58)),rm 60 9,ro 61 (.bin .mul (ci 2) (.t 60)),ro 62 (.bin .add (.t 61) (ci 2)),ro 63 (.slc 1 (.t 57) (some (.t 59)) (some (.t 62))),ro 64 (.len (.t 63)),ro 65 (.mv (ci 0))] WT))) (.reg none [ro 84 (.bin .add (.t 49) (ci 1)),rm 49 84]))))))
def IU(zB zA:FuncId):AC:= (sq [rm 85 10,ro 86 (.len (.t 85)),ro 87 (.bin .gtr (.t 86) (ci 0))] (.cond (.t 87) (sq [rm 88 10,rk 89 zB [(.t 88)]] (sq [rm 90 10,rk 91 zA [(.t 90)],rm 7 91] (sq [rm 92 2,rm 93 9,ro 94 (.dn 1 1 (.v (.int .i64 0)) [(0,(.t 93))]),ro 95 (.app 1 8 (.t 92) (.t 94)),rm 2 95] (.exit 1)))) .skip))
def WR(zB zA:FuncId):AC:= (.block 2 (.loop (sq [ro 45 (.bin .lss (.t 44) (.t 43))] (.seq (.cond (.t 45) .skip (.exit 2)) (.seq (.block 3 (sq [rm 46 44,rm 9 46] (sq [ro 10 (.mv (.c (.sl true [])))] (.seq (sq [rm 47 7,ro 48 (.len (.t 47)),ro 49 (.mv (ci 0))] XL) (IU zB zA))))) (.reg none [ro 96 (.bin .add (.t 44) (ci 1)),rm 44 96]))))))
def WS(zB zA:FuncId):AC:= (.block 0 (.loop (.seq (sq [rm 37 8,ro 38 (.bin .geq (.t 37) (ci 0))] (.cond (.t 38) .skip (.exit 0))) (.seq (.block 1 (sq [rF 41 0 1,rL 42 41,ro 43 (.bin .quo (.t 42) (ci 2)),ro 44 (.mv (ci 0))] (WR zB zA))) (.reg none [rm 39 8,ro 40 (.bin .sub (.t 39) (ci 1)),rm 8 40])))))
def Zdt(ER EO:FuncId):AC:= (.block 8 (.loop (.seq (.seq (.reg (some []) [ro 97 (.load (some 3) (.t 1)),rm 98 2,rm 99 3,rk 100 ER [(.t 98),(.t 99)],rk 101 EO [(.t 97),(.t 100)],ro 102 (.un .not (.t 101))]) (.cond (.t 102) .skip (.exit 8))) (.seq (.block 9 .skip) (.reg none [rm 103 3,ro 104 (.bin .add (.t 103) (ci 1)),rm 3 104])))))
def Xv(ER EO:FuncId):AC:= (.seq (sq [ro 3 (.mv (ci 1))] (Zdt ER EO)) (sq [rm 105 2,rm 106 3,rm 2 105,rm 3 106,ro 4 (.mv (.c (.v (.bool true))))] .ret))
def EZ(Dr P4H P4a zB zA ER EO:FuncId):AC:= (sq [ro 1 (.box 3 (.t 0)),ro 2 (.mv (.c (.sl true []))),ro 3 (.mv (ci 0)),ro 4 (.mv (.c (.v (.bool false))))] (.scp (.seq (sq [ro 15 (.load (some 3) (.t 1)),rk 16 Dr [(.t 15)],ro 17 (.un .not (.t 16)),rm 18 17,rg 19 18 false (.dA 0 (.t 1)),rg 20 18 false (.load none (.t 19)),rg 21 18 false (.bin .and (.t 20) (ci 1)),rg 22 18 false (.bin .eql (.t 21) (ci 1)),ro 23 (.pick (.t 18) (.c (.v (.bool true))) (.t 22))] (.cond (.t 23) (sq [ro 2 (.mv (.c (.sl true []))),ro 3 (.mv (ci 0)),ro 4 (.mv (.c (.v (.bool false))))] .ret) .skip)) (sq [ro 24 (.load (some 3) (.t 1)),rk 25 P4H [(.t 24)],ro 5 (.alloc (.agg [(.sl true []),(.sl true [])]) 2),rn (.store 2 (.t 5) (.t 25))] (sq [ro 26 (.load (some 2) (.t 5)),rk 27 P4a [(.t 26)],rm 6 27] (.seq (sq [rm 28 6,ro 29 (.aI 1 (.t 28) (ci 0)),rL 30 29,ro 31 (.bin .eql (.t 30) (ci (-1)))] (.cond (.t 31) (sq [ro 2 (.mv (.c (.sl true []))),ro 3 (.mv (ci 0)),ro 4 (.mv (.c (.v (.bool false))))] .ret) .skip)) (sq [ro 32 (.dn 1 1 (.v (.int .i64 0)) [(0,(ci 0))]),rm 7 32] (.seq .skip (.seq (sq [rm 33 6,ro 34 (.aI 1 (.t 33) (ci 0)),rL 35 34,ro 36 (.bin .sub (.t 35) (ci 1)),rm 8 36] (WS zB zA)) (Xv ER EO))))))))))
def Hr(g:Nat→Option aF)(v:AV)(l:List Int):Prop:=v=.sl true (l.map aj)∨∃id off ys,v=.own id off l.length∧g id=some (.arr 1 ys)∧off+l.length=ys.length∧ys.drop off=l.map aj
theorem Hr.frame{g g':Nat→Option aF}{v:AV}{l:List Int}(h:Hr g v l)(hs:∀i∈v.ids,g' i=g i):Hr g' v l:=by
 rcases h with h | ⟨id,off,ys,rfl,h1,h2,h3⟩
 ·exact .inl h
 ·exact .inr ⟨id,off,ys,rfl,by rw[hs id (by simp[AV.ids])];exact h1,h2,h3⟩
structure Dl(d:aD)(far:List Int)(left:Int)(half:Nat)(hn:Nat)(v2 va:AV)(f:AF):Prop where
 e1:f 1=.ptr 0 0 0
 e2:f 2=v2
 e5:f 5=.ptr 15 0 0
 e6:f 6=aA far
 e7:f 7=va
 e8:f 8=aj left
 e9:f 9=aj half
 e43:f 43=aj hn
 e44:f 44=aj half
structure Hf(nB:Nat)(gB:Nat→Option aF)(to:List Int)(f:AF)(S:St):Prop where
 go:∀k,k < nB→S.g k=gB k
 n:nB≤S.n
 v:Vec S.g (f 10) 1 (to.map aj)
 ids:∀i∈(f 10).ids,nB≤i∧i < S.n
def vL(far:List Int)(left:Int)(t:Int):Bool:=(t != -1) && (rd far t.toNat == left)
def Z6(d:aD)(far:List Int)(left:Int)(half hn:Nat)(v2 va:AV)(nB:Nat)(gB:Nat→Option aF)(BJ pair:List Int)(Df:AV)(C9 j:Nat)(m:Nat)(f:AF)(S:St):Prop:=
 ∃k t,k≤pair.length∧m=pair.length - k∧f 65=aj k∧f 64=aj pair.length∧f 63=.sl t (pair.map aj)∧f 47=Df∧f 48=aj C9∧f 49=aj j∧Dl d far left half hn v2 va f∧Hf nB gB (BJ++(pair.take k).filter (vL far left)) f S
theorem ZmZ{P:Program}{d:aD}{far:List Int}{left:Int}{half hn:Nat}{v2 va:AV}{nB:Nat}{gB:Nat→Option aF}{BJ pair:List Int}{Df:AV}{C9 j:Nat}(hp:pair.length≤2)(hin:∀t∈pair,-1≤t∧t < far.length)(hto:BJ.length≤1000000){f:AF}{S:St}{Q:Exit→AF→St→Prop}
  (h0:Z6 d far left half hn v2 va nB gB BJ pair Df C9 j pair.length f S)
  (hq:∀f' S',f' 47=Df→f' 48=aj C9→f' 49=aj j→Dl d far left half hn v2 va f'→Hf nB gB (BJ++pair.filter (vL far left)) f' S'→Q .normal f' S'):AW P WT Q f S:=by
 simp[WT];refine vW (Z6 d far left half hn v2 va nB gB BJ pair Df C9 j) pair.length h0 ?_;rintro m f S ⟨k,t,hk,rfl,e65,e64,e63,e47,e48,e49,ff,hf⟩;by_cases hlt:k < pair.length
 ·have Es:(k:Int) < pair.length:=by omega
  have Tz:pair[k]? = some pair[k]:=List.getElem?_eq_getElem hlt;obtain⟨i1,i2⟩:=hin _ (List.getElem_mem hlt);have w1:IntKind.i64.wrap ((k:Int)+1)=(k:Int)+1:=bG _ (by omega)
  have htake:(pair.take (k+1)).filter (vL far left)=(pair.take k).filter (vL far left)++(if vL far left pair[k]=true then [pair[k]] else []):=by
   rw[List.take_add_one,Tz,List.filter_append];simp only[Option.toList_some,List.filter_cons,List.filter_nil]
  have fin:∀(f2:AF) (S2:St),f2 65=aj ((k:Int)+1)→f2 64=aj pair.length→f2 63=.sl t (pair.map aj)→f2 47=Df→f2 48=aj C9→f2 49=aj j→Dl d far left half hn v2 va f2→
    Hf nB gB (BJ++((pair.take k).filter (vL far left)++(if vL far left pair[k]=true then [pair[k]] else []))) f2 S2→zU (Z6 d far left half hn v2 va nB gB BJ pair Df C9 j) (pair.length - k) f2 S2:=by
   intro f2 S2 a65 a64 a63 a47 a48 a49 af ah;exact⟨pair.length - (k+1),by omega,k+1,t,by omega,rfl,by rw[a65];simp[aj],a64,a63,a47,a48,a49,af,by rw[htake];exact ah⟩
  by_cases hno:pair[k] = -1
  ·have hb:(pair[k] != -1)=false:=by simp[hno]
   have hok:vL far left pair[k]=false:=by unfold vL;rw[hb];rfl
   rw[hok] at fin;simp[e65,e64,e63,Es,Tz,hb,w1];refine fin _ _ ?_ ?_ ?_ ?_ ?_ ?_ ⟨?_,?_,?_,?_,?_,?_,?_,?_,?_⟩ ?_
   ·simp[au,aj]
   ·simp[au,e64,aj]
   ·simp[au,e63]
   ·simp[au,e47]
   ·simp[au,e48]
   ·simp[au,e49]
   ·simp[au,ff.e1]
   ·simp[au,ff.e2]
   ·simp[au,ff.e5]
   ·simp[au,ff.e6,aA]
   ·simp[au,ff.e7]
   ·simp[au,ff.e8]
   ·simp[au,ff.e9]
   ·simp[au,ff.e43]
   ·simp[au,ff.e44]
   ·obtain⟨go,n,v,ids⟩:=hf
    refine⟨go,by simp<;>omega,by simpa[au] using v,fun i hi=>?_⟩;have:=ids i (by simpa[au] using hi);simp;omega
  ·have hb:(pair[k] != -1)=true:=by simp[hno]
   have h0t:0≤pair[k]:=by omega
   have Oa:(pair[k]).toNat < far.length:=by omega
   have hgt:far[(pair[k]).toNat]? = some far[(pair[k]).toNat]:=List.getElem?_eq_getElem Oa;have hrt:=Jm Oa;by_cases hl:far[(pair[k]).toNat]=left
   ·have hlb:(far[(pair[k]).toNat] == left)=true:=by simp[hl]
    have hok:vL far left pair[k]=true:=by unfold vL;rw[hb,←hrt,hlb];rfl
    rw[hok] at fin
    have happ:=fun(n aC:Nat)=>Vec.app (n:=n) (aC:=aC) (x:=.v (.int .i64 pair[k])) (aB:=8) hf.v (Ch _) (by simp[AV.cells]) (FL (by
     rw[List.length_map,List.length_append];have:=List.length_filter_le (vL far left) (pair.take k);simp at this;omega))
    have hnB:=hf.n;simp[e65,e64,e63,ff.e6,ff.e8,Es,Tz,hb,aA,h0t,i2,hlb];rw[happ];simp[e65,w1];refine fin _ _ ?_ ?_ ?_ ?_ ?_ ?_ ⟨?_,?_,?_,?_,?_,?_,?_,?_,?_⟩ ?_
    ·simp[au,aj]
    ·simp[au,e64,aj]
    ·simp[au,e63]
    ·simp[au,e47]
    ·simp[au,e48]
    ·simp[au,e49]
    ·simp[au,ff.e1]
    ·simp[au,ff.e2]
    ·simp[au,ff.e5]
    ·simp[au,ff.e6,aA]
    ·simp[au,ff.e7]
    ·simp[au,ff.e8]
    ·simp[au,ff.e9]
    ·simp[au,ff.e43]
    ·simp[au,ff.e44]
    ·refine⟨fun k hk=>?_,by simp[sZ]<;>omega,?_,fun i hi=>?_⟩
     ·simp only[aG]
      rw[if_neg (by omega),nH k (fun h6=>by have:=(hf.ids k h6).1;omega)];exact hf.go k hk
     ·simp only[au]
      simp only[Nat.reduceEqDiff,if_false,if_true];refine .mk' (by simp[aG,aj]) (by simp;omega)
     ·simp[au,AV.ids] at hi
      subst hi;simp[sZ];omega
   ·have hlb:(far[(pair[k]).toNat] == left)=false:=by simp[hl]
    have hok:vL far left pair[k]=false:=by unfold vL;rw[hb,←hrt,hlb];rfl
    rw[hok] at fin;simp[e65,e64,e63,ff.e6,ff.e8,Es,Tz,hb,w1,aA,h0t,i2,hlb];refine fin _ _ ?_ ?_ ?_ ?_ ?_ ?_ ⟨?_,?_,?_,?_,?_,?_,?_,?_,?_⟩ ?_
    ·simp[au,aj]
    ·simp[au,e64,aj]
    ·simp[au,e63]
    ·simp[au,e47]
    ·simp[au,e48]
    ·simp[au,e49]
    ·simp[au,ff.e1]
    ·simp[au,ff.e2]
    ·simp[au,ff.e5]
    ·simp[au,ff.e6,aA]
    ·simp[au,ff.e7]
    ·simp[au,ff.e8]
    ·simp[au,ff.e9]
    ·simp[au,ff.e43]
    ·simp[au,ff.e44]
    ·obtain⟨go,n,v,ids⟩:=hf
     refine⟨go,by simp<;>omega,by simpa[au] using v,fun i hi=>?_⟩;have:=ids i (by simpa[au] using hi);simp;omega
 ·have:k=pair.length:=by omega
  subst this;simp[e65,e64];obtain⟨go,n,v,ids⟩:=hf;rw[List.take_length] at v
  refine hq _ _ (by simp[au,e47]) (by simp[au,e48]) (by simp[au,e49]) ⟨by simp[au,ff.e1],by simp[au,ff.e2],by simp[au,ff.e5],by simp[au,ff.e6],by simp[au,ff.e7],by simp[au,ff.e8],by simp[au,ff.e9],by simp[au,ff.e43],by simp[au,ff.e44]⟩
   ⟨go,by simp;omega,by simpa[au] using v,fun i hi=>by
    have:=ids i (by simpa[au] using hi);simp;omega⟩
def Ua(d:aD)(far:List Int)(left:Int)(half hn:Nat)(v2 va:AV)(nB:Nat)(gB:Nat→Option aF)(at_:List Int)(m:Nat)(f:AF)(S:St):Prop:=
 ∃j,j≤at_.length∧m=at_.length - j∧f 47=va∧f 48=aj at_.length∧f 49=aj j∧Dl d far left half hn v2 va f∧Hf nB gB (mU d far (at_.take j) half left) f S
theorem Wv(d:aD)(far:List Int)(h:Nat)(left:Int):∀at_:List Int,(mU d far at_ h left).length≤2*at_.length
 | []=>by simp[mU]
 | x::l=>by
  have ih:=Wv d far h left l;have h1:=List.length_filter_le (fun t=>(t != -1) && (rd far t.toNat == left)) (((kY d x.toNat).drop (2*h)).take 2);simp only[mU,List.flatMap_cons,List.length_append,List.length_cons] at ih ⊢;simp at h1;omega
theorem Zui{P:Program}{d:aD}(R:bD d){sg:Nat}(hsg:d.signs=sg){far:List Int}(hfl:far.length=3*d.next.length){left:Int}{half hn:Nat}(hh:half < hn)(hhn:2*hn≤sg){v2 va:AV}{nB:Nat}{gB:Nat→Option aF}{at_:List Int}
  (hat:∀x∈at_,0≤x∧x < 3*d.next.length) (hal:at_.length≤100000) (hva:Hr gB va at_) (Av:∀i∈va.ids,i < nB) (g15:gB 15=some (.arr 2 [xI (pg d)])) (h15:15 < nB) {f:AF} {S:St} {Q:Exit→AF→St→Prop}
  (h0:Ua d far left half hn v2 va nB gB at_ at_.length f S) (hq:∀f' S',Dl d far left half hn v2 va f'→Hf nB gB (mU d far at_ half left) f' S'→Q .normal f' S'):AW P XL Q f S:=by
 have hs2:=R.s2;simp[XL];refine vW (Ua d far left half hn v2 va nB gB at_) at_.length h0 ?_
 rintro m f S ⟨j,hj,rfl,e47,e48,e49,ff,hf⟩;by_cases hlt:j < at_.length
 ·have Ke:(j:Int) < at_.length:=by omega
  have hga:at_[j]? = some at_[j]:=List.getElem?_eq_getElem hlt
  obtain⟨x0,x1⟩:=hat _ (List.getElem_mem hlt);have hgx:(pg d).next[(at_[j]).toNat]? = some (kY d (at_[j]).toNat):=Jj (by omega)
  have hrl:(kY d (at_[j]).toNat).length=sg:=by
   have e:(at_[j]).toNat=3*((at_[j]).toNat / 3)+(at_[j]).toNat % 3:=by omega
   rw[e];exact LM R hsg (by omega) (by omega)
  have G5:Hr S.g va at_:=hva.frame (fun i hi=>hf.go i (Av i hi))
  have aa9:S.g 15=some (.arr 2 [.agg [.sl false ((pg d).next.map aA),ji (pg d).fin]]):=by rw[hf.go 15 h15];exact g15
  have w1:IntKind.i64.wrap (2*(half:Int))=2*(half:Int):=bG _ (by omega);have w2:IntKind.i64.wrap (2*(half:Int)+2)=2*(half:Int)+2:=bG _ (by omega);have w3:IntKind.i64.wrap ((j:Int)+1)=(j:Int)+1:=bG _ (by omega);have n1:(2*(half:Int)).toNat=2*half:=by omega
  have n2:(2*(half:Int)+2).toNat=2*half+2:=by omega
  have n3:(0:Int)≤2*(half:Int):=by omega
  have n4:(0:Int)≤2*(half:Int)+2:=by omega
  have n5:2*half+2≤sg:=by omega
  have hpl:(((kY d (at_[j]).toNat).drop (2*half)).take 2).length=2:=by simp;omega
  have hpe:List.drop (2*half) (List.take (2*half+2) (List.map aj (kY d (at_[j]).toNat)))=(((kY d (at_[j]).toNat).drop (2*half)).take 2).map aj:=by
   rw[List.drop_take,←List.map_drop,←List.map_take];congr 2;omega
  have aai:∀t∈((kY d (at_[j]).toNat).drop (2*half)).take 2,-1≤t∧t < far.length:=by
   intro t ht;have hm:=List.mem_of_mem_drop (List.mem_of_mem_take ht);have hl:(pg d).next.length=3*d.next.length:=by simp[pg]
   rcases(SV R).at_ _ (List.mem_of_getElem? hgx) t hm with h1 | h1<;>omega
  have hto:(mU d far (at_.take j) half left).length≤1000000:=by
   have:=Wv d far half left (at_.take j);simp at this;omega
  have htk:mU d far (at_.take (j+1)) half left=mU d far (at_.take j) half left++(((kY d (at_[j]).toNat).drop (2*half)).take 2).filter (vL far left):=by
   rw[List.take_add_one,hga];simp only[Option.toList_some,mU,List.flatMap_append,List.flatMap_cons,List.flatMap_nil,List.append_nil];rfl
  have hfr:Hf nB gB (mU d far (at_.take j) half left++((((kY d (at_[j]).toNat).drop (2*half)).take 2).take 0).filter (vL far left)) f S:=by simpa using hf
  have fin:∀(f':AF) (S':St),f' 47=va→f' 48=aj at_.length→f' 49=aj j→Dl d far left half hn v2 va f'→Hf nB gB (mU d far (at_.take j) half left++(((kY d (at_[j]).toNat).drop (2*half)).take 2).filter (vL far left)) f' S'→
    mZ 5 (jZ (AW P (.reg none [⟨(some 84),.bin .add (.t 49) (ci 1),none,none⟩,⟨(some 49),.mv (.t 84),none,none⟩]) (jZ (zU (Ua d far left half hn v2 va nB gB at_) (at_.length - j)) (mZ 4 Q))) (jZ (zU (Ua d far left half hn v2 va nB gB at_) (at_.length - j)) (mZ 4 Q))) .normal f' S':=by
   intro f' S' k47 k48 k49 kf kh;simp[k49,w3];obtain⟨go,n,v,ids⟩:=kh;refine⟨at_.length - (j+1),by omega,j+1,by omega,rfl,?_,?_,?_,⟨?_,?_,?_,?_,?_,?_,?_,?_,?_⟩,⟨go,by simp<;>omega,?_,fun i hi=>?_⟩⟩
   ·simp[au,k47]
   ·simp[au,k48]
   ·simp[au,aj]
   ·simp[au,kf.e1]
   ·simp[au,kf.e2]
   ·simp[au,kf.e5]
   ·simp[au,kf.e6]
   ·simp[au,kf.e7]
   ·simp[au,kf.e8]
   ·simp[au,kf.e9]
   ·simp[au,kf.e43]
   ·simp[au,kf.e44]
   ·rw[htk];simpa[au] using v
   ·have:=ids i (by simpa[au] using hi)
    simp;omega
  rcases G5 with G5 | ⟨id,off,ys,G5,hgi,hoy,hdy⟩
  ·rw[G5] at e47
   simp[e47,e48,e49,ff.e5,ff.e9,Ke,hga,aa9,x0,hgx,aA,w1,w2,n1,n2,n3,n4,n5,hrl,wm,bnd];refine ZmZ (BJ:=mU d far (at_.take j) half left) (pair:=((kY d (at_[j]).toNat).drop (2*half)).take 2) (Df:=va) (C9:=at_.length) (j:=j) (Nat.le_of_eq hpl) aai hto ⟨0,false,by omega,by omega,?_,?_,?_,?_,?_,?_,⟨?_,?_,?_,?_,?_,?_,?_,?_,?_⟩,?_⟩ fin
   ·simp[au,aj]
   ·simp[au,hpl,aj]
   ·simp[au,hpe]
   ·simp[au,e47,G5]
   ·simp[au,e48,aj]
   ·simp[au,e49,aj]
   ·simp[au,ff.e1]
   ·simp[au,ff.e2]
   ·simp[au,ff.e5]
   ·simp[au,ff.e6]
   ·simp[au,ff.e7]
   ·simp[au,ff.e8]
   ·simp[au,ff.e9]
   ·simp[au,ff.e43]
   ·simp[au,ff.e44]
   ·obtain⟨go,n,v,ids⟩:=hfr
    refine⟨go,by simp<;>omega,by simpa[au] using v,fun i hi=>?_⟩;have:=ids i (by simpa[au] using hi);simp;omega
  ·rw[G5] at e47
   have abf:off+at_.length≤ys.length:=by omega
   have hgy:ys[off+j]? = some (.v (.int .i64 at_[j])):=by
    have:(ys.drop off)[j]? = some (aj at_[j]):=by rw[hdy];simp[hga]
    rwa[List.getElem?_drop] at this
   simp[e47,e48,e49,ff.e5,ff.e9,Ke,hgi,hgy,abf,aa9,x0,hgx,aA,w1,w2,n1,n2,n3,n4,n5,hrl,wm,bnd];refine ZmZ (BJ:=mU d far (at_.take j) half left) (pair:=((kY d (at_[j]).toNat).drop (2*half)).take 2) (Df:=va) (C9:=at_.length) (j:=j) (Nat.le_of_eq hpl) aai hto ⟨0,false,by omega,by omega,?_,?_,?_,?_,?_,?_,⟨?_,?_,?_,?_,?_,?_,?_,?_,?_⟩,?_⟩ fin
   ·simp[au,aj]
   ·simp[au,hpl,aj]
   ·simp[au,hpe]
   ·simp[au,e47,G5]
   ·simp[au,e48,aj]
   ·simp[au,e49,aj]
   ·simp[au,ff.e1]
   ·simp[au,ff.e2]
   ·simp[au,ff.e5]
   ·simp[au,ff.e6]
   ·simp[au,ff.e7]
   ·simp[au,ff.e8]
   ·simp[au,ff.e9]
   ·simp[au,ff.e43]
   ·simp[au,ff.e44]
   ·obtain⟨go,n,v,ids⟩:=hfr
    refine⟨go,by simp<;>omega,by simpa[au] using v,fun i hi=>?_⟩;have:=ids i (by simpa[au] using hi);simp;omega
 ·have:j=at_.length:=by omega
  subst this;rw[List.take_length] at hf;simp[e48,e49];obtain⟨go,n,v,ids⟩:=hf
  refine hq _ _ ⟨by simp[au,ff.e1],by simp[au,ff.e2],by simp[au,ff.e5],by simp[au,ff.e6],by simp[au,ff.e7],by simp[au,ff.e8],by simp[au,ff.e9],by simp[au,ff.e43],by simp[au,ff.e44]⟩
   ⟨go,by simp<;>omega,by simpa[au] using v,fun i hi=>by
    have:=ids i (by simpa[au] using hi);simp;omega⟩
structure Ac(d:aD)(v2 va:AV)(je at_:List Int)(N:Nat)(g:Nat→Option aF):Prop where
 g0:g 0=some (.arr 3 [aW d])
 g15:g 15=some (.arr 2 [xI (pg d)])
 n:16≤N
 v:Vec g v2 1 (je.map aj)
 vi:∀i∈v2.ids,i < N∧i≠0∧i≠15
 a:Hr g va at_
 ai:∀i∈va.ids,i < N∧i≠0∧i≠15
 nP:∀i∈v2.ids,i∉va.ids
theorem Ac.frame{d:aD}{v2 va:AV}{je at_:List Int}{n n':Nat}{g g':Nat→Option aF}(h:Ac d v2 va je at_ n g)(hn:n≤n')(hg:∀k,k < n→g' k=g k):Ac d v2 va je at_ n' g':=by
 have:=h.n;exact⟨by rw[hg 0 (by omega)];exact h.g0,by rw[hg 15 (by omega)];exact h.g15,by omega,h.v.frame (fun i hi=>hg i (h.vi i hi).1),fun i hi=>⟨by have:=(h.vi i hi).1;omega,(h.vi i hi).2⟩,h.a.frame (fun i hi=>hg i (h.ai i hi).1),fun i hi=>⟨by have:=(h.ai i hi).1;omega,(h.ai i hi).2⟩,h.nP⟩
structure Hz(d:aD)(far:List Int)(left:Int)(v2 va:AV)(f:AF):Prop where
 e1:f 1=.ptr 0 0 0
 e2:f 2=v2
 e5:f 5=.ptr 15 0 0
 e6:f 6=aA far
 e7:f 7=va
 e8:f 8=aj left
def Kn(d:aD)(far:List Int)(k hn:Nat)(v2 va:AV)(je at_:List Int)(m:Nat)(f:AF)(S:St):Prop:=
 ∃h,h≤hn∧m=hn - h∧f 43=aj hn∧f 44=aj h∧Hz d far k v2 va f∧Ac d v2 va je at_ S.n S.g∧∀h',h' < h→mU d far at_ h' k=[]
theorem Zsc{P:Program}{fs fc:FuncId}(Hs:Cz P fs)(Hc:Cy P fc){d:aD}{far:List Int}{k h hn nB:Nat}{gB:Nat→Option aF}{v2 va:AV}{je at_ to:List Int}
  (hsl:je.length≤100000) (htl:to.length≤1000000) {f:AF} {S:St} {Q:Exit→AF→St→Prop} (ff:Dl d far k h hn v2 va f) (sn:Ac d v2 va je at_ nB gB) (hf:Hf nB gB to f S)
  (hq0:to=[]→∀f' S',f' 43=aj hn→f' 44=aj h→Hz d far k v2 va f'→Ac d v2 va je at_ S'.n S'.g→Q .normal f' S')
  (hq1:to≠[]→∀f' S' Db Dc,Hz d far k Db Dc f'→Ac d Db Dc (je++[(h:Int)]) (Lib.compact (to.mergeSort fun x y=>decide (x≤y))) S'.n S'.g→Q (.exit 1) f' S'):AW P (IU fs fc) Q f S:=by
 obtain⟨go,hn1,v,ids⟩:=hf;have hsn:=sn.n;have snS:Ac d v2 va je at_ S.n S.g:=sn.frame hn1 go
 rcases v with⟨e10,hnil⟩ | ⟨id,off,ys,e10,hg,ho,hd⟩
 ·have hnil':to=[]:=by simpa using hnil
  simp[IU,e10];refine hq0 hnil' _ _ (by simp[au,ff.e43]) (by simp[au,ff.e44]) ⟨by simp[au,ff.e1],by simp[au,ff.e2],by simp[au,ff.e5],by simp[au,ff.e6],by simp[au,ff.e7],by simp[au,ff.e8]⟩ (snS.frame (by simp) (fun _ _=>rfl))
 ·rw[List.length_map] at e10
  by_cases hnil':to=[]
  ·have hl0:to.length=0:=by rw[hnil'];rfl
   simp[IU,e10,hl0];refine hq0 hnil' _ _ (by simp[au,ff.e43]) (by simp[au,ff.e44]) ⟨by simp[au,ff.e1],by simp[au,ff.e2],by simp[au,ff.e5],by simp[au,ff.e6],by simp[au,ff.e7],by simp[au,ff.e8]⟩ (snS.frame (by simp) (fun _ _=>rfl))
  ·have hlp:(0:Int) < to.length:=by have:=List.length_pos_iff.mpr hnil';omega
   have hsl1:(to.mergeSort fun x y=>decide (x≤y)).length=to.length:=List.length_mergeSort _;have aaf:=ids id (by rw[e10];simp[AV.ids]);have hdl:decide (0 < to.length)=true:=decide_eq_true (List.length_pos_iff.mpr hnil');simp[IU,e10,hdl];refine Hs _ id off ys to _ hg hd hnil' (Nat.le_trans htl (by decide)) ?_;simp[e10]
   have hd2:(ys.take off++(to.mergeSort fun x y=>decide (x≤y)).map aj).drop off=(to.mergeSort fun x y=>decide (x≤y)).map aj:=by
    rw[List.drop_append_of_le_length (by simp;omega)];simp
   have ZU:(to.mergeSort fun x y=>decide (x≤y))≠[]:=by
    intro e;rw[e] at hsl1;exact hnil' (List.eq_nil_of_length_eq_zero hsl1.symm)
   have hcall:=fun S K=>Hc S id off (ys.take off++(to.mergeSort fun x y=>decide (x≤y)).map aj) (to.mergeSort fun x y=>decide (x≤y)) K
   simp only[hsl1] at hcall;refine hcall _ _ ?_ hd2 ZU (Nat.le_trans htl (by decide)) ?_
   ·simp[aG]
   have aao:id∉v2.ids:=fun h6=>by have:=(sn.vi id h6).1;omega
   have hvv:Vec S.g v2 1 (je.map aj):=snS.v
   have htk:List.take off (List.take off ys++List.map aj (to.mergeSort fun x y=>decide (x≤y)))=List.take off ys:=by
    have hl:off≤(ys.take off).length:=by rw[List.length_take];omega
    rw[List.take_append_of_le_length hl,List.take_take,Nat.min_self]
   simp[ff.e2,ff.e9];rw[Vec.app (xs:=je.map aj) (hvv.frame (fun j hj=>?_)) (Ch _) (by simp[AV.cells]) (FL (by rw[List.length_map];omega))]
   ·simp
    have hgo:∀(n1 n2 n3:Nat) (b1 b2 b3:Option aF) (j:Nat),j < nB→j∉v2.ids→((St.without ⟨n1,(St.set ⟨n2,(St.set ⟨n3,S.g⟩ id b1).g⟩ id b2).g⟩ v2).set (S.n+3+2+3+3) b3).g j=gB j:=by
     intro n1 n2 n3 b1 b2 b3 j hj hj2;rw[aG,if_neg (by omega),nH j hj2];simp only[aG];rw[if_neg (by omega),if_neg (by omega)];exact go j hj
    refine hq1 hnil' _ _ (.own (S.n+3+2+3+3) 0 (je.length+1)) (.own id off (Lib.compact (to.mergeSort fun x y=>decide (x≤y))).length) ⟨?_,?_,?_,?_,?_,?_⟩ ⟨?_,?_,?_,?_,?_,?_,?_,?_⟩
    ·simp[au,ff.e1]
    ·simp[au]
    ·simp[au,ff.e5]
    ·simp[au,ff.e6]
    ·simp[au]
    ·simp[au,ff.e8]
    ·rw[hgo _ _ _ _ _ _ 0 (by omega) (fun h6=>(sn.vi 0 h6).2.1 rfl)];exact sn.g0
    ·rw[hgo _ _ _ _ _ _ 15 (by omega) (fun h6=>(sn.vi 15 h6).2.2 rfl)];exact sn.g15
    ·simp[bf,sZ];omega
    ·exact .mk' (by simp[aG,aj]) (by simp)
    ·intro i hi
     simp only[AV.ids,List.mem_singleton] at hi;subst hi;simp[bf,sZ];omega
    ·have hl:off≤(ys.take off).length:=by rw[List.length_take];omega
     refine .inr ⟨id,off,ys.take off++(Lib.compact (to.mergeSort fun x y=>decide (x≤y))).map aj,rfl,?_,?_,?_⟩
     ·rw[aG,if_neg (by omega),nH id aao,aG,if_pos rfl,htk]
     ·rw[List.length_append,List.length_map,List.length_take];omega
     ·rw[List.drop_append_of_le_length hl];simp
    ·intro i hi
     simp only[AV.ids,List.mem_singleton] at hi;subst hi;simp[bf,sZ];omega
    ·intro i hi h6
     simp only[AV.ids,List.mem_singleton] at hi h6;omega
   ·simp only[aG]
    have hj2:j≠id:=fun e=>aao (e ▸ hj)
    rw[if_neg hj2,if_neg hj2]
theorem Zsa{P:Program}{fs fc:FuncId}(Hs:Cz P fs)(Hc:Cy P fc){d:aD}(R:bD d)(hev:d.signs % 2=0){sg hn:Nat}(hsg:d.signs=sg)(hhn:2*hn=sg){far:List Int}(fo:u6 (pg d) far){k:Nat}{v2 va:AV}{je at_:List Int}
  (hat:y7 d far at_ (k+1)) (hal:at_.length≤100000) (hsl:je.length≤100000) {f:AF} {S:St} {Q:Exit→AF→St→Prop} (h0:Kn d far k hn v2 va je at_ hn f S)
  (hq:∀f' S' Db Dc,Hz d far k Db Dc f'→Ac d Db Dc (je++[(uL d far at_ k:Int)]) (zP d far at_ (uL d far at_ k) k) S'.n S'.g→Q (.exit 1) f' S'):AW P (WR fs fc) Q f S:=by
 have hs2:=R.s2;have hfl:far.length=3*d.next.length:=by rw[fo.len,yA]
 obtain⟨b1,b2,b3⟩:=QH R hev fo hat;have b1':uL d far at_ k < hn:=by omega
 simp[WR];refine vW (Kn d far k hn v2 va je at_) hn h0 ?_;rintro m f S ⟨h,hh,rfl,e43,e44,gg,sn,hno⟩
 have hlt:h < hn:=by
  by_cases hc:h < hn
  ·exact hc
  ·exact(b2 (hno _ (by omega))).elim
 have GX:(h:Int) < hn:=by omega
 have w3:IntKind.i64.wrap ((h:Int)+1)=(h:Int)+1:=bG _ (by omega)
 have hlen:fu va=some (.v (.int .i64 at_.length)):=by
  rcases sn.a with e | ⟨id,off,ys,e,_⟩<;>rw[e]<;>simp[fu]
 have htl:(mU d far at_ h k).length≤1000000:=by have:=Wv d far h k at_;omega
 have fin:∀(f':AF) (S':St),Dl d far k h hn v2 va f'→Hf (S.n+1+2+1+3) S.g (mU d far at_ h k) f' S'→jZ (AW P (IU fs fc) (mZ 3 (jZ (AW P (.reg none [⟨(some 96),.bin .add (.t 44) (ci 1),none,none⟩,⟨(some 44),.mv (.t 96),none,none⟩]) (jZ (zU (Kn d far k hn v2 va je at_) (hn - h)) (mZ 2 Q))) (jZ (zU (Kn d far k hn v2 va je at_) (hn - h)) (mZ 2 Q)))))
   (mZ 3 (jZ (AW P (.reg none [⟨(some 96),.bin .add (.t 44) (ci 1),none,none⟩,⟨(some 44),.mv (.t 96),none,none⟩]) (jZ (zU (Kn d far k hn v2 va je at_) (hn - h)) (mZ 2 Q))) (jZ (zU (Kn d far k hn v2 va je at_) (hn - h)) (mZ 2 Q)))) .normal f' S':=by
  intro f' S' kf kh;simp only[dN];refine Zsc Hs Hc hsl htl kf (sn.frame (by omega) (fun _ _=>rfl)) kh (fun hnil f2 S2 k43 k44 kg ks=>?_) (fun hne f2 S2 Db Dc kg ks=>?_)
  ·simp[k44,w3]
   refine⟨hn - (h+1),by omega,h+1,by omega,rfl,?_,?_,⟨?_,?_,?_,?_,?_,?_⟩,ks.frame (by simp) (fun _ _=>rfl),fun h' hh'=>?_⟩
   ·simp[au,k43]
   ·simp[au,aj]
   ·simp[au,kg.e1]
   ·simp[au,kg.e2]
   ·simp[au,kg.e5]
   ·simp[au,kg.e6]
   ·simp[au,kg.e7]
   ·simp[au,kg.e8]
   ·by_cases e:h'=h
    ·subst e;exact hnil
    ·exact hno h' (by omega)
  ·have he:uL d far at_ k=h:=by
    by_cases hc:uL d far at_ k < h
    ·exact(b2 (hno _ hc)).elim
    ·by_cases hc2:h < uL d far at_ k
     ·exact(hne (b3 h hc2)).elim
     ·omega
   simp[fI,fJ];have:=hq f2 S2 Db Dc kg;rw[he] at this;exact this ks
 have aa8:Hf (S.n+1+2+1+3) S.g (mU d far (at_.take 0) h k) (fun _=>.sl true []) ⟨S.n+1+2+1+3,S.g⟩:=⟨fun _ _=>rfl,Nat.le_refl _,by simp[mU];exact .nil,by simp[AV.ids]⟩;rcases sn.a with ea | ⟨id,off,ys,ea,_⟩
 ·have e7:=gg.e7.trans ea
  simp[e43,e44,e7,GX];refine Zui R hsg hfl hlt (Nat.le_of_eq hhn) hat.rng hal sn.a (fun i hi=>by have:=(sn.ai i hi).1;omega) sn.g15 (by have:=sn.n;omega) (nB:=S.n+1+2+1+3) (v2:=v2) ⟨0,by omega,by omega,?_,?_,?_,⟨?_,?_,?_,?_,?_,?_,?_,?_,?_⟩,?_⟩ fin
  ·simp[au,ea]
  ·simp[au,aj]
  ·simp[au,aj]
  ·simp[au,gg.e1]
  ·simp[au,gg.e2]
  ·simp[au,gg.e5]
  ·simp[au,gg.e6]
  ·simp[au,gg.e7]
  ·simp[au,gg.e8]
  ·simp[au,aj]
  ·simp[au,e43]
  ·simp[au,e44]
  ·obtain⟨q1,q2,q3,q4⟩:=aa8
   exact⟨q1,q2,by simpa[au] using q3,by simp[au,AV.ids]⟩
 ·have e7:=gg.e7.trans ea
  simp[e43,e44,e7,GX];refine Zui R hsg hfl hlt (Nat.le_of_eq hhn) hat.rng hal sn.a (fun i hi=>by have:=(sn.ai i hi).1;omega) sn.g15 (by have:=sn.n;omega) (nB:=S.n+1+2+1+3) (v2:=v2) ⟨0,by omega,by omega,?_,?_,?_,⟨?_,?_,?_,?_,?_,?_,?_,?_,?_⟩,?_⟩ fin
  ·simp[au,ea]
  ·simp[au,aj]
  ·simp[au,aj]
  ·simp[au,gg.e1]
  ·simp[au,gg.e2]
  ·simp[au,gg.e5]
  ·simp[au,gg.e6]
  ·simp[au,gg.e7]
  ·simp[au,gg.e8]
  ·simp[au,aj]
  ·simp[au,e43]
  ·simp[au,e44]
  ·obtain⟨q1,q2,q3,q4⟩:=aa8
   exact⟨q1,q2,by simpa[au] using q3,by simp[au,AV.ids]⟩
theorem ZiV:∀(l:List Int) (a b:Int),l.Pairwise (· < ·)→(∀x∈l,a≤x∧x < b)→a≤b→(l.length:Int)≤b - a
 | [],a,b,_,_,h=>by simp;omega
 | x::l,a,b,hp,hb,h=>by
  have h1:=List.pairwise_cons.mp hp;have hx:=hb x (by simp);have:=ZiV l (x+1) b h1.2 (fun y hy=>⟨by have:=h1.1 y hy;omega,(hb y (by simp[hy])).2⟩) (by omega);simp;omega
theorem ZfJ{zs:List Int}(hs:zs.Pairwise (·≤·)):(Lib.compact zs).Pairwise (· < ·):=by
 have hget:∀j (hj:j < zs.length),zs.toArray[j]! = zs[j]:=fun j hj=>by simp[hj]
 simp only[Lib.compact,Lib.compactUpTo,List.pairwise_map];refine List.Pairwise.imp_of_mem (R:=(· < ·)) (fun {a b} ha hb hab=>?_) (List.Pairwise.filter _ List.pairwise_lt_range);simp only[List.mem_filter,List.mem_range] at ha hb;obtain⟨hb1,hb2⟩:=hb;have hk:b=0∨zs.toArray[b]!≠zs.toArray[b - 1]!:=by simpa[Lib.keeps] using hb2
 have hk':zs.toArray[b]!≠zs.toArray[b - 1]!:=by
  rcases hk with h | h
  ·omega
  ·exact h
 rw[hget b hb1,hget (b - 1) (by omega)] at hk';rw[hget a ha.1,hget b hb1];have hpw:=List.pairwise_iff_getElem.mp hs
 have h1:zs[a]≤zs[b - 1]:=by
  by_cases e:a=b - 1
  ·subst e;exact Int.le_refl _
  ·exact hpw a (b - 1) ha.1 (by omega) (by omega)
 have h2:zs[b - 1]≤zs[b]:=hpw (b - 1) b (by omega) hb1 (by omega);omega
theorem Zq8(l:List Int):(l.mergeSort fun x y=>decide (x≤y)).Pairwise (·≤·):=by
 have:=List.pairwise_mergeSort (le:=fun x y:Int=>decide (x≤y)) (fun a b c h1 h2=>by simp at *;omega) (fun a b=>by simp;omega) l;exact this.imp (fun h=>by simpa using h)
theorem Zkp{d:aD}{far at_:List Int}{h:Nat}{left:Int}{N:Nat}(hr:∀x∈zP d far at_ h left,0≤x∧x < N):(zP d far at_ h left).length≤N:=by
 have:=ZiV _ 0 N (ZfJ (Zq8 _)) hr (by omega);simp only[zP] at this ⊢;omega
def mkL(d:aD)(far:List Int)(tot:List Int)(m:Nat)(f:AF)(S:St):Prop:=
 ∃v2 va je at_,Hz d far ((m:Int) - 1) v2 va f∧Ac d v2 va je at_ S.n S.g∧y7 d far at_ m∧at_.length≤100000∧je++vT d far m at_=tot
theorem Zsb{P:Program}{fs fc:FuncId}(Hs:Cz P fs)(Hc:Cy P fc){d:aD}(R:bD d)(hev:d.signs % 2=0){far:List Int}(fo:u6 (pg d) far){tot:List Int}(ht:tot.length≤100000){f:AF}{S:St}{Q:Exit→AF→St→Prop}(m:Nat)(h0:mkL d far tot m f S)
  (hq:∀f' S' v2 va at_,Hz d far (-1) v2 va f'→Ac d v2 va tot at_ S'.n S'.g→Q .normal f' S'):AW P (WS fs fc) Q f S:=by
 obtain⟨sg,hsg⟩:∃sg:Nat,d.signs=sg:=⟨d.signs.toNat,by have:=R.s1;omega⟩;have hs2:=R.s2;have hn2:=R.n2;simp[WS];refine vW (mkL d far tot) m h0 ?_;rintro m f S ⟨v2,va,je,at_,gg,sn,hat,hal,htot⟩;cases m with
 | zero=>
  have e8:f 8=aj (-1):=by rw[gg.e8];rfl
  simp[e8];have hl:je=tot:=by rw[vT,List.append_nil] at htot;exact htot
  subst hl;refine hq _ _ v2 va at_ ⟨by simp[au,gg.e1],by simp[au,gg.e2],by simp[au,gg.e5],by simp[au,gg.e6],by simp[au,gg.e7],by simp[au,e8,aj]⟩ (sn.frame (by simp) (fun _ _=>rfl))
 | succ k=>
  have e8:f 8=aj k:=by rw[gg.e8];congr 1;omega
  have hk0:(0:Int)≤(k:Int):=by omega
  have g0:=sn.g0;have hw:IntKind.i64.wrap ((sg:Int) / 2)=((sg / 2:Nat):Int):=by rw[bG _ (by omega)];omega
  have hw2:IntKind.i64.wrap ((k:Int) - 1)=(k:Int) - 1:=bG _ (by
   have h1:=hat.far;have:=congrArg List.length htot;simp[Ik] at this;omega)
  have hsl:je.length≤100000:=by
   have:=congrArg List.length htot;simp[Ik] at this;omega
  obtain⟨b1,b2,b3⟩:=QH R hev fo hat;simp[e8,gg.e1,g0,aW,hsg,hk0,hw];refine Zsa Hs Hc R hev hsg (hn:=sg / 2) (by omega) fo hat hal hsl (v2:=v2) (va:=va) (je:=je) ⟨0,by omega,by omega,?_,?_,⟨?_,?_,?_,?_,?_,?_⟩,sn.frame (by simp<;>omega) (fun _ _=>rfl),by omega⟩ (fun f' S' Db Dc kg ks=>?_)
  ·simp[au,aj]
  ·simp[au,aj]
  ·simp[au,gg.e1]
  ·simp[au,gg.e2]
  ·simp[au,gg.e5]
  ·simp[au,gg.e6]
  ·simp[au,gg.e7]
  ·simp[au,e8]
  ·have hnx:=hat.next R b2
   have hnl:(zP d far at_ (uL d far at_ k) k).length≤3*d.next.length:=Zkp (fun x hx=>by have:=hnx.rng x hx;omega)
   simp[kg.e8,hw2];refine⟨k,by omega,Db,Dc,je++[(uL d far at_ k:Int)],zP d far at_ (uL d far at_ k) k,⟨?_,?_,?_,?_,?_,?_⟩,ks.frame (by simp) (fun _ _=>rfl),hnx,by omega,?_⟩
   ·simp[au,kg.e1]
   ·simp[au,kg.e2]
   ·simp[au,kg.e5]
   ·simp[au,kg.e6]
   ·simp[au,kg.e7]
   ·simp[au,aj]
   ·rw[←htot,vT,List.append_assoc];rfl
def mkQ(d:aD)(je:List Int)(pf:Nat)(v2:AV)(m:Nat)(f:AF)(S:St):Prop:=
 ∃p:Nat,1≤p∧p≤pf∧m=pf - p∧f 1=.ptr 0 0 0∧f 2=v2∧f 3=aj p∧S.g 0=some (.arr 3 [aW d])∧Vec S.g v2 1 (je.map aj)
theorem Zuj{P:Program}{fw fa:FuncId}{d:aD}{je:List Int}(hsl:je.length≤1000000)(hw:∀p:Int,aO P fw [aA je,aj p] (aA (jg je p))∧xH P fw [aA je,aj p] (aA (jg je p)))
  (ha:∀p:Int,aO P fa [aW d,aA (jg je p)] (aH (nD d (jg je p)))) {pf:Nat} (hpf:Ce d je pf) {v2:AV} {f:AF} {S:St} (e1:f 1=.ptr 0 0 0) (e2:f 2=v2) (g0:S.g 0=some (.arr 3 [aW d])) (hv:Vec S.g v2 1 (je.map aj)) :
  AW P (Xv fw fa) (xB (gG [2,3,4] (iP (.aN [aA je,aj pf,aH true])))) f S:=by
 have hlo:=hpf.lo;have hhi:=hpf.hi;simp[Xv,Zdt];refine vW (mkQ d je pf v2) (pf - 1) ⟨1,by omega,hlo,rfl,by simp[au,e1],by simp[au,e2],by simp[au,aj],g0,hv.frame (fun _ _=>rfl)⟩ ?_;rintro m f S ⟨p,p1,p2,rfl,e1,e2,e3,g0,hv⟩;have hw3:IntKind.i64.wrap ((p:Int)+1)=(p:Int)+1:=bG _ (by omega);have Ey:Vec (only v2.ids S.g) v2 1 (je.map aj):=hv.frame (fun i hi=>by rw[DX,if_pos hi])
 have aaO:∀n,nJ P fw [v2,.v (.int .i64 p)] ⟨n,S.g⟩ v2.ids (aA (jg je p)):=fun n=>by
  refine⟨[aA je,aj p],(hw p).1,rfl,fun j h1 h2=>?_,.inr (.inr ⟨aR _,(hw p).2⟩)⟩
  match j,h1 with
  | 0,_=>exact Ey.fz aS
  | 1,_=>exact .closed _ (.v _)
 have aaP:∀n,nJ P fa [.agg [.v (.int .i64 d.signs),aX d.next,ji d.fin],aA (jg je p)] ⟨n,S.g⟩ [] (aH (nD d (jg je p))):=fun n=>by
  refine⟨[aW d,aA (jg je p)],ha p,rfl,fun j h1 h2=>?_,.inl (Mq _)⟩
  match j,h1 with
  | 0,_=>exact .closed _ (iV d)
  | 1,_=>exact .closed _ (aR _)
 simp[e1,e2,e3,g0,aW];refine⟨_,⟨_,aaO _⟩,_,⟨_,aaP _⟩,?_⟩;by_cases hp:p=pf
 ·subst hp
  rw[hpf.acc];simp[e2,e3]
  exact .aN _ _ rfl (by
   intro j h1 h2
   match j,h1 with
   | 0,_=>exact hv.fz aS
   | 1,_=>exact .closed _ (.v _)
   | 2,_=>exact .closed _ (.v _))
 ·rw[hpf.fst p p1 (by omega)]
  simp[e3,hw3];refine⟨pf - (p+1),by omega,p+1,by omega,by omega,rfl,?_,?_,?_,g0,hv⟩
  ·simp[au,e1]
  ·simp[au,e2]
  ·simp[au,aj]
open Classical in
noncomputable def yZ(d:aD):Nat:=if h:∃p,Ce d (jG d) p then h.choose else 0
theorem V4{d:aD}(h:∃p,Ce d (jG d) p):Ce d (jG d) (yZ d):=by
 unfold yZ;rw[dif_pos h];exact h.choose_spec
theorem ZmT{d:aD}(h:nZ d=false):jG d=[]∧yZ d=0:=by
 have hs:jG d=[]:=by unfold jG;rw[h];rfl
 refine⟨hs,?_⟩;unfold yZ;rw[dif_neg];rintro⟨p,hp⟩;have:=hp.hi;rw[hs] at this;simp at this
theorem X7{d:aD}(h:nZ d=false)(S:St):iP (.aN [aA (jG d),aj (yZ d),aH (nZ d)]) (.aN [.sl true [],.v (.int .i64 0),.v (.bool false)]) S:=by
 obtain⟨h1,h2⟩:=ZmT h;rw[h1,h2,h]
 exact .aN _ _ rfl (by
  intro j k1 k2
  match j,k1 with
  | 0,_=>exact .loose true [] (.sl _ _ (by simp))
  | 1,_=>exact .closed _ (.v _)
  | 2,_=>exact .closed _ (.v _))
theorem Zbr{P:Program}{fr fp fg fs fc fw fa:FuncId}(Hs:Cz P fs)(Hc:Cy P fc)(d:aD)(hr:aO P fr [aW d] (aH (lS d)))(hp:bD d→aO P fp [aW d] (xI (pg d)))(hg:bD d→aO P fg [xI (pg d)] (aA (sK (pg d))))
  (hw:∀(s:List Int) (p:Int),s.length≤1000000→aO P fw [aA s,aj p] (aA (jg s p))∧xH P fw [aA s,aj p] (aA (jg s p))) (ha:∀l:List Int,Len l→aO P fa [aW d,aA l] (aH (nD d l))) :
  AW P (EZ fr fp fg fs fc fw fa) (gG [2,3,4] (iP (.aN [aA (jG d),aj (yZ d),aH (nZ d)]))) (bU [aW d]) S0:=by
 by_cases hR:lS d=true
 ·have R:=(uW d).mp hR
  obtain⟨signs,next,fin⟩:=d;obtain⟨sg,hsg⟩:∃sg:Nat,signs=sg:=⟨signs.toNat,by have:=R.s1;simp only at this;omega⟩;subst hsg;have hs1:=R.s1;have hs2:=R.s2;have hn1:=R.n1;have hn2:=R.n2;simp only at hs1 hs2 hn1 hn2;have ha1:=Zwh sg (by omega);have fo:=Ms (pg ⟨(sg:Int),next,fin⟩);have hgn:=yA ⟨(sg:Int),next,fin⟩;simp only at hgn;by_cases hev:sg % 2=0
  ·have NS:(aD.mk (sg:Int) next fin).signs % 2=0:=by show(sg:Int) % 2=0;omega
   rw[hev] at ha1;have hok:=Wp R NS;simp[EZ,aW];refine aQ.pure hr (aL (iV _) aU) (bY _) ?_;simp[hR,ha1];refine aQ.pure (hp R) (aL (iV _) aU) (ZfD _) ?_;simp[xI];refine aQ.pure (hg R) (aL (ZfD _) aU) (aR _) ?_;have hfp:yw ⟨(sg:Int),next,fin⟩=sK (pg ⟨(sg:Int),next,fin⟩):=rfl;rw[hfp] at hok;have hS0:nZ ⟨(sg:Int),next,fin⟩=true→jG ⟨(sg:Int),next,fin⟩=vT ⟨(sg:Int),next,fin⟩ (sK (pg ⟨(sg:Int),next,fin⟩)) (rd (sK (pg ⟨(sg:Int),next,fin⟩)) 0).toNat [0]:=fun h=>by unfold jG;rw[if_pos h];rfl
   have aaG:0≤rd (sK (pg ⟨(sg:Int),next,fin⟩)) 0→y7 ⟨(sg:Int),next,fin⟩ (sK (pg ⟨(sg:Int),next,fin⟩)) [0] (rd (sK (pg ⟨(sg:Int),next,fin⟩)) 0).toNat:=fun h=>YS R h
   have hval:=fo.val 0 (by omega);have abF:=fo.lt 0 (by omega);have hfl:=fo.len;generalize hfg:sK (pg ⟨(sg:Int),next,fin⟩)=far at *;have h0:0 < far.length:=by omega
   have h0I:(0:Int) < far.length:=by omega
   have hg0:far[0]? = some far[0]:=List.getElem?_eq_getElem h0;have hr0:=Jm h0;by_cases hno:far[0] = -1
   ·have hb:(far[0] == -1)=true:=by simp[hno]
    have hmo:nZ ⟨(sg:Int),next,fin⟩=false:=by
     cases h:nZ ⟨(sg:Int),next,fin⟩ with
     | false=>rfl
     | true=>have:=hok.mp h;omega
    simp[aA,hg0,hb];exact X7 hmo _
   ·have hb:(far[0] == -1)=false:=by simp[hno]
    have hmo:nZ ⟨(sg:Int),next,fin⟩=true:=hok.mpr (by omega);have hw1:IntKind.i64.wrap (far[0] - 1)=far[0] - 1:=bG _ (by omega);obtain⟨p0,hp0⟩:=P7 R NS hmo;have hpf:=V4 ⟨p0,hp0⟩;have hS:=hS0 hmo;have hSl:(jG ⟨(sg:Int),next,fin⟩).length≤100000:=by rw[hS,Ik];omega
    simp[aA,hg0,hb,hw1,hmo];refine Zsb Hs Hc R NS (far:=far) fo (tot:=jG ⟨(sg:Int),next,fin⟩) hSl (rd far 0).toNat ⟨.sl true [],.sl true [.v (.int .i64 0)],[],[0],⟨?_,?_,?_,?_,?_,?_⟩,⟨?_,?_,?_,?_,?_,?_,?_,?_⟩,aaG (by omega),by simp,by rw[hS];rfl⟩ (fun f' S' v2 va at_ kg ks=>?_)
    ·simp[au]
    ·simp[au]
    ·simp[au]
    ·simp[au,aA]
    ·simp[au]
    ·simp[au,aj];omega
    ·simp[aG,aW,aj]
    ·simp[aG,xI]
    ·simp
    ·exact .nil
    ·simp[AV.ids]
    ·exact .inl rfl
    ·simp[AV.ids]
    ·simp[AV.ids]
    ·simp only[dN]
     refine Zuj (by omega) (fun p=>hw _ p (by omega)) (fun p=>ha _ ?_) hpf kg.e1 kg.e2 ks.g0 ks.v;unfold Len jg;split
     ·rw[tV];omega
     ·simp
  ·have NS:sg % 2=1:=by omega
   rw[NS] at ha1
   have hmo:nZ ⟨(sg:Int),next,fin⟩=false:=by
    unfold nZ;rw[decide_eq_false (by simp only;omega)];simp
   simp[EZ,aW];refine aQ.pure hr (aL (iV _) aU) (bY _) ?_;simp[hR,ha1];exact X7 hmo _
 ·have hmo:nZ d=false:=by unfold nZ;simp[hR]
  simp[EZ,aW];refine aQ.pure hr (aL (iV _) aU) (bY _) ?_;simp[hR];exact X7 hmo _
def JD:AC:= (sq [rm 41 1,rm 42 8,ro 43 (.aI 3 (.t 41) (.t 42)),ro 44 (.wE 3 1 (.t 43) (ci 0)),rL 45 44,rm 46 45,rg 47 46 false (.mv (.t 1)),rg 48 46 false (.mv (.t 8)),rg 49 46 false (.aI 3 (.t 47) (.t 48)),rg 50 46 false (.wE 3 1 (.t 49) (ci 1)),rg 51 46 false (.load none (.t 50)),ro 52 (.pick (.t 46) (.c (.v (.bool true))) (.t 51))] (.cond (.t 52) (.reg none [rm 53 7,rm 54 9,ro 55 (.aI 3 (.t 53) (.t 54)),ro 56 (.wE 3 1 (.t 55) (ci 1)),rn (.store 1 (.t 56) (.c (.v (.bool true))))]) .skip))
def Rz:AC:= (sq [rm 57 1,rm 58 8,ro 59 (.aI 3 (.t 57) (.t 58)),ro 60 (.wE 3 1 (.t 59) (ci 1)),rL 61 60] (.cond (.t 61) (.reg none [rm 62 7,rm 63 10,ro 64 (.aI 3 (.t 62) (.t 63)),ro 65 (.wE 3 1 (.t 64) (ci 2)),rn (.store 1 (.t 65) (.c (.v (.bool true))))]) .skip))
def RA:AC:= (sq [rm 66 1,rm 67 8,ro 68 (.aI 3 (.t 66) (.t 67)),ro 69 (.wE 3 1 (.t 68) (ci 2)),rL 70 69] (.cond (.t 70) (.reg none [rm 71 7,rm 72 9,ro 73 (.aI 3 (.t 71) (.t 72)),ro 74 (.wE 3 1 (.t 73) (ci 2)),rn (.store 1 (.t 74) (.c (.v (.bool true))))]) .skip))
def Zlj:AC:= (.block 0 (.loop (.seq (sq [rm 15 8,rF 16 1 3,rL 17 16,ro 18 (.len (.t 17)),ro 19 (.bin .lss (.t 15) (.t 18))] (.cond (.t 19) .skip (.exit 0))) (.seq (.block 1 (.seq (.reg (some []) [rF 22 1 3,rL 23 22,rm 24 8,ro 25 (.aI 1 (.t 23) (.t 24)),rL 26 25,rm 27 2,ro 28 (.bin .mul (ci 2) (.t 27)),ro 29 (.aI 1 (.t 26) (.t 28)),rL 30 29,rF 31 1 3,rL 32 31,rm 33 8,ro 34 (.aI 1 (.t 32) (.t 33)),rL 35 34,rm 36 2,ro 37 (.bin .mul (ci 2) (.t 36)),ro 38 (.bin .add (.t 37) (ci 1)),ro 39 (.aI 1 (.t 35) (.t 38)),rL 40 39,rm 9 30,rm 10 40]) (.seq JD (.seq Rz RA)))) (.reg none [rm 20 8,ro 21 (.bin .add (.t 20) (ci 1)),rm 8 21])))))
def Z8n:AC:= (sq [ro 3 (.box 3 (.t 0)),ro 6 (.mv (.c (.sl true [])))] (sq [rF 11 1 3,rL 12 11,ro 13 (.len (.t 12)),ro 14 (.wF 3 3 (.agg [(.v (.bool false)),(.v (.bool false)),(.v (.bool false))]) (.t 13) (.t 13)),rm 7 14] (.seq (sq [ro 8 (.mv (ci 0))] Zlj) (sq [rm 75 7,rm 6 75] .ret))))
def Z9z:AC:= (sq [ro 2 (.box 3 (.t 0)),ro 4 (.mv (.c (.v (.bool false))))] (.seq (sq [ro 5 (.mv (ci 0))] (.block 0 (.loop (.seq (sq [rm 6 5,rm 7 1,ro 8 (.len (.t 7)),ro 9 (.bin .lss (.t 6) (.t 8))] (.cond (.t 9) .skip (.exit 0))) (.seq (.block 1 (sq [rm 12 1,rm 13 5,ro 14 (.aI 3 (.t 12) (.t 13)),ro 15 (.wE 3 1 (.t 14) (ci 2)),rL 16 15,rm 17 16,rg 18 17 true (.dA 2 (.t 2)),rg 19 17 true (.load none (.t 18)),rg 20 17 true (.mv (.t 5)),rg 21 17 true (.aI 1 (.t 19) (.t 20)),rg 22 17 true (.load none (.t 21)),ro 23 (.pick (.t 17) (.t 22) (.c (.v (.bool false))))] (.cond (.t 23) (sq [ro 4 (.mv (.c (.v (.bool true))))] .ret) .skip))) (.reg none [rm 10 5,ro 11 (.bin .add (.t 10) (ci 1)),rm 5 11])))))) (sq [ro 4 (.mv (.c (.v (.bool false))))] .ret)))
def Zrs:AC:= (.block 4 (.loop (.seq (sq [rm 30 9,ro 31 (.bin .lss (.t 30) (ci 3))] (.cond (.t 31) .skip (.exit 4))) (.seq (.block 5 (.reg (some []) [rm 34 5,rm 35 8,rm 36 9,rm 37 5,rm 38 8,rm 39 9,ro 40 (.aI 3 (.t 37) (.t 38)),ro 41 (.wE 3 1 (.t 40) (.t 39)),rL 42 41,rm 43 42,rg 44 43 false (.mv (.t 7)),rg 45 43 false (.mv (.t 8)),rg 46 43 false (.mv (.t 9)),rg 47 43 false (.aI 3 (.t 44) (.t 45)),rg 48 43 false (.wE 3 1 (.t 47) (.t 46)),rg 49 43 false (.load none (.t 48)),ro 50 (.pick (.t 43) (.c (.v (.bool true))) (.t 49)),ro 51 (.aI 3 (.t 34) (.t 35)),ro 52 (.wE 3 1 (.t 51) (.t 36)),rn (.store 1 (.t 52) (.t 50))])) (.reg none [rm 32 9,ro 33 (.bin .add (.t 32) (ci 1)),rm 9 33])))))
def ZoC:AC:= (.block 2 (.loop (.seq (sq [rm 24 8,rm 25 7,ro 26 (.len (.t 25)),ro 27 (.bin .lss (.t 24) (.t 26))] (.cond (.t 27) .skip (.exit 2))) (.seq (.block 3 (sq [ro 9 (.mv (ci 0))] Zrs)) (.reg none [rm 28 8,ro 29 (.bin .add (.t 28) (ci 1)),rm 8 29])))))
def ZoD(Az:FuncId):AC:= (.block 0 (.loop (.seq (sq [rm 13 6,rF 14 0 2,rL 15 14,ro 16 (.bin .quo (.t 15) (ci 2)),ro 17 (.bin .lss (.t 13) (.t 16))] (.cond (.t 17) .skip (.exit 0))) (.seq (.block 1 (sq [ro 20 (.load (some 3) (.t 2)),rm 21 1,rm 22 6,rk 23 Az [(.t 20),(.t 21),(.t 22)],rm 7 23] (sq [ro 8 (.mv (ci 0))] ZoC))) (.reg none [rm 18 6,ro 19 (.bin .add (.t 18) (ci 1)),rm 6 19])))))
def Z8f(Az:FuncId):AC:= (sq [ro 2 (.box 3 (.t 0)),ro 4 (.mv (.c (.sl true [])))] (sq [rm 10 1,ro 11 (.len (.t 10)),ro 12 (.wF 3 3 (.agg [(.v (.bool false)),(.v (.bool false)),(.v (.bool false))]) (.t 11) (.t 11)),rm 5 12] (.seq (sq [ro 6 (.mv (ci 0))] (ZoD Az)) (sq [rm 53 5,rm 4 53] .ret))))
def Z8o(P3z P2M:FuncId):AC:= (sq [ro 2 (.box 3 (.t 0)),ro 4 (.mv (ci 0))] (.seq (sq [ro 5 (.mv (ci 0))] (.block 0 (.loop (.seq (sq [rm 6 5,rF 7 1 2,rL 8 7,ro 9 (.len (.t 8)),ro 10 (.bin .mul (ci 3) (.t 9)),ro 11 (.bin .leq (.t 6) (.t 10))] (.cond (.t 11) .skip (.exit 0))) (.seq (.block 1 (.seq (sq [ro 14 (.load (some 3) (.t 2)),rm 15 1,rk 16 P3z [(.t 14),(.t 15)]] (.cond (.t 16) (sq [rm 17 5,rm 4 17] .ret) .skip)) (.reg none [ro 18 (.load (some 3) (.t 2)),rm 19 1,rk 20 P2M [(.t 18),(.t 19)],rm 1 20]))) (.reg none [rm 12 5,ro 13 (.bin .add (.t 12) (ci 1)),rm 5 13])))))) (sq [ro 4 (.mv (ci (-1)))] .ret)))
structure bV where
 a:Bool
 b:Bool
 c:Bool
def bV.no:bV:=⟨false,false,false⟩
def bV.at(t:bV)(k:Nat):Bool:=if k=0 then t.a else if k=1 then t.b else t.c
def bV.put(t:bV)(k:Nat)(v:Bool):bV:=if k=0 then ⟨v,t.b,t.c⟩ else if k=1 then ⟨t.a,v,t.c⟩ else ⟨t.a,t.b,v⟩
def o7(t:bV):AV:=.agg [aH t.a,aH t.b,aH t.c]
def vg(l:List bV):AV:=.sl false (l.map o7)
theorem Ziu(t:bV):aY (o7 t):=.agg _ (by
 intro y hy;simp only[List.mem_cons,List.not_mem_nil,or_false] at hy;rcases hy with rfl | rfl | rfl<;>exact bY _)
theorem ZlS(l:List bV):aY (vg l):=Fb Ziu l
def hs(T:List bV)(i:Nat):Bool:=(T.getD (i / 3) .no).at (i % 3)
def yc(T:List bV)(i k:Nat):List bV:=T.set i ((T.getD i .no).put k true)
def tZ(d:aD)(h:Nat)(t:bV)(e:Nat)(out:List bV):List bV:=if t.a || t.b then yc out e 1 else out
def yS(t:bV)(o:Nat)(out:List bV):List bV:=if t.b then yc out o 2 else out
def DW(t:bV)(e:Nat)(out:List bV):List bV:=if t.c then yc out e 2 else out
def xZ(d:aD)(h i:Nat):Nat:=((d.next.getD i []).getD (2*h) 0).toNat
def Ef(d:aD)(h i:Nat):Nat:=((d.next.getD i []).getD (2*h+1) 0).toNat
def Bj(d:aD)(h:Nat)(T out:List bV)(i:Nat):List bV:=
 DW (T.getD i .no) (xZ d h i) (yS (T.getD i .no) (Ef d h i) (tZ d h (T.getD i .no) (xZ d h i) out))
def FD(d:aD)(T:List bV)(h:Nat):List bV:=(List.range d.next.length).foldl (Bj d h T) (List.replicate d.next.length .no)
theorem Dx(T:List bV)(i k:Nat):(yc T i k).length=T.length:=by simp[yc]
theorem ZmC(d:aD)(h:Nat)(T out:List bV)(i:Nat):(Bj d h T out i).length=out.length:=by
 unfold Bj tZ yS DW;split<;>split<;>split<;>simp[Dx]
theorem Xf(d:aD)(h:Nat)(T:List bV):∀(l:List Nat) (out:List bV),(l.foldl (Bj d h T) out).length=out.length
 | [],_=>rfl
 | i::l,out=>by rw[List.foldl_cons,Xf d h T l,ZmC]
theorem ZhA(d:aD)(T:List bV)(h:Nat):(FD d T h).length=d.next.length:=by
 unfold FD;rw[Xf];simp
structure Hw(d:aD)(T:List bV)(h q i:Nat)(out:List bV)(f:AF)(S:St):Prop where
 e1:f 1=vg T
 e2:f 2=aj h
 e3:f 3=.ptr 0 0 0
 e7:f 7=.own q 0 out.length
 e8:f 8=aj i
 g0:S.g 0=some (.arr 3 [aW d])
 gq:S.g q=some (.arr 3 (out.map o7))
 ne:q≠0
theorem hv1{P:Program}{d:aD}{T out:List bV}{h q i e o:Nat}(hi:i < T.length)(he:e < out.length){f:AF}{S:St}{Q:Exit→AF→St→Prop}
  (st:Hw d T h q i out f S) (e9:f 9=aj e) (e10:f 10=aj o) (hq:∀f' S',f' 9=aj e→f' 10=aj o→Hw d T h q i (tZ d h T[i] e out) f' S'→Q .normal f' S'):AW P JD Q f S:=by
 obtain⟨e1,e2,e3,e7,e8,g0,gq,ne⟩:=st;have hgi:T[i]? = some T[i]:=List.getElem?_eq_getElem hi;have hge:out[e]? = some out[e]:=List.getElem?_eq_getElem he;have hgd:out.getD e .no=out[e]:=by simp[List.getD_eq_getElem?_getD,hge]
 have GY:(i:Int) < T.length:=by omega
 have GV:(e:Int) < out.length:=by omega
 have hm:yc out e 1=out.set e ⟨out[e].a,true,out[e].c⟩:=by unfold yc;rw[hgd];rfl
 have hm2:(out.set e ⟨out[e].a,true,out[e].c⟩).map o7=(out.map o7).set e (o7 ⟨out[e].a,true,out[e].c⟩):=List.map_set;generalize hT:T[i]=t at *;obtain⟨a,b,c⟩:=t;cases a<;>cases b
 ·simp[JD,vg,e1,e8,hi,hT,o7]
  refine hq _ _ ?_ ?_ ⟨?_,?_,?_,?_,?_,?_,?_,ne⟩
  ·simp[au,e9]
  ·simp[au,e10]
  ·simp[au,e1]
  ·simp[au,e2]
  ·simp[au,e3]
  ·simp[au,e7,tZ]
  ·simp[au,e8]
  ·simp[g0]
  ·simp[gq,tZ]
 ·simp[JD,vg,e1,e7,e8,e9,hi,hT,gq,GV,he,o7]
  refine hq _ _ ?_ ?_ ⟨?_,?_,?_,?_,?_,?_,?_,ne⟩
  ·simp[au,e9]
  ·simp[au,e10]
  ·simp[au,e1,vg]
  ·simp[au,e2]
  ·simp[au,e3]
  ·simp[au,e7,tZ,Dx]
  ·simp[au,e8]
  ·simp[aG,g0,Ne.symm ne]
  ·simp only[tZ,hm,hm2,if_true,Bool.or_true,aG]
   simp[o7,aH]
 ·simp[JD,vg,e1,e7,e8,e9,hi,hT,gq,GV,he,o7]
  refine hq _ _ ?_ ?_ ⟨?_,?_,?_,?_,?_,?_,?_,ne⟩
  ·simp[au,e9]
  ·simp[au,e10]
  ·simp[au,e1,vg]
  ·simp[au,e2]
  ·simp[au,e3]
  ·simp[au,e7,tZ,Dx]
  ·simp[au,e8]
  ·simp[aG,g0,Ne.symm ne]
  ·simp only[tZ,hm,hm2,if_true,Bool.or_false,aG]
   simp[o7,aH]
 ·simp[JD,vg,e1,e7,e8,e9,hi,hT,gq,GV,he,o7]
  refine hq _ _ ?_ ?_ ⟨?_,?_,?_,?_,?_,?_,?_,ne⟩
  ·simp[au,e9]
  ·simp[au,e10]
  ·simp[au,e1,vg]
  ·simp[au,e2]
  ·simp[au,e3]
  ·simp[au,e7,tZ,Dx]
  ·simp[au,e8]
  ·simp[aG,g0,Ne.symm ne]
  ·simp only[tZ,hm,hm2,if_true,Bool.or_true,aG]
   simp[o7,aH]
theorem hv2{P:Program}{d:aD}{T out:List bV}{h q i e o:Nat}(hi:i < T.length)(he:o < out.length){f:AF}{S:St}{Q:Exit→AF→St→Prop}
  (st:Hw d T h q i out f S) (e9:f 9=aj e) (e10:f 10=aj o) (hq:∀f' S',f' 9=aj e→f' 10=aj o→Hw d T h q i (yS T[i] o out) f' S'→Q .normal f' S'):AW P Rz Q f S:=by
 obtain⟨e1,e2,e3,e7,e8,g0,gq,ne⟩:=st;have hgi:T[i]? = some T[i]:=List.getElem?_eq_getElem hi;have hge:out[o]? = some out[o]:=List.getElem?_eq_getElem he;have hgd:out.getD o .no=out[o]:=by simp[List.getD_eq_getElem?_getD,hge]
 have GY:(i:Int) < T.length:=by omega
 have GV:(o:Int) < out.length:=by omega
 have hm:yc out o 2=out.set o ⟨out[o].a,out[o].b,true⟩:=by unfold yc;rw[hgd];rfl
 have hm2:(out.set o ⟨out[o].a,out[o].b,true⟩).map o7=(out.map o7).set o (o7 ⟨out[o].a,out[o].b,true⟩):=List.map_set;generalize hT:T[i]=t at *;obtain⟨a,b,c⟩:=t;cases b
 ·simp[Rz,vg,e1,e8,hi,hT,o7]
  refine hq _ _ ?_ ?_ ⟨?_,?_,?_,?_,?_,?_,?_,ne⟩
  ·simp[au,e9]
  ·simp[au,e10]
  ·simp[au,e1]
  ·simp[au,e2]
  ·simp[au,e3]
  ·simp[au,e7,yS]
  ·simp[au,e8]
  ·simp[g0]
  ·simp[gq,yS]
 ·simp[Rz,vg,e1,e7,e8,e10,hi,hT,gq,GV,he,o7]
  refine hq _ _ ?_ ?_ ⟨?_,?_,?_,?_,?_,?_,?_,ne⟩
  ·simp[au,e9]
  ·simp[au,e10]
  ·simp[au,e1,vg]
  ·simp[au,e2]
  ·simp[au,e3]
  ·simp[au,e7,yS,Dx]
  ·simp[au,e8]
  ·simp[aG,g0,Ne.symm ne]
  ·simp only[yS,hm,hm2,if_true,aG]
   simp[o7,aH]
theorem hv3{P:Program}{d:aD}{T out:List bV}{h q i e o:Nat}(hi:i < T.length)(he:e < out.length){f:AF}{S:St}{Q:Exit→AF→St→Prop}
  (st:Hw d T h q i out f S) (e9:f 9=aj e) (e10:f 10=aj o) (hq:∀f' S',f' 9=aj e→f' 10=aj o→Hw d T h q i (DW T[i] e out) f' S'→Q .normal f' S'):AW P RA Q f S:=by
 obtain⟨e1,e2,e3,e7,e8,g0,gq,ne⟩:=st;have hgi:T[i]? = some T[i]:=List.getElem?_eq_getElem hi;have hge:out[e]? = some out[e]:=List.getElem?_eq_getElem he;have hgd:out.getD e .no=out[e]:=by simp[List.getD_eq_getElem?_getD,hge]
 have GY:(i:Int) < T.length:=by omega
 have GV:(e:Int) < out.length:=by omega
 have hm:yc out e 2=out.set e ⟨out[e].a,out[e].b,true⟩:=by unfold yc;rw[hgd];rfl
 have hm2:(out.set e ⟨out[e].a,out[e].b,true⟩).map o7=(out.map o7).set e (o7 ⟨out[e].a,out[e].b,true⟩):=List.map_set;generalize hT:T[i]=t at *;obtain⟨a,b,c⟩:=t;cases c
 ·simp[RA,vg,e1,e8,hi,hT,o7]
  refine hq _ _ ?_ ?_ ⟨?_,?_,?_,?_,?_,?_,?_,ne⟩
  ·simp[au,e9]
  ·simp[au,e10]
  ·simp[au,e1]
  ·simp[au,e2]
  ·simp[au,e3]
  ·simp[au,e7,DW]
  ·simp[au,e8]
  ·simp[g0]
  ·simp[gq,DW]
 ·simp[RA,vg,e1,e7,e8,e9,hi,hT,gq,GV,he,o7]
  refine hq _ _ ?_ ?_ ⟨?_,?_,?_,?_,?_,?_,?_,ne⟩
  ·simp[au,e9]
  ·simp[au,e10]
  ·simp[au,e1,vg]
  ·simp[au,e2]
  ·simp[au,e3]
  ·simp[au,e7,DW,Dx]
  ·simp[au,e8]
  ·simp[aG,g0,Ne.symm ne]
  ·simp only[DW,hm,hm2,if_true,aG]
   simp[o7,aH]
def R6(d:aD)(T:List bV):Bool:=(List.range d.next.length).any fun i=>(T.getD i .no).c && d.fin.getD i false
def orT(x y:bV):bV:=⟨x.a || y.a,x.b || y.b,x.c || y.c⟩
def SK(i:Nat)(out x:List bV):List bV:=out.mapIdx fun j t=>if j < i then orT t (x.getD j .no) else t
theorem ZpE(i:Nat)(out x:List bV):(SK i out x).length=out.length:=by simp[SK]
def Gu(out x:List bV):List bV:=SK out.length out x
def Y2(d:aD)(T:List bV):List bV:=(List.range (d.signs / 2).toNat).foldl (fun out h=>Gu out (FD d T h)) (List.replicate T.length .no)
theorem ZpQ(out x:List bV):(Gu out x).length=out.length:=ZpE _ _ _
theorem ZbX(d:aD)(T:List bV):∀(l:List Nat) (out:List bV),(l.foldl (fun out h=>Gu out (FD d T h)) out).length=out.length
 | [],_=>rfl
 | h::l,out=>by rw[List.foldl_cons,ZbX d T l,ZpQ]
def D8(d:aD)(T:List bV)(h:Nat):List bV:=(List.range h).foldl (fun out h=>Gu out (FD d T h)) (List.replicate T.length .no)
theorem ZjR(d:aD)(T:List bV)(h:Nat):D8 d T (h+1)=Gu (D8 d T h) (FD d T h):=by
 unfold D8;rw[List.range_succ,List.foldl_append];rfl
theorem Zla(d:aD)(T:List bV)(h:Nat):(D8 d T h).length=T.length:=by unfold D8;rw[ZbX];simp
end Go.Rf
namespace Go.Proofs
open Go.Shelf Go.Rf Go.Sort
def Tryz.P4f:Go.Shelf.Ren:=⟨fun | 125=>101 | 128=>129 | 129=>130 | 166=>133 | 167=>135 | 169=>136 | 171=>134 | 189=>66 | 215=>143 | 216=>126 | 240=>144 | 243=>145 | 246=>148 | 257=>100 | 276=>147 | 283=>149 | 284=>150 | 285=>151 | 286=>152 | 294=>120 | 295=>121 | 296=>122 | 297=>123 | 298=>124 | 299=>125 | 300=>127 | 301=>128 | 317=>153 | 318=>154 | 319=>155 | 320=>156 | 328=>138 | 329=>139 | 330=>140 | 331=>141 | 332=>142 | 337=>157 | 338=>158 | 343=>146 | n=>n,fun | 28=>23 | 29=>128 | 30=>148 | 34=>44 | 35=>103 | 36=>115 | 37=>165 | 45=>74 | 46=>140 | 47=>139 | 51=>160 | 52=>159 | 53=>162 | 54=>161 | 70=>164 | 71=>166 | 72=>167 | 74=>168 | 75=>169 | 76=>170 | 77=>171 | 78=>173 | 80=>174 | 81=>203 | 83=>172 | 84=>187 | 111=>108 | 112=>156 | 114=>192 | 127=>181 | 131=>86 | 134=>138 | 164=>185 | 165=>186 | 171=>188 | 172=>189 | 173=>190 | 174=>191 | 181=>152 | 182=>153 | 183=>154 | 184=>155 | 185=>147 | 186=>157 | 187=>158 | 211=>193 | 212=>194 | 213=>195 | 218=>175 | 219=>176 | 220=>177 | 221=>178 | 222=>179 | 223=>180 | 228=>182 | 229=>183 | 230=>184 | 232=>196 | 233=>197 | 238=>198 | 239=>199 | 240=>200 | 241=>201 | 242=>202 | 245=>206 | 248=>209 | n=>n,fun | 17=>0 | 18=>1 | 19=>2 | n=>n⟩
theorem Tryz.P5D:Go.Proofs.Lays.n166 Tryz.prog Tryz.P4f:={
 mixed:=by kernel_rfl
 f166:=Tryz.func133.trans (congrArg some (by kernel_rfl))
 f240:=Tryz.func144.trans (congrArg some (by kernel_rfl))
 f276:=Tryz.func147.trans (congrArg some (by kernel_rfl))
 t0:=Tryz.underlying0
 a0:=Tryz.isAgg0
 z0:=Tryz.sizeOf0
 v0:=Tryz.zeroValue0
 t3:=Tryz.underlying3
 a3:=Tryz.isAgg3
 z3:=Tryz.sizeOf3
 v3:=Tryz.zeroValue3
 t4:=Tryz.underlying4
 a4:=Tryz.isAgg4
 z4:=Tryz.sizeOf4
 v4:=Tryz.zeroValue4
 t9:=Tryz.underlying9
 a9:=Tryz.isAgg9
 z9:=Tryz.sizeOf9
 v9:=Tryz.zeroValue9
 t20:=Tryz.underlying20
 a20:=Tryz.isAgg20
 z20:=Tryz.sizeOf20
 v20:=Tryz.zeroValue20
 t37:=Tryz.underlying165
 a37:=Tryz.isAgg165
 z37:=Tryz.sizeOf165
 v37:=Tryz.zeroValue165
 t70:=Tryz.underlying164
 a70:=Tryz.isAgg164
 z70:=Tryz.sizeOf164
 v70:=Tryz.zeroValue164
 t72:=Tryz.underlying167
 a72:=Tryz.isAgg167
 z72:=Tryz.sizeOf167
 v72:=Tryz.zeroValue167
 t75:=Tryz.underlying169
 a75:=Tryz.isAgg169
 z75:=Tryz.sizeOf169
 v75:=Tryz.zeroValue169
 t164:=Tryz.underlying185
 a164:=Tryz.isAgg185
 z164:=Tryz.sizeOf185
 v164:=Tryz.zeroValue185 }
theorem Tryz.P5E:Go.Proofs.Lays.n167 Tryz.prog Tryz.P4f:={
 mixed:=by kernel_rfl
 f167:=Tryz.func135.trans (congrArg some (by kernel_rfl))
 f240:=Tryz.func144.trans (congrArg some (by kernel_rfl))
 f276:=Tryz.func147.trans (congrArg some (by kernel_rfl))
 t0:=Tryz.underlying0
 a0:=Tryz.isAgg0
 z0:=Tryz.sizeOf0
 v0:=Tryz.zeroValue0
 t4:=Tryz.underlying4
 a4:=Tryz.isAgg4
 z4:=Tryz.sizeOf4
 v4:=Tryz.zeroValue4
 t5:=Tryz.underlying5
 a5:=Tryz.isAgg5
 z5:=Tryz.sizeOf5
 v5:=Tryz.zeroValue5
 t9:=Tryz.underlying9
 a9:=Tryz.isAgg9
 z9:=Tryz.sizeOf9
 v9:=Tryz.zeroValue9
 t20:=Tryz.underlying20
 a20:=Tryz.isAgg20
 z20:=Tryz.sizeOf20
 v20:=Tryz.zeroValue20
 t37:=Tryz.underlying165
 a37:=Tryz.isAgg165
 z37:=Tryz.sizeOf165
 v37:=Tryz.zeroValue165
 t70:=Tryz.underlying164
 a70:=Tryz.isAgg164
 z70:=Tryz.sizeOf164
 v70:=Tryz.zeroValue164
 t72:=Tryz.underlying167
 a72:=Tryz.isAgg167
 z72:=Tryz.sizeOf167
 v72:=Tryz.zeroValue167
 t75:=Tryz.underlying169
 a75:=Tryz.isAgg169
 z75:=Tryz.sizeOf169
 v75:=Tryz.zeroValue169
 t164:=Tryz.underlying185
 a164:=Tryz.isAgg185
 z164:=Tryz.sizeOf185
 v164:=Tryz.zeroValue185 }
theorem Tryz.P5F:Go.Proofs.Lays.n169 Tryz.prog Tryz.P4f:={
 mixed:=by kernel_rfl
 f169:=Tryz.func136.trans (congrArg some (by kernel_rfl))
 t0:=Tryz.underlying0
 a0:=Tryz.isAgg0
 z0:=Tryz.sizeOf0
 v0:=Tryz.zeroValue0
 t3:=Tryz.underlying3
 a3:=Tryz.isAgg3
 z3:=Tryz.sizeOf3
 v3:=Tryz.zeroValue3
 t9:=Tryz.underlying9
 a9:=Tryz.isAgg9
 z9:=Tryz.sizeOf9
 v9:=Tryz.zeroValue9
 t37:=Tryz.underlying165
 a37:=Tryz.isAgg165
 z37:=Tryz.sizeOf165
 v37:=Tryz.zeroValue165
 t70:=Tryz.underlying164
 a70:=Tryz.isAgg164
 z70:=Tryz.sizeOf164
 v70:=Tryz.zeroValue164
 t72:=Tryz.underlying167
 a72:=Tryz.isAgg167
 z72:=Tryz.sizeOf167
 v72:=Tryz.zeroValue167
 t127:=Tryz.underlying181
 a127:=Tryz.isAgg181
 z127:=Tryz.sizeOf181
 v127:=Tryz.zeroValue181 }
theorem Tryz.P5G:Go.Proofs.Lays.n171 Tryz.prog Tryz.P4f:={
 mixed:=by kernel_rfl
 f129:=Tryz.func130.trans (congrArg some (by kernel_rfl))
 f171:=Tryz.func134.trans (congrArg some (by kernel_rfl))
 f243:=Tryz.func145.trans (congrArg some (by kernel_rfl))
 f246:=Tryz.func148.trans (congrArg some (by kernel_rfl))
 f283:=Tryz.func149.trans (congrArg some (by kernel_rfl))
 f284:=Tryz.func150.trans (congrArg some (by kernel_rfl))
 f285:=Tryz.func151.trans (congrArg some (by kernel_rfl))
 f286:=Tryz.func152.trans (congrArg some (by kernel_rfl))
 f317:=Tryz.func153.trans (congrArg some (by kernel_rfl))
 f318:=Tryz.func154.trans (congrArg some (by kernel_rfl))
 f319:=Tryz.func155.trans (congrArg some (by kernel_rfl))
 f320:=Tryz.func156.trans (congrArg some (by kernel_rfl))
 f337:=Tryz.func157.trans (congrArg some (by kernel_rfl))
 f338:=Tryz.func158.trans (congrArg some (by kernel_rfl))
 t0:=Tryz.underlying0
 a0:=Tryz.isAgg0
 z0:=Tryz.sizeOf0
 v0:=Tryz.zeroValue0
 t2:=Tryz.underlying2
 a2:=Tryz.isAgg2
 z2:=Tryz.sizeOf2
 v2:=Tryz.zeroValue2
 t3:=Tryz.underlying3
 a3:=Tryz.isAgg3
 z3:=Tryz.sizeOf3
 v3:=Tryz.zeroValue3
 t4:=Tryz.underlying4
 a4:=Tryz.isAgg4
 z4:=Tryz.sizeOf4
 v4:=Tryz.zeroValue4
 t5:=Tryz.underlying5
 a5:=Tryz.isAgg5
 z5:=Tryz.sizeOf5
 v5:=Tryz.zeroValue5
 t9:=Tryz.underlying9
 a9:=Tryz.isAgg9
 z9:=Tryz.sizeOf9
 v9:=Tryz.zeroValue9
 t20:=Tryz.underlying20
 a20:=Tryz.isAgg20
 z20:=Tryz.sizeOf20
 v20:=Tryz.zeroValue20
 t37:=Tryz.underlying165
 a37:=Tryz.isAgg165
 z37:=Tryz.sizeOf165
 v37:=Tryz.zeroValue165
 t46:=Tryz.underlying140
 a46:=Tryz.isAgg140
 z46:=Tryz.sizeOf140
 v46:=Tryz.zeroValue140
 t51:=Tryz.underlying160
 a51:=Tryz.isAgg160
 z51:=Tryz.sizeOf160
 v51:=Tryz.zeroValue160
 t53:=Tryz.underlying162
 a53:=Tryz.isAgg162
 z53:=Tryz.sizeOf162
 v53:=Tryz.zeroValue162
 t171:=Tryz.underlying188
 a171:=Tryz.isAgg188
 z171:=Tryz.sizeOf188
 v171:=Tryz.zeroValue188
 t173:=Tryz.underlying190
 a173:=Tryz.isAgg190
 z173:=Tryz.sizeOf190
 v173:=Tryz.zeroValue190
 t212:=Tryz.underlying194
 a212:=Tryz.isAgg194
 z212:=Tryz.sizeOf194
 v212:=Tryz.zeroValue194
 t213:=Tryz.underlying195
 a213:=Tryz.isAgg195
 z213:=Tryz.sizeOf195
 t232:=Tryz.underlying196
 a232:=Tryz.isAgg196
 z232:=Tryz.sizeOf196
 v232:=Tryz.zeroValue196
 t233:=Tryz.underlying197
 a233:=Tryz.isAgg197
 z233:=Tryz.sizeOf197
 v233:=Tryz.zeroValue197
 g17:=by kernel_rfl
 g18:=by kernel_rfl
 g19:=by kernel_rfl }
theorem Tryz.P5H:Go.Proofs.Lays.n189 Tryz.prog Tryz.P4f:={
 mixed:=by kernel_rfl
 f125:=Tryz.func101.trans (congrArg some (by kernel_rfl))
 f128:=Tryz.func129.trans (congrArg some (by kernel_rfl))
 f129:=Tryz.func130.trans (congrArg some (by kernel_rfl))
 f189:=Tryz.func66.trans (congrArg some (by kernel_rfl))
 f215:=Tryz.func143.trans (congrArg some (by kernel_rfl))
 f216:=Tryz.func126.trans (congrArg some (by kernel_rfl))
 f257:=Tryz.func100.trans (congrArg some (by kernel_rfl))
 f294:=Tryz.func120.trans (congrArg some (by kernel_rfl))
 f295:=Tryz.func121.trans (congrArg some (by kernel_rfl))
 f296:=Tryz.func122.trans (congrArg some (by kernel_rfl))
 f297:=Tryz.func123.trans (congrArg some (by kernel_rfl))
 f298:=Tryz.func124.trans (congrArg some (by kernel_rfl))
 f299:=Tryz.func125.trans (congrArg some (by kernel_rfl))
 f300:=Tryz.func127.trans (congrArg some (by kernel_rfl))
 f301:=Tryz.func128.trans (congrArg some (by kernel_rfl))
 f328:=Tryz.func138.trans (congrArg some (by kernel_rfl))
 f329:=Tryz.func139.trans (congrArg some (by kernel_rfl))
 f330:=Tryz.func140.trans (congrArg some (by kernel_rfl))
 f331:=Tryz.func141.trans (congrArg some (by kernel_rfl))
 f332:=Tryz.func142.trans (congrArg some (by kernel_rfl))
 f343:=Tryz.func146.trans (congrArg some (by kernel_rfl))
 t0:=Tryz.underlying0
 a0:=Tryz.isAgg0
 z0:=Tryz.sizeOf0
 v0:=Tryz.zeroValue0
 t3:=Tryz.underlying3
 a3:=Tryz.isAgg3
 z3:=Tryz.sizeOf3
 v3:=Tryz.zeroValue3
 t4:=Tryz.underlying4
 a4:=Tryz.isAgg4
 z4:=Tryz.sizeOf4
 v4:=Tryz.zeroValue4
 t5:=Tryz.underlying5
 a5:=Tryz.isAgg5
 z5:=Tryz.sizeOf5
 v5:=Tryz.zeroValue5
 t9:=Tryz.underlying9
 a9:=Tryz.isAgg9
 z9:=Tryz.sizeOf9
 v9:=Tryz.zeroValue9
 t28:=Tryz.underlying23
 a28:=Tryz.isAgg23
 z28:=Tryz.sizeOf23
 v28:=Tryz.zeroValue23
 t46:=Tryz.underlying140
 a46:=Tryz.isAgg140
 z46:=Tryz.sizeOf140
 v46:=Tryz.zeroValue140
 t51:=Tryz.underlying160
 a51:=Tryz.isAgg160
 z51:=Tryz.sizeOf160
 v51:=Tryz.zeroValue160
 t53:=Tryz.underlying162
 a53:=Tryz.isAgg162
 z53:=Tryz.sizeOf162
 v53:=Tryz.zeroValue162
 t131:=Tryz.underlying86
 a131:=Tryz.isAgg86
 z131:=Tryz.sizeOf86
 v131:=Tryz.zeroValue86
 t182:=Tryz.underlying153
 a182:=Tryz.isAgg153
 z182:=Tryz.sizeOf153
 v182:=Tryz.zeroValue153
 t183:=Tryz.underlying154
 a183:=Tryz.isAgg154
 z183:=Tryz.sizeOf154
 v183:=Tryz.zeroValue154
 t218:=Tryz.underlying175
 a218:=Tryz.isAgg175
 z218:=Tryz.sizeOf175
 v218:=Tryz.zeroValue175
 t222:=Tryz.underlying179
 a222:=Tryz.isAgg179
 z222:=Tryz.sizeOf179
 v222:=Tryz.zeroValue179
 t228:=Tryz.underlying182
 a228:=Tryz.isAgg182
 z228:=Tryz.sizeOf182
 v228:=Tryz.zeroValue182
 t229:=Tryz.underlying183
 a229:=Tryz.isAgg183
 z229:=Tryz.sizeOf183
 v229:=Tryz.zeroValue183 }
theorem Tryz.P5m:Go.Proofs.LaysM.n171 Tryz.prog Tryz.P4f:={ Tryz.P5G with
 i0:=by kernel_rfl
 i2:=by kernel_rfl
 i3:=by kernel_rfl
 i4:=by kernel_rfl
 i5:=by kernel_rfl
 i9:=by kernel_rfl
 i20:=by kernel_rfl
 i37:=by kernel_rfl
 i46:=by kernel_rfl
 i51:=by kernel_rfl
 i53:=by kernel_rfl
 i171:=by kernel_rfl
 i173:=by kernel_rfl
 i212:=by kernel_rfl
 i232:=by kernel_rfl
 i233:=by kernel_rfl
 m17:=by kernel_rfl
 m18:=by kernel_rfl
 m19:=by kernel_rfl }
theorem Tryz.P61:Builder.Extra Tryz.prog Tryz.P4f:={
 sizeBuilder:=by kernel_rfl
 liesBuilder:=by kernel_rfl
 t5:=Tryz.underlying5
 a5:=Tryz.isAgg5
 z5:=Tryz.sizeOf5
 v5:=Tryz.zeroValue5
 infoByte:=by kernel_rfl
 cellsByte:=by kernel_rfl
 sizeByte:=by kernel_rfl
 neB5:=of_decide_eq_true (by kernel_rfl) }
def Tryz.P4r:Go.Shelf.Ren:=⟨fun | 20=>67 | n=>n,fun | 22=>23 | 3=>3 | 4=>4 | 0=>0 | n=>n,fun | n=>n⟩
theorem Tryz.P50:Go.Proofs.Lays2.n20 Tryz.prog Tryz.P4r:={
 mixed:=by kernel_rfl
 f20:=Tryz.func67.trans (congrArg some (by kernel_rfl))
 t0:=Tryz.underlying0
 a0:=Tryz.isAgg0
 z0:=Tryz.sizeOf0
 v0:=Tryz.zeroValue0
 t3:=Tryz.underlying3
 a3:=Tryz.isAgg3
 z3:=Tryz.sizeOf3
 v3:=Tryz.zeroValue3
 t4:=Tryz.underlying4
 a4:=Tryz.isAgg4
 z4:=Tryz.sizeOf4
 v4:=Tryz.zeroValue4
 t22:=Tryz.underlying23
 a22:=Tryz.isAgg23
 z22:=Tryz.sizeOf23
 v22:=Tryz.zeroValue23
 i3:=by kernel_rfl }
theorem ZjZ:tX Tryz.prog 66:=vO Tryz.func66 (c:=Tryz.f66.body.getD .skip) (by kernel_rfl) (by kernel_rfl)
theorem Zk0:tX Tryz.prog 67:=vO Tryz.func67 (c:=Tryz.f67.body.getD .skip) (by kernel_rfl) (by kernel_rfl)
theorem Zhb:tX Tryz.prog 133:=vO Tryz.func133 (c:=Tryz.f133.body.getD .skip) (by kernel_rfl) (by kernel_rfl)
theorem Zhd:tX Tryz.prog 135:=vO Tryz.func135 (c:=Tryz.f135.body.getD .skip) (by kernel_rfl) (by kernel_rfl)
theorem Zhe:tX Tryz.prog 136:=vO Tryz.func136 (c:=Tryz.f136.body.getD .skip) (by kernel_rfl) (by kernel_rfl)
theorem Zhc:tX Tryz.prog 134:=vO Tryz.func134 (c:=Tryz.f134.body.getD .skip) (by kernel_rfl) (by kernel_rfl)
theorem ZvR:Cz Tryz.prog 66:=by
 intro S id off ys l K hg hd hne hl hk;have hlen:(l.mergeSort fun x y=>decide (x≤y)).length=l.length:=List.length_mergeSort _;refine aQ.rewrite ZjZ hg hd hne hlen (l.mergeSort fun x y=>decide (x≤y)).length (Nat.le_refl _) (fun _ _ _=>.tuple #[]) (.aN []) (.inl ⟨rfl,fun _ _ _=>rfl⟩) (fun b o cap w hH hb hcap=>?_) ?_
 ·exact Any.slices_Sort_int Tryz.P5H b o cap l w hH hb (by omega)
 ·rw[List.take_length];exact hk
theorem ZvP:Cy Tryz.prog 67:=by
 intro S id off ys l K hg hd hne hl hk;have hle:(Lib.compact l).length≤l.length:=Lib.compact_length_le l
 have hpos:0 < (Lib.compact l).length:=by
  obtain⟨x,hx⟩:=List.exists_mem_of_ne_nil _ hne;exact List.length_pos_of_mem (ZmX.mpr hx)
 refine aQ.rewrite Zk0 hg hd hne (l':=Lib.compact l++List.replicate (l.length - (Lib.compact l).length) 0) (by simp;omega) (Lib.compact l).length (by simp) (fun b o cap=>.slice (some ⟨b,o,none⟩) (Lib.compact l).length cap) (.own id off (Lib.compact l).length) (.inr ⟨rfl,hpos,fun _ _ _=>rfl⟩) (fun b o cap w hH hb hcap=>?_) ?_
 ·refine(Any.slices_Compact_int Tryz.P50 b o cap l w hH (by omega) hcap).mono ?_
  rintro e w' ⟨rfl,q,rfl⟩;exact⟨rfl,q,#[],(grow_empty _).symm⟩
 ·have:List.take (Lib.compact l).length (Lib.compact l++List.replicate (l.length - (Lib.compact l).length) 0)=Lib.compact l:=by simp
  rw[this];exact hk
theorem ZwE:Bq Tryz.prog 133 135 136 167 5:=
 ⟨Zhb,Zhd,Zhe,
  fun B b bs s w h hl hB=>(Any.Builder_WriteString_k Tryz.P5D Tryz.P61 B b bs s w h hl hB).mono fun e w' ⟨h1,h2,h3,_⟩=>⟨h1,.inr h2,h3⟩,
  fun B b bs c w h hl hB=>(Any.Builder_WriteByte_k Tryz.P5E Tryz.P61 B b bs c w h hl hB).mono fun e w' ⟨h1,h2,h3,_⟩=>⟨h1,.inr h2,h3⟩,
  fun B b l w h hB=>(Any.Builder_String_any_k Tryz.P5F Tryz.P61 B b l w h hB).mono fun e w' ⟨h1,_,h3,_⟩=>⟨h1,h3⟩⟩
theorem ZvQ:Dj Tryz.prog 134 (fun n=>0≤n∧n < 10000):=by
 refine⟨Zhc,fun H n w hG hH hn=>?_⟩;refine(Any.strconv_Itoa Tryz.P5m n (by omega) (by omega) w (ZrV hG hH (g:=0) (by kernel_rfl))).mono ?_;rintro e w' ⟨h,k,os,rfl⟩;exact⟨h,Lib.below_grow _ w (Nat.le_refl _) k os⟩
end Go.Proofs
namespace Go.Rf
open Go.RowKit
def Jr(P:Program)(b:Nat)(x y:AC)(Q:Exit→AF→St→Prop)(a:AF)(S:St)(c:AV):Prop:=
 match c with
 | .v (.bool t)=>if t=true then bM P b x Q a S else bM P b y Q a S
 | _=>False
section
variable{P:Program}{b:Nat}{Q:Exit→AF→St→Prop}{a:AF}{S:St}{os:List aZ}
theorem pR:bM P b .skip Q a S=Q .normal a S:=by simp only[bM]
theorem oP(x y:AC):bM P b (.seq x y) Q a S=bM P b x (jZ (bM P b y Q) Q) a S:=by simp only[bM]
theorem oM:bM P b (.reg none os) Q a S=RG P S.n os 0 (nK Q) a ⟨S.n+os.length,S.g⟩:=by simp only[bM];rw[lT]
theorem oH(fr:List (List Bool)):bM P b (.reg (some fr) os) Q a S=RD P S.n os fr 0 [] (nK Q) a ⟨S.n+os.length,S.g⟩:=by simp only[bM];rw[l6]
private theorem ZkM (c:aJ) (x y:AC):bM P b (.cond c x y) Q a S=Jr P b x y Q a S (c.ev a):=rfl
theorem pK(c:aJ)(x y:AC):bM P b (.cond c x y) Q a S=Jr P b x y Q a S (c.ev a):=by rw[ZkM]
theorem pJ(x y:AC):Jr P b x y Q a S (.v (.bool true))=bM P b x Q a S:=by simp[Jr]
theorem pG(x y:AC):Jr P b x y Q a S (.v (.bool false))=bM P b y Q a S:=by simp[Jr]
theorem pU(id:Nat)(x:AC):bM P b (.block id x) Q a S=bM P b x (mZ id Q) a S:=by simp only[bM]
theorem pO(id:Nat):bM P b (.exit id) Q a S=Q (.exit id) a S:=by simp only[bM]
theorem oO:bM P b .ret Q a S=Q .ret a S:=by simp only[bM]
theorem qw(x:AC):bM P b (.scp x) Q a S=bM P b x (xB Q) a S:=by simp only[bM]
theorem pQ(p:Option aJ):bM P b (.ny os p) Q a S=kD P S.n p os 0 Q a ⟨S.n+os.length,S.g⟩:=by simp only[bM];rw[A9]
theorem oI(ts:List Nat)(R:AV→St→Prop):Nh b ts R .ret a S=∃a' S',bL b a S a' S'∧R (uN ts a') S':=by simp only[Nh,gG]
theorem pI(ts:List Nat)(R:AV→St→Prop):Nh b ts R .normal a S=∃a' S',bL b a S a' S'∧R (uN ts a') S':=by simp only[Nh,gG]
end
def Ztd{σ:Type}(b n:Nat)(I:Nat→σ→Prop)(A:Nat→σ→List (Nat×AV))(N:Nat)(G:Nat→σ→List (Nat×Option aF))(k:Nat):AF→St→Prop:=
 fun f S=>k < n∧∃s,I (k+1) s∧bL b f S (jA (A (k+1) s)) ⟨N,cB (G (k+1) s)⟩
theorem uJ{P:Program}{b:Nat}{x:AC}{Q:Exit→AF→St→Prop}{f:AF}{S:St}{σ:Type}(n:Nat)(I:Nat→σ→Prop)(A:Nat→σ→List (Nat×AV))(N:Nat)(G:Nat→σ→List (Nat×Option aF))(s0:σ)(hI:I 0 s0)
  (h0:bL b f S (jA (A 0 s0)) ⟨N,cB (G 0 s0)⟩) (h:∀k s,k≤n→I k s→bM P b x (jZ (Ztd b n I A N G k) Q) (jA (A k s)) ⟨N,cB (G k s)⟩):bM P b (.loop x) Q f S:=by
 refine⟨fun m f S=>∃k s,k≤n∧m=n - k∧I k s∧f=jA (A k s)∧S=⟨N,cB (G k s)⟩,⟨n,_,_,h0,0,s0,by omega,by omega,hI,rfl,rfl⟩,?_⟩;rintro m f S ⟨k,s,hk,rfl,hi,rfl,rfl⟩;refine I4 _ (fun e a S' hq=>?_) (h k s hk hi);cases e<;>simp only[jZ] at hq ⊢<;>first | exact hq | skip
 obtain⟨h1,s',h2,h3⟩:=hq;exact⟨n - (k+1),_,_,by omega,h3,k+1,s',by omega,rfl,h2,rfl,rfl⟩
def Zts{σ:Type}(b:Nat)(I:Nat→σ→Prop)(A:σ→List (Nat×AV))(N:Nat)(G:σ→List (Nat×Option aF))(m:Nat):AF→St→Prop:=
 fun f S=>∃m' s,m' < m∧I m' s∧bL b f S (jA (A s)) ⟨N,cB (G s)⟩
theorem ZkN{P:Program}{b:Nat}{x:AC}{Q:Exit→AF→St→Prop}{f:AF}{S:St}{σ:Type}(I:Nat→σ→Prop)(A:σ→List (Nat×AV))(N:Nat)(G:σ→List (Nat×Option aF))(m:Nat)(s0:σ)(hI:I m s0)
  (h0:bL b f S (jA (A s0)) ⟨N,cB (G s0)⟩) (h:∀m s,I m s→bM P b x (jZ (Zts b I A N G m) Q) (jA (A s)) ⟨N,cB (G s)⟩):bM P b (.loop x) Q f S:=by
 refine⟨fun m f S=>∃s,I m s∧f=jA (A s)∧S=⟨N,cB (G s)⟩,⟨m,_,_,h0,s0,hI,rfl,rfl⟩,?_⟩;rintro m f S ⟨s,hi,rfl,rfl⟩;refine I4 _ (fun e a S' hq=>?_) (h m s hi);cases e<;>simp only[jZ] at hq ⊢<;>first | exact hq | skip
 obtain⟨m',s',h1,h2,h3⟩:=hq;exact⟨m',_,_,h1,h3,s',h2,rfl,rfl⟩
def Cls(xs:List AV):Prop:=∀x∈xs,aY x
def tT(es:Nat)(xs:List AV):Prop:=∀z∈xs,z.cells.length=es
def wV(xs:List AV):Prop:=∀z∈xs,z.cells=[z]
theorem kI:Cls []↔True:=by simp[Cls]
theorem kE(x:AV)(xs:List AV):Cls (x::xs)↔aY x∧Cls xs:=by simp[Cls]
theorem kQ(xs ys:List AV):Cls (xs++ys)↔Cls xs∧Cls ys:=⟨fun h=>⟨fun x hx=>h x (by simp[hx]),fun x hx=>h x (by simp[hx])⟩,fun h x hx=>by rcases List.mem_append.mp hx with hx | hx;exact h.1 x hx;exact h.2 x hx⟩
theorem Je{X:Type}{enc:X→AV}(h:∀x,aY (enc x))(l:List X):Cls (l.map enc):=by intro y hy;obtain⟨x,_,rfl⟩:=List.mem_map.mp hy;exact h x
theorem iZ(l:List Int):Cls (l.map aj):=Je aS l
theorem jP(l:List Bool):Cls (l.map aH):=Je bY l
theorem jd(l:List (List Int)):Cls (l.map aA):=Je aR l
theorem kR(n:Nat)(x:AV):Cls (List.replicate n x)↔n=0∨aY x:=by
 constructor
 ·intro h
  cases n with
  | zero=>exact .inl rfl
  | succ n=>exact .inr (h x (by simp))
 ·rintro(rfl | h) y hy
  ·simp at hy
  ·rw[(List.mem_replicate.mp hy).2];exact h
theorem qy:wV []↔True:=by simp[wV]
theorem qd(x:AV)(xs:List AV):wV (x::xs)↔x.cells=[x]∧wV xs:=by simp[wV]
theorem qx(xs ys:List AV):wV (xs++ys)↔wV xs∧wV ys:=⟨fun h=>⟨fun x hx=>h x (by simp[hx]),fun x hx=>h x (by simp[hx])⟩,fun h x hx=>by rcases List.mem_append.mp hx with hx | hx;exact h.1 x hx;exact h.2 x hx⟩
theorem XH{X:Type}{enc:X→AV}(h:∀x,(enc x).cells=[enc x])(l:List X):wV (l.map enc):=by intro y hy;obtain⟨x,_,rfl⟩:=List.mem_map.mp hy;exact h x
theorem qK(l:List Int):wV (l.map aj):=XH (fun _=>rfl) l
theorem qJ(l:List Bool):wV (l.map aH):=XH (fun _=>rfl) l
theorem qF(l:List (List Int)):wV (l.map aA):=XH (fun _=>rfl) l
theorem qA(es:Nat):tT es []↔True:=by simp[tT]
theorem qg(es:Nat)(x:AV)(xs:List AV):tT es (x::xs)↔x.cells.length=es∧tT es xs:=by simp[tT]
theorem qz(es:Nat)(xs ys:List AV):tT es (xs++ys)↔tT es xs∧tT es ys:=⟨fun h=>⟨fun x hx=>h x (by simp[hx]),fun x hx=>h x (by simp[hx])⟩,fun h x hx=>by rcases List.mem_append.mp hx with hx | hx;exact h.1 x hx;exact h.2 x hx⟩
theorem Mh{es:Nat}{X:Type}{enc:X→AV}(h:∀x,(enc x).cells.length=es)(l:List X):tT es (l.map enc):=by intro y hy;obtain⟨x,_,rfl⟩:=List.mem_map.mp hy;exact h x
theorem qM(l:List Int):tT 1 (l.map aj):=Mh (enc:=aj) (fun _=>rfl) l
theorem qL(l:List Bool):tT 1 (l.map aH):=Mh (enc:=aH) (fun _=>rfl) l
theorem oQ(l:List (List Int)):tT 1 (l.map aA):=Mh (enc:=aA) (fun _=>rfl) l
section
variable{gF g:Nat→Option aF}{R:Nat→Nat→Prop}
theorem dX.nil:dX gF R [] []:=⟨rfl,fun i h=>by simp at h⟩
theorem dX.cons{x y:AV}{a b:List AV}(h:bH gF R x y)(k:dX gF R a b):dX gF R (x::a) (y::b):=by
 refine⟨by simp[k.1],fun i h1 h2=>?_⟩;cases i with
 | zero=>exact h
 | succ i=>exact k.2 i (by simpa using h1) (by simpa using h2)
theorem bH.cl{x:AV}(h:aY x):bH gF R x x:=.fz _ _ (.closed _ h)
theorem dX.cl{xs:List AV}(h:Cls xs):dX gF R xs xs:=⟨rfl,fun i h1 _=>.cl (h _ (List.getElem_mem h1))⟩
theorem jJ{x y:AV}{a b:List AV}:dX gF R (x::a) (y::b)↔bH gF R x y∧dX gF R a b:=by
 refine⟨fun h=>⟨h.2 0 (by simp) (by simp),by simpa using h.1,fun i h1 h2=>h.2 (i+1) (by simpa using h1) (by simpa using h2)⟩,fun h=>.cons h.1 h.2⟩
theorem jL:dX gF R [] []↔True:=⟨fun _=>trivial,fun _=>.nil⟩
theorem kV(x y:Value):bH gF R (.v x) (.v y)↔x=y:=by
 constructor
 ·intro h
  cases h with
  | fz _ _ h=>cases h;rfl
  | wk _ _ _ h=>cases h;rfl
 ·rintro rfl;exact .cl (.v _)
theorem jW(id j o o' l l':Nat):bH gF R (.own id o l) (.own j o' l')↔R j id∧o=o'∧l=l':=by
 constructor
 ·intro h
  cases h with
  | fz _ _ h=>cases h with | closed _ h=>cases h
  | wk _ _ h _=>cases h
  | own _ _ _ _ h=>exact⟨h,rfl,rfl⟩
 ·rintro⟨h,rfl,rfl⟩;exact .own _ _ _ _ h
theorem kM(id j o o' l l':Nat):bH gF R (.ptr id o l) (.ptr j o' l')↔R j id∧o=o'∧l=l':=by
 constructor
 ·intro h
  cases h with
  | fz _ _ h=>cases h with | closed _ h=>cases h
  | wk _ _ h _=>cases h
  | ptr _ _ _ _ h=>exact⟨h,rfl,rfl⟩
 ·rintro⟨h,rfl,rfl⟩;exact .ptr _ _ _ _ h
theorem jX(id j:Nat):bH gF R (.mp id) (.mp j)↔R j id:=by
 constructor
 ·intro h
  cases h with
  | fz _ _ h=>cases h with | closed _ h=>cases h
  | wk _ _ h _=>cases h
  | mp _ _ h=>exact h
 ·intro h;exact .mp _ _ h
theorem jM(cs ds:List AV):bH gF R (.agg cs) (.agg ds)↔dX gF R cs ds:=by
 constructor
 ·intro h
  cases h with
  | fz _ _ h=>exact⟨h.cells.1,fun i h1 h2=>.fz _ _ (h.cells.2.2 i h1 h2)⟩
  | wk _ _ hc h=>exact⟨h.f.len,fun i h1 h2=>.wk _ _ (hc.cells _ (List.getElem_mem _)) (h.cells i h1 h2)⟩
  | agg _ _ hl h=>exact⟨hl,h⟩
 ·intro h;exact .agg _ _ h.1 h.2
theorem kH(k:Option aF):Br gF R k none↔True:=⟨fun _=>trivial,fun _ _ h=>by cases h⟩
theorem iQ(es es':Nat)(xs ys:List AV):Br gF R (some (.arr es xs)) (some (.arr es' ys))↔es=es'∧dX gF R xs ys:=by
 constructor
 ·intro h
  obtain⟨b,h1,h2⟩:=h _ rfl;cases h1;cases h2 with
  | arr _ _ _ h=>exact⟨rfl,h⟩
 ·rintro⟨rfl,h⟩ b hb
  cases hb;exact⟨_,rfl,.arr _ _ _ h⟩
theorem bH.loose{t:Bool}{xs:List AV}(h:∀x∈xs,aY x):bH gF R (.sl t xs) (.sl false xs):=.fz _ _ (.loose t xs (.sl _ _ h))
theorem bH.sQ{F:List Nat}{id es len:Nat}{xs:List AV}(hF:id∈F)(hg:g id=some (.arr es xs))(hl:len=xs.length)(hc:Cls xs):bH (only F g) R (.own id 0 len) (.sl false xs):=by
 refine .fz _ _ (.own id 0 len es xs xs (by rw[DX,if_pos hF];exact hg) (by omega) hl.symm (fun i h1 h2=>?_));simp only[List.drop_zero,hl,List.take_length];exact .closed _ (hc _ (List.getElem_mem _))
end
theorem kW(o:List (Nat×Nat))(b j i:Nat):JY o b j i↔((j,i)∈o∨(j=i∧i < b)):=Iff.rfl
theorem kF(x:Value):aY (.v x):=.v x
theorem jD(t:Bool):aY (.sl t []):=.sl _ _ (by simp)
theorem kL(l:List Int):aY (.sl false (l.map aj)):=aR l
theorem kJ(l:List (List Int)):aY (.sl false (l.map aA)):=iT l
theorem kK(l:List Bool):aY (.sl false (l.map aH)):=jq l
def vV(o:Bool)(id:Nat)(xs:List AV):AV:=if o=true then .own id 0 xs.length else .sl true xs
def vB(o:Bool)(es:Nat)(xs:List AV):Option aF:=if o=true then some (.arr es xs) else none
theorem bT(id:Nat)(xs:List AV):vV true id xs=.own id 0 xs.length:=by simp[vV]
theorem jr(id:Nat)(xs:List AV):vV false id xs=.sl true xs:=by simp[vV]
theorem bA(es:Nat)(xs:List AV):vB true es xs=some (.arr es xs):=by simp[vB]
theorem jN(es:Nat)(xs:List AV):vB false es xs=none:=by simp[vB]
theorem Zoz{S:St}{id es aB len aC:Nat}{xs:List AV}{x:AV}(hg:S.g id=some (.arr es xs))(hl:xs.length=len)(hx:x.cells.length=es)(hok:dV aB len 1) :
  (lU es aB (.own id 0 len) (.sl true [x])).run S aC=some (.own aC 0 (len+1),(S.set id none).set aC (some (.arr es (xs++[x])))):=by
 simp[lU,Eff.run,AV.lK,nk,hx,hok,St.fD,St.iY,hg,hl]
theorem Zlc{S:St}{es aB aC:Nat}{xs:List AV}{x:AV}(hes:tT es xs)(hx:x.cells.length=es)(hok:dV aB xs.length 1) :
  (lU es aB (.sl true xs) (.sl true [x])).run S aC=some (.own aC 0 (xs.length+1),S.set aC (some (.arr es (xs++[x])))):=by
 simp only[lU,Eff.run,AV.lK,nk,List.mapM_nil,Option.pure_def,List.mem_singleton,forall_eq,hx,if_true,Option.bind_some,List.length_cons,List.length_nil,Nat.zero_add];rw[if_pos ⟨hes,hok⟩];simp[St.fD,St.iY]
theorem qP{S:St}{o:Bool}{id es aB aC:Nat}{xs:List AV}{x:AV}(hg:S.g id=vB o es xs)(hes:tT es xs)(hx:x.cells.length=es)(hok:dV aB xs.length 1) :
  (lU es aB (vV o id xs) (.sl true [x])).run S aC=some (.own aC 0 (xs.length+1),(S.set id none).set aC (some (.arr es (xs++[x])))):=by
 cases o with
 | true=>rw[bT];rw[bA] at hg;exact Zoz hg rfl hx hok
 | false=>
  rw[jr,Zlc hes hx hok];rw[jN] at hg
  have:S.set id none=S:=by
   cases S with
   | mk n g=>
    simp only[St.set,St.mk.injEq,true_and];funext j;simp only[bI];split
    ·rename_i h;subst h;exact hg.symm
    ·rfl
  rw[this]
theorem ql(t:Bool)(xs:List AV):fu (.sl t xs)=some (.v (.int .i64 xs.length)):=by simp only[fu]
theorem oK(id off len:Nat):fu (.own id off len)=some (.v (.int .i64 len)):=by simp only[fu]
theorem pW(es:Nat)(t:Bool)(xs:List AV)(k:IntKind)(n:Int):dF es (.sl t xs) (.v (.int k n))=.val ((xs[n.toNat]?).bind fun y=>if 0≤n∧y.cells.length=es then some (.bN y 0) else none):=by simp only[dF]
theorem pE(es id off len:Nat)(k:IntKind)(n:Int):dF es (.own id off len) (.v (.int k n))=.rd id fun
  | .arr es' xs=>if es'=es∧0≤n∧n < len∧off+len≤xs.length then some (.ptr id (off+n.toNat) 0) else none
  | _=>none:=by simp only[dF];rfl
theorem pz(k:Option Nat)(x:AV)(c:Nat):bZ k (.bN x c)=.val (bB k x c):=by simp only[bZ]
theorem oG(k:Option Nat)(id ix c:Nat):bZ k (.ptr id ix c)=.rd id fun | .arr _ xs=>(xs[ix]?).bind fun x=>bB k x c | _=>none:=by simp only[bZ];rfl
theorem qm(o:Bool)(id:Nat)(xs:List AV):fu (vV o id xs)=some (.v (.int .i64 xs.length)):=by cases o<;>simp[vV,fu]
def vP(o:Bool)(id i:Nat)(xs:List AV):AV:=if o=true then .ptr id i 0 else .bN (xs[i]?.getD .junk) 0
theorem qQ{S:St}{o:Bool}{id es aC:Nat}{xs:List AV}{k:IntKind}{n:Int}(hg:S.g id=vB o es xs)(hn:0≤n)(hlt:n < xs.length)(hes:tT es xs) :
  (dF es (vV o id xs) (.v (.int k n))).run S aC=some (vP o id n.toNat xs,S):=by
 have hl:n.toNat < xs.length:=by omega
 have hx:xs[n.toNat]? = some xs[n.toNat]:=List.getElem?_eq_getElem hl;cases o with
 | true=>rw[bA] at hg;simp[vV,vP,dF,hg,hn,hlt]
 | false=>simp[vV,vP,dF,hx,hn,hes _ (List.getElem_mem hl)]
theorem qO{S:St}{o:Bool}{id i aC:Nat}{xs:List AV}(hg:S.g id=vB o 1 xs)(hx:i < xs.length)(hc:wV xs):(bZ none (vP o id i xs)).run S aC=some (xs[i]?.getD .junk,S):=by
 have hx':xs[i]? = some xs[i]:=List.getElem?_eq_getElem hx;have hc':=hc _ (List.getElem_mem hx);cases o with
 | true=>rw[bA] at hg;simp[vP,bZ,hg,hx',bB,hc']
 | false=>simp[vP,bZ,bB,hc',hx']
def vF(o:Bool)(l:List Nat):List Nat:=if o=true then l else []
theorem oU(o:Bool)(l:List Nat)(j:Nat):j∈vF o l↔o=true∧j∈l:=by cases o<;>simp[vF]
theorem qN{S:St}{o:Bool}{id es aC:Nat}{xs:List AV}{k:IntKind}{n:Int}(hg:S.g id=vB o es xs)(hn:0≤n)(hlt:n < xs.length)(hes:tT es xs) :
  (dF es (vV o id xs) (.v (.int k n))).runT S aC=some (vP o id n.toNat xs,S,vF o [id],[]):=by
 have hl:n.toNat < xs.length:=by omega
 have hx:xs[n.toNat]? = some xs[n.toNat]:=List.getElem?_eq_getElem hl;cases o with
 | true=>rw[bA] at hg;simp[vV,vP,dF,hg,hn,hlt,dL,vF]
 | false=>simp[vV,vP,dF,hx,hn,hes _ (List.getElem_mem hl),dx,vF]
theorem qH{S:St}{o:Bool}{id i aC:Nat}{xs:List AV}(hg:S.g id=vB o 1 xs)(hx:i < xs.length)(hc:wV xs):(bZ none (vP o id i xs)).runT S aC=some (xs[i]?.getD .junk,S,vF o [id],[]):=by
 have hx':xs[i]? = some xs[i]:=List.getElem?_eq_getElem hx;have hc':=hc _ (List.getElem_mem hx);cases o with
 | true=>rw[bA] at hg;simp[vP,bZ,hg,hx',bB,hc',dL,vF]
 | false=>simp[vP,bZ,bB,hc',hx',dx,vF]
theorem oZ{S:St}{o:Bool}{id es aB aC:Nat}{xs:List AV}{x:AV}(hg:S.g id=vB o es xs)(hes:tT es xs)(hx:x.cells.length=es)(hok:dV aB xs.length 1) :
  (lU es aB (vV o id xs) (.sl true [x])).runT S aC=some (.own aC 0 (xs.length+1),(S.set id none).set aC (some (.arr es (xs++[x]))),vF o [id],vF o [id]++[aC]):=by
 cases o with
 | true=>
  rw[bA] at hg;simp[vV,lU,Eff.runT,AV.lK,nk,hx,hok,St.fD,St.iY,hg,vF]
 | false=>
  rw[jN] at hg
  have:S.set id none=S:=by
   cases S with
   | mk n g=>
    simp only[St.set,St.mk.injEq,true_and];funext j;simp only[bI];split
    ·rename_i h;subst h;exact hg.symm
    ·rfl
  rw[this,jr];simp only[lU,Eff.runT,AV.lK,nk,List.mapM_nil,Option.pure_def,List.mem_singleton,forall_eq,hx,if_true,Option.bind_some,List.length_cons,List.length_nil,Nat.zero_add];rw[if_pos ⟨hes,hok⟩];simp[St.fD,St.iY,vF]
section
variable{gF g:Nat→Option aF}{R:Nat→Nat→Prop}
theorem jQ{o:Bool}{id j:Nat}{xs:List AV}(h:R j id)(hc:Cls xs):bH gF R (vV o id xs) (vV o j xs):=by
 cases o with
 | true=>rw[bT,bT];exact .own _ _ _ _ h
 | false=>rw[jr,jr];exact .cl (.sl _ _ hc)
theorem jO{o:Bool}{es:Nat}{xs:List AV}(hc:Cls xs):Br gF R (vB o es xs) (vB o es xs):=by
 cases o with
 | true=>rw[bA,iQ];exact⟨rfl,.cl hc⟩
 | false=>rw[jN,kH];trivial
theorem kS{F:List Nat}{id len:Nat}{xs:List AV}(hF:id∈F)(hg:g id=some (.arr 1 xs))(hl:len=xs.length)(hc:Cls xs):bH (only F g) R (.own id 0 len) (.sl false xs):=.sQ hF hg hl hc
theorem jY{F:List Nat}{o:Bool}{id:Nat}{xs:List AV}(hF:id∈F)(hg:g id=vB o 1 xs)(hc:Cls xs):bH (only F g) R (vV o id xs) (.sl false xs):=by
 cases o with
 | true=>rw[bT];rw[bA] at hg;exact .sQ hF hg rfl hc
 | false=>rw[jr];exact .loose hc
theorem kU{F:List Nat}{o:Bool}{id:Nat}{l:List Int}(hF:id∈F)(hg:g id=vB o 1 (l.map aj)):bH (only F g) R (vV o id (l.map aj)) (aA l):=jY hF hg (iZ l)
theorem kT{F:List Nat}{o:Bool}{id:Nat}{l:List Bool}(hF:id∈F)(hg:g id=vB o 1 (l.map aH)):bH (only F g) R (vV o id (l.map aH)) (ji l):=jY hF hg (jP l)
theorem kN{F:List Nat}{id len:Nat}{l:List Int}(hF:id∈F)(hg:g id=some (.arr 1 (l.map aj)))(hl:len=l.length):bH (only F g) R (.own id 0 len) (aA l):=.sQ hF hg (by simpa using hl) (iZ l)
theorem Bp{o:Bool}{id:Nat}{xs:List AV}(hg:g id=vB o 1 xs)(hc:Cls xs):Fz g (vV o id xs) (.sl false xs):=by
 cases o with
 | true=>
  rw[bT];rw[bA] at hg;refine .own id 0 xs.length 1 xs xs hg (by omega) rfl (fun i h1 h2=>?_);simp only[List.drop_zero,List.take_length];exact .closed _ (hc _ (List.getElem_mem _))
 | false=>rw[jr];exact .loose true xs (.sl _ _ hc)
theorem kP{a b:List AV}{x y:AV}:dX gF R (a++[x]) (b++[y])↔dX gF R a b∧bH gF R x y:=by
 constructor
 ·intro h
  have hl:b.length=a.length:=by have:=h.1;simpa using this
  refine⟨⟨hl,fun i h1 h2=>?_⟩,?_⟩
  ·have:=h.2 i (by simp;omega) (by simp;omega)
   rwa[List.getElem_append_left h1,List.getElem_append_left h2] at this
  ·have:=h.2 a.length (by simp) (by simp[hl])
   rw[List.getElem_append_right (Nat.le_refl _),List.getElem_append_right (by omega)] at this;simpa[hl] using this
 ·rintro⟨h1,h2⟩
  refine⟨by simp[h1.1],fun i k1 k2=>?_⟩;have hl:=h1.1;by_cases hi:i < a.length
  ·rw[List.getElem_append_left hi,List.getElem_append_left (by omega)]
   exact h1.2 i hi (by omega)
  ·have:i=a.length:=by simp at k1;omega
   subst this;rw[List.getElem_append_right (Nat.le_refl _),List.getElem_append_right (by omega)];simpa[hl] using h2
end
theorem lQ(l:List Int):(aA l).cells=[aA l]:=rfl
theorem pV(l:List (List Int)):(aX l).cells=[aX l]:=rfl
theorem qh(l:List Bool):(ji l).cells=[ji l]:=rfl
theorem qj(o:Bool)(id:Nat)(xs:List AV):(vV o id xs).cells=[vV o id xs]:=by cases o<;>simp[vV,AV.cells]
theorem qD(x:Value):(AV.v x).solid=true:=by simp only[AV.solid]
theorem oJ(t:Bool)(xs:List AV):(AV.sl t xs).solid=true:=by simp only[AV.solid]
theorem oL(a b c:Nat):(AV.own a b c).solid=true:=by simp only[AV.solid]
theorem qc(a b c:Nat):(AV.ptr a b c).solid=true:=by simp only[AV.solid]
theorem pF(x:AV)(c:Nat):(AV.bN x c).solid=true:=by simp only[AV.solid]
theorem pY(xs:List AV):(AV.agg xs).solid=true:=by simp only[AV.solid]
theorem qb(f:FuncId)(a b:List AV):(AV.aP f a b).solid=true:=by simp only[AV.solid]
theorem qp(i:Nat):(AV.mp i).solid=true:=by simp only[AV.solid]
theorem lZ(l:List Int):(aA l).solid=true:=rfl
theorem pX(l:List (List Int)):(aX l).solid=true:=rfl
theorem qo(l:List Bool):(ji l).solid=true:=rfl
theorem qE(o:Bool)(id:Nat)(xs:List AV):(vV o id xs).solid=true:=by cases o<;>simp[vV,AV.solid]
theorem rA(n:Net):(jy n).solid=true:=rfl
theorem rD(n:Net):(jy n).cells=[.v (.int .i64 n.signs),aX n.aB,aX n.follow,aA n.last]:=rfl
theorem rO(n:Net):AV.agg [.v (.int .i64 n.signs),aX n.aB,aX n.follow,aA n.last]=jy n:=rfl
theorem rz(d:aD):(aW d).solid=true:=rfl
theorem rC(d:aD):(aW d).cells=[.v (.int .i64 d.signs),aX d.next,ji d.fin]:=rfl
theorem rG(d:aD):AV.agg [.v (.int .i64 d.signs),aX d.next,ji d.fin]=aW d:=rfl
theorem rJ(l:List Int):fu (aA l)=some (.v (.int .i64 l.length)):=by simp[aA,fu]
theorem rE(l:List (List Int)):fu (aX l)=some (.v (.int .i64 l.length)):=by simp[aX,fu]
theorem rH(l:List Bool):fu (ji l)=some (.v (.int .i64 l.length)):=by simp[ji,fu]
theorem rU{S:St}{aC:Nat}{l:List Int}{k:IntKind}{n:Int}(hn:0≤n)(hlt:n < l.length):(dF 1 (aA l) (.v (.int k n))).run S aC=some (.bN (aj (l.getD n.toNat 0)) 0,S):=by
 have hl:n.toNat < l.length:=by omega
 simp[aA,dF,hn,List.getElem?_eq_getElem hl,List.getD_eq_getElem?_getD,AV.cells,aj]
theorem rR{S:St}{aC:Nat}{l:List (List Int)}{k:IntKind}{n:Int}(hn:0≤n)(hlt:n < l.length):(dF 1 (aX l) (.v (.int k n))).run S aC=some (.bN (aA (l.getD n.toNat [])) 0,S):=by
 have hl:n.toNat < l.length:=by omega
 simp[aX,dF,hn,List.getElem?_eq_getElem hl,List.getD_eq_getElem?_getD,AV.cells,aA]
theorem rT{S:St}{aC:Nat}{l:List Bool}{k:IntKind}{n:Int}(hn:0≤n)(hlt:n < l.length):(dF 1 (ji l) (.v (.int k n))).run S aC=some (.bN (aH (l.getD n.toNat false)) 0,S):=by
 have hl:n.toNat < l.length:=by omega
 simp[ji,dF,hn,List.getElem?_eq_getElem hl,List.getD_eq_getElem?_getD,AV.cells,aH]
theorem rQ{S:St}{aC:Nat}{l:List Int}{k:IntKind}{n:Int}(hn:0≤n)(hlt:n < l.length):(dF 1 (aA l) (.v (.int k n))).runT S aC=some (.bN (aj (l.getD n.toNat 0)) 0,S,[],[]):=by
 have hl:n.toNat < l.length:=by omega
 simp[aA,dF,hn,List.getElem?_eq_getElem hl,List.getD_eq_getElem?_getD,AV.cells,aj,dx]
theorem rM{S:St}{aC:Nat}{l:List (List Int)}{k:IntKind}{n:Int}(hn:0≤n)(hlt:n < l.length):(dF 1 (aX l) (.v (.int k n))).runT S aC=some (.bN (aA (l.getD n.toNat [])) 0,S,[],[]):=by
 have hl:n.toNat < l.length:=by omega
 simp[aX,dF,hn,List.getElem?_eq_getElem hl,List.getD_eq_getElem?_getD,AV.cells,aA,dx]
theorem rP{S:St}{aC:Nat}{l:List Bool}{k:IntKind}{n:Int}(hn:0≤n)(hlt:n < l.length):(dF 1 (ji l) (.v (.int k n))).runT S aC=some (.bN (aH (l.getD n.toNat false)) 0,S,[],[]):=by
 have hl:n.toNat < l.length:=by omega
 simp[ji,dF,hn,List.getElem?_eq_getElem hl,List.getD_eq_getElem?_getD,AV.cells,aH,dx]
theorem MI{l:List Int}{i:Nat}(h:i < l.length):l.getD i 0=l[i]:=by rw[List.getD_eq_getElem?_getD,List.getElem?_eq_getElem h];rfl
def cK(p:Int×Int):AV:=.agg [.v (.int .i64 p.1),.v (.int .i64 p.2)]
theorem Qw(p:Int×Int):(cK p).solid=true:=rfl
theorem yO(p:Int×Int):(cK p).cells=[.v (.int .i64 p.1),.v (.int .i64 p.2)]:=rfl
theorem yM(p:Int×Int):aY (cK p):=.agg _ (aL (.v _) (aL (.v _) aU))
theorem QU(l:List (Int×Int)):tT 2 (l.map cK):=Mh (enc:=cK) (fun _=>rfl) l
theorem Bb(l:List (Int×Int)):Cls (l.map cK):=Je yM l
def vQ(o:Bool)(id i c:Nat)(xs:List AV):AV:=if o=true then .ptr id i c else .bN (xs[i]?.getD .junk) c
theorem Sl{o:Bool}{id i:Nat}{xs:List AV}{k:IntKind}{n:Int}(h0:0≤n)(h1:n < 2):fZ 2 1 (vP o id i xs) (.v (.int k n))=some (vQ o id i n.toNat xs):=by
 cases o<;>simp[fZ,vP,vQ,h0,h1]
section
variable{S:St}{o:Bool}{id i aC:Nat}{l:List (Int×Int)}
theorem Uh(hg:S.g id=vB o 2 (l.map cK))(hx:i < l.length):(bZ none (vQ o id i 0 (l.map cK))).run S aC=some (.v (.int .i64 l[i].1),S):=by
 cases o with
 | true=>rw[bA] at hg;simp[vQ,bZ,hg,hx,bB,yO]
 | false=>simp[vQ,bZ,bB,hx,yO]
theorem Ui(hg:S.g id=vB o 2 (l.map cK))(hx:i < l.length):(bZ none (vQ o id i 1 (l.map cK))).run S aC=some (.v (.int .i64 l[i].2),S):=by
 cases o with
 | true=>rw[bA] at hg;simp[vQ,bZ,hg,hx,bB,yO]
 | false=>simp[vQ,bZ,bB,hx,yO]
theorem SY(hg:S.g id=vB o 2 (l.map cK))(hx:i < l.length):(bZ (some 2) (vP o id i (l.map cK))).run S aC=some (cK l[i],S):=by
 cases o with
 | true=>rw[bA] at hg;simp[vP,bZ,hg,hx,bB,cK,AV.cells]
 | false=>simp[vP,bZ,bB,hx,cK,AV.cells]
theorem S9(hg:S.g id=vB o 2 (l.map cK))(hx:i < l.length):(bZ none (vQ o id i 0 (l.map cK))).runT S aC=some (.v (.int .i64 l[i].1),S,vF o [id],[]):=by
 cases o with
 | true=>rw[bA] at hg;simp[vQ,bZ,hg,hx,bB,yO,dL,vF]
 | false=>simp[vQ,bZ,bB,hx,yO,dx,vF]
theorem Ta(hg:S.g id=vB o 2 (l.map cK))(hx:i < l.length):(bZ none (vQ o id i 1 (l.map cK))).runT S aC=some (.v (.int .i64 l[i].2),S,vF o [id],[]):=by
 cases o with
 | true=>rw[bA] at hg;simp[vQ,bZ,hg,hx,bB,yO,dL,vF]
 | false=>simp[vQ,bZ,bB,hx,yO,dx,vF]
theorem Sm(hg:S.g id=vB o 2 (l.map cK))(hx:i < l.length):(bZ (some 2) (vP o id i (l.map cK))).runT S aC=some (cK l[i],S,vF o [id],[]):=by
 cases o with
 | true=>rw[bA] at hg;simp[vP,bZ,hg,hx,bB,cK,AV.cells,dL,vF]
 | false=>simp[vP,bZ,bB,hx,cK,AV.cells,dx,vF]
end
theorem M7(p q:Int×Int):dW true [0,1] (cK p) (cK q)=some (.v (.bool (decide (p≠q)))):=by
 obtain⟨a,b⟩:=p;obtain⟨c,d⟩:=q;by_cases h1:a=c
 ·subst h1
  by_cases h2:b=d
  ·subst h2;simp[dW,cK,dh]
  ·simp[dW,cK,dh,h2]
 ·simp[dW,cK,dh,h1]
theorem Rx(p:Int×Int)(x y:Int):dW true [0,1] (cK p) (.agg [.v (.int .i64 x),.v (.int .i64 y)])=some (.v (.bool (decide (p≠(x,y))))):=M7 p (x,y)
def Gw(l:List UInt8):Nat:=l.foldl (fun a b=>10*a+(b.toNat - 48)) 0
theorem Zqh(l:List UInt8)(b:UInt8):Gw (l++[b])=10*Gw l+(b.toNat - 48):=by simp[Gw]
theorem IV{d:Nat}(h:d < 10):(UInt8.ofNat (48+d)).toNat=48+d:=by
 rw[UInt8.toNat_ofNat'];omega
theorem Il(n:Nat):Gw (Lib.decDigits n)=n∧∀b∈Lib.decDigits n,b≠32:=by
 induction n using Nat.strongRecOn with
 | _ n ih=>
  rw[Lib.decDigits];split
  ·rename_i h
   refine⟨?_,?_⟩
   ·have:=IV h
    simp only[Gw,List.foldl_cons,List.foldl_nil];omega
   ·intro b hb e
    simp only[List.mem_cons,List.not_mem_nil,or_false] at hb;have:=IV h;rw[←hb,e] at this;have h32:(32:UInt8).toNat=32:=rfl;omega
  ·rename_i h
   obtain⟨h1,h2⟩:=ih (n / 10) (by omega);have hd:n % 10 < 10:=Nat.mod_lt _ (by omega);refine⟨?_,?_⟩
   ·rw[Zqh,h1,IV hd];omega
   ·intro b hb e
    rcases List.mem_append.mp hb with hb | hb
    ·exact h2 b hb e
    ·simp only[List.mem_cons,List.not_mem_nil,or_false] at hb
     have:=IV hd;rw[←hb,e] at this;have h32:(32:UInt8).toNat=32:=rfl;omega
theorem Yj{b:UInt8}:∀{xs ys us vs:List UInt8},(∀x∈xs,x≠b)→(∀y∈ys,y≠b)→xs++b::us=ys++b::vs→xs=ys∧us=vs
 | [],[],us,vs,_,_,h=>by simp at h;exact⟨rfl,h⟩
 | [],y::ys,us,vs,_,hy,h=>by simp at h;exact(hy y (by simp) h.1.symm).elim
 | x::xs,[],us,vs,hx,_,h=>by simp at h;exact(hx x (by simp) h.1).elim
 | x::xs,y::ys,us,vs,hx,hy,h=>by
  simp only[List.cons_append,List.cons.injEq] at h;obtain⟨h1,h2⟩:=Yj (fun z hz=>hx z (by simp[hz])) (fun z hz=>hy z (by simp[hz])) h.2;exact⟨by rw[h.1,h1],h2⟩
def uX(l:List Int):Prop:=∀n∈l,0≤n
theorem Mv{n:Int}(h:0≤n):Lib.itoa n=Lib.decDigits n.toNat:=by unfold Lib.itoa;rw[if_neg (by omega)]
theorem LQ(n:Int)(l:List Int):lg (n::l)=Lib.itoa n++32::lg l:=by simp[lg]
theorem ZgP:∀{l m:List Int},uX l→uX m→lg l=lg m→l=m
 | [],[],_,_,_=>rfl
 | [],n::m,_,_,h=>by rw[LQ] at h;simp[lg] at h
 | n::l,[],_,_,h=>by rw[LQ] at h;simp[lg] at h
 | n::l,k::m,hl,hm,h=>by
  have hn:=hl n (by simp);have hk:=hm k (by simp);rw[LQ,LQ,Mv hn,Mv hk] at h;obtain⟨h1,h2⟩:=Yj (Il _).2 (Il _).2 h;have:=congrArg Gw h1;rw[(Il _).1,(Il _).1] at this;rw[ZgP (fun z hz=>hl z (by simp[hz])) (fun z hz=>hm z (by simp[hz])) h2];congr 1;omega
def uj:Nat→List (List Int)→List (AV×AV)
 | _,[]=>[]
 | k,s::ss=>(sJ (lg s),aj k)::uj (k+1) ss
theorem Zqp(a b:Array UInt8):((⟨a⟩:ByteArray) == ⟨b⟩)=(a == b):=rfl
theorem ZmF(l m:List Int)(hl:uX l)(hm:uX m):tJ (sJ (lg l)) (sJ (lg m))=decide (l=m):=by
 have:tJ (sJ (lg l)) (sJ (lg m))=((⟨(lg l).toArray⟩:ByteArray) == ⟨(lg m).toArray⟩):=rfl;rw[this,Zqp];by_cases h:l=m
 ·subst h;simp
 ·simp only[h,decide_false,beq_eq_false_iff_ne,ne_eq]
  intro e;refine h (ZgP hl hm ?_);simpa using e
theorem ZfV{x:List Int}(hx:uX x):∀(ss:List (List Int)) (k:Nat),(∀s∈ss,uX s)→tH (sJ (lg x)) (uj k ss)=if x∈ss then some (aj (k+ss.idxOf x:Nat)) else none
 | [],k,h=>by simp[uj,tH]
 | s::ss,k,h=>by
  simp only[uj,tH];rw[ZmF x s hx (h s (by simp)),ZfV hx ss (k+1) (fun z hz=>h z (by simp[hz]))];by_cases hs:x=s
  ·subst hs;simp
  ·have hs':s≠x:=fun e=>hs e.symm
   simp only[hs,decide_false,Bool.false_eq_true,if_false,List.mem_cons,false_or];by_cases hm:x∈ss
   ·rw[if_pos hm,if_pos hm,List.idxOf_cons,show(s == x)=false by simpa using hs',cond_false]
    congr 2;omega
   ·rw[if_neg hm,if_neg hm]
theorem Zjt{x:List Int}(hx:uX x):∀(ss:List (List Int)) (k:Nat),(∀s∈ss,uX s)→x∉ss→o9 (sJ (lg x)) (aj (k+ss.length:Nat)) (uj k ss)=uj k (ss++[x])
 | [],k,h,_=>by simp[uj,o9]
 | s::ss,k,h,hn=>by
  simp only[List.mem_cons,not_or] at hn;simp only[uj,o9,List.cons_append];rw[ZmF x s hx (h s (by simp)),if_neg (by simpa using hn.1)];have:=Zjt hx ss (k+1) (fun z hz=>h z (by simp[hz])) hn.2;rw[←this];congr 3;simp only[List.length_cons];omega
theorem WY(x:List Int):∀(ss:List (List Int)) (k:Nat),isK .str (sJ (lg x))=true∧∀e∈uj k ss,isK .str e.1=true
 | [],k=>⟨rfl,by simp[uj]⟩
 | s::ss,k=>⟨rfl,fun e he=>by
  simp only[uj,List.mem_cons] at he;rcases he with rfl | he
  ·rfl
  ·exact(WY x ss (k+1)).2 e he⟩
theorem aO.P5I{P:Program}(hm:P.follows .mixedOrders=true){f:FuncId}{fn:Func}{c:Code}{X:AC}{d:Nat}{Y:AC}{t:Nat}{T e:TypeId}(hf:P.funcs[f]? = some fn)(hnm:(fn.name == "runtime.NumGoroutine")=false)(hb:fn.body=some c)
  (hc:comp P fn.ntmps c=some (.seq X (sq [⟨some d,.alloc JO 2,none,none⟩] Y))) (hT:FK c=some T) (hr:fn.results=([t].map ResultVar.tmp).toArray) {args:List AV} (hn:args.length≤fn.ntmps) {r:Value} (hrs:zQ r=true) {A:List (Nat×AV)}
  (h0:bM P 0 X (fun e a S=>e=.normal∧bL 0 a S (jA A) ⟨0,cB []⟩) (bU args) S0)
  (h1:∀E B w w0,BE E B B→kC P E.H→lX E.H w→wH T e B B w0 [] w→mV P E Y (fun ex a w'=>(ex=.ret∨ex=.normal)∧a t=.v r∧Below B w0 w') ((jA A).put (some d) (.ptr 0 0 0)) w):aO P f args (.v r):=by
 refine⟨vO hf hnm hb,fun H w vals hG hH hv=>?_⟩;obtain⟨c0,c1,rfl,hc0,hc1⟩:=PW hc;obtain⟨c2,c3,rfl,hc2,hc3⟩:=PW hc1;have hF:=AY hv hn;refine calls_of_wp hf hb (wp_seq (wp_mono (Wx (b:=0) (Cj hm) Fu c0 _ hc0 _ _ _ h0 ⟨uR,H⟩ w _ hG (Nat.zero_le _) (Zj hH) hF) fun ex qY w1 hp=>?_));obtain⟨a0,S1,Um,⟨rfl,habs⟩,hS1,J7,NG⟩:=hp;obtain⟨E1,hS2,hF1,wQ⟩:=habs Um w1 qY _ (Nat.zero_le _) hS1 J7;have ev:=NG.trans wQ;have hE1:Ay E1 w1:=⟨fun b cs e=>hS2.hH b cs e,fun id _=>hS2.fresh id (Nat.zero_le _)⟩;have hρ1:∀id,E1.ρ id=none:=fun id=>hS2.fresh id (Nat.zero_le _)
 have aa4:Below w.heap.size w w1:=⟨ev.os,ev.tape,ev.output,ev.size,fun k hk=>ev.keep k hk (fun id l B hB=>by simp[S0] at hB)⟩
 have hsub:∀b cs,E1.H b=some cs→H b=some cs∨w.heap.size≤b:=by
  intro b cs e;rcases ev.hsub b cs e with h2 | h2 | ⟨jo,l0,k0,h2,_⟩
  ·exact .inl h2
  ·exact .inr h2
  ·simp[S0] at h2
 refine wp_seq (wp_mono (Zfq (e:=e) hc2 hF1 hρ1 hE1.hH (T:=T) (fun id ops e=>?_)) fun ex jI w2 hp=>?_)
 ·subst e
  simp only[FK] at hT;split at hT
  ·rename_i o ho
   refine⟨o,ho,?_⟩;split at hT
   ·rename_i t' ht
    cases hT;exact ht
   ·cases hT
  ·cases hT
 obtain⟨rfl,rfl,hE2,hF2,hB⟩:=hp;have hbe:BE ⟨fun i=>if i=0 then some ⟨w1.heap.size,0,2,1⟩ else none,E1.H⟩ w1.heap.size w1.heap.size:=⟨rfl,fun c cs e=>by obtain⟨el,fz,hw⟩:=hE1.hH c cs e;exact(Array.getElem?_eq_some_iff.mp hw).1⟩;refine wp_mono (WA c3 _ hc3 _ _ _ (h1 _ _ _ w1 hbe (hG.sub ev.Ez) hE2.hH hB) _ hE2 hF2) fun ex GA w3 hp=>?_
 obtain⟨a3,⟨hex,hat,hbel⟩,Er,ZA⟩:=hp;have hres:=LJ (P:=P) hr GA.tmps w3;have hrep:=IE Er [t];simp only[uN,hat] at hrep;have hval:=hrep.jB;have aaJ:Below w.heap.size w w3:=aa4.trans ⟨hbel.os,hbel.tape,hbel.output,hbel.size,fun k hk=>hbel.block k (Nat.lt_of_lt_of_le hk aa4.size)⟩
 have fin:bodyPost P fn (fun e w'=>∃v H',e=.returned v∧(∀b cs,H b=some cs→H' b=some cs)∧(∀b cs,H' b=some cs→H b=some cs∨w.heap.size≤b)∧lX H' w'∧aK ⟨uR,H'⟩ (.v r) v∧Below w.heap.size w w') .ret GA w3:=
  ⟨Er.defers,_,hres,_,E1.H,rfl,ev.Ez,hsub,ZA.hH,by rw[hval];exact .v _ hrs,aaJ⟩
 rcases hex with rfl | rfl
 ·exact fin
 ·exact fin
structure Bg{K:Type}[DecidableEq K](d:KK)(good:K→Prop)(enc:K→AV):Prop where
 k:∀x,isK d (enc x)=true
 eq:∀x y,good x→good y→tJ (enc x) (enc y)=decide (x=y)
def jc{K:Type}(enc:K→AV):Nat→List K→List (AV×AV)
 | _,[]=>[]
 | k,x::xs=>(enc x,aj k)::jc enc (k+1) xs
theorem ZfR{K:Type}(enc:K→AV):∀(k:Nat) (ks:List K),(jc enc k ks).length=ks.length
 | _,[]=>rfl
 | k,x::xs=>by simp[jc,ZfR enc (k+1) xs]
section
variable{K:Type}[DecidableEq K]{d:KK}{good:K→Prop}{enc:K→AV}
theorem LW(h:Bg d good enc):∀(ks:List K) (k:Nat),∀e∈jc enc k ks,isK d e.1=true
 | [],k=>by simp[jc]
 | x::xs,k=>fun e he=>by
  simp only[jc,List.mem_cons] at he;rcases he with rfl | he
  ·exact h.k x
  ·exact LW h xs (k+1) e he
theorem YK(h:Bg d good enc){x:K}(hx:good x):∀(ks:List K) (k:Nat),(∀s∈ks,good s)→tH (enc x) (jc enc k ks)=if x∈ks then some (aj (k+ks.idxOf x:Nat)) else none
 | [],k,_=>by simp[jc,tH]
 | s::ss,k,hs=>by
  simp only[jc,tH];rw[h.eq x s hx (hs s (by simp)),YK h hx ss (k+1) (fun z hz=>hs z (by simp[hz]))];by_cases e:x=s
  ·subst e;simp
  ·have e':s≠x:=fun e2=>e e2.symm
   simp only[e,decide_false,Bool.false_eq_true,if_false,List.mem_cons,false_or];by_cases hm:x∈ss
   ·rw[if_pos hm,if_pos hm,List.idxOf_cons,show(s == x)=false by simpa using e',cond_false]
    congr 2;omega
   ·rw[if_neg hm,if_neg hm]
theorem Zi(h:Bg d good enc){x:K}(hx:good x):∀(ks:List K) (k:Nat),(∀s∈ks,good s)→x∉ks→o9 (enc x) (aj (k+ks.length:Nat)) (jc enc k ks)=jc enc k (ks++[x])
 | [],k,_,_=>by simp[jc,o9]
 | s::ss,k,hs,hn=>by
  simp only[List.mem_cons,not_or] at hn;simp only[jc,o9,List.cons_append];rw[h.eq x s hx (hs s (by simp)),if_neg (by simpa using hn.1)];have:=Zi h hx ss (k+1) (fun z hz=>hs z (by simp[hz])) hn.2;rw[←this];congr 3;simp only[List.length_cons];omega
theorem YU(h:Bg d good enc){ks:List K}{x:K}(hx:good x)(hs:∀s∈ks,good s){km aC:Nat}{S:St}(hg:S.g km=some (.map (jc enc 0 ks))) :
  (Bd d (.v (.int .i64 0)) true (.mp km) (enc x)).run S aC=some (.aN [.v (.int .i64 (if x∈ks then (ks.idxOf x:Int) else 0)),.v (.bool (decide (x∈ks)))],S):=by
 have hk:=LW h ks 0;simp only[Bd,Eff.AJ,hg,Option.bind_some,if_pos (show isK d (enc x)=true∧∀e∈jc enc 0 ks,isK d e.1=true from⟨h.k x,hk⟩),YK h hx ks 0 hs];by_cases hin:x∈ks
 ·simp[hin,aj]
 ·simp[hin]
theorem RY(h:Bg d good enc){ks:List K}{x:K}(hx:good x)(hs:∀s∈ks,good s)(hn:x∉ks){km aC:Nat}{S:St}(hg:S.g km=some (.map (jc enc 0 ks))) :
  (Cr d (.mp km) (enc x) (.v (.int .i64 ks.length))).run S aC=some (.junk,S.set km (some (.map (jc enc 0 (ks++[x]))))):=by
 have hk:=LW h ks 0;have h2:=Zi h hx ks 0 hs hn;rw[Nat.zero_add] at h2;have h':o9 (enc x) (.v (.int .i64 ks.length)) (jc enc 0 ks)=jc enc 0 (ks++[x]):=h2;simp only[Cr,Eff.Ib,hg,Option.bind_some,if_pos (show isK d (enc x)=true∧∀e∈jc enc 0 ks,isK d e.1=true from⟨h.k x,hk⟩),h',Option.map_some]
theorem Zwn{ks:List K}{km aC:Nat}{S:St}(hg:S.g km=some (.map (jc enc 0 ks))):(Jf (.mp km)).run S aC=some (.v (.int .i64 ks.length),S):=by
 simp[Jf,hg,ZfR]
end
def Sn(es:List (AV×AV)):Prop:=∀e∈es,aY e.1∧aY e.2
theorem zR{K:Type}{enc:K→AV}(h:∀x,aY (enc x)):∀(ks:List K) (k:Nat),Sn (jc enc k ks)
 | [],k=>by simp[Sn,jc]
 | x::xs,k=>fun e he=>by
  simp only[jc,List.mem_cons] at he;rcases he with rfl | he
  ·exact⟨h x,aS _⟩
  ·exact zR h xs (k+1) e he
theorem zM{gF:Nat→Option aF}{R:Nat→Nat→Prop}{es:List (AV×AV)}(h:Sn es):Br gF R (some (.map es)) (some (.map es)):=by
 intro b hb;cases hb;exact⟨_,rfl,.map _ _ rfl (fun i h1 _=>⟨.cl (h _ (List.getElem_mem h1)).1,.cl (h _ (List.getElem_mem h1)).2⟩)⟩
def yF:Nat→Option aF:=fun _=>none
def EX(o:List (Nat×Nat))(N n:Nat)(out inn:Nat):Prop:=(inn < N∧(inn,out)∈o)∨(N≤inn∧out=n+(inn - N))
theorem aQ.frame{P:Program}{f:FuncId}{args:List AV}{S:St}{K:AV→St→Prop}(N:Nat)(o:List (Nat×Nat))(G:List (Nat×Option aF))(Z5:List AV)(K0:AV→St→Prop)
  (ho:o.Pairwise fun p q=>p.1≠q.1∧p.2≠q.2) (TK:∀p∈o,p.1 < N∧p.2 < S.n)
  (hG:∀p∈G,p.2=none∨∃i,(p.1,i)∈o∧Br yF (fun j i=>(j,i)∈o) (S.g i) p.2)
  (hargs:dX yF (fun j i=>(j,i)∈o) args Z5)
  (h:aQ P f Z5 ⟨N,cB G⟩ K0)
  (hk:∀r1 S1,N≤S1.n→K0 r1 S1→∃r S',K r S'∧bH yF (EX o N S.n) r1 r∧S'.n=S.n+(S1.n - N)∧
   ∀i b,S'.g i=some b→((∀p∈o,p.2≠i)∧S.g i=some b)∨∃j,EX o N S.n i j∧Br yF (EX o N S.n) (S1.g j) (some b)):aQ P f args S K:=by
 refine⟨h.1,fun E w vals aaz hS hv=>?_⟩
 let ρ2:Nat→Option Loc:=fun j=>if j < N then match o.lookup j with | some i=>E.ρ i | none=>none else none
 let E2:Env:=⟨ρ2,E.H⟩
 have hR:∀j i l,(j,i)∈o→E.ρ i=some l→E2.ρ j=some l:=by
  intro j i l hji hl;show ρ2 j=some l
  simp only[ρ2];rw[if_pos (TK _ hji).1,IW ho hji];exact hl
 have hrep:∀{x y:AV},bH yF (fun j i=>(j,i)∈o) x y→∀{v:Value},aK E x v→aK E2 y v:=fun h _ hv=>
  bH.rep (E2:=E2) hS (gF:=yF) (fun i k e=>by cases e) (fun _ _ e=>e) (fun id es xs l e=>by cases e) hR h hv
 have hlive:∀j k',cB G j=some k'→∃i k,(j,i)∈o∧S.g i=some k∧Gj yF (fun j i=>(j,i)∈o) k k':=by
  intro j k' h;rcases hG _ (X8 h) with h1 | ⟨i,h1,h2⟩
  ·simp at h1
  ·obtain⟨k,h3,h4⟩:=h2 k' rfl
   exact⟨i,k,h1,h3,h4⟩
 have hS2:bq E2 ⟨N,cB G⟩ w:=by
  refine⟨hS.hH,fun j k' e=>?_,fun j1 j2 k1 k2 l1 l2 e1 e2 hne r1 r2=>?_,fun j hj=>?_⟩
  ·obtain⟨i,k,h1,h2,h3⟩:=hlive j k' e
   obtain⟨l,a1,a2,a3⟩:=hS.live i k h2;exact⟨l,hR j i l h1 a1,a2,h3.ok hrep a3⟩
  ·obtain⟨i1,b1,p1,p2,_⟩:=hlive j1 k1 e1
   obtain⟨i2,b2,q1,q2,_⟩:=hlive j2 k2 e2;obtain⟨m1,a1,_⟩:=hS.live i1 b1 p2;obtain⟨m2,a2,_⟩:=hS.live i2 b2 q2;have c1:=hR j1 i1 m1 p1 a1;have c2:=hR j2 i2 m2 q1 a2;rw[c1] at r1;cases r1;rw[c2] at r2;cases r2;exact hS.nP i1 i2 b1 b2 _ _ p2 q2 (Zut ho p1 q1 hne) a1 a2
  ·have hj:N≤j:=hj
   show ρ2 j=none
   simp only[ρ2];rw[if_neg (by omega)]
 have hv2:lC E2 Z5 vals:=by
  refine⟨by rw[hv.1,hargs.1],fun j hj=>?_⟩;have hj':j < args.length:=by have:=hargs.1;omega
  exact hrep (hargs.2 j hj' hj) (hv.2 j hj')
 refine(h.2 E2 w vals aaz hS2 hv2).mono ?_;rintro e w' ⟨v,r1,S1,E1,rfl,hK,hS1,hr1,ev⟩;have hN1:N≤S1.n:=ev.kZ;obtain⟨r,S',k1,k2,k3,k4⟩:=hk r1 S1 hN1 hK
 let ρ3:Nat→Option Loc:=fun i=>if i < S.n then E.ρ i else E1.ρ (N+(i - S.n))
 let E3:Env:=⟨ρ3,E1.H⟩
 have hlow:∀i l,E.ρ i=some l→i < S.n:=fun i l hl=>by
  rcases Nat.lt_or_ge i S.n with h1 | h1
  ·exact h1
  ·rw[hS.fresh i h1] at hl;cases hl
 have wS:∀j i,(j,i)∈o→E1.ρ j=E.ρ i:=by
  intro j i hji
  have e2:E2.ρ j=E.ρ i:=by
   show ρ2 j=E.ρ i
   simp only[ρ2];rw[if_pos (TK _ hji).1,IW ho hji]
  cases hl:E.ρ i with
  | some l=>exact ev.cu.le.1 j l (by rw[e2,hl])
  | none=>exact ev.low j (TK _ hji).1 (by rw[e2,hl])
 have GQ:∀out inn l,EX o N S.n out inn→E1.ρ inn=some l→E3.ρ out=some l:=by
  intro out inn l hio hl;show ρ3 out=some l
  simp only[ρ3];rcases hio with⟨h1,h2⟩ | ⟨h1,rfl⟩
  ·rw[if_pos (TK _ h2).2,←wS _ _ h2];exact hl
  ·rw[if_neg (by omega),show N+(S.n+(inn - N) - S.n)=inn by omega];exact hl
 have aal:∀{x y:AV},bH yF (EX o N S.n) x y→∀{v:Value},aK E1 x v→aK E3 y v:=fun h _ hv=>
  bH.rep (E2:=E3) hS1 (gF:=yF) (fun i k e=>by cases e) (fun _ _ e=>e) (fun id es xs l e=>by cases e) GQ h hv
 have hle:E.le E3:=by
  refine⟨fun i l hl=>?_,fun b cs e=>ev.cu.le.2 b cs e⟩;show ρ3 i=some l
  simp only[ρ3];rw[if_pos (hlow i l hl)];exact hl
 have hout:∀i k l,S.g i=some k→E.ρ i=some l→(∀p∈o,p.2≠i)→w'.heap[l.b]? = w.heap[l.b]?∧E1.H l.b=none:=by
  intro i k l hgi hl hno;obtain⟨l',a1,a2,a3⟩:=hS.live i k hgi;rw[hl] at a1;cases a1
  have hfr:∀id l0 k0,(St.mk N (cB G)).g id=some k0→E2.ρ id=some l0→l0.b≠l.b:=by
   intro id l0 k0 b1 b2;obtain⟨i2,kk,h1,h2,h3⟩:=hlive id k0 b1;obtain⟨m2,c1,_⟩:=hS.live i2 kk h2;have:=hR id i2 m2 h1 c1;rw[this] at b2;cases b2;exact hS.nP i2 i kk k _ _ h2 hgi (fun e=>hno _ h1 e) c1 hl
  refine⟨ev.cu.keep l.b a3.lt hfr,?_⟩;cases e:E1.H l.b with
  | none=>rfl
  | some cs=>
   exfalso;rcases ev.cu.hsub _ _ e with h1 | h1 | ⟨jo,l0,k0,b1,b2,b3⟩
   ·have h1':E.H l.b=some cs:=h1
    rw[a2] at h1';cases h1'
   ·have:=a3.lt;omega
   ·exact hfr jo l0 k0 b1 b2 b3
 have hgrow:∀j k l,S1.g j=some k→E1.ρ j=some l→w.heap.size≤l.b∨∃jo l0 k0,S.g jo=some k0∧E.ρ jo=some l0∧l0.b=l.b∧∃jj,(jj,jo)∈o:=by
  intro j k l b1 b2;rcases ev.cu.grow j l k b1 b2 with h1 | ⟨jo,l0,k0,c1,c2,c3⟩
  ·exact .inl h1
  ·obtain⟨i2,kk,h1,h2,h3⟩:=hlive jo k0 c1
   obtain⟨m2,d1,_⟩:=hS.live i2 kk h2;have:=hR jo i2 m2 h1 d1;rw[this] at c2;cases c2;exact .inr ⟨i2,_,kk,h2,d1,c3,_,h1⟩
 have hinj:∀i1 i2 j1 j2,EX o N S.n i1 j1→EX o N S.n i2 j2→i1≠i2→j1≠j2:=by
  rintro i1 i2 j1 j2 h1 h2 hne rfl;rcases h1 with⟨a1,a2⟩ | ⟨a1,a2⟩<;>rcases h2 with⟨b1,b2⟩ | ⟨b1,b2⟩
  ·have e1:=IW ho a2
   have e2:=IW ho b2;rw[e1] at e2;cases e2;exact hne rfl
  ·omega
  ·omega
  ·omega
 refine⟨v,r,S',E3,rfl,k1,⟨fun b cs e=>hS1.hH b cs e,fun i b e=>?_,fun i1 i2 b1 b2 l1 l2 e1 e2 hne r1 r2=>?_,fun i hi=>?_⟩,aal k2 hr1,?_⟩
 ·rcases k4 i b e with⟨h2,h3⟩ | ⟨j,h1,h2⟩
  ·obtain⟨l,a1,a2,a3⟩:=hS.live i b h3
   obtain⟨c1,c2⟩:=hout i b l h3 a1 h2;exact⟨l,hle.1 i l a1,c2,a3.mono hle c1⟩
  ·obtain⟨k,h3,h4⟩:=h2 b rfl
   obtain⟨l,a1,a2,a3⟩:=hS1.live j k h3;exact⟨l,GQ i j l h1 a1,a2,h4.ok aal a3⟩
 ·rcases k4 i1 b1 e1 with⟨h2,h3⟩ | ⟨j1,h1,h2⟩<;>rcases k4 i2 b2 e2 with⟨g2,g3⟩ | ⟨j2,g1,g2⟩
  ·obtain⟨m1,a1,_⟩:=hS.live i1 b1 h3
   obtain⟨m2,a2,_⟩:=hS.live i2 b2 g3;have c1:=hle.1 i1 m1 a1;have c2:=hle.1 i2 m2 a2;rw[c1] at r1;cases r1;rw[c2] at r2;cases r2;exact hS.nP i1 i2 b1 b2 _ _ h3 g3 hne a1 a2
  ·obtain⟨m1,a1,_,a3⟩:=hS.live i1 b1 h3
   have c1:=hle.1 i1 m1 a1;rw[c1] at r1;cases r1;obtain⟨k,g3,g4⟩:=g2 b2 rfl;obtain⟨m2,a2,_⟩:=hS1.live j2 k g3;have c2:=GQ i2 j2 m2 g1 a2;rw[c2] at r2;cases r2;rcases hgrow j2 k _ g3 a2 with h5 | ⟨jo,l0,k0,d1,d2,d3,jj,d4⟩
   ·have:=a3.lt;omega
   ·rw[←d3]
    exact hS.nP i1 jo b1 k0 _ _ h3 d1 (fun e=>h2 _ d4 e.symm) a1 d2
  ·obtain⟨m2,a2,_,a3⟩:=hS.live i2 b2 g3
   have c2:=hle.1 i2 m2 a2;rw[c2] at r2;cases r2;obtain⟨k,h3,h4⟩:=h2 b1 rfl;obtain⟨m1,a1,_⟩:=hS1.live j1 k h3;have c1:=GQ i1 j1 m1 h1 a1;rw[c1] at r1;cases r1;rcases hgrow j1 k _ h3 a1 with h5 | ⟨jo,l0,k0,d1,d2,d3,jj,d4⟩
   ·have:=a3.lt;omega
   ·rw[←d3]
    exact hS.nP jo i2 k0 b2 _ _ d1 g3 (fun e=>g2 _ d4 e) d2 a2
  ·obtain⟨k,h3,h4⟩:=h2 b1 rfl
   obtain⟨m1,a1,_⟩:=hS1.live j1 k h3;have c1:=GQ i1 j1 m1 h1 a1;rw[c1] at r1;cases r1;obtain⟨k2,g3,g4⟩:=g2 b2 rfl;obtain⟨m2,a2,_⟩:=hS1.live j2 k2 g3;have c2:=GQ i2 j2 m2 g1 a2;rw[c2] at r2;cases r2;exact hS1.nP j1 j2 k k2 _ _ h3 g3 (hinj _ _ _ _ h1 g1 hne) a1 a2
 ·show ρ3 i=none
  simp only[ρ3];rw[if_neg (by omega)];exact hS1.fresh _ (by omega)
 ·refine⟨⟨ev.cu.os,ev.cu.tape,ev.cu.output,ev.cu.size,fun b hb hno=>?_,fun i l b e hl=>?_,hle,fun b cs e=>?_⟩,by omega,fun i hi e=>?_⟩
  ·refine ev.cu.keep b hb fun id l0 k0 b1 b2=>?_
   obtain⟨i2,kk,h1,h2,h3⟩:=hlive id k0 b1;obtain⟨m2,c1,_⟩:=hS.live i2 kk h2;have:=hR id i2 m2 h1 c1;rw[this] at b2;cases b2;exact hno i2 _ kk h2 c1
  ·rcases k4 i b e with⟨h2,h3⟩ | ⟨j,h1,h2⟩
   ·obtain⟨m1,a1,_⟩:=hS.live i b h3
    have c1:=hle.1 i m1 a1;rw[c1] at hl;cases hl;exact .inr ⟨i,_,b,h3,a1,rfl⟩
   ·obtain⟨k,h3,h4⟩:=h2 b rfl
    obtain⟨m1,a1,_⟩:=hS1.live j k h3;have c1:=GQ i j m1 h1 a1;rw[c1] at hl;cases hl;rcases hgrow j k _ h3 a1 with h5 | ⟨jo,l0,k0,d1,d2,d3,_⟩
    ·exact .inl h5
    ·exact .inr ⟨jo,l0,k0,d1,d2,d3⟩
  ·rcases ev.cu.hsub b cs e with h1 | h1 | ⟨jo,l0,k0,b1,b2,b3⟩
   ·exact .inl h1
   ·exact .inr (.inl h1)
   ·obtain⟨i2,kk,h1,h2,h3⟩:=hlive jo k0 b1
    obtain⟨m2,c1,_⟩:=hS.live i2 kk h2;have:=hR jo i2 m2 h1 c1;rw[this] at b2;cases b2;exact .inr (.inr ⟨i2,_,kk,h2,c1,b3⟩)
  ·show ρ3 i=none
   simp only[ρ3];rw[if_pos hi];exact e
def LV(g:Nat→Option aF)(v:AV)(xs:List AV):Prop:=(∃t,v=.sl t xs)∨Vec g v 1 xs
theorem LV.frame{g g':Nat→Option aF}{v:AV}{xs:List AV}(h:LV g v xs)(hs:∀i∈v.ids,g' i=g i):LV g' v xs:=by
 rcases h with h | h
 ·exact .inl h
 ·exact .inr (h.frame hs)
theorem LV.cell{g:Nat→Option aF}{v:AV}{xs:List AV}(h:LV g v xs):v.cells=[v]∧v.solid=true:=by
 rcases h with⟨t,rfl⟩ | h
 ·exact⟨rfl,rfl⟩
 ·exact h.cel
theorem LV.len{g:Nat→Option aF}{v:AV}{xs:List AV}(h:LV g v xs):fu v=some (.v (.int .i64 xs.length)):=by
 rcases h with⟨t,rfl⟩ | ⟨rfl,rfl⟩ | ⟨id,off,ys,rfl,_,_,_⟩<;>rfl
theorem LV.idx{g:Nat→Option aF}{v:AV}{xs:List AV}(h:LV g v xs){i:Nat}(hi:i < xs.length)(h1:(xs[i]).cells.length=1)(hs:(xs[i]).cells=[xs[i]]) :
  ∃p,(∀n aC,(dF 1 v (.v (.int .i64 (i:Int)))).run ⟨n,g⟩ aC=some (p,⟨n,g⟩))∧∀n aC,(bZ none p).run ⟨n,g⟩ aC=some (xs[i],⟨n,g⟩):=by
 have hi0:(0:Int)≤(i:Int):=by omega
 rcases h with⟨t,rfl⟩ | ⟨rfl,rfl⟩ | ⟨id,off,ys,rfl,h2,h3,h4⟩
 ·refine⟨.bN xs[i] 0,fun n aC=>?_,fun n aC=>?_⟩
  ·simp[dF,hi,h1]
  ·simp[bZ,bB,hs]
 ·simp at hi
 ·have hget:ys[off+i]? = some xs[i]:=by
   have:(ys.drop off)[i]? = some xs[i]:=by rw[h4];simp[List.getElem?_eq_getElem hi]
   rwa[List.getElem?_drop] at this
  have hle:off+xs.length≤ys.length:=by have:=congrArg List.length h4;simp at this;omega
  refine⟨.ptr id (off+i) 0,fun n aC=>?_,fun n aC=>?_⟩
  ·simp[dF,hi,h2,hle]
  ·simp[bZ,bB,hs,h2,hget]
theorem Zcr{n:Net}{i:Nat}(h:i < n.follow.length):n.follow.getD i []=n.follow[i]:=by
 rw[List.getD_eq_getElem?_getD,List.getElem?_eq_getElem h];rfl
def Gc(n:Net)(p q s:Int):Prop:=0≤p∧p < n.follow.length∧q∈n.follow.getD p.toNat []∧vv n s q=true
theorem IZ{n:Net}{a:List Int}{s q:Int}:q∈qW n a s↔∃p∈a,Gc n p q s:=by
 unfold qW qB Cg Gc;rw[vU,List.mem_flatMap];constructor
 ·rintro⟨p,hp,h⟩
  split at h
  ·rename_i hb
   have:=List.mem_filter.mp h;exact⟨p,hp,hb.1,hb.2,this.1,this.2⟩
  ·simp at h
 ·rintro⟨p,hp,h1,h2,h3,h4⟩
  exact⟨p,hp,by rw[if_pos ⟨h1,h2⟩];exact List.mem_filter.mpr ⟨h3,h4⟩⟩
def JK(n:Net):Int→List Int→Prop
 | p,[]=>p∈n.last
 | p,s::l=>∃q,Gc n p q s∧JK n q l
theorem Zie{n:Net}:∀(l a:List Int),(∃q∈l.foldl (qW n) a,q∈n.last)↔∃p∈a,JK n p l
 | [],a=>Iff.rfl
 | s::l,a=>by
  rw[List.foldl_cons,Zie l (qW n a s)];constructor
  ·rintro⟨q,h1,h2⟩
   obtain⟨p,h3,h4⟩:=IZ.mp h1;exact⟨p,h3,q,h4,h2⟩
  ·rintro⟨p,h3,q,h4,h2⟩
   exact⟨q,IZ.mpr ⟨p,h3,h4⟩,h2⟩
theorem Zou{n:Net}{l:List Int}:za n l=true↔qV n=true∧JK n 0 l:=by
 unfold za vw;rw[Bool.and_eq_true,List.any_eq_true];refine and_congr_right (fun _=>?_);have:=Zie (n:=n) l [0];simp only[List.mem_singleton,exists_eq_left] at this;rw[←this];constructor
 ·rintro⟨q,h1,h2⟩;exact⟨q,h1,by simpa using h2⟩
 ·rintro⟨q,h1,h2⟩;exact⟨q,h1,by simpa using h2⟩
theorem WO(n:Net)(l:List Int)(s:Int):vw n (l++[s])=qW n (vw n l) s:=by
 unfold vw;rw[List.foldl_append];rfl
end Go.Rf
namespace Go.Rf
theorem V8{P:Program}(hm:P.follows .mixedOrders=true){f fg:FuncId}{es aB:Nat}{z:AV}(hg:MP P fg es z)(hb:aB≤1000)(h:Is P f (Ma es aB fg) [2] 1){X:Type}{enc:X→AV}(hcl:∀x,aY (enc x))(hce:∀x,(enc x).cells.length=es)
  (L:List (Bool×List X)) (hL:L.length≤1000) (ht:(L.map fun p=>p.2.length).sum≤1000000):aO P f [.sl true (L.map fun p=>.sl p.1 (p.2.map enc))] (.sl false ((L.flatMap (·.2)).map enc)):=by
 have e:AV.sl true (L.map fun p=>AV.sl p.1 (p.2.map enc))=Gl (L.map fun p=>(p.1,p.2.map enc)):=by simp[Gl]
 rw[e];refine .wZ (Zfk hm hg hb h (fun p hp x hx=>?_) (by simpa using hL) (by simpa[wM,Function.comp_def] using ht) (fun v S' ho=>?_))
 ·obtain⟨q,hq,rfl⟩:=List.mem_map.mp hp
  obtain⟨y,_,rfl⟩:=List.mem_map.mp hx;exact hce y
 ·obtain⟨_,_,hv,_⟩:=ho
  have e2:(L.map fun p=>(p.1,p.2.map enc)).flatMap (·.2)=(L.flatMap (·.2)).map enc:=by
   rw[List.flatMap_map,List.map_flatMap]
  rw[e2] at hv;exact hv.fz hcl
end Go.Rf
namespace Go.Rf
open Go.RowKit
def cst:aJ→Option AV
 | .c x=>some x
 | .t _=>none
def JU(P:Program)(op:Op):Option jS:=
 match op with
 | .buildSlice t m ps=>match Rk ps,xu P t with
  | some qs,some p=>match qs.mapM (fun q=>(cst q.2).map fun x=>(q.1,x)) with
   | some cs=>match dz p.2.1 (List.replicate m p.1) cs with
    | some xs=>if 0 < xs.length∧m*p.2.1≤16777216 then some (.app p.2.1 p.2.2 (.c (.sl true [])) (.c (.sl true xs))) else none
    | none=>none
   | none=>none
  | _,_=>none
 | _=>none
def ME(P:Program)(n:Nat)(ops:Array Oper)(o:Oper):Option aZ:=
 match JU P o.op with
 | some op=>if R5 n o.dst=true then (Co ops o).map fun g=>⟨o.dst,op,g,none⟩ else none
 | none=>og P n ops o
theorem ZjU{P:Program}{n:Nat}{ops:Array Oper}{o:Oper}{ao:aZ}(h:ME P n ops o=some ao) :
  (∀d,o.dst=some d→d < n)∧ao.dst=o.dst∧Co ops o=some ao.guard∧((∃p,ao.call=some p∧CU o.op=some p)∨(ao.call=none∧(cop P o.op=some ao.op∨JU P o.op=some ao.op))):=by
 unfold ME at h;split at h
 ·rename_i op hop
  split at h
  ·rename_i hd
   have hd':∀d,o.dst=some d→d < n:=fun d e=>by rw[e] at hd;simpa[R5] using hd
   simp only[Option.map_eq_some_iff] at h;obtain⟨g,h2,rfl⟩:=h;exact⟨hd',rfl,h2,.inr ⟨rfl,.inr hop⟩⟩
  ·cases h
 ·obtain⟨h1,h2,h3,h4⟩:=Fj h
  exact⟨h1,h2,h3,h4.imp id fun h=>⟨h.1,.inl h.2⟩⟩
theorem Zix{P:Program}{op:Op}{ao:jS}(h:JU P op=some ao):∃t m ps qs z es aB cs xs,op=.buildSlice t m ps∧Rk ps=some qs∧xu P t=some (z,es,aB)∧qs.mapM (fun q=>(cst q.2).map fun x=>(q.1,x))=some cs∧
  dz es (List.replicate m z) cs=some xs∧0 < xs.length∧m*es≤16777216∧ao=.app es aB (.c (.sl true [])) (.c (.sl true xs)):=by
 unfold JU at h;split at h
 ·rename_i t m ps
  split at h
  ·rename_i qs p hq hp
   obtain⟨z,es,aB⟩:=p;split at h
   ·rename_i cs hc
    split at h
    ·rename_i xs hx
     split at h
     ·rename_i hh
      cases h;exact⟨t,m,ps,qs,z,es,aB,cs,xs,rfl,hq,hp,hc,hx,hh.1,hh.2,rfl⟩
     ·cases h
    ·cases h
   ·cases h
  ·cases h
 ·cases h
theorem Zqu{a:AF}:∀{qs:List (Nat×aJ)} {cs:List (Nat×AV)},qs.mapM (fun q=>(cst q.2).map fun x=>(q.1,x))=some cs→(qs.map fun q=>(q.1,q.2.ev a))=cs
 | [],cs,h=>by simp at h;subst h;rfl
 | (i,x)::qs,cs,h=>by
  simp only[List.mapM_cons,Option.bind_eq_bind,Option.bind_eq_some_iff,Option.pure_def,Option.some.injEq,Option.map_eq_some_iff] at h;obtain⟨c,⟨y,hy,rfl⟩,cs',h2,rfl⟩:=h;rw[List.map_cons,Zqu h2];cases x with
  | t _=>simp[cst] at hy
  | c z=>simp only[cst,Option.some.injEq] at hy;subst hy;simp only[aJ.ev]
theorem Zp5{P:Program}{op:Op}{ao:jS}(h:JU P op=some ao){a:AF}{k:AV→Prop}(hn:sO ao a k):False:=by
 obtain⟨t,m,ps,qs,z,es,aB,cs,xs,_,_,_,_,_,_,_,rfl⟩:=Zix h;simp only[sO] at hn
section
variable{P:Program}{n:Nat}{o:Oper}{a:AF}{S:St}{aC:Nat}{v:AV}
theorem ZrI(hd:∀d,o.dst=some d→d < n){ao:jS}(hc:JU P o.op=some ao){S':St}(h:(ex ao a).run S aC=some (v,S')):iR P n o a S aC v S':=by
 obtain⟨t,m,ps,qs,z,es,aB,cs,xs,hop,hq,ht,hcs,hf,hx0,hms,rfl⟩:=Zix hc;have hqc:=Zqu (a:=a) hcs;obtain⟨e,i,hu,hz,hi,hb⟩:=Iw ht;obtain⟨_,_,q1,q2,q3,q4,q5,q6,q7⟩:=LU hz;have yE:∀x∈List.replicate m z,x.cells.length=es:=by intro x hx;rw[(List.mem_replicate.mp hx).2];exact q5
 obtain⟨f1,f2,f3⟩:=VZ _ _ _ yE hf
 have hv:v=.own aC 0 xs.length∧S'=S.set aC (some (.arr es xs)):=by
  have h3:nk es [] (.sl true xs)=some xs:=by simp only[nk];rw[if_pos f2]
  have hne:¬xs.length=0:=by omega
  simp only[ex,aJ.ev,lU,Eff.run,AV.lK,List.mapM_nil,Option.pure_def,h3,Option.bind_some] at h;by_cases hap:dV aB 0 xs.length
  ·rw[if_pos ⟨by simp,by simpa using hap⟩,if_neg hne] at h
   simp only[Option.some.injEq,Prod.mk.injEq] at h;obtain⟨rfl,rfl⟩:=h;exact⟨by simp,by simp[St.fD,St.iY]⟩
  ·rw[if_neg (fun hh=>hap (by simpa using hh.2))] at h
   cases h
 obtain⟨rfl,rfl⟩:=hv;refine iR.alloc (f:=fun i=>.own i 0 xs.length) hd (by rw[hop];rfl) f2 fun E w act hS hF=>?_
 obtain⟨i',zv,g1,g2,g3,g4,g5⟩:=AX (E:=E) hz;rw[hi] at g1;cases g1;obtain⟨p1,p2⟩:=Xo hF hq;have hl0:=sF yE;simp only[List.length_replicate] at hl0
 have hstart:JN E (flat (List.replicate m z)) ((Array.range (m*es)).map (zv.cells[· % zv.cells.size]!)):=by
  refine⟨by simp[hl0],?_,LY g4 q5 m m (Nat.le_refl _)⟩;intro y hy;obtain⟨x,hx,hyx⟩:=List.mem_flatMap.mp hy;rw[(List.mem_replicate.mp hx).2] at hyx;exact g4.2.1 y hyx
 let ps':=ps.map fun p=>(p.1,act.eval p.2)
 obtain⟨cells',e1,e2⟩:=Mt (fun j=>some (j*es,es)) ps'.toList ((qs.map fun q=>(q.1,q.2.ev a)).map fun p=>(p.1*es,es,p.2)) _ _ _ hstart (by simp[ps'];simpa using p1)
  (fun j hj hj'=>by
   simp only[ps',Array.toList_map,List.length_map] at hj hj';obtain⟨a1,a2⟩:=p2 j hj (by omega);simp only[ps',Array.toList_map,List.getElem_map];exact⟨by rw[a1],a2⟩) (by rw[hqc];exact f1)
 have hrun:(execOp act.eval o).run P w=.ok (.value (.slice (some ⟨w.heap.size,0,none⟩) m m)) (w.alloc (.cells cells' e)):=by
  simp only[execOp,hop];by_cases h0:m*i.size=0
  ·have h00:m*es=0:=by rw[←g3];exact h0
   have Zq:Instr.fill (fun j=>some (j*i.size,i.size)) #[] ps'.toList=some cells':=by
    rw[g3,←e1];congr 1;rw[h00];simp[Array.range_zero']
   simp[Instr.buildSlice,run_underlying hu,uH hi,h0,newRow,Array.range_zero'];have GJ:Instr.fill (fun j=>some (j*i.size,i.size)) #[] (List.map (fun x=>(x.1,act.eval x.2)) ps.toList)=some cells':=by simpa[ps'] using Zq
   rw[GJ];simp
  ·have hle:¬(m*i.size > 16777216):=by rw[g3];omega
   have GJ:Instr.fill (fun j=>some (j*i.size,i.size)) ((Array.range (m*i.size)).map (zv.cells[· % zv.cells.size]!)) (List.map (fun x=>(x.1,act.eval x.2)) ps.toList)=some cells':=by
    rw[g3];simpa[ps'] using e1
   simp[Instr.buildSlice,run_underlying hu,uH hi,h0,newRow,zeroValue,typeInfo,hi,g2];rw[if_neg (by omega)];simp[GJ]
 have hxl:xs.length=m:=by rw[f3];simp
 have hfl:=sF f2;have hcz:cells'.size=m*es:=by rw[e2.1,hfl,hxl]
 refine⟨_,cells',e,m,w,rfl,hS,.refl _ _ _,hrun,e2.2.1,by omega,by omega,e2.2.2,fun E' he=>?_⟩;rw[hxl];exact .own aC 0 m (some ⟨w.heap.size,0,none⟩) m _ he (Nat.le_refl _) (fun _=>⟨by simp,by simp⟩)
end
theorem WL{P:Program}{n:Nat}{ops:Array Oper}{base:Nat}{Q:Exit→AF→St→Prop}{E0:Env}{S0:St}{w0:World}(hG0:kC P E0.H)(hb:S0.n≤base) :
  ∀(os:List aZ) (i:Nat) (a:AF) (S:St),(∀k (hk:k < os.length),∃o,ops[i+k]? = some o∧ME P n ops o=some (os[k]))→RG P base os i (fun a S=>Q .normal a S) a S→
   ∀E w act,bq E S w→fA E n a act→(∀k,i≤k→k < i+os.length→E.ρ (base+k)=none∧base+k < S.n)→Ev E0 S0 w0 E S w→
    wpOps P ops (oq E0 S0 w0 n Q) (List.range' i os.length) act w
 | [],i,a,S,_,h,E,w,act,hS,hF,_,hE=>⟨a,S,E,h,hS,hF,hE⟩
 | ao::os,i,a,S,hc,h,E,w,act,hS,hF,hr,hE=>by
  obtain⟨o,ho,hco⟩:=hc 0 (by simp);simp only[Nat.add_zero,List.getElem_cons_zero] at ho hco;obtain⟨hd,hdst,hgd,hor⟩:=ZjU hco
  have hc':∀k (hk:k < os.length),∃o,ops[i+1+k]? = some o∧ME P n ops o=some (os[k]):=by
   intro k hk;obtain⟨o',h1,h2⟩:=hc (k+1) (by simpa using hk);exact⟨o',by rw[←h1];congr 1;omega,by simpa using h2⟩
  have hr0:=hr i (Nat.le_refl _) (by simp);simp only[List.length_cons,List.range'_succ,wpOps,ho];simp only[RG] at h;split at h
  ·exact h.elim
  ·rename_i hg
   rw[zI hF hgd hg];simp only[Bool.false_eq_true,if_false];rw[hdst] at h;exact WL hG0 hb os (i+1) _ S hc' h E w _ hS (hF.put hd LZ) (fun k h1 h2=>hr k (by omega) (by simp;omega)) hE
  ·rename_i hg
   rw[zI hF hgd hg];simp only[if_true];left;rw[hdst] at h
   have next:∀{r:AV} {S':St} {act':Act} {w':World} {E':Env},RG P base os (i+1) (fun a S=>Q .normal a S) (a.put o.dst r) S'→bq E' S' w'→fA E' n (a.put o.dst r) act'→Ev E0 S0 w0 E' S' w'→
     (∀k,i < k→k < i+(os.length+1)→E'.ρ (base+k)=none∧base+k < S'.n)→wpOps P ops (oq E0 S0 w0 n Q) (List.range' (i+1) os.length) act' w':=
    fun h1 h2 h3 h4 h5=>WL hG0 hb os (i+1) _ _ hc' h1 _ _ _ h2 h3 (fun k a1 a2=>h5 k (by omega) (by omega)) h4
   have hcall:∀{f:FuncId} {args:List AV} {vals:Array Value},aQ P f args S (fun r S'=>RG P base os (i+1) (fun a S=>Q .normal a S) (a.put o.dst r) S')→lC E args vals→
     (execOp act.eval o).run P w=.ok (.enter f vals) w→o.wp P act w (wpOps P ops (oq E0 S0 w0 n Q) (List.range' (i+1) os.length)) (oq E0 S0 w0 n Q):=by
    intro f args vals h1 h2 h3;refine Qd hd h1 (hG0.le hE.cu.le) hS hF h2 h3 fun r S' act' w' E' k1 k2 k3 k4=>next k1 k2 k3 (hE.trans k4) fun k a1 a2=>?_
    obtain⟨b1,b2⟩:=hr k (by omega) (by simp;omega);exact⟨k4.low _ b2 b1,Nat.lt_of_lt_of_le b2 k4.kZ⟩
   rcases hor with⟨p,hp1,hp2⟩ | ⟨hp1,hop⟩
   ·
    rw[hp1] at h;obtain⟨G,xs⟩:=p;simp only at h;unfold CU at hp2;split at hp2
    ·rename_i g ys ts wS
     simp only[Option.bind_eq_some_iff,Option.map_eq_some_iff,Prod.mk.injEq] at hp2;obtain⟨G',hG,XS,Ao,rfl,rfl⟩:=hp2;have rg:=bW hF hG;split at h
     ·rename_i f first cap Ap
      rw[Ap] at rg;generalize hev:act.eval g=gv at rg;cases rg with
      | aP _ _ _ fv cv hn hm hf hcc=>
       have hx:=Ip hF Ao;have hargs:lC E (first++XS.map (·.ev a)++cap) (fv++ys.map act.eval++cv):=(lC.append ⟨hn,hf⟩ hx).append ⟨hm,hcc⟩;refine hcall h hargs ?_;simp only[execOp,wS,Sem.run_bind,EY act.eval g ys ts o.type hev,Result.andThen_ok,invoke];exact E9 h.1 _ _
     ·exact h.elim
    ·cases hp2
   ·rw[hp1] at h
    simp only at h;split at h
    ·rename_i v S' hex
     have hok:iR P n o a S (base+i) v S':=hop.elim (fun h1=>Js (P:=P) (n:=n) (o:=o) hd h1 hex) (fun h1=>ZrI (P:=P) (n:=n) (o:=o) hd h1 hex);have hn:=Eff.Pp hex;refine hok E w act hS hF hr0.1 hr0.2 _ _ fun act' w' E' k1 k2 k3 k4=>next h k1 k2 ⟨hE.cu.trans k3,by have:=hE.kZ;omega,fun id hid e=>k4.2 id (by omega) (hE.low id hid e)⟩ fun k a1 a2=>?_
     ·obtain⟨b1,b2⟩:=hr k (by omega) (by simp;omega)
      exact⟨k4.2 _ (by omega) b1,by omega⟩
    ·have hop:cop P o.op=some ao.op:=hop.elim id fun h1=>(Zp5 h1 h).elim
     obtain⟨b,g1,g2⟩:=QJ hop h hF w;unfold Oper.wp;rw[g2,Oper.upon_value];exact next g1 hS (hF.put hd (.v _ rfl)) hE fun k a1 a2=>hr k (by omega) (by simp;omega)
def Nn(P:Program)(n:Nat)(draw:Bool)(ops:Array Oper):AC:= if draw=true then wB P n draw ops else match ops.toList.mapM (ME P n ops) with | some os=>.reg none os | none=>.bad
def ZtO(P:Program)(n:Nat)(c:Code):Option AC:=eG Nn P n c
theorem ZsF{P:Program}(hm:P.follows .mixedOrders=true){n:Nat}:F4 P n Nn:=by
 intro id ops dr Q a S h;unfold Nn at h;split at h
 ·exact Cj hm id ops dr Q a S h
 ·rename_i hdr
  simp only[Bool.not_eq_true] at hdr;subst hdr;split at h
  ·rename_i ys hy
   obtain⟨h1,h2⟩:=AZ hy;have hlen:ys.length=ops.size:=by rw[h1];simp
   intro E w act hG hS hF;simp only[AW] at h;refine wp_region ?_
   have:=WL (P:=P) (n:=n) (ops:=ops) (base:=S.n) (E0:=E) (S0:=S) (w0:=w) hG (Nat.le_refl _) ys 0 a ⟨S.n+ys.length,S.g⟩ (fun k hk=>by
    obtain⟨o,a1,a2⟩:=h2 k hk;exact⟨o,by rw[Nat.zero_add];simpa using a1,a2⟩) h E w act (hS.drop S.g (fun _ _ e=>e) _ (by show S.n≤S.n+_;omega)) hF (fun k _ hk=>⟨hS.fresh _ (by omega),by show S.n+k < S.n+ys.length;omega⟩)
    ⟨⟨rfl,rfl,rfl,Nat.le_refl _,fun _ _ _=>rfl,fun id l k hk hl=>.inr ⟨id,l,k,hk,hl,rfl⟩,Env.le_refl _,fun _ _ e=>.inl e⟩,by show S.n≤S.n+_;omega,fun _ _ e=>e⟩
   rw[List.range_eq_range',←hlen];exact this
  ·simp only[AW] at h
theorem ZmK{P:Program}{n:Nat}(d:Bool)(ops:Array Oper):FY (Nn P n d ops)=true:=by
 unfold Nn;split
 ·exact Fu d ops
 ·split<;>rfl
structure EH(P:Program)(f:FuncId)(ac:AC)(rs:List RV)(n:Nat):Prop where
 h:∃fn c,P.funcs[f]? = some fn∧(fn.name == "runtime.NumGoroutine")=false∧fn.body=some c∧ZtO P fn.ntmps c=some ac∧fn.results.toList.mapM (vC P)=some rs∧n≤fn.ntmps
theorem EH.xg{P:Program}(hm:P.follows .mixedOrders=true){f:FuncId}{ac:AC}{rs:List RV}{n:Nat}(h:EH P f ac rs n){args:List AV}(hn:args.length=n){S:St}{K:AV→St→Prop}
  (hb:bM P S.n ac (JA S.n rs K) (bU args) S):aQ P f args S K:=Wl (fun _=>ZsF hm) (fun _=>ZmK) h.h hn hb
theorem EH.rX{P:Program}(hm:P.follows .mixedOrders=true){f:FuncId}{ac:AC}{rs:List RV}{n:Nat}(h:EH P f ac rs n){args:List AV}(hn:args.length=n){r:AV}
  (hb:bM P 0 ac (bR rs (iP r)) (bU args) S0):aO P f args r:=
 .wZ (h.xg hm hn (I4 _ (fun e a S k=>⟨a,S,.refl _ _,k⟩) hb))
end Go.Rf
namespace Go.Rf
variable{P:Program}{f:FuncId}{ac:AC}{ts:List Nat}{rs:List RV}{n:Nat}
def Kl(co:Nat→Code→Option AC)(fn:Func)(n:Nat)(r:Option (List RV)):Option (Bool×AC×Option (List RV)×Bool):=
 fn.body.bind fun c=>(co fn.ntmps c).map fun a=>(fn.name == "runtime.NumGoroutine",a,r,Nat.ble n fn.ntmps)
theorem Q6{co:Nat→Code→Option AC}{fn:Func}{r:Option (List RV)}(h:Kl co fn n r=some (false,ac,some rs,true)) :
  ∃c,(fn.name == "runtime.NumGoroutine")=false∧fn.body=some c∧co fn.ntmps c=some ac∧r=some rs∧n≤fn.ntmps:=by
 unfold Kl at h;obtain⟨c,h1,h2⟩:=Option.bind_eq_some_iff.mp h;obtain⟨a,h3,h4⟩:=Option.map_eq_some_iff.mp h2;simp only[Prod.mk.injEq] at h4;obtain⟨h5,rfl,rfl,h6⟩:=h4;exact⟨c,h5,h1,h3,rfl,Nat.le_of_ble_eq_true h6⟩
def isR(fn:Func)(n:Nat)(co:Nat→Code→Option AC):Option (Bool×AC×Array ResultVar×Bool):=
 fn.body.bind fun c=>(co fn.ntmps c).map fun a=>(fn.name == "runtime.NumGoroutine",a,fn.results,Nat.ble n fn.ntmps)
theorem Is.k{fn:Func}(hf:P.funcs[f]? = some fn)(h:isR fn n (comp P)=some (false,ac,(ts.map ResultVar.tmp).toArray,true)):Is P f ac ts n:=by
 unfold isR at h;obtain⟨c,h1,h2⟩:=Option.bind_eq_some_iff.mp h;obtain⟨a,h3,h4⟩:=Option.map_eq_some_iff.mp h2;simp only[Prod.mk.injEq] at h4;obtain⟨h5,rfl,h7,h6⟩:=h4;exact⟨fn,c,hf,h5,h1,h3,h7,Nat.le_of_ble_eq_true h6⟩
theorem lN.k{fn:Func}(hf:P.funcs[f]? = some fn)(h:Kl (comp P) fn n (fn.results.toList.mapM (vC P))=some (false,ac,some rs,true)):lN P f ac rs n:=by
 obtain⟨c,h1,h2,h3,h4,h5⟩:=Q6 h;exact⟨fn,c,hf,h1,h2,h3,h4,h5⟩
theorem wX.k{fn:Func}(hf:P.funcs[f]? = some fn)(h:Kl (RS P) fn n (fn.results.toList.mapM (vC P))=some (false,ac,some rs,true)):wX P f ac rs n:=by
 obtain⟨c,h1,h2,h3,h4,h5⟩:=Q6 h;exact⟨fn,c,hf,h1,h2,h3,h4,h5⟩
theorem BK.k{fn:Func}(hf:P.funcs[f]? = some fn)(h:Kl (xY P) fn n (fn.results.toList.mapM (vC P))=some (false,ac,some rs,true)):BK P f ac rs n:=by
 obtain⟨c,h1,h2,h3,h4,h5⟩:=Q6 h;exact⟨fn,c,hf,h1,h2,h3,h4,h5⟩
theorem EH.k{fn:Func}(hf:P.funcs[f]? = some fn)(h:Kl (ZtO P) fn n (fn.results.toList.mapM (vC P))=some (false,ac,some rs,true)):EH P f ac rs n:=by
 obtain⟨c,h1,h2,h3,h4,h5⟩:=Q6 h;exact⟨fn,c,hf,h1,h2,h3,h4,h5⟩
theorem ZiG(d:aD)(h i:Nat):xZ d h i=bQ d i (2*(h:Int)):=by
 unfold xZ bQ;have:(2*(h:Int)).toNat=2*h:=by omega
 rw[this]
theorem Zna(d:aD)(h i:Nat):Ef d h i=bQ d i (2*(h:Int)+1):=by
 unfold Ef bQ;have:(2*(h:Int)+1).toNat=2*h+1:=by omega
 rw[this]
theorem Xg{T:List bV}{i k:Nat}(hi:i < T.length)(hk:k < 3)(j:Nat):hs (yc T i k) j=(hs T j || decide (j=3*i+k)):=by
 unfold hs yc;simp only[List.getD_eq_getElem?_getD,List.getElem?_set];by_cases hji:i=j / 3
 ·subst hji
  rw[if_pos rfl,if_pos hi];simp only[Option.getD_some];generalize(T[j / 3]?).getD bV.no=t;unfold bV.put bV.at;have hj3:j % 3 < 3:=Nat.mod_lt _ (by omega);by_cases hjk:j % 3=k
  ·have:j=3*(j / 3)+k:=by omega
   rw[decide_eq_true this];subst hjk;rcases(by omega:j % 3=0∨j % 3=1∨j % 3=2) with h | h | h<;>simp[h]
  ·have:¬j=3*(j / 3)+k:=by omega
   rw[decide_eq_false this];rcases(by omega:j % 3=0∨j % 3=1∨j % 3=2) with h | h | h<;>rcases(by omega:k=0∨k=1∨k=2) with g | g | g<;>simp_all
 ·rw[if_neg hji]
  have:¬j=3*i+k:=by omega
  rw[decide_eq_false this,Bool.or_false]
theorem Zub(n j:Nat):hs (List.replicate n .no) j=false:=by
 unfold hs
 have:(List.replicate n bV.no).getD (j / 3) .no=.no:=by
  simp only[List.getD_eq_getElem?_getD,List.getElem?_replicate];split<;>rfl
 rw[this];unfold bV.at bV.no;split<;>(try split)<;>rfl
theorem YN(T:List bV)(i:Nat):hs T (3*i)=(T.getD i .no).a∧hs T (3*i+1)=(T.getD i .no).b∧hs T (3*i+2)=(T.getD i .no).c:=by
 refine⟨?_,?_,?_⟩
 ·unfold hs;have h1:3*i / 3=i:=by omega
  have h2:3*i % 3=0:=by omega
  rw[h1,h2];rfl
 ·unfold hs;have h1:(3*i+1) / 3=i:=by omega
  have h2:(3*i+1) % 3=1:=by omega
  rw[h1,h2];rfl
 ·unfold hs;have h1:(3*i+2) / 3=i:=by omega
  have h2:(3*i+2) % 3=2:=by omega
  rw[h1,h2];rfl
theorem Zpr{d:aD}(R:bD d){h:Nat}(hh:((2*h+1:Nat):Int) < d.signs){T out:List bV}(ho:out.length=d.next.length){i:Nat}(hi:i < d.next.length)(j:Nat) :
  hs (Bj d h T out i) j=true↔hs out j=true∨∃ph,ph < 3∧hs T (3*i+ph)=true∧Aa d (3*i+ph) h j:=by
 have he:xZ d h i < d.next.length:=by rw[ZiG];exact zK R hi (by omega) (by omega)
 have hod:Ef d h i < d.next.length:=by rw[Zna];exact zK R hi (by omega) (by omega)
 obtain⟨a0,a1,a2⟩:=YN T i;have l1:(tZ d h (T.getD i .no) (xZ d h i) out).length=d.next.length:=by unfold tZ;split<;>simp[Dx,ho]
 have l2:(yS (T.getD i .no) (Ef d h i) (tZ d h (T.getD i .no) (xZ d h i) out)).length=d.next.length:=by
  unfold yS;split
  ·rw[Dx];exact l1
  ·exact l1
 have s1:hs (tZ d h (T.getD i .no) (xZ d h i) out) j=(hs out j || (((T.getD i .no).a || (T.getD i .no).b) && decide (j=3*xZ d h i+1))):=by
  unfold tZ;split
  ·rename_i hc;rw[Xg (by omega) (by omega),hc,Bool.true_and]
  ·rename_i hc;simp only[Bool.not_eq_true] at hc;rw[hc];simp
 have s2:hs (yS (T.getD i .no) (Ef d h i) (tZ d h (T.getD i .no) (xZ d h i) out)) j=(hs (tZ d h (T.getD i .no) (xZ d h i) out) j || ((T.getD i .no).b && decide (j=3*Ef d h i+2))):=by
  unfold yS;split
  ·rename_i hc;rw[Xg (by omega) (by omega),hc,Bool.true_and]
  ·rename_i hc;simp only[Bool.not_eq_true] at hc;rw[hc];simp
 have s3:hs (Bj d h T out i) j=(hs (yS (T.getD i .no) (Ef d h i) (tZ d h (T.getD i .no) (xZ d h i) out)) j || ((T.getD i .no).c && decide (j=3*xZ d h i+2))):=by
  unfold Bj DW;split
  ·rename_i hc;rw[Xg (by omega) (by omega),hc,Bool.true_and]
  ·rename_i hc;simp only[Bool.not_eq_true] at hc;rw[hc];simp
 rw[s3,s2,s1];simp only[Bool.or_eq_true,Bool.and_eq_true,decide_eq_true_eq];rw[←a0,←a1,←a2,ZiG,Zna];have st:=fun ph (hp:ph < 3)=>Dz R hi hp (h:=(h:Int)) (j:=j)
 constructor
 ·rintro(((h1 | ⟨h1,h2⟩) | ⟨h1,h2⟩) | ⟨h1,h2⟩)
  ·exact .inl h1
  ·rcases h1 with h1 | h1
   ·exact .inr ⟨0,by omega,h1,(st 0 (by omega)).mpr (.inl ⟨by omega,by rw[h2];rfl⟩)⟩
   ·exact .inr ⟨1,by omega,h1,(st 1 (by omega)).mpr (.inl ⟨by omega,by rw[h2];rfl⟩)⟩
  ·exact .inr ⟨1,by omega,h1,(st 1 (by omega)).mpr (.inr ⟨rfl,by omega,h2⟩)⟩
  ·exact .inr ⟨2,by omega,h1,(st 2 (by omega)).mpr (.inl ⟨by omega,by rw[h2];rfl⟩)⟩
 ·rintro(h1 | ⟨ph,hp,h1,h2⟩)
  ·exact .inl (.inl (.inl h1))
  ·rcases(by omega:ph=0∨ph=1∨ph=2) with rfl | rfl | rfl
   ·rcases(st 0 (by omega)).mp h2 with⟨_,h3⟩ | ⟨h3,_⟩
    ·exact .inl (.inl (.inr ⟨.inl h1,by rw[h3];rfl⟩))
    ·omega
   ·rcases(st 1 (by omega)).mp h2 with⟨_,h3⟩ | ⟨_,_,h3⟩
    ·exact .inl (.inl (.inr ⟨.inr h1,by rw[h3];rfl⟩))
    ·exact .inl (.inr ⟨h1,h3⟩)
   ·rcases(st 2 (by omega)).mp h2 with⟨_,h3⟩ | ⟨h3,_⟩
    ·exact .inr ⟨h1,by rw[h3];rfl⟩
    ·omega
theorem ZmA{d:aD}(R:bD d){h:Nat}(hh:((2*h+1:Nat):Int) < d.signs){T:List bV}(j:Nat):∀(k:Nat),k≤d.next.length→
  (hs ((List.range k).foldl (Bj d h T) (List.replicate d.next.length .no)) j=true↔∃i,i < 3*k∧hs T i=true∧Aa d i h j)
 | 0,_=>by simp[Zub]
 | k+1,hk=>by
  rw[List.range_succ,List.foldl_append,List.foldl_cons,List.foldl_nil,Zpr R hh (by rw[Xf];simp) (by omega),ZmA R hh j k (by omega)];constructor
  ·rintro(⟨i,h1,h2,h3⟩ | ⟨ph,h1,h2,h3⟩)
   ·exact⟨i,by omega,h2,h3⟩
   ·exact⟨3*k+ph,by omega,h2,h3⟩
  ·rintro⟨i,h1,h2,h3⟩
   by_cases hik:i < 3*k
   ·exact .inl ⟨i,hik,h2,h3⟩
   ·exact .inr ⟨i - 3*k,by omega,by rw[show 3*k+(i - 3*k)=i by omega];exact h2,by rw[show 3*k+(i - 3*k)=i by omega];exact h3⟩
theorem ZmB{d:aD}(R:bD d){h:Nat}(hh:((2*h+1:Nat):Int) < d.signs)(T:List bV)(j:Nat):hs (FD d T h) j=true↔∃i,i < 3*d.next.length∧hs T i=true∧Aa d i h j:=
 ZmA R hh j d.next.length (Nat.le_refl _)
theorem Zs0{out x:List bV}(hl:x.length=out.length)(j:Nat):hs (Gu out x) j=(hs out j || hs x j):=by
 unfold hs Gu SK;simp only[List.getD_eq_getElem?_getD,List.getElem?_mapIdx];by_cases hj:j / 3 < out.length
 ·have hx:j / 3 < x.length:=by omega
  simp only[List.getElem?_eq_getElem hj,List.getElem?_eq_getElem hx,Option.map_some,Option.getD_some,if_pos hj];unfold bV.at orT;split<;>(try split)<;>rfl
 ·have hx:¬j / 3 < x.length:=by omega
  simp only[List.getElem?_eq_none (Nat.le_of_not_lt hj),List.getElem?_eq_none (Nat.le_of_not_lt hx),Option.map_none,Option.getD_none];unfold bV.at bV.no;split<;>(try split)<;>rfl
theorem ZiU{d:aD}(R:bD d){T:List bV}(hT:T.length=d.next.length)(j:Nat):∀(k:Nat),k≤(d.signs / 2).toNat→(hs (D8 d T k) j=true↔∃h:Nat,h < k∧∃i,i < 3*d.next.length∧hs T i=true∧Aa d i h j)
 | 0,_=>by simp[D8,Zub]
 | k+1,hk=>by
  rw[ZjR,Zs0 (by rw[ZhA,Zla,hT]),Bool.or_eq_true,ZiU R hT j k (by omega),ZmB R (by have:=R.s1;omega)];constructor
  ·rintro(⟨h,h1,h2⟩ | h2)
   ·exact⟨h,by omega,h2⟩
   ·exact⟨k,by omega,h2⟩
  ·rintro⟨h,h1,h2⟩
   by_cases hhk:h < k
   ·exact .inl ⟨h,hhk,h2⟩
   ·obtain rfl:h=k:=by omega
    exact .inr h2
theorem ZfO{d:aD}(R:bD d)(hev:d.signs % 2=0){i j:Nat}(hi:i < 3*d.next.length):(pg d).edge i j↔∃h:Nat,h < (d.signs / 2).toNat∧Aa d i h j:=by
 constructor
 ·rintro⟨row,r1,r2⟩
  rw[Jj hi] at r1;cases r1;obtain⟨a,ha,he⟩:=List.mem_iff_getElem.mp r2;have hg:(kY d i)[a]? = some (j:Int):=by rw[List.getElem?_eq_getElem ha,he]
  have hp:=I9 R (s:=i / 3) (ph:=i % 3) (by omega) (by omega) a;rw[show 3*(i / 3)+i % 3=i by omega,hg] at hp;split at hp
  ·rename_i hs
   exact⟨a / 2,by have:=R.s1;omega,a,rfl,hg⟩
  ·cases hp
 ·rintro⟨h,_,hs⟩
  exact(Qx R hi hs).2.1
theorem Zua{d:aD}(R:bD d)(hev:d.signs % 2=0){T:List bV}(hT:T.length=d.next.length)(j:Nat):hs (Y2 d T) j=true↔∃i,i < 3*d.next.length∧hs T i=true∧(pg d).edge i j:=by
 have h:=ZiU R hT j (d.signs / 2).toNat (Nat.le_refl _);rw[show Y2 d T=D8 d T (d.signs / 2).toNat from rfl,h];constructor
 ·rintro⟨h,h1,i,h2,h3,h4⟩
  exact⟨i,h2,h3,(ZfO R hev h2).mpr ⟨h,h1,h4⟩⟩
 ·rintro⟨i,h2,h3,h4⟩
  obtain⟨h,h1,h5⟩:=(ZfO R hev h2).mp h4;exact⟨h,h1,i,h2,h3,h5⟩
theorem Zpg{d:aD}(T:List bV):R6 d T=true↔∃i,i < 3*d.next.length∧hs T i=true∧(pg d).uG i=true:=by
 unfold R6;rw[List.any_eq_true];constructor
 ·rintro⟨i,h1,h2⟩
  simp only[List.mem_range] at h1;rw[Bool.and_eq_true] at h2;refine⟨3*i+2,by omega,by rw[(YN T i).2.2];exact h2.1,?_⟩;rw[Rp (by omega)];unfold tC;rw[show(3*i+2) % 3=2 by omega,show(3*i+2) / 3=i by omega,h2.2];rfl
 ·rintro⟨i,h1,h2,h3⟩
  rw[Rp h1] at h3;unfold tC at h3;simp only[Bool.and_eq_true,decide_eq_true_eq] at h3;refine⟨i / 3,by simp;omega,?_⟩;have:=(YN T (i / 3)).2.2;rw[show 3*(i / 3)+2=i by omega,h2] at this;rw[←this,h3.2];rfl
def Yd(d:aD)(far:List Int)(T:List bV):Prop:=∀i,i < 3*d.next.length→hs T i=true→rd far i < 0
theorem Yd.next{d:aD}(R:bD d)(hev:d.signs % 2=0){far:List Int}(fo:u6 (pg d) far){T:List bV}(hT:T.length=d.next.length)(h:Yd d far T):R6 d T=false∧Yd d far (Y2 d T):=by
 have hn:=yA d;refine⟨?_,?_⟩
 ·cases e:R6 d T with
  | false=>rfl
  | true=>
   obtain⟨i,h1,h2,h3⟩:=(Zpg T).mp e;have h4:=(fo.zero i (by omega)).mpr h3;have:=h i h1 h2;omega
 ·intro j h1 h2
  obtain⟨i,g1,g2,g3⟩:=(Zua R hev hT j).mp h2;have hi:=h i g1 g2;by_cases hc:0≤rd far j
  ·have:=(fo.Uf i j (by omega) (by omega) g3 hc).1;omega
  ·omega
theorem nJ.cl{P:Program}{f:FuncId}{args:List AV}{r:AV}{S:St}(h:aO P f args r)(hc:∀x∈args,aY x)(hr:aY r):nJ P f args S [] r:=
 ⟨args,h,rfl,fun j h1 _=>.closed _ (hc _ (List.getElem_mem h1)),.inr (.inl ⟨rfl,hr⟩)⟩
theorem ZpC{d:aD}(R:bD d):(jG d).length≤9000:=by
 unfold jG;split
 ·rw[Ik]
  have fo:=Ms (pg d);have:=fo.lt 0 (by have:=yA d;have:=R.n1;omega);have h2:=yA d;have h3:=R.n2;have:rd (yw d) 0 < (pg d).n:=this;omega
 ·simp
end Go.Rf
namespace Go.Rf
open Go.RowKit
attribute [local simp] l9 lT l6 mI mJ mM mK l7 mP mH mF dN gL fJ gJ ig fI gK iq gX gV gY eZ gQ gZ gP d9 eF gU iN iK iM iL iO gD fM fH dZ fQ fU fV fP fE iH iw gT iF iC iE iD iG iI iA gu fF fG fK gy dx dL fq iB iJ ex au bS dM dY bF bJ aG bf dU eY dQ fO gN gM iy gW bO dw dz eD eu fZ dR bC bZ dD dJ dF fu eB eX eP eU dW dh dS dP dO bB AV.solid S0 aj aH
def Vw(P58 Zt:FuncId):AC:= (sq [ro 4 (.mv (ci 0))] (.seq (.ny [rm 8 1,rk 9 P58 [(.t 8)],rm 5 9] none) (sq [rm 11 0,ro 12 (.iU (.t 11)),rF 13 5 12,rL 14 13,rm 15 5,ro 16 (.look .str (.v (.int .i64 0)) true (.t 14) (.t 15)),rm 10 16,ro 17 (.ext 0 (.t 10)),ro 18 (.ext 1 (.t 10)),rm 6 17,rm 7 18] (.seq (sq [rm 19 7,ro 20 (.un .not (.t 19))] (.cond (.t 20) (.seq (sq [rm 21 0,ro 22 (.iU (.t 21)),rF 23 6 22,rL 24 23,ro 25 (.len (.t 24)),rm 6 25] (sq [rm 26 6,rm 27 0,ro 28 (.iU (.t 27)),rF 29 4 28,rL 30 29,ro 31 (.bin .eql (.t 26) (.t 30))] (.cond (.t 31) (.ny [ro 32 (.build (.agg []) [] []),ro 33 (.Oj Zt (.t 32))] (some (.t 33))) .skip))) (sq [rm 34 0,ro 35 (.iU (.t 34)),rF 36 5 35,rL 37 36,rm 38 5,rm 39 6,rn (.BG .str (.t 37) (.t 38) (.t 39))] (.reg none [rm 40 0,rm 41 0,ro 42 (.iU (.t 41)),rF 43 6 42,rL 44 43,rm 45 1,ro 46 (.dn 1 1 (.sl true []) [(0,(.t 45))]),ro 47 (.app 1 24 (.t 44) (.t 46)),ro 48 (.iU (.t 40)),rF 49 6 48,rn (.store 1 (.t 49) (.t 47))]))) .skip)) (sq [rm 50 6,rm 4 50] .ret)))))
structure wY(S:St)(id km:Nat)(n:Net)(most:Int)(ss:List (List Int))(v:AV):Prop where
 g:S.g id=some (.arr 7 [.agg [aj n.signs,aX n.aB,aX n.follow,aA n.last,aj most,.mp km,v]])
 m:S.g km=some (.map (uj 0 ss))
 vec:Vec S.g v 1 (ss.map aA)
 ne:id≠km
 hv:∀i∈v.ids,i≠id∧i≠km
 lid:id < S.n
 vK:km < S.n
 lv:∀i∈v.ids,i < S.n
structure Uq(S S':St)(R:List Nat):Prop where
 n:S.n≤S'.n
 g:∀i,i < S.n→i∉R→S'.g i=S.g i
section
variable{g:Nat→Option aF}{km m aC:Nat}{ss:List (List Int)}{x:List Int}
theorem Xi(hg:g km=some (.map (uj 0 ss)))(hx:uX x)(hs:∀s∈ss,uX s) :
  (Bd .str (.v (.int .i64 0)) true (.mp km) (sJ (lg x))).run ⟨m,g⟩ aC=some (.aN [aj (if x∈ss then (ss.idxOf x:Int) else 0),.v (.bool (decide (x∈ss)))],⟨m,g⟩):=by
 have hk:=WY x ss 0;simp only[Bd,Eff.AJ,hg,Option.bind_some,if_pos hk,ZfV hx ss 0 hs];by_cases h:x∈ss
 ·simp[h,aj]
 ·simp[h,aj]
theorem ZpG(hg:g km=some (.map (uj 0 ss)))(hx:uX x)(hs:∀s∈ss,uX s)(hn:x∉ss) :
  (Cr .str (.mp km) (sJ (lg x)) (.v (.int .i64 ss.length))).run ⟨m,g⟩ aC=some (.junk,(St.mk m g).set km (some (.map (uj 0 (ss++[x]))))):=by
 have hk:=WY x ss 0;have h:=Zjt hx ss 0 hs hn;rw[Nat.zero_add] at h;have h':o9 (sJ (lg x)) (.v (.int .i64 ss.length)) (uj 0 ss)=uj 0 (ss++[x]):=h;simp only[Cr,Eff.Ib,hg,Option.bind_some,if_pos hk,h',Option.map_some]
end
theorem ZhP{P:Program}{ft fT:FuncId}{id km:Nat}{n:Net}{most:Int}{ss:List (List Int)}{v:AV}{set:List Int}{S:St}(M:wY S id km n most ss v)(ht:aO P ft [aA set] (sJ (lg set)))
  (hx:uX set) (hs:∀s∈ss,uX s) (hlen:(ss.length:Int)≤most) (abI:most≤3000) {K:AV→St→Prop} {X:Value→St→Prop}
  (hK1:set∈ss→∀m,S.n≤m→K (aj (ss.idxOf set)) ⟨m,S.g⟩)
  (hK2:set∉ss→(ss.length:Int) < most→∀S' v',wY S' id km n most (ss++[set]) v'→Uq S S' (id::km::v.ids)→(∀i∈v'.ids,S.n≤i)→K (aj ss.length) S')
  (hX:set∉ss→(ss.length:Int)=most→∀m,S.n≤m→X (.iface fT (.agg #[])) ⟨m,S.g⟩) :
  AW P (Vw ft fT) (Bt [.t 4] K X) (bU [.ptr id 0 0,aA set]) S:=by
 have hg:=M.g;have hm:=M.m;unfold Vw;simp[A9,uK,uI,BZ,BR];refine oW.Hg (aQ.pure ht (aL (aR _) aU) (.v _) ?_);by_cases hin:set∈ss
 ·simp[zL,uK,uI,yP,Xp,hg,Xi hm hx hs,Eff.AJ,Eff.rW,lu,hin,bR,bX,RV.ev,cO]
  exact hK1 hin _ (by omega)
 ·have hlv:=M.vec.len
  rw[List.length_map] at hlv;simp only[fu] at hlv;by_cases hfull:(ss.length:Int)=most
  ·have hbe:((ss.length:Int) == most)=true:=by simpa using hfull
   simp[A9,zL,Zr7,ZrN,uK,uI,yP,Du,Zl1,R8,Jk,wK,hg,Xi hm hx hs,Eff.AJ,Eff.rW,lu,hin,hlv,hbe,jw,jh];exact hX hin hfull _ (by omega)
  ·have hbe:((ss.length:Int) == most)=false:=by simpa using hfull
   have hne:=M.ne;have hce:(aA set).cells=[aA set]:=rfl;have hso:(aA set).solid=true:=rfl;simp only[AV.solid] at hso;have hat:(aA set).atom=true:=rfl;simp[zL,uK,uI,yP,hg,Xi hm hx hs,Eff.AJ,Eff.rW,lu,hin,hlv,hbe,ZpG hm hx hs hin,hne,hce,hso]
   have hvf:∀k:Nat,Vec (St.set ⟨k,S.g⟩ km (some (.map (uj 0 (ss++[set]))))).g v 1 (ss.map aA):=fun k=>M.vec.frame fun i hi=>by
    rw[aG,if_neg (M.hv i hi).2]
   rw[Vec.app (hvf _) (by intro z hz;obtain⟨s,_,rfl⟩:=List.mem_map.mp hz;rfl) rfl (by rw[List.length_map];unfold dV;omega)];have hid:id∉v.ids:=fun h=>(M.hv id h).1 rfl
   have hkm:km∉v.ids:=fun h=>(M.hv km h).2 rfl
   generalize hq:S.n+1+3+11+2+6+6+7=q;have ZJ:id≠q+7:=by have:=M.lid;omega
   simp[Xp,hg,Eff.Ib,Eff.rW,lu,bR,bX,RV.ev,cO,hne,nH id hid,sZ,ZJ];have hkq:km≠q+7:=by have:=M.vK;omega
   have hnk:km≠id:=fun e=>hne e.symm
   refine hK2 hin (by omega) _ (.own (q+7) 0 (ss.length+1)) ⟨?_,?_,?_,M.ne,?_,?_,?_,?_⟩ ⟨?_,?_⟩ ?_
   ·simp[aG,aj]
   ·simp[aG,hnk,hkq,nH km hkm]
   ·refine Vec.mk' (xs:=(ss++[set]).map aA) ?_ (by simp)
    have:q+7≠id:=fun e=>ZJ e.symm
    simp[aG,this]
   ·intro i hi
    simp only[AV.ids,List.mem_cons,List.not_mem_nil,or_false] at hi;subst hi;exact⟨fun e=>ZJ e.symm,fun e=>hkq e.symm⟩
   ·show id < q+11+2
    have:=M.lid;omega
   ·show km < q+11+2
    have:=M.vK;omega
   ·intro i hi
    simp only[AV.ids,List.mem_cons,List.not_mem_nil,or_false] at hi;subst hi;show q+7 < q+11+2
    omega
   ·show S.n≤q+11+2
    omega
   ·intro i hi hR
    simp only[List.mem_cons,not_or] at hR;have:i≠q+7:=by omega
    simp[aG,hR.1,hR.2.1,this,nH i hR.2.2]
   ·intro i hi
    simp only[AV.ids,List.mem_cons,List.not_mem_nil,or_false] at hi;omega
end Go.Rf
