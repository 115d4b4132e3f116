import Derived.Test.YtdmcjhnbmgmgoaaGreatDoorRfB11
import Derived.Test.YtdmcjhnbmgmgoaaGreatDoorProg
import Derived.Ground.NamesProg
import Derived.Ground.Names2Prog
import Derived.Shelf.Sort.Plain
import Derived.Shelf.Slices.CompactI
import Derived.Shelf.Strings.BuilderK
import Derived.Shelf.Strconv.Itoa3
import Derived.Shelf.LaysM
import Derived.Lib.AppendIntMem
import Derived.KernelRfl
set_option linter.unusedVariables false
set_option linter.unusedSimpArgs false
set_option linter.unusedSectionVars false
namespace Go.Rf
attribute [local simp] kZ kN kW lH lK lI lM kY lN lG lF dO iA fI gI ig fH gJ iq gX gT gY eY gN gZ gM eB eD gQ iJ iG iI iH iK fV fK fG dY fZ gu gy fO fP iL iw gP iE iB iD iC iF iM gV fQ fE fF fJ fU dx dL eZ gW iN ex au cu dM dX bM bU aG bB dV eX dR fM gL gK iy gU bL dw dz dZ d9 gD dS bA bW dA dJ dD fq eu eU eO eT dW dn dU dQ dP bq AV.solid S0 aj aH
def V6:AC:= (.block 6 (.loop (sq [ro 66 (.bin .lss (.t 65) (.t 64))] (.seq (.cond (.t 66) .skip (.exit 6)) (.seq (.block 7 (sq [ro 67 (.aI 1 (.t 63) (.t 65)),rL 68 67,rm 14 68] (sq [rm 69 14,ro 70 (.bin .neq (.t 69) (ci (-1))),rm 71 70,rg 72 71 true (.mv (.t 6)),rg 73 71 true (.mv (.t 14)),rg 74 71 true (.aI 1 (.t 72) (.t 73)),rg 75 71 true (.load none (.t 74)),rg 76 71 true (.mv (.t 8)),rg 77 71 true (.bin .eql (.t 75) (.t 76)),ro 78 (.pick (.t 71) (.t 77) (.c (.v (.bool false))))] (.cond (.t 78) (.reg none [rm 79 10,rm 80 14,ro 81 (.cO 1 1 (.v (.int .i64 0)) [(0,(.t 80))]),ro 82 (.app 1 8 (.t 79) (.t 81)),rm 10 82]) .skip)))) (.reg none [ro 83 (.bin .add (.t 65) (ci 1)),rm 65 83]))))))
def Xj:AC:= (.block 4 (.loop (sq [ro 50 (.bin .lss (.t 49) (.t 48))] (.seq (.cond (.t 50) .skip (.exit 4)) (.seq (.block 5 (sq [ro 51 (.aI 1 (.t 47) (.t 49)),rL 52 51,rm 12 52] (sq [rF 53 0 5,rL 54 53,rm 55 12,ro 56 (.aI 1 (.t 54) (.t 55)),rL 57 56,rm 58 9,ro 59 (.bin .mul (ci 2) (.t 58)),rm 60 9,ro 61 (.bin .mul (ci 2) (.t 60)),ro 62 (.bin .add (.t 61) (ci 2)),ro 63 (.slc 1 (.t 57) (some (.t 59)) (some (.t 62))),ro 64 (.len (.t 63)),ro 65 (.mv (ci 0))] V6))) (.reg none [ro 84 (.bin .add (.t 49) (ci 1)),rm 49 84]))))))
def Iz(zo zn:FuncId):AC:= (sq [rm 85 10,ro 86 (.len (.t 85)),ro 87 (.bin .gtr (.t 86) (ci 0))] (.cond (.t 87) (sq [rm 88 10,rk 89 zo [(.t 88)]] (sq [rm 90 10,rk 91 zn [(.t 90)],rm 7 91] (sq [rm 92 2,rm 93 9,ro 94 (.cO 1 1 (.v (.int .i64 0)) [(0,(.t 93))]),ro 95 (.app 1 8 (.t 92) (.t 94)),rm 2 95] (.exit 1)))) .skip))
def V4(zo zn:FuncId):AC:= (.block 2 (.loop (sq [ro 45 (.bin .lss (.t 44) (.t 43))] (.seq (.cond (.t 45) .skip (.exit 2)) (.seq (.block 3 (sq [rm 46 44,rm 9 46] (sq [ro 10 (.mv (.c (.sl true [])))] (.seq (sq [rm 47 7,ro 48 (.len (.t 47)),ro 49 (.mv (ci 0))] Xj) (Iz zo zn))))) (.reg none [ro 96 (.bin .add (.t 44) (ci 1)),rm 44 96]))))))
def V5(zo zn:FuncId):AC:= (.block 0 (.loop (.seq (sq [rm 37 8,ro 38 (.bin .geq (.t 37) (ci 0))] (.cond (.t 38) .skip (.exit 0))) (.seq (.block 1 (sq [rF 41 0 1,rL 42 41,ro 43 (.bin .quo (.t 42) (ci 2)),ro 44 (.mv (ci 0))] (V4 zo zn))) (.reg none [rm 39 8,ro 40 (.bin .sub (.t 39) (ci 1)),rm 8 40])))))
def Zd3(EK EI:FuncId):AC:= (.block 8 (.loop (.seq (.seq (.reg (some []) [ro 97 (.load (some 3) (.t 1)),rm 98 2,rm 99 3,rk 100 EK [(.t 98),(.t 99)],rk 101 EI [(.t 97),(.t 100)],ro 102 (.un .not (.t 101))]) (.cond (.t 102) .skip (.exit 8))) (.seq (.block 9 .skip) (.reg none [rm 103 3,ro 104 (.bin .add (.t 103) (ci 1)),rm 3 104])))))
def Wz(EK EI:FuncId):AC:= (.seq (sq [ro 3 (.mv (ci 1))] (Zd3 EK EI)) (sq [rm 105 2,rm 106 3,rm 2 105,rm 3 106,ro 4 (.mv (.c (.v (.bool true))))] .ret))
def EU(Dj P4I P4b zo zn EK EI:FuncId):AC:= (sq [ro 1 (.box 3 (.t 0)),ro 2 (.mv (.c (.sl true []))),ro 3 (.mv (ci 0)),ro 4 (.mv (.c (.v (.bool false))))] (.scp (.seq (sq [ro 15 (.load (some 3) (.t 1)),rk 16 Dj [(.t 15)],ro 17 (.un .not (.t 16)),rm 18 17,rg 19 18 false (.cZ 0 (.t 1)),rg 20 18 false (.load none (.t 19)),rg 21 18 false (.bin .and (.t 20) (ci 1)),rg 22 18 false (.bin .eql (.t 21) (ci 1)),ro 23 (.pick (.t 18) (.c (.v (.bool true))) (.t 22))] (.cond (.t 23) (sq [ro 2 (.mv (.c (.sl true []))),ro 3 (.mv (ci 0)),ro 4 (.mv (.c (.v (.bool false))))] .ret) .skip)) (sq [ro 24 (.load (some 3) (.t 1)),rk 25 P4I [(.t 24)],ro 5 (.alloc (.agg [(.sl true []),(.sl true [])]) 2),rn (.store 2 (.t 5) (.t 25))] (sq [ro 26 (.load (some 2) (.t 5)),rk 27 P4b [(.t 26)],rm 6 27] (.seq (sq [rm 28 6,ro 29 (.aI 1 (.t 28) (ci 0)),rL 30 29,ro 31 (.bin .eql (.t 30) (ci (-1)))] (.cond (.t 31) (sq [ro 2 (.mv (.c (.sl true []))),ro 3 (.mv (ci 0)),ro 4 (.mv (.c (.v (.bool false))))] .ret) .skip)) (sq [ro 32 (.cO 1 1 (.v (.int .i64 0)) [(0,(ci 0))]),rm 7 32] (.seq .skip (.seq (sq [rm 33 6,ro 34 (.aI 1 (.t 33) (ci 0)),rL 35 34,ro 36 (.bin .sub (.t 35) (ci 1)),rm 8 36] (V5 zo zn)) (Wz EK EI))))))))))
def G9(g:Nat→Option aF)(v:AV)(l:List Int):Prop:=v=.sl true (l.map aj)∨∃id off ys,v=.own id off l.length∧g id=some (.arr 1 ys)∧off+l.length=ys.length∧ys.drop off=l.map aj
theorem G9.frame{g g':Nat→Option aF}{v:AV}{l:List Int}(h:G9 g v l)(hs:∀i∈v.ids,g' i=g i):G9 g' v l:=by
 rcases h with h | ⟨id,off,ys,rfl,h1,h2,h3⟩
 ·exact .inl h
 ·exact .inr ⟨id,off,ys,rfl,by rw[hs id (by simp[AV.ids])];exact h1,h2,h3⟩
structure Dc(d:aD)(far:List Int)(left:Int)(half:Nat)(hn:Nat)(v2 va:AV)(f:AF):Prop where
 e1:f 1=.ptr 0 0 0
 e2:f 2=v2
 e5:f 5=.ptr 15 0 0
 e6:f 6=aA far
 e7:f 7=va
 e8:f 8=aj left
 e9:f 9=aj half
 e43:f 43=aj hn
 e44:f 44=aj half
structure Hf(nB:Nat)(gB:Nat→Option aF)(to:List Int)(f:AF)(S:St):Prop where
 go:∀k,k < nB→S.g k=gB k
 n:nB≤S.n
 v:Vec S.g (f 10) 1 (to.map aj)
 ids:∀i∈(f 10).ids,nB≤i∧i < S.n
def vI(far:List Int)(left:Int)(t:Int):Bool:=(t != -1) && (rd far t.toNat == left)
def Zl(d:aD)(far:List Int)(left:Int)(half hn:Nat)(v2 va:AV)(nB:Nat)(gB:Nat→Option aF)(Bu pair:List Int)(CZ:AV)(CV j:Nat)(m:Nat)(f:AF)(S:St):Prop:=
 ∃k t,k≤pair.length∧m=pair.length - k∧f 65=aj k∧f 64=aj pair.length∧f 63=.sl t (pair.map aj)∧f 47=CZ∧f 48=aj CV∧f 49=aj j∧Dc d far left half hn v2 va f∧Hf nB gB (Bu++(pair.take k).filter (vI far left)) f S
theorem Zm6{P:Program}{d:aD}{far:List Int}{left:Int}{half hn:Nat}{v2 va:AV}{nB:Nat}{gB:Nat→Option aF}{Bu pair:List Int}{CZ:AV}{CV j:Nat}(hp:pair.length≤2)(hin:∀t∈pair,-1≤t∧t < far.length)(hto:Bu.length≤1000000){f:AF}{S:St}{Q:Exit→AF→St→Prop}
  (h0:Zl d far left half hn v2 va nB gB Bu pair CZ CV j pair.length f S)
  (hq:∀f' S',f' 47=CZ→f' 48=aj CV→f' 49=aj j→Dc d far left half hn v2 va f'→Hf nB gB (Bu++pair.filter (vI far left)) f' S'→Q .normal f' S'):AW P V6 Q f S:=by
 simp[V6];refine vT (Zl d far left half hn v2 va nB gB Bu pair CZ CV j) pair.length h0 ?_;rintro m f S ⟨k,t,hk,rfl,e65,e64,e63,e47,e48,e49,ff,hf⟩;by_cases hlt:k < pair.length
 ·have Ej:(k:Int) < pair.length:=by omega
  have SI:pair[k]? = some pair[k]:=List.getElem?_eq_getElem hlt;obtain⟨i1,i2⟩:=hin _ (List.getElem_mem hlt);have w1:IntKind.i64.wrap ((k:Int)+1)=(k:Int)+1:=bI _ (by omega)
  have htake:(pair.take (k+1)).filter (vI far left)=(pair.take k).filter (vI far left)++(if vI far left pair[k]=true then [pair[k]] else []):=by
   rw[List.take_add_one,SI,List.filter_append];simp only[Option.toList_some,List.filter_cons,List.filter_nil]
  have fin:∀(f2:AF) (S2:St),f2 65=aj ((k:Int)+1)→f2 64=aj pair.length→f2 63=.sl t (pair.map aj)→f2 47=CZ→f2 48=aj CV→f2 49=aj j→Dc d far left half hn v2 va f2→
    Hf nB gB (Bu++((pair.take k).filter (vI far left)++(if vI far left pair[k]=true then [pair[k]] else []))) f2 S2→zN (Zl d far left half hn v2 va nB gB Bu pair CZ CV j) (pair.length - k) f2 S2:=by
   intro f2 S2 a65 a64 a63 a47 a48 a49 af ah;exact⟨pair.length - (k+1),by omega,k+1,t,by omega,rfl,by rw[a65];simp[aj],a64,a63,a47,a48,a49,af,by rw[htake];exact ah⟩
  by_cases hno:pair[k] = -1
  ·have hb:(pair[k] != -1)=false:=by simp[hno]
   have hok:vI far left pair[k]=false:=by unfold vI;rw[hb];rfl
   rw[hok] at fin;simp[e65,e64,e63,Ej,SI,hb,w1];refine fin _ _ ?_ ?_ ?_ ?_ ?_ ?_ ⟨?_,?_,?_,?_,?_,?_,?_,?_,?_⟩ ?_
   ·simp[au,aj]
   ·simp[au,e64,aj]
   ·simp[au,e63]
   ·simp[au,e47]
   ·simp[au,e48]
   ·simp[au,e49]
   ·simp[au,ff.e1]
   ·simp[au,ff.e2]
   ·simp[au,ff.e5]
   ·simp[au,ff.e6,aA]
   ·simp[au,ff.e7]
   ·simp[au,ff.e8]
   ·simp[au,ff.e9]
   ·simp[au,ff.e43]
   ·simp[au,ff.e44]
   ·obtain⟨go,n,v,ids⟩:=hf
    refine⟨go,by simp<;>omega,by simpa[au] using v,fun i hi=>?_⟩;have:=ids i (by simpa[au] using hi);simp;omega
  ·have hb:(pair[k] != -1)=true:=by simp[hno]
   have h0t:0≤pair[k]:=by omega
   have Nw:(pair[k]).toNat < far.length:=by omega
   have hgt:far[(pair[k]).toNat]? = some far[(pair[k]).toNat]:=List.getElem?_eq_getElem Nw;have hrt:=Jk Nw;by_cases hl:far[(pair[k]).toNat]=left
   ·have hlb:(far[(pair[k]).toNat] == left)=true:=by simp[hl]
    have hok:vI far left pair[k]=true:=by unfold vI;rw[hb,←hrt,hlb];rfl
    rw[hok] at fin
    have happ:=fun(n aC:Nat)=>Vec.app (n:=n) (aC:=aC) (x:=.v (.int .i64 pair[k])) (aB:=8) hf.v (BQ _) (by simp[AV.cells]) (FD (by
     rw[List.length_map,List.length_append];have:=List.length_filter_le (vI far left) (pair.take k);simp at this;omega))
    have hnB:=hf.n;simp[e65,e64,e63,ff.e6,ff.e8,Ej,SI,hb,aA,h0t,i2,hlb];rw[happ];simp[e65,w1];refine fin _ _ ?_ ?_ ?_ ?_ ?_ ?_ ⟨?_,?_,?_,?_,?_,?_,?_,?_,?_⟩ ?_
    ·simp[au,aj]
    ·simp[au,e64,aj]
    ·simp[au,e63]
    ·simp[au,e47]
    ·simp[au,e48]
    ·simp[au,e49]
    ·simp[au,ff.e1]
    ·simp[au,ff.e2]
    ·simp[au,ff.e5]
    ·simp[au,ff.e6,aA]
    ·simp[au,ff.e7]
    ·simp[au,ff.e8]
    ·simp[au,ff.e9]
    ·simp[au,ff.e43]
    ·simp[au,ff.e44]
    ·refine⟨fun k hk=>?_,by simp[sU]<;>omega,?_,fun i hi=>?_⟩
     ·simp only[aG]
      rw[if_neg (by omega),mU k (fun h6=>by have:=(hf.ids k h6).1;omega)];exact hf.go k hk
     ·simp only[au]
      simp only[Nat.reduceEqDiff,if_false,if_true];refine .mk' (by simp[aG,aj]) (by simp;omega)
     ·simp[au,AV.ids] at hi
      subst hi;simp[sU];omega
   ·have hlb:(far[(pair[k]).toNat] == left)=false:=by simp[hl]
    have hok:vI far left pair[k]=false:=by unfold vI;rw[hb,←hrt,hlb];rfl
    rw[hok] at fin;simp[e65,e64,e63,ff.e6,ff.e8,Ej,SI,hb,w1,aA,h0t,i2,hlb];refine fin _ _ ?_ ?_ ?_ ?_ ?_ ?_ ⟨?_,?_,?_,?_,?_,?_,?_,?_,?_⟩ ?_
    ·simp[au,aj]
    ·simp[au,e64,aj]
    ·simp[au,e63]
    ·simp[au,e47]
    ·simp[au,e48]
    ·simp[au,e49]
    ·simp[au,ff.e1]
    ·simp[au,ff.e2]
    ·simp[au,ff.e5]
    ·simp[au,ff.e6,aA]
    ·simp[au,ff.e7]
    ·simp[au,ff.e8]
    ·simp[au,ff.e9]
    ·simp[au,ff.e43]
    ·simp[au,ff.e44]
    ·obtain⟨go,n,v,ids⟩:=hf
     refine⟨go,by simp<;>omega,by simpa[au] using v,fun i hi=>?_⟩;have:=ids i (by simpa[au] using hi);simp;omega
 ·have:k=pair.length:=by omega
  subst this;simp[e65,e64];obtain⟨go,n,v,ids⟩:=hf;rw[List.take_length] at v
  refine hq _ _ (by simp[au,e47]) (by simp[au,e48]) (by simp[au,e49]) ⟨by simp[au,ff.e1],by simp[au,ff.e2],by simp[au,ff.e5],by simp[au,ff.e6],by simp[au,ff.e7],by simp[au,ff.e8],by simp[au,ff.e9],by simp[au,ff.e43],by simp[au,ff.e44]⟩
   ⟨go,by simp;omega,by simpa[au] using v,fun i hi=>by
    have:=ids i (by simpa[au] using hi);simp;omega⟩
def Tp(d:aD)(far:List Int)(left:Int)(half hn:Nat)(v2 va:AV)(nB:Nat)(gB:Nat→Option aF)(at_:List Int)(m:Nat)(f:AF)(S:St):Prop:=
 ∃j,j≤at_.length∧m=at_.length - j∧f 47=va∧f 48=aj at_.length∧f 49=aj j∧Dc d far left half hn v2 va f∧Hf nB gB (lU d far (at_.take j) half left) f S
theorem VI(d:aD)(far:List Int)(h:Nat)(left:Int):∀at_:List Int,(lU d far at_ h left).length≤2*at_.length
 | []=>by simp[lU]
 | x::l=>by
  have ih:=VI d far h left l;have h1:=List.length_filter_le (fun t=>(t != -1) && (rd far t.toNat == left)) (((jN d x.toNat).drop (2*h)).take 2);simp only[lU,List.flatMap_cons,List.length_append,List.length_cons] at ih ⊢;simp at h1;omega
theorem Ztg{P:Program}{d:aD}(R:bD d){sg:Nat}(hsg:d.signs=sg){far:List Int}(hfl:far.length=3*d.next.length){left:Int}{half hn:Nat}(hh:half < hn)(hhn:2*hn≤sg){v2 va:AV}{nB:Nat}{gB:Nat→Option aF}{at_:List Int}
  (hat:∀x∈at_,0≤x∧x < 3*d.next.length) (hal:at_.length≤100000) (hva:G9 gB va at_) (Aj:∀i∈va.ids,i < nB) (g15:gB 15=some (.arr 2 [xC (pg d)])) (h15:15 < nB) {f:AF} {S:St} {Q:Exit→AF→St→Prop}
  (h0:Tp d far left half hn v2 va nB gB at_ at_.length f S) (hq:∀f' S',Dc d far left half hn v2 va f'→Hf nB gB (lU d far at_ half left) f' S'→Q .normal f' S'):AW P Xj Q f S:=by
 have hs2:=R.s2;simp[Xj];refine vT (Tp d far left half hn v2 va nB gB at_) at_.length h0 ?_
 rintro m f S ⟨j,hj,rfl,e47,e48,e49,ff,hf⟩;by_cases hlt:j < at_.length
 ·have hjI:(j:Int) < at_.length:=by omega
  have hga:at_[j]? = some at_[j]:=List.getElem?_eq_getElem hlt
  obtain⟨x0,x1⟩:=hat _ (List.getElem_mem hlt);have hgx:(pg d).next[(at_[j]).toNat]? = some (jN d (at_[j]).toNat):=Jh (by omega)
  have hrl:(jN d (at_[j]).toNat).length=sg:=by
   have e:(at_[j]).toNat=3*((at_[j]).toNat / 3)+(at_[j]).toNat % 3:=by omega
   rw[e];exact Lm R hsg (by omega) (by omega)
  have GQ:G9 S.g va at_:=hva.frame (fun i hi=>hf.go i (Aj i hi))
  have aa9:S.g 15=some (.arr 2 [.agg [.sl false ((pg d).next.map aA),iY (pg d).fin]]):=by rw[hf.go 15 h15];exact g15
  have w1:IntKind.i64.wrap (2*(half:Int))=2*(half:Int):=bI _ (by omega);have w2:IntKind.i64.wrap (2*(half:Int)+2)=2*(half:Int)+2:=bI _ (by omega);have w3:IntKind.i64.wrap ((j:Int)+1)=(j:Int)+1:=bI _ (by omega);have n1:(2*(half:Int)).toNat=2*half:=by omega
  have n2:(2*(half:Int)+2).toNat=2*half+2:=by omega
  have n3:(0:Int)≤2*(half:Int):=by omega
  have n4:(0:Int)≤2*(half:Int)+2:=by omega
  have n5:2*half+2≤sg:=by omega
  have hpl:(((jN d (at_[j]).toNat).drop (2*half)).take 2).length=2:=by simp;omega
  have hpe:List.drop (2*half) (List.take (2*half+2) (List.map aj (jN d (at_[j]).toNat)))=(((jN d (at_[j]).toNat).drop (2*half)).take 2).map aj:=by
   rw[List.drop_take,←List.map_drop,←List.map_take];congr 2;omega
  have aai:∀t∈((jN d (at_[j]).toNat).drop (2*half)).take 2,-1≤t∧t < far.length:=by
   intro t ht;have hm:=List.mem_of_mem_drop (List.mem_of_mem_take ht);have hl:(pg d).next.length=3*d.next.length:=by simp[pg]
   rcases(Sg R).at_ _ (List.mem_of_getElem? hgx) t hm with h1 | h1<;>omega
  have hto:(lU d far (at_.take j) half left).length≤1000000:=by
   have:=VI d far half left (at_.take j);simp at this;omega
  have htk:lU d far (at_.take (j+1)) half left=lU d far (at_.take j) half left++(((jN d (at_[j]).toNat).drop (2*half)).take 2).filter (vI far left):=by
   rw[List.take_add_one,hga];simp only[Option.toList_some,lU,List.flatMap_append,List.flatMap_cons,List.flatMap_nil,List.append_nil];rfl
  have hfr:Hf nB gB (lU d far (at_.take j) half left++((((jN d (at_[j]).toNat).drop (2*half)).take 2).take 0).filter (vI far left)) f S:=by simpa using hf
  have fin:∀(f':AF) (S':St),f' 47=va→f' 48=aj at_.length→f' 49=aj j→Dc d far left half hn v2 va f'→Hf nB gB (lU d far (at_.take j) half left++(((jN d (at_[j]).toNat).drop (2*half)).take 2).filter (vI far left)) f' S'→
    l7 5 (jE (AW P (.reg none [⟨(some 84),.bin .add (.t 49) (ci 1),none,none⟩,⟨(some 49),.mv (.t 84),none,none⟩]) (jE (zN (Tp d far left half hn v2 va nB gB at_) (at_.length - j)) (l7 4 Q))) (jE (zN (Tp d far left half hn v2 va nB gB at_) (at_.length - j)) (l7 4 Q))) .normal f' S':=by
   intro f' S' k47 k48 k49 kf kh;simp[k49,w3];obtain⟨go,n,v,ids⟩:=kh;refine⟨at_.length - (j+1),by omega,j+1,by omega,rfl,?_,?_,?_,⟨?_,?_,?_,?_,?_,?_,?_,?_,?_⟩,⟨go,by simp<;>omega,?_,fun i hi=>?_⟩⟩
   ·simp[au,k47]
   ·simp[au,k48]
   ·simp[au,aj]
   ·simp[au,kf.e1]
   ·simp[au,kf.e2]
   ·simp[au,kf.e5]
   ·simp[au,kf.e6]
   ·simp[au,kf.e7]
   ·simp[au,kf.e8]
   ·simp[au,kf.e9]
   ·simp[au,kf.e43]
   ·simp[au,kf.e44]
   ·rw[htk];simpa[au] using v
   ·have:=ids i (by simpa[au] using hi)
    simp;omega
  rcases GQ with GQ | ⟨id,off,ys,GQ,hgi,hoy,hdy⟩
  ·rw[GQ] at e47
   simp[e47,e48,e49,ff.e5,ff.e9,hjI,hga,aa9,x0,hgx,aA,w1,w2,n1,n2,n3,n4,n5,hrl,xD,bnd];refine Zm6 (Bu:=lU d far (at_.take j) half left) (pair:=((jN d (at_[j]).toNat).drop (2*half)).take 2) (CZ:=va) (CV:=at_.length) (j:=j) (Nat.le_of_eq hpl) aai hto ⟨0,false,by omega,by omega,?_,?_,?_,?_,?_,?_,⟨?_,?_,?_,?_,?_,?_,?_,?_,?_⟩,?_⟩ fin
   ·simp[au,aj]
   ·simp[au,hpl,aj]
   ·simp[au,hpe]
   ·simp[au,e47,GQ]
   ·simp[au,e48,aj]
   ·simp[au,e49,aj]
   ·simp[au,ff.e1]
   ·simp[au,ff.e2]
   ·simp[au,ff.e5]
   ·simp[au,ff.e6]
   ·simp[au,ff.e7]
   ·simp[au,ff.e8]
   ·simp[au,ff.e9]
   ·simp[au,ff.e43]
   ·simp[au,ff.e44]
   ·obtain⟨go,n,v,ids⟩:=hfr
    refine⟨go,by simp<;>omega,by simpa[au] using v,fun i hi=>?_⟩;have:=ids i (by simpa[au] using hi);simp;omega
  ·rw[GQ] at e47
   have abb:off+at_.length≤ys.length:=by omega
   have hgy:ys[off+j]? = some (.v (.int .i64 at_[j])):=by
    have:(ys.drop off)[j]? = some (aj at_[j]):=by rw[hdy];simp[hga]
    rwa[List.getElem?_drop] at this
   simp[e47,e48,e49,ff.e5,ff.e9,hjI,hgi,hgy,abb,aa9,x0,hgx,aA,w1,w2,n1,n2,n3,n4,n5,hrl,xD,bnd];refine Zm6 (Bu:=lU d far (at_.take j) half left) (pair:=((jN d (at_[j]).toNat).drop (2*half)).take 2) (CZ:=va) (CV:=at_.length) (j:=j) (Nat.le_of_eq hpl) aai hto ⟨0,false,by omega,by omega,?_,?_,?_,?_,?_,?_,⟨?_,?_,?_,?_,?_,?_,?_,?_,?_⟩,?_⟩ fin
   ·simp[au,aj]
   ·simp[au,hpl,aj]
   ·simp[au,hpe]
   ·simp[au,e47,GQ]
   ·simp[au,e48,aj]
   ·simp[au,e49,aj]
   ·simp[au,ff.e1]
   ·simp[au,ff.e2]
   ·simp[au,ff.e5]
   ·simp[au,ff.e6]
   ·simp[au,ff.e7]
   ·simp[au,ff.e8]
   ·simp[au,ff.e9]
   ·simp[au,ff.e43]
   ·simp[au,ff.e44]
   ·obtain⟨go,n,v,ids⟩:=hfr
    refine⟨go,by simp<;>omega,by simpa[au] using v,fun i hi=>?_⟩;have:=ids i (by simpa[au] using hi);simp;omega
 ·have:j=at_.length:=by omega
  subst this;rw[List.take_length] at hf;simp[e48,e49];obtain⟨go,n,v,ids⟩:=hf
  refine hq _ _ ⟨by simp[au,ff.e1],by simp[au,ff.e2],by simp[au,ff.e5],by simp[au,ff.e6],by simp[au,ff.e7],by simp[au,ff.e8],by simp[au,ff.e9],by simp[au,ff.e43],by simp[au,ff.e44]⟩
   ⟨go,by simp<;>omega,by simpa[au] using v,fun i hi=>by
    have:=ids i (by simpa[au] using hi);simp;omega⟩
structure zU(d:aD)(v2 va:AV)(iX at_:List Int)(N:Nat)(g:Nat→Option aF):Prop where
 g0:g 0=some (.arr 3 [aT d])
 g15:g 15=some (.arr 2 [xC (pg d)])
 n:16≤N
 v:Vec g v2 1 (iX.map aj)
 vi:∀i∈v2.ids,i < N∧i≠0∧i≠15
 a:G9 g va at_
 ai:∀i∈va.ids,i < N∧i≠0∧i≠15
 nL:∀i∈v2.ids,i∉va.ids
theorem zU.frame{d:aD}{v2 va:AV}{iX at_:List Int}{n n':Nat}{g g':Nat→Option aF}(h:zU d v2 va iX at_ n g)(hn:n≤n')(hg:∀k,k < n→g' k=g k):zU d v2 va iX at_ n' g':=by
 have:=h.n;exact⟨by rw[hg 0 (by omega)];exact h.g0,by rw[hg 15 (by omega)];exact h.g15,by omega,h.v.frame (fun i hi=>hg i (h.vi i hi).1),fun i hi=>⟨by have:=(h.vi i hi).1;omega,(h.vi i hi).2⟩,h.a.frame (fun i hi=>hg i (h.ai i hi).1),fun i hi=>⟨by have:=(h.ai i hi).1;omega,(h.ai i hi).2⟩,h.nL⟩
structure Hq(d:aD)(far:List Int)(left:Int)(v2 va:AV)(f:AF):Prop where
 e1:f 1=.ptr 0 0 0
 e2:f 2=v2
 e5:f 5=.ptr 15 0 0
 e6:f 6=aA far
 e7:f 7=va
 e8:f 8=aj left
def J8(d:aD)(far:List Int)(k hn:Nat)(v2 va:AV)(iX at_:List Int)(m:Nat)(f:AF)(S:St):Prop:=
 ∃h,h≤hn∧m=hn - h∧f 43=aj hn∧f 44=aj h∧Hq d far k v2 va f∧zU d v2 va iX at_ S.n S.g∧∀h',h' < h→lU d far at_ h' k=[]
theorem Zrg{P:Program}{fs fc:FuncId}(Hs:Co P fs)(Hc:Cn P fc){d:aD}{far:List Int}{k h hn nB:Nat}{gB:Nat→Option aF}{v2 va:AV}{iX at_ to:List Int}
  (hsl:iX.length≤100000) (htl:to.length≤1000000) {f:AF} {S:St} {Q:Exit→AF→St→Prop} (ff:Dc d far k h hn v2 va f) (sn:zU d v2 va iX at_ nB gB) (hf:Hf nB gB to f S)
  (hq0:to=[]→∀f' S',f' 43=aj hn→f' 44=aj h→Hq d far k v2 va f'→zU d v2 va iX at_ S'.n S'.g→Q .normal f' S')
  (hq1:to≠[]→∀f' S' CX CY,Hq d far k CX CY f'→zU d CX CY (iX++[(h:Int)]) (Lib.compact (to.mergeSort fun x y=>decide (x≤y))) S'.n S'.g→Q (.exit 1) f' S'):AW P (Iz fs fc) Q f S:=by
 obtain⟨go,hn1,v,ids⟩:=hf;have hsn:=sn.n;have Zo:zU d v2 va iX at_ S.n S.g:=sn.frame hn1 go
 rcases v with⟨e10,hnil⟩ | ⟨id,off,ys,e10,hg,ho,hd⟩
 ·have hnil':to=[]:=by simpa using hnil
  simp[Iz,e10];refine hq0 hnil' _ _ (by simp[au,ff.e43]) (by simp[au,ff.e44]) ⟨by simp[au,ff.e1],by simp[au,ff.e2],by simp[au,ff.e5],by simp[au,ff.e6],by simp[au,ff.e7],by simp[au,ff.e8]⟩ (Zo.frame (by simp) (fun _ _=>rfl))
 ·rw[List.length_map] at e10
  by_cases hnil':to=[]
  ·have hl0:to.length=0:=by rw[hnil'];rfl
   simp[Iz,e10,hl0];refine hq0 hnil' _ _ (by simp[au,ff.e43]) (by simp[au,ff.e44]) ⟨by simp[au,ff.e1],by simp[au,ff.e2],by simp[au,ff.e5],by simp[au,ff.e6],by simp[au,ff.e7],by simp[au,ff.e8]⟩ (Zo.frame (by simp) (fun _ _=>rfl))
  ·have hlp:(0:Int) < to.length:=by have:=List.length_pos_iff.mpr hnil';omega
   have hsl1:(to.mergeSort fun x y=>decide (x≤y)).length=to.length:=List.length_mergeSort _;have aaf:=ids id (by rw[e10];simp[AV.ids]);have hdl:decide (0 < to.length)=true:=decide_eq_true (List.length_pos_iff.mpr hnil');simp[Iz,e10,hdl];refine Hs _ id off ys to _ hg hd hnil' (Nat.le_trans htl (by decide)) ?_;simp[e10]
   have hd2:(ys.take off++(to.mergeSort fun x y=>decide (x≤y)).map aj).drop off=(to.mergeSort fun x y=>decide (x≤y)).map aj:=by
    rw[List.drop_append_of_le_length (by simp;omega)];simp
   have Zf:(to.mergeSort fun x y=>decide (x≤y))≠[]:=by
    intro e;rw[e] at hsl1;exact hnil' (List.eq_nil_of_length_eq_zero hsl1.symm)
   have hcall:=fun S K=>Hc S id off (ys.take off++(to.mergeSort fun x y=>decide (x≤y)).map aj) (to.mergeSort fun x y=>decide (x≤y)) K
   simp only[hsl1] at hcall;refine hcall _ _ ?_ hd2 Zf (Nat.le_trans htl (by decide)) ?_
   ·simp[aG]
   have aao:id∉v2.ids:=fun h6=>by have:=(sn.vi id h6).1;omega
   have hvv:Vec S.g v2 1 (iX.map aj):=Zo.v
   have htk:List.take off (List.take off ys++List.map aj (to.mergeSort fun x y=>decide (x≤y)))=List.take off ys:=by
    have hl:off≤(ys.take off).length:=by rw[List.length_take];omega
    rw[List.take_append_of_le_length hl,List.take_take,Nat.min_self]
   simp[ff.e2,ff.e9];rw[Vec.app (xs:=iX.map aj) (hvv.frame (fun j hj=>?_)) (BQ _) (by simp[AV.cells]) (FD (by rw[List.length_map];omega))]
   ·simp
    have hgo:∀(n1 n2 n3:Nat) (b1 b2 b3:Option aF) (j:Nat),j < nB→j∉v2.ids→((St.without ⟨n1,(St.set ⟨n2,(St.set ⟨n3,S.g⟩ id b1).g⟩ id b2).g⟩ v2).set (S.n+3+2+3+3) b3).g j=gB j:=by
     intro n1 n2 n3 b1 b2 b3 j hj hj2;rw[aG,if_neg (by omega),mU j hj2];simp only[aG];rw[if_neg (by omega),if_neg (by omega)];exact go j hj
    refine hq1 hnil' _ _ (.own (S.n+3+2+3+3) 0 (iX.length+1)) (.own id off (Lib.compact (to.mergeSort fun x y=>decide (x≤y))).length) ⟨?_,?_,?_,?_,?_,?_⟩ ⟨?_,?_,?_,?_,?_,?_,?_,?_⟩
    ·simp[au,ff.e1]
    ·simp[au]
    ·simp[au,ff.e5]
    ·simp[au,ff.e6]
    ·simp[au]
    ·simp[au,ff.e8]
    ·rw[hgo _ _ _ _ _ _ 0 (by omega) (fun h6=>(sn.vi 0 h6).2.1 rfl)];exact sn.g0
    ·rw[hgo _ _ _ _ _ _ 15 (by omega) (fun h6=>(sn.vi 15 h6).2.2 rfl)];exact sn.g15
    ·simp[bB,sU];omega
    ·exact .mk' (by simp[aG,aj]) (by simp)
    ·intro i hi
     simp only[AV.ids,List.mem_singleton] at hi;subst hi;simp[bB,sU];omega
    ·have hl:off≤(ys.take off).length:=by rw[List.length_take];omega
     refine .inr ⟨id,off,ys.take off++(Lib.compact (to.mergeSort fun x y=>decide (x≤y))).map aj,rfl,?_,?_,?_⟩
     ·rw[aG,if_neg (by omega),mU id aao,aG,if_pos rfl,htk]
     ·rw[List.length_append,List.length_map,List.length_take];omega
     ·rw[List.drop_append_of_le_length hl];simp
    ·intro i hi
     simp only[AV.ids,List.mem_singleton] at hi;subst hi;simp[bB,sU];omega
    ·intro i hi h6
     simp only[AV.ids,List.mem_singleton] at hi h6;omega
   ·simp only[aG]
    have hj2:j≠id:=fun e=>aao (e ▸ hj)
    rw[if_neg hj2,if_neg hj2]
theorem Zre{P:Program}{fs fc:FuncId}(Hs:Co P fs)(Hc:Cn P fc){d:aD}(R:bD d)(hev:d.signs % 2=0){sg hn:Nat}(hsg:d.signs=sg)(hhn:2*hn=sg){far:List Int}(fo:uW (pg d) far){k:Nat}{v2 va:AV}{iX at_:List Int}
  (hat:yM d far at_ (k+1)) (hal:at_.length≤100000) (hsl:iX.length≤100000) {f:AF} {S:St} {Q:Exit→AF→St→Prop} (h0:J8 d far k hn v2 va iX at_ hn f S)
  (hq:∀f' S' CX CY,Hq d far k CX CY f'→zU d CX CY (iX++[(uG d far at_ k:Int)]) (zJ d far at_ (uG d far at_ k) k) S'.n S'.g→Q (.exit 1) f' S'):AW P (V4 fs fc) Q f S:=by
 have hs2:=R.s2;have hfl:far.length=3*d.next.length:=by rw[fo.len,z8]
 obtain⟨b1,b2,b3⟩:=Qo R hev fo hat;have b1':uG d far at_ k < hn:=by omega
 simp[V4];refine vT (J8 d far k hn v2 va iX at_) hn h0 ?_;rintro m f S ⟨h,hh,rfl,e43,e44,gg,sn,hno⟩
 have hlt:h < hn:=by
  by_cases hc:h < hn
  ·exact hc
  ·exact(b2 (hno _ (by omega))).elim
 have GK:(h:Int) < hn:=by omega
 have w3:IntKind.i64.wrap ((h:Int)+1)=(h:Int)+1:=bI _ (by omega)
 have hlen:fq va=some (.v (.int .i64 at_.length)):=by
  rcases sn.a with e | ⟨id,off,ys,e,_⟩<;>rw[e]<;>simp[fq]
 have htl:(lU d far at_ h k).length≤1000000:=by have:=VI d far h k at_;omega
 have fin:∀(f':AF) (S':St),Dc d far k h hn v2 va f'→Hf (S.n+1+2+1+3) S.g (lU d far at_ h k) f' S'→jE (AW P (Iz fs fc) (l7 3 (jE (AW P (.reg none [⟨(some 96),.bin .add (.t 44) (ci 1),none,none⟩,⟨(some 44),.mv (.t 96),none,none⟩]) (jE (zN (J8 d far k hn v2 va iX at_) (hn - h)) (l7 2 Q))) (jE (zN (J8 d far k hn v2 va iX at_) (hn - h)) (l7 2 Q)))))
   (l7 3 (jE (AW P (.reg none [⟨(some 96),.bin .add (.t 44) (ci 1),none,none⟩,⟨(some 44),.mv (.t 96),none,none⟩]) (jE (zN (J8 d far k hn v2 va iX at_) (hn - h)) (l7 2 Q))) (jE (zN (J8 d far k hn v2 va iX at_) (hn - h)) (l7 2 Q)))) .normal f' S':=by
  intro f' S' kf kh;simp only[dO];refine Zrg Hs Hc hsl htl kf (sn.frame (by omega) (fun _ _=>rfl)) kh (fun hnil f2 S2 k43 k44 kg ks=>?_) (fun hne f2 S2 CX CY kg ks=>?_)
  ·simp[k44,w3]
   refine⟨hn - (h+1),by omega,h+1,by omega,rfl,?_,?_,⟨?_,?_,?_,?_,?_,?_⟩,ks.frame (by simp) (fun _ _=>rfl),fun h' hh'=>?_⟩
   ·simp[au,k43]
   ·simp[au,aj]
   ·simp[au,kg.e1]
   ·simp[au,kg.e2]
   ·simp[au,kg.e5]
   ·simp[au,kg.e6]
   ·simp[au,kg.e7]
   ·simp[au,kg.e8]
   ·by_cases e:h'=h
    ·subst e;exact hnil
    ·exact hno h' (by omega)
  ·have he:uG d far at_ k=h:=by
    by_cases hc:uG d far at_ k < h
    ·exact(b2 (hno _ hc)).elim
    ·by_cases hc2:h < uG d far at_ k
     ·exact(hne (b3 h hc2)).elim
     ·omega
   simp[fH,fI];have:=hq f2 S2 CX CY kg;rw[he] at this;exact this ks
 have aa8:Hf (S.n+1+2+1+3) S.g (lU d far (at_.take 0) h k) (fun _=>.sl true []) ⟨S.n+1+2+1+3,S.g⟩:=⟨fun _ _=>rfl,Nat.le_refl _,by simp[lU];exact .nil,by simp[AV.ids]⟩;rcases sn.a with ea | ⟨id,off,ys,ea,_⟩
 ·have e7:=gg.e7.trans ea
  simp[e43,e44,e7,GK];refine Ztg R hsg hfl hlt (Nat.le_of_eq hhn) hat.rng hal sn.a (fun i hi=>by have:=(sn.ai i hi).1;omega) sn.g15 (by have:=sn.n;omega) (nB:=S.n+1+2+1+3) (v2:=v2) ⟨0,by omega,by omega,?_,?_,?_,⟨?_,?_,?_,?_,?_,?_,?_,?_,?_⟩,?_⟩ fin
  ·simp[au,ea]
  ·simp[au,aj]
  ·simp[au,aj]
  ·simp[au,gg.e1]
  ·simp[au,gg.e2]
  ·simp[au,gg.e5]
  ·simp[au,gg.e6]
  ·simp[au,gg.e7]
  ·simp[au,gg.e8]
  ·simp[au,aj]
  ·simp[au,e43]
  ·simp[au,e44]
  ·obtain⟨q1,q2,q3,q4⟩:=aa8
   exact⟨q1,q2,by simpa[au] using q3,by simp[au,AV.ids]⟩
 ·have e7:=gg.e7.trans ea
  simp[e43,e44,e7,GK];refine Ztg R hsg hfl hlt (Nat.le_of_eq hhn) hat.rng hal sn.a (fun i hi=>by have:=(sn.ai i hi).1;omega) sn.g15 (by have:=sn.n;omega) (nB:=S.n+1+2+1+3) (v2:=v2) ⟨0,by omega,by omega,?_,?_,?_,⟨?_,?_,?_,?_,?_,?_,?_,?_,?_⟩,?_⟩ fin
  ·simp[au,ea]
  ·simp[au,aj]
  ·simp[au,aj]
  ·simp[au,gg.e1]
  ·simp[au,gg.e2]
  ·simp[au,gg.e5]
  ·simp[au,gg.e6]
  ·simp[au,gg.e7]
  ·simp[au,gg.e8]
  ·simp[au,aj]
  ·simp[au,e43]
  ·simp[au,e44]
  ·obtain⟨q1,q2,q3,q4⟩:=aa8
   exact⟨q1,q2,by simpa[au] using q3,by simp[au,AV.ids]⟩
theorem Zii:∀(l:List Int) (a b:Int),l.Pairwise (· < ·)→(∀x∈l,a≤x∧x < b)→a≤b→(l.length:Int)≤b - a
 | [],a,b,_,_,h=>by simp;omega
 | x::l,a,b,hp,hb,h=>by
  have h1:=List.pairwise_cons.mp hp;have hx:=hb x (by simp);have:=Zii l (x+1) b h1.2 (fun y hy=>⟨by have:=h1.1 y hy;omega,(hb y (by simp[hy])).2⟩) (by omega);simp;omega
theorem Zfd{zs:List Int}(hs:zs.Pairwise (·≤·)):(Lib.compact zs).Pairwise (· < ·):=by
 have hget:∀j (hj:j < zs.length),zs.toArray[j]! = zs[j]:=fun j hj=>by simp[hj]
 simp only[Lib.compact,Lib.compactUpTo,List.pairwise_map];refine List.Pairwise.imp_of_mem (R:=(· < ·)) (fun {a b} ha hb hab=>?_) (List.Pairwise.filter _ List.pairwise_lt_range);simp only[List.mem_filter,List.mem_range] at ha hb;obtain⟨hb1,hb2⟩:=hb;have hk:b=0∨zs.toArray[b]!≠zs.toArray[b - 1]!:=by simpa[Lib.keeps] using hb2
 have hk':zs.toArray[b]!≠zs.toArray[b - 1]!:=by
  rcases hk with h | h
  ·omega
  ·exact h
 rw[hget b hb1,hget (b - 1) (by omega)] at hk';rw[hget a ha.1,hget b hb1];have hpw:=List.pairwise_iff_getElem.mp hs
 have h1:zs[a]≤zs[b - 1]:=by
  by_cases e:a=b - 1
  ·subst e;exact Int.le_refl _
  ·exact hpw a (b - 1) ha.1 (by omega) (by omega)
 have h2:zs[b - 1]≤zs[b]:=hpw (b - 1) b (by omega) hb1 (by omega);omega
theorem Zpa(l:List Int):(l.mergeSort fun x y=>decide (x≤y)).Pairwise (·≤·):=by
 have:=List.pairwise_mergeSort (le:=fun x y:Int=>decide (x≤y)) (fun a b c h1 h2=>by simp at *;omega) (fun a b=>by simp;omega) l;exact this.imp (fun h=>by simpa using h)
theorem ZjI{d:aD}{far at_:List Int}{h:Nat}{left:Int}{N:Nat}(hr:∀x∈zJ d far at_ h left,0≤x∧x < N):(zJ d far at_ h left).length≤N:=by
 have:=Zii _ 0 N (Zfd (Zpa _)) hr (by omega);simp only[zJ] at this ⊢;omega
def mkL(d:aD)(far:List Int)(tot:List Int)(m:Nat)(f:AF)(S:St):Prop:=
 ∃v2 va iX at_,Hq d far ((m:Int) - 1) v2 va f∧zU d v2 va iX at_ S.n S.g∧yM d far at_ m∧at_.length≤100000∧iX++vR d far m at_=tot
theorem Zrf{P:Program}{fs fc:FuncId}(Hs:Co P fs)(Hc:Cn P fc){d:aD}(R:bD d)(hev:d.signs % 2=0){far:List Int}(fo:uW (pg d) far){tot:List Int}(ht:tot.length≤100000){f:AF}{S:St}{Q:Exit→AF→St→Prop}(m:Nat)(h0:mkL d far tot m f S)
  (hq:∀f' S' v2 va at_,Hq d far (-1) v2 va f'→zU d v2 va tot at_ S'.n S'.g→Q .normal f' S'):AW P (V5 fs fc) Q f S:=by
 obtain⟨sg,hsg⟩:∃sg:Nat,d.signs=sg:=⟨d.signs.toNat,by have:=R.s1;omega⟩;have hs2:=R.s2;have hn2:=R.n2;simp[V5];refine vT (mkL d far tot) m h0 ?_;rintro m f S ⟨v2,va,iX,at_,gg,sn,hat,hal,htot⟩;cases m with
 | zero=>
  have e8:f 8=aj (-1):=by rw[gg.e8];rfl
  simp[e8];have hl:iX=tot:=by rw[vR,List.append_nil] at htot;exact htot
  subst hl;refine hq _ _ v2 va at_ ⟨by simp[au,gg.e1],by simp[au,gg.e2],by simp[au,gg.e5],by simp[au,gg.e6],by simp[au,gg.e7],by simp[au,e8,aj]⟩ (sn.frame (by simp) (fun _ _=>rfl))
 | succ k=>
  have e8:f 8=aj k:=by rw[gg.e8];congr 1;omega
  have hk0:(0:Int)≤(k:Int):=by omega
  have g0:=sn.g0;have hw:IntKind.i64.wrap ((sg:Int) / 2)=((sg / 2:Nat):Int):=by rw[bI _ (by omega)];omega
  have hw2:IntKind.i64.wrap ((k:Int) - 1)=(k:Int) - 1:=bI _ (by
   have h1:=hat.far;have:=congrArg List.length htot;simp[Lf] at this;omega)
  have hsl:iX.length≤100000:=by
   have:=congrArg List.length htot;simp[Lf] at this;omega
  obtain⟨b1,b2,b3⟩:=Qo R hev fo hat;simp[e8,gg.e1,g0,aT,hsg,hk0,hw];refine Zre Hs Hc R hev hsg (hn:=sg / 2) (by omega) fo hat hal hsl (v2:=v2) (va:=va) (iX:=iX) ⟨0,by omega,by omega,?_,?_,⟨?_,?_,?_,?_,?_,?_⟩,sn.frame (by simp<;>omega) (fun _ _=>rfl),by omega⟩ (fun f' S' CX CY kg ks=>?_)
  ·simp[au,aj]
  ·simp[au,aj]
  ·simp[au,gg.e1]
  ·simp[au,gg.e2]
  ·simp[au,gg.e5]
  ·simp[au,gg.e6]
  ·simp[au,gg.e7]
  ·simp[au,e8]
  ·have hnx:=hat.next R b2
   have hnl:(zJ d far at_ (uG d far at_ k) k).length≤3*d.next.length:=ZjI (fun x hx=>by have:=hnx.rng x hx;omega)
   simp[kg.e8,hw2];refine⟨k,by omega,CX,CY,iX++[(uG d far at_ k:Int)],zJ d far at_ (uG d far at_ k) k,⟨?_,?_,?_,?_,?_,?_⟩,ks.frame (by simp) (fun _ _=>rfl),hnx,by omega,?_⟩
   ·simp[au,kg.e1]
   ·simp[au,kg.e2]
   ·simp[au,kg.e5]
   ·simp[au,kg.e6]
   ·simp[au,kg.e7]
   ·simp[au,aj]
   ·rw[←htot,vR,List.append_assoc];rfl
def mkQ(d:aD)(iX:List Int)(pf:Nat)(v2:AV)(m:Nat)(f:AF)(S:St):Prop:=
 ∃p:Nat,1≤p∧p≤pf∧m=pf - p∧f 1=.ptr 0 0 0∧f 2=v2∧f 3=aj p∧S.g 0=some (.arr 3 [aT d])∧Vec S.g v2 1 (iX.map aj)
theorem Zth{P:Program}{fw fa:FuncId}{d:aD}{iX:List Int}(hsl:iX.length≤1000000)(hw:∀p:Int,aN P fw [aA iX,aj p] (aA (jd iX p))∧rW P fw [aA iX,aj p] (aA (jd iX p)))
  (ha:∀p:Int,aN P fa [aT d,aA (jd iX p)] (aH (mM d (jd iX p)))) {pf:Nat} (hpf:BO d iX pf) {v2:AV} {f:AF} {S:St} (e1:f 1=.ptr 0 0 0) (e2:f 2=v2) (g0:S.g 0=some (.arr 3 [aT d])) (hv:Vec S.g v2 1 (iX.map aj)) :
  AW P (Wz fw fa) (xk (gG [2,3,4] (iQ (.aM [aA iX,aj pf,aH true])))) f S:=by
 have hlo:=hpf.lo;have hhi:=hpf.hi;simp[Wz,Zd3];refine vT (mkQ d iX pf v2) (pf - 1) ⟨1,by omega,hlo,rfl,by simp[au,e1],by simp[au,e2],by simp[au,aj],g0,hv.frame (fun _ _=>rfl)⟩ ?_;rintro m f S ⟨p,p1,p2,rfl,e1,e2,e3,g0,hv⟩;have hw3:IntKind.i64.wrap ((p:Int)+1)=(p:Int)+1:=bI _ (by omega);have Eo:Vec (only v2.ids S.g) v2 1 (iX.map aj):=hv.frame (fun i hi=>by rw[DL,if_pos hi])
 have aaM:∀n,mo P fw [v2,.v (.int .i64 p)] ⟨n,S.g⟩ v2.ids (aA (jd iX p)):=fun n=>by
  refine⟨[aA iX,aj p],(hw p).1,rfl,fun j h1 h2=>?_,.inr (.inr ⟨aS _,(hw p).2⟩)⟩
  match j,h1 with
  | 0,_=>exact Eo.fz aW
  | 1,_=>exact .closed _ (.v _)
 have aaN:∀n,mo P fa [.agg [.v (.int .i64 d.signs),aX d.next,iY d.fin],aA (jd iX p)] ⟨n,S.g⟩ [] (aH (mM d (jd iX p))):=fun n=>by
  refine⟨[aT d,aA (jd iX p)],ha p,rfl,fun j h1 h2=>?_,.inl (L9 _)⟩
  match j,h1 with
  | 0,_=>exact .closed _ (iV d)
  | 1,_=>exact .closed _ (aS _)
 simp[e1,e2,e3,g0,aT];refine⟨_,⟨_,aaM _⟩,_,⟨_,aaN _⟩,?_⟩;by_cases hp:p=pf
 ·subst hp
  rw[hpf.acc];simp[e2,e3]
  exact .aM _ _ rfl (by
   intro j h1 h2
   match j,h1 with
   | 0,_=>exact hv.fz aW
   | 1,_=>exact .closed _ (.v _)
   | 2,_=>exact .closed _ (.v _))
 ·rw[hpf.fst p p1 (by omega)]
  simp[e3,hw3];refine⟨pf - (p+1),by omega,p+1,by omega,by omega,rfl,?_,?_,?_,g0,hv⟩
  ·simp[au,e1]
  ·simp[au,e2]
  ·simp[au,aj]
open Classical in
noncomputable def DT(d:aD):Nat:=if h:∃p,BO d (jX d) p then h.choose else 0
theorem Zhc{d:aD}(h:∃p,BO d (jX d) p):BO d (jX d) (DT d):=by
 unfold DT;rw[dif_pos h];exact h.choose_spec
theorem Zrb{d:aD}(h:qD d=false):jX d=[]∧DT d=0:=by
 have hs:jX d=[]:=by unfold jX;rw[h];rfl
 refine⟨hs,?_⟩;unfold DT;rw[dif_neg];rintro⟨p,hp⟩;have:=hp.hi;rw[hs] at this;simp at this
theorem Xe{d:aD}(h:qD d=false)(S:St):iQ (.aM [aA (jX d),aj (DT d),aH (qD d)]) (.aM [.sl true [],.v (.int .i64 0),.v (.bool false)]) S:=by
 obtain⟨h1,h2⟩:=Zrb h;rw[h1,h2,h]
 exact .aM _ _ rfl (by
  intro j k1 k2
  match j,k1 with
  | 0,_=>exact .loose true [] (.sl _ _ (by simp))
  | 1,_=>exact .closed _ (.v _)
  | 2,_=>exact .closed _ (.v _))
theorem Zba{P:Program}{fr fp fg fs fc fw fa:FuncId}(Hs:Co P fs)(Hc:Cn P fc)(d:aD)(hr:aN P fr [aT d] (aH (lg d)))(hp:bD d→aN P fp [aT d] (xC (pg d)))(hg:bD d→aN P fg [xC (pg d)] (aA (sG (pg d))))
  (hw:∀(s:List Int) (p:Int),s.length≤1000000→aN P fw [aA s,aj p] (aA (jd s p))∧rW P fw [aA s,aj p] (aA (jd s p))) (ha:∀l:List Int,Len l→aN P fa [aT d,aA l] (aH (mM d l))) :
  AW P (EU fr fp fg fs fc fw fa) (gG [2,3,4] (iQ (.aM [aA (jX d),aj (DT d),aH (qD d)]))) (bP [aT d]) S0:=by
 by_cases hR:lg d=true
 ·have R:=(xP d).mp hR
  obtain⟨signs,next,fin⟩:=d;obtain⟨sg,hsg⟩:∃sg:Nat,signs=sg:=⟨signs.toNat,by have:=R.s1;simp only at this;omega⟩;subst hsg;have hs1:=R.s1;have hs2:=R.s2;have hn1:=R.n1;have hn2:=R.n2;simp only at hs1 hs2 hn1 hn2;have ha1:=Zv6 sg (by omega);have fo:=Ql (pg ⟨(sg:Int),next,fin⟩);have hgn:=z8 ⟨(sg:Int),next,fin⟩;simp only at hgn;by_cases hev:sg % 2=0
  ·have Nn:(aD.mk (sg:Int) next fin).signs % 2=0:=by show(sg:Int) % 2=0;omega
   rw[hev] at ha1;have hok:=VF R Nn;simp[EU,aT];refine aQ.pure hr (aK (iV _) aU) (dN _) ?_;simp[hR,ha1];refine aQ.pure (hp R) (aK (iV _) aU) (Zf8 _) ?_;simp[xC];refine aQ.pure (hg R) (aK (Zf8 _) aU) (aS _) ?_;have hfp:yR ⟨(sg:Int),next,fin⟩=sG (pg ⟨(sg:Int),next,fin⟩):=rfl;rw[hfp] at hok;have hS0:qD ⟨(sg:Int),next,fin⟩=true→jX ⟨(sg:Int),next,fin⟩=vR ⟨(sg:Int),next,fin⟩ (sG (pg ⟨(sg:Int),next,fin⟩)) (rd (sG (pg ⟨(sg:Int),next,fin⟩)) 0).toNat [0]:=fun h=>by unfold jX;rw[if_pos h];rfl
   have aaE:0≤rd (sG (pg ⟨(sg:Int),next,fin⟩)) 0→yM ⟨(sg:Int),next,fin⟩ (sG (pg ⟨(sg:Int),next,fin⟩)) [0] (rd (sG (pg ⟨(sg:Int),next,fin⟩)) 0).toNat:=fun h=>Yd R h
   have hval:=fo.val 0 (by omega);have abA:=fo.lt 0 (by omega);have hfl:=fo.len;generalize hfg:sG (pg ⟨(sg:Int),next,fin⟩)=far at *;have h0:0 < far.length:=by omega
   have h0I:(0:Int) < far.length:=by omega
   have hg0:far[0]? = some far[0]:=List.getElem?_eq_getElem h0;have hr0:=Jk h0;by_cases hno:far[0] = -1
   ·have hb:(far[0] == -1)=true:=by simp[hno]
    have hmo:qD ⟨(sg:Int),next,fin⟩=false:=by
     cases h:qD ⟨(sg:Int),next,fin⟩ with
     | false=>rfl
     | true=>have:=hok.mp h;omega
    simp[aA,hg0,hb];exact Xe hmo _
   ·have hb:(far[0] == -1)=false:=by simp[hno]
    have hmo:qD ⟨(sg:Int),next,fin⟩=true:=hok.mpr (by omega);have hw1:IntKind.i64.wrap (far[0] - 1)=far[0] - 1:=bI _ (by omega);obtain⟨p0,hp0⟩:=Zdm R Nn hmo;have hpf:=Zhc ⟨p0,hp0⟩;have hS:=hS0 hmo;have hSl:(jX ⟨(sg:Int),next,fin⟩).length≤100000:=by rw[hS,Lf];omega
    simp[aA,hg0,hb,hw1,hmo];refine Zrf Hs Hc R Nn (far:=far) fo (tot:=jX ⟨(sg:Int),next,fin⟩) hSl (rd far 0).toNat ⟨.sl true [],.sl true [.v (.int .i64 0)],[],[0],⟨?_,?_,?_,?_,?_,?_⟩,⟨?_,?_,?_,?_,?_,?_,?_,?_⟩,aaE (by omega),by simp,by rw[hS];rfl⟩ (fun f' S' v2 va at_ kg ks=>?_)
    ·simp[au]
    ·simp[au]
    ·simp[au]
    ·simp[au,aA]
    ·simp[au]
    ·simp[au,aj];omega
    ·simp[aG,aT,aj]
    ·simp[aG,xC]
    ·simp
    ·exact .nil
    ·simp[AV.ids]
    ·exact .inl rfl
    ·simp[AV.ids]
    ·simp[AV.ids]
    ·simp only[dO]
     refine Zth (by omega) (fun p=>hw _ p (by omega)) (fun p=>ha _ ?_) hpf kg.e1 kg.e2 ks.g0 ks.v;unfold Len jd;split
     ·rw[uD];omega
     ·simp
  ·have Nn:sg % 2=1:=by omega
   rw[Nn] at ha1
   have hmo:qD ⟨(sg:Int),next,fin⟩=false:=by
    unfold qD;rw[decide_eq_false (by simp only;omega)];simp
   simp[EU,aT];refine aQ.pure hr (aK (iV _) aU) (dN _) ?_;simp[hR,ha1];exact Xe hmo _
 ·have hmo:qD d=false:=by unfold qD;simp[hR]
  simp[EU,aT];refine aQ.pure hr (aK (iV _) aU) (dN _) ?_;simp[hR];exact Xe hmo _
def Jv:AC:= (sq [rm 41 1,rm 42 8,ro 43 (.aI 3 (.t 41) (.t 42)),ro 44 (.wz 3 1 (.t 43) (ci 0)),rL 45 44,rm 46 45,rg 47 46 false (.mv (.t 1)),rg 48 46 false (.mv (.t 8)),rg 49 46 false (.aI 3 (.t 47) (.t 48)),rg 50 46 false (.wz 3 1 (.t 49) (ci 1)),rg 51 46 false (.load none (.t 50)),ro 52 (.pick (.t 46) (.c (.v (.bool true))) (.t 51))] (.cond (.t 52) (.reg none [rm 53 7,rm 54 9,ro 55 (.aI 3 (.t 53) (.t 54)),ro 56 (.wz 3 1 (.t 55) (ci 1)),rn (.store 1 (.t 56) (.c (.v (.bool true))))]) .skip))
def QY:AC:= (sq [rm 57 1,rm 58 8,ro 59 (.aI 3 (.t 57) (.t 58)),ro 60 (.wz 3 1 (.t 59) (ci 1)),rL 61 60] (.cond (.t 61) (.reg none [rm 62 7,rm 63 10,ro 64 (.aI 3 (.t 62) (.t 63)),ro 65 (.wz 3 1 (.t 64) (ci 2)),rn (.store 1 (.t 65) (.c (.v (.bool true))))]) .skip))
def QZ:AC:= (sq [rm 66 1,rm 67 8,ro 68 (.aI 3 (.t 66) (.t 67)),ro 69 (.wz 3 1 (.t 68) (ci 2)),rL 70 69] (.cond (.t 70) (.reg none [rm 71 7,rm 72 9,ro 73 (.aI 3 (.t 71) (.t 72)),ro 74 (.wz 3 1 (.t 73) (ci 2)),rn (.store 1 (.t 74) (.c (.v (.bool true))))]) .skip))
def ZkD:AC:= (.block 0 (.loop (.seq (sq [rm 15 8,rF 16 1 3,rL 17 16,ro 18 (.len (.t 17)),ro 19 (.bin .lss (.t 15) (.t 18))] (.cond (.t 19) .skip (.exit 0))) (.seq (.block 1 (.seq (.reg (some []) [rF 22 1 3,rL 23 22,rm 24 8,ro 25 (.aI 1 (.t 23) (.t 24)),rL 26 25,rm 27 2,ro 28 (.bin .mul (ci 2) (.t 27)),ro 29 (.aI 1 (.t 26) (.t 28)),rL 30 29,rF 31 1 3,rL 32 31,rm 33 8,ro 34 (.aI 1 (.t 32) (.t 33)),rL 35 34,rm 36 2,ro 37 (.bin .mul (ci 2) (.t 36)),ro 38 (.bin .add (.t 37) (ci 1)),ro 39 (.aI 1 (.t 35) (.t 38)),rL 40 39,rm 9 30,rm 10 40]) (.seq Jv (.seq QY QZ)))) (.reg none [rm 20 8,ro 21 (.bin .add (.t 20) (ci 1)),rm 8 21])))))
def Z8j:AC:= (sq [ro 3 (.box 3 (.t 0)),ro 6 (.mv (.c (.sl true [])))] (sq [rF 11 1 3,rL 12 11,ro 13 (.len (.t 12)),ro 14 (.wB 3 3 (.agg [(.v (.bool false)),(.v (.bool false)),(.v (.bool false))]) (.t 13) (.t 13)),rm 7 14] (.seq (sq [ro 8 (.mv (ci 0))] ZkD) (sq [rm 75 7,rm 6 75] .ret))))
def Z9o:AC:= (sq [ro 2 (.box 3 (.t 0)),ro 4 (.mv (.c (.v (.bool false))))] (.seq (sq [ro 5 (.mv (ci 0))] (.block 0 (.loop (.seq (sq [rm 6 5,rm 7 1,ro 8 (.len (.t 7)),ro 9 (.bin .lss (.t 6) (.t 8))] (.cond (.t 9) .skip (.exit 0))) (.seq (.block 1 (sq [rm 12 1,rm 13 5,ro 14 (.aI 3 (.t 12) (.t 13)),ro 15 (.wz 3 1 (.t 14) (ci 2)),rL 16 15,rm 17 16,rg 18 17 true (.cZ 2 (.t 2)),rg 19 17 true (.load none (.t 18)),rg 20 17 true (.mv (.t 5)),rg 21 17 true (.aI 1 (.t 19) (.t 20)),rg 22 17 true (.load none (.t 21)),ro 23 (.pick (.t 17) (.t 22) (.c (.v (.bool false))))] (.cond (.t 23) (sq [ro 4 (.mv (.c (.v (.bool true))))] .ret) .skip))) (.reg none [rm 10 5,ro 11 (.bin .add (.t 10) (ci 1)),rm 5 11])))))) (sq [ro 4 (.mv (.c (.v (.bool false))))] .ret)))
def Zqv:AC:= (.block 4 (.loop (.seq (sq [rm 30 9,ro 31 (.bin .lss (.t 30) (ci 3))] (.cond (.t 31) .skip (.exit 4))) (.seq (.block 5 (.reg (some []) [rm 34 5,rm 35 8,rm 36 9,rm 37 5,rm 38 8,rm 39 9,ro 40 (.aI 3 (.t 37) (.t 38)),ro 41 (.wz 3 1 (.t 40) (.t 39)),rL 42 41,rm 43 42,rg 44 43 false (.mv (.t 7)),rg 45 43 false (.mv (.t 8)),rg 46 43 false (.mv (.t 9)),rg 47 43 false (.aI 3 (.t 44) (.t 45)),rg 48 43 false (.wz 3 1 (.t 47) (.t 46)),rg 49 43 false (.load none (.t 48)),ro 50 (.pick (.t 43) (.c (.v (.bool true))) (.t 49)),ro 51 (.aI 3 (.t 34) (.t 35)),ro 52 (.wz 3 1 (.t 51) (.t 36)),rn (.store 1 (.t 52) (.t 50))])) (.reg none [rm 32 9,ro 33 (.bin .add (.t 32) (ci 1)),rm 9 33])))))
def ZnE:AC:= (.block 2 (.loop (.seq (sq [rm 24 8,rm 25 7,ro 26 (.len (.t 25)),ro 27 (.bin .lss (.t 24) (.t 26))] (.cond (.t 27) .skip (.exit 2))) (.seq (.block 3 (sq [ro 9 (.mv (ci 0))] Zqv)) (.reg none [rm 28 8,ro 29 (.bin .add (.t 28) (ci 1)),rm 8 29])))))
def ZnF(Ao:FuncId):AC:= (.block 0 (.loop (.seq (sq [rm 13 6,rF 14 0 2,rL 15 14,ro 16 (.bin .quo (.t 15) (ci 2)),ro 17 (.bin .lss (.t 13) (.t 16))] (.cond (.t 17) .skip (.exit 0))) (.seq (.block 1 (sq [ro 20 (.load (some 3) (.t 2)),rm 21 1,rm 22 6,rk 23 Ao [(.t 20),(.t 21),(.t 22)],rm 7 23] (sq [ro 8 (.mv (ci 0))] ZnE))) (.reg none [rm 18 6,ro 19 (.bin .add (.t 18) (ci 1)),rm 6 19])))))
def Z8a(Ao:FuncId):AC:= (sq [ro 2 (.box 3 (.t 0)),ro 4 (.mv (.c (.sl true [])))] (sq [rm 10 1,ro 11 (.len (.t 10)),ro 12 (.wB 3 3 (.agg [(.v (.bool false)),(.v (.bool false)),(.v (.bool false))]) (.t 11) (.t 11)),rm 5 12] (.seq (sq [ro 6 (.mv (ci 0))] (ZnF Ao)) (sq [rm 53 5,rm 4 53] .ret))))
def Z8k(P3z P2L:FuncId):AC:= (sq [ro 2 (.box 3 (.t 0)),ro 4 (.mv (ci 0))] (.seq (sq [ro 5 (.mv (ci 0))] (.block 0 (.loop (.seq (sq [rm 6 5,rF 7 1 2,rL 8 7,ro 9 (.len (.t 8)),ro 10 (.bin .mul (ci 3) (.t 9)),ro 11 (.bin .leq (.t 6) (.t 10))] (.cond (.t 11) .skip (.exit 0))) (.seq (.block 1 (.seq (sq [ro 14 (.load (some 3) (.t 2)),rm 15 1,rk 16 P3z [(.t 14),(.t 15)]] (.cond (.t 16) (sq [rm 17 5,rm 4 17] .ret) .skip)) (.reg none [ro 18 (.load (some 3) (.t 2)),rm 19 1,rk 20 P2L [(.t 18),(.t 19)],rm 1 20]))) (.reg none [rm 12 5,ro 13 (.bin .add (.t 12) (ci 1)),rm 5 13])))))) (sq [ro 4 (.mv (ci (-1)))] .ret)))
structure bS where
 a:Bool
 b:Bool
 c:Bool
def bS.no:bS:=⟨false,false,false⟩
def bS.at(t:bS)(k:Nat):Bool:=if k=0 then t.a else if k=1 then t.b else t.c
def bS.put(t:bS)(k:Nat)(v:Bool):bS:=if k=0 then ⟨v,t.b,t.c⟩ else if k=1 then ⟨t.a,v,t.c⟩ else ⟨t.a,t.b,v⟩
def oQ(t:bS):AV:=.agg [aH t.a,aH t.b,aH t.c]
def uY(l:List bS):AV:=.sl false (l.map oQ)
theorem ZhT(t:bS):aY (oQ t):=.agg _ (by
 intro y hy;simp only[List.mem_cons,List.not_mem_nil,or_false] at hy;rcases hy with rfl | rfl | rfl<;>exact dN _)
theorem Zl1(l:List bS):aY (uY l):=EX ZhT l
def hs(T:List bS)(i:Nat):Bool:=(T.getD (i / 3) .no).at (i % 3)
def xR(T:List bS)(i k:Nat):List bS:=T.set i ((T.getD i .no).put k true)
def tT(d:aD)(h:Nat)(t:bS)(e:Nat)(out:List bS):List bS:=if t.a || t.b then xR out e 1 else out
def yI(t:bS)(o:Nat)(out:List bS):List bS:=if t.b then xR out o 2 else out
def DK(t:bS)(e:Nat)(out:List bS):List bS:=if t.c then xR out e 2 else out
def xX(d:aD)(h i:Nat):Nat:=((d.next.getD i []).getD (2*h) 0).toNat
def D9(d:aD)(h i:Nat):Nat:=((d.next.getD i []).getD (2*h+1) 0).toNat
def AZ(d:aD)(h:Nat)(T out:List bS)(i:Nat):List bS:=
 DK (T.getD i .no) (xX d h i) (yI (T.getD i .no) (D9 d h i) (tT d h (T.getD i .no) (xX d h i) out))
def FB(d:aD)(T:List bS)(h:Nat):List bS:=(List.range d.next.length).foldl (AZ d h T) (List.replicate d.next.length .no)
theorem Dq(T:List bS)(i k:Nat):(xR T i k).length=T.length:=by simp[xR]
theorem ZlJ(d:aD)(h:Nat)(T out:List bS)(i:Nat):(AZ d h T out i).length=out.length:=by
 unfold AZ tT yI DK;split<;>split<;>split<;>simp[Dq]
theorem WO(d:aD)(h:Nat)(T:List bS):∀(l:List Nat) (out:List bS),(l.foldl (AZ d h T) out).length=out.length
 | [],_=>rfl
 | i::l,out=>by rw[List.foldl_cons,WO d h T l,ZlJ]
theorem Zh2(d:aD)(T:List bS)(h:Nat):(FB d T h).length=d.next.length:=by
 unfold FB;rw[WO];simp
structure Hl(d:aD)(T:List bS)(h q i:Nat)(out:List bS)(f:AF)(S:St):Prop where
 e1:f 1=uY T
 e2:f 2=aj h
 e3:f 3=.ptr 0 0 0
 e7:f 7=.own q 0 out.length
 e8:f 8=aj i
 g0:S.g 0=some (.arr 3 [aT d])
 gq:S.g q=some (.arr 3 (out.map oQ))
 ne:q≠0
theorem hv1{P:Program}{d:aD}{T out:List bS}{h q i e o:Nat}(hi:i < T.length)(he:e < out.length){f:AF}{S:St}{Q:Exit→AF→St→Prop}
  (st:Hl d T h q i out f S) (e9:f 9=aj e) (e10:f 10=aj o) (hq:∀f' S',f' 9=aj e→f' 10=aj o→Hl d T h q i (tT d h T[i] e out) f' S'→Q .normal f' S'):AW P Jv Q f S:=by
 obtain⟨e1,e2,e3,e7,e8,g0,gq,ne⟩:=st;have hgi:T[i]? = some T[i]:=List.getElem?_eq_getElem hi;have hge:out[e]? = some out[e]:=List.getElem?_eq_getElem he;have hgd:out.getD e .no=out[e]:=by simp[List.getD_eq_getElem?_getD,hge]
 have GL:(i:Int) < T.length:=by omega
 have GJ:(e:Int) < out.length:=by omega
 have hm:xR out e 1=out.set e ⟨out[e].a,true,out[e].c⟩:=by unfold xR;rw[hgd];rfl
 have hm2:(out.set e ⟨out[e].a,true,out[e].c⟩).map oQ=(out.map oQ).set e (oQ ⟨out[e].a,true,out[e].c⟩):=List.map_set;generalize hT:T[i]=t at *;obtain⟨a,b,c⟩:=t;cases a<;>cases b
 ·simp[Jv,uY,e1,e8,hi,hT,oQ]
  refine hq _ _ ?_ ?_ ⟨?_,?_,?_,?_,?_,?_,?_,ne⟩
  ·simp[au,e9]
  ·simp[au,e10]
  ·simp[au,e1]
  ·simp[au,e2]
  ·simp[au,e3]
  ·simp[au,e7,tT]
  ·simp[au,e8]
  ·simp[g0]
  ·simp[gq,tT]
 ·simp[Jv,uY,e1,e7,e8,e9,hi,hT,gq,GJ,he,oQ]
  refine hq _ _ ?_ ?_ ⟨?_,?_,?_,?_,?_,?_,?_,ne⟩
  ·simp[au,e9]
  ·simp[au,e10]
  ·simp[au,e1,uY]
  ·simp[au,e2]
  ·simp[au,e3]
  ·simp[au,e7,tT,Dq]
  ·simp[au,e8]
  ·simp[aG,g0,Ne.symm ne]
  ·simp only[tT,hm,hm2,if_true,Bool.or_true,aG]
   simp[oQ,aH]
 ·simp[Jv,uY,e1,e7,e8,e9,hi,hT,gq,GJ,he,oQ]
  refine hq _ _ ?_ ?_ ⟨?_,?_,?_,?_,?_,?_,?_,ne⟩
  ·simp[au,e9]
  ·simp[au,e10]
  ·simp[au,e1,uY]
  ·simp[au,e2]
  ·simp[au,e3]
  ·simp[au,e7,tT,Dq]
  ·simp[au,e8]
  ·simp[aG,g0,Ne.symm ne]
  ·simp only[tT,hm,hm2,if_true,Bool.or_false,aG]
   simp[oQ,aH]
 ·simp[Jv,uY,e1,e7,e8,e9,hi,hT,gq,GJ,he,oQ]
  refine hq _ _ ?_ ?_ ⟨?_,?_,?_,?_,?_,?_,?_,ne⟩
  ·simp[au,e9]
  ·simp[au,e10]
  ·simp[au,e1,uY]
  ·simp[au,e2]
  ·simp[au,e3]
  ·simp[au,e7,tT,Dq]
  ·simp[au,e8]
  ·simp[aG,g0,Ne.symm ne]
  ·simp only[tT,hm,hm2,if_true,Bool.or_true,aG]
   simp[oQ,aH]
theorem hv2{P:Program}{d:aD}{T out:List bS}{h q i e o:Nat}(hi:i < T.length)(he:o < out.length){f:AF}{S:St}{Q:Exit→AF→St→Prop}
  (st:Hl d T h q i out f S) (e9:f 9=aj e) (e10:f 10=aj o) (hq:∀f' S',f' 9=aj e→f' 10=aj o→Hl d T h q i (yI T[i] o out) f' S'→Q .normal f' S'):AW P QY Q f S:=by
 obtain⟨e1,e2,e3,e7,e8,g0,gq,ne⟩:=st;have hgi:T[i]? = some T[i]:=List.getElem?_eq_getElem hi;have hge:out[o]? = some out[o]:=List.getElem?_eq_getElem he;have hgd:out.getD o .no=out[o]:=by simp[List.getD_eq_getElem?_getD,hge]
 have GL:(i:Int) < T.length:=by omega
 have GJ:(o:Int) < out.length:=by omega
 have hm:xR out o 2=out.set o ⟨out[o].a,out[o].b,true⟩:=by unfold xR;rw[hgd];rfl
 have hm2:(out.set o ⟨out[o].a,out[o].b,true⟩).map oQ=(out.map oQ).set o (oQ ⟨out[o].a,out[o].b,true⟩):=List.map_set;generalize hT:T[i]=t at *;obtain⟨a,b,c⟩:=t;cases b
 ·simp[QY,uY,e1,e8,hi,hT,oQ]
  refine hq _ _ ?_ ?_ ⟨?_,?_,?_,?_,?_,?_,?_,ne⟩
  ·simp[au,e9]
  ·simp[au,e10]
  ·simp[au,e1]
  ·simp[au,e2]
  ·simp[au,e3]
  ·simp[au,e7,yI]
  ·simp[au,e8]
  ·simp[g0]
  ·simp[gq,yI]
 ·simp[QY,uY,e1,e7,e8,e10,hi,hT,gq,GJ,he,oQ]
  refine hq _ _ ?_ ?_ ⟨?_,?_,?_,?_,?_,?_,?_,ne⟩
  ·simp[au,e9]
  ·simp[au,e10]
  ·simp[au,e1,uY]
  ·simp[au,e2]
  ·simp[au,e3]
  ·simp[au,e7,yI,Dq]
  ·simp[au,e8]
  ·simp[aG,g0,Ne.symm ne]
  ·simp only[yI,hm,hm2,if_true,aG]
   simp[oQ,aH]
theorem hv3{P:Program}{d:aD}{T out:List bS}{h q i e o:Nat}(hi:i < T.length)(he:e < out.length){f:AF}{S:St}{Q:Exit→AF→St→Prop}
  (st:Hl d T h q i out f S) (e9:f 9=aj e) (e10:f 10=aj o) (hq:∀f' S',f' 9=aj e→f' 10=aj o→Hl d T h q i (DK T[i] e out) f' S'→Q .normal f' S'):AW P QZ Q f S:=by
 obtain⟨e1,e2,e3,e7,e8,g0,gq,ne⟩:=st;have hgi:T[i]? = some T[i]:=List.getElem?_eq_getElem hi;have hge:out[e]? = some out[e]:=List.getElem?_eq_getElem he;have hgd:out.getD e .no=out[e]:=by simp[List.getD_eq_getElem?_getD,hge]
 have GL:(i:Int) < T.length:=by omega
 have GJ:(e:Int) < out.length:=by omega
 have hm:xR out e 2=out.set e ⟨out[e].a,out[e].b,true⟩:=by unfold xR;rw[hgd];rfl
 have hm2:(out.set e ⟨out[e].a,out[e].b,true⟩).map oQ=(out.map oQ).set e (oQ ⟨out[e].a,out[e].b,true⟩):=List.map_set;generalize hT:T[i]=t at *;obtain⟨a,b,c⟩:=t;cases c
 ·simp[QZ,uY,e1,e8,hi,hT,oQ]
  refine hq _ _ ?_ ?_ ⟨?_,?_,?_,?_,?_,?_,?_,ne⟩
  ·simp[au,e9]
  ·simp[au,e10]
  ·simp[au,e1]
  ·simp[au,e2]
  ·simp[au,e3]
  ·simp[au,e7,DK]
  ·simp[au,e8]
  ·simp[g0]
  ·simp[gq,DK]
 ·simp[QZ,uY,e1,e7,e8,e9,hi,hT,gq,GJ,he,oQ]
  refine hq _ _ ?_ ?_ ⟨?_,?_,?_,?_,?_,?_,?_,ne⟩
  ·simp[au,e9]
  ·simp[au,e10]
  ·simp[au,e1,uY]
  ·simp[au,e2]
  ·simp[au,e3]
  ·simp[au,e7,DK,Dq]
  ·simp[au,e8]
  ·simp[aG,g0,Ne.symm ne]
  ·simp only[DK,hm,hm2,if_true,aG]
   simp[oQ,aH]
def Ru(d:aD)(T:List bS):Bool:=(List.range d.next.length).any fun i=>(T.getD i .no).c && d.fin.getD i false
def orT(x y:bS):bS:=⟨x.a || y.a,x.b || y.b,x.c || y.c⟩
def R8(i:Nat)(out x:List bS):List bS:=out.mapIdx fun j t=>if j < i then orT t (x.getD j .no) else t
theorem ZoG(i:Nat)(out x:List bS):(R8 i out x).length=out.length:=by simp[R8]
def Gi(out x:List bS):List bS:=R8 out.length out x
def YE(d:aD)(T:List bS):List bS:=(List.range (d.signs / 2).toNat).foldl (fun out h=>Gi out (FB d T h)) (List.replicate T.length .no)
theorem ZoS(out x:List bS):(Gi out x).length=out.length:=ZoG _ _ _
theorem ZbE(d:aD)(T:List bS):∀(l:List Nat) (out:List bS),(l.foldl (fun out h=>Gi out (FB d T h)) out).length=out.length
 | [],_=>rfl
 | h::l,out=>by rw[List.foldl_cons,ZbE d T l,ZoS]
def DR(d:aD)(T:List bS)(h:Nat):List bS:=(List.range h).foldl (fun out h=>Gi out (FB d T h)) (List.replicate T.length .no)
theorem Zjf(d:aD)(T:List bS)(h:Nat):DR d T (h+1)=Gi (DR d T h) (FB d T h):=by
 unfold DR;rw[List.range_succ,List.foldl_append];rfl
theorem Zkt(d:aD)(T:List bS)(h:Nat):(DR d T h).length=T.length:=by unfold DR;rw[ZbE];simp
end Go.Rf
namespace Go.Proofs
open Go.Shelf Go.Rf Go.Sort
def Tryz.P4g:Go.Shelf.Ren:=⟨fun | 125=>101 | 128=>129 | 129=>130 | 166=>133 | 167=>135 | 169=>136 | 171=>134 | 189=>66 | 215=>143 | 216=>126 | 240=>144 | 243=>145 | 246=>148 | 257=>100 | 276=>147 | 283=>149 | 284=>150 | 285=>151 | 286=>152 | 294=>120 | 295=>121 | 296=>122 | 297=>123 | 298=>124 | 299=>125 | 300=>127 | 301=>128 | 317=>153 | 318=>154 | 319=>155 | 320=>156 | 328=>138 | 329=>139 | 330=>140 | 331=>141 | 332=>142 | 337=>157 | 338=>158 | 343=>146 | n=>n,fun | 28=>23 | 29=>128 | 30=>148 | 34=>44 | 35=>103 | 36=>115 | 37=>165 | 45=>74 | 46=>140 | 47=>139 | 51=>160 | 52=>159 | 53=>162 | 54=>161 | 70=>164 | 71=>166 | 72=>167 | 74=>168 | 75=>169 | 76=>170 | 77=>171 | 78=>173 | 80=>174 | 81=>203 | 83=>172 | 84=>187 | 111=>108 | 112=>156 | 114=>192 | 127=>181 | 131=>86 | 134=>138 | 164=>185 | 165=>186 | 171=>188 | 172=>189 | 173=>190 | 174=>191 | 181=>152 | 182=>153 | 183=>154 | 184=>155 | 185=>147 | 186=>157 | 187=>158 | 211=>193 | 212=>194 | 213=>195 | 218=>175 | 219=>176 | 220=>177 | 221=>178 | 222=>179 | 223=>180 | 228=>182 | 229=>183 | 230=>184 | 232=>196 | 233=>197 | 238=>198 | 239=>199 | 240=>200 | 241=>201 | 242=>202 | 245=>206 | 248=>209 | n=>n,fun | 17=>0 | 18=>1 | 19=>2 | n=>n⟩
theorem Tryz.P5D:Go.Proofs.Lays.n166 Tryz.prog Tryz.P4g:={
 mixed:=by kernel_rfl
 f166:=Tryz.func133.trans (congrArg some (by kernel_rfl))
 f240:=Tryz.func144.trans (congrArg some (by kernel_rfl))
 f276:=Tryz.func147.trans (congrArg some (by kernel_rfl))
 t0:=Tryz.underlying0
 a0:=Tryz.isAgg0
 z0:=Tryz.sizeOf0
 v0:=Tryz.zeroValue0
 t3:=Tryz.underlying3
 a3:=Tryz.isAgg3
 z3:=Tryz.sizeOf3
 v3:=Tryz.zeroValue3
 t4:=Tryz.underlying4
 a4:=Tryz.isAgg4
 z4:=Tryz.sizeOf4
 v4:=Tryz.zeroValue4
 t9:=Tryz.underlying9
 a9:=Tryz.isAgg9
 z9:=Tryz.sizeOf9
 v9:=Tryz.zeroValue9
 t20:=Tryz.underlying20
 a20:=Tryz.isAgg20
 z20:=Tryz.sizeOf20
 v20:=Tryz.zeroValue20
 t37:=Tryz.underlying165
 a37:=Tryz.isAgg165
 z37:=Tryz.sizeOf165
 v37:=Tryz.zeroValue165
 t70:=Tryz.underlying164
 a70:=Tryz.isAgg164
 z70:=Tryz.sizeOf164
 v70:=Tryz.zeroValue164
 t72:=Tryz.underlying167
 a72:=Tryz.isAgg167
 z72:=Tryz.sizeOf167
 v72:=Tryz.zeroValue167
 t75:=Tryz.underlying169
 a75:=Tryz.isAgg169
 z75:=Tryz.sizeOf169
 v75:=Tryz.zeroValue169
 t164:=Tryz.underlying185
 a164:=Tryz.isAgg185
 z164:=Tryz.sizeOf185
 v164:=Tryz.zeroValue185 }
theorem Tryz.P5E:Go.Proofs.Lays.n167 Tryz.prog Tryz.P4g:={
 mixed:=by kernel_rfl
 f167:=Tryz.func135.trans (congrArg some (by kernel_rfl))
 f240:=Tryz.func144.trans (congrArg some (by kernel_rfl))
 f276:=Tryz.func147.trans (congrArg some (by kernel_rfl))
 t0:=Tryz.underlying0
 a0:=Tryz.isAgg0
 z0:=Tryz.sizeOf0
 v0:=Tryz.zeroValue0
 t4:=Tryz.underlying4
 a4:=Tryz.isAgg4
 z4:=Tryz.sizeOf4
 v4:=Tryz.zeroValue4
 t5:=Tryz.underlying5
 a5:=Tryz.isAgg5
 z5:=Tryz.sizeOf5
 v5:=Tryz.zeroValue5
 t9:=Tryz.underlying9
 a9:=Tryz.isAgg9
 z9:=Tryz.sizeOf9
 v9:=Tryz.zeroValue9
 t20:=Tryz.underlying20
 a20:=Tryz.isAgg20
 z20:=Tryz.sizeOf20
 v20:=Tryz.zeroValue20
 t37:=Tryz.underlying165
 a37:=Tryz.isAgg165
 z37:=Tryz.sizeOf165
 v37:=Tryz.zeroValue165
 t70:=Tryz.underlying164
 a70:=Tryz.isAgg164
 z70:=Tryz.sizeOf164
 v70:=Tryz.zeroValue164
 t72:=Tryz.underlying167
 a72:=Tryz.isAgg167
 z72:=Tryz.sizeOf167
 v72:=Tryz.zeroValue167
 t75:=Tryz.underlying169
 a75:=Tryz.isAgg169
 z75:=Tryz.sizeOf169
 v75:=Tryz.zeroValue169
 t164:=Tryz.underlying185
 a164:=Tryz.isAgg185
 z164:=Tryz.sizeOf185
 v164:=Tryz.zeroValue185 }
theorem Tryz.P5F:Go.Proofs.Lays.n169 Tryz.prog Tryz.P4g:={
 mixed:=by kernel_rfl
 f169:=Tryz.func136.trans (congrArg some (by kernel_rfl))
 t0:=Tryz.underlying0
 a0:=Tryz.isAgg0
 z0:=Tryz.sizeOf0
 v0:=Tryz.zeroValue0
 t3:=Tryz.underlying3
 a3:=Tryz.isAgg3
 z3:=Tryz.sizeOf3
 v3:=Tryz.zeroValue3
 t9:=Tryz.underlying9
 a9:=Tryz.isAgg9
 z9:=Tryz.sizeOf9
 v9:=Tryz.zeroValue9
 t37:=Tryz.underlying165
 a37:=Tryz.isAgg165
 z37:=Tryz.sizeOf165
 v37:=Tryz.zeroValue165
 t70:=Tryz.underlying164
 a70:=Tryz.isAgg164
 z70:=Tryz.sizeOf164
 v70:=Tryz.zeroValue164
 t72:=Tryz.underlying167
 a72:=Tryz.isAgg167
 z72:=Tryz.sizeOf167
 v72:=Tryz.zeroValue167
 t127:=Tryz.underlying181
 a127:=Tryz.isAgg181
 z127:=Tryz.sizeOf181
 v127:=Tryz.zeroValue181 }
theorem Tryz.P5G:Go.Proofs.Lays.n171 Tryz.prog Tryz.P4g:={
 mixed:=by kernel_rfl
 f129:=Tryz.func130.trans (congrArg some (by kernel_rfl))
 f171:=Tryz.func134.trans (congrArg some (by kernel_rfl))
 f243:=Tryz.func145.trans (congrArg some (by kernel_rfl))
 f246:=Tryz.func148.trans (congrArg some (by kernel_rfl))
 f283:=Tryz.func149.trans (congrArg some (by kernel_rfl))
 f284:=Tryz.func150.trans (congrArg some (by kernel_rfl))
 f285:=Tryz.func151.trans (congrArg some (by kernel_rfl))
 f286:=Tryz.func152.trans (congrArg some (by kernel_rfl))
 f317:=Tryz.func153.trans (congrArg some (by kernel_rfl))
 f318:=Tryz.func154.trans (congrArg some (by kernel_rfl))
 f319:=Tryz.func155.trans (congrArg some (by kernel_rfl))
 f320:=Tryz.func156.trans (congrArg some (by kernel_rfl))
 f337:=Tryz.func157.trans (congrArg some (by kernel_rfl))
 f338:=Tryz.func158.trans (congrArg some (by kernel_rfl))
 t0:=Tryz.underlying0
 a0:=Tryz.isAgg0
 z0:=Tryz.sizeOf0
 v0:=Tryz.zeroValue0
 t2:=Tryz.underlying2
 a2:=Tryz.isAgg2
 z2:=Tryz.sizeOf2
 v2:=Tryz.zeroValue2
 t3:=Tryz.underlying3
 a3:=Tryz.isAgg3
 z3:=Tryz.sizeOf3
 v3:=Tryz.zeroValue3
 t4:=Tryz.underlying4
 a4:=Tryz.isAgg4
 z4:=Tryz.sizeOf4
 v4:=Tryz.zeroValue4
 t5:=Tryz.underlying5
 a5:=Tryz.isAgg5
 z5:=Tryz.sizeOf5
 v5:=Tryz.zeroValue5
 t9:=Tryz.underlying9
 a9:=Tryz.isAgg9
 z9:=Tryz.sizeOf9
 v9:=Tryz.zeroValue9
 t20:=Tryz.underlying20
 a20:=Tryz.isAgg20
 z20:=Tryz.sizeOf20
 v20:=Tryz.zeroValue20
 t37:=Tryz.underlying165
 a37:=Tryz.isAgg165
 z37:=Tryz.sizeOf165
 v37:=Tryz.zeroValue165
 t46:=Tryz.underlying140
 a46:=Tryz.isAgg140
 z46:=Tryz.sizeOf140
 v46:=Tryz.zeroValue140
 t51:=Tryz.underlying160
 a51:=Tryz.isAgg160
 z51:=Tryz.sizeOf160
 v51:=Tryz.zeroValue160
 t53:=Tryz.underlying162
 a53:=Tryz.isAgg162
 z53:=Tryz.sizeOf162
 v53:=Tryz.zeroValue162
 t171:=Tryz.underlying188
 a171:=Tryz.isAgg188
 z171:=Tryz.sizeOf188
 v171:=Tryz.zeroValue188
 t173:=Tryz.underlying190
 a173:=Tryz.isAgg190
 z173:=Tryz.sizeOf190
 v173:=Tryz.zeroValue190
 t212:=Tryz.underlying194
 a212:=Tryz.isAgg194
 z212:=Tryz.sizeOf194
 v212:=Tryz.zeroValue194
 t213:=Tryz.underlying195
 a213:=Tryz.isAgg195
 z213:=Tryz.sizeOf195
 t232:=Tryz.underlying196
 a232:=Tryz.isAgg196
 z232:=Tryz.sizeOf196
 v232:=Tryz.zeroValue196
 t233:=Tryz.underlying197
 a233:=Tryz.isAgg197
 z233:=Tryz.sizeOf197
 v233:=Tryz.zeroValue197
 g17:=by kernel_rfl
 g18:=by kernel_rfl
 g19:=by kernel_rfl }
theorem Tryz.P5H:Go.Proofs.Lays.n189 Tryz.prog Tryz.P4g:={
 mixed:=by kernel_rfl
 f125:=Tryz.func101.trans (congrArg some (by kernel_rfl))
 f128:=Tryz.func129.trans (congrArg some (by kernel_rfl))
 f129:=Tryz.func130.trans (congrArg some (by kernel_rfl))
 f189:=Tryz.func66.trans (congrArg some (by kernel_rfl))
 f215:=Tryz.func143.trans (congrArg some (by kernel_rfl))
 f216:=Tryz.func126.trans (congrArg some (by kernel_rfl))
 f257:=Tryz.func100.trans (congrArg some (by kernel_rfl))
 f294:=Tryz.func120.trans (congrArg some (by kernel_rfl))
 f295:=Tryz.func121.trans (congrArg some (by kernel_rfl))
 f296:=Tryz.func122.trans (congrArg some (by kernel_rfl))
 f297:=Tryz.func123.trans (congrArg some (by kernel_rfl))
 f298:=Tryz.func124.trans (congrArg some (by kernel_rfl))
 f299:=Tryz.func125.trans (congrArg some (by kernel_rfl))
 f300:=Tryz.func127.trans (congrArg some (by kernel_rfl))
 f301:=Tryz.func128.trans (congrArg some (by kernel_rfl))
 f328:=Tryz.func138.trans (congrArg some (by kernel_rfl))
 f329:=Tryz.func139.trans (congrArg some (by kernel_rfl))
 f330:=Tryz.func140.trans (congrArg some (by kernel_rfl))
 f331:=Tryz.func141.trans (congrArg some (by kernel_rfl))
 f332:=Tryz.func142.trans (congrArg some (by kernel_rfl))
 f343:=Tryz.func146.trans (congrArg some (by kernel_rfl))
 t0:=Tryz.underlying0
 a0:=Tryz.isAgg0
 z0:=Tryz.sizeOf0
 v0:=Tryz.zeroValue0
 t3:=Tryz.underlying3
 a3:=Tryz.isAgg3
 z3:=Tryz.sizeOf3
 v3:=Tryz.zeroValue3
 t4:=Tryz.underlying4
 a4:=Tryz.isAgg4
 z4:=Tryz.sizeOf4
 v4:=Tryz.zeroValue4
 t5:=Tryz.underlying5
 a5:=Tryz.isAgg5
 z5:=Tryz.sizeOf5
 v5:=Tryz.zeroValue5
 t9:=Tryz.underlying9
 a9:=Tryz.isAgg9
 z9:=Tryz.sizeOf9
 v9:=Tryz.zeroValue9
 t28:=Tryz.underlying23
 a28:=Tryz.isAgg23
 z28:=Tryz.sizeOf23
 v28:=Tryz.zeroValue23
 t46:=Tryz.underlying140
 a46:=Tryz.isAgg140
 z46:=Tryz.sizeOf140
 v46:=Tryz.zeroValue140
 t51:=Tryz.underlying160
 a51:=Tryz.isAgg160
 z51:=Tryz.sizeOf160
 v51:=Tryz.zeroValue160
 t53:=Tryz.underlying162
 a53:=Tryz.isAgg162
 z53:=Tryz.sizeOf162
 v53:=Tryz.zeroValue162
 t131:=Tryz.underlying86
 a131:=Tryz.isAgg86
 z131:=Tryz.sizeOf86
 v131:=Tryz.zeroValue86
 t182:=Tryz.underlying153
 a182:=Tryz.isAgg153
 z182:=Tryz.sizeOf153
 v182:=Tryz.zeroValue153
 t183:=Tryz.underlying154
 a183:=Tryz.isAgg154
 z183:=Tryz.sizeOf154
 v183:=Tryz.zeroValue154
 t218:=Tryz.underlying175
 a218:=Tryz.isAgg175
 z218:=Tryz.sizeOf175
 v218:=Tryz.zeroValue175
 t222:=Tryz.underlying179
 a222:=Tryz.isAgg179
 z222:=Tryz.sizeOf179
 v222:=Tryz.zeroValue179
 t228:=Tryz.underlying182
 a228:=Tryz.isAgg182
 z228:=Tryz.sizeOf182
 v228:=Tryz.zeroValue182
 t229:=Tryz.underlying183
 a229:=Tryz.isAgg183
 z229:=Tryz.sizeOf183
 v229:=Tryz.zeroValue183 }
theorem Tryz.P5m:Go.Proofs.LaysM.n171 Tryz.prog Tryz.P4g:={ Tryz.P5G with
 i0:=by kernel_rfl
 i2:=by kernel_rfl
 i3:=by kernel_rfl
 i4:=by kernel_rfl
 i5:=by kernel_rfl
 i9:=by kernel_rfl
 i20:=by kernel_rfl
 i37:=by kernel_rfl
 i46:=by kernel_rfl
 i51:=by kernel_rfl
 i53:=by kernel_rfl
 i171:=by kernel_rfl
 i173:=by kernel_rfl
 i212:=by kernel_rfl
 i232:=by kernel_rfl
 i233:=by kernel_rfl
 m17:=by kernel_rfl
 m18:=by kernel_rfl
 m19:=by kernel_rfl }
theorem Tryz.P61:Builder.Extra Tryz.prog Tryz.P4g:={
 sizeBuilder:=by kernel_rfl
 liesBuilder:=by kernel_rfl
 t5:=Tryz.underlying5
 a5:=Tryz.isAgg5
 z5:=Tryz.sizeOf5
 v5:=Tryz.zeroValue5
 infoByte:=by kernel_rfl
 cellsByte:=by kernel_rfl
 sizeByte:=by kernel_rfl
 neB5:=of_decide_eq_true (by kernel_rfl) }
def Tryz.P4r:Go.Shelf.Ren:=⟨fun | 20=>67 | n=>n,fun | 22=>23 | 3=>3 | 4=>4 | 0=>0 | n=>n,fun | n=>n⟩
theorem Tryz.P52:Go.Proofs.Lays2.n20 Tryz.prog Tryz.P4r:={
 mixed:=by kernel_rfl
 f20:=Tryz.func67.trans (congrArg some (by kernel_rfl))
 t0:=Tryz.underlying0
 a0:=Tryz.isAgg0
 z0:=Tryz.sizeOf0
 v0:=Tryz.zeroValue0
 t3:=Tryz.underlying3
 a3:=Tryz.isAgg3
 z3:=Tryz.sizeOf3
 v3:=Tryz.zeroValue3
 t4:=Tryz.underlying4
 a4:=Tryz.isAgg4
 z4:=Tryz.sizeOf4
 v4:=Tryz.zeroValue4
 t22:=Tryz.underlying23
 a22:=Tryz.isAgg23
 z22:=Tryz.sizeOf23
 v22:=Tryz.zeroValue23
 i3:=by kernel_rfl }
theorem Zjm:tO Tryz.prog 66:=vK Tryz.func66 (c:=Tryz.f66.body.getD .skip) (by kernel_rfl) (by kernel_rfl)
theorem Zjn:tO Tryz.prog 67:=vK Tryz.func67 (c:=Tryz.f67.body.getD .skip) (by kernel_rfl) (by kernel_rfl)
theorem ZgC:tO Tryz.prog 133:=vK Tryz.func133 (c:=Tryz.f133.body.getD .skip) (by kernel_rfl) (by kernel_rfl)
theorem ZgE:tO Tryz.prog 135:=vK Tryz.func135 (c:=Tryz.f135.body.getD .skip) (by kernel_rfl) (by kernel_rfl)
theorem ZgF:tO Tryz.prog 136:=vK Tryz.func136 (c:=Tryz.f136.body.getD .skip) (by kernel_rfl) (by kernel_rfl)
theorem ZgD:tO Tryz.prog 134:=vK Tryz.func134 (c:=Tryz.f134.body.getD .skip) (by kernel_rfl) (by kernel_rfl)
theorem ZuJ:Co Tryz.prog 66:=by
 intro S id off ys l K hg hd hne hl hk;have hlen:(l.mergeSort fun x y=>decide (x≤y)).length=l.length:=List.length_mergeSort _;refine aQ.rewrite Zjm hg hd hne hlen (l.mergeSort fun x y=>decide (x≤y)).length (Nat.le_refl _) (fun _ _ _=>.tuple #[]) (.aM []) (.inl ⟨rfl,fun _ _ _=>rfl⟩) (fun b o cap w hH hb hcap=>?_) ?_
 ·exact Any.slices_Sort_int Tryz.P5H b o cap l w hH hb (by omega)
 ·rw[List.take_length];exact hk
theorem ZuH:Cn Tryz.prog 67:=by
 intro S id off ys l K hg hd hne hl hk;have hle:(Lib.compact l).length≤l.length:=Lib.compact_length_le l
 have hpos:0 < (Lib.compact l).length:=by
  obtain⟨x,hx⟩:=List.exists_mem_of_ne_nil _ hne;exact List.length_pos_of_mem (Zm4.mpr hx)
 refine aQ.rewrite Zjn hg hd hne (l':=Lib.compact l++List.replicate (l.length - (Lib.compact l).length) 0) (by simp;omega) (Lib.compact l).length (by simp) (fun b o cap=>.slice (some ⟨b,o,none⟩) (Lib.compact l).length cap) (.own id off (Lib.compact l).length) (.inr ⟨rfl,hpos,fun _ _ _=>rfl⟩) (fun b o cap w hH hb hcap=>?_) ?_
 ·refine(Any.slices_Compact_int Tryz.P52 b o cap l w hH (by omega) hcap).mono ?_
  rintro e w' ⟨rfl,q,rfl⟩;exact⟨rfl,q,#[],(grow_empty _).symm⟩
 ·have:List.take (Lib.compact l).length (Lib.compact l++List.replicate (l.length - (Lib.compact l).length) 0)=Lib.compact l:=by simp
  rw[this];exact hk
theorem Zvw:Bc Tryz.prog 133 135 136 167 5:=
 ⟨ZgC,ZgE,ZgF,
  fun B b bs s w h hl hB=>(Any.Builder_WriteString_k Tryz.P5D Tryz.P61 B b bs s w h hl hB).mono fun e w' ⟨h1,h2,h3,_⟩=>⟨h1,.inr h2,h3⟩,
  fun B b bs c w h hl hB=>(Any.Builder_WriteByte_k Tryz.P5E Tryz.P61 B b bs c w h hl hB).mono fun e w' ⟨h1,h2,h3,_⟩=>⟨h1,.inr h2,h3⟩,
  fun B b l w h hB=>(Any.Builder_String_any_k Tryz.P5F Tryz.P61 B b l w h hB).mono fun e w' ⟨h1,_,h3,_⟩=>⟨h1,h3⟩⟩
theorem ZuI:Da Tryz.prog 134 (fun n=>0≤n∧n < 10000):=by
 refine⟨ZgD,fun H n w hG hH hn=>?_⟩;refine(Any.strconv_Itoa Tryz.P5m n (by omega) (by omega) w (ZqX hG hH (g:=0) (by kernel_rfl))).mono ?_;rintro e w' ⟨h,k,os,rfl⟩;exact⟨h,Lib.below_grow _ w (Nat.le_refl _) k os⟩
end Go.Proofs
namespace Go.Rf
open Go.RowKit
def I7(P:Program)(b:Nat)(x y:AC)(Q:Exit→AF→St→Prop)(a:AF)(S:St)(c:AV):Prop:=
 match c with
 | .v (.bool t)=>if t=true then bG P b x Q a S else bG P b y Q a S
 | _=>False
section
variable{P:Program}{b:Nat}{Q:Exit→AF→St→Prop}{a:AF}{S:St}{os:List aZ}
theorem pQ:bG P b .skip Q a S=Q .normal a S:=by simp only[bG]
theorem oJ(x y:AC):bG P b (.seq x y) Q a S=bG P b x (jE (bG P b y Q) Q) a S:=by simp only[bG]
theorem oH:bG P b (.reg none os) Q a S=RG P S.n os 0 (nK Q) a ⟨S.n+os.length,S.g⟩:=by simp only[bG];rw[kN]
theorem oD(fr:List (List Bool)):bG P b (.reg (some fr) os) Q a S=RD P S.n os fr 0 [] (nK Q) a ⟨S.n+os.length,S.g⟩:=by simp only[bG];rw[kW]
private theorem Zk5 (c:aJ) (x y:AC):bG P b (.cond c x y) Q a S=I7 P b x y Q a S (c.ev a):=rfl
theorem pJ(c:aJ)(x y:AC):bG P b (.cond c x y) Q a S=I7 P b x y Q a S (c.ev a):=by rw[Zk5]
theorem pq(x y:AC):I7 P b x y Q a S (.v (.bool true))=bG P b x Q a S:=by simp[I7]
theorem o8(x y:AC):I7 P b x y Q a S (.v (.bool false))=bG P b y Q a S:=by simp[I7]
theorem pF(id:Nat)(x:AC):bG P b (.block id x) Q a S=bG P b x (l7 id Q) a S:=by simp only[bG]
theorem pK(id:Nat):bG P b (.exit id) Q a S=Q (.exit id) a S:=by simp only[bG]
theorem oI:bG P b .ret Q a S=Q .ret a S:=by simp only[bG]
theorem qm(x:AC):bG P b (.scp x) Q a S=bG P b x (xk Q) a S:=by simp only[bG]
theorem pO(p:Option aJ):bG P b (.mE os p) Q a S=jJ P S.n p os 0 Q a ⟨S.n+os.length,S.g⟩:=by simp only[bG];rw[AL]
theorem oF(ts:List Nat)(R:AV→St→Prop):MP b ts R .ret a S=∃a' S',bR b a S a' S'∧R (uI ts a') S':=by simp only[MP,gG]
theorem o9(ts:List Nat)(R:AV→St→Prop):MP b ts R .normal a S=∃a' S',bR b a S a' S'∧R (uI ts a') S':=by simp only[MP,gG]
end
def Zsh{σ:Type}(b n:Nat)(I:Nat→σ→Prop)(A:Nat→σ→List (Nat×AV))(N:Nat)(G:Nat→σ→List (Nat×Option aF))(k:Nat):AF→St→Prop:=
 fun f S=>k < n∧∃s,I (k+1) s∧bR b f S (jk (A (k+1) s)) ⟨N,bY (G (k+1) s)⟩
theorem wG{P:Program}{b:Nat}{x:AC}{Q:Exit→AF→St→Prop}{f:AF}{S:St}{σ:Type}(n:Nat)(I:Nat→σ→Prop)(A:Nat→σ→List (Nat×AV))(N:Nat)(G:Nat→σ→List (Nat×Option aF))(s0:σ)(hI:I 0 s0)
  (h0:bR b f S (jk (A 0 s0)) ⟨N,bY (G 0 s0)⟩) (h:∀k s,k≤n→I k s→bG P b x (jE (Zsh b n I A N G k) Q) (jk (A k s)) ⟨N,bY (G k s)⟩):bG P b (.loop x) Q f S:=by
 refine⟨fun m f S=>∃k s,k≤n∧m=n - k∧I k s∧f=jk (A k s)∧S=⟨N,bY (G k s)⟩,⟨n,_,_,h0,0,s0,by omega,by omega,hI,rfl,rfl⟩,?_⟩;rintro m f S ⟨k,s,hk,rfl,hi,rfl,rfl⟩;refine BL _ (fun e a S' hq=>?_) (h k s hk hi);cases e<;>simp only[jE] at hq ⊢<;>first | exact hq | skip
 obtain⟨h1,s',h2,h3⟩:=hq;exact⟨n - (k+1),_,_,by omega,h3,k+1,s',by omega,rfl,h2,rfl,rfl⟩
def Zsv{σ:Type}(b:Nat)(I:Nat→σ→Prop)(A:σ→List (Nat×AV))(N:Nat)(G:σ→List (Nat×Option aF))(m:Nat):AF→St→Prop:=
 fun f S=>∃m' s,m' < m∧I m' s∧bR b f S (jk (A s)) ⟨N,bY (G s)⟩
theorem Zk6{P:Program}{b:Nat}{x:AC}{Q:Exit→AF→St→Prop}{f:AF}{S:St}{σ:Type}(I:Nat→σ→Prop)(A:σ→List (Nat×AV))(N:Nat)(G:σ→List (Nat×Option aF))(m:Nat)(s0:σ)(hI:I m s0)
  (h0:bR b f S (jk (A s0)) ⟨N,bY (G s0)⟩) (h:∀m s,I m s→bG P b x (jE (Zsv b I A N G m) Q) (jk (A s)) ⟨N,bY (G s)⟩):bG P b (.loop x) Q f S:=by
 refine⟨fun m f S=>∃s,I m s∧f=jk (A s)∧S=⟨N,bY (G s)⟩,⟨m,_,_,h0,s0,hI,rfl,rfl⟩,?_⟩;rintro m f S ⟨s,hi,rfl,rfl⟩;refine BL _ (fun e a S' hq=>?_) (h m s hi);cases e<;>simp only[jE] at hq ⊢<;>first | exact hq | skip
 obtain⟨m',s',h1,h2,h3⟩:=hq;exact⟨m',_,_,h1,h3,s',h2,rfl,rfl⟩
def Cls(xs:List AV):Prop:=∀x∈xs,aY x
def tN(es:Nat)(xs:List AV):Prop:=∀z∈xs,z.cells.length=es
def wS(xs:List AV):Prop:=∀z∈xs,z.cells=[z]
theorem nu:Cls []↔True:=by simp[Cls]
theorem mY(x:AV)(xs:List AV):Cls (x::xs)↔aY x∧Cls xs:=by simp[Cls]
theorem nk(xs ys:List AV):Cls (xs++ys)↔Cls xs∧Cls ys:=⟨fun h=>⟨fun x hx=>h x (by simp[hx]),fun x hx=>h x (by simp[hx])⟩,fun h x hx=>by rcases List.mem_append.mp hx with hx | hx;exact h.1 x hx;exact h.2 x hx⟩
theorem IZ{X:Type}{enc:X→AV}(h:∀x,aY (enc x))(l:List X):Cls (l.map enc):=by intro y hy;obtain⟨x,_,rfl⟩:=List.mem_map.mp hy;exact h x
theorem jr(l:List Int):Cls (l.map aj):=IZ aW l
theorem lu(l:List Bool):Cls (l.map aH):=IZ dN l
theorem jw(l:List (List Int)):Cls (l.map aA):=IZ aS l
theorem ny(n:Nat)(x:AV):Cls (List.replicate n x)↔n=0∨aY x:=by
 constructor
 ·intro h
  cases n with
  | zero=>exact .inl rfl
  | succ n=>exact .inr (h x (by simp))
 ·rintro(rfl | h) y hy
  ·simp at hy
  ·rw[(List.mem_replicate.mp hy).2];exact h
theorem qp:wS []↔True:=by simp[wS]
theorem pR(x:AV)(xs:List AV):wS (x::xs)↔x.cells=[x]∧wS xs:=by simp[wS]
theorem qo(xs ys:List AV):wS (xs++ys)↔wS xs∧wS ys:=⟨fun h=>⟨fun x hx=>h x (by simp[hx]),fun x hx=>h x (by simp[hx])⟩,fun h x hx=>by rcases List.mem_append.mp hx with hx | hx;exact h.1 x hx;exact h.2 x hx⟩
theorem Xf{X:Type}{enc:X→AV}(h:∀x,(enc x).cells=[enc x])(l:List X):wS (l.map enc):=by intro y hy;obtain⟨x,_,rfl⟩:=List.mem_map.mp hy;exact h x
theorem qG(l:List Int):wS (l.map aj):=Xf (fun _=>rfl) l
theorem qF(l:List Bool):wS (l.map aH):=Xf (fun _=>rfl) l
theorem qC(l:List (List Int)):wS (l.map aA):=Xf (fun _=>rfl) l
theorem qx(es:Nat):tN es []↔True:=by simp[tN]
theorem pU(es:Nat)(x:AV)(xs:List AV):tN es (x::xs)↔x.cells.length=es∧tN es xs:=by simp[tN]
theorem qw(es:Nat)(xs ys:List AV):tN es (xs++ys)↔tN es xs∧tN es ys:=⟨fun h=>⟨fun x hx=>h x (by simp[hx]),fun x hx=>h x (by simp[hx])⟩,fun h x hx=>by rcases List.mem_append.mp hx with hx | hx;exact h.1 x hx;exact h.2 x hx⟩
theorem LX{es:Nat}{X:Type}{enc:X→AV}(h:∀x,(enc x).cells.length=es)(l:List X):tN es (l.map enc):=by intro y hy;obtain⟨x,_,rfl⟩:=List.mem_map.mp hy;exact h x
theorem qI(l:List Int):tN 1 (l.map aj):=LX (enc:=aj) (fun _=>rfl) l
theorem qH(l:List Bool):tN 1 (l.map aH):=LX (enc:=aH) (fun _=>rfl) l
theorem oK(l:List (List Int)):tN 1 (l.map aA):=LX (enc:=aA) (fun _=>rfl) l
section
variable{gF g:Nat→Option aF}{R:Nat→Nat→Prop}
theorem iZ.nil:iZ gF R [] []:=⟨rfl,fun i h=>by simp at h⟩
theorem iZ.cons{x y:AV}{a b:List AV}(h:bQ gF R x y)(k:iZ gF R a b):iZ gF R (x::a) (y::b):=by
 refine⟨by simp[k.1],fun i h1 h2=>?_⟩;cases i with
 | zero=>exact h
 | succ i=>exact k.2 i (by simpa using h1) (by simpa using h2)
theorem bQ.cl{x:AV}(h:aY x):bQ gF R x x:=.fz _ _ (.closed _ h)
theorem iZ.cl{xs:List AV}(h:Cls xs):iZ gF R xs xs:=⟨rfl,fun i h1 _=>.cl (h _ (List.getElem_mem h1))⟩
theorem kM{x y:AV}{a b:List AV}:iZ gF R (x::a) (y::b)↔bQ gF R x y∧iZ gF R a b:=by
 refine⟨fun h=>⟨h.2 0 (by simp) (by simp),by simpa using h.1,fun i h1 h2=>h.2 (i+1) (by simpa using h1) (by simpa using h2)⟩,fun h=>.cons h.1 h.2⟩
theorem kJ:iZ gF R [] []↔True:=⟨fun _=>trivial,fun _=>.nil⟩
theorem nE(x y:Value):bQ gF R (.v x) (.v y)↔x=y:=by
 constructor
 ·intro h
  cases h with
  | fz _ _ h=>cases h;rfl
  | wk _ _ _ h=>cases h;rfl
 ·rintro rfl;exact .cl (.v _)
theorem lZ(id j o o' l l':Nat):bQ gF R (.own id o l) (.own j o' l')↔R j id∧o=o'∧l=l':=by
 constructor
 ·intro h
  cases h with
  | fz _ _ h=>cases h with | closed _ h=>cases h
  | wk _ _ h _=>cases h
  | own _ _ _ _ h=>exact⟨h,rfl,rfl⟩
 ·rintro⟨h,rfl,rfl⟩;exact .own _ _ _ _ h
theorem mZ(id j o o' l l':Nat):bQ gF R (.ptr id o l) (.ptr j o' l')↔R j id∧o=o'∧l=l':=by
 constructor
 ·intro h
  cases h with
  | fz _ _ h=>cases h with | closed _ h=>cases h
  | wk _ _ h _=>cases h
  | ptr _ _ _ _ h=>exact⟨h,rfl,rfl⟩
 ·rintro⟨h,rfl,rfl⟩;exact .ptr _ _ _ _ h
theorem l6(id j:Nat):bQ gF R (.mp id) (.mp j)↔R j id:=by
 constructor
 ·intro h
  cases h with
  | fz _ _ h=>cases h with | closed _ h=>cases h
  | wk _ _ h _=>cases h
  | mp _ _ h=>exact h
 ·intro h;exact .mp _ _ h
theorem kK(cs ds:List AV):bQ gF R (.agg cs) (.agg ds)↔iZ gF R cs ds:=by
 constructor
 ·intro h
  cases h with
  | fz _ _ h=>exact⟨h.cells.1,fun i h1 h2=>.fz _ _ (h.cells.2.2 i h1 h2)⟩
  | wk _ _ hc h=>exact⟨h.f.len,fun i h1 h2=>.wk _ _ (hc.cells _ (List.getElem_mem _)) (h.cells i h1 h2)⟩
  | agg _ _ hl h=>exact⟨hl,h⟩
 ·intro h;exact .agg _ _ h.1 h.2
theorem mF(k:Option aF):Bf gF R k none↔True:=⟨fun _=>trivial,fun _ _ h=>by cases h⟩
theorem jh(es es':Nat)(xs ys:List AV):Bf gF R (some (.arr es xs)) (some (.arr es' ys))↔es=es'∧iZ gF R xs ys:=by
 constructor
 ·intro h
  obtain⟨b,h1,h2⟩:=h _ rfl;cases h1;cases h2 with
  | arr _ _ _ h=>exact⟨rfl,h⟩
 ·rintro⟨rfl,h⟩ b hb
  cases hb;exact⟨_,rfl,.arr _ _ _ h⟩
theorem bQ.loose{t:Bool}{xs:List AV}(h:∀x∈xs,aY x):bQ gF R (.sl t xs) (.sl false xs):=.fz _ _ (.loose t xs (.sl _ _ h))
theorem bQ.sN{F:List Nat}{id es len:Nat}{xs:List AV}(hF:id∈F)(hg:g id=some (.arr es xs))(hl:len=xs.length)(hc:Cls xs):bQ (only F g) R (.own id 0 len) (.sl false xs):=by
 refine .fz _ _ (.own id 0 len es xs xs (by rw[DL,if_pos hF];exact hg) (by omega) hl.symm (fun i h1 h2=>?_));simp only[List.drop_zero,hl,List.take_length];exact .closed _ (hc _ (List.getElem_mem _))
end
theorem nG(o:List (Nat×Nat))(b j i:Nat):JK o b j i↔((j,i)∈o∨(j=i∧i < b)):=Iff.rfl
theorem mH(x:Value):aY (.v x):=.v x
theorem jZ(t:Bool):aY (.sl t []):=.sl _ _ (by simp)
theorem mX(l:List Int):aY (.sl false (l.map aj)):=aS l
theorem mV(l:List (List Int)):aY (.sl false (l.map aA)):=jo l
theorem mW(l:List Bool):aY (.sl false (l.map aH)):=jL l
def vV(o:Bool)(id:Nat)(xs:List AV):AV:=if o=true then .own id 0 xs.length else .sl true xs
def vB(o:Bool)(es:Nat)(xs:List AV):Option aF:=if o=true then some (.arr es xs) else none
theorem bZ(id:Nat)(xs:List AV):vV true id xs=.own id 0 xs.length:=by simp[vV]
theorem jO(id:Nat)(xs:List AV):vV false id xs=.sl true xs:=by simp[vV]
theorem bE(es:Nat)(xs:List AV):vB true es xs=some (.arr es xs):=by simp[vB]
theorem kQ(es:Nat)(xs:List AV):vB false es xs=none:=by simp[vB]
theorem ZnB{S:St}{id es aB len aC:Nat}{xs:List AV}{x:AV}(hg:S.g id=some (.arr es xs))(hl:xs.length=len)(hx:x.cells.length=es)(hok:dF aB len 1) :
  (kP es aB (.own id 0 len) (.sl true [x])).run S aC=some (.own aC 0 (len+1),(S.set id none).set aC (some (.arr es (xs++[x])))):=by
 simp[kP,Eff.run,AV.kF,mq,hx,hok,St.fD,St.iU,hg,hl]
theorem Zkv{S:St}{es aB aC:Nat}{xs:List AV}{x:AV}(hes:tN es xs)(hx:x.cells.length=es)(hok:dF aB xs.length 1) :
  (kP es aB (.sl true xs) (.sl true [x])).run S aC=some (.own aC 0 (xs.length+1),S.set aC (some (.arr es (xs++[x])))):=by
 simp only[kP,Eff.run,AV.kF,mq,List.mapM_nil,Option.pure_def,List.mem_singleton,forall_eq,hx,if_true,Option.bind_some,List.length_cons,List.length_nil,Nat.zero_add];rw[if_pos ⟨hes,hok⟩];simp[St.fD,St.iU]
theorem qL{S:St}{o:Bool}{id es aB aC:Nat}{xs:List AV}{x:AV}(hg:S.g id=vB o es xs)(hes:tN es xs)(hx:x.cells.length=es)(hok:dF aB xs.length 1) :
  (kP es aB (vV o id xs) (.sl true [x])).run S aC=some (.own aC 0 (xs.length+1),(S.set id none).set aC (some (.arr es (xs++[x])))):=by
 cases o with
 | true=>rw[bZ];rw[bE] at hg;exact ZnB hg rfl hx hok
 | false=>
  rw[jO,Zkv hes hx hok];rw[kQ] at hg
  have:S.set id none=S:=by
   cases S with
   | mk n g=>
    simp only[St.set,St.mk.injEq,true_and];funext j;simp only[bF];split
    ·rename_i h;subst h;exact hg.symm
    ·rfl
  rw[this]
theorem pX(t:Bool)(xs:List AV):fq (.sl t xs)=some (.v (.int .i64 xs.length)):=by simp only[fq]
theorem oz(id off len:Nat):fq (.own id off len)=some (.v (.int .i64 len)):=by simp only[fq]
theorem pI(es:Nat)(t:Bool)(xs:List AV)(k:IntKind)(n:Int):dD es (.sl t xs) (.v (.int k n))=.val ((xs[n.toNat]?).bind fun y=>if 0≤n∧y.cells.length=es then some (.bJ y 0) else none):=by simp only[dD]
theorem oZ(es id off len:Nat)(k:IntKind)(n:Int):dD es (.own id off len) (.v (.int k n))=.rd id fun
  | .arr es' xs=>if es'=es∧0≤n∧n < len∧off+len≤xs.length then some (.ptr id (off+n.toNat) 0) else none
  | _=>none:=by simp only[dD];rfl
theorem pE(k:Option Nat)(x:AV)(c:Nat):bW k (.bJ x c)=.val (bq k x c):=by simp only[bW]
theorem ow(k:Option Nat)(id ix c:Nat):bW k (.ptr id ix c)=.rd id fun | .arr _ xs=>(xs[ix]?).bind fun x=>bq k x c | _=>none:=by simp only[bW];rfl
theorem pY(o:Bool)(id:Nat)(xs:List AV):fq (vV o id xs)=some (.v (.int .i64 xs.length)):=by cases o<;>simp[vV,fq]
def vP(o:Bool)(id i:Nat)(xs:List AV):AV:=if o=true then .ptr id i 0 else .bJ (xs[i]?.getD .junk) 0
theorem qM{S:St}{o:Bool}{id es aC:Nat}{xs:List AV}{k:IntKind}{n:Int}(hg:S.g id=vB o es xs)(hn:0≤n)(hlt:n < xs.length)(hes:tN es xs) :
  (dD es (vV o id xs) (.v (.int k n))).run S aC=some (vP o id n.toNat xs,S):=by
 have hl:n.toNat < xs.length:=by omega
 have hx:xs[n.toNat]? = some xs[n.toNat]:=List.getElem?_eq_getElem hl;cases o with
 | true=>rw[bE] at hg;simp[vV,vP,dD,hg,hn,hlt]
 | false=>simp[vV,vP,dD,hx,hn,hes _ (List.getElem_mem hl)]
theorem qK{S:St}{o:Bool}{id i aC:Nat}{xs:List AV}(hg:S.g id=vB o 1 xs)(hx:i < xs.length)(hc:wS xs):(bW none (vP o id i xs)).run S aC=some (xs[i]?.getD .junk,S):=by
 have hx':xs[i]? = some xs[i]:=List.getElem?_eq_getElem hx;have hc':=hc _ (List.getElem_mem hx);cases o with
 | true=>rw[bE] at hg;simp[vP,bW,hg,hx',bq,hc']
 | false=>simp[vP,bW,bq,hc',hx']
def vF(o:Bool)(l:List Nat):List Nat:=if o=true then l else []
theorem oL(o:Bool)(l:List Nat)(j:Nat):j∈vF o l↔o=true∧j∈l:=by cases o<;>simp[vF]
theorem qJ{S:St}{o:Bool}{id es aC:Nat}{xs:List AV}{k:IntKind}{n:Int}(hg:S.g id=vB o es xs)(hn:0≤n)(hlt:n < xs.length)(hes:tN es xs) :
  (dD es (vV o id xs) (.v (.int k n))).runT S aC=some (vP o id n.toNat xs,S,vF o [id],[]):=by
 have hl:n.toNat < xs.length:=by omega
 have hx:xs[n.toNat]? = some xs[n.toNat]:=List.getElem?_eq_getElem hl;cases o with
 | true=>rw[bE] at hg;simp[vV,vP,dD,hg,hn,hlt,dL,vF]
 | false=>simp[vV,vP,dD,hx,hn,hes _ (List.getElem_mem hl),dx,vF]
theorem qA{S:St}{o:Bool}{id i aC:Nat}{xs:List AV}(hg:S.g id=vB o 1 xs)(hx:i < xs.length)(hc:wS xs):(bW none (vP o id i xs)).runT S aC=some (xs[i]?.getD .junk,S,vF o [id],[]):=by
 have hx':xs[i]? = some xs[i]:=List.getElem?_eq_getElem hx;have hc':=hc _ (List.getElem_mem hx);cases o with
 | true=>rw[bE] at hg;simp[vP,bW,hg,hx',bq,hc',dL,vF]
 | false=>simp[vP,bW,bq,hc',hx',dx,vF]
theorem oP{S:St}{o:Bool}{id es aB aC:Nat}{xs:List AV}{x:AV}(hg:S.g id=vB o es xs)(hes:tN es xs)(hx:x.cells.length=es)(hok:dF aB xs.length 1) :
  (kP es aB (vV o id xs) (.sl true [x])).runT S aC=some (.own aC 0 (xs.length+1),(S.set id none).set aC (some (.arr es (xs++[x]))),vF o [id],vF o [id]++[aC]):=by
 cases o with
 | true=>
  rw[bE] at hg;simp[vV,kP,Eff.runT,AV.kF,mq,hx,hok,St.fD,St.iU,hg,vF]
 | false=>
  rw[kQ] at hg
  have:S.set id none=S:=by
   cases S with
   | mk n g=>
    simp only[St.set,St.mk.injEq,true_and];funext j;simp only[bF];split
    ·rename_i h;subst h;exact hg.symm
    ·rfl
  rw[this,jO];simp only[kP,Eff.runT,AV.kF,mq,List.mapM_nil,Option.pure_def,List.mem_singleton,forall_eq,hx,if_true,Option.bind_some,List.length_cons,List.length_nil,Nat.zero_add];rw[if_pos ⟨hes,hok⟩];simp[St.fD,St.iU,vF]
section
variable{gF g:Nat→Option aF}{R:Nat→Nat→Prop}
theorem lQ{o:Bool}{id j:Nat}{xs:List AV}(h:R j id)(hc:Cls xs):bQ gF R (vV o id xs) (vV o j xs):=by
 cases o with
 | true=>rw[bZ,bZ];exact .own _ _ _ _ h
 | false=>rw[jO,jO];exact .cl (.sl _ _ hc)
theorem kX{o:Bool}{es:Nat}{xs:List AV}(hc:Cls xs):Bf gF R (vB o es xs) (vB o es xs):=by
 cases o with
 | true=>rw[bE,jh];exact⟨rfl,.cl hc⟩
 | false=>rw[kQ,mF];trivial
theorem nA{F:List Nat}{id len:Nat}{xs:List AV}(hF:id∈F)(hg:g id=some (.arr 1 xs))(hl:len=xs.length)(hc:Cls xs):bQ (only F g) R (.own id 0 len) (.sl false xs):=.sN hF hg hl hc
theorem mh{F:List Nat}{o:Bool}{id:Nat}{xs:List AV}(hF:id∈F)(hg:g id=vB o 1 xs)(hc:Cls xs):bQ (only F g) R (vV o id xs) (.sl false xs):=by
 cases o with
 | true=>rw[bZ];rw[bE] at hg;exact .sN hF hg rfl hc
 | false=>rw[jO];exact .loose hc
theorem nD{F:List Nat}{o:Bool}{id:Nat}{l:List Int}(hF:id∈F)(hg:g id=vB o 1 (l.map aj)):bQ (only F g) R (vV o id (l.map aj)) (aA l):=mh hF hg (jr l)
theorem nC{F:List Nat}{o:Bool}{id:Nat}{l:List Bool}(hF:id∈F)(hg:g id=vB o 1 (l.map aH)):bQ (only F g) R (vV o id (l.map aH)) (iY l):=mh hF hg (lu l)
theorem ni{F:List Nat}{id len:Nat}{l:List Int}(hF:id∈F)(hg:g id=some (.arr 1 (l.map aj)))(hl:len=l.length):bQ (only F g) R (.own id 0 len) (aA l):=.sN hF hg (by simpa using hl) (jr l)
theorem Bb{o:Bool}{id:Nat}{xs:List AV}(hg:g id=vB o 1 xs)(hc:Cls xs):Fz g (vV o id xs) (.sl false xs):=by
 cases o with
 | true=>
  rw[bZ];rw[bE] at hg;refine .own id 0 xs.length 1 xs xs hg (by omega) rfl (fun i h1 h2=>?_);simp only[List.drop_zero,List.take_length];exact .closed _ (hc _ (List.getElem_mem _))
 | false=>rw[jO];exact .loose true xs (.sl _ _ hc)
theorem mR{a b:List AV}{x y:AV}:iZ gF R (a++[x]) (b++[y])↔iZ gF R a b∧bQ gF R x y:=by
 constructor
 ·intro h
  have hl:b.length=a.length:=by have:=h.1;simpa using this
  refine⟨⟨hl,fun i h1 h2=>?_⟩,?_⟩
  ·have:=h.2 i (by simp;omega) (by simp;omega)
   rwa[List.getElem_append_left h1,List.getElem_append_left h2] at this
  ·have:=h.2 a.length (by simp) (by simp[hl])
   rw[List.getElem_append_right (Nat.le_refl _),List.getElem_append_right (by omega)] at this;simpa[hl] using this
 ·rintro⟨h1,h2⟩
  refine⟨by simp[h1.1],fun i k1 k2=>?_⟩;have hl:=h1.1;by_cases hi:i < a.length
  ·rw[List.getElem_append_left hi,List.getElem_append_left (by omega)]
   exact h1.2 i hi (by omega)
  ·have:i=a.length:=by simp at k1;omega
   subst this;rw[List.getElem_append_right (Nat.le_refl _),List.getElem_append_right (by omega)];simpa[hl] using h2
end
theorem kL(l:List Int):(aA l).cells=[aA l]:=rfl
theorem pG(l:List (List Int)):(aX l).cells=[aX l]:=rfl
theorem pV(l:List Bool):(iY l).cells=[iY l]:=rfl
theorem pW(o:Bool)(id:Nat)(xs:List AV):(vV o id xs).cells=[vV o id xs]:=by cases o<;>simp[vV,AV.cells]
theorem qz(x:Value):(AV.v x).solid=true:=by simp only[AV.solid]
theorem oG(t:Bool)(xs:List AV):(AV.sl t xs).solid=true:=by simp only[AV.solid]
theorem oC(a b c:Nat):(AV.own a b c).solid=true:=by simp only[AV.solid]
theorem qh(a b c:Nat):(AV.ptr a b c).solid=true:=by simp only[AV.solid]
theorem o7(x:AV)(c:Nat):(AV.bJ x c).solid=true:=by simp only[AV.solid]
theorem qd(xs:List AV):(AV.agg xs).solid=true:=by simp only[AV.solid]
theorem qg(f:FuncId)(a b:List AV):(AV.aP f a b).solid=true:=by simp only[AV.solid]
theorem qj(i:Nat):(AV.mp i).solid=true:=by simp only[AV.solid]
theorem kV(l:List Int):(aA l).solid=true:=rfl
theorem p9(l:List (List Int)):(aX l).solid=true:=rfl
theorem p8(l:List Bool):(iY l).solid=true:=rfl
theorem ql(o:Bool)(id:Nat)(xs:List AV):(vV o id xs).solid=true:=by cases o<;>simp[vV,AV.solid]
theorem ru(n:Net):(ji n).solid=true:=rfl
theorem qZ(n:Net):(ji n).cells=[.v (.int .i64 n.signs),aX n.aB,aX n.follow,aA n.last]:=rfl
theorem rA(n:Net):AV.agg [.v (.int .i64 n.signs),aX n.aB,aX n.follow,aA n.last]=ji n:=rfl
theorem q9(d:aD):(aT d).solid=true:=rfl
theorem qY(d:aD):(aT d).cells=[.v (.int .i64 d.signs),aX d.next,iY d.fin]:=rfl
theorem rz(d:aD):AV.agg [.v (.int .i64 d.signs),aX d.next,iY d.fin]=aT d:=rfl
theorem rH(l:List Int):fq (aA l)=some (.v (.int .i64 l.length)):=by simp[aA,fq]
theorem q8(l:List (List Int)):fq (aX l)=some (.v (.int .i64 l.length)):=by simp[aX,fq]
theorem rG(l:List Bool):fq (iY l)=some (.v (.int .i64 l.length)):=by simp[iY,fq]
theorem rO{S:St}{aC:Nat}{l:List Int}{k:IntKind}{n:Int}(hn:0≤n)(hlt:n < l.length):(dD 1 (aA l) (.v (.int k n))).run S aC=some (.bJ (aj (l.getD n.toNat 0)) 0,S):=by
 have hl:n.toNat < l.length:=by omega
 simp[aA,dD,hn,List.getElem?_eq_getElem hl,List.getD_eq_getElem?_getD,AV.cells,aj]
theorem rE{S:St}{aC:Nat}{l:List (List Int)}{k:IntKind}{n:Int}(hn:0≤n)(hlt:n < l.length):(dD 1 (aX l) (.v (.int k n))).run S aC=some (.bJ (aA (l.getD n.toNat [])) 0,S):=by
 have hl:n.toNat < l.length:=by omega
 simp[aX,dD,hn,List.getElem?_eq_getElem hl,List.getD_eq_getElem?_getD,AV.cells,aA]
theorem rM{S:St}{aC:Nat}{l:List Bool}{k:IntKind}{n:Int}(hn:0≤n)(hlt:n < l.length):(dD 1 (iY l) (.v (.int k n))).run S aC=some (.bJ (aH (l.getD n.toNat false)) 0,S):=by
 have hl:n.toNat < l.length:=by omega
 simp[iY,dD,hn,List.getElem?_eq_getElem hl,List.getD_eq_getElem?_getD,AV.cells,aH]
theorem rD{S:St}{aC:Nat}{l:List Int}{k:IntKind}{n:Int}(hn:0≤n)(hlt:n < l.length):(dD 1 (aA l) (.v (.int k n))).runT S aC=some (.bJ (aj (l.getD n.toNat 0)) 0,S,[],[]):=by
 have hl:n.toNat < l.length:=by omega
 simp[aA,dD,hn,List.getElem?_eq_getElem hl,List.getD_eq_getElem?_getD,AV.cells,aj,dx]
theorem rJ{S:St}{aC:Nat}{l:List (List Int)}{k:IntKind}{n:Int}(hn:0≤n)(hlt:n < l.length):(dD 1 (aX l) (.v (.int k n))).runT S aC=some (.bJ (aA (l.getD n.toNat [])) 0,S,[],[]):=by
 have hl:n.toNat < l.length:=by omega
 simp[aX,dD,hn,List.getElem?_eq_getElem hl,List.getD_eq_getElem?_getD,AV.cells,aA,dx]
theorem rC{S:St}{aC:Nat}{l:List Bool}{k:IntKind}{n:Int}(hn:0≤n)(hlt:n < l.length):(dD 1 (iY l) (.v (.int k n))).runT S aC=some (.bJ (aH (l.getD n.toNat false)) 0,S,[],[]):=by
 have hl:n.toNat < l.length:=by omega
 simp[iY,dD,hn,List.getElem?_eq_getElem hl,List.getD_eq_getElem?_getD,AV.cells,aH,dx]
def cB(p:Int×Int):AV:=.agg [.v (.int .i64 p.1),.v (.int .i64 p.2)]
theorem Qb(p:Int×Int):(cB p).solid=true:=rfl
theorem yE(p:Int×Int):(cB p).cells=[.v (.int .i64 p.1),.v (.int .i64 p.2)]:=rfl
theorem yD(p:Int×Int):aY (cB p):=.agg _ (aK (.v _) (aK (.v _) aU))
theorem QB(l:List (Int×Int)):tN 2 (l.map cB):=LX (enc:=cB) (fun _=>rfl) l
theorem AQ(l:List (Int×Int)):Cls (l.map cB):=IZ yD l
def vQ(o:Bool)(id i c:Nat)(xs:List AV):AV:=if o=true then .ptr id i c else .bJ (xs[i]?.getD .junk) c
theorem RL{o:Bool}{id i:Nat}{xs:List AV}{k:IntKind}{n:Int}(h0:0≤n)(h1:n < 2):gD 2 1 (vP o id i xs) (.v (.int k n))=some (vQ o id i n.toNat xs):=by
 cases o<;>simp[gD,vP,vQ,h0,h1]
section
variable{S:St}{o:Bool}{id i aC:Nat}{l:List (Int×Int)}
theorem TF(hg:S.g id=vB o 2 (l.map cB))(hx:i < l.length):(bW none (vQ o id i 0 (l.map cB))).run S aC=some (.v (.int .i64 l[i].1),S):=by
 cases o with
 | true=>rw[bE] at hg;simp[vQ,bW,hg,hx,bq,yE]
 | false=>simp[vQ,bW,bq,hx,yE]
theorem TG(hg:S.g id=vB o 2 (l.map cB))(hx:i < l.length):(bW none (vQ o id i 1 (l.map cB))).run S aC=some (.v (.int .i64 l[i].2),S):=by
 cases o with
 | true=>rw[bE] at hg;simp[vQ,bW,hg,hx,bq,yE]
 | false=>simp[vQ,bW,bq,hx,yE]
theorem Sk(hg:S.g id=vB o 2 (l.map cB))(hx:i < l.length):(bW (some 2) (vP o id i (l.map cB))).run S aC=some (cB l[i],S):=by
 cases o with
 | true=>rw[bE] at hg;simp[vP,bW,hg,hx,bq,cB,AV.cells]
 | false=>simp[vP,bW,bq,hx,cB,AV.cells]
theorem Sl(hg:S.g id=vB o 2 (l.map cB))(hx:i < l.length):(bW none (vQ o id i 0 (l.map cB))).runT S aC=some (.v (.int .i64 l[i].1),S,vF o [id],[]):=by
 cases o with
 | true=>rw[bE] at hg;simp[vQ,bW,hg,hx,bq,yE,dL,vF]
 | false=>simp[vQ,bW,bq,hx,yE,dx,vF]
theorem Sm(hg:S.g id=vB o 2 (l.map cB))(hx:i < l.length):(bW none (vQ o id i 1 (l.map cB))).runT S aC=some (.v (.int .i64 l[i].2),S,vF o [id],[]):=by
 cases o with
 | true=>rw[bE] at hg;simp[vQ,bW,hg,hx,bq,yE,dL,vF]
 | false=>simp[vQ,bW,bq,hx,yE,dx,vF]
theorem RN(hg:S.g id=vB o 2 (l.map cB))(hx:i < l.length):(bW (some 2) (vP o id i (l.map cB))).runT S aC=some (cB l[i],S,vF o [id],[]):=by
 cases o with
 | true=>rw[bE] at hg;simp[vP,bW,hg,hx,bq,cB,AV.cells,dL,vF]
 | false=>simp[vP,bW,bq,hx,cB,AV.cells,dx,vF]
end
theorem MF(p q:Int×Int):dW true [0,1] (cB p) (cB q)=some (.v (.bool (decide (p≠q)))):=by
 obtain⟨a,b⟩:=p;obtain⟨c,d⟩:=q;by_cases h1:a=c
 ·subst h1
  by_cases h2:b=d
  ·subst h2;simp[dW,cB,dn]
  ·simp[dW,cB,dn,h2]
 ·simp[dW,cB,dn,h1]
theorem QN(p:Int×Int)(x y:Int):dW true [0,1] (cB p) (.agg [.v (.int .i64 x),.v (.int .i64 y)])=some (.v (.bool (decide (p≠(x,y))))):=MF p (x,y)
def Gq(l:List UInt8):Nat:=l.foldl (fun a b=>10*a+(b.toNat - 48)) 0
theorem Zpi(l:List UInt8)(b:UInt8):Gq (l++[b])=10*Gq l+(b.toNat - 48):=by simp[Gq]
theorem IB{d:Nat}(h:d < 10):(UInt8.ofNat (48+d)).toNat=48+d:=by
 rw[UInt8.toNat_ofNat'];omega
theorem Ib(n:Nat):Gq (Lib.decDigits n)=n∧∀b∈Lib.decDigits n,b≠32:=by
 induction n using Nat.strongRecOn with
 | _ n ih=>
  rw[Lib.decDigits];split
  ·rename_i h
   refine⟨?_,?_⟩
   ·have:=IB h
    simp only[Gq,List.foldl_cons,List.foldl_nil];omega
   ·intro b hb e
    simp only[List.mem_cons,List.not_mem_nil,or_false] at hb;have:=IB h;rw[←hb,e] at this;have h32:(32:UInt8).toNat=32:=rfl;omega
  ·rename_i h
   obtain⟨h1,h2⟩:=ih (n / 10) (by omega);have hd:n % 10 < 10:=Nat.mod_lt _ (by omega);refine⟨?_,?_⟩
   ·rw[Zpi,h1,IB hd];omega
   ·intro b hb e
    rcases List.mem_append.mp hb with hb | hb
    ·exact h2 b hb e
    ·simp only[List.mem_cons,List.not_mem_nil,or_false] at hb
     have:=IB hd;rw[←hb,e] at this;have h32:(32:UInt8).toNat=32:=rfl;omega
theorem XD{b:UInt8}:∀{xs ys us vs:List UInt8},(∀x∈xs,x≠b)→(∀y∈ys,y≠b)→xs++b::us=ys++b::vs→xs=ys∧us=vs
 | [],[],us,vs,_,_,h=>by simp at h;exact⟨rfl,h⟩
 | [],y::ys,us,vs,_,hy,h=>by simp at h;exact(hy y (by simp) h.1.symm).elim
 | x::xs,[],us,vs,hx,_,h=>by simp at h;exact(hx x (by simp) h.1).elim
 | x::xs,y::ys,us,vs,hx,hy,h=>by
  simp only[List.cons_append,List.cons.injEq] at h;obtain⟨h1,h2⟩:=XD (fun z hz=>hx z (by simp[hz])) (fun z hz=>hy z (by simp[hz])) h.2;exact⟨by rw[h.1,h1],h2⟩
def uT(l:List Int):Prop:=∀n∈l,0≤n
theorem L6{n:Int}(h:0≤n):Lib.itoa n=Lib.decDigits n.toNat:=by unfold Lib.itoa;rw[if_neg (by omega)]
theorem Lr(n:Int)(l:List Int):jQ (n::l)=Lib.itoa n++32::jQ l:=by simp[jQ]
theorem Zgf:∀{l m:List Int},uT l→uT m→jQ l=jQ m→l=m
 | [],[],_,_,_=>rfl
 | [],n::m,_,_,h=>by rw[Lr] at h;simp[jQ] at h
 | n::l,[],_,_,h=>by rw[Lr] at h;simp[jQ] at h
 | n::l,k::m,hl,hm,h=>by
  have hn:=hl n (by simp);have hk:=hm k (by simp);rw[Lr,Lr,L6 hn,L6 hk] at h;obtain⟨h1,h2⟩:=XD (Ib _).2 (Ib _).2 h;have:=congrArg Gq h1;rw[(Ib _).1,(Ib _).1] at this;rw[Zgf (fun z hz=>hl z (by simp[hz])) (fun z hz=>hm z (by simp[hz])) h2];congr 1;omega
def tY:Nat→List (List Int)→List (AV×AV)
 | _,[]=>[]
 | k,s::ss=>(sF (jQ s),aj k)::tY (k+1) ss
theorem Zpq(a b:Array UInt8):((⟨a⟩:ByteArray) == ⟨b⟩)=(a == b):=rfl
theorem ZlM(l m:List Int)(hl:uT l)(hm:uT m):tu (sF (jQ l)) (sF (jQ m))=decide (l=m):=by
 have:tu (sF (jQ l)) (sF (jQ m))=((⟨(jQ l).toArray⟩:ByteArray) == ⟨(jQ m).toArray⟩):=rfl;rw[this,Zpq];by_cases h:l=m
 ·subst h;simp
 ·simp only[h,decide_false,beq_eq_false_iff_ne,ne_eq]
  intro e;refine h (Zgf hl hm ?_);simpa using e
theorem Zfp{x:List Int}(hx:uT x):∀(ss:List (List Int)) (k:Nat),(∀s∈ss,uT s)→tq (sF (jQ x)) (tY k ss)=if x∈ss then some (aj (k+ss.idxOf x:Nat)) else none
 | [],k,h=>by simp[tY,tq]
 | s::ss,k,h=>by
  simp only[tY,tq];rw[ZlM x s hx (h s (by simp)),Zfp hx ss (k+1) (fun z hz=>h z (by simp[hz]))];by_cases hs:x=s
  ·subst hs;simp
  ·have hs':s≠x:=fun e=>hs e.symm
   simp only[hs,decide_false,Bool.false_eq_true,if_false,List.mem_cons,false_or];by_cases hm:x∈ss
   ·rw[if_pos hm,if_pos hm,List.idxOf_cons,show(s == x)=false by simpa using hs',cond_false]
    congr 2;omega
   ·rw[if_neg hm,if_neg hm]
theorem ZiS{x:List Int}(hx:uT x):∀(ss:List (List Int)) (k:Nat),(∀s∈ss,uT s)→x∉ss→oV (sF (jQ x)) (aj (k+ss.length:Nat)) (tY k ss)=tY k (ss++[x])
 | [],k,h,_=>by simp[tY,oV]
 | s::ss,k,h,hn=>by
  simp only[List.mem_cons,not_or] at hn;simp only[tY,oV,List.cons_append];rw[ZlM x s hx (h s (by simp)),if_neg (by simpa using hn.1)];have:=ZiS hx ss (k+1) (fun z hz=>h z (by simp[hz])) hn.2;rw[←this];congr 3;simp only[List.length_cons];omega
theorem Wd(x:List Int):∀(ss:List (List Int)) (k:Nat),isK .str (sF (jQ x))=true∧∀e∈tY k ss,isK .str e.1=true
 | [],k=>⟨rfl,by simp[tY]⟩
 | s::ss,k=>⟨rfl,fun e he=>by
  simp only[tY,List.mem_cons] at he;rcases he with rfl | he
  ·rfl
  ·exact(Wd x ss (k+1)).2 e he⟩
theorem aN.P5I{P:Program}(hm:P.follows .mixedOrders=true){f:FuncId}{fn:Func}{c:Code}{X:AC}{d:Nat}{Y:AC}{t:Nat}{T e:TypeId}(hf:P.funcs[f]? = some fn)(hnm:(fn.name == "runtime.NumGoroutine")=false)(hb:fn.body=some c)
  (hc:comp P fn.ntmps c=some (.seq X (sq [⟨some d,.alloc JF 2,none,none⟩] Y))) (hT:FC c=some T) (hr:fn.results=([t].map ResultVar.tmp).toArray) {args:List AV} (hn:args.length≤fn.ntmps) {r:Value} (hrs:zG r=true) {A:List (Nat×AV)}
  (h0:bG P 0 X (fun e a S=>e=.normal∧bR 0 a S (jk A) ⟨0,bY []⟩) (bP args) S0)
  (h1:∀E B w w0,BE E B B→jI P E.H→kT E.H w→wD T e B B w0 [] w→lV P E Y (fun ex a w'=>(ex=.ret∨ex=.normal)∧a t=.v r∧Below B w0 w') ((jk A).put (some d) (.ptr 0 0 0)) w):aN P f args (.v r):=by
 refine⟨vK hf hnm hb,fun H w vals hG hH hv=>?_⟩;obtain⟨c0,c1,rfl,hc0,hc1⟩:=Pk hc;obtain⟨c2,c3,rfl,hc2,hc3⟩:=Pk hc1;have hF:=AA hv hn;refine calls_of_wp hf hb (wp_seq (wp_mono (VR (b:=0) (BS hm) Fg c0 _ hc0 _ _ _ h0 ⟨uM,H⟩ w _ hG (Nat.zero_le _) (Yy hH) hF) fun ex qU w1 hp=>?_));obtain⟨a0,S1,TJ,⟨rfl,habs⟩,hS1,JU,Na⟩:=hp;obtain⟨E1,hS2,hF1,wO⟩:=habs TJ w1 qU _ (Nat.zero_le _) hS1 JU;have ev:=Na.trans wO;have hE1:Am E1 w1:=⟨fun b cs e=>hS2.hH b cs e,fun id _=>hS2.fresh id (Nat.zero_le _)⟩;have hρ1:∀id,E1.ρ id=none:=fun id=>hS2.fresh id (Nat.zero_le _)
 have aa4:Below w.heap.size w w1:=⟨ev.os,ev.tape,ev.output,ev.size,fun k hk=>ev.keep k hk (fun id l B hB=>by simp[S0] at hB)⟩
 have hsub:∀b cs,E1.H b=some cs→H b=some cs∨w.heap.size≤b:=by
  intro b cs e;rcases ev.hsub b cs e with h2 | h2 | ⟨jg,l0,k0,h2,_⟩
  ·exact .inl h2
  ·exact .inr h2
  ·simp[S0] at h2
 refine wp_seq (wp_mono (ZeV (e:=e) hc2 hF1 hρ1 hE1.hH (T:=T) (fun id ops e=>?_)) fun ex jq w2 hp=>?_)
 ·subst e
  simp only[FC] at hT;split at hT
  ·rename_i o ho
   refine⟨o,ho,?_⟩;split at hT
   ·rename_i t' ht
    cases hT;exact ht
   ·cases hT
  ·cases hT
 obtain⟨rfl,rfl,hE2,hF2,hB⟩:=hp;have hbe:BE ⟨fun i=>if i=0 then some ⟨w1.heap.size,0,2,1⟩ else none,E1.H⟩ w1.heap.size w1.heap.size:=⟨rfl,fun c cs e=>by obtain⟨el,fz,hw⟩:=hE1.hH c cs e;exact(Array.getElem?_eq_some_iff.mp hw).1⟩;refine wp_mono (VW c3 _ hc3 _ _ _ (h1 _ _ _ w1 hbe (hG.sub ev.Ep) hE2.hH hB) _ hE2 hF2) fun ex Gt w3 hp=>?_
 obtain⟨a3,⟨hex,hat,hbel⟩,Ei,YZ⟩:=hp;have hres:=Lj (P:=P) hr Gt.tmps w3;have hrep:=IJ Ei [t];simp only[uI,hat] at hrep;have hval:=hrep.jl;have aaH:Below w.heap.size w w3:=aa4.trans ⟨hbel.os,hbel.tape,hbel.output,hbel.size,fun k hk=>hbel.block k (Nat.lt_of_lt_of_le hk aa4.size)⟩
 have fin:bodyPost P fn (fun e w'=>∃v H',e=.returned v∧(∀b cs,H b=some cs→H' b=some cs)∧(∀b cs,H' b=some cs→H b=some cs∨w.heap.size≤b)∧kT H' w'∧aL ⟨uM,H'⟩ (.v r) v∧Below w.heap.size w w') .ret Gt w3:=
  ⟨Ei.defers,_,hres,_,E1.H,rfl,ev.Ep,hsub,YZ.hH,by rw[hval];exact .v _ hrs,aaH⟩
 rcases hex with rfl | rfl
 ·exact fin
 ·exact fin
structure AY{K:Type}[DecidableEq K](d:KK)(good:K→Prop)(enc:K→AV):Prop where
 k:∀x,isK d (enc x)=true
 eq:∀x y,good x→good y→tu (enc x) (enc y)=decide (x=y)
def iW{K:Type}(enc:K→AV):Nat→List K→List (AV×AV)
 | _,[]=>[]
 | k,x::xs=>(enc x,aj k)::iW enc (k+1) xs
theorem Zfl{K:Type}(enc:K→AV):∀(k:Nat) (ks:List K),(iW enc k ks).length=ks.length
 | _,[]=>rfl
 | k,x::xs=>by simp[iW,Zfl enc (k+1) xs]
section
variable{K:Type}[DecidableEq K]{d:KK}{good:K→Prop}{enc:K→AV}
theorem Lu(h:AY d good enc):∀(ks:List K) (k:Nat),∀e∈iW enc k ks,isK d e.1=true
 | [],k=>by simp[iW]
 | x::xs,k=>fun e he=>by
  simp only[iW,List.mem_cons] at he;rcases he with rfl | he
  ·exact h.k x
  ·exact Lu h xs (k+1) e he
theorem X7(h:AY d good enc){x:K}(hx:good x):∀(ks:List K) (k:Nat),(∀s∈ks,good s)→tq (enc x) (iW enc k ks)=if x∈ks then some (aj (k+ks.idxOf x:Nat)) else none
 | [],k,_=>by simp[iW,tq]
 | s::ss,k,hs=>by
  simp only[iW,tq];rw[h.eq x s hx (hs s (by simp)),X7 h hx ss (k+1) (fun z hz=>hs z (by simp[hz]))];by_cases e:x=s
  ·subst e;simp
  ·have e':s≠x:=fun e2=>e e2.symm
   simp only[e,decide_false,Bool.false_eq_true,if_false,List.mem_cons,false_or];by_cases hm:x∈ss
   ·rw[if_pos hm,if_pos hm,List.idxOf_cons,show(s == x)=false by simpa using e',cond_false]
    congr 2;omega
   ·rw[if_neg hm,if_neg hm]
theorem Yx(h:AY d good enc){x:K}(hx:good x):∀(ks:List K) (k:Nat),(∀s∈ks,good s)→x∉ks→oV (enc x) (aj (k+ks.length:Nat)) (iW enc k ks)=iW enc k (ks++[x])
 | [],k,_,_=>by simp[iW,oV]
 | s::ss,k,hs,hn=>by
  simp only[List.mem_cons,not_or] at hn;simp only[iW,oV,List.cons_append];rw[h.eq x s hx (hs s (by simp)),if_neg (by simpa using hn.1)];have:=Yx h hx ss (k+1) (fun z hz=>hs z (by simp[hz])) hn.2;rw[←this];congr 3;simp only[List.length_cons];omega
theorem Yh(h:AY d good enc){ks:List K}{x:K}(hx:good x)(hs:∀s∈ks,good s){km aC:Nat}{S:St}(hg:S.g km=some (.map (iW enc 0 ks))) :
  (AU d (.v (.int .i64 0)) true (.mp km) (enc x)).run S aC=some (.aM [.v (.int .i64 (if x∈ks then (ks.idxOf x:Int) else 0)),.v (.bool (decide (x∈ks)))],S):=by
 have hk:=Lu h ks 0;simp only[AU,Eff.Ar,hg,Option.bind_some,if_pos (show isK d (enc x)=true∧∀e∈iW enc 0 ks,isK d e.1=true from⟨h.k x,hk⟩),X7 h hx ks 0 hs];by_cases hin:x∈ks
 ·simp[hin,aj]
 ·simp[hin]
theorem Ro(h:AY d good enc){ks:List K}{x:K}(hx:good x)(hs:∀s∈ks,good s)(hn:x∉ks){km aC:Nat}{S:St}(hg:S.g km=some (.map (iW enc 0 ks))) :
  (Ch d (.mp km) (enc x) (.v (.int .i64 ks.length))).run S aC=some (.junk,S.set km (some (.map (iW enc 0 (ks++[x]))))):=by
 have hk:=Lu h ks 0;have h2:=Yx h hx ks 0 hs hn;rw[Nat.zero_add] at h2;have h':oV (enc x) (.v (.int .i64 ks.length)) (iW enc 0 ks)=iW enc 0 (ks++[x]):=h2;simp only[Ch,Eff.HZ,hg,Option.bind_some,if_pos (show isK d (enc x)=true∧∀e∈iW enc 0 ks,isK d e.1=true from⟨h.k x,hk⟩),h',Option.map_some]
theorem Zve{ks:List K}{km aC:Nat}{S:St}(hg:S.g km=some (.map (iW enc 0 ks))):(Je (.mp km)).run S aC=some (.v (.int .i64 ks.length),S):=by
 simp[Je,hg,Zfl]
end
def RO(es:List (AV×AV)):Prop:=∀e∈es,aY e.1∧aY e.2
theorem zH{K:Type}{enc:K→AV}(h:∀x,aY (enc x)):∀(ks:List K) (k:Nat),RO (iW enc k ks)
 | [],k=>by simp[RO,iW]
 | x::xs,k=>fun e he=>by
  simp only[iW,List.mem_cons] at he;rcases he with rfl | he
  ·exact⟨h x,aW _⟩
  ·exact zH h xs (k+1) e he
theorem zD{gF:Nat→Option aF}{R:Nat→Nat→Prop}{es:List (AV×AV)}(h:RO es):Bf gF R (some (.map es)) (some (.map es)):=by
 intro b hb;cases hb;exact⟨_,rfl,.map _ _ rfl (fun i h1 _=>⟨.cl (h _ (List.getElem_mem h1)).1,.cl (h _ (List.getElem_mem h1)).2⟩)⟩
def yh:Nat→Option aF:=fun _=>none
def EP(o:List (Nat×Nat))(N n:Nat)(out inn:Nat):Prop:=(inn < N∧(inn,out)∈o)∨(N≤inn∧out=n+(inn - N))
theorem aQ.frame{P:Program}{f:FuncId}{args:List AV}{S:St}{K:AV→St→Prop}(N:Nat)(o:List (Nat×Nat))(G:List (Nat×Option aF))(Zk:List AV)(K0:AV→St→Prop)
  (ho:o.Pairwise fun p q=>p.1≠q.1∧p.2≠q.2) (SY:∀p∈o,p.1 < N∧p.2 < S.n)
  (hG:∀p∈G,p.2=none∨∃i,(p.1,i)∈o∧Bf yh (fun j i=>(j,i)∈o) (S.g i) p.2)
  (hargs:iZ yh (fun j i=>(j,i)∈o) args Zk)
  (h:aQ P f Zk ⟨N,bY G⟩ K0)
  (hk:∀r1 S1,N≤S1.n→K0 r1 S1→∃r S',K r S'∧bQ yh (EP o N S.n) r1 r∧S'.n=S.n+(S1.n - N)∧
   ∀i b,S'.g i=some b→((∀p∈o,p.2≠i)∧S.g i=some b)∨∃j,EP o N S.n i j∧Bf yh (EP o N S.n) (S1.g j) (some b)):aQ P f args S K:=by
 refine⟨h.1,fun E w vals aay hS hv=>?_⟩
 let ρ2:Nat→Option Loc:=fun j=>if j < N then match o.lookup j with | some i=>E.ρ i | none=>none else none
 let E2:Env:=⟨ρ2,E.H⟩
 have hR:∀j i l,(j,i)∈o→E.ρ i=some l→E2.ρ j=some l:=by
  intro j i l hji hl;show ρ2 j=some l
  simp only[ρ2];rw[if_pos (SY _ hji).1,IC ho hji];exact hl
 have hrep:∀{x y:AV},bQ yh (fun j i=>(j,i)∈o) x y→∀{v:Value},aL E x v→aL E2 y v:=fun h _ hv=>
  bQ.rep (E2:=E2) hS (gF:=yh) (fun i k e=>by cases e) (fun _ _ e=>e) (fun id es xs l e=>by cases e) hR h hv
 have hlive:∀j k',bY G j=some k'→∃i k,(j,i)∈o∧S.g i=some k∧Gd yh (fun j i=>(j,i)∈o) k k':=by
  intro j k' h;rcases hG _ (Xk h) with h1 | ⟨i,h1,h2⟩
  ·simp at h1
  ·obtain⟨k,h3,h4⟩:=h2 k' rfl
   exact⟨i,k,h1,h3,h4⟩
 have hS2:bf E2 ⟨N,bY G⟩ w:=by
  refine⟨hS.hH,fun j k' e=>?_,fun j1 j2 k1 k2 l1 l2 e1 e2 hne r1 r2=>?_,fun j hj=>?_⟩
  ·obtain⟨i,k,h1,h2,h3⟩:=hlive j k' e
   obtain⟨l,a1,a2,a3⟩:=hS.live i k h2;exact⟨l,hR j i l h1 a1,a2,h3.ok hrep a3⟩
  ·obtain⟨i1,b1,p1,p2,_⟩:=hlive j1 k1 e1
   obtain⟨i2,b2,q1,q2,_⟩:=hlive j2 k2 e2;obtain⟨m1,a1,_⟩:=hS.live i1 b1 p2;obtain⟨m2,a2,_⟩:=hS.live i2 b2 q2;have c1:=hR j1 i1 m1 p1 a1;have c2:=hR j2 i2 m2 q1 a2;rw[c1] at r1;cases r1;rw[c2] at r2;cases r2;exact hS.nL i1 i2 b1 b2 _ _ p2 q2 (Ztq ho p1 q1 hne) a1 a2
  ·have hj:N≤j:=hj
   show ρ2 j=none
   simp only[ρ2];rw[if_neg (by omega)]
 have hv2:kC E2 Zk vals:=by
  refine⟨by rw[hv.1,hargs.1],fun j hj=>?_⟩;have hj':j < args.length:=by have:=hargs.1;omega
  exact hrep (hargs.2 j hj' hj) (hv.2 j hj')
 refine(h.2 E2 w vals aay hS2 hv2).mono ?_;rintro e w' ⟨v,r1,S1,E1,rfl,hK,hS1,hr1,ev⟩;have hN1:N≤S1.n:=ev.jP;obtain⟨r,S',k1,k2,k3,k4⟩:=hk r1 S1 hN1 hK
 let ρ3:Nat→Option Loc:=fun i=>if i < S.n then E.ρ i else E1.ρ (N+(i - S.n))
 let E3:Env:=⟨ρ3,E1.H⟩
 have hlow:∀i l,E.ρ i=some l→i < S.n:=fun i l hl=>by
  rcases Nat.lt_or_ge i S.n with h1 | h1
  ·exact h1
  ·rw[hS.fresh i h1] at hl;cases hl
 have wQ:∀j i,(j,i)∈o→E1.ρ j=E.ρ i:=by
  intro j i hji
  have e2:E2.ρ j=E.ρ i:=by
   show ρ2 j=E.ρ i
   simp only[ρ2];rw[if_pos (SY _ hji).1,IC ho hji]
  cases hl:E.ρ i with
  | some l=>exact ev.bX.le.1 j l (by rw[e2,hl])
  | none=>exact ev.low j (SY _ hji).1 (by rw[e2,hl])
 have GD:∀out inn l,EP o N S.n out inn→E1.ρ inn=some l→E3.ρ out=some l:=by
  intro out inn l hio hl;show ρ3 out=some l
  simp only[ρ3];rcases hio with⟨h1,h2⟩ | ⟨h1,rfl⟩
  ·rw[if_pos (SY _ h2).2,←wQ _ _ h2];exact hl
  ·rw[if_neg (by omega),show N+(S.n+(inn - N) - S.n)=inn by omega];exact hl
 have aal:∀{x y:AV},bQ yh (EP o N S.n) x y→∀{v:Value},aL E1 x v→aL E3 y v:=fun h _ hv=>
  bQ.rep (E2:=E3) hS1 (gF:=yh) (fun i k e=>by cases e) (fun _ _ e=>e) (fun id es xs l e=>by cases e) GD h hv
 have hle:E.le E3:=by
  refine⟨fun i l hl=>?_,fun b cs e=>ev.bX.le.2 b cs e⟩;show ρ3 i=some l
  simp only[ρ3];rw[if_pos (hlow i l hl)];exact hl
 have hout:∀i k l,S.g i=some k→E.ρ i=some l→(∀p∈o,p.2≠i)→w'.heap[l.b]? = w.heap[l.b]?∧E1.H l.b=none:=by
  intro i k l hgi hl hno;obtain⟨l',a1,a2,a3⟩:=hS.live i k hgi;rw[hl] at a1;cases a1
  have hfr:∀id l0 k0,(St.mk N (bY G)).g id=some k0→E2.ρ id=some l0→l0.b≠l.b:=by
   intro id l0 k0 b1 b2;obtain⟨i2,kk,h1,h2,h3⟩:=hlive id k0 b1;obtain⟨m2,c1,_⟩:=hS.live i2 kk h2;have:=hR id i2 m2 h1 c1;rw[this] at b2;cases b2;exact hS.nL i2 i kk k _ _ h2 hgi (fun e=>hno _ h1 e) c1 hl
  refine⟨ev.bX.keep l.b a3.lt hfr,?_⟩;cases e:E1.H l.b with
  | none=>rfl
  | some cs=>
   exfalso;rcases ev.bX.hsub _ _ e with h1 | h1 | ⟨jg,l0,k0,b1,b2,b3⟩
   ·have h1':E.H l.b=some cs:=h1
    rw[a2] at h1';cases h1'
   ·have:=a3.lt;omega
   ·exact hfr jg l0 k0 b1 b2 b3
 have hgrow:∀j k l,S1.g j=some k→E1.ρ j=some l→w.heap.size≤l.b∨∃jg l0 k0,S.g jg=some k0∧E.ρ jg=some l0∧l0.b=l.b∧∃jj,(jj,jg)∈o:=by
  intro j k l b1 b2;rcases ev.bX.grow j l k b1 b2 with h1 | ⟨jg,l0,k0,c1,c2,c3⟩
  ·exact .inl h1
  ·obtain⟨i2,kk,h1,h2,h3⟩:=hlive jg k0 c1
   obtain⟨m2,d1,_⟩:=hS.live i2 kk h2;have:=hR jg i2 m2 h1 d1;rw[this] at c2;cases c2;exact .inr ⟨i2,_,kk,h2,d1,c3,_,h1⟩
 have hinj:∀i1 i2 j1 j2,EP o N S.n i1 j1→EP o N S.n i2 j2→i1≠i2→j1≠j2:=by
  rintro i1 i2 j1 j2 h1 h2 hne rfl;rcases h1 with⟨a1,a2⟩ | ⟨a1,a2⟩<;>rcases h2 with⟨b1,b2⟩ | ⟨b1,b2⟩
  ·have e1:=IC ho a2
   have e2:=IC ho b2;rw[e1] at e2;cases e2;exact hne rfl
  ·omega
  ·omega
  ·omega
 refine⟨v,r,S',E3,rfl,k1,⟨fun b cs e=>hS1.hH b cs e,fun i b e=>?_,fun i1 i2 b1 b2 l1 l2 e1 e2 hne r1 r2=>?_,fun i hi=>?_⟩,aal k2 hr1,?_⟩
 ·rcases k4 i b e with⟨h2,h3⟩ | ⟨j,h1,h2⟩
  ·obtain⟨l,a1,a2,a3⟩:=hS.live i b h3
   obtain⟨c1,c2⟩:=hout i b l h3 a1 h2;exact⟨l,hle.1 i l a1,c2,a3.mono hle c1⟩
  ·obtain⟨k,h3,h4⟩:=h2 b rfl
   obtain⟨l,a1,a2,a3⟩:=hS1.live j k h3;exact⟨l,GD i j l h1 a1,a2,h4.ok aal a3⟩
 ·rcases k4 i1 b1 e1 with⟨h2,h3⟩ | ⟨j1,h1,h2⟩<;>rcases k4 i2 b2 e2 with⟨g2,g3⟩ | ⟨j2,g1,g2⟩
  ·obtain⟨m1,a1,_⟩:=hS.live i1 b1 h3
   obtain⟨m2,a2,_⟩:=hS.live i2 b2 g3;have c1:=hle.1 i1 m1 a1;have c2:=hle.1 i2 m2 a2;rw[c1] at r1;cases r1;rw[c2] at r2;cases r2;exact hS.nL i1 i2 b1 b2 _ _ h3 g3 hne a1 a2
  ·obtain⟨m1,a1,_,a3⟩:=hS.live i1 b1 h3
   have c1:=hle.1 i1 m1 a1;rw[c1] at r1;cases r1;obtain⟨k,g3,g4⟩:=g2 b2 rfl;obtain⟨m2,a2,_⟩:=hS1.live j2 k g3;have c2:=GD i2 j2 m2 g1 a2;rw[c2] at r2;cases r2;rcases hgrow j2 k _ g3 a2 with h5 | ⟨jg,l0,k0,d1,d2,d3,jj,d4⟩
   ·have:=a3.lt;omega
   ·rw[←d3]
    exact hS.nL i1 jg b1 k0 _ _ h3 d1 (fun e=>h2 _ d4 e.symm) a1 d2
  ·obtain⟨m2,a2,_,a3⟩:=hS.live i2 b2 g3
   have c2:=hle.1 i2 m2 a2;rw[c2] at r2;cases r2;obtain⟨k,h3,h4⟩:=h2 b1 rfl;obtain⟨m1,a1,_⟩:=hS1.live j1 k h3;have c1:=GD i1 j1 m1 h1 a1;rw[c1] at r1;cases r1;rcases hgrow j1 k _ h3 a1 with h5 | ⟨jg,l0,k0,d1,d2,d3,jj,d4⟩
   ·have:=a3.lt;omega
   ·rw[←d3]
    exact hS.nL jg i2 k0 b2 _ _ d1 g3 (fun e=>g2 _ d4 e) d2 a2
  ·obtain⟨k,h3,h4⟩:=h2 b1 rfl
   obtain⟨m1,a1,_⟩:=hS1.live j1 k h3;have c1:=GD i1 j1 m1 h1 a1;rw[c1] at r1;cases r1;obtain⟨k2,g3,g4⟩:=g2 b2 rfl;obtain⟨m2,a2,_⟩:=hS1.live j2 k2 g3;have c2:=GD i2 j2 m2 g1 a2;rw[c2] at r2;cases r2;exact hS1.nL j1 j2 k k2 _ _ h3 g3 (hinj _ _ _ _ h1 g1 hne) a1 a2
 ·show ρ3 i=none
  simp only[ρ3];rw[if_neg (by omega)];exact hS1.fresh _ (by omega)
 ·refine⟨⟨ev.bX.os,ev.bX.tape,ev.bX.output,ev.bX.size,fun b hb hno=>?_,fun i l b e hl=>?_,hle,fun b cs e=>?_⟩,by omega,fun i hi e=>?_⟩
  ·refine ev.bX.keep b hb fun id l0 k0 b1 b2=>?_
   obtain⟨i2,kk,h1,h2,h3⟩:=hlive id k0 b1;obtain⟨m2,c1,_⟩:=hS.live i2 kk h2;have:=hR id i2 m2 h1 c1;rw[this] at b2;cases b2;exact hno i2 _ kk h2 c1
  ·rcases k4 i b e with⟨h2,h3⟩ | ⟨j,h1,h2⟩
   ·obtain⟨m1,a1,_⟩:=hS.live i b h3
    have c1:=hle.1 i m1 a1;rw[c1] at hl;cases hl;exact .inr ⟨i,_,b,h3,a1,rfl⟩
   ·obtain⟨k,h3,h4⟩:=h2 b rfl
    obtain⟨m1,a1,_⟩:=hS1.live j k h3;have c1:=GD i j m1 h1 a1;rw[c1] at hl;cases hl;rcases hgrow j k _ h3 a1 with h5 | ⟨jg,l0,k0,d1,d2,d3,_⟩
    ·exact .inl h5
    ·exact .inr ⟨jg,l0,k0,d1,d2,d3⟩
  ·rcases ev.bX.hsub b cs e with h1 | h1 | ⟨jg,l0,k0,b1,b2,b3⟩
   ·exact .inl h1
   ·exact .inr (.inl h1)
   ·obtain⟨i2,kk,h1,h2,h3⟩:=hlive jg k0 b1
    obtain⟨m2,c1,_⟩:=hS.live i2 kk h2;have:=hR jg i2 m2 h1 c1;rw[this] at b2;cases b2;exact .inr (.inr ⟨i2,_,kk,h2,c1,b3⟩)
  ·show ρ3 i=none
   simp only[ρ3];rw[if_pos hi];exact e
def LV(g:Nat→Option aF)(v:AV)(xs:List AV):Prop:=(∃t,v=.sl t xs)∨Vec g v 1 xs
theorem LV.frame{g g':Nat→Option aF}{v:AV}{xs:List AV}(h:LV g v xs)(hs:∀i∈v.ids,g' i=g i):LV g' v xs:=by
 rcases h with h | h
 ·exact .inl h
 ·exact .inr (h.frame hs)
theorem LV.cell{g:Nat→Option aF}{v:AV}{xs:List AV}(h:LV g v xs):v.cells=[v]∧v.solid=true:=by
 rcases h with⟨t,rfl⟩ | h
 ·exact⟨rfl,rfl⟩
 ·exact h.cel
theorem LV.len{g:Nat→Option aF}{v:AV}{xs:List AV}(h:LV g v xs):fq v=some (.v (.int .i64 xs.length)):=by
 rcases h with⟨t,rfl⟩ | ⟨rfl,rfl⟩ | ⟨id,off,ys,rfl,_,_,_⟩<;>rfl
theorem LV.idx{g:Nat→Option aF}{v:AV}{xs:List AV}(h:LV g v xs){i:Nat}(hi:i < xs.length)(h1:(xs[i]).cells.length=1)(hs:(xs[i]).cells=[xs[i]]) :
  ∃p,(∀n aC,(dD 1 v (.v (.int .i64 (i:Int)))).run ⟨n,g⟩ aC=some (p,⟨n,g⟩))∧∀n aC,(bW none p).run ⟨n,g⟩ aC=some (xs[i],⟨n,g⟩):=by
 have hi0:(0:Int)≤(i:Int):=by omega
 rcases h with⟨t,rfl⟩ | ⟨rfl,rfl⟩ | ⟨id,off,ys,rfl,h2,h3,h4⟩
 ·refine⟨.bJ xs[i] 0,fun n aC=>?_,fun n aC=>?_⟩
  ·simp[dD,hi,h1]
  ·simp[bW,bq,hs]
 ·simp at hi
 ·have hget:ys[off+i]? = some xs[i]:=by
   have:(ys.drop off)[i]? = some xs[i]:=by rw[h4];simp[List.getElem?_eq_getElem hi]
   rwa[List.getElem?_drop] at this
  have hle:off+xs.length≤ys.length:=by have:=congrArg List.length h4;simp at this;omega
  refine⟨.ptr id (off+i) 0,fun n aC=>?_,fun n aC=>?_⟩
  ·simp[dD,hi,h2,hle]
  ·simp[bW,bq,hs,h2,hget]
theorem Zc6{n:Net}{i:Nat}(h:i < n.follow.length):n.follow.getD i []=n.follow[i]:=by
 rw[List.getD_eq_getElem?_getD,List.getElem?_eq_getElem h];rfl
def FU(n:Net)(p q s:Int):Prop:=0≤p∧p < n.follow.length∧q∈n.follow.getD p.toNat []∧uZ n s q=true
theorem IG{n:Net}{a:List Int}{s q:Int}:q∈qR n a s↔∃p∈a,FU n p q s:=by
 unfold qR qy BP FU;rw[vS,List.mem_flatMap];constructor
 ·rintro⟨p,hp,h⟩
  split at h
  ·rename_i hb
   have:=List.mem_filter.mp h;exact⟨p,hp,hb.1,hb.2,this.1,this.2⟩
  ·simp at h
 ·rintro⟨p,hp,h1,h2,h3,h4⟩
  exact⟨p,hp,by rw[if_pos ⟨h1,h2⟩];exact List.mem_filter.mpr ⟨h3,h4⟩⟩
def Jz(n:Net):Int→List Int→Prop
 | p,[]=>p∈n.last
 | p,s::l=>∃q,FU n p q s∧Jz n q l
theorem ZhD{n:Net}:∀(l a:List Int),(∃q∈l.foldl (qR n) a,q∈n.last)↔∃p∈a,Jz n p l
 | [],a=>Iff.rfl
 | s::l,a=>by
  rw[List.foldl_cons,ZhD l (qR n a s)];constructor
  ·rintro⟨q,h1,h2⟩
   obtain⟨p,h3,h4⟩:=IG.mp h1;exact⟨p,h3,q,h4,h2⟩
  ·rintro⟨p,h3,q,h4,h2⟩
   exact⟨q,IG.mpr ⟨p,h3,h4⟩,h2⟩
theorem Znw{n:Net}{l:List Int}:yO n l=true↔qQ n=true∧Jz n 0 l:=by
 unfold yO vo;rw[Bool.and_eq_true,List.any_eq_true];refine and_congr_right (fun _=>?_);have:=ZhD (n:=n) l [0];simp only[List.mem_singleton,exists_eq_left] at this;rw[←this];constructor
 ·rintro⟨q,h1,h2⟩;exact⟨q,h1,by simpa using h2⟩
 ·rintro⟨q,h1,h2⟩;exact⟨q,h1,by simpa using h2⟩
theorem Ws(n:Net)(l:List Int)(s:Int):vo n (l++[s])=qR n (vo n l) s:=by
 unfold vo;rw[List.foldl_append];rfl
end Go.Rf
namespace Go.Rf
theorem Vw{P:Program}(hm:P.follows .mixedOrders=true){f fg:FuncId}{es aB:Nat}{z:AV}(hg:Mq P fg es z)(hb:aB≤1000)(h:Is P f (LG es aB fg) [2] 1){X:Type}{enc:X→AV}(hcl:∀x,aY (enc x))(hce:∀x,(enc x).cells.length=es)
  (L:List (Bool×List X)) (hL:L.length≤1000) (ht:(L.map fun p=>p.2.length).sum≤1000000):aN P f [.sl true (L.map fun p=>.sl p.1 (p.2.map enc))] (.sl false ((L.flatMap (·.2)).map enc)):=by
 have e:AV.sl true (L.map fun p=>AV.sl p.1 (p.2.map enc))=Ga (L.map fun p=>(p.1,p.2.map enc)):=by simp[Ga]
 rw[e];refine .uQ (ZeP hm hg hb h (fun p hp x hx=>?_) (by simpa using hL) (by simpa[wL,Function.comp_def] using ht) (fun v S' ho=>?_))
 ·obtain⟨q,hq,rfl⟩:=List.mem_map.mp hp
  obtain⟨y,_,rfl⟩:=List.mem_map.mp hx;exact hce y
 ·obtain⟨_,_,hv,_⟩:=ho
  have e2:(L.map fun p=>(p.1,p.2.map enc)).flatMap (·.2)=(L.flatMap (·.2)).map enc:=by
   rw[List.flatMap_map,List.map_flatMap]
  rw[e2] at hv;exact hv.fz hcl
end Go.Rf
namespace Go.Rf
open Go.RowKit
def cst:aJ→Option AV
 | .c x=>some x
 | .t _=>none
def JH(P:Program)(op:Op):Option jA:=
 match op with
 | .buildSlice t m ps=>match Qy ps,wY P t with
  | some qs,some p=>match qs.mapM (fun q=>(cst q.2).map fun x=>(q.1,x)) with
   | some cs=>match dz p.2.1 (List.replicate m p.1) cs with
    | some xs=>if 0 < xs.length∧m*p.2.1≤16777216 then some (.app p.2.1 p.2.2 (.c (.sl true [])) (.c (.sl true xs))) else none
    | none=>none
   | none=>none
  | _,_=>none
 | _=>none
def Ma(P:Program)(n:Nat)(ops:Array Oper)(o:Oper):Option aZ:=
 match JH P o.op with
 | some op=>if Rt n o.dst=true then (Ce ops o).map fun g=>⟨o.dst,op,g,none⟩ else none
 | none=>nW P n ops o
theorem Zjh{P:Program}{n:Nat}{ops:Array Oper}{o:Oper}{ao:aZ}(h:Ma P n ops o=some ao) :
  (∀d,o.dst=some d→d < n)∧ao.dst=o.dst∧Ce ops o=some ao.guard∧((∃p,ao.call=some p∧CJ o.op=some p)∨(ao.call=none∧(cop P o.op=some ao.op∨JH P o.op=some ao.op))):=by
 unfold Ma at h;split at h
 ·rename_i op hop
  split at h
  ·rename_i hd
   have hd':∀d,o.dst=some d→d < n:=fun d e=>by rw[e] at hd;simpa[Rt] using hd
   simp only[Option.map_eq_some_iff] at h;obtain⟨g,h2,rfl⟩:=h;exact⟨hd',rfl,h2,.inr ⟨rfl,.inr hop⟩⟩
  ·cases h
 ·obtain⟨h1,h2,h3,h4⟩:=Fb h
  exact⟨h1,h2,h3,h4.imp id fun h=>⟨h.1,.inl h.2⟩⟩
theorem ZhV{P:Program}{op:Op}{ao:jA}(h:JH P op=some ao):∃t m ps qs z es aB cs xs,op=.buildSlice t m ps∧Qy ps=some qs∧wY P t=some (z,es,aB)∧qs.mapM (fun q=>(cst q.2).map fun x=>(q.1,x))=some cs∧
  dz es (List.replicate m z) cs=some xs∧0 < xs.length∧m*es≤16777216∧ao=.app es aB (.c (.sl true [])) (.c (.sl true xs)):=by
 unfold JH at h;split at h
 ·rename_i t m ps
  split at h
  ·rename_i qs p hq hp
   obtain⟨z,es,aB⟩:=p;split at h
   ·rename_i cs hc
    split at h
    ·rename_i xs hx
     split at h
     ·rename_i hh
      cases h;exact⟨t,m,ps,qs,z,es,aB,cs,xs,rfl,hq,hp,hc,hx,hh.1,hh.2,rfl⟩
     ·cases h
    ·cases h
   ·cases h
  ·cases h
 ·cases h
theorem Zpv{a:AF}:∀{qs:List (Nat×aJ)} {cs:List (Nat×AV)},qs.mapM (fun q=>(cst q.2).map fun x=>(q.1,x))=some cs→(qs.map fun q=>(q.1,q.2.ev a))=cs
 | [],cs,h=>by simp at h;subst h;rfl
 | (i,x)::qs,cs,h=>by
  simp only[List.mapM_cons,Option.bind_eq_bind,Option.bind_eq_some_iff,Option.pure_def,Option.some.injEq,Option.map_eq_some_iff] at h;obtain⟨c,⟨y,hy,rfl⟩,cs',h2,rfl⟩:=h;rw[List.map_cons,Zpv h2];cases x with
  | t _=>simp[cst] at hy
  | c z=>simp only[cst,Option.some.injEq] at hy;subst hy;simp only[aJ.ev]
theorem Zo6{P:Program}{op:Op}{ao:jA}(h:JH P op=some ao){a:AF}{k:AV→Prop}(hn:sJ ao a k):False:=by
 obtain⟨t,m,ps,qs,z,es,aB,cs,xs,_,_,_,_,_,_,_,rfl⟩:=ZhV h;simp only[sJ] at hn
section
variable{P:Program}{n:Nat}{o:Oper}{a:AF}{S:St}{aC:Nat}{v:AV}
theorem ZqJ(hd:∀d,o.dst=some d→d < n){ao:jA}(hc:JH P o.op=some ao){S':St}(h:(ex ao a).run S aC=some (v,S')):iO P n o a S aC v S':=by
 obtain⟨t,m,ps,qs,z,es,aB,cs,xs,hop,hq,ht,hcs,hf,hx0,hms,rfl⟩:=ZhV hc;have hqc:=Zpv (a:=a) hcs;obtain⟨e,i,hu,hz,hi,hb⟩:=Ih ht;obtain⟨_,_,q1,q2,q3,q4,q5,q6,q7⟩:=Ls hz;have yg:∀x∈List.replicate m z,x.cells.length=es:=by intro x hx;rw[(List.mem_replicate.mp hx).2];exact q5
 obtain⟨f1,f2,f3⟩:=VA _ _ _ yg hf
 have hv:v=.own aC 0 xs.length∧S'=S.set aC (some (.arr es xs)):=by
  have h3:mq es [] (.sl true xs)=some xs:=by simp only[mq];rw[if_pos f2]
  have hne:¬xs.length=0:=by omega
  simp only[ex,aJ.ev,kP,Eff.run,AV.kF,List.mapM_nil,Option.pure_def,h3,Option.bind_some] at h;by_cases hap:dF aB 0 xs.length
  ·rw[if_pos ⟨by simp,by simpa using hap⟩,if_neg hne] at h
   simp only[Option.some.injEq,Prod.mk.injEq] at h;obtain⟨rfl,rfl⟩:=h;exact⟨by simp,by simp[St.fD,St.iU]⟩
  ·rw[if_neg (fun hh=>hap (by simpa using hh.2))] at h
   cases h
 obtain⟨rfl,rfl⟩:=hv;refine iO.alloc (f:=fun i=>.own i 0 xs.length) hd (by rw[hop];rfl) f2 fun E w act hS hF=>?_
 obtain⟨i',zv,g1,g2,g3,g4,g5⟩:=Az (E:=E) hz;rw[hi] at g1;cases g1;obtain⟨p1,p2⟩:=WV hF hq;have hl0:=r9 yg;simp only[List.length_replicate] at hl0
 have hstart:JE E (flat (List.replicate m z)) ((Array.range (m*es)).map (zv.cells[· % zv.cells.size]!)):=by
  refine⟨by simp[hl0],?_,LB g4 q5 m m (Nat.le_refl _)⟩;intro y hy;obtain⟨x,hx,hyx⟩:=List.mem_flatMap.mp hy;rw[(List.mem_replicate.mp hx).2] at hyx;exact g4.2.1 y hyx
 let ps':=ps.map fun p=>(p.1,act.eval p.2)
 obtain⟨cells',e1,e2⟩:=LY (fun j=>some (j*es,es)) ps'.toList ((qs.map fun q=>(q.1,q.2.ev a)).map fun p=>(p.1*es,es,p.2)) _ _ _ hstart (by simp[ps'];simpa using p1)
  (fun j hj hj'=>by
   simp only[ps',Array.toList_map,List.length_map] at hj hj';obtain⟨a1,a2⟩:=p2 j hj (by omega);simp only[ps',Array.toList_map,List.getElem_map];exact⟨by rw[a1],a2⟩) (by rw[hqc];exact f1)
 have hrun:(execOp act.eval o).run P w=.ok (.value (.slice (some ⟨w.heap.size,0,none⟩) m m)) (w.alloc (.cells cells' e)):=by
  simp only[execOp,hop];by_cases h0:m*i.size=0
  ·have h00:m*es=0:=by rw[←g3];exact h0
   have YQ:Instr.fill (fun j=>some (j*i.size,i.size)) #[] ps'.toList=some cells':=by
    rw[g3,←e1];congr 1;rw[h00];simp[Array.range_zero']
   simp[Instr.buildSlice,run_underlying hu,uz hi,h0,newRow,Array.range_zero'];have Gx:Instr.fill (fun j=>some (j*i.size,i.size)) #[] (List.map (fun x=>(x.1,act.eval x.2)) ps.toList)=some cells':=by simpa[ps'] using YQ
   rw[Gx];simp
  ·have hle:¬(m*i.size > 16777216):=by rw[g3];omega
   have Gx:Instr.fill (fun j=>some (j*i.size,i.size)) ((Array.range (m*i.size)).map (zv.cells[· % zv.cells.size]!)) (List.map (fun x=>(x.1,act.eval x.2)) ps.toList)=some cells':=by
    rw[g3];simpa[ps'] using e1
   simp[Instr.buildSlice,run_underlying hu,uz hi,h0,newRow,zeroValue,typeInfo,hi,g2];rw[if_neg (by omega)];simp[Gx]
 have hxl:xs.length=m:=by rw[f3];simp
 have hfl:=r9 f2;have hcz:cells'.size=m*es:=by rw[e2.1,hfl,hxl]
 refine⟨_,cells',e,m,w,rfl,hS,.refl _ _ _,hrun,e2.2.1,by omega,by omega,e2.2.2,fun E' he=>?_⟩;rw[hxl];exact .own aC 0 m (some ⟨w.heap.size,0,none⟩) m _ he (Nat.le_refl _) (fun _=>⟨by simp,by simp⟩)
end
theorem Wp{P:Program}{n:Nat}{ops:Array Oper}{base:Nat}{Q:Exit→AF→St→Prop}{E0:Env}{S0:St}{w0:World}(hG0:jI P E0.H)(hb:S0.n≤base) :
  ∀(os:List aZ) (i:Nat) (a:AF) (S:St),(∀k (hk:k < os.length),∃o,ops[i+k]? = some o∧Ma P n ops o=some (os[k]))→RG P base os i (fun a S=>Q .normal a S) a S→
   ∀E w act,bf E S w→fu E n a act→(∀k,i≤k→k < i+os.length→E.ρ (base+k)=none∧base+k < S.n)→Ev E0 S0 w0 E S w→
    wpOps P ops (nZ E0 S0 w0 n Q) (List.range' i os.length) act w
 | [],i,a,S,_,h,E,w,act,hS,hF,_,hE=>⟨a,S,E,h,hS,hF,hE⟩
 | ao::os,i,a,S,hc,h,E,w,act,hS,hF,hr,hE=>by
  obtain⟨o,ho,hco⟩:=hc 0 (by simp);simp only[Nat.add_zero,List.getElem_cons_zero] at ho hco;obtain⟨hd,hdst,hgd,hor⟩:=Zjh hco
  have hc':∀k (hk:k < os.length),∃o,ops[i+1+k]? = some o∧Ma P n ops o=some (os[k]):=by
   intro k hk;obtain⟨o',h1,h2⟩:=hc (k+1) (by simpa using hk);exact⟨o',by rw[←h1];congr 1;omega,by simpa using h2⟩
  have hr0:=hr i (Nat.le_refl _) (by simp);simp only[List.length_cons,List.range'_succ,wpOps,ho];simp only[RG] at h;split at h
  ·exact h.elim
  ·rename_i hg
   rw[zy hF hgd hg];simp only[Bool.false_eq_true,if_false];rw[hdst] at h;exact Wp hG0 hb os (i+1) _ S hc' h E w _ hS (hF.put hd Lv) (fun k h1 h2=>hr k (by omega) (by simp;omega)) hE
  ·rename_i hg
   rw[zy hF hgd hg];simp only[if_true];left;rw[hdst] at h
   have next:∀{r:AV} {S':St} {act':Act} {w':World} {E':Env},RG P base os (i+1) (fun a S=>Q .normal a S) (a.put o.dst r) S'→bf E' S' w'→fu E' n (a.put o.dst r) act'→Ev E0 S0 w0 E' S' w'→
     (∀k,i < k→k < i+(os.length+1)→E'.ρ (base+k)=none∧base+k < S'.n)→wpOps P ops (nZ E0 S0 w0 n Q) (List.range' (i+1) os.length) act' w':=
    fun h1 h2 h3 h4 h5=>Wp hG0 hb os (i+1) _ _ hc' h1 _ _ _ h2 h3 (fun k a1 a2=>h5 k (by omega) (by omega)) h4
   have hcall:∀{f:FuncId} {args:List AV} {vals:Array Value},aQ P f args S (fun r S'=>RG P base os (i+1) (fun a S=>Q .normal a S) (a.put o.dst r) S')→kC E args vals→
     (execOp act.eval o).run P w=.ok (.enter f vals) w→o.wp P act w (wpOps P ops (nZ E0 S0 w0 n Q) (List.range' (i+1) os.length)) (nZ E0 S0 w0 n Q):=by
    intro f args vals h1 h2 h3;refine Pz hd h1 (hG0.le hE.bX.le) hS hF h2 h3 fun r S' act' w' E' k1 k2 k3 k4=>next k1 k2 k3 (hE.trans k4) fun k a1 a2=>?_
    obtain⟨b1,b2⟩:=hr k (by omega) (by simp;omega);exact⟨k4.low _ b2 b1,Nat.lt_of_lt_of_le b2 k4.jP⟩
   rcases hor with⟨p,hp1,hp2⟩ | ⟨hp1,hop⟩
   ·
    rw[hp1] at h;obtain⟨G,xs⟩:=p;simp only at h;unfold CJ at hp2;split at hp2
    ·rename_i g ys ts wQ
     simp only[Option.bind_eq_some_iff,Option.map_eq_some_iff,Prod.mk.injEq] at hp2;obtain⟨G',hG,XS,Ae,rfl,rfl⟩:=hp2;have rg:=bT hF hG;split at h
     ·rename_i f first cap Af
      rw[Af] at rg;generalize hev:act.eval g=gv at rg;cases rg with
      | aP _ _ _ fv cv hn hm hf hcc=>
       have hx:=Ie hF Ae;have hargs:kC E (first++XS.map (·.ev a)++cap) (fv++ys.map act.eval++cv):=(kC.append ⟨hn,hf⟩ hx).append ⟨hm,hcc⟩;refine hcall h hargs ?_;simp only[execOp,wQ,Sem.run_bind,ER act.eval g ys ts o.type hev,Result.andThen_ok,invoke];exact ES h.1 _ _
     ·exact h.elim
    ·cases hp2
   ·rw[hp1] at h
    simp only at h;split at h
    ·rename_i v S' hex
     have hok:iO P n o a S (base+i) v S':=hop.elim (fun h1=>I8 (P:=P) (n:=n) (o:=o) hd h1 hex) (fun h1=>ZqJ (P:=P) (n:=n) (o:=o) hd h1 hex);have hn:=Eff.OV hex;refine hok E w act hS hF hr0.1 hr0.2 _ _ fun act' w' E' k1 k2 k3 k4=>next h k1 k2 ⟨hE.bX.trans k3,by have:=hE.jP;omega,fun id hid e=>k4.2 id (by omega) (hE.low id hid e)⟩ fun k a1 a2=>?_
     ·obtain⟨b1,b2⟩:=hr k (by omega) (by simp;omega)
      exact⟨k4.2 _ (by omega) b1,by omega⟩
    ·have hop:cop P o.op=some ao.op:=hop.elim id fun h1=>(Zo6 h1 h).elim
     obtain⟨b,g1,g2⟩:=Qq hop h hF w;unfold Oper.wp;rw[g2,Oper.upon_value];exact next g1 hS (hF.put hd (.v _ rfl)) hE fun k a1 a2=>hr k (by omega) (by simp;omega)
def MV(P:Program)(n:Nat)(draw:Bool)(ops:Array Oper):AC:= if draw=true then wm P n draw ops else match ops.toList.mapM (Ma P n ops) with | some os=>.reg none os | none=>.bad
def ZsP(P:Program)(n:Nat)(c:Code):Option AC:=eF MV P n c
theorem ZrJ{P:Program}(hm:P.follows .mixedOrders=true){n:Nat}:FW P n MV:=by
 intro id ops dr Q a S h;unfold MV at h;split at h
 ·exact BS hm id ops dr Q a S h
 ·rename_i hdr
  simp only[Bool.not_eq_true] at hdr;subst hdr;split at h
  ·rename_i ys hy
   obtain⟨h1,h2⟩:=AB hy;have hlen:ys.length=ops.size:=by rw[h1];simp
   intro E w act hG hS hF;simp only[AW] at h;refine wp_region ?_
   have:=Wp (P:=P) (n:=n) (ops:=ops) (base:=S.n) (E0:=E) (S0:=S) (w0:=w) hG (Nat.le_refl _) ys 0 a ⟨S.n+ys.length,S.g⟩ (fun k hk=>by
    obtain⟨o,a1,a2⟩:=h2 k hk;exact⟨o,by rw[Nat.zero_add];simpa using a1,a2⟩) h E w act (hS.drop S.g (fun _ _ e=>e) _ (by show S.n≤S.n+_;omega)) hF (fun k _ hk=>⟨hS.fresh _ (by omega),by show S.n+k < S.n+ys.length;omega⟩)
    ⟨⟨rfl,rfl,rfl,Nat.le_refl _,fun _ _ _=>rfl,fun id l k hk hl=>.inr ⟨id,l,k,hk,hl,rfl⟩,Env.le_refl _,fun _ _ e=>.inl e⟩,by show S.n≤S.n+_;omega,fun _ _ e=>e⟩
   rw[List.range_eq_range',←hlen];exact this
  ·simp only[AW] at h
theorem ZlS{P:Program}{n:Nat}(d:Bool)(ops:Array Oper):FQ (MV P n d ops)=true:=by
 unfold MV;split
 ·exact Fg d ops
 ·split<;>rfl
structure EA(P:Program)(f:FuncId)(ac:AC)(rs:List RV)(n:Nat):Prop where
 h:∃fn c,P.funcs[f]? = some fn∧(fn.name == "runtime.NumGoroutine")=false∧fn.body=some c∧ZsP P fn.ntmps c=some ac∧fn.results.toList.mapM (vv P)=some rs∧n≤fn.ntmps
theorem EA.uR{P:Program}(hm:P.follows .mixedOrders=true){f:FuncId}{ac:AC}{rs:List RV}{n:Nat}(h:EA P f ac rs n){args:List AV}(hn:args.length=n){S:St}{K:AV→St→Prop}
  (hb:bG P S.n ac (Js S.n rs K) (bP args) S):aQ P f args S K:=VP (fun _=>ZrJ hm) (fun _=>ZlS) h.h hn hb
theorem EA.sS{P:Program}(hm:P.follows .mixedOrders=true){f:FuncId}{ac:AC}{rs:List RV}{n:Nat}(h:EA P f ac rs n){args:List AV}(hn:args.length=n){r:AV}
  (hb:bG P 0 ac (bK rs (iQ r)) (bP args) S0):aN P f args r:=
 .uQ (h.uR hm hn (BL _ (fun e a S k=>⟨a,S,.refl _ _,k⟩) hb))
end Go.Rf
namespace Go.Rf
variable{P:Program}{f:FuncId}{ac:AC}{ts:List Nat}{rs:List RV}{n:Nat}
def J6(co:Nat→Code→Option AC)(fn:Func)(n:Nat)(r:Option (List RV)):Option (Bool×AC×Option (List RV)×Bool):=
 fn.body.bind fun c=>(co fn.ntmps c).map fun a=>(fn.name == "runtime.NumGoroutine",a,r,Nat.ble n fn.ntmps)
theorem QT{co:Nat→Code→Option AC}{fn:Func}{r:Option (List RV)}(h:J6 co fn n r=some (false,ac,some rs,true)) :
  ∃c,(fn.name == "runtime.NumGoroutine")=false∧fn.body=some c∧co fn.ntmps c=some ac∧r=some rs∧n≤fn.ntmps:=by
 unfold J6 at h;obtain⟨c,h1,h2⟩:=Option.bind_eq_some_iff.mp h;obtain⟨a,h3,h4⟩:=Option.map_eq_some_iff.mp h2;simp only[Prod.mk.injEq] at h4;obtain⟨h5,rfl,rfl,h6⟩:=h4;exact⟨c,h5,h1,h3,rfl,Nat.le_of_ble_eq_true h6⟩
def isR(fn:Func)(n:Nat)(co:Nat→Code→Option AC):Option (Bool×AC×Array ResultVar×Bool):=
 fn.body.bind fun c=>(co fn.ntmps c).map fun a=>(fn.name == "runtime.NumGoroutine",a,fn.results,Nat.ble n fn.ntmps)
theorem Is.k{fn:Func}(hf:P.funcs[f]? = some fn)(h:isR fn n (comp P)=some (false,ac,(ts.map ResultVar.tmp).toArray,true)):Is P f ac ts n:=by
 unfold isR at h;obtain⟨c,h1,h2⟩:=Option.bind_eq_some_iff.mp h;obtain⟨a,h3,h4⟩:=Option.map_eq_some_iff.mp h2;simp only[Prod.mk.injEq] at h4;obtain⟨h5,rfl,h7,h6⟩:=h4;exact⟨fn,c,hf,h5,h1,h3,h7,Nat.le_of_ble_eq_true h6⟩
theorem jS.k{fn:Func}(hf:P.funcs[f]? = some fn)(h:J6 (comp P) fn n (fn.results.toList.mapM (vv P))=some (false,ac,some rs,true)):jS P f ac rs n:=by
 obtain⟨c,h1,h2,h3,h4,h5⟩:=QT h;exact⟨fn,c,hf,h1,h2,h3,h4,h5⟩
theorem vJ.k{fn:Func}(hf:P.funcs[f]? = some fn)(h:J6 (Rj P) fn n (fn.results.toList.mapM (vv P))=some (false,ac,some rs,true)):vJ P f ac rs n:=by
 obtain⟨c,h1,h2,h3,h4,h5⟩:=QT h;exact⟨fn,c,hf,h1,h2,h3,h4,h5⟩
theorem Bv.k{fn:Func}(hf:P.funcs[f]? = some fn)(h:J6 (xW P) fn n (fn.results.toList.mapM (vv P))=some (false,ac,some rs,true)):Bv P f ac rs n:=by
 obtain⟨c,h1,h2,h3,h4,h5⟩:=QT h;exact⟨fn,c,hf,h1,h2,h3,h4,h5⟩
theorem EA.k{fn:Func}(hf:P.funcs[f]? = some fn)(h:J6 (ZsP P) fn n (fn.results.toList.mapM (vv P))=some (false,ac,some rs,true)):EA P f ac rs n:=by
 obtain⟨c,h1,h2,h3,h4,h5⟩:=QT h;exact⟨fn,c,hf,h1,h2,h3,h4,h5⟩
theorem Zi4(d:aD)(h i:Nat):xX d h i=bO d i (2*(h:Int)):=by
 unfold xX bO;have:(2*(h:Int)).toNat=2*h:=by omega
 rw[this]
theorem Zmf(d:aD)(h i:Nat):D9 d h i=bO d i (2*(h:Int)+1):=by
 unfold D9 bO;have:(2*(h:Int)+1).toNat=2*h+1:=by omega
 rw[this]
theorem WQ{T:List bS}{i k:Nat}(hi:i < T.length)(hk:k < 3)(j:Nat):hs (xR T i k) j=(hs T j || decide (j=3*i+k)):=by
 unfold hs xR;simp only[List.getD_eq_getElem?_getD,List.getElem?_set];by_cases hji:i=j / 3
 ·subst hji
  rw[if_pos rfl,if_pos hi];simp only[Option.getD_some];generalize(T[j / 3]?).getD bS.no=t;unfold bS.put bS.at;have hj3:j % 3 < 3:=Nat.mod_lt _ (by omega);by_cases hjk:j % 3=k
  ·have:j=3*(j / 3)+k:=by omega
   rw[decide_eq_true this];subst hjk;rcases(by omega:j % 3=0∨j % 3=1∨j % 3=2) with h | h | h<;>simp[h]
  ·have:¬j=3*(j / 3)+k:=by omega
   rw[decide_eq_false this];rcases(by omega:j % 3=0∨j % 3=1∨j % 3=2) with h | h | h<;>rcases(by omega:k=0∨k=1∨k=2) with g | g | g<;>simp_all
 ·rw[if_neg hji]
  have:¬j=3*i+k:=by omega
  rw[decide_eq_false this,Bool.or_false]
theorem Zt9(n j:Nat):hs (List.replicate n .no) j=false:=by
 unfold hs
 have:(List.replicate n bS.no).getD (j / 3) .no=.no:=by
  simp only[List.getD_eq_getElem?_getD,List.getElem?_replicate];split<;>rfl
 rw[this];unfold bS.at bS.no;split<;>(try split)<;>rfl
theorem Yf(T:List bS)(i:Nat):hs T (3*i)=(T.getD i .no).a∧hs T (3*i+1)=(T.getD i .no).b∧hs T (3*i+2)=(T.getD i .no).c:=by
 refine⟨?_,?_,?_⟩
 ·unfold hs;have h1:3*i / 3=i:=by omega
  have h2:3*i % 3=0:=by omega
  rw[h1,h2];rfl
 ·unfold hs;have h1:(3*i+1) / 3=i:=by omega
  have h2:(3*i+1) % 3=1:=by omega
  rw[h1,h2];rfl
 ·unfold hs;have h1:(3*i+2) / 3=i:=by omega
  have h2:(3*i+2) % 3=2:=by omega
  rw[h1,h2];rfl
theorem Zot{d:aD}(R:bD d){h:Nat}(hh:((2*h+1:Nat):Int) < d.signs){T out:List bS}(ho:out.length=d.next.length){i:Nat}(hi:i < d.next.length)(j:Nat) :
  hs (AZ d h T out i) j=true↔hs out j=true∨∃ph,ph < 3∧hs T (3*i+ph)=true∧zP d (3*i+ph) h j:=by
 have he:xX d h i < d.next.length:=by rw[Zi4];exact zB R hi (by omega) (by omega)
 have hod:D9 d h i < d.next.length:=by rw[Zmf];exact zB R hi (by omega) (by omega)
 obtain⟨a0,a1,a2⟩:=Yf T i;have l1:(tT d h (T.getD i .no) (xX d h i) out).length=d.next.length:=by unfold tT;split<;>simp[Dq,ho]
 have l2:(yI (T.getD i .no) (D9 d h i) (tT d h (T.getD i .no) (xX d h i) out)).length=d.next.length:=by
  unfold yI;split
  ·rw[Dq];exact l1
  ·exact l1
 have s1:hs (tT d h (T.getD i .no) (xX d h i) out) j=(hs out j || (((T.getD i .no).a || (T.getD i .no).b) && decide (j=3*xX d h i+1))):=by
  unfold tT;split
  ·rename_i hc;rw[WQ (by omega) (by omega),hc,Bool.true_and]
  ·rename_i hc;simp only[Bool.not_eq_true] at hc;rw[hc];simp
 have s2:hs (yI (T.getD i .no) (D9 d h i) (tT d h (T.getD i .no) (xX d h i) out)) j=(hs (tT d h (T.getD i .no) (xX d h i) out) j || ((T.getD i .no).b && decide (j=3*D9 d h i+2))):=by
  unfold yI;split
  ·rename_i hc;rw[WQ (by omega) (by omega),hc,Bool.true_and]
  ·rename_i hc;simp only[Bool.not_eq_true] at hc;rw[hc];simp
 have s3:hs (AZ d h T out i) j=(hs (yI (T.getD i .no) (D9 d h i) (tT d h (T.getD i .no) (xX d h i) out)) j || ((T.getD i .no).c && decide (j=3*xX d h i+2))):=by
  unfold AZ DK;split
  ·rename_i hc;rw[WQ (by omega) (by omega),hc,Bool.true_and]
  ·rename_i hc;simp only[Bool.not_eq_true] at hc;rw[hc];simp
 rw[s3,s2,s1];simp only[Bool.or_eq_true,Bool.and_eq_true,decide_eq_true_eq];rw[←a0,←a1,←a2,Zi4,Zmf];have st:=fun ph (hp:ph < 3)=>Dt R hi hp (h:=(h:Int)) (j:=j)
 constructor
 ·rintro(((h1 | ⟨h1,h2⟩) | ⟨h1,h2⟩) | ⟨h1,h2⟩)
  ·exact .inl h1
  ·rcases h1 with h1 | h1
   ·exact .inr ⟨0,by omega,h1,(st 0 (by omega)).mpr (.inl ⟨by omega,by rw[h2];rfl⟩)⟩
   ·exact .inr ⟨1,by omega,h1,(st 1 (by omega)).mpr (.inl ⟨by omega,by rw[h2];rfl⟩)⟩
  ·exact .inr ⟨1,by omega,h1,(st 1 (by omega)).mpr (.inr ⟨rfl,by omega,h2⟩)⟩
  ·exact .inr ⟨2,by omega,h1,(st 2 (by omega)).mpr (.inl ⟨by omega,by rw[h2];rfl⟩)⟩
 ·rintro(h1 | ⟨ph,hp,h1,h2⟩)
  ·exact .inl (.inl (.inl h1))
  ·rcases(by omega:ph=0∨ph=1∨ph=2) with rfl | rfl | rfl
   ·rcases(st 0 (by omega)).mp h2 with⟨_,h3⟩ | ⟨h3,_⟩
    ·exact .inl (.inl (.inr ⟨.inl h1,by rw[h3];rfl⟩))
    ·omega
   ·rcases(st 1 (by omega)).mp h2 with⟨_,h3⟩ | ⟨_,_,h3⟩
    ·exact .inl (.inl (.inr ⟨.inr h1,by rw[h3];rfl⟩))
    ·exact .inl (.inr ⟨h1,h3⟩)
   ·rcases(st 2 (by omega)).mp h2 with⟨_,h3⟩ | ⟨h3,_⟩
    ·exact .inr ⟨h1,by rw[h3];rfl⟩
    ·omega
theorem ZlH{d:aD}(R:bD d){h:Nat}(hh:((2*h+1:Nat):Int) < d.signs){T:List bS}(j:Nat):∀(k:Nat),k≤d.next.length→
  (hs ((List.range k).foldl (AZ d h T) (List.replicate d.next.length .no)) j=true↔∃i,i < 3*k∧hs T i=true∧zP d i h j)
 | 0,_=>by simp[Zt9]
 | k+1,hk=>by
  rw[List.range_succ,List.foldl_append,List.foldl_cons,List.foldl_nil,Zot R hh (by rw[WO];simp) (by omega),ZlH R hh j k (by omega)];constructor
  ·rintro(⟨i,h1,h2,h3⟩ | ⟨ph,h1,h2,h3⟩)
   ·exact⟨i,by omega,h2,h3⟩
   ·exact⟨3*k+ph,by omega,h2,h3⟩
  ·rintro⟨i,h1,h2,h3⟩
   by_cases hik:i < 3*k
   ·exact .inl ⟨i,hik,h2,h3⟩
   ·exact .inr ⟨i - 3*k,by omega,by rw[show 3*k+(i - 3*k)=i by omega];exact h2,by rw[show 3*k+(i - 3*k)=i by omega];exact h3⟩
theorem ZlI{d:aD}(R:bD d){h:Nat}(hh:((2*h+1:Nat):Int) < d.signs)(T:List bS)(j:Nat):hs (FB d T h) j=true↔∃i,i < 3*d.next.length∧hs T i=true∧zP d i h j:=
 ZlH R hh j d.next.length (Nat.le_refl _)
theorem Zr2{out x:List bS}(hl:x.length=out.length)(j:Nat):hs (Gi out x) j=(hs out j || hs x j):=by
 unfold hs Gi R8;simp only[List.getD_eq_getElem?_getD,List.getElem?_mapIdx];by_cases hj:j / 3 < out.length
 ·have hx:j / 3 < x.length:=by omega
  simp only[List.getElem?_eq_getElem hj,List.getElem?_eq_getElem hx,Option.map_some,Option.getD_some,if_pos hj];unfold bS.at orT;split<;>(try split)<;>rfl
 ·have hx:¬j / 3 < x.length:=by omega
  simp only[List.getElem?_eq_none (Nat.le_of_not_lt hj),List.getElem?_eq_none (Nat.le_of_not_lt hx),Option.map_none,Option.getD_none];unfold bS.at bS.no;split<;>(try split)<;>rfl
theorem Zih{d:aD}(R:bD d){T:List bS}(hT:T.length=d.next.length)(j:Nat):∀(k:Nat),k≤(d.signs / 2).toNat→(hs (DR d T k) j=true↔∃h:Nat,h < k∧∃i,i < 3*d.next.length∧hs T i=true∧zP d i h j)
 | 0,_=>by simp[DR,Zt9]
 | k+1,hk=>by
  rw[Zjf,Zr2 (by rw[Zh2,Zkt,hT]),Bool.or_eq_true,Zih R hT j k (by omega),ZlI R (by have:=R.s1;omega)];constructor
  ·rintro(⟨h,h1,h2⟩ | h2)
   ·exact⟨h,by omega,h2⟩
   ·exact⟨k,by omega,h2⟩
  ·rintro⟨h,h1,h2⟩
   by_cases hhk:h < k
   ·exact .inl ⟨h,hhk,h2⟩
   ·obtain rfl:h=k:=by omega
    exact .inr h2
theorem Zfi{d:aD}(R:bD d)(hev:d.signs % 2=0){i j:Nat}(hi:i < 3*d.next.length):(pg d).edge i j↔∃h:Nat,h < (d.signs / 2).toNat∧zP d i h j:=by
 constructor
 ·rintro⟨row,r1,r2⟩
  rw[Jh hi] at r1;cases r1;obtain⟨a,ha,he⟩:=List.mem_iff_getElem.mp r2;have hg:(jN d i)[a]? = some (j:Int):=by rw[List.getElem?_eq_getElem ha,he]
  have hp:=IV R (s:=i / 3) (ph:=i % 3) (by omega) (by omega) a;rw[show 3*(i / 3)+i % 3=i by omega,hg] at hp;split at hp
  ·rename_i hs
   exact⟨a / 2,by have:=R.s1;omega,a,rfl,hg⟩
  ·cases hp
 ·rintro⟨h,_,hs⟩
  exact(Qc R hi hs).2.1
theorem Zt8{d:aD}(R:bD d)(hev:d.signs % 2=0){T:List bS}(hT:T.length=d.next.length)(j:Nat):hs (YE d T) j=true↔∃i,i < 3*d.next.length∧hs T i=true∧(pg d).edge i j:=by
 have h:=Zih R hT j (d.signs / 2).toNat (Nat.le_refl _);rw[show YE d T=DR d T (d.signs / 2).toNat from rfl,h];constructor
 ·rintro⟨h,h1,i,h2,h3,h4⟩
  exact⟨i,h2,h3,(Zfi R hev h2).mpr ⟨h,h1,h4⟩⟩
 ·rintro⟨i,h2,h3,h4⟩
  obtain⟨h,h1,h5⟩:=(Zfi R hev h2).mp h4;exact⟨h,h1,i,h2,h3,h5⟩
theorem Zog{d:aD}(T:List bS):Ru d T=true↔∃i,i < 3*d.next.length∧hs T i=true∧(pg d).uy i=true:=by
 unfold Ru;rw[List.any_eq_true];constructor
 ·rintro⟨i,h1,h2⟩
  simp only[List.mem_range] at h1;rw[Bool.and_eq_true] at h2;refine⟨3*i+2,by omega,by rw[(Yf T i).2.2];exact h2.1,?_⟩;rw[QG (by omega)];unfold tC;rw[show(3*i+2) % 3=2 by omega,show(3*i+2) / 3=i by omega,h2.2];rfl
 ·rintro⟨i,h1,h2,h3⟩
  rw[QG h1] at h3;unfold tC at h3;simp only[Bool.and_eq_true,decide_eq_true_eq] at h3;refine⟨i / 3,by simp;omega,?_⟩;have:=(Yf T (i / 3)).2.2;rw[show 3*(i / 3)+2=i by omega,h2] at this;rw[←this,h3.2];rfl
def XA(d:aD)(far:List Int)(T:List bS):Prop:=∀i,i < 3*d.next.length→hs T i=true→rd far i < 0
theorem XA.next{d:aD}(R:bD d)(hev:d.signs % 2=0){far:List Int}(fo:uW (pg d) far){T:List bS}(hT:T.length=d.next.length)(h:XA d far T):Ru d T=false∧XA d far (YE d T):=by
 have hn:=z8 d;refine⟨?_,?_⟩
 ·cases e:Ru d T with
  | false=>rfl
  | true=>
   obtain⟨i,h1,h2,h3⟩:=(Zog T).mp e;have h4:=(fo.zero i (by omega)).mpr h3;have:=h i h1 h2;omega
 ·intro j h1 h2
  obtain⟨i,g1,g2,g3⟩:=(Zt8 R hev hT j).mp h2;have hi:=h i g1 g2;by_cases hc:0≤rd far j
  ·have:=(fo.TA i j (by omega) (by omega) g3 hc).1;omega
  ·omega
theorem mo.cl{P:Program}{f:FuncId}{args:List AV}{r:AV}{S:St}(h:aN P f args r)(hc:∀x∈args,aY x)(hr:aY r):mo P f args S [] r:=
 ⟨args,h,rfl,fun j h1 _=>.closed _ (hc _ (List.getElem_mem h1)),.inr (.inl ⟨rfl,hr⟩)⟩
end Go.Rf
namespace Go.Rf
open Go.RowKit
attribute [local simp] kZ kN kW lH lK lI lM kY lN lG lF dO iA fI gI ig fH gJ iq gX gT gY eY gN gZ gM eB eD gQ iJ iG iI iH iK fV fK fG dY fZ gu gy fO fP iL iw gP iE iB iD iC iF iM gV fQ fE fF fJ fU dx dL eZ gW iN ex au cu dM dX bM bU aG bB dV eX dR fM gL gK iy gU bL dw dz dZ d9 gD dS bA bW dA dJ dD fq eu eU eO eT dW dn dU dQ dP bq AV.solid S0 aj aH
def U9(P5a YS:FuncId):AC:= (sq [ro 4 (.mv (ci 0))] (.seq (.mE [rm 8 1,rk 9 P5a [(.t 8)],rm 5 9] none) (sq [rm 11 0,ro 12 (.iP (.t 11)),rF 13 5 12,rL 14 13,rm 15 5,ro 16 (.look .str (.v (.int .i64 0)) true (.t 14) (.t 15)),rm 10 16,ro 17 (.ext 0 (.t 10)),ro 18 (.ext 1 (.t 10)),rm 6 17,rm 7 18] (.seq (sq [rm 19 7,ro 20 (.un .not (.t 19))] (.cond (.t 20) (.seq (sq [rm 21 0,ro 22 (.iP (.t 21)),rF 23 6 22,rL 24 23,ro 25 (.len (.t 24)),rm 6 25] (sq [rm 26 6,rm 27 0,ro 28 (.iP (.t 27)),rF 29 4 28,rL 30 29,ro 31 (.bin .eql (.t 26) (.t 30))] (.cond (.t 31) (.mE [ro 32 (.build (.agg []) [] []),ro 33 (.NK YS (.t 32))] (some (.t 33))) .skip))) (sq [rm 34 0,ro 35 (.iP (.t 34)),rF 36 5 35,rL 37 36,rm 38 5,rm 39 6,rn (.Br .str (.t 37) (.t 38) (.t 39))] (.reg none [rm 40 0,rm 41 0,ro 42 (.iP (.t 41)),rF 43 6 42,rL 44 43,rm 45 1,ro 46 (.cO 1 1 (.sl true []) [(0,(.t 45))]),ro 47 (.app 1 24 (.t 44) (.t 46)),ro 48 (.iP (.t 40)),rF 49 6 48,rn (.store 1 (.t 49) (.t 47))]))) .skip)) (sq [rm 50 6,rm 4 50] .ret)))))
structure wU(S:St)(id km:Nat)(n:Net)(most:Int)(ss:List (List Int))(v:AV):Prop where
 g:S.g id=some (.arr 7 [.agg [aj n.signs,aX n.aB,aX n.follow,aA n.last,aj most,.mp km,v]])
 m:S.g km=some (.map (tY 0 ss))
 vec:Vec S.g v 1 (ss.map aA)
 ne:id≠km
 hv:∀i∈v.ids,i≠id∧i≠km
 lid:id < S.n
 vG:km < S.n
 lv:∀i∈v.ids,i < S.n
structure TM(S S':St)(R:List Nat):Prop where
 n:S.n≤S'.n
 g:∀i,i < S.n→i∉R→S'.g i=S.g i
section
variable{g:Nat→Option aF}{km m aC:Nat}{ss:List (List Int)}{x:List Int}
theorem WR(hg:g km=some (.map (tY 0 ss)))(hx:uT x)(hs:∀s∈ss,uT s) :
  (AU .str (.v (.int .i64 0)) true (.mp km) (sF (jQ x))).run ⟨m,g⟩ aC=some (.aM [aj (if x∈ss then (ss.idxOf x:Int) else 0),.v (.bool (decide (x∈ss)))],⟨m,g⟩):=by
 have hk:=Wd x ss 0;simp only[AU,Eff.Ar,hg,Option.bind_some,if_pos hk,Zfp hx ss 0 hs];by_cases h:x∈ss
 ·simp[h,aj]
 ·simp[h,aj]
theorem ZoI(hg:g km=some (.map (tY 0 ss)))(hx:uT x)(hs:∀s∈ss,uT s)(hn:x∉ss) :
  (Ch .str (.mp km) (sF (jQ x)) (.v (.int .i64 ss.length))).run ⟨m,g⟩ aC=some (.junk,(St.mk m g).set km (some (.map (tY 0 (ss++[x]))))):=by
 have hk:=Wd x ss 0;have h:=ZiS hx ss 0 hs hn;rw[Nat.zero_add] at h;have h':oV (sF (jQ x)) (.v (.int .i64 ss.length)) (tY 0 ss)=tY 0 (ss++[x]):=h;simp only[Ch,Eff.HZ,hg,Option.bind_some,if_pos hk,h',Option.map_some]
end
theorem Zhg{P:Program}{ft fT:FuncId}{id km:Nat}{n:Net}{most:Int}{ss:List (List Int)}{v:AV}{set:List Int}{S:St}(M:wU S id km n most ss v)(ht:aN P ft [aA set] (sF (jQ set)))
  (hx:uT set) (hs:∀s∈ss,uT s) (hlen:(ss.length:Int)≤most) (abE:most≤3000) {K:AV→St→Prop} {X:Value→St→Prop}
  (hK1:set∈ss→∀m,S.n≤m→K (aj (ss.idxOf set)) ⟨m,S.g⟩)
  (hK2:set∉ss→(ss.length:Int) < most→∀S' v',wU S' id km n most (ss++[set]) v'→TM S S' (id::km::v.ids)→(∀i∈v'.ids,S.n≤i)→K (aj ss.length) S')
  (hX:set∉ss→(ss.length:Int)=most→∀m,S.n≤m→X (.iface fT (.agg #[])) ⟨m,S.g⟩) :
  AW P (U9 ft fT) (Bg [.t 4] K X) (bP [.ptr id 0 0,aA set]) S:=by
 have hg:=M.g;have hm:=M.m;unfold U9;simp[AL,uF,uE,BM,BH];refine oO.GZ (aQ.pure ht (aK (aS _) aU) (.v _) ?_);by_cases hin:set∈ss
 ·simp[zC,uF,uE,yF,Wt,hg,WR hm hx hs,Eff.Ar,Eff.rR,jW,hin,bK,bV,RV.ev,cK]
  exact hK1 hin _ (by omega)
 ·have hlv:=M.vec.len
  rw[List.length_map] at hlv;simp only[fq] at hlv;by_cases hfull:(ss.length:Int)=most
  ·have hbe:((ss.length:Int) == most)=true:=by simpa using hfull
   simp[AL,zC,Zq9,ZqP,uF,uE,yF,Dm,Zkk,Rw,Ji,wH,hg,WR hm hx hs,Eff.Ar,Eff.rR,jW,hin,hlv,hbe,jc,iR];exact hX hin hfull _ (by omega)
  ·have hbe:((ss.length:Int) == most)=false:=by simpa using hfull
   have hne:=M.ne;have hce:(aA set).cells=[aA set]:=rfl;have hso:(aA set).solid=true:=rfl;simp only[AV.solid] at hso;have hat:(aA set).atom=true:=rfl;simp[zC,uF,uE,yF,hg,WR hm hx hs,Eff.Ar,Eff.rR,jW,hin,hlv,hbe,ZoI hm hx hs hin,hne,hce,hso]
   have hvf:∀k:Nat,Vec (St.set ⟨k,S.g⟩ km (some (.map (tY 0 (ss++[set]))))).g v 1 (ss.map aA):=fun k=>M.vec.frame fun i hi=>by
    rw[aG,if_neg (M.hv i hi).2]
   rw[Vec.app (hvf _) (by intro z hz;obtain⟨s,_,rfl⟩:=List.mem_map.mp hz;rfl) rfl (by rw[List.length_map];unfold dF;omega)];have hid:id∉v.ids:=fun h=>(M.hv id h).1 rfl
   have hkm:km∉v.ids:=fun h=>(M.hv km h).2 rfl
   generalize hq:S.n+1+3+11+2+6+6+7=q;have Y7:id≠q+7:=by have:=M.lid;omega
   simp[Wt,hg,Eff.HZ,Eff.rR,jW,bK,bV,RV.ev,cK,hne,mU id hid,sU,Y7];have hkq:km≠q+7:=by have:=M.vG;omega
   have hnk:km≠id:=fun e=>hne e.symm
   refine hK2 hin (by omega) _ (.own (q+7) 0 (ss.length+1)) ⟨?_,?_,?_,M.ne,?_,?_,?_,?_⟩ ⟨?_,?_⟩ ?_
   ·simp[aG,aj]
   ·simp[aG,hnk,hkq,mU km hkm]
   ·refine Vec.mk' (xs:=(ss++[set]).map aA) ?_ (by simp)
    have:q+7≠id:=fun e=>Y7 e.symm
    simp[aG,this]
   ·intro i hi
    simp only[AV.ids,List.mem_cons,List.not_mem_nil,or_false] at hi;subst hi;exact⟨fun e=>Y7 e.symm,fun e=>hkq e.symm⟩
   ·show id < q+11+2
    have:=M.lid;omega
   ·show km < q+11+2
    have:=M.vG;omega
   ·intro i hi
    simp only[AV.ids,List.mem_cons,List.not_mem_nil,or_false] at hi;subst hi;show q+7 < q+11+2
    omega
   ·show S.n≤q+11+2
    omega
   ·intro i hi hR
    simp only[List.mem_cons,not_or] at hR;have:i≠q+7:=by omega
    simp[aG,hR.1,hR.2.1,this,mU i hR.2.2]
   ·intro i hi
    simp only[AV.ids,List.mem_cons,List.not_mem_nil,or_false] at hi;omega
end Go.Rf
