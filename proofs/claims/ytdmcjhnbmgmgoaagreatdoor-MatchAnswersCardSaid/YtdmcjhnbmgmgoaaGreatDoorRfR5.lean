import Derived.Test.YtdmcjhnbmgmgoaaGreatDoorRfB12
import Derived.Test.YtdmcjhnbmgmgoaaGreatDoorProg
import Derived.Ground.NamesProg
import Derived.Ground.Names2Prog
import Derived.Shelf.Sort.Plain
import Derived.Shelf.Slices.CompactI
import Derived.Shelf.Strings.BuilderK
import Derived.Shelf.Strconv.Itoa3
import Derived.Shelf.LaysM
import Derived.Lib.AppendIntMem
import Derived.KernelRfl
set_option linter.unusedVariables false
set_option linter.unusedSimpArgs false
set_option linter.unusedSectionVars false
namespace Go.Rf
attribute [local simp] jv jk jX jO jG jY jP jI kF jW jN bZ gL eu fq gH d9 fI gI gy eT gD eB fO gG fM dG dJ dZ eX iq iw fG iy fC fB fu dD gT gU gV fJ fK iC gJ fU gZ gW gY gX ig iD fZ iA fP fQ gM iB dh dF fD gu iE ex aj fA cO dO bJ bO aD bE dX eU dn gP gQ gN gK fV bI cZ dw eD eF fF dN bY bM dz bX dP dA dH eO eG eH dY bW dQ cK cB aY AV.solid S0 ak aG
def Gm:AC:= (sq [rm 41 1,rm 42 8,ro 43 (.aI 3 (.t 41) (.t 42)),ro 44 (.uj 3 1 (.t 43) (ci 0)),rL 45 44,rm 46 45,rg 47 46 false (.mv (.t 1)),rg 48 46 false (.mv (.t 8)),rg 49 46 false (.aI 3 (.t 47) (.t 48)),rg 50 46 false (.uj 3 1 (.t 49) (ci 1)),rg 51 46 false (.load none (.t 50)),ro 52 (.pick (.t 46) (.c (.v (.bool true))) (.t 51))] (.cond (.t 52) (.reg none [rm 53 7,rm 54 9,ro 55 (.aI 3 (.t 53) (.t 54)),ro 56 (.uj 3 1 (.t 55) (ci 1)),rn (.store 1 (.t 56) (.c (.v (.bool true))))]) .skip))
def NN:AC:= (sq [rm 57 1,rm 58 8,ro 59 (.aI 3 (.t 57) (.t 58)),ro 60 (.uj 3 1 (.t 59) (ci 1)),rL 61 60] (.cond (.t 61) (.reg none [rm 62 7,rm 63 10,ro 64 (.aI 3 (.t 62) (.t 63)),ro 65 (.uj 3 1 (.t 64) (ci 2)),rn (.store 1 (.t 65) (.c (.v (.bool true))))]) .skip))
def NP:AC:= (sq [rm 66 1,rm 67 8,ro 68 (.aI 3 (.t 66) (.t 67)),ro 69 (.uj 3 1 (.t 68) (ci 2)),rL 70 69] (.cond (.t 70) (.reg none [rm 71 7,rm 72 9,ro 73 (.aI 3 (.t 71) (.t 72)),ro 74 (.uj 3 1 (.t 73) (ci 2)),rn (.store 1 (.t 74) (.c (.v (.bool true))))]) .skip))
def SS:AC:= (.block 0 (.loop (.seq (sq [rm 15 8,rF 16 1 3,rL 17 16,ro 18 (.len (.t 17)),ro 19 (.bin .lss (.t 15) (.t 18))] (.cond (.t 19) .skip (.exit 0))) (.seq (.block 1 (.seq (.reg (some []) [rF 22 1 3,rL 23 22,rm 24 8,ro 25 (.aI 1 (.t 23) (.t 24)),rL 26 25,rm 27 2,ro 28 (.bin .mul (ci 2) (.t 27)),ro 29 (.aI 1 (.t 26) (.t 28)),rL 30 29,rF 31 1 3,rL 32 31,rm 33 8,ro 34 (.aI 1 (.t 32) (.t 33)),rL 35 34,rm 36 2,ro 37 (.bin .mul (ci 2) (.t 36)),ro 38 (.bin .add (.t 37) (ci 1)),ro 39 (.aI 1 (.t 35) (.t 38)),rL 40 39,rm 9 30,rm 10 40]) (.seq Gm (.seq NN NP)))) (.reg none [rm 20 8,ro 21 (.bin .add (.t 20) (ci 1)),rm 8 21])))))
def Rp:AC:= (sq [ro 3 (.box 3 (.t 0)),ro 6 (.mv (.c (.sl true [])))] (sq [rF 11 1 3,rL 12 11,ro 13 (.len (.t 12)),ro 14 (.um 3 3 (.agg [(.v (.bool false)),(.v (.bool false)),(.v (.bool false))]) (.t 13) (.t 13)),rm 7 14] (.seq (sq [ro 8 (.mv (ci 0))] SS) (sq [rm 75 7,rm 6 75] .ret))))
def Rt:AC:= (sq [ro 2 (.box 3 (.t 0)),ro 4 (.mv (.c (.v (.bool false))))] (.seq (sq [ro 5 (.mv (ci 0))] (.block 0 (.loop (.seq (sq [rm 6 5,rm 7 1,ro 8 (.len (.t 7)),ro 9 (.bin .lss (.t 6) (.t 8))] (.cond (.t 9) .skip (.exit 0))) (.seq (.block 1 (sq [rm 12 1,rm 13 5,ro 14 (.aI 3 (.t 12) (.t 13)),ro 15 (.uj 3 1 (.t 14) (ci 2)),rL 16 15,rm 17 16,rg 18 17 true (.bV 2 (.t 2)),rg 19 17 true (.load none (.t 18)),rg 20 17 true (.mv (.t 5)),rg 21 17 true (.aI 1 (.t 19) (.t 20)),rg 22 17 true (.load none (.t 21)),ro 23 (.pick (.t 17) (.t 22) (.c (.v (.bool false))))] (.cond (.t 23) (sq [ro 4 (.mv (.c (.v (.bool true))))] .ret) .skip))) (.reg none [rm 10 5,ro 11 (.bin .add (.t 10) (ci 1)),rm 5 11])))))) (sq [ro 4 (.mv (.c (.v (.bool false))))] .ret)))
def Ub:AC:= (.block 4 (.loop (.seq (sq [rm 30 9,ro 31 (.bin .lss (.t 30) (ci 3))] (.cond (.t 31) .skip (.exit 4))) (.seq (.block 5 (.reg (some []) [rm 34 5,rm 35 8,rm 36 9,rm 37 5,rm 38 8,rm 39 9,ro 40 (.aI 3 (.t 37) (.t 38)),ro 41 (.uj 3 1 (.t 40) (.t 39)),rL 42 41,rm 43 42,rg 44 43 false (.mv (.t 7)),rg 45 43 false (.mv (.t 8)),rg 46 43 false (.mv (.t 9)),rg 47 43 false (.aI 3 (.t 44) (.t 45)),rg 48 43 false (.uj 3 1 (.t 47) (.t 46)),rg 49 43 false (.load none (.t 48)),ro 50 (.pick (.t 43) (.c (.v (.bool true))) (.t 49)),ro 51 (.aI 3 (.t 34) (.t 35)),ro 52 (.uj 3 1 (.t 51) (.t 36)),rn (.store 1 (.t 52) (.t 50))])) (.reg none [rm 32 9,ro 33 (.bin .add (.t 32) (ci 1)),rm 9 33])))))
def Tp:AC:= (.block 2 (.loop (.seq (sq [rm 24 8,rm 25 7,ro 26 (.len (.t 25)),ro 27 (.bin .lss (.t 24) (.t 26))] (.cond (.t 27) .skip (.exit 2))) (.seq (.block 3 (sq [ro 9 (.mv (ci 0))] Ub)) (.reg none [rm 28 8,ro 29 (.bin .add (.t 28) (ci 1)),rm 8 29])))))
def Tq(yS:FuncId):AC:= (.block 0 (.loop (.seq (sq [rm 13 6,rF 14 0 2,rL 15 14,ro 16 (.bin .quo (.t 15) (ci 2)),ro 17 (.bin .lss (.t 13) (.t 16))] (.cond (.t 17) .skip (.exit 0))) (.seq (.block 1 (sq [ro 20 (.load (some 3) (.t 2)),rm 21 1,rm 22 6,rk 23 yS [(.t 20),(.t 21),(.t 22)],rm 7 23] (sq [ro 8 (.mv (ci 0))] Tp))) (.reg none [rm 18 6,ro 19 (.bin .add (.t 18) (ci 1)),rm 6 19])))))
def Ro(yS:FuncId):AC:= (sq [ro 2 (.box 3 (.t 0)),ro 4 (.mv (.c (.sl true [])))] (sq [rm 10 1,ro 11 (.len (.t 10)),ro 12 (.um 3 3 (.agg [(.v (.bool false)),(.v (.bool false)),(.v (.bool false))]) (.t 11) (.t 11)),rm 5 12] (.seq (sq [ro 6 (.mv (ci 0))] (Tq yS)) (sq [rm 53 5,rm 4 53] .ret))))
def Rq(P3p P2H:FuncId):AC:= (sq [ro 2 (.box 3 (.t 0)),ro 4 (.mv (ci 0))] (.seq (sq [ro 5 (.mv (ci 0))] (.block 0 (.loop (.seq (sq [rm 6 5,rF 7 1 2,rL 8 7,ro 9 (.len (.t 8)),ro 10 (.bin .mul (ci 3) (.t 9)),ro 11 (.bin .leq (.t 6) (.t 10))] (.cond (.t 11) .skip (.exit 0))) (.seq (.block 1 (.seq (sq [ro 14 (.load (some 3) (.t 2)),rm 15 1,rk 16 P3p [(.t 14),(.t 15)]] (.cond (.t 16) (sq [rm 17 5,rm 4 17] .ret) .skip)) (.reg none [ro 18 (.load (some 3) (.t 2)),rm 19 1,rk 20 P2H [(.t 18),(.t 19)],rm 1 20]))) (.reg none [rm 12 5,ro 13 (.bin .add (.t 12) (ci 1)),rm 5 13])))))) (sq [ro 4 (.mv (ci (-1)))] .ret)))
structure aP where
 a:Bool
 b:Bool
 c:Bool
def aP.no:aP:=⟨false,false,false⟩
def aP.at(t:aP)(k:Nat):Bool:=if k=0 then t.a else if k=1 then t.b else t.c
def aP.put(t:aP)(k:Nat)(v:Bool):aP:=if k=0 then ⟨v,t.b,t.c⟩ else if k=1 then ⟨t.a,v,t.c⟩ else ⟨t.a,t.b,v⟩
def dS(t:aP):AV:=.agg [aG t.a,aG t.b,aG t.c]
def bK(l:List aP):AV:=.sl false (l.map dS)
theorem TN(t:aP):aV (dS t):=.agg _ (by
 intro y hy;simp only[List.mem_cons,List.not_mem_nil,or_false] at hy;rcases hy with rfl | rfl | rfl<;>exact cu _)
theorem zQ(l:List aP):aV (bK l):=CY TN l
def hs(T:List aP)(i:Nat):Bool:=(T.getD (i / 3) .no).at (i % 3)
def vo(T:List aP)(i k:Nat):List aP:=T.set i ((T.getD i .no).put k true)
def oL(d:aB)(h:Nat)(t:aP)(e:Nat)(out:List aP):List aP:=if t.a || t.b then vo out e 1 else out
def uG(t:aP)(o:Nat)(out:List aP):List aP:=if t.b then vo out o 2 else out
def Ah(t:aP)(e:Nat)(out:List aP):List aP:=if t.c then vo out e 2 else out
def qA(d:aB)(h i:Nat):Nat:=((d.next.getD i []).getD (2*h) 0).toNat
def wh(d:aB)(h i:Nat):Nat:=((d.next.getD i []).getD (2*h+1) 0).toNat
def tT(d:aB)(h:Nat)(T out:List aP)(i:Nat):List aP:=
 Ah (T.getD i .no) (qA d h i) (uG (T.getD i .no) (wh d h i) (oL d h (T.getD i .no) (qA d h i) out))
def kW(d:aB)(T:List aP)(h:Nat):List aP:=(List.range d.next.length).foldl (tT d h T) (List.replicate d.next.length .no)
theorem yY(T:List aP)(i k:Nat):(vo T i k).length=T.length:=by simp[vo]
theorem Zj5(d:aB)(h:Nat)(T out:List aP)(i:Nat):(tT d h T out i).length=out.length:=by
 unfold tT oL uG Ah;split<;>split<;>split<;>simp[yY]
theorem MQ(d:aB)(h:Nat)(T:List aP):∀(l:List Nat) (out:List aP),(l.foldl (tT d h T) out).length=out.length
 | [],_=>rfl
 | i::l,out=>by rw[List.foldl_cons,MQ d h T l,Zj5]
theorem Fp(d:aB)(T:List aP)(h:Nat):(kW d T h).length=d.next.length:=by
 unfold kW;rw[MQ];simp
theorem Zrg{g:Nat→Option aF}(t:aP):jo g (dS t) (dS t):=by
 refine .agg _ _ rfl (fun i h1 h2=>?_)
 match i,h1 with
 | 0,_=>exact .v _
 | 1,_=>exact .v _
 | 2,_=>exact .v _
theorem Vec.P6r{g:Nat→Option aF}{v:AV}{es:Nat}{l:List aP}(h:Vec g v es (l.map dS)):jo g v (.sl false (l.map dS)):=by
 rcases h with⟨rfl,h0⟩ | ⟨id,off,ys,rfl,h1,h2,h3⟩
 ·rw[h0];exact .nil true false (by simp)
 ·have hl:off+(l.map dS).length=ys.length:=by rw[←h3];simp;omega
  have ht:(ys.drop off).take (l.map dS).length=l.map dS:=by rw[h3,List.take_length]
  refine .own id off _ es ys _ h1 (by omega) rfl (fun i h1 h2=>?_);simp only[ht];rw[List.getElem_map];exact Zrg _
structure A9(d:aB)(T:List aP)(h q i:Nat)(out:List aP)(f:AF)(S:St):Prop where
 e1:f 1=bK T
 e2:f 2=ak h
 e3:f 3=.ptr 0 0 0
 e7:f 7=.own q 0 out.length
 e8:f 8=ak i
 g0:S.g 0=some (.arr 3 [aH d])
 gq:S.g q=some (.arr 3 (out.map dS))
 ne:q≠0
theorem hv1{P:Program}{d:aB}{T out:List aP}{h q i e o:Nat}(hi:i < T.length)(he:e < out.length){f:AF}{S:St}{Q:Exit→AF→St→Prop}
  (st:A9 d T h q i out f S) (e9:f 9=ak e) (e10:f 10=ak o) (hq:∀f' S',f' 9=ak e→f' 10=ak o→A9 d T h q i (oL d h T[i] e out) f' S'→Q .normal f' S'):AW P Gm Q f S:=by
 obtain⟨e1,e2,e3,e7,e8,g0,gq,ne⟩:=st;have hgi:T[i]? = some T[i]:=List.getElem?_eq_getElem hi;have hge:out[e]? = some out[e]:=List.getElem?_eq_getElem he;have hgd:out.getD e .no=out[e]:=by simp[List.getD_eq_getElem?_getD,hge]
 have qJ:(i:Int) < T.length:=by omega
 have En:(e:Int) < out.length:=by omega
 have hm:vo out e 1=out.set e ⟨out[e].a,true,out[e].c⟩:=by unfold vo;rw[hgd];rfl
 have hm2:(out.set e ⟨out[e].a,true,out[e].c⟩).map dS=(out.map dS).set e (dS ⟨out[e].a,true,out[e].c⟩):=List.map_set;generalize hT:T[i]=t at *;obtain⟨a,b,c⟩:=t;cases a<;>cases b
 ·simp[Gm,bK,e1,e8,hi,hT,dS]
  refine hq _ _ ?_ ?_ ⟨?_,?_,?_,?_,?_,?_,?_,ne⟩
  ·simp[aj,e9]
  ·simp[aj,e10]
  ·simp[aj,e1]
  ·simp[aj,e2]
  ·simp[aj,e3]
  ·simp[aj,e7,oL]
  ·simp[aj,e8]
  ·simp[g0]
  ·simp[gq,oL]
 ·simp[Gm,bK,e1,e7,e8,e9,hi,hT,gq,En,he,dS]
  refine hq _ _ ?_ ?_ ⟨?_,?_,?_,?_,?_,?_,?_,ne⟩
  ·simp[aj,e9]
  ·simp[aj,e10]
  ·simp[aj,e1,bK]
  ·simp[aj,e2]
  ·simp[aj,e3]
  ·simp[aj,e7,oL,yY]
  ·simp[aj,e8]
  ·simp[aD,g0,Ne.symm ne]
  ·simp only[oL,hm,hm2,if_true,Bool.or_true,aD]
   simp[dS,aG]
 ·simp[Gm,bK,e1,e7,e8,e9,hi,hT,gq,En,he,dS]
  refine hq _ _ ?_ ?_ ⟨?_,?_,?_,?_,?_,?_,?_,ne⟩
  ·simp[aj,e9]
  ·simp[aj,e10]
  ·simp[aj,e1,bK]
  ·simp[aj,e2]
  ·simp[aj,e3]
  ·simp[aj,e7,oL,yY]
  ·simp[aj,e8]
  ·simp[aD,g0,Ne.symm ne]
  ·simp only[oL,hm,hm2,if_true,Bool.or_false,aD]
   simp[dS,aG]
 ·simp[Gm,bK,e1,e7,e8,e9,hi,hT,gq,En,he,dS]
  refine hq _ _ ?_ ?_ ⟨?_,?_,?_,?_,?_,?_,?_,ne⟩
  ·simp[aj,e9]
  ·simp[aj,e10]
  ·simp[aj,e1,bK]
  ·simp[aj,e2]
  ·simp[aj,e3]
  ·simp[aj,e7,oL,yY]
  ·simp[aj,e8]
  ·simp[aD,g0,Ne.symm ne]
  ·simp only[oL,hm,hm2,if_true,Bool.or_true,aD]
   simp[dS,aG]
theorem hv2{P:Program}{d:aB}{T out:List aP}{h q i e o:Nat}(hi:i < T.length)(he:o < out.length){f:AF}{S:St}{Q:Exit→AF→St→Prop}
  (st:A9 d T h q i out f S) (e9:f 9=ak e) (e10:f 10=ak o) (hq:∀f' S',f' 9=ak e→f' 10=ak o→A9 d T h q i (uG T[i] o out) f' S'→Q .normal f' S'):AW P NN Q f S:=by
 obtain⟨e1,e2,e3,e7,e8,g0,gq,ne⟩:=st;have hgi:T[i]? = some T[i]:=List.getElem?_eq_getElem hi;have hge:out[o]? = some out[o]:=List.getElem?_eq_getElem he;have hgd:out.getD o .no=out[o]:=by simp[List.getD_eq_getElem?_getD,hge]
 have qJ:(i:Int) < T.length:=by omega
 have En:(o:Int) < out.length:=by omega
 have hm:vo out o 2=out.set o ⟨out[o].a,out[o].b,true⟩:=by unfold vo;rw[hgd];rfl
 have hm2:(out.set o ⟨out[o].a,out[o].b,true⟩).map dS=(out.map dS).set o (dS ⟨out[o].a,out[o].b,true⟩):=List.map_set;generalize hT:T[i]=t at *;obtain⟨a,b,c⟩:=t;cases b
 ·simp[NN,bK,e1,e8,hi,hT,dS]
  refine hq _ _ ?_ ?_ ⟨?_,?_,?_,?_,?_,?_,?_,ne⟩
  ·simp[aj,e9]
  ·simp[aj,e10]
  ·simp[aj,e1]
  ·simp[aj,e2]
  ·simp[aj,e3]
  ·simp[aj,e7,uG]
  ·simp[aj,e8]
  ·simp[g0]
  ·simp[gq,uG]
 ·simp[NN,bK,e1,e7,e8,e10,hi,hT,gq,En,he,dS]
  refine hq _ _ ?_ ?_ ⟨?_,?_,?_,?_,?_,?_,?_,ne⟩
  ·simp[aj,e9]
  ·simp[aj,e10]
  ·simp[aj,e1,bK]
  ·simp[aj,e2]
  ·simp[aj,e3]
  ·simp[aj,e7,uG,yY]
  ·simp[aj,e8]
  ·simp[aD,g0,Ne.symm ne]
  ·simp only[uG,hm,hm2,if_true,aD]
   simp[dS,aG]
theorem hv3{P:Program}{d:aB}{T out:List aP}{h q i e o:Nat}(hi:i < T.length)(he:e < out.length){f:AF}{S:St}{Q:Exit→AF→St→Prop}
  (st:A9 d T h q i out f S) (e9:f 9=ak e) (e10:f 10=ak o) (hq:∀f' S',f' 9=ak e→f' 10=ak o→A9 d T h q i (Ah T[i] e out) f' S'→Q .normal f' S'):AW P NP Q f S:=by
 obtain⟨e1,e2,e3,e7,e8,g0,gq,ne⟩:=st;have hgi:T[i]? = some T[i]:=List.getElem?_eq_getElem hi;have hge:out[e]? = some out[e]:=List.getElem?_eq_getElem he;have hgd:out.getD e .no=out[e]:=by simp[List.getD_eq_getElem?_getD,hge]
 have qJ:(i:Int) < T.length:=by omega
 have En:(e:Int) < out.length:=by omega
 have hm:vo out e 2=out.set e ⟨out[e].a,out[e].b,true⟩:=by unfold vo;rw[hgd];rfl
 have hm2:(out.set e ⟨out[e].a,out[e].b,true⟩).map dS=(out.map dS).set e (dS ⟨out[e].a,out[e].b,true⟩):=List.map_set;generalize hT:T[i]=t at *;obtain⟨a,b,c⟩:=t;cases c
 ·simp[NP,bK,e1,e8,hi,hT,dS]
  refine hq _ _ ?_ ?_ ⟨?_,?_,?_,?_,?_,?_,?_,ne⟩
  ·simp[aj,e9]
  ·simp[aj,e10]
  ·simp[aj,e1]
  ·simp[aj,e2]
  ·simp[aj,e3]
  ·simp[aj,e7,Ah]
  ·simp[aj,e8]
  ·simp[g0]
  ·simp[gq,Ah]
 ·simp[NP,bK,e1,e7,e8,e9,hi,hT,gq,En,he,dS]
  refine hq _ _ ?_ ?_ ⟨?_,?_,?_,?_,?_,?_,?_,ne⟩
  ·simp[aj,e9]
  ·simp[aj,e10]
  ·simp[aj,e1,bK]
  ·simp[aj,e2]
  ·simp[aj,e3]
  ·simp[aj,e7,Ah,yY]
  ·simp[aj,e8]
  ·simp[aD,g0,Ne.symm ne]
  ·simp only[Ah,hm,hm2,if_true,aD]
   simp[dS,aG]
def hvI(d:aB)(T:List aP)(h q:Nat)(m:Nat)(f:AF)(S:St):Prop:=
 ∃i,i≤d.next.length∧m=d.next.length - i∧A9 d T h q i ((List.range i).foldl (tT d h T) (List.replicate d.next.length .no)) f S
theorem ZnP{P:Program}{d:aB}(R:bg d){T:List aP}(hT:T.length=d.next.length){h q:Nat}(hh:((2*h+1:Nat):Int) < d.signs){f:AF}{S:St}{Q:Exit→AF→St→Prop}
  (h0:hvI d T h q d.next.length f S) (hq:∀f' S',A9 d T h q d.next.length (kW d T h) f' S'→Q .normal f' S'):AW P SS Q f S:=by
 simp[SS];refine kD (hvI d T h q) d.next.length h0 ?_
 rintro m f S ⟨i,hi,rfl,st⟩;have hn2:=R.n2;have hs2:=R.s2;have hol:((List.range i).foldl (tT d h T) (List.replicate d.next.length .no)).length=d.next.length:=by rw[MQ];simp
 by_cases hlt:i < d.next.length
 ·obtain⟨e1,e2,e3,e7,e8,g0,gq,ne⟩:=id st
  have hlI:(i:Int) < d.next.length:=by omega
  have hgn:d.next[i]? = some d.next[i]:=List.getElem?_eq_getElem hlt
  have hrl:((d.next[i]).length:Int)=d.signs:=R.row i hlt;have h1:2*h < (d.next[i]).length:=by omega
  have h2:2*h+1 < (d.next[i]).length:=by omega
  have hI1:2*(h:Int) < (d.next[i]).length:=by omega
  have hI2:2*(h:Int)+1 < (d.next[i]).length:=by omega
  have hI3:0≤2*(h:Int):=by omega
  have hI4:0≤2*(h:Int)+1:=by omega
  have hN1:(2*(h:Int)).toNat=2*h:=by omega
  have hN2:(2*(h:Int)+1).toNat=2*h+1:=by omega
  obtain⟨a1,a2⟩:=R.at_ i hlt (2*h) h1
  obtain⟨b1,b2⟩:=R.at_ i hlt (2*h+1) h2
  have w1:IntKind.i64.wrap (2*(h:Int))=2*(h:Int):=aZ _ (by omega);have w2:IntKind.i64.wrap (2*(h:Int)+1)=2*(h:Int)+1:=aZ _ (by omega);have g1:(d.next[i])[2*h]? = some (d.next[i])[2*h]:=List.getElem?_eq_getElem h1;have g2:(d.next[i])[2*h+1]? = some (d.next[i])[2*h+1]:=List.getElem?_eq_getElem h2;have hev:qA d h i=((d.next[i])[2*h]).toNat:=by simp[qA,List.getD_eq_getElem?_getD,hgn,g1]
  have hod:wh d h i=((d.next[i])[2*h+1]).toNat:=by simp[wh,List.getD_eq_getElem?_getD,hgn,g2]
  simp[e2,e3,e8,g0,hlI,aH,aN,au,hgn,w1,w2,hI3,hI4,hN1,hN2,h1,h2];have Ce:i < T.length:=by omega
  have hTd:T.getD i .no=T[i]:=by simp[List.getD_eq_getElem?_getD,List.getElem?_eq_getElem Ce]
  refine hv1 (d:=d) (T:=T) (out:=(List.range i).foldl (tT d h T) (List.replicate d.next.length .no)) (h:=h) (q:=q) (i:=i) (e:=qA d h i) (o:=wh d h i) Ce (by omega) ⟨?_,?_,?_,?_,?_,?_,?_,ne⟩ ?_ ?_ ?_
  ·simp[aj,e1]
  ·simp[aj,e2]
  ·simp[aj,e3]
  ·simp[aj,e7]
  ·simp[aj,e8]
  ·simp[g0]
  ·simp[gq]
  ·simp[aj,ak];omega
  ·simp[aj,ak];omega
  ·intro f1 S1 q9 PZ st1
   simp
   have hl1:(oL d h T[i] (qA d h i) ((List.range i).foldl (tT d h T) (List.replicate d.next.length .no))).length=d.next.length:=by
    unfold oL;split<;>simp[yY,hol]
   refine hv2 Ce (by omega) st1 q9 PZ ?_;intro f2 S2 q9 PZ st2;simp
   have hl2:(uG T[i] (wh d h i) (oL d h T[i] (qA d h i) ((List.range i).foldl (tT d h T) (List.replicate d.next.length .no)))).length=d.next.length:=by
    unfold uG;split<;>simp[yY,hl1]
   refine hv3 Ce (by omega) st2 q9 PZ ?_;intro f3 S3 q9 PZ Ez;simp[Ez.e8];rw[aZ _ (by omega)]
   have aaR:(List.range (i+1)).foldl (tT d h T) (List.replicate d.next.length .no)=Ah T[i] (qA d h i) (uG T[i] (wh d h i) (oL d h T[i] (qA d h i) ((List.range i).foldl (tT d h T) (List.replicate d.next.length .no)))):=by
    rw[List.range_succ,List.foldl_append,List.foldl_cons,List.foldl_nil];unfold tT;rw[hTd]
   refine⟨d.next.length - (i+1),by omega,i+1,by omega,rfl,?_⟩;rw[aaR];refine⟨?_,?_,?_,?_,?_,?_,?_,ne⟩
   ·simp[aj,Ez.e1]
   ·simp[aj,Ez.e2]
   ·simp[aj,Ez.e3]
   ·simp[aj,Ez.e7]
   ·simp[aj,ak]
   ·simp[Ez.g0]
   ·simp[Ez.gq]
 ·have:i=d.next.length:=by omega
  subst this;obtain⟨e1,e2,e3,e7,e8,g0,gq,ne⟩:=id st;simp[e3,e8,g0,aH,aN];refine hq _ _ ⟨?_,?_,?_,?_,?_,?_,?_,ne⟩
  ·simp[aj,e1]
  ·simp[aj,e2]
  ·simp[aj,e3]
  ·simp[aj,e7,kW]
  ·simp[aj,e8]
  ·simp[g0]
  ·simp[gq,kW]
theorem Yi{P:Program}{d:aB}(R:bg d){T:List aP}(hT:T.length=d.next.length){h:Nat}(hh:((2*h+1:Nat):Int) < d.signs) :
  AW P Rp (bR [6] (Ox (bK (kW d T h)))) (bC [aH d,bK T,ak h]) S0:=by
 have hn2:=R.n2;have q1:(d.next.length:Int)≤9223372036854775807:=by omega
 have q2:3*(d.next.length:Int)≤281474976710656:=by omega
 simp[Rp,aH,aN,yj,q1,q2];refine ZnP R hT hh (q:=5) ?_ ?_
 ·refine⟨0,by omega,rfl,⟨?_,?_,?_,?_,?_,?_,?_,by omega⟩⟩
  ·simp[aj,bJ,bO]
  ·simp[aj,bJ,bO,ak]
  ·simp[aj]
  ·simp[aj]
  ·simp[aj,ak]
  ·simp[aD,aH,ak,aN]
  ·simp[aD,aP.no,dS,aG]
 ·intro f S st
  simp[st.e7];exact Vec.P6r (Vec.mk' st.gq (by simp))
def uI(d:aB)(T:List aP):Bool:=(List.range d.next.length).any fun i=>(T.getD i .no).c && d.fin.getD i false
def enJ(d:aB)(T:List aP)(m:Nat)(f:AF)(S:St):Prop:=
 ∃i,i≤d.next.length∧m=d.next.length - i∧f 1=bK T∧f 2=.ptr 0 0 0∧f 5=ak i∧S.g 0=some (.arr 3 [aH d])∧∀k,k < i→((T.getD k .no).c && d.fin.getD k false)=false
theorem Z7F{P:Program}{d:aB}(R:bg d){T:List aP}(hT:T.length=d.next.length) :
  AW P Rt (bR [4] (dx (aG (uI d T)))) (bC [aH d,bK T]) S0:=by
 have hn2:=R.n2;have hfl:=R.fin;simp[Rt,aH];refine kD (enJ d T) d.next.length ?_ ?_
 ·refine⟨0,by omega,rfl,?_,?_,?_,?_,fun k hk=>by omega⟩
  ·simp[aj,bJ,bO]
  ·simp[aj]
  ·simp[aj,ak]
  ·simp[aD,aH,ak]
 ·rintro m f S ⟨i,hi,rfl,e1,e2,e5,g0,hno⟩
  by_cases hlt:i < d.next.length
  ·have Pg:i < T.length:=by omega
   have qJ:(i:Int) < T.length:=by omega
   have hgT:T[i]? = some T[i]:=List.getElem?_eq_getElem Pg;have hif:i < d.fin.length:=by omega
   have hiF:(i:Int) < d.fin.length:=by omega
   have hgf:d.fin[i]? = some d.fin[i]:=List.getElem?_eq_getElem hif;have hd1:T.getD i .no=T[i]:=by simp[List.getD_eq_getElem?_getD,hgT]
   have hd2:d.fin.getD i false=d.fin[i]:=by simp[List.getD_eq_getElem?_getD,hgf]
   have hw:IntKind.i64.wrap ((i:Int)+1)=(i:Int)+1:=aZ _ (by omega)
   have next:∀{f':AF} {S':St},f' 1=bK T→f' 2=.ptr 0 0 0→f' 5=ak ((i:Int)+1)→S'.g 0=some (.arr 3 [aH d])→((T.getD i .no).c && d.fin.getD i false)=false→vR (enJ d T) (d.next.length - i) f' S':=by
    intro f' S' q1 q2 q5 q0 hz;refine⟨d.next.length - (i+1),by omega,i+1,by omega,rfl,q1,q2,by rw[q5];simp[ak],q0,fun k hk=>?_⟩;by_cases hki:k=i
    ·subst hki;exact hz
    ·exact hno k (by omega)
   rw[hd1,hd2] at next
   have hlast:T[i].c=true→d.fin[i]=true→uI d T=true:=by
    intro h1 h2;unfold uI;rw[List.any_eq_true];exact⟨i,by simpa using hlt,by rw[hd1,hd2,h1,h2];rfl⟩
   generalize Ce:T[i]=t at *;obtain⟨a,b,c⟩:=t;cases c with
   | false=>
    simp[e1,e5,qJ,Pg,Ce,bK,dS,hw];refine next ?_ ?_ ?_ ?_ rfl
    ·simp[aj,e1,bK]
    ·simp[aj,e2]
    ·simp[aj,ak]
    ·simp[g0,aH,ak]
   | true=>
    cases hfi:d.fin[i] with
    | false=>
     simp[e1,e2,e5,g0,qJ,Pg,Ce,hif,hfi,bK,dS,aH,bA,hw];refine next ?_ ?_ ?_ ?_ (by simp[hfi])
     ·simp[aj,e1,bK]
     ·simp[aj,e2]
     ·simp[aj,ak]
     ·simp[g0,aH,ak,bA]
    | true=>
     simp[e1,e2,e5,g0,qJ,Pg,Ce,hif,hfi,bK,dS,aH,bA,hlast rfl hfi];exact iF _ _
  ·have:i=d.next.length:=by omega
   subst this;have qJ:¬(d.next.length:Int) < T.length:=by omega
   have hiN:¬d.next.length < T.length:=by omega
   have hend:uI d T=false:=by
    unfold uI;rw[List.any_eq_false];intro k hk;rw[hno k (by simpa using hk)];simp
   simp[e1,e5,qJ,bK,hend];exact iF _ _
def Hq(x y:aP):aP:=⟨x.a || y.a,x.b || y.b,x.c || y.c⟩
def uP(k:Nat)(x y:aP):aP:=⟨x.a || (decide (0 < k) && y.a),x.b || (decide (1 < k) && y.b),x.c || (decide (2 < k) && y.c)⟩
theorem ZlK(x y:aP):uP 0 x y=x:=by simp[uP]
theorem ZjD(x y:aP):uP 3 x y=Hq x y:=by simp[uP,Hq]
def tY(i:Nat)(out x:List aP):List aP:=out.mapIdx fun j t=>if j < i then Hq t (x.getD j .no) else t
theorem MV(i:Nat)(out x:List aP):(tY i out x).length=out.length:=by simp[tY]
theorem Zjp(out x:List aP):tY 0 out x=out:=by
 apply List.ext_getElem
 ·simp[tY]
 ·intro j h1 h2;simp[tY]
theorem ZnZ{i:Nat}{out x:List aP}(h:i < out.length):(tY i out x)[i]'(by rw[MV];exact h)=out[i]:=by simp[tY]
theorem Zjo{i:Nat}{out x:List aP}(h:i < out.length):(tY i out x).set i (Hq out[i] (x.getD i .no))=tY (i+1) out x:=by
 apply List.ext_getElem
 ·simp[tY]
 ·intro j h1 h2
  rw[List.getElem_set];simp only[tY,List.getElem_mapIdx];by_cases hij:i=j
  ·subst hij;simp
  ·rw[if_neg hij]
   by_cases hj:j < i
   ·rw[if_pos hj,if_pos (by omega)]
   ·rw[if_neg hj,if_neg (by omega)]
def zB(out x:List aP):List aP:=tY out.length out x
def wo(d:aB)(T:List aP):List aP:=(List.range (d.signs / 2).toNat).foldl (fun out h=>zB out (kW d T h)) (List.replicate T.length .no)
theorem ZlL(out x:List aP):(zB out x).length=out.length:=MV _ _ _
theorem R3(d:aB)(T:List aP):∀(l:List Nat) (out:List aP),(l.foldl (fun out h=>zB out (kW d T h)) out).length=out.length
 | [],_=>rfl
 | h::l,out=>by rw[List.foldl_cons,R3 d T l,ZlL]
theorem Tm(d:aB)(T:List aP):(wo d T).length=T.length:=by unfold wo;rw[R3];simp
structure KR(d:aB)(T x:List aP)(h q i:Nat)(cur:List aP)(f:AF)(S:St):Prop where
 e1:f 1=bK T
 e2:f 2=.ptr 0 0 0
 e5:f 5=.own q 0 cur.length
 e6:f 6=ak h
 e7:f 7=bK x
 e8:f 8=ak i
 g0:S.g 0=some (.arr 3 [aH d])
 gq:S.g q=some (.arr 3 (cur.map dS))
 ne:q≠0
def VK(d:aB)(T x:List aP)(h q i:Nat)(out:List aP)(t:aP)(m:Nat)(f:AF)(S:St):Prop:=
 ∃k,k≤3∧m=3 - k∧f 9=ak k∧KR d T x h q i (out.set i (uP k t (x.getD i .no))) f S
theorem Zr3{P:Program}{d:aB}{T x out:List aP}{h q i:Nat}{t:aP}(hi:i < out.length)(hx:i < x.length){f:AF}{S:St}{Q:Exit→AF→St→Prop}
  (h0:VK d T x h q i out t 3 f S) (hq:∀f' S',KR d T x h q i (out.set i (Hq t (x.getD i .no))) f' S'→Q .normal f' S'):AW P Ub Q f S:=by
 simp[Ub];refine kD (VK d T x h q i out t) 3 h0 ?_;rintro m f S ⟨k,hk,rfl,e9,st⟩;have hgx:x.getD i .no=x[i]:=by simp[List.getD_eq_getElem?_getD,List.getElem?_eq_getElem hx]
 rw[hgx] at st hq;have hxg:x[i]? = some x[i]:=List.getElem?_eq_getElem hx;have PE:(i:Int) < x.length:=by omega
 have qJ:(i:Int) < out.length:=by omega
 obtain⟨e1,e2,e5,e6,e7,e8,g0,gq,ne⟩:=id st
 have step:∀{k':Nat} {f':AF} {S':St},k'=k+1→k'≤3→f' 9=ak k'→f' 1=bK T→f' 2=.ptr 0 0 0→f' 5=.own q 0 out.length→f' 6=ak h→f' 7=bK x→f' 8=ak i→S'.g 0=some (.arr 3 [aH d])→
   S'.g q=some (.arr 3 ((out.set i (uP k' t x[i])).map dS))→vR (VK d T x h q i out t) (3 - k) f' S':=by
  intro k' f' S' hkk hk3 q9 q1 q2 q5 q6 q7 q8 q0 qq;exact⟨3 - k',by omega,k',hk3,rfl,q9,⟨q1,q2,by rw[q5];simp,q6,q7,q8,q0,by rw[hgx];exact qq,ne⟩⟩
 have hm:∀z,(out.set i z).map dS=(out.map dS).set i (dS z):=fun z=>List.map_set
 rw[hm] at gq;have hl5:f 5=.own q 0 out.length:=by rw[e5];simp
 generalize hxi:x[i]=y at *;obtain⟨a,b,c⟩:=t;obtain⟨a',b',c'⟩:=y;have w1:IntKind.i64.wrap 1=1:=aZ _ (by omega);have w2:IntKind.i64.wrap 2=2:=aZ _ (by omega);have w3:IntKind.i64.wrap 3=3:=aZ _ (by omega)
 match k,hk with
 | 0,_=>
  simp[uP] at gq;cases a
  ·simp[e9,hl5,e7,e8,gq,qJ,hi,hx,hxi,bK,dS,w1]
   refine step rfl (by omega) ?_ ?_ ?_ ?_ ?_ ?_ ?_ ?_ ?_
   ·simp[aj,ak]
   ·simp[aj,e1]
   ·simp[aj,e2]
   ·simp[aj,hl5]
   ·simp[aj,e6]
   ·simp[aj,e7,bK]
   ·simp[aj,e8,ak]
   ·simp[aD,g0,Ne.symm ne]
   ·simp[aD,hm,uP,dS,aG]
  ·simp[e9,hl5,e8,gq,qJ,hi,dS,w1]
   refine step rfl (by omega) ?_ ?_ ?_ ?_ ?_ ?_ ?_ ?_ ?_
   ·simp[aj,ak]
   ·simp[aj,e1]
   ·simp[aj,e2]
   ·simp[aj,hl5]
   ·simp[aj,e6]
   ·simp[aj,e7,bK]
   ·simp[aj,e8,ak]
   ·simp[aD,g0,Ne.symm ne]
   ·simp[aD,hm,uP,dS,aG]
 | 1,_=>
  simp[uP] at gq;cases b
  ·simp[e9,hl5,e7,e8,gq,qJ,hi,hx,hxi,bK,dS,w2]
   refine step rfl (by omega) ?_ ?_ ?_ ?_ ?_ ?_ ?_ ?_ ?_
   ·simp[aj,ak]
   ·simp[aj,e1]
   ·simp[aj,e2]
   ·simp[aj,hl5]
   ·simp[aj,e6]
   ·simp[aj,e7,bK]
   ·simp[aj,e8,ak]
   ·simp[aD,g0,Ne.symm ne]
   ·simp[aD,hm,uP,dS,aG]
  ·simp[e9,hl5,e8,gq,qJ,hi,dS,w2]
   refine step rfl (by omega) ?_ ?_ ?_ ?_ ?_ ?_ ?_ ?_ ?_
   ·simp[aj,ak]
   ·simp[aj,e1]
   ·simp[aj,e2]
   ·simp[aj,hl5]
   ·simp[aj,e6]
   ·simp[aj,e7,bK]
   ·simp[aj,e8,ak]
   ·simp[aD,g0,Ne.symm ne]
   ·simp[aD,hm,uP,dS,aG]
 | 2,_=>
  simp[uP] at gq;cases c
  ·simp[e9,hl5,e7,e8,gq,qJ,hi,hx,hxi,bK,dS,w3]
   refine step rfl (by omega) ?_ ?_ ?_ ?_ ?_ ?_ ?_ ?_ ?_
   ·simp[aj,ak]
   ·simp[aj,e1]
   ·simp[aj,e2]
   ·simp[aj,hl5]
   ·simp[aj,e6]
   ·simp[aj,e7,bK]
   ·simp[aj,e8,ak]
   ·simp[aD,g0,Ne.symm ne]
   ·simp[aD,hm,uP,dS,aG]
  ·simp[e9,hl5,e8,gq,qJ,hi,dS,w3]
   refine step rfl (by omega) ?_ ?_ ?_ ?_ ?_ ?_ ?_ ?_ ?_
   ·simp[aj,ak]
   ·simp[aj,e1]
   ·simp[aj,e2]
   ·simp[aj,hl5]
   ·simp[aj,e6]
   ·simp[aj,e7,bK]
   ·simp[aj,e8,ak]
   ·simp[aD,g0,Ne.symm ne]
   ·simp[aD,hm,uP,dS,aG]
 | 3,_=>
  simp[e9];refine hq _ _ ⟨?_,?_,?_,?_,?_,?_,?_,?_,ne⟩
  ·simp[aj,e1]
  ·simp[aj,e2]
  ·simp[aj,hl5]
  ·simp[aj,e6]
  ·simp[aj,e7,bK]
  ·simp[aj,e8,ak]
  ·simp[g0]
  ·rw[ZjD] at gq
   rw[hm];exact gq
def ahI(d:aB)(T x:List aP)(h q:Nat)(out:List aP)(m:Nat)(f:AF)(S:St):Prop:=
 ∃i,i≤out.length∧m=out.length - i∧KR d T x h q i (tY i out x) f S
theorem Zpa{P:Program}{d:aB}{T x out:List aP}{h q:Nat}(hx:x.length=out.length)(ho:out.length≤3000){f:AF}{S:St}{Q:Exit→AF→St→Prop}
  (h0:ahI d T x h q out out.length f S) (hq:∀f' S',KR d T x h q out.length (zB out x) f' S'→Q .normal f' S'):AW P Tp Q f S:=by
 simp[Tp];refine kD (ahI d T x h q out) out.length h0 ?_;rintro m f S ⟨i,hi,rfl,st⟩;obtain⟨e1,e2,e5,e6,e7,e8,g0,gq,ne⟩:=id st;by_cases hlt:i < out.length
 ·have hxi:i < x.length:=by omega
  have PE:(i:Int) < x.length:=by omega
  have hml:i < (tY i out x).length:=by rw[MV];exact hlt
  have hat:=ZnZ (x:=x) hlt;simp[e7,e8,bK,PE];refine Zr3 (out:=tY i out x) (t:=out[i]) (x:=x) (T:=T) (d:=d) (h:=h) (q:=q) (i:=i) hml hxi ?_ ?_
  ·refine⟨0,by omega,rfl,?_,⟨?_,?_,?_,?_,?_,?_,?_,?_,ne⟩⟩
   ·simp[aj,ak]
   ·simp[aj,e1]
   ·simp[aj,e2]
   ·simp[aj,e5]
   ·simp[aj,e6]
   ·simp[aj,e7,bK]
   ·simp[aj,e8]
   ·simp[g0]
   ·rw[ZlK,←hat,List.set_getElem_self];simp[gq]
  ·intro f' S' st'
   rw[Zjo hlt] at st';simp[st'.e8];rw[aZ _ (by omega)];refine⟨out.length - (i+1),by omega,i+1,by omega,rfl,⟨?_,?_,?_,?_,?_,?_,?_,?_,ne⟩⟩
   ·simp[aj,st'.e1]
   ·simp[aj,st'.e2]
   ·simp[aj,st'.e5]
   ·simp[aj,st'.e6]
   ·simp[aj,st'.e7]
   ·simp[aj,ak]
   ·simp[st'.g0]
   ·simp[st'.gq]
 ·have:i=out.length:=by omega
  subst this;have PE:¬(out.length:Int) < x.length:=by omega
  have hxN:¬out.length < x.length:=by omega
  simp[e7,e8,bK,PE];refine hq _ _ ⟨?_,?_,?_,?_,?_,?_,?_,?_,ne⟩
  ·simp[aj,e1]
  ·simp[aj,e2]
  ·simp[aj,e5,zB]
  ·simp[aj,e6]
  ·simp[aj,e7,bK]
  ·simp[aj,e8]
  ·simp[g0]
  ·simp[gq,zB]
structure ZrH(d:aB)(T:List aP)(q h:Nat)(cur:List aP)(f:AF)(S:St):Prop where
 e1:f 1=bK T
 e2:f 2=.ptr 0 0 0
 e5:f 5=.own q 0 cur.length
 e6:f 6=ak h
 g0:S.g 0=some (.arr 3 [aH d])
 gq:S.g q=some (.arr 3 (cur.map dS))
 ne:q≠0
def vw(d:aB)(T:List aP)(h:Nat):List aP:=(List.range h).foldl (fun out h=>zB out (kW d T h)) (List.replicate T.length .no)
theorem Y7(d:aB)(T:List aP)(h:Nat):vw d T (h+1)=zB (vw d T h) (kW d T h):=by
 unfold vw;rw[List.range_succ,List.foldl_append];rfl
theorem Sv(d:aB)(T:List aP)(h:Nat):(vw d T h).length=T.length:=by unfold vw;rw[R3];simp
def ahO(d:aB)(T:List aP)(q:Nat)(m:Nat)(f:AF)(S:St):Prop:=
 ∃h,h≤(d.signs / 2).toNat∧m=(d.signs / 2).toNat - h∧ZrH d T q h (vw d T h) f S
theorem Zpb{P:Program}{fh:FuncId}{d:aB}(R:bg d){T:List aP}(hT:T.length=d.next.length){q:Nat}
  (hh:∀h:Nat,((2*h+1:Nat):Int) < d.signs→aM P fh [aH d,bK T,ak h] (bK (kW d T h))) {f:AF} {S:St} {Q:Exit→AF→St→Prop}
  (h0:ahO d T q (d.signs / 2).toNat f S) (hq:∀f' S',ZrH d T q (d.signs / 2).toNat (wo d T) f' S'→Q .normal f' S'):AW P (Tq fh) Q f S:=by
 simp[Tq];refine kD (ahO d T q) (d.signs / 2).toNat h0 ?_;rintro m f S ⟨h,hi,rfl,⟨e1,e2,e5,e6,g0,gq,ne⟩⟩;have hs1:=R.s1;have hs2:=R.s2;have hn2:=R.n2;have hdiv:d.signs.tdiv 2=d.signs / 2:=Int.tdiv_eq_ediv_of_nonneg (by omega);have w0:IntKind.i64.wrap (d.signs / 2)=d.signs / 2:=aZ _ (by omega);by_cases hlt:h < (d.signs / 2).toNat
 ·have hI:(h:Int) < d.signs / 2:=by omega
  simp[e1,e2,e6,g0,aH,hdiv,w0,hI];refine aQ.pure (hh h (by omega)) (aR (dW d) (aR (zQ T) (aR (aX _) bB))) (zQ _) ?_;simp;refine Zpa (out:=vw d T h) (x:=kW d T h) (T:=T) (d:=d) (h:=h) (q:=q) (by rw[Fp,Sv,hT]) (by rw[Sv,hT];exact hn2) ?_ ?_
  ·refine⟨0,by omega,rfl,⟨?_,?_,?_,?_,?_,?_,?_,?_,ne⟩⟩
   ·simp[aj,e1]
   ·simp[aj,e2]
   ·simp[aj,e5,MV]
   ·simp[aj,e6]
   ·simp[aj]
   ·simp[aj,ak]
   ·simp[g0]
   ·simp[gq,Zjp]
  ·intro f' S' st
   obtain⟨e1,e2,e5,e6,e7,e8,g0,gq,ne⟩:=st;simp[e6];rw[aZ _ (by omega)];refine⟨(d.signs / 2).toNat - (h+1),by omega,h+1,by omega,rfl,?_⟩;rw[Y7];refine⟨?_,?_,?_,?_,?_,?_,ne⟩
   ·simp[aj,e1]
   ·simp[aj,e2]
   ·simp[aj,e5]
   ·simp[aj,ak]
   ·simp[g0]
   ·simp[gq]
 ·have:h=(d.signs / 2).toNat:=by omega
  subst this;have hI:¬max (d.signs / 2) 0 < d.signs / 2:=by omega
  simp[e2,e6,g0,aH,hdiv,w0,hI];refine hq _ _ ⟨?_,?_,?_,?_,?_,?_,ne⟩
  ·simp[aj,e1]
  ·simp[aj,e2]
  ·simp[aj,e5,vw,wo]
  ·simp[aj,e6]
  ·simp[g0]
  ·simp[gq,vw,wo]
theorem Z6L{P:Program}{fh:FuncId}{d:aB}(R:bg d){T:List aP}(hT:T.length=d.next.length)
  (hh:∀h:Nat,((2*h+1:Nat):Int) < d.signs→aM P fh [aH d,bK T,ak h] (bK (kW d T h))) :
  AW P (Ro fh) (bR [4] (dx (bK (wo d T)))) (bC [aH d,bK T]) S0:=by
 have hn2:=R.n2;have q1:(T.length:Int)≤9223372036854775807:=by omega
 have q2:3*(T.length:Int)≤281474976710656:=by omega
 simp[Ro,aH,bK,yj,q1,q2];change AW _ _ (iW _ _) _ _;refine Zpb R hT (q:=4) hh ?_ ?_
 ·refine⟨0,by omega,rfl,⟨?_,?_,?_,?_,?_,?_,by omega⟩⟩
  ·simp[aj,bJ,bO,bK]
  ·simp[aj]
  ·simp[aj,vw]
  ·simp[aj,ak]
  ·simp[aD,aH,ak]
  ·simp[aD,vw,aP.no,dS,aG]
 ·intro f S st
  simp[st.e5];exact Vec.fz (Vec.mk' st.gq (by simp)) TN
def zm(d:aB):Nat→Nat→List aP→Int
 | 0,_,_ => -1
 | f+1,n,T=>if uI d T=true then (n:Int) else zm d f (n+1) (wo d T)
def vD(d:aB)(T:List aP):Int:=zm d (3*d.next.length+1) 0 T
def lnI(d:aB)(r:Int)(m:Nat)(f:AF)(S:St):Prop:=
 ∃(n:Nat) (T:List aP),n≤3*d.next.length+1∧m=3*d.next.length+1 - n∧f 1=bK T∧f 2=.ptr 0 0 0∧f 5=ak n∧S.g 0=some (.arr 3 [aH d])∧T.length=d.next.length∧zm d (3*d.next.length+1 - n) n T=r
theorem Z6U{P:Program}{fe fa:FuncId}{d:aB}(R:bg d){T:List aP}(hT:T.length=d.next.length)
  (he:∀T:List aP,T.length=d.next.length→aM P fe [aH d,bK T] (aG (uI d T))) (ha:∀T:List aP,T.length=d.next.length→aM P fa [aH d,bK T] (bK (wo d T))) :
  AW P (Rq fe fa) (bR [4] (dx (ak (vD d T)))) (bC [aH d,bK T]) S0:=by
 have hn2:=R.n2;have cd:=dW d;simp[Rq,aH];refine kD (lnI d (vD d T)) (3*d.next.length+1) ?_ ?_
 ·refine⟨0,T,by omega,rfl,?_,?_,?_,?_,hT,rfl⟩
  ·simp[aj,bJ,bO]
  ·simp[aj]
  ·simp[aj,ak]
  ·simp[aD,aH,ak]
 ·rintro m f S ⟨n,U,hn,rfl,e1,e2,e5,g0,hU,hr⟩
  have w0:IntKind.i64.wrap (3*(d.next.length:Int))=3*(d.next.length:Int):=aZ _ (by omega);by_cases hlt:n≤3*d.next.length
  ·have hI:(n:Int)≤3*d.next.length:=by omega
   obtain⟨k,hk⟩:∃k,3*d.next.length+1 - n=k+1:=⟨3*d.next.length - n,by omega⟩
   rw[hk,zm] at hr;simp[e1,e2,e5,g0,aH,aN,w0,hI];refine aQ.pure (he U hU) (aR cd (aR (zQ U) bB)) (cu _) ?_;cases hend:uI d U with
   | true=>
    rw[hend,if_pos rfl] at hr;simp[e5];rw[←hr];exact vv _ _
   | false=>
    rw[hend] at hr;simp only[Bool.false_eq_true,if_false] at hr;simp[e1,e2,g0,aH,aN];refine aQ.pure (ha U hU) (aR cd (aR (zQ U) bB)) (zQ _) ?_;simp[e5];rw[aZ _ (by omega)];refine⟨k,by omega,n+1,wo d U,by omega,by omega,?_,?_,?_,?_,by rw[Tm,hU],?_⟩
    ·simp[aj]
    ·simp[aj,e2]
    ·simp[aj,ak]
    ·simp[g0,aH,ak,aN]
    ·have:3*d.next.length+1 - (n+1)=k:=by omega
     rw[this];exact hr
  ·have hI:¬(n:Int)≤3*d.next.length:=by omega
   have hz:3*d.next.length+1 - n=0:=by omega
   rw[hz,zm] at hr;simp[e2,e5,g0,aH,aN,w0,hI];rw[←hr];exact vv _ _
end Go.Rf
namespace Go.Proofs
open Go.Shelf Go.Rf Go.Sort
def Tryz.P4g:Go.Shelf.Ren:=⟨fun | 125=>101 | 128=>129 | 129=>130 | 166=>133 | 167=>135 | 169=>136 | 171=>134 | 189=>66 | 215=>143 | 216=>126 | 240=>144 | 243=>145 | 246=>148 | 257=>100 | 276=>147 | 283=>149 | 284=>150 | 285=>151 | 286=>152 | 294=>120 | 295=>121 | 296=>122 | 297=>123 | 298=>124 | 299=>125 | 300=>127 | 301=>128 | 317=>153 | 318=>154 | 319=>155 | 320=>156 | 328=>138 | 329=>139 | 330=>140 | 331=>141 | 332=>142 | 337=>157 | 338=>158 | 343=>146 | n=>n,fun | 28=>23 | 29=>128 | 30=>148 | 34=>44 | 35=>103 | 36=>115 | 37=>165 | 45=>74 | 46=>140 | 47=>139 | 51=>160 | 52=>159 | 53=>162 | 54=>161 | 70=>164 | 71=>166 | 72=>167 | 74=>168 | 75=>169 | 76=>170 | 77=>171 | 78=>173 | 80=>174 | 81=>203 | 83=>172 | 84=>187 | 111=>108 | 112=>156 | 114=>192 | 127=>181 | 131=>86 | 134=>138 | 164=>185 | 165=>186 | 171=>188 | 172=>189 | 173=>190 | 174=>191 | 181=>152 | 182=>153 | 183=>154 | 184=>155 | 185=>147 | 186=>157 | 187=>158 | 211=>193 | 212=>194 | 213=>195 | 218=>175 | 219=>176 | 220=>177 | 221=>178 | 222=>179 | 223=>180 | 228=>182 | 229=>183 | 230=>184 | 232=>196 | 233=>197 | 238=>198 | 239=>199 | 240=>200 | 241=>201 | 242=>202 | 245=>206 | 248=>209 | n=>n,fun | 17=>0 | 18=>1 | 19=>2 | n=>n⟩
theorem Tryz.P5K:Go.Proofs.Lays.n166 Tryz.prog Tryz.P4g:={
 mixed:=by kernel_rfl
 f166:=Tryz.func133.trans (congrArg some (by kernel_rfl))
 f240:=Tryz.func144.trans (congrArg some (by kernel_rfl))
 f276:=Tryz.func147.trans (congrArg some (by kernel_rfl))
 t0:=Tryz.underlying0
 a0:=Tryz.isAgg0
 z0:=Tryz.sizeOf0
 v0:=Tryz.zeroValue0
 t3:=Tryz.underlying3
 a3:=Tryz.isAgg3
 z3:=Tryz.sizeOf3
 v3:=Tryz.zeroValue3
 t4:=Tryz.underlying4
 a4:=Tryz.isAgg4
 z4:=Tryz.sizeOf4
 v4:=Tryz.zeroValue4
 t9:=Tryz.underlying9
 a9:=Tryz.isAgg9
 z9:=Tryz.sizeOf9
 v9:=Tryz.zeroValue9
 t20:=Tryz.underlying20
 a20:=Tryz.isAgg20
 z20:=Tryz.sizeOf20
 v20:=Tryz.zeroValue20
 t37:=Tryz.underlying165
 a37:=Tryz.isAgg165
 z37:=Tryz.sizeOf165
 v37:=Tryz.zeroValue165
 t70:=Tryz.underlying164
 a70:=Tryz.isAgg164
 z70:=Tryz.sizeOf164
 v70:=Tryz.zeroValue164
 t72:=Tryz.underlying167
 a72:=Tryz.isAgg167
 z72:=Tryz.sizeOf167
 v72:=Tryz.zeroValue167
 t75:=Tryz.underlying169
 a75:=Tryz.isAgg169
 z75:=Tryz.sizeOf169
 v75:=Tryz.zeroValue169
 t164:=Tryz.underlying185
 a164:=Tryz.isAgg185
 z164:=Tryz.sizeOf185
 v164:=Tryz.zeroValue185 }
theorem Tryz.P5L:Go.Proofs.Lays.n167 Tryz.prog Tryz.P4g:={
 mixed:=by kernel_rfl
 f167:=Tryz.func135.trans (congrArg some (by kernel_rfl))
 f240:=Tryz.func144.trans (congrArg some (by kernel_rfl))
 f276:=Tryz.func147.trans (congrArg some (by kernel_rfl))
 t0:=Tryz.underlying0
 a0:=Tryz.isAgg0
 z0:=Tryz.sizeOf0
 v0:=Tryz.zeroValue0
 t4:=Tryz.underlying4
 a4:=Tryz.isAgg4
 z4:=Tryz.sizeOf4
 v4:=Tryz.zeroValue4
 t5:=Tryz.underlying5
 a5:=Tryz.isAgg5
 z5:=Tryz.sizeOf5
 v5:=Tryz.zeroValue5
 t9:=Tryz.underlying9
 a9:=Tryz.isAgg9
 z9:=Tryz.sizeOf9
 v9:=Tryz.zeroValue9
 t20:=Tryz.underlying20
 a20:=Tryz.isAgg20
 z20:=Tryz.sizeOf20
 v20:=Tryz.zeroValue20
 t37:=Tryz.underlying165
 a37:=Tryz.isAgg165
 z37:=Tryz.sizeOf165
 v37:=Tryz.zeroValue165
 t70:=Tryz.underlying164
 a70:=Tryz.isAgg164
 z70:=Tryz.sizeOf164
 v70:=Tryz.zeroValue164
 t72:=Tryz.underlying167
 a72:=Tryz.isAgg167
 z72:=Tryz.sizeOf167
 v72:=Tryz.zeroValue167
 t75:=Tryz.underlying169
 a75:=Tryz.isAgg169
 z75:=Tryz.sizeOf169
 v75:=Tryz.zeroValue169
 t164:=Tryz.underlying185
 a164:=Tryz.isAgg185
 z164:=Tryz.sizeOf185
 v164:=Tryz.zeroValue185 }
theorem Tryz.P5M:Go.Proofs.Lays.n169 Tryz.prog Tryz.P4g:={
 mixed:=by kernel_rfl
 f169:=Tryz.func136.trans (congrArg some (by kernel_rfl))
 t0:=Tryz.underlying0
 a0:=Tryz.isAgg0
 z0:=Tryz.sizeOf0
 v0:=Tryz.zeroValue0
 t3:=Tryz.underlying3
 a3:=Tryz.isAgg3
 z3:=Tryz.sizeOf3
 v3:=Tryz.zeroValue3
 t9:=Tryz.underlying9
 a9:=Tryz.isAgg9
 z9:=Tryz.sizeOf9
 v9:=Tryz.zeroValue9
 t37:=Tryz.underlying165
 a37:=Tryz.isAgg165
 z37:=Tryz.sizeOf165
 v37:=Tryz.zeroValue165
 t70:=Tryz.underlying164
 a70:=Tryz.isAgg164
 z70:=Tryz.sizeOf164
 v70:=Tryz.zeroValue164
 t72:=Tryz.underlying167
 a72:=Tryz.isAgg167
 z72:=Tryz.sizeOf167
 v72:=Tryz.zeroValue167
 t127:=Tryz.underlying181
 a127:=Tryz.isAgg181
 z127:=Tryz.sizeOf181
 v127:=Tryz.zeroValue181 }
theorem Tryz.P5N:Go.Proofs.Lays.n171 Tryz.prog Tryz.P4g:={
 mixed:=by kernel_rfl
 f129:=Tryz.func130.trans (congrArg some (by kernel_rfl))
 f171:=Tryz.func134.trans (congrArg some (by kernel_rfl))
 f243:=Tryz.func145.trans (congrArg some (by kernel_rfl))
 f246:=Tryz.func148.trans (congrArg some (by kernel_rfl))
 f283:=Tryz.func149.trans (congrArg some (by kernel_rfl))
 f284:=Tryz.func150.trans (congrArg some (by kernel_rfl))
 f285:=Tryz.func151.trans (congrArg some (by kernel_rfl))
 f286:=Tryz.func152.trans (congrArg some (by kernel_rfl))
 f317:=Tryz.func153.trans (congrArg some (by kernel_rfl))
 f318:=Tryz.func154.trans (congrArg some (by kernel_rfl))
 f319:=Tryz.func155.trans (congrArg some (by kernel_rfl))
 f320:=Tryz.func156.trans (congrArg some (by kernel_rfl))
 f337:=Tryz.func157.trans (congrArg some (by kernel_rfl))
 f338:=Tryz.func158.trans (congrArg some (by kernel_rfl))
 t0:=Tryz.underlying0
 a0:=Tryz.isAgg0
 z0:=Tryz.sizeOf0
 v0:=Tryz.zeroValue0
 t2:=Tryz.underlying2
 a2:=Tryz.isAgg2
 z2:=Tryz.sizeOf2
 v2:=Tryz.zeroValue2
 t3:=Tryz.underlying3
 a3:=Tryz.isAgg3
 z3:=Tryz.sizeOf3
 v3:=Tryz.zeroValue3
 t4:=Tryz.underlying4
 a4:=Tryz.isAgg4
 z4:=Tryz.sizeOf4
 v4:=Tryz.zeroValue4
 t5:=Tryz.underlying5
 a5:=Tryz.isAgg5
 z5:=Tryz.sizeOf5
 v5:=Tryz.zeroValue5
 t9:=Tryz.underlying9
 a9:=Tryz.isAgg9
 z9:=Tryz.sizeOf9
 v9:=Tryz.zeroValue9
 t20:=Tryz.underlying20
 a20:=Tryz.isAgg20
 z20:=Tryz.sizeOf20
 v20:=Tryz.zeroValue20
 t37:=Tryz.underlying165
 a37:=Tryz.isAgg165
 z37:=Tryz.sizeOf165
 v37:=Tryz.zeroValue165
 t46:=Tryz.underlying140
 a46:=Tryz.isAgg140
 z46:=Tryz.sizeOf140
 v46:=Tryz.zeroValue140
 t51:=Tryz.underlying160
 a51:=Tryz.isAgg160
 z51:=Tryz.sizeOf160
 v51:=Tryz.zeroValue160
 t53:=Tryz.underlying162
 a53:=Tryz.isAgg162
 z53:=Tryz.sizeOf162
 v53:=Tryz.zeroValue162
 t171:=Tryz.underlying188
 a171:=Tryz.isAgg188
 z171:=Tryz.sizeOf188
 v171:=Tryz.zeroValue188
 t173:=Tryz.underlying190
 a173:=Tryz.isAgg190
 z173:=Tryz.sizeOf190
 v173:=Tryz.zeroValue190
 t212:=Tryz.underlying194
 a212:=Tryz.isAgg194
 z212:=Tryz.sizeOf194
 v212:=Tryz.zeroValue194
 t213:=Tryz.underlying195
 a213:=Tryz.isAgg195
 z213:=Tryz.sizeOf195
 t232:=Tryz.underlying196
 a232:=Tryz.isAgg196
 z232:=Tryz.sizeOf196
 v232:=Tryz.zeroValue196
 t233:=Tryz.underlying197
 a233:=Tryz.isAgg197
 z233:=Tryz.sizeOf197
 v233:=Tryz.zeroValue197
 g17:=by kernel_rfl
 g18:=by kernel_rfl
 g19:=by kernel_rfl }
theorem Tryz.P5O:Go.Proofs.Lays.n189 Tryz.prog Tryz.P4g:={
 mixed:=by kernel_rfl
 f125:=Tryz.func101.trans (congrArg some (by kernel_rfl))
 f128:=Tryz.func129.trans (congrArg some (by kernel_rfl))
 f129:=Tryz.func130.trans (congrArg some (by kernel_rfl))
 f189:=Tryz.func66.trans (congrArg some (by kernel_rfl))
 f215:=Tryz.func143.trans (congrArg some (by kernel_rfl))
 f216:=Tryz.func126.trans (congrArg some (by kernel_rfl))
 f257:=Tryz.func100.trans (congrArg some (by kernel_rfl))
 f294:=Tryz.func120.trans (congrArg some (by kernel_rfl))
 f295:=Tryz.func121.trans (congrArg some (by kernel_rfl))
 f296:=Tryz.func122.trans (congrArg some (by kernel_rfl))
 f297:=Tryz.func123.trans (congrArg some (by kernel_rfl))
 f298:=Tryz.func124.trans (congrArg some (by kernel_rfl))
 f299:=Tryz.func125.trans (congrArg some (by kernel_rfl))
 f300:=Tryz.func127.trans (congrArg some (by kernel_rfl))
 f301:=Tryz.func128.trans (congrArg some (by kernel_rfl))
 f328:=Tryz.func138.trans (congrArg some (by kernel_rfl))
 f329:=Tryz.func139.trans (congrArg some (by kernel_rfl))
 f330:=Tryz.func140.trans (congrArg some (by kernel_rfl))
 f331:=Tryz.func141.trans (congrArg some (by kernel_rfl))
 f332:=Tryz.func142.trans (congrArg some (by kernel_rfl))
 f343:=Tryz.func146.trans (congrArg some (by kernel_rfl))
 t0:=Tryz.underlying0
 a0:=Tryz.isAgg0
 z0:=Tryz.sizeOf0
 v0:=Tryz.zeroValue0
 t3:=Tryz.underlying3
 a3:=Tryz.isAgg3
 z3:=Tryz.sizeOf3
 v3:=Tryz.zeroValue3
 t4:=Tryz.underlying4
 a4:=Tryz.isAgg4
 z4:=Tryz.sizeOf4
 v4:=Tryz.zeroValue4
 t5:=Tryz.underlying5
 a5:=Tryz.isAgg5
 z5:=Tryz.sizeOf5
 v5:=Tryz.zeroValue5
 t9:=Tryz.underlying9
 a9:=Tryz.isAgg9
 z9:=Tryz.sizeOf9
 v9:=Tryz.zeroValue9
 t28:=Tryz.underlying23
 a28:=Tryz.isAgg23
 z28:=Tryz.sizeOf23
 v28:=Tryz.zeroValue23
 t46:=Tryz.underlying140
 a46:=Tryz.isAgg140
 z46:=Tryz.sizeOf140
 v46:=Tryz.zeroValue140
 t51:=Tryz.underlying160
 a51:=Tryz.isAgg160
 z51:=Tryz.sizeOf160
 v51:=Tryz.zeroValue160
 t53:=Tryz.underlying162
 a53:=Tryz.isAgg162
 z53:=Tryz.sizeOf162
 v53:=Tryz.zeroValue162
 t131:=Tryz.underlying86
 a131:=Tryz.isAgg86
 z131:=Tryz.sizeOf86
 v131:=Tryz.zeroValue86
 t182:=Tryz.underlying153
 a182:=Tryz.isAgg153
 z182:=Tryz.sizeOf153
 v182:=Tryz.zeroValue153
 t183:=Tryz.underlying154
 a183:=Tryz.isAgg154
 z183:=Tryz.sizeOf154
 v183:=Tryz.zeroValue154
 t218:=Tryz.underlying175
 a218:=Tryz.isAgg175
 z218:=Tryz.sizeOf175
 v218:=Tryz.zeroValue175
 t222:=Tryz.underlying179
 a222:=Tryz.isAgg179
 z222:=Tryz.sizeOf179
 v222:=Tryz.zeroValue179
 t228:=Tryz.underlying182
 a228:=Tryz.isAgg182
 z228:=Tryz.sizeOf182
 v228:=Tryz.zeroValue182
 t229:=Tryz.underlying183
 a229:=Tryz.isAgg183
 z229:=Tryz.sizeOf183
 v229:=Tryz.zeroValue183 }
theorem Tryz.P5r:Go.Proofs.LaysM.n171 Tryz.prog Tryz.P4g:={ Tryz.P5N with
 i0:=by kernel_rfl
 i2:=by kernel_rfl
 i3:=by kernel_rfl
 i4:=by kernel_rfl
 i5:=by kernel_rfl
 i9:=by kernel_rfl
 i20:=by kernel_rfl
 i37:=by kernel_rfl
 i46:=by kernel_rfl
 i51:=by kernel_rfl
 i53:=by kernel_rfl
 i171:=by kernel_rfl
 i173:=by kernel_rfl
 i212:=by kernel_rfl
 i232:=by kernel_rfl
 i233:=by kernel_rfl
 m17:=by kernel_rfl
 m18:=by kernel_rfl
 m19:=by kernel_rfl }
theorem Tryz.P65:Builder.Extra Tryz.prog Tryz.P4g:={
 sizeBuilder:=by kernel_rfl
 liesBuilder:=by kernel_rfl
 t5:=Tryz.underlying5
 a5:=Tryz.isAgg5
 z5:=Tryz.sizeOf5
 v5:=Tryz.zeroValue5
 infoByte:=by kernel_rfl
 cellsByte:=by kernel_rfl
 sizeByte:=by kernel_rfl
 neB5:=of_decide_eq_true (by kernel_rfl) }
def Tryz.P4p:Go.Shelf.Ren:=⟨fun | 20=>67 | n=>n,fun | 22=>23 | 3=>3 | 4=>4 | 0=>0 | n=>n,fun | n=>n⟩
theorem Tryz.P51:Go.Proofs.Lays2.n20 Tryz.prog Tryz.P4p:={
 mixed:=by kernel_rfl
 f20:=Tryz.func67.trans (congrArg some (by kernel_rfl))
 t0:=Tryz.underlying0
 a0:=Tryz.isAgg0
 z0:=Tryz.sizeOf0
 v0:=Tryz.zeroValue0
 t3:=Tryz.underlying3
 a3:=Tryz.isAgg3
 z3:=Tryz.sizeOf3
 v3:=Tryz.zeroValue3
 t4:=Tryz.underlying4
 a4:=Tryz.isAgg4
 z4:=Tryz.sizeOf4
 v4:=Tryz.zeroValue4
 t22:=Tryz.underlying23
 a22:=Tryz.isAgg23
 z22:=Tryz.sizeOf23
 v22:=Tryz.zeroValue23
 i3:=by kernel_rfl }
theorem Zhl:qY Tryz.prog 66:=tJ Tryz.func66 (c:=Tryz.f66.body.getD .skip) (by kernel_rfl) (by kernel_rfl)
theorem Zhm:qY Tryz.prog 67:=tJ Tryz.func67 (c:=Tryz.f67.body.getD .skip) (by kernel_rfl) (by kernel_rfl)
theorem Zff:qY Tryz.prog 133:=tJ Tryz.func133 (c:=Tryz.f133.body.getD .skip) (by kernel_rfl) (by kernel_rfl)
theorem Zfh:qY Tryz.prog 135:=tJ Tryz.func135 (c:=Tryz.f135.body.getD .skip) (by kernel_rfl) (by kernel_rfl)
theorem Zfi:qY Tryz.prog 136:=tJ Tryz.func136 (c:=Tryz.f136.body.getD .skip) (by kernel_rfl) (by kernel_rfl)
theorem Zfg:qY Tryz.prog 134:=tJ Tryz.func134 (c:=Tryz.f134.body.getD .skip) (by kernel_rfl) (by kernel_rfl)
theorem Zrj:Ak Tryz.prog 66:=by
 intro S id off ys l K hg hd hne hl hk;have hlen:(l.mergeSort fun x y=>decide (x≤y)).length=l.length:=List.length_mergeSort _;refine aQ.rewrite Zhl hg hd hne hlen (l.mergeSort fun x y=>decide (x≤y)).length (Nat.le_refl _) (fun _ _ _=>.tuple #[]) (.aL []) (.inl ⟨rfl,fun _ _ _=>rfl⟩) (fun b o cap w hH hb hcap=>?_) ?_
 ·exact Any.slices_Sort_int Tryz.P5O b o cap l w hH hb (by omega)
 ·rw[List.take_length];exact hk
theorem Zrh:Aj Tryz.prog 67:=by
 intro S id off ys l K hg hd hne hl hk;have hle:(Lib.compact l).length≤l.length:=Lib.compact_length_le l
 have hpos:0 < (Lib.compact l).length:=by
  obtain⟨x,hx⟩:=List.exists_mem_of_ne_nil _ hne;exact List.length_pos_of_mem (Zjm.mpr hx)
 refine aQ.rewrite Zhm hg hd hne (l':=Lib.compact l++List.replicate (l.length - (Lib.compact l).length) 0) (by simp;omega) (Lib.compact l).length (by simp) (fun b o cap=>.slice (some ⟨b,o,none⟩) (Lib.compact l).length cap) (.own id off (Lib.compact l).length) (.inr ⟨rfl,hpos,fun _ _ _=>rfl⟩) (fun b o cap w hH hb hcap=>?_) ?_
 ·refine(Any.slices_Compact_int Tryz.P51 b o cap l w hH (by omega) hcap).mono ?_
  rintro e w' ⟨rfl,q,rfl⟩;exact⟨rfl,q,#[],(grow_empty _).symm⟩
 ·have:List.take (Lib.compact l).length (Lib.compact l++List.replicate (l.length - (Lib.compact l).length) 0)=Lib.compact l:=by simp
  rw[this];exact hk
theorem Zs5:zu Tryz.prog 133 135 136 167 5:=
 ⟨Zff,Zfh,Zfi,
  fun B b bs s w h hl hB=>(Any.Builder_WriteString_k Tryz.P5K Tryz.P65 B b bs s w h hl hB).mono fun e w' ⟨h1,h2,h3,_⟩=>⟨h1,.inr h2,h3⟩,
  fun B b bs c w h hl hB=>(Any.Builder_WriteByte_k Tryz.P5L Tryz.P65 B b bs c w h hl hB).mono fun e w' ⟨h1,h2,h3,_⟩=>⟨h1,.inr h2,h3⟩,
  fun B b l w h hB=>(Any.Builder_String_any_k Tryz.P5M Tryz.P65 B b l w h hB).mono fun e w' ⟨h1,_,h3,_⟩=>⟨h1,h3⟩⟩
theorem Zri:Ba Tryz.prog 134 (fun n=>0≤n∧n < 10000):=by
 refine⟨Zfg,fun H n w hG hH hn=>?_⟩;refine(Any.strconv_Itoa Tryz.P5r n (by omega) (by omega) w (ZnJ hG hH (g:=0) (by kernel_rfl))).mono ?_;rintro e w' ⟨h,k,os,rfl⟩;exact⟨h,Lib.below_grow _ w (Nat.le_refl _) k os⟩
end Go.Proofs
namespace Go.Rf
open Go.RowKit
def Gb(P:Program)(b:Nat)(x y:AC)(Q:Exit→AF→St→Prop)(a:AF)(S:St)(c:AV):Prop:=
 match c with
 | .v (.bool t)=>if t=true then bG P b x Q a S else bG P b y Q a S
 | _=>False
section
variable{P:Program}{b:Nat}{Q:Exit→AF→St→Prop}{a:AF}{S:St}{os:List aT}
theorem mR:bG P b .skip Q a S=Q .normal a S:=by simp only[bG]
theorem nH(x y:AC):bG P b (.seq x y) Q a S=bG P b x (iW (bG P b y Q) Q) a S:=by simp only[bG]
theorem nD:bG P b (.reg none os) Q a S=RG P S.n os 0 (nK Q) a ⟨S.n+os.length,S.g⟩:=by simp only[bG];rw[jk]
theorem mP(fr:List (List Bool)):bG P b (.reg (some fr) os) Q a S=RD P S.n os fr 0 [] (nK Q) a ⟨S.n+os.length,S.g⟩:=by simp only[bG];rw[jX]
private theorem ZhW (c:aJ) (x y:AC):bG P b (.cond c x y) Q a S=Gb P b x y Q a S (c.ev a):=rfl
theorem mM(c:aJ)(x y:AC):bG P b (.cond c x y) Q a S=Gb P b x y Q a S (c.ev a):=by rw[ZhW]
theorem mq(x y:AC):Gb P b x y Q a S (.v (.bool true))=bG P b x Q a S:=by simp[Gb]
theorem lX(x y:AC):Gb P b x y Q a S (.v (.bool false))=bG P b y Q a S:=by simp[Gb]
theorem lY(id:Nat)(x:AC):bG P b (.block id x) Q a S=bG P b x (kE id Q) a S:=by simp only[bG]
theorem mO(id:Nat):bG P b (.exit id) Q a S=Q (.exit id) a S:=by simp only[bG]
theorem nE:bG P b .ret Q a S=Q .ret a S:=by simp only[bG]
theorem nG(x:AC):bG P b (.scp x) Q a S=bG P b x (vg Q) a S:=by simp only[bG]
theorem mQ(p:Option aJ):bG P b (.kL os p) Q a S=je P S.n p os 0 Q a ⟨S.n+os.length,S.g⟩:=by simp only[bG];rw[za]
theorem mW(ts:List Nat)(R:AV→St→Prop):JR b ts R .ret a S=∃a' S',iU b a S a' S'∧R (sG ts a') S':=by simp only[JR,bR]
theorem mo(ts:List Nat)(R:AV→St→Prop):JR b ts R .normal a S=∃a' S',iU b a S a' S'∧R (sG ts a') S':=by simp only[JR,bR]
end
def ZoY{σ:Type}(b n:Nat)(I:Nat→σ→Prop)(A:Nat→σ→List (Nat×AV))(N:Nat)(G:Nat→σ→List (Nat×Option aF))(k:Nat):AF→St→Prop:=
 fun f S=>k < n∧∃s,I (k+1) s∧iU b f S (oC (A (k+1) s)) ⟨N,jy (G (k+1) s)⟩
theorem Bu{P:Program}{b:Nat}{x:AC}{Q:Exit→AF→St→Prop}{f:AF}{S:St}{σ:Type}(n:Nat)(I:Nat→σ→Prop)(A:Nat→σ→List (Nat×AV))(N:Nat)(G:Nat→σ→List (Nat×Option aF))(s0:σ)(hI:I 0 s0)
  (h0:iU b f S (oC (A 0 s0)) ⟨N,jy (G 0 s0)⟩) (h:∀k s,k≤n→I k s→bG P b x (iW (ZoY b n I A N G k) Q) (oC (A k s)) ⟨N,jy (G k s)⟩):bG P b (.loop x) Q f S:=by
 refine⟨fun m f S=>∃k s,k≤n∧m=n - k∧I k s∧f=oC (A k s)∧S=⟨N,jy (G k s)⟩,⟨n,_,_,h0,0,s0,by omega,by omega,hI,rfl,rfl⟩,?_⟩;rintro m f S ⟨k,s,hk,rfl,hi,rfl,rfl⟩;refine FJ _ (fun e a S' hq=>?_) (h k s hk hi);cases e<;>simp only[iW] at hq ⊢<;>first | exact hq | skip
 obtain⟨h1,s',h2,h3⟩:=hq;exact⟨n - (k+1),_,_,by omega,h3,k+1,s',by omega,rfl,h2,rfl,rfl⟩
def Zp8{σ:Type}(b:Nat)(I:Nat→σ→Prop)(A:σ→List (Nat×AV))(N:Nat)(G:σ→List (Nat×Option aF))(m:Nat):AF→St→Prop:=
 fun f S=>∃m' s,m' < m∧I m' s∧iU b f S (oC (A s)) ⟨N,jy (G s)⟩
theorem ZhX{P:Program}{b:Nat}{x:AC}{Q:Exit→AF→St→Prop}{f:AF}{S:St}{σ:Type}(I:Nat→σ→Prop)(A:σ→List (Nat×AV))(N:Nat)(G:σ→List (Nat×Option aF))(m:Nat)(s0:σ)(hI:I m s0)
  (h0:iU b f S (oC (A s0)) ⟨N,jy (G s0)⟩) (h:∀m s,I m s→bG P b x (iW (Zp8 b I A N G m) Q) (oC (A s)) ⟨N,jy (G s)⟩):bG P b (.loop x) Q f S:=by
 refine⟨fun m f S=>∃s,I m s∧f=oC (A s)∧S=⟨N,jy (G s)⟩,⟨m,_,_,h0,s0,hI,rfl,rfl⟩,?_⟩;rintro m f S ⟨s,hi,rfl,rfl⟩;refine FJ _ (fun e a S' hq=>?_) (h m s hi);cases e<;>simp only[iW] at hq ⊢<;>first | exact hq | skip
 obtain⟨m',s',h1,h2,h3⟩:=hq;exact⟨m',_,_,h1,h3,s',h2,rfl,rfl⟩
def Cls(xs:List AV):Prop:=∀x∈xs,aV x
def rW(es:Nat)(xs:List AV):Prop:=∀z∈xs,z.cells.length=es
def uQ(xs:List AV):Prop:=∀z∈xs,z.cells=[z]
theorem rC:Cls []↔True:=by simp[Cls]
theorem qZ(x:AV)(xs:List AV):Cls (x::xs)↔aV x∧Cls xs:=by simp[Cls]
theorem qX(xs ys:List AV):Cls (xs++ys)↔Cls xs∧Cls ys:=⟨fun h=>⟨fun x hx=>h x (by simp[hx]),fun x hx=>h x (by simp[hx])⟩,fun h x hx=>by rcases List.mem_append.mp hx with hx | hx;exact h.1 x hx;exact h.2 x hx⟩
theorem M6{X:Type}{enc:X→AV}(h:∀x,aV (enc x))(l:List X):Cls (l.map enc):=by intro y hy;obtain⟨x,_,rfl⟩:=List.mem_map.mp hy;exact h x
theorem kZ(l:List Int):Cls (l.map ak):=M6 aX l
theorem om(l:List Bool):Cls (l.map aG):=M6 cu l
theorem kX(l:List (List Int)):Cls (l.map au):=M6 bD l
theorem rD(n:Nat)(x:AV):Cls (List.replicate n x)↔n=0∨aV x:=by
 constructor
 ·intro h
  cases n with
  | zero=>exact .inl rfl
  | succ n=>exact .inr (h x (by simp))
 ·rintro(rfl | h) y hy
  ·simp at hy
  ·rw[(List.mem_replicate.mp hy).2];exact h
theorem nL:uQ []↔True:=by simp[uQ]
theorem mU(x:AV)(xs:List AV):uQ (x::xs)↔x.cells=[x]∧uQ xs:=by simp[uQ]
theorem nJ(xs ys:List AV):uQ (xs++ys)↔uQ xs∧uQ ys:=⟨fun h=>⟨fun x hx=>h x (by simp[hx]),fun x hx=>h x (by simp[hx])⟩,fun h x hx=>by rcases List.mem_append.mp hx with hx | hx;exact h.1 x hx;exact h.2 x hx⟩
theorem T9{X:Type}{enc:X→AV}(h:∀x,(enc x).cells=[enc x])(l:List X):uQ (l.map enc):=by intro y hy;obtain⟨x,_,rfl⟩:=List.mem_map.mp hy;exact h x
theorem nZ(l:List Int):uQ (l.map ak):=T9 (fun _=>rfl) l
theorem nY(l:List Bool):uQ (l.map aG):=T9 (fun _=>rfl) l
theorem nT(l:List (List Int)):uQ (l.map au):=T9 (fun _=>rfl) l
theorem nO(es:Nat):rW es []↔True:=by simp[rW]
theorem mV(es:Nat)(x:AV)(xs:List AV):rW es (x::xs)↔x.cells.length=es∧rW es xs:=by simp[rW]
theorem nM(es:Nat)(xs ys:List AV):rW es (xs++ys)↔rW es xs∧rW es ys:=⟨fun h=>⟨fun x hx=>h x (by simp[hx]),fun x hx=>h x (by simp[hx])⟩,fun h x hx=>by rcases List.mem_append.mp hx with hx | hx;exact h.1 x hx;exact h.2 x hx⟩
theorem M5{es:Nat}{X:Type}{enc:X→AV}(h:∀x,(enc x).cells.length=es)(l:List X):rW es (l.map enc):=by intro y hy;obtain⟨x,_,rfl⟩:=List.mem_map.mp hy;exact h x
theorem oh(l:List Int):rW 1 (l.map ak):=M5 (enc:=ak) (fun _=>rfl) l
theorem og(l:List Bool):rW 1 (l.map aG):=M5 (enc:=aG) (fun _=>rfl) l
theorem nU(l:List (List Int)):rW 1 (l.map au):=M5 (enc:=au) (fun _=>rfl) l
section
variable{gF g:Nat→Option aF}{R:Nat→Nat→Prop}
theorem iX.nil:iX gF R [] []:=⟨rfl,fun i h=>by simp at h⟩
theorem iX.cons{x y:AV}{a b:List AV}(h:bU gF R x y)(k:iX gF R a b):iX gF R (x::a) (y::b):=by
 refine⟨by simp[k.1],fun i h1 h2=>?_⟩;cases i with
 | zero=>exact h
 | succ i=>exact k.2 i (by simpa using h1) (by simpa using h2)
theorem bU.cl{x:AV}(h:aV x):bU gF R x x:=.fz _ _ (.closed _ h)
theorem iX.cl{xs:List AV}(h:Cls xs):iX gF R xs xs:=⟨rfl,fun i h1 _=>.cl (h _ (List.getElem_mem h1))⟩
theorem oI{x y:AV}{a b:List AV}:iX gF R (x::a) (y::b)↔bU gF R x y∧iX gF R a b:=by
 refine⟨fun h=>⟨h.2 0 (by simp) (by simp),by simpa using h.1,fun i h1 h2=>h.2 (i+1) (by simpa using h1) (by simpa using h2)⟩,fun h=>.cons h.1 h.2⟩
theorem oJ:iX gF R [] []↔True:=⟨fun _=>trivial,fun _=>.nil⟩
theorem rJ(x y:Value):bU gF R (.v x) (.v y)↔x=y:=by
 constructor
 ·intro h
  cases h with
  | fz _ _ h=>cases h;rfl
  | wk _ _ _ h=>cases h;rfl
 ·rintro rfl;exact .cl (.v _)
theorem qb(id j o o' l l':Nat):bU gF R (.own id o l) (.own j o' l')↔R j id∧o=o'∧l=l':=by
 constructor
 ·intro h
  cases h with
  | fz _ _ h=>cases h with | closed _ h=>cases h
  | wk _ _ h _=>cases h
  | own _ _ _ _ h=>exact⟨h,rfl,rfl⟩
 ·rintro⟨h,rfl,rfl⟩;exact .own _ _ _ _ h
theorem ru(id j o o' l l':Nat):bU gF R (.ptr id o l) (.ptr j o' l')↔R j id∧o=o'∧l=l':=by
 constructor
 ·intro h
  cases h with
  | fz _ _ h=>cases h with | closed _ h=>cases h
  | wk _ _ h _=>cases h
  | ptr _ _ _ _ h=>exact⟨h,rfl,rfl⟩
 ·rintro⟨h,rfl,rfl⟩;exact .ptr _ _ _ _ h
theorem p8(id j:Nat):bU gF R (.mp id) (.mp j)↔R j id:=by
 constructor
 ·intro h
  cases h with
  | fz _ _ h=>cases h with | closed _ h=>cases h
  | wk _ _ h _=>cases h
  | mp _ _ h=>exact h
 ·intro h;exact .mp _ _ h
theorem oK(cs ds:List AV):bU gF R (.agg cs) (.agg ds)↔iX gF R cs ds:=by
 constructor
 ·intro h
  cases h with
  | fz _ _ h=>exact⟨h.cells.1,fun i h1 h2=>.fz _ _ (h.cells.2.2 i h1 h2)⟩
  | wk _ _ hc h=>exact⟨h.f.len,fun i h1 h2=>.wk _ _ (hc.cells _ (List.getElem_mem _)) (h.cells i h1 h2)⟩
  | agg _ _ hl h=>exact⟨hl,h⟩
 ·intro h;exact .agg _ _ h.1 h.2
theorem qw(k:Option aF):zw gF R k none↔True:=⟨fun _=>trivial,fun _ _ h=>by cases h⟩
theorem kQ(es es':Nat)(xs ys:List AV):zw gF R (some (.arr es xs)) (some (.arr es' ys))↔es=es'∧iX gF R xs ys:=by
 constructor
 ·intro h
  obtain⟨b,h1,h2⟩:=h _ rfl;cases h1;cases h2 with
  | arr _ _ _ h=>exact⟨rfl,h⟩
 ·rintro⟨rfl,h⟩ b hb
  cases hb;exact⟨_,rfl,.arr _ _ _ h⟩
theorem bU.loose{t:Bool}{xs:List AV}(h:∀x∈xs,aV x):bU gF R (.sl t xs) (.sl false xs):=.fz _ _ (.loose t xs (.sl _ _ h))
theorem bU.qI{F:List Nat}{id es len:Nat}{xs:List AV}(hF:id∈F)(hg:g id=some (.arr es xs))(hl:len=xs.length)(hc:Cls xs):bU (only F g) R (.own id 0 len) (.sl false xs):=by
 refine .fz _ _ (.own id 0 len es xs xs (by rw[BJ,if_pos hF];exact hg) (by omega) hl.symm (fun i h1 h2=>?_));simp only[List.drop_zero,hl,List.take_length];exact .closed _ (hc _ (List.getElem_mem _))
end
theorem rO(o:List (Nat×Nat))(b j i:Nat):GJ o b j i↔((j,i)∈o∨(j=i∧i < b)):=Iff.rfl
theorem rz(x:Value):aV (.v x):=.v x
theorem pW(t:Bool):aV (.sl t []):=.sl _ _ (by simp)
theorem qU(l:List Int):aV (.sl false (l.map ak)):=bD l
theorem qQ(l:List (List Int)):aV (.sl false (l.map au)):=jr l
theorem qR(l:List Bool):aV (.sl false (l.map aG)):=kR l
def vV(o:Bool)(id:Nat)(xs:List AV):AV:=if o=true then .own id 0 xs.length else .sl true xs
def vB(o:Bool)(es:Nat)(xs:List AV):Option aF:=if o=true then some (.arr es xs) else none
theorem kU(id:Nat)(xs:List AV):vV true id xs=.own id 0 xs.length:=by simp[vV]
theorem lK(id:Nat)(xs:List AV):vV false id xs=.sl true xs:=by simp[vV]
theorem iZ(es:Nat)(xs:List AV):vB true es xs=some (.arr es xs):=by simp[vB]
theorem oF(es:Nat)(xs:List AV):vB false es xs=none:=by simp[vB]
theorem ZkG{S:St}{id es aC len aA:Nat}{xs:List AV}{x:AV}(hg:S.g id=some (.arr es xs))(hl:xs.length=len)(hx:x.cells.length=es)(hok:eY aC len 1) :
  (jC es aC (.own id 0 len) (.sl true [x])).run S aA=some (.own aA 0 (len+1),(S.set id none).set aA (some (.arr es (xs++[x])))):=by
 simp[jC,Eff.run,AV.jA,kK,hx,hok,St.dV,St.iG,hg,hl]
theorem Zi9{S:St}{es aC aA:Nat}{xs:List AV}{x:AV}(hes:rW es xs)(hx:x.cells.length=es)(hok:eY aC xs.length 1) :
  (jC es aC (.sl true xs) (.sl true [x])).run S aA=some (.own aA 0 (xs.length+1),S.set aA (some (.arr es (xs++[x])))):=by
 simp only[jC,Eff.run,AV.jA,kK,List.mapM_nil,Option.pure_def,List.mem_singleton,forall_eq,hx,if_true,Option.bind_some,List.length_cons,List.length_nil,Nat.zero_add];rw[if_pos ⟨hes,hok⟩];simp[St.dV,St.iG]
theorem oD{S:St}{o:Bool}{id es aC aA:Nat}{xs:List AV}{x:AV}(hg:S.g id=vB o es xs)(hes:rW es xs)(hx:x.cells.length=es)(hok:eY aC xs.length 1) :
  (jC es aC (vV o id xs) (.sl true [x])).run S aA=some (.own aA 0 (xs.length+1),(S.set id none).set aA (some (.arr es (xs++[x])))):=by
 cases o with
 | true=>rw[kU];rw[iZ] at hg;exact ZkG hg rfl hx hok
 | false=>
  rw[lK,Zi9 hes hx hok];rw[oF] at hg
  have:S.set id none=S:=by
   cases S with
   | mk n g=>
    simp only[St.set,St.mk.injEq,true_and];funext j;simp only[bq];split
    ·rename_i h;subst h;exact hg.symm
    ·rfl
  rw[this]
theorem mZ(t:Bool)(xs:List AV):dA (.sl t xs)=some (.v (.int .i64 xs.length)):=by simp only[dA]
theorem l7(id off len:Nat):dA (.own id off len)=some (.v (.int .i64 len)):=by simp only[dA]
theorem l6(es:Nat)(t:Bool)(xs:List AV)(k:IntKind)(n:Int):dP es (.sl t xs) (.v (.int k n))=.val ((xs[n.toNat]?).bind fun y=>if 0≤n∧y.cells.length=es then some (.bF y 0) else none):=by simp only[dP]
theorem mE(es id off len:Nat)(k:IntKind)(n:Int):dP es (.own id off len) (.v (.int k n))=.rd id fun
  | .arr es' xs=>if es'=es∧0≤n∧n < len∧off+len≤xs.length then some (.ptr id (off+n.toNat) 0) else none
  | _=>none:=by simp only[dP];rfl
theorem mD(k:Option Nat)(x:AV)(c:Nat):bM k (.bF x c)=.val (aY k x c):=by simp only[bM]
theorem mF(k:Option Nat)(id ix c:Nat):bM k (.ptr id ix c)=.rd id fun | .arr _ xs=>(xs[ix]?).bind fun x=>aY k x c | _=>none:=by simp only[bM];rfl
theorem ni(o:Bool)(id:Nat)(xs:List AV):dA (vV o id xs)=some (.v (.int .i64 xs.length)):=by cases o<;>simp[vV,dA]
def vP(o:Bool)(id i:Nat)(xs:List AV):AV:=if o=true then .ptr id i 0 else .bF (xs[i]?.getD .junk) 0
theorem oG{S:St}{o:Bool}{id es aA:Nat}{xs:List AV}{k:IntKind}{n:Int}(hg:S.g id=vB o es xs)(hn:0≤n)(hlt:n < xs.length)(hes:rW es xs) :
  (dP es (vV o id xs) (.v (.int k n))).run S aA=some (vP o id n.toNat xs,S):=by
 have hl:n.toNat < xs.length:=by omega
 have hx:xs[n.toNat]? = some xs[n.toNat]:=List.getElem?_eq_getElem hl;cases o with
 | true=>rw[iZ] at hg;simp[vV,vP,dP,hg,hn,hlt]
 | false=>simp[vV,vP,dP,hx,hn,hes _ (List.getElem_mem hl)]
theorem oz{S:St}{o:Bool}{id i aA:Nat}{xs:List AV}(hg:S.g id=vB o 1 xs)(hx:i < xs.length)(hc:uQ xs):(bM none (vP o id i xs)).run S aA=some (xs[i]?.getD .junk,S):=by
 have hx':xs[i]? = some xs[i]:=List.getElem?_eq_getElem hx;have hc':=hc _ (List.getElem_mem hx);cases o with
 | true=>rw[iZ] at hg;simp[vP,bM,hg,hx',aY,hc']
 | false=>simp[vP,bM,aY,hc',hx']
def vF(o:Bool)(l:List Nat):List Nat:=if o=true then l else []
theorem nW(o:Bool)(l:List Nat)(j:Nat):j∈vF o l↔o=true∧j∈l:=by cases o<;>simp[vF]
theorem ow{S:St}{o:Bool}{id es aA:Nat}{xs:List AV}{k:IntKind}{n:Int}(hg:S.g id=vB o es xs)(hn:0≤n)(hlt:n < xs.length)(hes:rW es xs) :
  (dP es (vV o id xs) (.v (.int k n))).runT S aA=some (vP o id n.toNat xs,S,vF o [id],[]):=by
 have hl:n.toNat < xs.length:=by omega
 have hx:xs[n.toNat]? = some xs[n.toNat]:=List.getElem?_eq_getElem hl;cases o with
 | true=>rw[iZ] at hg;simp[vV,vP,dP,hg,hn,hlt,dF,vF]
 | false=>simp[vV,vP,dP,hx,hn,hes _ (List.getElem_mem hl),dh,vF]
theorem nX{S:St}{o:Bool}{id i aA:Nat}{xs:List AV}(hg:S.g id=vB o 1 xs)(hx:i < xs.length)(hc:uQ xs):(bM none (vP o id i xs)).runT S aA=some (xs[i]?.getD .junk,S,vF o [id],[]):=by
 have hx':xs[i]? = some xs[i]:=List.getElem?_eq_getElem hx;have hc':=hc _ (List.getElem_mem hx);cases o with
 | true=>rw[iZ] at hg;simp[vP,bM,hg,hx',aY,hc',dF,vF]
 | false=>simp[vP,bM,aY,hc',hx',dh,vF]
theorem ou{S:St}{o:Bool}{id es aC aA:Nat}{xs:List AV}{x:AV}(hg:S.g id=vB o es xs)(hes:rW es xs)(hx:x.cells.length=es)(hok:eY aC xs.length 1) :
  (jC es aC (vV o id xs) (.sl true [x])).runT S aA=some (.own aA 0 (xs.length+1),(S.set id none).set aA (some (.arr es (xs++[x]))),vF o [id],vF o [id]++[aA]):=by
 cases o with
 | true=>
  rw[iZ] at hg;simp[vV,jC,Eff.runT,AV.jA,kK,hx,hok,St.dV,St.iG,hg,vF]
 | false=>
  rw[oF] at hg
  have:S.set id none=S:=by
   cases S with
   | mk n g=>
    simp only[St.set,St.mk.injEq,true_and];funext j;simp only[bq];split
    ·rename_i h;subst h;exact hg.symm
    ·rfl
  rw[this,lK];simp only[jC,Eff.runT,AV.jA,kK,List.mapM_nil,Option.pure_def,List.mem_singleton,forall_eq,hx,if_true,Option.bind_some,List.length_cons,List.length_nil,Nat.zero_add];rw[if_pos ⟨hes,hok⟩];simp[St.dV,St.iG,vF]
section
variable{gF g:Nat→Option aF}{R:Nat→Nat→Prop}
theorem pQ{o:Bool}{id j:Nat}{xs:List AV}(h:R j id)(hc:Cls xs):bU gF R (vV o id xs) (vV o j xs):=by
 cases o with
 | true=>rw[kU,kU];exact .own _ _ _ _ h
 | false=>rw[lK,lK];exact .cl (.sl _ _ hc)
theorem pO{o:Bool}{es:Nat}{xs:List AV}(hc:Cls xs):zw gF R (vB o es xs) (vB o es xs):=by
 cases o with
 | true=>rw[iZ,kQ];exact⟨rfl,.cl hc⟩
 | false=>rw[oF,qw];trivial
theorem rE{F:List Nat}{id len:Nat}{xs:List AV}(hF:id∈F)(hg:g id=some (.arr 1 xs))(hl:len=xs.length)(hc:Cls xs):bU (only F g) R (.own id 0 len) (.sl false xs):=.qI hF hg hl hc
theorem qd{F:List Nat}{o:Bool}{id:Nat}{xs:List AV}(hF:id∈F)(hg:g id=vB o 1 xs)(hc:Cls xs):bU (only F g) R (vV o id xs) (.sl false xs):=by
 cases o with
 | true=>rw[kU];rw[iZ] at hg;exact .qI hF hg rfl hc
 | false=>rw[lK];exact .loose hc
theorem rH{F:List Nat}{o:Bool}{id:Nat}{l:List Int}(hF:id∈F)(hg:g id=vB o 1 (l.map ak)):bU (only F g) R (vV o id (l.map ak)) (au l):=qd hF hg (kZ l)
theorem rG{F:List Nat}{o:Bool}{id:Nat}{l:List Bool}(hF:id∈F)(hg:g id=vB o 1 (l.map aG)):bU (only F g) R (vV o id (l.map aG)) (bA l):=qd hF hg (om l)
theorem rA{F:List Nat}{id len:Nat}{l:List Int}(hF:id∈F)(hg:g id=some (.arr 1 (l.map ak)))(hl:len=l.length):bU (only F g) R (.own id 0 len) (au l):=.qI hF hg (by simpa using hl) (kZ l)
theorem zq{o:Bool}{id:Nat}{xs:List AV}(hg:g id=vB o 1 xs)(hc:Cls xs):Fz g (vV o id xs) (.sl false xs):=by
 cases o with
 | true=>
  rw[kU];rw[iZ] at hg;refine .own id 0 xs.length 1 xs xs hg (by omega) rfl (fun i h1 h2=>?_);simp only[List.drop_zero,List.take_length];exact .closed _ (hc _ (List.getElem_mem _))
 | false=>rw[lK];exact .loose true xs (.sl _ _ hc)
theorem qV{a b:List AV}{x y:AV}:iX gF R (a++[x]) (b++[y])↔iX gF R a b∧bU gF R x y:=by
 constructor
 ·intro h
  have hl:b.length=a.length:=by have:=h.1;simpa using this
  refine⟨⟨hl,fun i h1 h2=>?_⟩,?_⟩
  ·have:=h.2 i (by simp;omega) (by simp;omega)
   rwa[List.getElem_append_left h1,List.getElem_append_left h2] at this
  ·have:=h.2 a.length (by simp) (by simp[hl])
   rw[List.getElem_append_right (Nat.le_refl _),List.getElem_append_right (by omega)] at this;simpa[hl] using this
 ·rintro⟨h1,h2⟩
  refine⟨by simp[h1.1],fun i k1 k2=>?_⟩;have hl:=h1.1;by_cases hi:i < a.length
  ·rw[List.getElem_append_left hi,List.getElem_append_left (by omega)]
   exact h1.2 i hi (by omega)
  ·have:i=a.length:=by simp at k1;omega
   subst this;rw[List.getElem_append_right (Nat.le_refl _),List.getElem_append_right (by omega)];simpa[hl] using h2
end
theorem lQ(l:List Int):(au l).cells=[au l]:=rfl
theorem lZ(l:List (List Int)):(aN l).cells=[aN l]:=rfl
theorem mX(l:List Bool):(bA l).cells=[bA l]:=rfl
theorem mY(o:Bool)(id:Nat)(xs:List AV):(vV o id xs).cells=[vV o id xs]:=by cases o<;>simp[vV,AV.cells]
theorem nS(x:Value):(AV.v x).solid=true:=by simp only[AV.solid]
theorem nA(t:Bool)(xs:List AV):(AV.sl t xs).solid=true:=by simp only[AV.solid]
theorem mJ(a b c:Nat):(AV.own a b c).solid=true:=by simp only[AV.solid]
theorem mK(a b c:Nat):(AV.ptr a b c).solid=true:=by simp only[AV.solid]
theorem mH(x:AV)(c:Nat):(AV.bF x c).solid=true:=by simp only[AV.solid]
theorem mh(xs:List AV):(AV.agg xs).solid=true:=by simp only[AV.solid]
theorem mI(f:FuncId)(a b:List AV):(AV.aO f a b).solid=true:=by simp only[AV.solid]
theorem ny(i:Nat):(AV.mp i).solid=true:=by simp only[AV.solid]
theorem lS(l:List Int):(au l).solid=true:=rfl
theorem l9(l:List (List Int)):(aN l).solid=true:=rfl
theorem nu(l:List Bool):(bA l).solid=true:=rfl
theorem nC(o:Bool)(id:Nat)(xs:List AV):(vV o id xs).solid=true:=by cases o<;>simp[vV,AV.solid]
theorem oZ(n:Net):(iV n).solid=true:=rfl
theorem oU(n:Net):(iV n).cells=[.v (.int .i64 n.signs),aN n.aC,aN n.follow,au n.last]:=rfl
theorem pz(n:Net):AV.agg [.v (.int .i64 n.signs),aN n.aC,aN n.follow,au n.last]=iV n:=rfl
theorem oW(d:aB):(aH d).solid=true:=rfl
theorem oQ(d:aB):(aH d).cells=[.v (.int .i64 d.signs),aN d.next,bA d.fin]:=rfl
theorem pq(d:aB):AV.agg [.v (.int .i64 d.signs),aN d.next,bA d.fin]=aH d:=rfl
theorem o8(l:List Int):dA (au l)=some (.v (.int .i64 l.length)):=by simp[au,dA]
theorem oV(l:List (List Int)):dA (aN l)=some (.v (.int .i64 l.length)):=by simp[aN,dA]
theorem o7(l:List Bool):dA (bA l)=some (.v (.int .i64 l.length)):=by simp[bA,dA]
theorem pK{S:St}{aA:Nat}{l:List Int}{k:IntKind}{n:Int}(hn:0≤n)(hlt:n < l.length):(dP 1 (au l) (.v (.int k n))).run S aA=some (.bF (ak (l.getD n.toNat 0)) 0,S):=by
 have hl:n.toNat < l.length:=by omega
 simp[au,dP,hn,List.getElem?_eq_getElem hl,List.getD_eq_getElem?_getD,AV.cells,ak]
theorem pG{S:St}{aA:Nat}{l:List (List Int)}{k:IntKind}{n:Int}(hn:0≤n)(hlt:n < l.length):(dP 1 (aN l) (.v (.int k n))).run S aA=some (.bF (au (l.getD n.toNat [])) 0,S):=by
 have hl:n.toNat < l.length:=by omega
 simp[aN,dP,hn,List.getElem?_eq_getElem hl,List.getD_eq_getElem?_getD,AV.cells,au]
theorem pJ{S:St}{aA:Nat}{l:List Bool}{k:IntKind}{n:Int}(hn:0≤n)(hlt:n < l.length):(dP 1 (bA l) (.v (.int k n))).run S aA=some (.bF (aG (l.getD n.toNat false)) 0,S):=by
 have hl:n.toNat < l.length:=by omega
 simp[bA,dP,hn,List.getElem?_eq_getElem hl,List.getD_eq_getElem?_getD,AV.cells,aG]
theorem pF{S:St}{aA:Nat}{l:List Int}{k:IntKind}{n:Int}(hn:0≤n)(hlt:n < l.length):(dP 1 (au l) (.v (.int k n))).runT S aA=some (.bF (ak (l.getD n.toNat 0)) 0,S,[],[]):=by
 have hl:n.toNat < l.length:=by omega
 simp[au,dP,hn,List.getElem?_eq_getElem hl,List.getD_eq_getElem?_getD,AV.cells,ak,dh]
theorem o9{S:St}{aA:Nat}{l:List (List Int)}{k:IntKind}{n:Int}(hn:0≤n)(hlt:n < l.length):(dP 1 (aN l) (.v (.int k n))).runT S aA=some (.bF (au (l.getD n.toNat [])) 0,S,[],[]):=by
 have hl:n.toNat < l.length:=by omega
 simp[aN,dP,hn,List.getElem?_eq_getElem hl,List.getD_eq_getElem?_getD,AV.cells,au,dh]
theorem pE{S:St}{aA:Nat}{l:List Bool}{k:IntKind}{n:Int}(hn:0≤n)(hlt:n < l.length):(dP 1 (bA l) (.v (.int k n))).runT S aA=some (.bF (aG (l.getD n.toNat false)) 0,S,[],[]):=by
 have hl:n.toNat < l.length:=by omega
 simp[bA,dP,hn,List.getElem?_eq_getElem hl,List.getD_eq_getElem?_getD,AV.cells,aG,dh]
def bP(p:Int×Int):AV:=.agg [.v (.int .i64 p.1),.v (.int .i64 p.2)]
theorem M0(p:Int×Int):(bP p).solid=true:=rfl
theorem wN(p:Int×Int):(bP p).cells=[.v (.int .i64 p.1),.v (.int .i64 p.2)]:=rfl
theorem wP(p:Int×Int):aV (bP p):=.agg _ (aR (.v _) (aR (.v _) bB))
theorem Ng(l:List (Int×Int)):rW 2 (l.map bP):=M5 (enc:=bP) (fun _=>rfl) l
theorem zf(l:List (Int×Int)):Cls (l.map bP):=M6 wP l
def vQ(o:Bool)(id i c:Nat)(xs:List AV):AV:=if o=true then .ptr id i c else .bF (xs[i]?.getD .junk) c
theorem Ov{o:Bool}{id i:Nat}{xs:List AV}{k:IntKind}{n:Int}(h0:0≤n)(h1:n < 2):fF 2 1 (vP o id i xs) (.v (.int k n))=some (vQ o id i n.toNat xs):=by
 cases o<;>simp[fF,vP,vQ,h0,h1]
section
variable{S:St}{o:Bool}{id i aA:Nat}{l:List (Int×Int)}
theorem P7(hg:S.g id=vB o 2 (l.map bP))(hx:i < l.length):(bM none (vQ o id i 0 (l.map bP))).run S aA=some (.v (.int .i64 l[i].1),S):=by
 cases o with
 | true=>rw[iZ] at hg;simp[vQ,bM,hg,hx,aY,wN]
 | false=>simp[vQ,bM,aY,hx,wN]
theorem P8(hg:S.g id=vB o 2 (l.map bP))(hx:i < l.length):(bM none (vQ o id i 1 (l.map bP))).run S aA=some (.v (.int .i64 l[i].2),S):=by
 cases o with
 | true=>rw[iZ] at hg;simp[vQ,bM,hg,hx,aY,wN]
 | false=>simp[vQ,bM,aY,hx,wN]
theorem OQ(hg:S.g id=vB o 2 (l.map bP))(hx:i < l.length):(bM (some 2) (vP o id i (l.map bP))).run S aA=some (bP l[i],S):=by
 cases o with
 | true=>rw[iZ] at hg;simp[vP,bM,hg,hx,aY,bP,AV.cells]
 | false=>simp[vP,bM,aY,hx,bP,AV.cells]
theorem OT(hg:S.g id=vB o 2 (l.map bP))(hx:i < l.length):(bM none (vQ o id i 0 (l.map bP))).runT S aA=some (.v (.int .i64 l[i].1),S,vF o [id],[]):=by
 cases o with
 | true=>rw[iZ] at hg;simp[vQ,bM,hg,hx,aY,wN,dF,vF]
 | false=>simp[vQ,bM,aY,hx,wN,dh,vF]
theorem OU(hg:S.g id=vB o 2 (l.map bP))(hx:i < l.length):(bM none (vQ o id i 1 (l.map bP))).runT S aA=some (.v (.int .i64 l[i].2),S,vF o [id],[]):=by
 cases o with
 | true=>rw[iZ] at hg;simp[vQ,bM,hg,hx,aY,wN,dF,vF]
 | false=>simp[vQ,bM,aY,hx,wN,dh,vF]
theorem Ow(hg:S.g id=vB o 2 (l.map bP))(hx:i < l.length):(bM (some 2) (vP o id i (l.map bP))).runT S aA=some (bP l[i],S,vF o [id],[]):=by
 cases o with
 | true=>rw[iZ] at hg;simp[vP,bM,hg,hx,aY,bP,AV.cells,dF,vF]
 | false=>simp[vP,bM,aY,hx,bP,AV.cells,dh,vF]
end
theorem JN(p q:Int×Int):dY true [0,1] (bP p) (bP q)=some (.v (.bool (decide (p≠q)))):=by
 obtain⟨a,b⟩:=p;obtain⟨c,d⟩:=q;by_cases h1:a=c
 ·subst h1
  by_cases h2:b=d
  ·subst h2;simp[dY,bP,bW]
  ·simp[dY,bP,bW,h2]
 ·simp[dY,bP,bW,h1]
theorem Nv(p:Int×Int)(x y:Int):dY true [0,1] (bP p) (.agg [.v (.int .i64 x),.v (.int .i64 y)])=some (.v (.bool (decide (p≠(x,y))))):=JN p (x,y)
def D7(l:List UInt8):Nat:=l.foldl (fun a b=>10*a+(b.toNat - 48)) 0
theorem Zma(l:List UInt8)(b:UInt8):D7 (l++[b])=10*D7 l+(b.toNat - 48):=by simp[D7]
theorem Fw{d:Nat}(h:d < 10):(UInt8.ofNat (48+d)).toNat=48+d:=by
 rw[UInt8.toNat_ofNat'];omega
theorem Fa(n:Nat):D7 (Lib.decDigits n)=n∧∀b∈Lib.decDigits n,b≠32:=by
 induction n using Nat.strongRecOn with
 | _ n ih=>
  rw[Lib.decDigits];split
  ·rename_i h
   refine⟨?_,?_⟩
   ·have:=Fw h
    simp only[D7,List.foldl_cons,List.foldl_nil];omega
   ·intro b hb e
    simp only[List.mem_cons,List.not_mem_nil,or_false] at hb;have:=Fw h;rw[←hb,e] at this;have h32:(32:UInt8).toNat=32:=rfl;omega
  ·rename_i h
   obtain⟨h1,h2⟩:=ih (n / 10) (by omega);have hd:n % 10 < 10:=Nat.mod_lt _ (by omega);refine⟨?_,?_⟩
   ·rw[Zma,h1,Fw hd];omega
   ·intro b hb e
    rcases List.mem_append.mp hb with hb | hb
    ·exact h2 b hb e
    ·simp only[List.mem_cons,List.not_mem_nil,or_false] at hb
     have:=Fw hd;rw[←hb,e] at this;have h32:(32:UInt8).toNat=32:=rfl;omega
theorem UK{b:UInt8}:∀{xs ys us vs:List UInt8},(∀x∈xs,x≠b)→(∀y∈ys,y≠b)→xs++b::us=ys++b::vs→xs=ys∧us=vs
 | [],[],us,vs,_,_,h=>by simp at h;exact⟨rfl,h⟩
 | [],y::ys,us,vs,_,hy,h=>by simp at h;exact(hy y (by simp) h.1.symm).elim
 | x::xs,[],us,vs,hx,_,h=>by simp at h;exact(hx x (by simp) h.1).elim
 | x::xs,y::ys,us,vs,hx,hy,h=>by
  simp only[List.cons_append,List.cons.injEq] at h;obtain⟨h1,h2⟩:=UK (fun z hz=>hx z (by simp[hz])) (fun z hz=>hy z (by simp[hz])) h.2;exact⟨by rw[h.1,h1],h2⟩
def sN(l:List Int):Prop:=∀n∈l,0≤n
theorem Jq{n:Int}(h:0≤n):Lib.itoa n=Lib.decDigits n.toNat:=by unfold Lib.itoa;rw[if_neg (by omega)]
theorem Jb(n:Int)(l:List Int):ji (n::l)=Lib.itoa n++32::ji l:=by simp[ji]
theorem ZB:∀{l m:List Int},sN l→sN m→ji l=ji m→l=m
 | [],[],_,_,_=>rfl
 | [],n::m,_,_,h=>by rw[Jb] at h;simp[ji] at h
 | n::l,[],_,_,h=>by rw[Jb] at h;simp[ji] at h
 | n::l,k::m,hl,hm,h=>by
  have hn:=hl n (by simp);have hk:=hm k (by simp);rw[Jb,Jb,Jq hn,Jq hk] at h;obtain⟨h1,h2⟩:=UK (Fa _).2 (Fa _).2 h;have:=congrArg D7 h1;rw[(Fa _).1,(Fa _).1] at this;rw[ZB (fun z hz=>hl z (by simp[hz])) (fun z hz=>hm z (by simp[hz])) h2];congr 1;omega
def rR:Nat→List (List Int)→List (AV×AV)
 | _,[]=>[]
 | k,s::ss=>(qh (ji s),ak k)::rR (k+1) ss
theorem Zmg(a b:Array UInt8):((⟨a⟩:ByteArray) == ⟨b⟩)=(a == b):=rfl
theorem Zj7(l m:List Int)(hl:sN l)(hm:sN m):qD (qh (ji l)) (qh (ji m))=decide (l=m):=by
 have:qD (qh (ji l)) (qh (ji m))=((⟨(ji l).toArray⟩:ByteArray) == ⟨(ji m).toArray⟩):=rfl;rw[this,Zmg];by_cases h:l=m
 ·subst h;simp
 ·simp only[h,decide_false,beq_eq_false_iff_ne,ne_eq]
  intro e;refine h (ZB hl hm ?_);simpa using e
theorem ZI{x:List Int}(hx:sN x):∀(ss:List (List Int)) (k:Nat),(∀s∈ss,sN s)→qB (qh (ji x)) (rR k ss)=if x∈ss then some (ak (k+ss.idxOf x:Nat)) else none
 | [],k,h=>by simp[rR,qB]
 | s::ss,k,h=>by
  simp only[rR,qB];rw[Zj7 x s hx (h s (by simp)),ZI hx ss (k+1) (fun z hz=>h z (by simp[hz]))];by_cases hs:x=s
  ·subst hs;simp
  ·have hs':s≠x:=fun e=>hs e.symm
   simp only[hs,decide_false,Bool.false_eq_true,if_false,List.mem_cons,false_or];by_cases hm:x∈ss
   ·rw[if_pos hm,if_pos hm,List.idxOf_cons,show(s == x)=false by simpa using hs',cond_false]
    congr 2;omega
   ·rw[if_neg hm,if_neg hm]
theorem Zh0{x:List Int}(hx:sN x):∀(ss:List (List Int)) (k:Nat),(∀s∈ss,sN s)→x∉ss→lJ (qh (ji x)) (ak (k+ss.length:Nat)) (rR k ss)=rR k (ss++[x])
 | [],k,h,_=>by simp[rR,lJ]
 | s::ss,k,h,hn=>by
  simp only[List.mem_cons,not_or] at hn;simp only[rR,lJ,List.cons_append];rw[Zj7 x s hx (h s (by simp)),if_neg (by simpa using hn.1)];have:=Zh0 hx ss (k+1) (fun z hz=>h z (by simp[hz])) hn.2;rw[←this];congr 3;simp only[List.length_cons];omega
theorem Tg(x:List Int):∀(ss:List (List Int)) (k:Nat),isK .str (qh (ji x))=true∧∀e∈rR k ss,isK .str e.1=true
 | [],k=>⟨rfl,by simp[rR]⟩
 | s::ss,k=>⟨rfl,fun e he=>by
  simp only[rR,List.mem_cons] at he;rcases he with rfl | he
  ·rfl
  ·exact(Tg x ss (k+1)).2 e he⟩
theorem aM.P5P{P:Program}(hm:P.follows .mixedOrders=true){f:FuncId}{fn:Func}{c:Code}{X:AC}{d:Nat}{Y:AC}{t:Nat}{T e:TypeId}(hf:P.funcs[f]? = some fn)(hnm:(fn.name == "runtime.NumGoroutine")=false)(hb:fn.body=some c)
  (hc:comp P fn.ntmps c=some (.seq X (sq [⟨some d,.alloc Gy 2,none,none⟩] Y))) (hT:Di c=some T) (hr:fn.results=([t].map ResultVar.tmp).toArray) {args:List AV} (hn:args.length≤fn.ntmps) {r:Value} (hrs:xX r=true) {A:List (Nat×AV)}
  (h0:bG P 0 X (fun e a S=>e=.normal∧iU 0 a S (oC A) ⟨0,jy []⟩) (bC args) S0)
  (h1:∀E B w w0,BE E B B→jd P E.H→jF E.H w→uw T e B B w0 [] w→jU P E Y (fun ex a w'=>(ex=.ret∨ex=.normal)∧a t=.v r∧Below B w0 w') ((oC A).put (some d) (.ptr 0 0 0)) w):aM P f args (.v r):=by
 refine⟨tJ hf hnm hb,fun H w vals hG hH hv=>?_⟩;obtain⟨c0,c1,rfl,hc0,hc1⟩:=Mf hc;obtain⟨c2,c3,rfl,hc2,hc3⟩:=Mf hc1;have hF:=yZ hv hn;refine calls_of_wp hf hb (wp_seq (wp_mono (Sy (b:=0) (zW hm) Db c0 _ hc0 _ _ _ h0 ⟨sJ,H⟩ w _ hG (Nat.zero_le _) (VJ hH) hF) fun ex oH w1 hp=>?_));obtain⟨a0,S1,Qc,⟨rfl,habs⟩,hS1,GV,Ki⟩:=hp;obtain⟨E1,hS2,hF1,uN⟩:=habs Qc w1 oH _ (Nat.zero_le _) hS1 GV;have ev:=Ki.trans uN;have hE1:yQ E1 w1:=⟨fun b cs e=>hS2.hH b cs e,fun id _=>hS2.fresh id (Nat.zero_le _)⟩;have hρ1:∀id,E1.ρ id=none:=fun id=>hS2.fresh id (Nat.zero_le _)
 have aa5:Below w.heap.size w w1:=⟨ev.os,ev.tape,ev.output,ev.size,fun k hk=>ev.keep k hk (fun id l B hB=>by simp[S0] at hB)⟩
 have hsub:∀b cs,E1.H b=some cs→H b=some cs∨w.heap.size≤b:=by
  intro b cs e;rcases ev.hsub b cs e with h2 | h2 | ⟨iM,l0,k0,h2,_⟩
  ·exact .inl h2
  ·exact .inr h2
  ·simp[S0] at h2
 refine wp_seq (wp_mono (Zj (e:=e) hc2 hF1 hρ1 hE1.hH (T:=T) (fun id ops e=>?_)) fun ex iR w2 hp=>?_)
 ·subst e
  simp only[Di] at hT;split at hT
  ·rename_i o ho
   refine⟨o,ho,?_⟩;split at hT
   ·rename_i t' ht
    cases hT;exact ht
   ·cases hT
  ·cases hT
 obtain⟨rfl,rfl,hE2,hF2,hB⟩:=hp;have hbe:BE ⟨fun i=>if i=0 then some ⟨w1.heap.size,0,2,1⟩ else none,E1.H⟩ w1.heap.size w1.heap.size:=⟨rfl,fun c cs e=>by obtain⟨el,fz,hw⟩:=hE1.hH c cs e;exact(Array.getElem?_eq_some_iff.mp hw).1⟩;refine wp_mono (SK c3 _ hc3 _ _ _ (h1 _ _ _ w1 hbe (hG.sub ev.Ck) hE2.hH hB) _ hE2 hF2) fun ex Eb w3 hp=>?_
 obtain⟨a3,⟨hex,hat,hbel⟩,Cc,V4⟩:=hp;have hres:=I6 (P:=P) hr Eb.tmps w3;have hrep:=FH Cc [t];simp only[sG,hat] at hrep;have hval:=hrep.iQ;have aaI:Below w.heap.size w w3:=aa5.trans ⟨hbel.os,hbel.tape,hbel.output,hbel.size,fun k hk=>hbel.block k (Nat.lt_of_lt_of_le hk aa5.size)⟩
 have fin:bodyPost P fn (fun e w'=>∃v H',e=.returned v∧(∀b cs,H b=some cs→H' b=some cs)∧(∀b cs,H' b=some cs→H b=some cs∨w.heap.size≤b)∧jF H' w'∧aK ⟨sJ,H'⟩ (.v r) v∧Below w.heap.size w w') .ret Eb w3:=
  ⟨Cc.defers,_,hres,_,E1.H,rfl,ev.Ck,hsub,V4.hH,by rw[hval];exact .v _ hrs,aaI⟩
 rcases hex with rfl | rfl
 ·exact fin
 ·exact fin
structure zl{K:Type}[DecidableEq K](d:KK)(good:K→Prop)(enc:K→AV):Prop where
 k:∀x,isK d (enc x)=true
 eq:∀x y,good x→good y→qD (enc x) (enc y)=decide (x=y)
def iH{K:Type}(enc:K→AV):Nat→List K→List (AV×AV)
 | _,[]=>[]
 | k,x::xs=>(enc x,ak k)::iH enc (k+1) xs
theorem ZH{K:Type}(enc:K→AV):∀(k:Nat) (ks:List K),(iH enc k ks).length=ks.length
 | _,[]=>rfl
 | k,x::xs=>by simp[iH,ZH enc (k+1) xs]
section
variable{K:Type}[DecidableEq K]{d:KK}{good:K→Prop}{enc:K→AV}
theorem I5(h:zl d good enc):∀(ks:List K) (k:Nat),∀e∈iH enc k ks,isK d e.1=true
 | [],k=>by simp[iH]
 | x::xs,k=>fun e he=>by
  simp only[iH,List.mem_cons] at he;rcases he with rfl | he
  ·exact h.k x
  ·exact I5 h xs (k+1) e he
theorem U8(h:zl d good enc){x:K}(hx:good x):∀(ks:List K) (k:Nat),(∀s∈ks,good s)→qB (enc x) (iH enc k ks)=if x∈ks then some (ak (k+ks.idxOf x:Nat)) else none
 | [],k,_=>by simp[iH,qB]
 | s::ss,k,hs=>by
  simp only[iH,qB];rw[h.eq x s hx (hs s (by simp)),U8 h hx ss (k+1) (fun z hz=>hs z (by simp[hz]))];by_cases e:x=s
  ·subst e;simp
  ·have e':s≠x:=fun e2=>e e2.symm
   simp only[e,decide_false,Bool.false_eq_true,if_false,List.mem_cons,false_or];by_cases hm:x∈ss
   ·rw[if_pos hm,if_pos hm,List.idxOf_cons,show(s == x)=false by simpa using e',cond_false]
    congr 2;omega
   ·rw[if_neg hm,if_neg hm]
theorem VI(h:zl d good enc){x:K}(hx:good x):∀(ks:List K) (k:Nat),(∀s∈ks,good s)→x∉ks→lJ (enc x) (ak (k+ks.length:Nat)) (iH enc k ks)=iH enc k (ks++[x])
 | [],k,_,_=>by simp[iH,lJ]
 | s::ss,k,hs,hn=>by
  simp only[List.mem_cons,not_or] at hn;simp only[iH,lJ,List.cons_append];rw[h.eq x s hx (hs s (by simp)),if_neg (by simpa using hn.1)];have:=VI h hx ss (k+1) (fun z hz=>hs z (by simp[hz])) hn.2;rw[←this];congr 3;simp only[List.length_cons];omega
theorem Vf(h:zl d good enc){ks:List K}{x:K}(hx:good x)(hs:∀s∈ks,good s){km aA:Nat}{S:St}(hg:S.g km=some (.map (iH enc 0 ks))) :
  (zk d (.v (.int .i64 0)) true (.mp km) (enc x)).run S aA=some (.aL [.v (.int .i64 (if x∈ks then (ks.idxOf x:Int) else 0)),.v (.bool (decide (x∈ks)))],S):=by
 have hk:=I5 h ks 0;simp only[zk,Eff.yU,hg,Option.bind_some,if_pos (show isK d (enc x)=true∧∀e∈iH enc 0 ks,isK d e.1=true from⟨h.k x,hk⟩),U8 h hx ks 0 hs];by_cases hin:x∈ks
 ·simp[hin,ak]
 ·simp[hin]
theorem Oq(h:zl d good enc){ks:List K}{x:K}(hx:good x)(hs:∀s∈ks,good s)(hn:x∉ks){km aA:Nat}{S:St}(hg:S.g km=some (.map (iH enc 0 ks))) :
  (Ag d (.mp km) (enc x) (.v (.int .i64 ks.length))).run S aA=some (.junk,S.set km (some (.map (iH enc 0 (ks++[x]))))):=by
 have hk:=I5 h ks 0;have h2:=VI h hx ks 0 hs hn;rw[Nat.zero_add] at h2;have h':lJ (enc x) (.v (.int .i64 ks.length)) (iH enc 0 ks)=iH enc 0 (ks++[x]):=h2;simp only[Ag,Eff.EU,hg,Option.bind_some,if_pos (show isK d (enc x)=true∧∀e∈iH enc 0 ks,isK d e.1=true from⟨h.k x,hk⟩),h',Option.map_some]
theorem ZrS{ks:List K}{km aA:Nat}{S:St}(hg:S.g km=some (.map (iH enc 0 ks))):(Gd (.mp km)).run S aA=some (.v (.int .i64 ks.length),S):=by
 simp[Gd,hg,ZH]
end
def OV(es:List (AV×AV)):Prop:=∀e∈es,aV e.1∧aV e.2
theorem xV{K:Type}{enc:K→AV}(h:∀x,aV (enc x)):∀(ks:List K) (k:Nat),OV (iH enc k ks)
 | [],k=>by simp[OV,iH]
 | x::xs,k=>fun e he=>by
  simp only[iH,List.mem_cons] at he;rcases he with rfl | he
  ·exact⟨h x,aX _⟩
  ·exact xV h xs (k+1) e he
theorem xU{gF:Nat→Option aF}{R:Nat→Nat→Prop}{es:List (AV×AV)}(h:OV es):zw gF R (some (.map es)) (some (.map es)):=by
 intro b hb;cases hb;exact⟨_,rfl,.map _ _ rfl (fun i h1 _=>⟨.cl (h _ (List.getElem_mem h1)).1,.cl (h _ (List.getElem_mem h1)).2⟩)⟩
def wE:Nat→Option aF:=fun _=>none
def CR(o:List (Nat×Nat))(N n:Nat)(out inn:Nat):Prop:=(inn < N∧(inn,out)∈o)∨(N≤inn∧out=n+(inn - N))
theorem aQ.frame{P:Program}{f:FuncId}{args:List AV}{S:St}{K:AV→St→Prop}(N:Nat)(o:List (Nat×Nat))(G:List (Nat×Option aF))(Wz:List AV)(K0:AV→St→Prop)
  (ho:o.Pairwise fun p q=>p.1≠q.1∧p.2≠q.2) (Pq:∀p∈o,p.1 < N∧p.2 < S.n)
  (hG:∀p∈G,p.2=none∨∃i,(p.1,i)∈o∧zw wE (fun j i=>(j,i)∈o) (S.g i) p.2)
  (hargs:iX wE (fun j i=>(j,i)∈o) args Wz)
  (h:aQ P f Wz ⟨N,jy G⟩ K0)
  (hk:∀r1 S1,N≤S1.n→K0 r1 S1→∃r S',K r S'∧bU wE (CR o N S.n) r1 r∧S'.n=S.n+(S1.n - N)∧
   ∀i b,S'.g i=some b→((∀p∈o,p.2≠i)∧S.g i=some b)∨∃j,CR o N S.n i j∧zw wE (CR o N S.n) (S1.g j) (some b)):aQ P f args S K:=by
 refine⟨h.1,fun E w vals aaz hS hv=>?_⟩
 let ρ2:Nat→Option Loc:=fun j=>if j < N then match o.lookup j with | some i=>E.ρ i | none=>none else none
 let E2:Env:=⟨ρ2,E.H⟩
 have hR:∀j i l,(j,i)∈o→E.ρ i=some l→E2.ρ j=some l:=by
  intro j i l hji hl;show ρ2 j=some l
  simp only[ρ2];rw[if_pos (Pq _ hji).1,FC ho hji];exact hl
 have hrep:∀{x y:AV},bU wE (fun j i=>(j,i)∈o) x y→∀{v:Value},aK E x v→aK E2 y v:=fun h _ hv=>
  bU.rep (E2:=E2) hS (gF:=wE) (fun i k e=>by cases e) (fun _ _ e=>e) (fun id es xs l e=>by cases e) hR h hv
 have hlive:∀j k',jy G j=some k'→∃i k,(j,i)∈o∧S.g i=some k∧DK wE (fun j i=>(j,i)∈o) k k':=by
  intro j k' h;rcases hG _ (Uv h) with h1 | ⟨i,h1,h2⟩
  ·simp at h1
  ·obtain⟨k,h3,h4⟩:=h2 k' rfl
   exact⟨i,k,h1,h3,h4⟩
 have hS2:aU E2 ⟨N,jy G⟩ w:=by
  refine⟨hS.hH,fun j k' e=>?_,fun j1 j2 k1 k2 l1 l2 e1 e2 hne r1 r2=>?_,fun j hj=>?_⟩
  ·obtain⟨i,k,h1,h2,h3⟩:=hlive j k' e
   obtain⟨l,a1,a2,a3⟩:=hS.live i k h2;exact⟨l,hR j i l h1 a1,a2,h3.ok hrep a3⟩
  ·obtain⟨i1,b1,p1,p2,_⟩:=hlive j1 k1 e1
   obtain⟨i2,b2,q1,q2,_⟩:=hlive j2 k2 e2;obtain⟨m1,a1,_⟩:=hS.live i1 b1 p2;obtain⟨m2,a2,_⟩:=hS.live i2 b2 q2;have c1:=hR j1 i1 m1 p1 a1;have c2:=hR j2 i2 m2 q1 a2;rw[c1] at r1;cases r1;rw[c2] at r2;cases r2;exact hS.kV i1 i2 b1 b2 _ _ p2 q2 (ZpX ho p1 q1 hne) a1 a2
  ·have hj:N≤j:=hj
   show ρ2 j=none
   simp only[ρ2];rw[if_neg (by omega)]
 have hv2:jl E2 Wz vals:=by
  refine⟨by rw[hv.1,hargs.1],fun j hj=>?_⟩;have hj':j < args.length:=by have:=hargs.1;omega
  exact hrep (hargs.2 j hj' hj) (hv.2 j hj')
 refine(h.2 E2 w vals aaz hS2 hv2).mono ?_;rintro e w' ⟨v,r1,S1,E1,rfl,hK,hS1,hr1,ev⟩;have hN1:N≤S1.n:=ev.jg;obtain⟨r,S',k1,k2,k3,k4⟩:=hk r1 S1 hN1 hK
 let ρ3:Nat→Option Loc:=fun i=>if i < S.n then E.ρ i else E1.ρ (N+(i - S.n))
 let E3:Env:=⟨ρ3,E1.H⟩
 have hlow:∀i l,E.ρ i=some l→i < S.n:=fun i l hl=>by
  rcases Nat.lt_or_ge i S.n with h1 | h1
  ·exact h1
  ·rw[hS.fresh i h1] at hl;cases hl
 have uO:∀j i,(j,i)∈o→E1.ρ j=E.ρ i:=by
  intro j i hji
  have e2:E2.ρ j=E.ρ i:=by
   show ρ2 j=E.ρ i
   simp only[ρ2];rw[if_pos (Pq _ hji).1,FC ho hji]
  cases hl:E.ρ i with
  | some l=>exact ev.bL.le.1 j l (by rw[e2,hl])
  | none=>exact ev.low j (Pq _ hji).1 (by rw[e2,hl])
 have El:∀out inn l,CR o N S.n out inn→E1.ρ inn=some l→E3.ρ out=some l:=by
  intro out inn l hio hl;show ρ3 out=some l
  simp only[ρ3];rcases hio with⟨h1,h2⟩ | ⟨h1,rfl⟩
  ·rw[if_pos (Pq _ h2).2,←uO _ _ h2];exact hl
  ·rw[if_neg (by omega),show N+(S.n+(inn - N) - S.n)=inn by omega];exact hl
 have aan:∀{x y:AV},bU wE (CR o N S.n) x y→∀{v:Value},aK E1 x v→aK E3 y v:=fun h _ hv=>
  bU.rep (E2:=E3) hS1 (gF:=wE) (fun i k e=>by cases e) (fun _ _ e=>e) (fun id es xs l e=>by cases e) El h hv
 have hle:E.le E3:=by
  refine⟨fun i l hl=>?_,fun b cs e=>ev.bL.le.2 b cs e⟩;show ρ3 i=some l
  simp only[ρ3];rw[if_pos (hlow i l hl)];exact hl
 have hout:∀i k l,S.g i=some k→E.ρ i=some l→(∀p∈o,p.2≠i)→w'.heap[l.b]? = w.heap[l.b]?∧E1.H l.b=none:=by
  intro i k l hgi hl hno;obtain⟨l',a1,a2,a3⟩:=hS.live i k hgi;rw[hl] at a1;cases a1
  have hfr:∀id l0 k0,(St.mk N (jy G)).g id=some k0→E2.ρ id=some l0→l0.b≠l.b:=by
   intro id l0 k0 b1 b2;obtain⟨i2,kk,h1,h2,h3⟩:=hlive id k0 b1;obtain⟨m2,c1,_⟩:=hS.live i2 kk h2;have:=hR id i2 m2 h1 c1;rw[this] at b2;cases b2;exact hS.kV i2 i kk k _ _ h2 hgi (fun e=>hno _ h1 e) c1 hl
  refine⟨ev.bL.keep l.b a3.lt hfr,?_⟩;cases e:E1.H l.b with
  | none=>rfl
  | some cs=>
   exfalso;rcases ev.bL.hsub _ _ e with h1 | h1 | ⟨iM,l0,k0,b1,b2,b3⟩
   ·have h1':E.H l.b=some cs:=h1
    rw[a2] at h1';cases h1'
   ·have:=a3.lt;omega
   ·exact hfr iM l0 k0 b1 b2 b3
 have hgrow:∀j k l,S1.g j=some k→E1.ρ j=some l→w.heap.size≤l.b∨∃iM l0 k0,S.g iM=some k0∧E.ρ iM=some l0∧l0.b=l.b∧∃jj,(jj,iM)∈o:=by
  intro j k l b1 b2;rcases ev.bL.grow j l k b1 b2 with h1 | ⟨iM,l0,k0,c1,c2,c3⟩
  ·exact .inl h1
  ·obtain⟨i2,kk,h1,h2,h3⟩:=hlive iM k0 c1
   obtain⟨m2,d1,_⟩:=hS.live i2 kk h2;have:=hR iM i2 m2 h1 d1;rw[this] at c2;cases c2;exact .inr ⟨i2,_,kk,h2,d1,c3,_,h1⟩
 have hinj:∀i1 i2 j1 j2,CR o N S.n i1 j1→CR o N S.n i2 j2→i1≠i2→j1≠j2:=by
  rintro i1 i2 j1 j2 h1 h2 hne rfl;rcases h1 with⟨a1,a2⟩ | ⟨a1,a2⟩<;>rcases h2 with⟨b1,b2⟩ | ⟨b1,b2⟩
  ·have e1:=FC ho a2
   have e2:=FC ho b2;rw[e1] at e2;cases e2;exact hne rfl
  ·omega
  ·omega
  ·omega
 refine⟨v,r,S',E3,rfl,k1,⟨fun b cs e=>hS1.hH b cs e,fun i b e=>?_,fun i1 i2 b1 b2 l1 l2 e1 e2 hne r1 r2=>?_,fun i hi=>?_⟩,aan k2 hr1,?_⟩
 ·rcases k4 i b e with⟨h2,h3⟩ | ⟨j,h1,h2⟩
  ·obtain⟨l,a1,a2,a3⟩:=hS.live i b h3
   obtain⟨c1,c2⟩:=hout i b l h3 a1 h2;exact⟨l,hle.1 i l a1,c2,a3.mono hle c1⟩
  ·obtain⟨k,h3,h4⟩:=h2 b rfl
   obtain⟨l,a1,a2,a3⟩:=hS1.live j k h3;exact⟨l,El i j l h1 a1,a2,h4.ok aan a3⟩
 ·rcases k4 i1 b1 e1 with⟨h2,h3⟩ | ⟨j1,h1,h2⟩<;>rcases k4 i2 b2 e2 with⟨g2,g3⟩ | ⟨j2,g1,g2⟩
  ·obtain⟨m1,a1,_⟩:=hS.live i1 b1 h3
   obtain⟨m2,a2,_⟩:=hS.live i2 b2 g3;have c1:=hle.1 i1 m1 a1;have c2:=hle.1 i2 m2 a2;rw[c1] at r1;cases r1;rw[c2] at r2;cases r2;exact hS.kV i1 i2 b1 b2 _ _ h3 g3 hne a1 a2
  ·obtain⟨m1,a1,_,a3⟩:=hS.live i1 b1 h3
   have c1:=hle.1 i1 m1 a1;rw[c1] at r1;cases r1;obtain⟨k,g3,g4⟩:=g2 b2 rfl;obtain⟨m2,a2,_⟩:=hS1.live j2 k g3;have c2:=El i2 j2 m2 g1 a2;rw[c2] at r2;cases r2;rcases hgrow j2 k _ g3 a2 with h5 | ⟨iM,l0,k0,d1,d2,d3,jj,d4⟩
   ·have:=a3.lt;omega
   ·rw[←d3]
    exact hS.kV i1 iM b1 k0 _ _ h3 d1 (fun e=>h2 _ d4 e.symm) a1 d2
  ·obtain⟨m2,a2,_,a3⟩:=hS.live i2 b2 g3
   have c2:=hle.1 i2 m2 a2;rw[c2] at r2;cases r2;obtain⟨k,h3,h4⟩:=h2 b1 rfl;obtain⟨m1,a1,_⟩:=hS1.live j1 k h3;have c1:=El i1 j1 m1 h1 a1;rw[c1] at r1;cases r1;rcases hgrow j1 k _ h3 a1 with h5 | ⟨iM,l0,k0,d1,d2,d3,jj,d4⟩
   ·have:=a3.lt;omega
   ·rw[←d3]
    exact hS.kV iM i2 k0 b2 _ _ d1 g3 (fun e=>g2 _ d4 e) d2 a2
  ·obtain⟨k,h3,h4⟩:=h2 b1 rfl
   obtain⟨m1,a1,_⟩:=hS1.live j1 k h3;have c1:=El i1 j1 m1 h1 a1;rw[c1] at r1;cases r1;obtain⟨k2,g3,g4⟩:=g2 b2 rfl;obtain⟨m2,a2,_⟩:=hS1.live j2 k2 g3;have c2:=El i2 j2 m2 g1 a2;rw[c2] at r2;cases r2;exact hS1.kV j1 j2 k k2 _ _ h3 g3 (hinj _ _ _ _ h1 g1 hne) a1 a2
 ·show ρ3 i=none
  simp only[ρ3];rw[if_neg (by omega)];exact hS1.fresh _ (by omega)
 ·refine⟨⟨ev.bL.os,ev.bL.tape,ev.bL.output,ev.bL.size,fun b hb hno=>?_,fun i l b e hl=>?_,hle,fun b cs e=>?_⟩,by omega,fun i hi e=>?_⟩
  ·refine ev.bL.keep b hb fun id l0 k0 b1 b2=>?_
   obtain⟨i2,kk,h1,h2,h3⟩:=hlive id k0 b1;obtain⟨m2,c1,_⟩:=hS.live i2 kk h2;have:=hR id i2 m2 h1 c1;rw[this] at b2;cases b2;exact hno i2 _ kk h2 c1
  ·rcases k4 i b e with⟨h2,h3⟩ | ⟨j,h1,h2⟩
   ·obtain⟨m1,a1,_⟩:=hS.live i b h3
    have c1:=hle.1 i m1 a1;rw[c1] at hl;cases hl;exact .inr ⟨i,_,b,h3,a1,rfl⟩
   ·obtain⟨k,h3,h4⟩:=h2 b rfl
    obtain⟨m1,a1,_⟩:=hS1.live j k h3;have c1:=El i j m1 h1 a1;rw[c1] at hl;cases hl;rcases hgrow j k _ h3 a1 with h5 | ⟨iM,l0,k0,d1,d2,d3,_⟩
    ·exact .inl h5
    ·exact .inr ⟨iM,l0,k0,d1,d2,d3⟩
  ·rcases ev.bL.hsub b cs e with h1 | h1 | ⟨iM,l0,k0,b1,b2,b3⟩
   ·exact .inl h1
   ·exact .inr (.inl h1)
   ·obtain⟨i2,kk,h1,h2,h3⟩:=hlive iM k0 b1
    obtain⟨m2,c1,_⟩:=hS.live i2 kk h2;have:=hR iM i2 m2 h1 c1;rw[this] at b2;cases b2;exact .inr (.inr ⟨i2,_,kk,h2,c1,b3⟩)
  ·show ρ3 i=none
   simp only[ρ3];rw[if_pos hi];exact e
def LV(g:Nat→Option aF)(v:AV)(xs:List AV):Prop:=(∃t,v=.sl t xs)∨Vec g v 1 xs
theorem LV.frame{g g':Nat→Option aF}{v:AV}{xs:List AV}(h:LV g v xs)(hs:∀i∈v.ids,g' i=g i):LV g' v xs:=by
 rcases h with h | h
 ·exact .inl h
 ·exact .inr (h.frame hs)
theorem LV.cell{g:Nat→Option aF}{v:AV}{xs:List AV}(h:LV g v xs):v.cells=[v]∧v.solid=true:=by
 rcases h with⟨t,rfl⟩ | h
 ·exact⟨rfl,rfl⟩
 ·exact h.cel
theorem LV.len{g:Nat→Option aF}{v:AV}{xs:List AV}(h:LV g v xs):dA v=some (.v (.int .i64 xs.length)):=by
 rcases h with⟨t,rfl⟩ | ⟨rfl,rfl⟩ | ⟨id,off,ys,rfl,_,_,_⟩<;>rfl
end Go.Rf
namespace Go.Rf
theorem Zf1{P:Program}(hm:P.follows .mixedOrders=true){f fg:FuncId}{es aC:Nat}{z:AV}(hg:NT P fg es z)(hb:aC≤1000)(h:Is P f (ML es aC fg) [2] 1){X:Type}{enc:X→AV}(hcl:∀x,aV (enc x))(hce:∀x,(enc x).cells.length=es)
  (L:List (Bool×List X)) (hL:L.length≤1000) (ht:(L.map fun p=>p.2.length).sum≤1000000):aM P f [.sl true (L.map fun p=>.sl p.1 (p.2.map enc))] (.sl false ((L.flatMap (·.2)).map enc)):=by
 have e:AV.sl true (L.map fun p=>AV.sl p.1 (p.2.map enc))=DV (L.map fun p=>(p.1,p.2.map enc)):=by simp[DV]
 rw[e];refine .uT (ZdS hm hg hb h (fun p hp x hx=>?_) (by simpa using hL) (by simpa[uK,Function.comp_def] using ht) (fun v S' ho=>?_))
 ·obtain⟨q,hq,rfl⟩:=List.mem_map.mp hp
  obtain⟨y,_,rfl⟩:=List.mem_map.mp hx;exact hce y
 ·obtain⟨_,_,hv,_⟩:=ho
  have e2:(L.map fun p=>(p.1,p.2.map enc)).flatMap (·.2)=(L.flatMap (·.2)).map enc:=by
   rw[List.flatMap_map,List.map_flatMap]
  rw[e2] at hv;exact hv.fz hcl
end Go.Rf
namespace Go.Rf
open Go.RowKit
def cst:aJ→Option AV
 | .c x=>some x
 | .t _=>none
def Gz(P:Program)(op:Op):Option jc:=
 match op with
 | .buildSlice t m ps=>match Nz ps,uW P t with
  | some qs,some p=>match qs.mapM (fun q=>(cst q.2).map fun x=>(q.1,x)) with
   | some cs=>match dw p.2.1 (List.replicate m p.1) cs with
    | some xs=>if 0 < xs.length∧m*p.2.1≤16777216 then some (.app p.2.1 p.2.2 (.c (.sl true [])) (.c (.sl true xs))) else none
    | none=>none
   | none=>none
  | _,_=>none
 | _=>none
def Jz(P:Program)(n:Nat)(ops:Array Oper)(o:Oper):Option aT:=
 match Gz P o.op with
 | some op=>if Od n o.dst=true then (Ad ops o).map fun g=>⟨o.dst,op,g,none⟩ else none
 | none=>lC P n ops o
theorem Zhf{P:Program}{n:Nat}{ops:Array Oper}{o:Oper}{ao:aT}(h:Jz P n ops o=some ao) :
  (∀d,o.dst=some d→d < n)∧ao.dst=o.dst∧Ad ops o=some ao.guard∧((∃p,ao.call=some p∧AA o.op=some p)∨(ao.call=none∧(cop P o.op=some ao.op∨Gz P o.op=some ao.op))):=by
 unfold Jz at h;split at h
 ·rename_i op hop
  split at h
  ·rename_i hd
   have hd':∀d,o.dst=some d→d < n:=fun d e=>by rw[e] at hd;simpa[Od] using hd
   simp only[Option.map_eq_some_iff] at h;obtain⟨g,h2,rfl⟩:=h;exact⟨hd',rfl,h2,.inr ⟨rfl,.inr hop⟩⟩
  ·cases h
 ·obtain⟨h1,h2,h3,h4⟩:=Da h
  exact⟨h1,h2,h3,h4.imp id fun h=>⟨h.1,.inl h.2⟩⟩
theorem Zgd{P:Program}{op:Op}{ao:jc}(h:Gz P op=some ao):∃t m ps qs z es aC cs xs,op=.buildSlice t m ps∧Nz ps=some qs∧uW P t=some (z,es,aC)∧qs.mapM (fun q=>(cst q.2).map fun x=>(q.1,x))=some cs∧
  dw es (List.replicate m z) cs=some xs∧0 < xs.length∧m*es≤16777216∧ao=.app es aC (.c (.sl true [])) (.c (.sl true xs)):=by
 unfold Gz at h;split at h
 ·rename_i t m ps
  split at h
  ·rename_i qs p hq hp
   obtain⟨z,es,aC⟩:=p;split at h
   ·rename_i cs hc
    split at h
    ·rename_i xs hx
     split at h
     ·rename_i hh
      cases h;exact⟨t,m,ps,qs,z,es,aC,cs,xs,rfl,hq,hp,hc,hx,hh.1,hh.2,rfl⟩
     ·cases h
    ·cases h
   ·cases h
  ·cases h
 ·cases h
theorem Zmm{a:AF}:∀{qs:List (Nat×aJ)} {cs:List (Nat×AV)},qs.mapM (fun q=>(cst q.2).map fun x=>(q.1,x))=some cs→(qs.map fun q=>(q.1,q.2.ev a))=cs
 | [],cs,h=>by simp at h;subst h;rfl
 | (i,x)::qs,cs,h=>by
  simp only[List.mapM_cons,Option.bind_eq_bind,Option.bind_eq_some_iff,Option.pure_def,Option.some.injEq,Option.map_eq_some_iff] at h;obtain⟨c,⟨y,hy,rfl⟩,cs',h2,rfl⟩:=h;rw[List.map_cons,Zmm h2];cases x with
  | t _=>simp[cst] at hy
  | c z=>simp only[cst,Option.some.injEq] at hy;subst hy;simp only[aJ.ev]
theorem Zl8{P:Program}{op:Op}{ao:jc}(h:Gz P op=some ao){a:AF}{k:AV→Prop}(hn:qF ao a k):False:=by
 obtain⟨t,m,ps,qs,z,es,aC,cs,xs,_,_,_,_,_,_,_,rfl⟩:=Zgd h;simp only[qF] at hn
section
variable{P:Program}{n:Nat}{o:Oper}{a:AF}{S:St}{aA:Nat}{v:AV}
theorem Znu(hd:∀d,o.dst=some d→d < n){ao:jc}(hc:Gz P o.op=some ao){S':St}(h:(ex ao a).run S aA=some (v,S')):eZ P n o a S aA v S':=by
 obtain⟨t,m,ps,qs,z,es,aC,cs,xs,hop,hq,ht,hcs,hf,hx0,hms,rfl⟩:=Zgd hc;have hqc:=Zmm (a:=a) hcs;obtain⟨e,i,hu,hz,hi,hb⟩:=Fj ht;obtain⟨_,_,q1,q2,q3,q4,q5,q6,q7⟩:=Jc hz;have wD:∀x∈List.replicate m z,x.cells.length=es:=by intro x hx;rw[(List.mem_replicate.mp hx).2];exact q5
 obtain⟨f1,f2,f3⟩:=R8 _ _ _ wD hf
 have hv:v=.own aA 0 xs.length∧S'=S.set aA (some (.arr es xs)):=by
  have h3:kK es [] (.sl true xs)=some xs:=by simp only[kK];rw[if_pos f2]
  have hne:¬xs.length=0:=by omega
  simp only[ex,aJ.ev,jC,Eff.run,AV.jA,List.mapM_nil,Option.pure_def,h3,Option.bind_some] at h;by_cases hap:eY aC 0 xs.length
  ·rw[if_pos ⟨by simp,by simpa using hap⟩,if_neg hne] at h
   simp only[Option.some.injEq,Prod.mk.injEq] at h;obtain⟨rfl,rfl⟩:=h;exact⟨by simp,by simp[St.dV,St.iG]⟩
  ·rw[if_neg (fun hh=>hap (by simpa using hh.2))] at h
   cases h
 obtain⟨rfl,rfl⟩:=hv;refine eZ.alloc (f:=fun i=>.own i 0 xs.length) hd (by rw[hop];rfl) f2 fun E w act hS hF=>?_
 obtain⟨i',zv,g1,g2,g3,g4,g5⟩:=y7 (E:=E) hz;rw[hi] at g1;cases g1;obtain⟨p1,p2⟩:=Tw hF hq;have hl0:=pX wD;simp only[List.length_replicate] at hl0
 have hstart:Gx E (flat (List.replicate m z)) ((Array.range (m*es)).map (zv.cells[· % zv.cells.size]!)):=by
  refine⟨by simp[hl0],?_,Jd g4 q5 m m (Nat.le_refl _)⟩;intro y hy;obtain⟨x,hx,hyx⟩:=List.mem_flatMap.mp hy;rw[(List.mem_replicate.mp hx).2] at hyx;exact g4.2.1 y hyx
 let ps':=ps.map fun p=>(p.1,act.eval p.2)
 obtain⟨cells',e1,e2⟩:=Jv (fun j=>some (j*es,es)) ps'.toList ((qs.map fun q=>(q.1,q.2.ev a)).map fun p=>(p.1*es,es,p.2)) _ _ _ hstart (by simp[ps'];simpa using p1)
  (fun j hj hj'=>by
   simp only[ps',Array.toList_map,List.length_map] at hj hj';obtain⟨a1,a2⟩:=p2 j hj (by omega);simp only[ps',Array.toList_map,List.getElem_map];exact⟨by rw[a1],a2⟩) (by rw[hqc];exact f1)
 have hrun:(execOp act.eval o).run P w=.ok (.value (.slice (some ⟨w.heap.size,0,none⟩) m m)) (w.alloc (.cells cells' e)):=by
  simp only[execOp,hop];by_cases h0:m*i.size=0
  ·have h00:m*es=0:=by rw[←g3];exact h0
   have VQ:Instr.fill (fun j=>some (j*i.size,i.size)) #[] ps'.toList=some cells':=by
    rw[g3,←e1];congr 1;rw[h00];simp[Array.range_zero']
   simp[Instr.buildSlice,run_underlying hu,r9 hi,h0,newRow,Array.range_zero'];have Ef:Instr.fill (fun j=>some (j*i.size,i.size)) #[] (List.map (fun x=>(x.1,act.eval x.2)) ps.toList)=some cells':=by simpa[ps'] using VQ
   rw[Ef];simp
  ·have hle:¬(m*i.size > 16777216):=by rw[g3];omega
   have Ef:Instr.fill (fun j=>some (j*i.size,i.size)) ((Array.range (m*i.size)).map (zv.cells[· % zv.cells.size]!)) (List.map (fun x=>(x.1,act.eval x.2)) ps.toList)=some cells':=by
    rw[g3];simpa[ps'] using e1
   simp[Instr.buildSlice,run_underlying hu,r9 hi,h0,newRow,zeroValue,typeInfo,hi,g2];rw[if_neg (by omega)];simp[Ef]
 have hxl:xs.length=m:=by rw[f3];simp
 have hfl:=pX f2;have hcz:cells'.size=m*es:=by rw[e2.1,hfl,hxl]
 refine⟨_,cells',e,m,w,rfl,hS,.refl _ _ _,hrun,e2.2.1,by omega,by omega,e2.2.2,fun E' he=>?_⟩;rw[hxl];exact .own aA 0 m (some ⟨w.heap.size,0,none⟩) m _ he (Nat.le_refl _) (fun _=>⟨by simp,by simp⟩)
end
theorem SF{P:Program}{n:Nat}{ops:Array Oper}{base:Nat}{Q:Exit→AF→St→Prop}{E0:Env}{S0:St}{w0:World}(hG0:jd P E0.H)(hb:S0.n≤base) :
  ∀(os:List aT) (i:Nat) (a:AF) (S:St),(∀k (hk:k < os.length),∃o,ops[i+k]? = some o∧Jz P n ops o=some (os[k]))→RG P base os i (fun a S=>Q .normal a S) a S→
   ∀E w act,aU E S w→dR E n a act→(∀k,i≤k→k < i+os.length→E.ρ (base+k)=none∧base+k < S.n)→Ev E0 S0 w0 E S w→
    wpOps P ops (lD E0 S0 w0 n Q) (List.range' i os.length) act w
 | [],i,a,S,_,h,E,w,act,hS,hF,_,hE=>⟨a,S,E,h,hS,hF,hE⟩
 | ao::os,i,a,S,hc,h,E,w,act,hS,hF,hr,hE=>by
  obtain⟨o,ho,hco⟩:=hc 0 (by simp);simp only[Nat.add_zero,List.getElem_cons_zero] at ho hco;obtain⟨hd,hdst,hgd,hor⟩:=Zhf hco
  have hc':∀k (hk:k < os.length),∃o,ops[i+1+k]? = some o∧Jz P n ops o=some (os[k]):=by
   intro k hk;obtain⟨o',h1,h2⟩:=hc (k+1) (by simpa using hk);exact⟨o',by rw[←h1];congr 1;omega,by simpa using h2⟩
  have hr0:=hr i (Nat.le_refl _) (by simp);simp only[List.length_cons,List.range'_succ,wpOps,ho];simp only[RG] at h;split at h
  ·exact h.elim
  ·rename_i hg
   rw[xM hF hgd hg];simp only[Bool.false_eq_true,if_false];rw[hdst] at h;exact SF hG0 hb os (i+1) _ S hc' h E w _ hS (hF.put hd Je) (fun k h1 h2=>hr k (by omega) (by simp;omega)) hE
  ·rename_i hg
   rw[xM hF hgd hg];simp only[if_true];left;rw[hdst] at h
   have next:∀{r:AV} {S':St} {act':Act} {w':World} {E':Env},RG P base os (i+1) (fun a S=>Q .normal a S) (a.put o.dst r) S'→aU E' S' w'→dR E' n (a.put o.dst r) act'→Ev E0 S0 w0 E' S' w'→
     (∀k,i < k→k < i+(os.length+1)→E'.ρ (base+k)=none∧base+k < S'.n)→wpOps P ops (lD E0 S0 w0 n Q) (List.range' (i+1) os.length) act' w':=
    fun h1 h2 h3 h4 h5=>SF hG0 hb os (i+1) _ _ hc' h1 _ _ _ h2 h3 (fun k a1 a2=>h5 k (by omega) (by omega)) h4
   have hcall:∀{f:FuncId} {args:List AV} {vals:Array Value},aQ P f args S (fun r S'=>RG P base os (i+1) (fun a S=>Q .normal a S) (a.put o.dst r) S')→jl E args vals→
     (execOp act.eval o).run P w=.ok (.enter f vals) w→o.wp P act w (wpOps P ops (lD E0 S0 w0 n Q) (List.range' (i+1) os.length)) (lD E0 S0 w0 n Q):=by
    intro f args vals h1 h2 h3;refine MH hd h1 (hG0.le hE.bL.le) hS hF h2 h3 fun r S' act' w' E' k1 k2 k3 k4=>next k1 k2 k3 (hE.trans k4) fun k a1 a2=>?_
    obtain⟨b1,b2⟩:=hr k (by omega) (by simp;omega);exact⟨k4.low _ b2 b1,Nat.lt_of_lt_of_le b2 k4.jg⟩
   rcases hor with⟨p,hp1,hp2⟩ | ⟨hp1,hop⟩
   ·
    rw[hp1] at h;obtain⟨G,xs⟩:=p;simp only at h;unfold AA at hp2;split at hp2
    ·rename_i g ys ts uO
     simp only[Option.bind_eq_some_iff,Option.map_eq_some_iff,Prod.mk.injEq] at hp2;obtain⟨G',hG,XS,yI,rfl,rfl⟩:=hp2;have rg:=bH hF hG;split at h
     ·rename_i f first cap yK
      rw[yK] at rg;generalize hev:act.eval g=gv at rg;cases rg with
      | aO _ _ _ fv cv hn hm hf hcc=>
       have hx:=Fe hF yI;have hargs:jl E (first++XS.map (·.ev a)++cap) (fv++ys.map act.eval++cv):=(jl.append ⟨hn,hf⟩ hx).append ⟨hm,hcc⟩;refine hcall h hargs ?_;simp only[execOp,uO,Sem.run_bind,CU act.eval g ys ts o.type hev,Result.andThen_ok,invoke];exact CW h.1 _ _
     ·exact h.elim
    ·cases hp2
   ·rw[hp1] at h
    simp only at h;split at h
    ·rename_i v S' hex
     have hok:eZ P n o a S (base+i) v S':=hop.elim (fun h1=>Gc (P:=P) (n:=n) (o:=o) hd h1 hex) (fun h1=>Znu (P:=P) (n:=n) (o:=o) hd h1 hex);have hn:=Eff.LP hex;refine hok E w act hS hF hr0.1 hr0.2 _ _ fun act' w' E' k1 k2 k3 k4=>next h k1 k2 ⟨hE.bL.trans k3,by have:=hE.jg;omega,fun id hid e=>k4.2 id (by omega) (hE.low id hid e)⟩ fun k a1 a2=>?_
     ·obtain⟨b1,b2⟩:=hr k (by omega) (by simp;omega)
      exact⟨k4.2 _ (by omega) b1,by omega⟩
    ·have hop:cop P o.op=some ao.op:=hop.elim id fun h1=>(Zl8 h1 h).elim
     obtain⟨b,g1,g2⟩:=Nf hop h hF w;unfold Oper.wp;rw[g2,Oper.upon_value];exact next g1 hS (hF.put hd (.v _ rfl)) hE fun k a1 a2=>hr k (by omega) (by simp;omega)
def J6(P:Program)(n:Nat)(draw:Bool)(ops:Array Oper):AC:= if draw=true then tZ P n draw ops else match ops.toList.mapM (Jz P n ops) with | some os=>.reg none os | none=>.bad
def Zpu(P:Program)(n:Nat)(c:Code):Option AC:=dL J6 P n c
theorem Zou{P:Program}(hm:P.follows .mixedOrders=true){n:Nat}:Dt P n J6:=by
 intro id ops dr Q a S h;unfold J6 at h;split at h
 ·exact zW hm id ops dr Q a S h
 ·rename_i hdr
  simp only[Bool.not_eq_true] at hdr;subst hdr;split at h
  ·rename_i ys hy
   obtain⟨h1,h2⟩:=y8 hy;have hlen:ys.length=ops.size:=by rw[h1];simp
   intro E w act hG hS hF;simp only[AW] at h;refine wp_region ?_
   have:=SF (P:=P) (n:=n) (ops:=ops) (base:=S.n) (E0:=E) (S0:=S) (w0:=w) hG (Nat.le_refl _) ys 0 a ⟨S.n+ys.length,S.g⟩ (fun k hk=>by
    obtain⟨o,a1,a2⟩:=h2 k hk;exact⟨o,by rw[Nat.zero_add];simpa using a1,a2⟩) h E w act (hS.drop S.g (fun _ _ e=>e) _ (by show S.n≤S.n+_;omega)) hF (fun k _ hk=>⟨hS.fresh _ (by omega),by show S.n+k < S.n+ys.length;omega⟩)
    ⟨⟨rfl,rfl,rfl,Nat.le_refl _,fun _ _ _=>rfl,fun id l k hk hl=>.inr ⟨id,l,k,hk,hl,rfl⟩,Env.le_refl _,fun _ _ e=>.inl e⟩,by show S.n≤S.n+_;omega,fun _ _ e=>e⟩
   rw[List.range_eq_range',←hlen];exact this
  ·simp only[AW] at h
theorem Zjc{P:Program}{n:Nat}(d:Bool)(ops:Array Oper):Dm (J6 P n d ops)=true:=by
 unfold J6;split
 ·exact Db d ops
 ·split<;>rfl
structure Cq(P:Program)(f:FuncId)(ac:AC)(rs:List RV)(n:Nat):Prop where
 h:∃fn c,P.funcs[f]? = some fn∧(fn.name == "runtime.NumGoroutine")=false∧fn.body=some c∧Zpu P fn.ntmps c=some ac∧fn.results.toList.mapM (sZ P)=some rs∧n≤fn.ntmps
theorem Cq.Bj{P:Program}(hm:P.follows .mixedOrders=true){f:FuncId}{ac:AC}{rs:List RV}{n:Nat}(h:Cq P f ac rs n){args:List AV}(hn:args.length=n){S:St}{K:AV→St→Prop}
  (hb:bG P S.n ac (NV S.n rs K) (bC args) S):aQ P f args S K:=Sk (fun _=>Zou hm) (fun _=>Zjc) h.h hn hb
theorem Cq.uU{P:Program}(hm:P.follows .mixedOrders=true){f:FuncId}{ac:AC}{rs:List RV}{n:Nat}(h:Cq P f ac rs n){args:List AV}(hn:args.length=n){r:AV}
  (hb:bG P 0 ac (iI rs (dx r)) (bC args) S0):aM P f args r:=
 .uT (h.Bj hm hn (FJ _ (fun e a S k=>⟨a,S,.refl _ _,k⟩) hb))
end Go.Rf
namespace Go.Rf
variable{P:Program}{f:FuncId}{ac:AC}{ts:List Nat}{rs:List RV}{n:Nat}
def He(co:Nat→Code→Option AC)(fn:Func)(n:Nat)(r:Option (List RV)):Option (Bool×AC×Option (List RV)×Bool):=
 fn.body.bind fun c=>(co fn.ntmps c).map fun a=>(fn.name == "runtime.NumGoroutine",a,r,Nat.ble n fn.ntmps)
theorem NI{co:Nat→Code→Option AC}{fn:Func}{r:Option (List RV)}(h:He co fn n r=some (false,ac,some rs,true)) :
  ∃c,(fn.name == "runtime.NumGoroutine")=false∧fn.body=some c∧co fn.ntmps c=some ac∧r=some rs∧n≤fn.ntmps:=by
 unfold He at h;obtain⟨c,h1,h2⟩:=Option.bind_eq_some_iff.mp h;obtain⟨a,h3,h4⟩:=Option.map_eq_some_iff.mp h2;simp only[Prod.mk.injEq] at h4;obtain⟨h5,rfl,rfl,h6⟩:=h4;exact⟨c,h5,h1,h3,rfl,Nat.le_of_ble_eq_true h6⟩
def isR(fn:Func)(n:Nat)(co:Nat→Code→Option AC):Option (Bool×AC×Array ResultVar×Bool):=
 fn.body.bind fun c=>(co fn.ntmps c).map fun a=>(fn.name == "runtime.NumGoroutine",a,fn.results,Nat.ble n fn.ntmps)
theorem Is.k{fn:Func}(hf:P.funcs[f]? = some fn)(h:isR fn n (comp P)=some (false,ac,(ts.map ResultVar.tmp).toArray,true)):Is P f ac ts n:=by
 unfold isR at h;obtain⟨c,h1,h2⟩:=Option.bind_eq_some_iff.mp h;obtain⟨a,h3,h4⟩:=Option.map_eq_some_iff.mp h2;simp only[Prod.mk.injEq] at h4;obtain⟨h5,rfl,h7,h6⟩:=h4;exact⟨fn,c,hf,h5,h1,h3,h7,Nat.le_of_ble_eq_true h6⟩
theorem ku.k{fn:Func}(hf:P.funcs[f]? = some fn)(h:He (comp P) fn n (fn.results.toList.mapM (sZ P))=some (false,ac,some rs,true)):ku P f ac rs n:=by
 obtain⟨c,h1,h2,h3,h4,h5⟩:=NI h;exact⟨fn,c,hf,h1,h2,h3,h4,h5⟩
theorem yR.k{fn:Func}(hf:P.funcs[f]? = some fn)(h:He (NZ P) fn n (fn.results.toList.mapM (sZ P))=some (false,ac,some rs,true)):yR P f ac rs n:=by
 obtain⟨c,h1,h2,h3,h4,h5⟩:=NI h;exact⟨fn,c,hf,h1,h2,h3,h4,h5⟩
theorem zK.k{fn:Func}(hf:P.funcs[f]? = some fn)(h:He (vS P) fn n (fn.results.toList.mapM (sZ P))=some (false,ac,some rs,true)):zK P f ac rs n:=by
 obtain⟨c,h1,h2,h3,h4,h5⟩:=NI h;exact⟨fn,c,hf,h1,h2,h3,h4,h5⟩
theorem Cq.k{fn:Func}(hf:P.funcs[f]? = some fn)(h:He (Zpu P) fn n (fn.results.toList.mapM (sZ P))=some (false,ac,some rs,true)):Cq P f ac rs n:=by
 obtain⟨c,h1,h2,h3,h4,h5⟩:=NI h;exact⟨fn,c,hf,h1,h2,h3,h4,h5⟩
theorem Zgm(d:aB)(h i:Nat):qA d h i=bN d i (2*(h:Int)):=by
 unfold qA bN;have:(2*(h:Int)).toNat=2*h:=by omega
 rw[this]
theorem Zjw(d:aB)(h i:Nat):wh d h i=bN d i (2*(h:Int)+1):=by
 unfold wh bN;have:(2*(h:Int)+1).toNat=2*h+1:=by omega
 rw[this]
theorem MS{T:List aP}{i k:Nat}(hi:i < T.length)(hk:k < 3)(j:Nat):hs (vo T i k) j=(hs T j || decide (j=3*i+k)):=by
 unfold hs vo;simp only[List.getD_eq_getElem?_getD,List.getElem?_set];by_cases hji:i=j / 3
 ·subst hji
  rw[if_pos rfl,if_pos hi];simp only[Option.getD_some];generalize(T[j / 3]?).getD aP.no=t;unfold aP.put aP.at;have hj3:j % 3 < 3:=Nat.mod_lt _ (by omega);by_cases hjk:j % 3=k
  ·have:j=3*(j / 3)+k:=by omega
   rw[decide_eq_true this];subst hjk;rcases(by omega:j % 3=0∨j % 3=1∨j % 3=2) with h | h | h<;>simp[h]
  ·have:¬j=3*(j / 3)+k:=by omega
   rw[decide_eq_false this];rcases(by omega:j % 3=0∨j % 3=1∨j % 3=2) with h | h | h<;>rcases(by omega:k=0∨k=1∨k=2) with g | g | g<;>simp_all
 ·rw[if_neg hji]
  have:¬j=3*i+k:=by omega
  rw[decide_eq_false this,Bool.or_false]
theorem Vd(n j:Nat):hs (List.replicate n .no) j=false:=by
 unfold hs
 have:(List.replicate n aP.no).getD (j / 3) .no=.no:=by
  simp only[List.getD_eq_getElem?_getD,List.getElem?_replicate];split<;>rfl
 rw[this];unfold aP.at aP.no;split<;>(try split)<;>rfl
theorem Vb(T:List aP)(i:Nat):hs T (3*i)=(T.getD i .no).a∧hs T (3*i+1)=(T.getD i .no).b∧hs T (3*i+2)=(T.getD i .no).c:=by
 refine⟨?_,?_,?_⟩
 ·unfold hs;have h1:3*i / 3=i:=by omega
  have h2:3*i % 3=0:=by omega
  rw[h1,h2];rfl
 ·unfold hs;have h1:(3*i+1) / 3=i:=by omega
  have h2:(3*i+1) % 3=1:=by omega
  rw[h1,h2];rfl
 ·unfold hs;have h1:(3*i+2) / 3=i:=by omega
  have h2:(3*i+2) % 3=2:=by omega
  rw[h1,h2];rfl
theorem Zlq{d:aB}(R:bg d){h:Nat}(hh:((2*h+1:Nat):Int) < d.signs){T out:List aP}(ho:out.length=d.next.length){i:Nat}(hi:i < d.next.length)(j:Nat) :
  hs (tT d h T out i) j=true↔hs out j=true∨∃ph,ph < 3∧hs T (3*i+ph)=true∧yt d (3*i+ph) h j:=by
 have he:qA d h i < d.next.length:=by rw[Zgm];exact xP R hi (by omega) (by omega)
 have hod:wh d h i < d.next.length:=by rw[Zjw];exact xP R hi (by omega) (by omega)
 obtain⟨a0,a1,a2⟩:=Vb T i;have l1:(oL d h (T.getD i .no) (qA d h i) out).length=d.next.length:=by unfold oL;split<;>simp[yY,ho]
 have l2:(uG (T.getD i .no) (wh d h i) (oL d h (T.getD i .no) (qA d h i) out)).length=d.next.length:=by
  unfold uG;split
  ·rw[yY];exact l1
  ·exact l1
 have s1:hs (oL d h (T.getD i .no) (qA d h i) out) j=(hs out j || (((T.getD i .no).a || (T.getD i .no).b) && decide (j=3*qA d h i+1))):=by
  unfold oL;split
  ·rename_i hc;rw[MS (by omega) (by omega),hc,Bool.true_and]
  ·rename_i hc;simp only[Bool.not_eq_true] at hc;rw[hc];simp
 have s2:hs (uG (T.getD i .no) (wh d h i) (oL d h (T.getD i .no) (qA d h i) out)) j=(hs (oL d h (T.getD i .no) (qA d h i) out) j || ((T.getD i .no).b && decide (j=3*wh d h i+2))):=by
  unfold uG;split
  ·rename_i hc;rw[MS (by omega) (by omega),hc,Bool.true_and]
  ·rename_i hc;simp only[Bool.not_eq_true] at hc;rw[hc];simp
 have s3:hs (tT d h T out i) j=(hs (uG (T.getD i .no) (wh d h i) (oL d h (T.getD i .no) (qA d h i) out)) j || ((T.getD i .no).c && decide (j=3*qA d h i+2))):=by
  unfold tT Ah;split
  ·rename_i hc;rw[MS (by omega) (by omega),hc,Bool.true_and]
  ·rename_i hc;simp only[Bool.not_eq_true] at hc;rw[hc];simp
 rw[s3,s2,s1];simp only[Bool.or_eq_true,Bool.and_eq_true,decide_eq_true_eq];rw[←a0,←a1,←a2,Zgm,Zjw];have st:=fun ph (hp:ph < 3)=>Br R hi hp (h:=(h:Int)) (j:=j)
 constructor
 ·rintro(((h1 | ⟨h1,h2⟩) | ⟨h1,h2⟩) | ⟨h1,h2⟩)
  ·exact .inl h1
  ·rcases h1 with h1 | h1
   ·exact .inr ⟨0,by omega,h1,(st 0 (by omega)).mpr (.inl ⟨by omega,by rw[h2];rfl⟩)⟩
   ·exact .inr ⟨1,by omega,h1,(st 1 (by omega)).mpr (.inl ⟨by omega,by rw[h2];rfl⟩)⟩
  ·exact .inr ⟨1,by omega,h1,(st 1 (by omega)).mpr (.inr ⟨rfl,by omega,h2⟩)⟩
  ·exact .inr ⟨2,by omega,h1,(st 2 (by omega)).mpr (.inl ⟨by omega,by rw[h2];rfl⟩)⟩
 ·rintro(h1 | ⟨ph,hp,h1,h2⟩)
  ·exact .inl (.inl (.inl h1))
  ·rcases(by omega:ph=0∨ph=1∨ph=2) with rfl | rfl | rfl
   ·rcases(st 0 (by omega)).mp h2 with⟨_,h3⟩ | ⟨h3,_⟩
    ·exact .inl (.inl (.inr ⟨.inl h1,by rw[h3];rfl⟩))
    ·omega
   ·rcases(st 1 (by omega)).mp h2 with⟨_,h3⟩ | ⟨_,_,h3⟩
    ·exact .inl (.inl (.inr ⟨.inr h1,by rw[h3];rfl⟩))
    ·exact .inl (.inr ⟨h1,h3⟩)
   ·rcases(st 2 (by omega)).mp h2 with⟨_,h3⟩ | ⟨h3,_⟩
    ·exact .inr ⟨h1,by rw[h3];rfl⟩
    ·omega
theorem Zj4{d:aB}(R:bg d){h:Nat}(hh:((2*h+1:Nat):Int) < d.signs){T:List aP}(j:Nat):∀(k:Nat),k≤d.next.length→
  (hs ((List.range k).foldl (tT d h T) (List.replicate d.next.length .no)) j=true↔∃i,i < 3*k∧hs T i=true∧yt d i h j)
 | 0,_=>by simp[Vd]
 | k+1,hk=>by
  rw[List.range_succ,List.foldl_append,List.foldl_cons,List.foldl_nil,Zlq R hh (by rw[MQ];simp) (by omega),Zj4 R hh j k (by omega)];constructor
  ·rintro(⟨i,h1,h2,h3⟩ | ⟨ph,h1,h2,h3⟩)
   ·exact⟨i,by omega,h2,h3⟩
   ·exact⟨3*k+ph,by omega,h2,h3⟩
  ·rintro⟨i,h1,h2,h3⟩
   by_cases hik:i < 3*k
   ·exact .inl ⟨i,hik,h2,h3⟩
   ·exact .inr ⟨i - 3*k,by omega,by rw[show 3*k+(i - 3*k)=i by omega];exact h2,by rw[show 3*k+(i - 3*k)=i by omega];exact h3⟩
theorem I9{d:aB}(R:bg d){h:Nat}(hh:((2*h+1:Nat):Int) < d.signs)(T:List aP)(j:Nat):hs (kW d T h) j=true↔∃i,i < 3*d.next.length∧hs T i=true∧yt d i h j:=
 Zj4 R hh j d.next.length (Nat.le_refl _)
theorem ZnO{out x:List aP}(hl:x.length=out.length)(j:Nat):hs (zB out x) j=(hs out j || hs x j):=by
 unfold hs zB tY;simp only[List.getD_eq_getElem?_getD,List.getElem?_mapIdx];by_cases hj:j / 3 < out.length
 ·have hx:j / 3 < x.length:=by omega
  simp only[List.getElem?_eq_getElem hj,List.getElem?_eq_getElem hx,Option.map_some,Option.getD_some,if_pos hj];unfold aP.at Hq;split<;>(try split)<;>rfl
 ·have hx:¬j / 3 < x.length:=by omega
  simp only[List.getElem?_eq_none (Nat.le_of_not_lt hj),List.getElem?_eq_none (Nat.le_of_not_lt hx),Option.map_none,Option.getD_none];unfold aP.at aP.no;split<;>(try split)<;>rfl
theorem Zgv{d:aB}(R:bg d){T:List aP}(hT:T.length=d.next.length)(j:Nat):∀(k:Nat),k≤(d.signs / 2).toNat→(hs (vw d T k) j=true↔∃h:Nat,h < k∧∃i,i < 3*d.next.length∧hs T i=true∧yt d i h j)
 | 0,_=>by simp[vw,Vd]
 | k+1,hk=>by
  rw[Y7,ZnO (by rw[Fp,Sv,hT]),Bool.or_eq_true,Zgv R hT j k (by omega),I9 R (by have:=R.s1;omega)];constructor
  ·rintro(⟨h,h1,h2⟩ | h2)
   ·exact⟨h,by omega,h2⟩
   ·exact⟨k,by omega,h2⟩
  ·rintro⟨h,h1,h2⟩
   by_cases hhk:h < k
   ·exact .inl ⟨h,hhk,h2⟩
   ·obtain rfl:h=k:=by omega
    exact .inr h2
theorem ZG{d:aB}(R:bg d)(hev:d.signs % 2=0){i j:Nat}(hi:i < 3*d.next.length):(pg d).edge i j↔∃h:Nat,h < (d.signs / 2).toNat∧yt d i h j:=by
 constructor
 ·rintro⟨row,r1,r2⟩
  rw[F3 hi] at r1;cases r1;obtain⟨a,ha,he⟩:=List.mem_iff_getElem.mp r2;have hg:(jf d i)[a]? = some (j:Int):=by rw[List.getElem?_eq_getElem ha,he]
  have hp:=FQ R (s:=i / 3) (ph:=i % 3) (by omega) (by omega) a;rw[show 3*(i / 3)+i % 3=i by omega,hg] at hp;split at hp
  ·rename_i hs
   exact⟨a / 2,by have:=R.s1;omega,a,rfl,hg⟩
  ·cases hp
 ·rintro⟨h,_,hs⟩
  exact(FR R hi hs).2.1
theorem UL{d:aB}(R:bg d)(hev:d.signs % 2=0){T:List aP}(hT:T.length=d.next.length)(j:Nat):hs (wo d T) j=true↔∃i,i < 3*d.next.length∧hs T i=true∧(pg d).edge i j:=by
 have h:=Zgv R hT j (d.signs / 2).toNat (Nat.le_refl _);rw[show wo d T=vw d T (d.signs / 2).toNat from rfl,h];constructor
 ·rintro⟨h,h1,i,h2,h3,h4⟩
  exact⟨i,h2,h3,(ZG R hev h2).mpr ⟨h,h1,h4⟩⟩
 ·rintro⟨i,h2,h3,h4⟩
  obtain⟨h,h1,h5⟩:=(ZG R hev h2).mp h4;exact⟨h,h1,i,h2,h3,h5⟩
theorem TQ{d:aB}(T:List aP):uI d T=true↔∃i,i < 3*d.next.length∧hs T i=true∧(pg d).rY i=true:=by
 unfold uI;rw[List.any_eq_true];constructor
 ·rintro⟨i,h1,h2⟩
  simp only[List.mem_range] at h1;rw[Bool.and_eq_true] at h2;refine⟨3*i+2,by omega,by rw[(Vb T i).2.2];exact h2.1,?_⟩;rw[UM (by omega)];unfold qE;rw[show(3*i+2) % 3=2 by omega,show(3*i+2) / 3=i by omega,h2.2];rfl
 ·rintro⟨i,h1,h2,h3⟩
  rw[UM h1] at h3;unfold qE at h3;simp only[Bool.and_eq_true,decide_eq_true_eq] at h3;refine⟨i / 3,by simp;omega,?_⟩;have:=(Vb T (i / 3)).2.2;rw[show 3*(i / 3)+2=i by omega,h2] at this;rw[←this,h3.2];rfl
structure xZ(d:aB)(far:List Int)(T:List aP)(k:Nat):Prop where
 ex:∃i,i < 3*d.next.length∧hs T i=true∧rd far i=(k:Int)
 min:∀i,i < 3*d.next.length→hs T i=true→0≤rd far i→(k:Int)≤rd far i
def F8(d:aB)(far:List Int)(T:List aP):Prop:=∀i,i < 3*d.next.length→hs T i=true→rd far i < 0
theorem xZ.zero{d:aB}{far:List Int}(fo:lV (pg d) far){T:List aP}(h:xZ d far T 0):uI d T=true:=by
 obtain⟨i,h1,h2,h3⟩:=h.ex;exact(TQ T).mpr ⟨i,h1,h2,(fo.zero i (by rw[uM];exact h1)).mp h3⟩
theorem xZ.succ{d:aB}(R:bg d)(hev:d.signs % 2=0){far:List Int}(fo:lV (pg d) far){T:List aP}(hT:T.length=d.next.length){k:Nat}(h:xZ d far T (k+1)):uI d T=false∧xZ d far (wo d T) k:=by
 have hn:=uM d;refine⟨?_,?_,?_⟩
 ·cases e:uI d T with
  | false=>rfl
  | true=>
   obtain⟨i,h1,h2,h3⟩:=(TQ T).mp e;have h4:=(fo.zero i (by omega)).mpr h3;have:=h.min i h1 h2 (by omega);omega
 ·obtain⟨i,h1,h2,h3⟩:=h.ex
  obtain⟨t,t1,t2,t3⟩:=fo.pre i (by omega) (by omega);exact⟨t,by omega,(UL R hev hT t).mpr ⟨i,h1,h2,t2⟩,by omega⟩
 ·intro j h1 h2 h3
  obtain⟨i,g1,g2,g3⟩:=(UL R hev hT j).mp h2;obtain⟨s1,s2⟩:=fo.Hw i j (by omega) (by omega) g3 h3;have:=h.min i g1 g2 s1;omega
theorem F8.next{d:aB}(R:bg d)(hev:d.signs % 2=0){far:List Int}(fo:lV (pg d) far){T:List aP}(hT:T.length=d.next.length)(h:F8 d far T):uI d T=false∧F8 d far (wo d T):=by
 have hn:=uM d;refine⟨?_,?_⟩
 ·cases e:uI d T with
  | false=>rfl
  | true=>
   obtain⟨i,h1,h2,h3⟩:=(TQ T).mp e;have h4:=(fo.zero i (by omega)).mpr h3;have:=h i h1 h2;omega
 ·intro j h1 h2
  obtain⟨i,g1,g2,g3⟩:=(UL R hev hT j).mp h2;have hi:=h i g1 g2;by_cases hc:0≤rd far j
  ·have:=(fo.Hw i j (by omega) (by omega) g3 hc).1;omega
  ·omega
theorem ZgC{d:aB}(R:bg d)(hev:d.signs % 2=0){far:List Int}(fo:lV (pg d) far):∀(fuel k n:Nat) (T:List aP),T.length=d.next.length→xZ d far T k→k < fuel→zm d fuel n T=((n+k:Nat):Int)
 | 0,_,_,_,_,_,h=>by omega
 | f+1,0,n,T,hT,hm,_=>by rw[zm,if_pos (hm.zero fo)];rfl
 | f+1,k+1,n,T,hT,hm,hk=>by
  obtain⟨h1,h2⟩:=hm.succ R hev fo hT;rw[zm,h1];simp only[Bool.false_eq_true,if_false];rw[ZgC R hev fo f k (n+1) _ (by rw[Tm,hT]) h2 (by omega)];congr 1;omega
theorem SA{d:aB}(R:bg d)(hev:d.signs % 2=0){far:List Int}(fo:lV (pg d) far):∀(fuel n:Nat) (T:List aP),T.length=d.next.length→F8 d far T→zm d fuel n T = -1
 | 0,_,_,_,_=>rfl
 | f+1,n,T,hT,hm=>by
  obtain⟨h1,h2⟩:=hm.next R hev fo hT
  rw[zm,h1];simp only[Bool.false_eq_true,if_false];exact SA R hev fo f (n+1) _ (by rw[Tm,hT]) h2
theorem ZmD{d:aB}(far:List Int)(T:List aP):F8 d far T∨∃k,xZ d far T k:=by
 by_cases h:∃k:Nat,∃i,i < 3*d.next.length∧hs T i=true∧rd far i=(k:Int)
 ·obtain⟨k,h1,h2⟩:=ZM h
  refine .inr ⟨k,h1,fun i g1 g2 g3=>?_⟩;by_cases hc:(k:Int)≤rd far i
  ·exact hc
  ·exact(h2 (rd far i).toNat (by omega) ⟨i,g1,g2,by omega⟩).elim
 ·refine .inl fun i g1 g2=>?_
  by_cases hc:rd far i < 0
  ·exact hc
  ·exact(h ⟨(rd far i).toNat,i,g1,g2,by omega⟩).elim
theorem TU{d:aB}(R:bg d)(hev:d.signs % 2=0){far:List Int}(fo:lV (pg d) far){T:List aP}(hT:T.length=d.next.length)(k:Nat):vD d T=(k:Int)↔xZ d far T k:=by
 have hmin:∀k,xZ d far T k→vD d T=(k:Int):=by
  intro k hm;obtain⟨i,h1,_,h3⟩:=hm.ex;have:=fo.lt i (by rw[uM];exact h1);rw[uM] at this;unfold vD;rw[ZgC R hev fo _ k 0 T hT hm (by omega)];congr 1;omega
 constructor
 ·intro h
  rcases ZmD far T with hn | ⟨k',hk⟩
  ·have:vD d T = -1:=SA R hev fo _ 0 T hT hn
   omega
  ·have:=hmin k' hk
   have e:k'=k:=by omega
   rw[←e];exact hk
 ·exact hmin k
theorem Zlv{d:aB}(R:bg d)(hev:d.signs % 2=0){far:List Int}(fo:lV (pg d) far){T:List aP}(hT:T.length=d.next.length):(vD d T = -1∧F8 d far T)∨∃k,vD d T=((k:Nat):Int)∧xZ d far T k:=by
 rcases ZmD far T with hn | ⟨k,hk⟩
 ·exact .inl ⟨SA R hev fo _ 0 T hT hn,hn⟩
 ·exact .inr ⟨k,(TU R hev fo hT k).mpr hk,hk⟩
structure Dr(d:aB)(far:List Int)(T:List aP)(at_:List Int)(k:Nat):Prop where
 ok:wW d far at_ k
 min:xZ d far T k
 mem:∀i:Nat,i < 3*d.next.length→((i:Int)∈at_↔hs T i=true∧rd far i=(k:Int))
theorem Dr.half{d:aB}(R:bg d)(hev:d.signs % 2=0){far:List Int}(fo:lV (pg d) far){T:List aP}(hT:T.length=d.next.length){at_:List Int}{k:Nat}(K:Dr d far T at_ (k+1)){h:Nat}(hh:((2*h+1:Nat):Int) < d.signs) :
  vD d (kW d T h)=(k:Int)↔jE d far at_ h k≠[]:=by
 have hn:=uM d;rw[TU R hev fo (Fp d T h)];constructor
 ·intro hm e
  obtain⟨j,h1,h2,h3⟩:=hm.ex;obtain⟨i,g1,g2,g3⟩:=(I9 R hh T j).mp h2;obtain⟨s1,s2,_⟩:=FR R g1 g3;obtain⟨u1,u2⟩:=fo.Hw i j (by omega) (by omega) s2 (by omega);have:=K.min.min i g1 g2 u1;have hia:(i:Int)∈at_:=(K.mem i g1).mpr ⟨g2,by omega⟩
  have:(j:Int)∈jE d far at_ h k:=(FV (K.ok.low R)).mpr ⟨j,rfl,h3,i,hia,by simpa using g3⟩
  rw[e] at this;simp at this
 ·intro hne
  obtain⟨x,hx⟩:=List.exists_mem_of_ne_nil _ hne;obtain⟨j,rfl,h3,i,hia,h4⟩:=(FV (K.ok.low R)).mp hx;obtain⟨r1,r2⟩:=K.ok.rng i hia;have hit:((i.toNat:Nat):Int)=i:=by omega
  have hi3:i.toNat < 3*d.next.length:=by omega
  obtain⟨m1,m2⟩:=(K.mem i.toNat hi3).mp (by rw[hit];exact hia);obtain⟨s1,s2,_⟩:=FR R hi3 h4;refine⟨⟨j,s1,(I9 R hh T j).mpr ⟨i.toNat,hi3,m1,h4⟩,h3⟩,fun j' g1 g2 g3=>?_⟩;obtain⟨i',g4,g5,g6⟩:=(I9 R hh T j').mp g2;obtain⟨t1,t2,_⟩:=FR R g4 g6;obtain⟨u1,u2⟩:=fo.Hw i' j' (by omega) (by omega) t2 g3;have:=K.min.min i' g4 g5 u1;omega
theorem Dr.next{d:aB}(R:bg d)(hev:d.signs % 2=0){far:List Int}(fo:lV (pg d) far){T:List aP}(hT:T.length=d.next.length){at_:List Int}{k:Nat}(K:Dr d far T at_ (k+1)){h:Nat}(hh:((2*h+1:Nat):Int) < d.signs)
  (hne:jE d far at_ h k≠[]):Dr d far (kW d T h) (vO d far at_ h k) k:=by
 have hn:=uM d;refine⟨K.ok.next R hne,(TU R hev fo (Fp d T h) k).mp ((K.half R hev fo hT hh).mpr hne),fun j hj=>?_⟩;rw[Ms,FV (K.ok.low R),I9 R hh];constructor
 ·rintro⟨j',e,h3,i,hia,h4⟩
  obtain rfl:j=j':=by omega
  obtain⟨r1,r2⟩:=K.ok.rng i hia;have hit:((i.toNat:Nat):Int)=i:=by omega
  obtain⟨m1,m2⟩:=(K.mem i.toNat (by omega)).mp (by rw[hit];exact hia);exact⟨⟨i.toNat,by omega,m1,h4⟩,h3⟩
 ·rintro⟨⟨i,g1,g2,g3⟩,h3⟩
  obtain⟨s1,s2,_⟩:=FR R g1 g3;obtain⟨u1,u2⟩:=fo.Hw i j (by omega) (by omega) s2 (by omega);have:=K.min.min i g1 g2 u1;exact⟨j,rfl,h3,(i:Int),(K.mem i g1).mpr ⟨g2,by omega⟩,by simpa using g3⟩
theorem kI.cl{P:Program}{f:FuncId}{args:List AV}{r:AV}{S:St}(h:aM P f args r)(hc:∀x∈args,aV x)(hr:aV r):kI P f args S [] r:=
 ⟨args,h,rfl,fun j h1 _=>.closed _ (hc _ (List.getElem_mem h1)),.inr (.inl ⟨rfl,hr⟩)⟩
theorem Zly{d:aB}(R:bg d):(jK d).length≤9000:=by
 unfold jK;split
 ·rw[IY]
  have fo:=Ju (pg d);have:=fo.lt 0 (by have:=uM d;have:=R.n1;omega);have h2:=uM d;have h3:=R.n2;have:rd (yB d) 0 < (pg d).n:=this;omega
 ·simp
end Go.Rf
namespace Go.Rf
open Go.RowKit
attribute [local simp] jv jk jX jO jG jY jP jI kF jW jN bZ gL eu fq gH d9 fI gI gy eT gD eB fO gG fM dG dJ dZ eX iq iw fG iy fC fB fu dD gT gU gV fJ fK iC gJ fU gZ gW gY gX ig iD fZ iA fP fQ gM iB dh dF fD gu iE ex aj fA cO dO bJ bO aD bE dX eU dn gP gQ gN gK fV bI cZ dw eD eF fF dN bY bM dz bX dP dA dH eO eG eH dY bW dQ cK cB aY AV.solid S0 ak aG
def Rz(P5d VT:FuncId):AC:= (sq [ro 4 (.mv (ci 0))] (.seq (.kL [rm 8 1,rk 9 P5d [(.t 8)],rm 5 9] none) (sq [rm 11 0,ro 12 (.fH (.t 11)),rF 13 5 12,rL 14 13,rm 15 5,ro 16 (.look .str (.v (.int .i64 0)) true (.t 14) (.t 15)),rm 10 16,ro 17 (.ext 0 (.t 10)),ro 18 (.ext 1 (.t 10)),rm 6 17,rm 7 18] (.seq (sq [rm 19 7,ro 20 (.un .not (.t 19))] (.cond (.t 20) (.seq (sq [rm 21 0,ro 22 (.fH (.t 21)),rF 23 6 22,rL 24 23,ro 25 (.len (.t 24)),rm 6 25] (sq [rm 26 6,rm 27 0,ro 28 (.fH (.t 27)),rF 29 4 28,rL 30 29,ro 31 (.bin .eql (.t 26) (.t 30))] (.cond (.t 31) (.kL [ro 32 (.build (.agg []) [] []),ro 33 (.KL VT (.t 32))] (some (.t 33))) .skip))) (sq [rm 34 0,ro 35 (.fH (.t 34)),rF 36 5 35,rL 37 36,rm 38 5,rm 39 6,rn (.zI .str (.t 37) (.t 38) (.t 39))] (.reg none [rm 40 0,rm 41 0,ro 42 (.fH (.t 41)),rF 43 6 42,rL 44 43,rm 45 1,ro 46 (.bS 1 1 (.sl true []) [(0,(.t 45))]),ro 47 (.app 1 24 (.t 44) (.t 46)),ro 48 (.fH (.t 40)),rF 49 6 48,rn (.store 1 (.t 49) (.t 47))]))) .skip)) (sq [rm 50 6,rm 4 50] .ret)))))
structure uS(S:St)(id km:Nat)(n:Net)(most:Int)(ss:List (List Int))(v:AV):Prop where
 g:S.g id=some (.arr 7 [.agg [ak n.signs,aN n.aC,aN n.follow,au n.last,ak most,.mp km,v]])
 m:S.g km=some (.map (rR 0 ss))
 vec:Vec S.g v 1 (ss.map au)
 ne:id≠km
 hv:∀i∈v.ids,i≠id∧i≠km
 lid:id < S.n
 tF:km < S.n
 lv:∀i∈v.ids,i < S.n
structure Qf(S S':St)(R:List Nat):Prop where
 n:S.n≤S'.n
 g:∀i,i < S.n→i∉R→S'.g i=S.g i
section
variable{g:Nat→Option aF}{km m aA:Nat}{ss:List (List Int)}{x:List Int}
theorem TW(hg:g km=some (.map (rR 0 ss)))(hx:sN x)(hs:∀s∈ss,sN s) :
  (zk .str (.v (.int .i64 0)) true (.mp km) (qh (ji x))).run ⟨m,g⟩ aA=some (.aL [ak (if x∈ss then (ss.idxOf x:Int) else 0),.v (.bool (decide (x∈ss)))],⟨m,g⟩):=by
 have hk:=Tg x ss 0;simp only[zk,Eff.yU,hg,Option.bind_some,if_pos hk,ZI hx ss 0 hs];by_cases h:x∈ss
 ·simp[h,ak]
 ·simp[h,ak]
theorem ZlA(hg:g km=some (.map (rR 0 ss)))(hx:sN x)(hs:∀s∈ss,sN s)(hn:x∉ss) :
  (Ag .str (.mp km) (qh (ji x)) (.v (.int .i64 ss.length))).run ⟨m,g⟩ aA=some (.junk,(St.mk m g).set km (some (.map (rR 0 (ss++[x]))))):=by
 have hk:=Tg x ss 0;have h:=Zh0 hx ss 0 hs hn;rw[Nat.zero_add] at h;have h':lJ (qh (ji x)) (.v (.int .i64 ss.length)) (rR 0 ss)=rR 0 (ss++[x]):=h;simp only[Ag,Eff.EU,hg,Option.bind_some,if_pos hk,h',Option.map_some]
end
theorem ZfH{P:Program}{ft fT:FuncId}{id km:Nat}{n:Net}{most:Int}{ss:List (List Int)}{v:AV}{set:List Int}{S:St}(M:uS S id km n most ss v)(ht:aM P ft [au set] (qh (ji set)))
  (hx:sN set) (hs:∀s∈ss,sN s) (hlen:(ss.length:Int)≤most) (aby:most≤3000) {K:AV→St→Prop} {X:Value→St→Prop}
  (hK1:set∈ss→∀m,S.n≤m→K (ak (ss.idxOf set)) ⟨m,S.g⟩)
  (hK2:set∉ss→(ss.length:Int) < most→∀S' v',uS S' id km n most (ss++[set]) v'→Qf S S' (id::km::v.ids)→(∀i∈v'.ids,S.n≤i)→K (ak ss.length) S')
  (hX:set∉ss→(ss.length:Int)=most→∀m,S.n≤m→X (.iface fT (.agg #[])) ⟨m,S.g⟩) :
  AW P (Rz ft fT) (zx [.t 4] K X) (bC [.ptr id 0 0,au set]) S:=by
 have hg:=M.g;have hm:=M.m;unfold Rz;simp[za,su,sj,zT,zP];refine lH.Ew (aQ.pure ht (aR (bD _) bB) (.v _) ?_);by_cases hin:set∈ss
 ·simp[xR,su,sj,wO,Tk,hg,TW hm hx hs,Eff.yU,Eff.oP,jR,hin,iI,iJ,RV.ev,iO]
  exact hK1 hin _ (by omega)
 ·have hlv:=M.vec.len
  rw[List.length_map] at hlv;simp only[dA] at hlv;by_cases hfull:(ss.length:Int)=most
  ·have hbe:((ss.length:Int) == most)=true:=by simpa using hfull
   simp[za,xR,ZmY,ZnC,su,sj,wO,Bt,Zi3,Og,F4,uF,hg,TW hm hx hs,Eff.yU,Eff.oP,jR,hin,hlv,hbe,jH,jh];exact hX hin hfull _ (by omega)
  ·have hbe:((ss.length:Int) == most)=false:=by simpa using hfull
   have hne:=M.ne;have hce:(au set).cells=[au set]:=rfl;have hso:(au set).solid=true:=rfl;simp only[AV.solid] at hso;have hat:(au set).atom=true:=rfl;simp[xR,su,sj,wO,hg,TW hm hx hs,Eff.yU,Eff.oP,jR,hin,hlv,hbe,ZlA hm hx hs hin,hne,hce,hso]
   have hvf:∀k:Nat,Vec (St.set ⟨k,S.g⟩ km (some (.map (rR 0 (ss++[set]))))).g v 1 (ss.map au):=fun k=>M.vec.frame fun i hi=>by
    rw[aD,if_neg (M.hv i hi).2]
   rw[Vec.app (hvf _) (by intro z hz;obtain⟨s,_,rfl⟩:=List.mem_map.mp hz;rfl) rfl (by rw[List.length_map];unfold eY;omega)];have hid:id∉v.ids:=fun h=>(M.hv id h).1 rfl
   have hkm:km∉v.ids:=fun h=>(M.hv km h).2 rfl
   generalize hq:S.n+1+3+11+2+6+6+7=q;have Wj:id≠q+7:=by have:=M.lid;omega
   simp[Tk,hg,Eff.EU,Eff.oP,jR,iI,iJ,RV.ev,iO,hne,kC id hid,pY,Wj];have hkq:km≠q+7:=by have:=M.tF;omega
   have hnk:km≠id:=fun e=>hne e.symm
   refine hK2 hin (by omega) _ (.own (q+7) 0 (ss.length+1)) ⟨?_,?_,?_,M.ne,?_,?_,?_,?_⟩ ⟨?_,?_⟩ ?_
   ·simp[aD,ak]
   ·simp[aD,hnk,hkq,kC km hkm]
   ·refine Vec.mk' (xs:=(ss++[set]).map au) ?_ (by simp)
    have:q+7≠id:=fun e=>Wj e.symm
    simp[aD,this]
   ·intro i hi
    simp only[AV.ids,List.mem_cons,List.not_mem_nil,or_false] at hi;subst hi;exact⟨fun e=>Wj e.symm,fun e=>hkq e.symm⟩
   ·show id < q+11+2
    have:=M.lid;omega
   ·show km < q+11+2
    have:=M.tF;omega
   ·intro i hi
    simp only[AV.ids,List.mem_cons,List.not_mem_nil,or_false] at hi;subst hi;show q+7 < q+11+2
    omega
   ·show S.n≤q+11+2
    omega
   ·intro i hi hR
    simp only[List.mem_cons,not_or] at hR;have:i≠q+7:=by omega
    simp[aD,hR.1,hR.2.1,this,kC i hR.2.2]
   ·intro i hi
    simp only[AV.ids,List.mem_cons,List.not_mem_nil,or_false] at hi;omega
def Uk(Cu:FuncId):AC:= (.block 2 (.loop (sq [ro 28 (.bin .lss (.t 27) (.t 26))] (.seq (.cond (.t 28) .skip (.exit 2)) (.seq (.block 3 (sq [ro 29 (.aI 1 (.t 25) (.t 27)),rL 30 29,rm 11 30] (sq [rm 31 0,ro 32 (.fH (.t 31)),rF 33 0 32,rF 34 1 33,rL 35 34,rm 36 11,ro 37 (.aI 1 (.t 35) (.t 36)),rL 38 37,rm 39 2,rk 40 Cu [(.t 38),(.t 39)]] (.cond (.t 40) (.reg none [rm 41 7,rm 42 11,ro 43 (.bS 1 1 (.v (.int .i64 0)) [(0,(.t 42))]),ro 44 (.app 1 8 (.t 41) (.t 43)),rm 7 44]) .skip)))) (.reg none [ro 45 (.bin .add (.t 27) (ci 1)),rm 27 45]))))))
def ZX(Cu:FuncId):AC:= (.block 0 (.loop (sq [ro 15 (.bin .lss (.t 14) (.t 13))] (.seq (.cond (.t 15) .skip (.exit 0)) (.seq (.block 1 (sq [ro 16 (.aI 1 (.t 12) (.t 14)),rL 17 16,rm 9 17] (sq [rm 18 0,ro 19 (.fH (.t 18)),rF 20 0 19,rF 21 2 20,rL 22 21,rm 23 9,ro 24 (.aI 1 (.t 22) (.t 23)),rL 25 24,ro 26 (.len (.t 25)),ro 27 (.mv (ci 0))] (Uk Cu)))) (.reg none [ro 46 (.bin .add (.t 14) (ci 1)),rm 14 46]))))))
def RA(Cu xH xG:FuncId):AC:= (sq [ro 6 (.mv (.c (.sl true [])))] (sq [ro 7 (.mv (.c (.sl true [])))] (.seq (sq [rm 12 1,ro 13 (.len (.t 12)),ro 14 (.mv (ci 0))] (ZX Cu)) (sq [rm 47 7,rk 48 xH [(.t 47)]] (sq [rm 49 7,rk 50 xG [(.t 49)],rm 6 50] .ret)))))
def Rw(P3G Ic:FuncId):AC:= (sq [ro 2 (.box 1 (.t 0)),ro 4 (.mv (.c (.v (.bool false))))] (sq [rm 5 1,ro 6 (.yP P3G [] [(.t 2)]),rk 7 Ic [(.t 5),(.t 6)],rm 4 7] .ret))
def Ry(Cu:FuncId):AC:= (sq [ro 3 (.mv (.c (.v (.bool false))))] (sq [rL 4 1,ro 5 (.fH (.t 4)),rF 6 0 5,rF 7 3 6,rL 8 7,rm 9 0,rk 10 Cu [(.t 8),(.t 9)],rm 3 10] .ret))
def lI(n:Net):AV:=.bF (iV n) 0
structure A8(n:Net)(at_:List Int)(sign:Int)(i:Nat)(cur:List Int)(f:AF)(S:St):Prop where
 e12:f 12=au at_
 e13:f 13=ak at_.length
 e14:f 14=ak i
 e2:f 2=ak sign
 e0:f 0=lI n
 vec:Vec S.g (f 7) 1 (cur.map ak)
 nil:cur=[]→f 7=.sl true []
theorem A8.same{n:Net}{at_:List Int}{sign:Int}{i:Nat}{cur:List Int}{f f':AF}{S S':St}(h:A8 n at_ sign i cur f S)(hf:∀j,j=12∨j=13∨j=14∨j=2∨j=0∨j=7→f' j=f j)(hg:S'.g=S.g):A8 n at_ sign i cur f' S':=
 ⟨by rw[hf _ (by simp)];exact h.e12,by rw[hf _ (by simp)];exact h.e13,by rw[hf _ (by simp)];exact h.e14,by rw[hf _ (by simp)];exact h.e2,by rw[hf _ (by simp)];exact h.e0,by rw[hg,hf _ (by simp)];exact h.vec,fun e=>by rw[hf _ (by simp)];exact h.nil e⟩
theorem Zre{P:Program}{fc:FuncId}{n:Net}(R:pI n)(hc:∀l∈n.aC,∀x,aM P fc [au l,ak x] (aG (l.contains x))){at_:List Int}{sign:Int}{i p:Nat}{cur:List Int}(hp:p < n.follow.length)(hcur:cur.length≤100000000){f:AF}{S:St}{Q:Exit→AF→St→Prop}
  (h:A8 n at_ sign i cur f S) (e25:f 25=au n.follow[p]) (e26:f 26=ak (n.follow[p]).length) (e27:f 27=ak 0)
  (hk:∀f' S',A8 n at_ sign i (cur++(n.follow[p]).filter (wu n sign)) f' S'→Q .normal f' S'):AW P (Uk fc) Q f S:=by
 have hlen:=YQ R hp;simp[Uk];refine z8 (n.follow[p]).length (fun k f S=>A8 n at_ sign i (cur++((n.follow[p]).take k).filter (wu n sign)) f S∧f 25=au n.follow[p]∧f 26=ak (n.follow[p]).length∧f 27=ak k) ?_ ?_
 ·exact⟨by simpa using h,e25,e26,e27⟩
 ·rintro k f S hk' ⟨h,e25,e26,e27⟩
  generalize hrow:n.follow[p]=row at *;have e2:=h.e2;have e0:=h.e0;simp only[lI,iV,aN] at e0;by_cases hlt:k < row.length
  ·have hat:1≤row[k]∧row[k] < n.aC.length:=by subst hrow;exact ZiR R hp hlt
   have hge:(0:Int)≤row[k]:=by omega
   have hbl:(row[k]).toNat < n.aC.length:=by omega
   have hby:n.aC[(row[k]).toNat]? = some n.aC[(row[k]).toNat]:=List.getElem?_eq_getElem hbl;have hbs:wu n sign row[k]=(n.aC[(row[k]).toNat]).contains sign:=by simp[wu,List.getD_eq_getElem?_getD,hby]
   have kc:=hc _ (List.getElem_mem hbl) sign;have cc:=aR (bD n.aC[(row[k]).toNat]) (aR (aX sign) bB);simp only[au,ak] at kc cc;have htk:row.take (k+1)=row.take k++[row[k]]:=by rw[List.take_add_one,List.getElem?_eq_getElem hlt];rfl
   have hcl:(cur++(row.take k).filter (wu n sign)).length≤200000000:=by
    have:=List.length_filter_le (wu n sign) (row.take k);have:(row.take k).length≤k:=by rw[List.length_take];omega
    rw[List.length_append];omega
   simp[e25,e26,e27,e2,e0,hlt,au,hge,hby,jR];refine aQ.pure kc cc (cu _) ?_;rw[←hbs];cases hb:wu n sign row[k] with
   | false=>
    simp[e27];rw[aZ _ (by omega)];refine⟨hlt,?_,?_,?_,?_⟩
    ·rw[htk,List.filter_append]
     simp only[List.filter_cons,hb,List.filter_nil,Bool.false_eq_true,if_false,List.append_nil];refine h.same (fun j hj=>?_) rfl;rcases hj with rfl | rfl | rfl | rfl | rfl | rfl<;>simp[aj]
    ·simp[aj,e25,au]
    ·simp[aj,e26,ak]
    ·simp[aj]
   | true=>
    simp;rw[Vec.app (xs:=(cur++(row.take k).filter (wu n sign)).map ak) (h.vec.frame (fun i hi=>rfl)) (xS _) (by simp[AV.cells]) (Ac (by rw[List.length_map];omega))];simp[e27,pY];rw[aZ _ (by omega)];refine⟨hlt,⟨?_,?_,?_,?_,?_,?_,?_⟩,?_,?_,?_⟩
    ·simp[aj,h.e12]
    ·simp[aj,h.e13]
    ·simp[aj,h.e14]
    ·simp[aj,h.e2,ak]
    ·simp[aj,h.e0]
    ·rw[htk,List.filter_append]
     simp only[List.filter_cons,hb,List.filter_nil,if_true];have hl1:(cur++((row.take k).filter (wu n sign)++[row[k]])).map ak=(cur++(row.take k).filter (wu n sign)).map ak++[ak row[k]]:=by simp
     rw[hl1];simp only[aj,if_true];exact .mk' (by simp[aD,ak]) (by simp[Nat.add_assoc])
    ·intro e
     rw[htk,List.filter_append] at e;simp[hb] at e
    ·simp[aj,e25,au]
    ·simp[aj,e26,ak]
    ·simp[aj]
  ·have:row.take k=row:=List.take_of_length_le (by omega)
   rw[this] at h;simp[e26,e27,hlt];refine hk _ _ (h.same (fun j hj=>?_) rfl);rcases hj with rfl | rfl | rfl | rfl | rfl | rfl<;>simp[aj]
structure Zp1(P:Program)(fc fs fm:FuncId):Prop where
 cont:∀(l:List Int) x,Len l→aM P fc [au l,ak x] (aG (l.contains x))
 sort:Ak P fs
 comp:Aj P fm
 CQ:aM P fs [.sl true []] (.aL [])
 CP:aM P fm [.sl true []] (.sl true [])
theorem Zdl{P:Program}{fc fs fm:FuncId}{n:Net}(R:pI n)(H:Zp1 P fc fs fm)(at_:List Int)(hat:at_.length≤3000)(hv:∀s∈at_,0≤s∧s < n.follow.length)(sign:Int) :
  AW P (RA fc fs fm) (bR [6] fun r S=>jo S.g r (au (sH n at_ sign))) (bC [lI n,au at_,ak sign]) S0:=by
 have hfl:n.follow.length≤301:=by have:=R.len;have:=R.n2;omega
 have hbl:=R4 R sign at_
 have hcont:∀l∈n.aC,∀x,aM P fc [au l,ak x] (aG (l.contains x)):=by
  intro l hl x;refine H.cont l x ?_;obtain⟨j,hj,rfl⟩:=List.mem_iff_getElem.mp hl;have:=Np (R.aC j hj).1 (R.aC j hj).2;have:=R.s2;unfold Len;omega
 simp[RA,ZX,au,lI,iV,aN];refine z8 at_.length (fun i f S=>A8 n at_ sign i (nP n (at_.take i) sign) f S) ?_ ?_
 ·refine⟨?_,?_,?_,?_,?_,?_,fun _=>?_⟩
  ·simp[aj,au]
  ·simp[aj,ak]
  ·simp[aj,ak]
  ·simp[aj,bJ,bO,ak]
  ·simp[aj,bJ,lI,iV,ak,aN,au]
  ·simp[aj,nP];exact .nil
  ·simp[aj]
 ·rintro i f S hi h
  have e12:=h.e12;have e13:=h.e13;have e14:=h.e14;have e0:=h.e0;simp only[lI,iV,aN] at e0;by_cases hlt:i < at_.length
  ·have htk:=Ze2 (n:=n) (sign:=sign) hlt
   have hcur:(nP n (at_.take i) sign).length≤100000000:=by
    have:=R4 R sign (at_.take i);have:(at_.take i).length≤at_.length:=by rw[List.length_take];omega
    omega
   have yO:=hv _ (List.getElem_mem hlt);have hp:(at_[i]).toNat < n.follow.length:=by omega
   have hge:(0:Int)≤at_[i]:=by omega
   have hgf:n.follow[(at_[i]).toNat]? = some n.follow[(at_[i]).toNat]:=List.getElem?_eq_getElem hp
   have hb1:Bv n sign at_[i]=(n.follow[(at_[i]).toNat]).filter (wu n sign):=by
    unfold Bv;rw[if_pos (by omega),List.getD_eq_getElem?_getD,hgf];rfl
   simp[e12,e13,e14,e0,hlt,au,hge,hgf,jR];refine Zre R hcont hp hcur (h.same (fun j hj=>?_) rfl) ?_ ?_ ?_ (fun f' S' h'=>?_)
   ·rcases hj with rfl | rfl | rfl | rfl | rfl | rfl<;>simp[aj]
   ·simp[aj,au]
   ·simp[aj,ak]
   ·simp[aj,ak]
   ·have aaw:=h'.e14
    simp[aaw];rw[aZ _ (by omega)];refine⟨hlt,?_⟩;show A8 n at_ sign (i+1) (nP n (at_.take (i+1)) sign) _ _
    rw[htk,hb1];refine⟨?_,?_,?_,?_,?_,?_,fun e=>?_⟩
    ·simp[aj,h'.e12]
    ·simp[aj,h'.e13]
    ·simp[aj,ak]
    ·simp[aj,h'.e2]
    ·simp[aj,h'.e0]
    ·rw[aj,if_neg (by decide),aj,if_neg (by decide)];exact h'.vec
    ·rw[aj,if_neg (by decide),aj,if_neg (by decide)];exact h'.nil e
  ·have htk:at_.take i=at_:=List.take_of_length_le (by omega)
   rw[htk] at h;rcases h.vec with⟨hv7,hl0⟩ | ⟨id,off,ys,hv7,hg7,ho,hd⟩
   ·have hb0:nP n at_ sign=[]:=by simpa using hl0
    have hs0:sH n at_ sign=[]:=by
     unfold sH;rw[hb0];exact List.eq_nil_of_length_eq_zero (by have:=TF [];simpa using this)
    simp[e13,e14,hlt,hv7];refine aQ.pure H.CQ (aR (.sl _ _ (by simp)) bB) (.aL _ (by simp)) ?_;simp[hv7];refine aQ.pure H.CP (aR (.sl _ _ (by simp)) bB) (.sl _ _ (by simp)) ?_;simp[hs0];exact .nil true false (by simp)
   ·have hb0:nP n at_ sign≠[]:=by
     intro e;have:=h.nil e;rw[this] at hv7;cases hv7
    have hm:((nP n at_ sign).mergeSort fun x y=>decide (x≤y)).length=(nP n at_ sign).length:=List.length_mergeSort _
    have hne2:((nP n at_ sign).mergeSort fun x y=>decide (x≤y))≠[]:=by
     intro e;rw[e] at hm;exact hb0 (List.eq_nil_of_length_eq_zero hm.symm)
    rw[List.length_map] at hv7;simp[e13,e14,hlt,hv7];refine H.sort _ _ off ys (nP n at_ sign) _ hg7 hd hb0 (by omega) ?_;simp[hv7];rw[←hm];have hto:(ys.take off).length=off:=by rw[List.length_take];omega
    refine H.comp _ _ off (ys.take off++((nP n at_ sign).mergeSort fun x y=>decide (x≤y)).map ak) _ _ (by simp[aD]) (by rw[List.drop_left' hto]) hne2 (by omega) ?_;simp;refine Vec.GR (es:=1) (.inr ⟨id,off,ys.take off++(jm (nP n at_ sign)).map ak,?_,?_,?_,?_⟩)
    ·simp[sH,jm]
    ·rw[List.take_left' hto];simp[aD,jm]
    ·simp[hto]
    ·rw[List.drop_left' hto];rfl
def qg(n:Net)(set:List Int):Bool:=set.any fun s=>n.last.contains s
theorem Zbt{P:Program}{fc:FuncId}(n:Net)(s:Int)(hc:aM P fc [au n.last,ak s] (aG (n.last.contains s))):AW P (Ry fc) (bR [3] (dx (aG (n.last.contains s)))) (bC [ak s,.bF (lI n) 0]) S0:=by
 simp[Ry,lI,iV,jR];refine aQ.pure hc (aR (bD _) (aR (aX _) bB)) (cu _) ?_;simp;exact iF _ _
theorem YO(n:Net):aV (lI n):=.bF _ _ (CX n)
theorem Zdk{P:Program}{f1 fcf:FuncId}(n:Net)(set:List Int)(hcf:aM P fcf [au set,.aO f1 [] [.bF (lI n) 0]] (aG (qg n set))) :
  AW P (Rw f1 fcf) (bR [4] (dx (aG (qg n set)))) (bC [lI n,au set]) S0:=by
 have h1:(lI n).solid=true:=rfl;have h2:(lI n).cells=[lI n]:=rfl;simp only[AV.solid] at h1;simp[Rw,h1,h2];refine aQ.looks hcf (iN.cons (.closed _ (bD _)) (iN.cons (.Q6 (iN.cons (.box _ _ 1 (lI n) _ ?_ (.closed _ (YO n))) iN.nil)) iN.nil)) (FW _) ?_
 ·simp[aD]
 ·simp
  exact iF _ _
mutual
def ZrL:iT→Prop
 | .mk k s g ks=>g.length≤17592186043904∧ks.length≤100000∧Gi ks
def Gi:List iT→Prop
 | []=>True
 | p::ps=>ZrL p∧Gi ps
end
theorem Gi.mem:∀{ks:List iT},Gi ks→∀q∈ks,ZrL q
 | [],_,q,h=>by simp at h
 | p::ps,h,q,hq=>by
  simp only[Gi] at h;rcases List.mem_cons.mp hq with rfl | hq
  ·exact h.1
  ·exact Gi.mem h.2 q hq
end Go.Rf
