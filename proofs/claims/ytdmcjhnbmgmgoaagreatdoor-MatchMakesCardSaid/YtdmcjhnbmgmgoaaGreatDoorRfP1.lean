import Derived.Test.YtdmcjhnbmgmgoaaGreatDoorRfF1
import Derived.Lib.ItoaLen
set_option linter.unusedVariables false
set_option linter.unusedSimpArgs false
set_option linter.unusedSectionVars false
namespace Go.Rf
open Go.RowKit
attribute [local simp] Z4t Z4q Z3h Z2s Z3f Z3j Z3g Z4r Z4s Z3i Z3n Z1A Z1y Z2q Z1H Z41 Z3v ZcH Z7E Z7D Z5R ZcG Z7C Z5P Z4v Z3k Z4u Z7x Z7w Z5J Z4x Z3l Z4w Z7z Z7y Z5K Z1z Z2v Z3o Z3p Z1D Z1o Z0c Z0B Z0q Z08 Z0o Z0h Z09 Z0p Z0i Z0Y Z0j Z0z Z0K Z0k Z0J Z1W Z3U Z0X Z25 Z22 Z24 Z23 Z26 Z1j Z0D Z11 Z12 Z1T Z1U Z1V Z0H Z0I Z1i Z0r Z0W Z20 Z1X Z1Z Z1Y Z21 Z1k Z13 Z1g Z0U Z0V Z0C Z1h Z0P Z1a Z1f Z14 Z1l ex Z00 Z0R Z6K Z6P Z0f Z0g Z0A Z2k Z1d Z10 Z0y Z0F Z0G Z0E Z0s Z0Z Z5y Z0O Z37 Z1c Z1O Z1R Z3s Z0b Z1E Z28 Z19 Z0Q Z2w Z27 Z3u Z2x Z1P Z6A Z3C Z6z Z3w Z2Y Z3t Z6w Z3D Z51 Z4A Z3z Z2B Z2C Z29 Z2z Z2A Z3y Z1M Z2y Z3x Z3A S0 Z06 Z1n Z2U Z72.cl Z5z.cl Z04 Z0L Z02 Z0T Z1w Z2j Z1N Z2n Z1p Z3r Z4N Z3V Z4M Z5L Z5W Z3E Z4O Z5w Z5m Z5S Z4U Z4X Z4W Z42 Z2c Z2H Z62 Z3m Z3W Z4y Z2J Z2I Z17 Z68 Z2G Z4k Z1S Z4B
def Z5C(P3C:FuncId):AC :=
 (.seq (.reg none [
 ro 2 (.box 4 (.t 0)),
 ro 4 (.mv (.c (.v (.bool false))))])
 (.seq (.seq (.reg none [
 ro 5 (.mv (ci 0))])
 (.block 0 (.loop (.seq (.seq (.reg none [
  rm 6 5,
  rm 7 1,
  ro 8 (.len (.t 7)),
  ro 9 (.bin .lss (.t 6) (.t 8))])
  (.cond (.t 9) .skip (.exit 0)))
  (.seq (.block 1 (.seq (.reg (some []) [
   ro 12 (.fieldA 3 (.t 2)),
   ro 13 (.load none (.t 12)),
   rm 14 1,
   rm 15 5,
   ro 16 (.idxA 1 (.t 14) (.t 15)),
   ro 17 (.load none (.t 16)),
   rk 18 P3C [(.t 13),(.t 17)]])
  (.cond (.t 18) (.seq (.reg none [
   ro 4 (.mv (.c (.v (.bool true))))])
   .ret) .skip)))
  (.reg none [
  rm 10 5,
  ro 11 (.bin .add (.t 10) (ci 1)),
  rm 5 11]))))))
 (.seq (.reg none [
 ro 4 (.mv (.c (.v (.bool false))))])
 .ret)))
def Z3H(P0o P3v P3D:FuncId):AC :=
 (.seq (.reg none [
 ro 4 (.box 4 (.t 0)),
 ro 8 (.mv (.c (.sl true [])))])
 (.seq (.seq (.reg none [
 rm 10 3,
 ro 11 (.bin .eql (.t 10) (ci 2)),
 rm 12 11,
 rg 13 12 true (.load (some 4) (.t 4)),
 rg 14 12 true (.mv (.t 1)),
 rl 15 12 true P0o [(.t 13),(.t 14)],
 ro 16 (.pick (.t 12) (.t 15) (.c (.v (.bool false))))])
 (.cond (.t 16) (.seq (.reg none [
  rm 17 1,
  rm 8 17])
 .ret) .skip))
 (.seq (.reg none [
 ro 18 (.load (some 4) (.t 4)),
 rm 19 1,
 rm 20 2,
 rk 21 P3v [(.t 18),(.t 19),(.t 20)],
 rm 9 21])
 (.seq (.seq (.reg none [
 rm 22 3,
 ro 23 (.bin .eql (.t 22) (ci 1))])
 (.cond (.t 23) (.reg none [
  rm 24 9,
  rk 25 P3D [(.t 24),(ci 0)],
  rm 9 25]) .skip))
 (.seq (.reg none [
 rm 26 9,
 rm 8 26])
 .ret)))))
def ZgV(P0f:FuncId):AC :=
 (.block 4 (.loop (.seq (.seq (.reg none [
     rm 52 14,
     rm 53 8,
     ro 54 (.len (.t 53)),
     ro 55 (.bin .lss (.t 52) (.t 54)),
     rm 56 55,
     rg 57 56 true (.mv (.t 8)),
     rg 58 56 true (.mv (.t 14)),
     rg 59 56 true (.idxA 1 (.t 57) (.t 58)),
     rg 60 56 true (.load none (.t 59)),
     rg 61 56 true (.mv (.t 13)),
     rl 62 56 true P0f [(.t 60),(.t 61)],
     rg 63 56 true (.un .not (.t 62)),
     ro 64 (.pick (.t 56) (.t 63) (.c (.v (.bool false))))])
     (.cond (.t 64) .skip (.exit 4)))
     (.block 5 (.reg none [
      rm 65 14,
      ro 66 (.bin .add (.t 65) (ci 1)),
      rm 14 66])))))
def ZjM(P0z P0f:FuncId):AC :=
 (.block 2 (.loop (.seq (.seq (.reg none [
    rm 38 12,
    ro 39 (.fieldA 0 (.t 3)),
    ro 40 (.load none (.t 39)),
    ro 41 (.bin .lss (.t 38) (.t 40))])
   (.cond (.t 41) .skip (.exit 2)))
   (.seq (.block 3 (.seq (.reg (some []) [
    ro 44 (.load (some 4) (.t 3)),
    rm 45 8,
    rm 46 10,
    ro 47 (.idxA 1 (.t 45) (.t 46)),
    ro 48 (.load none (.t 47)),
    rm 49 12,
    rm 50 2,
    rk 51 P0z [(.t 44),(.t 48),(.t 49),(.t 50)],
    rm 13 51])
    (.seq (.reg none [
    ro 14 (.mv (ci 0))])
    (.seq (ZgV P0f)
    (.seq (.seq (.reg none [
    rm 67 14,
    rm 68 8,
    ro 69 (.len (.t 68)),
    ro 70 (.bin .eql (.t 67) (.t 69))])
    (.cond (.t 70) (.seq (.seq (.reg none [
     rm 71 14,
     rm 72 1,
     ro 73 (.bin .eql (.t 71) (.t 72))])
    (.cond (.t 73) (.seq (.reg none [
     ro 74 (.build (.agg [(.v (.int .i64 0)),(.sl true []),(.sl true [])]) [] []),
     rn (.store 3 (.t 6) (.t 74)),
     ro 7 (.mv (ci 13))])
     .ret) .skip))
    (.reg none [
     rm 75 8,
     rm 76 13,
     ro 77 (.bslice 1 1 (.sl true []) [(0,(.t 76))]),
     ro 78 (.app 1 24 (.t 75) (.t 77)),
     rm 8 78])) .skip))
    (.reg none [
    rm 79 11,
    rm 80 14,
    ro 81 (.bslice 1 1 (.v (.int .i64 0)) [(0,(.t 80))]),
    ro 82 (.app 1 8 (.t 79) (.t 81)),
    rm 11 82]))))))
   (.reg none [
    rm 42 12,
    ro 43 (.bin .add (.t 42) (ci 1)),
    rm 12 43])))))
def ZgW(P0o:FuncId):AC :=
 (.reg (some [[],[],[],[],[],[true],[false,true],[false,false,true],[false,false,false,true],[false,false,false,false,true],[false,false,false,false,false,true],[false,false,false,false,false,false,true],[],[],[],[true]]) [
   ro 83 (.fieldA 1 (.t 9)),
   ro 84 (.load none (.t 83)),
   rm 85 11,
   ro 86 (.bslice 1 1 (.sl true []) [(0,(.t 85))]),
   ro 87 (.app 1 24 (.t 84) (.t 86)),
   ro 88 (.fieldA 2 (.t 9)),
   ro 89 (.load none (.t 88)),
   ro 90 (.load (some 4) (.t 3)),
   rm 91 8,
   rm 92 10,
   ro 93 (.idxA 1 (.t 91) (.t 92)),
   ro 94 (.load none (.t 93)),
   rk 95 P0o [(.t 90),(.t 94)],
   ro 96 (.bslice 1 1 (.v (.bool false)) [(0,(.t 95))]),
   ro 97 (.app 1 1 (.t 89) (.t 96)),
   ro 98 (.fieldA 1 (.t 9)),
   rn (.store 1 (.t 98) (.t 87)),
   ro 99 (.fieldA 2 (.t 9)),
   rn (.store 1 (.t 99) (.t 97))])
def ZjL(P0z P0f P0o:FuncId):AC :=
 (.block 0 (.loop (.seq (.seq (.reg none [
  rm 32 10,
  rm 33 8,
  ro 34 (.len (.t 33)),
  ro 35 (.bin .lss (.t 32) (.t 34))])
  (.cond (.t 35) .skip (.exit 0)))
  (.seq (.block 1 (.seq (.reg none [
   ro 11 (.mv (.c (.sl true [])))])
  (.seq (.seq (.reg none [
   ro 12 (.mv (ci 0))])
  (ZjM P0z P0f))
  (ZgW P0o))))
  (.reg none [
  rm 36 10,
  ro 37 (.bin .add (.t 36) (ci 1)),
  rm 10 37])))))
def ZjK:AC :=
 (.seq (.reg none [
 ro 100 (.load (some 3) (.t 9)),
 rn (.store 3 (.t 6) (.t 100)),
 ro 7 (.mv (ci 0))])
 .ret)
def Z5D(P1s P0z P0f P0o:FuncId):AC :=
 (.seq (.reg none [
 ro 3 (.box 4 (.t 0)),
 ro 6 (.alloc (.agg [(.v (.int .i64 0)),(.sl true []),(.sl true [])]) 3),
 ro 7 (.mv (ci 0))])
 (.seq (.seq (.reg none [
 ro 15 (.load (some 4) (.t 3)),
 rk 16 P1s [(.t 15)],
 ro 17 (.un .not (.t 16)),
 rm 18 17,
 rg 19 18 false (.mv (.t 1)),
 rg 20 18 false (.bin .lss (.t 19) (ci 1)),
 ro 21 (.pick (.t 18) (.c (.v (.bool true))) (.t 20)),
 rm 22 21,
 rg 23 22 false (.mv (.t 1)),
 rg 24 22 false (.bin .gtr (.t 23) (ci 3000)),
 ro 25 (.pick (.t 22) (.c (.v (.bool true))) (.t 24))])
 (.cond (.t 25) (.seq (.reg none [
  ro 26 (.build (.agg [(.v (.int .i64 0)),(.sl true []),(.sl true [])]) [] []),
  rn (.store 3 (.t 6) (.t 26)),
  ro 7 (.mv (ci 1))])
 .ret) .skip))
 (.seq (.reg none [
 ro 27 (.bslice 1 1 (.v (.int .i64 0)) [(0,(ci 0))]),
 ro 28 (.bslice 1 1 (.sl true []) [(0,(.t 27))]),
 rm 8 28])
 (.seq (.reg none [
 ro 29 (.fieldA 0 (.t 3)),
 ro 30 (.load none (.t 29)),
 ro 31 (.build (.agg [(.v (.int .i64 0)),(.sl true []),(.sl true [])]) [(0,1)] [(0,(.t 30))]),
 ro 9 (.alloc (.agg [(.v (.int .i64 0)),(.sl true []),(.sl true [])]) 3),
 rn (.store 3 (.t 9) (.t 31))])
 (.seq (.seq (.reg none [
 ro 10 (.mv (ci 0))])
 (ZjL P0z P0f P0o))
 ZjK)))))
def enI(n:Net)(set:List Int)(i:Nat)(_:Unit):Prop:=(set.take i).any (fun s=>n.last.contains s)=false
def enA(set:List Int)(i:Nat)(_:Unit):List (Nat×AV):=[(1,Z03 set),(2,.ptr 0 0 0),(5,Z06 i)]
def nG(n:Net)(_:Nat)(_:Unit):List (Nat×Option Blk):=[(0,some (.arr 4 [Z0M n]))]
theorem ZiO{P:Program}{fh:FuncId}(n:Net)(set:List Int)(hs:Len set)(hc:∀x,Z0t P fh [Z03 n.last,Z06 x] (Z1n (n.last.contains x))) :
  AWb P 0 (Z5C fh) (Z75 [4] (FzK (Z1n (Z5i n set)))) (Z53 [Z0M n,Z03 set]) S0:=by
 unfold Len at hs;have ec:(Z0M n).cells=[Z06 n.signs,Z0l n.by_,Z0l n.follow,Z03 n.last]:=rfl;have es:(Z0M n).solid=true:=rfl;simp[Z5C,ec,es];refine Z2D set.length (enI n set) (enA set) 3 (nG n) () rfl ?_ ?_
 ·refine Abs.of [(0,0)] [] (by omega) ⟨by simp,by simp⟩ ?_ ?_
  ·simp[nG,Z72.cl,Z5z.cl,Z1J]
  ·simp[enA,Z5z.cl,Z02]
 ·rintro i _ hi hI
  by_cases hlt:i < set.length
  ·have hx:=hc set[i]
   unfold enI at hI;have htk:=Zfy set (fun s=>n.last.contains s) i hlt;rw[hI] at htk;cases hb:n.last.contains set[i] with
   | true =>
    have hr:Z5i n set=true:=by
     rw[Z5i,←List.take_append_drop (i+1) set,List.any_append,htk,hb];rfl
    rw[hb] at hx;have D:=fun n' g'=>Z5A.cd (S:=⟨n',g'⟩) hx (Z01 (Z02 _) (Z01 (Z04 _) Z0a)) (Z0L _)
    simp only[Z03,Z06,Z1n] at D;simp[enA,nG,Z03,hlt,ec];refine⟨_,⟨_,D _ _⟩,?_⟩;rw[hr];exact Z2p true _
   | false =>
    rw[hb] at hx;have D:=fun n' g'=>Z5A.cd (S:=⟨n',g'⟩) hx (Z01 (Z02 _) (Z01 (Z04 _) Z0a)) (Z0L _)
    simp only[Z03,Z06,Z1n] at D;simp[enA,nG,Z03,hlt,ec];refine⟨_,⟨_,D _ _⟩,?_⟩;simp;rw[Z0m _ (by omega)];refine⟨hlt,(),by unfold enI;rw[htk,hb];rfl,Abs.of [(0,0)] [] (by omega) ⟨by simp,by simp⟩ ?_ ?_⟩
    ·simp[nG,Z72.cl,Z5z.cl,Z1J]
    ·simp[enA,Z5z.cl,Z02,Z2j,Z03]
  ·have hr:Z5i n set=false:=by
    have:set.take i=set:=List.take_of_length_le (by omega);unfold enI at hI;rw[this] at hI;exact hI
   simp[enA,nG,Z03,hlt,ec,hr];exact Z2p false _
def kdI:Kd→Int
 | .whole=>0
 | .tails=>1
 | .heads=>2
theorem Zot{l:List Int}(h:∀x∈l,1≤x):Z7K l 0=0::l:=by
 cases l with
 | nil=>rfl
 | cons x l =>
  have:=h x (by simp);rw[Z7K,if_neg (by omega),if_neg (by omega)]
theorem ZfC{P:Program}{fe fs fp:FuncId}(kd:Kd){n:Net}(R:Z4H n)(set:List Int)(s:Int)(he:Z0t P fe [Z0M n,Z03 set] (Z1n (Z5i n set)))
  (hs:Z0t P fs [Z0M n,Z03 set,Z06 s] (Z03 (Z70 n set s))) (hp:∀l,l.length≤1000→Z0t P fp [Z03 l,Z06 0] (Z03 (Z7K l 0))) :
  AWb P 0 (Z3H fe fs fp) (Z75 [8] (FzK (Z03 (bhS kd n set s)))) (Z53 [Z0M n,Z03 set,Z06 s,Z06 (kdI kd)]) S0:=by
 have ec:(Z0M n).cells=[Z06 n.signs,Z0l n.by_,Z0l n.follow,Z03 n.last]:=rfl;have en:AV.agg (Z0M n).cells=Z0M n:=rfl;have es:(Z0M n).solid=true:=rfl;obtain⟨hv1,hv2⟩:=Zgv R set s;have hpz:=hp (Z70 n set s) (by omega);rw[Zot (fun x hx=>(hv1 x hx).1)] at hpz;have c2:=Z01 (Z1J n) (Z01 (Z02 set) Z0a);have c3:=Z01 (Z1J n) (Z01 (Z02 set) (Z01 (Z04 s) Z0a));cases kd with
 | whole =>
  simp only[kdI,bhS];simp[Z3H,es];simp only[ec] at en ⊢;simp[en];refine Z0x.pure hs c3 (Z02 _) ?_;simp;exact .closed _ (Z02 _)
 | tails =>
  simp only[kdI,bhS];simp[Z3H,es];simp only[ec] at en ⊢;simp[en];refine Z0x.pure hs c3 (Z02 _) ?_;simp;refine Z0x.pure hpz (Z01 (Z02 _) (Z01 (Z04 _) Z0a)) (Z02 _) ?_;simp;exact .closed _ (Z02 _)
 | heads =>
  simp only[kdI,bhS];simp[Z3H,es];simp only[ec] at en ⊢;simp[en];refine Z0x.pure he c2 (Z0L _) ?_;cases hb:Z5i n set with
  | true =>
   simp;exact .closed _ (Z02 _)
  | false =>
   simp;simp only[ec] at en ⊢;simp[en];refine Z0x.pure hs c3 (Z02 _) ?_;simp;exact .closed _ (Z02 _)
abbrev MdS:=Sts×(Bool×Bool×Bool)
def dmI(kd:Kd)(n:Net)(most:Int)(i:Nat)(s:MdS):Prop:=stF kd n most i=some s.1∧∀m,m < i→∀stm,stF kd n most m=some stm→m≠stm.1.length
def dmA(most kind:Int)(i:Nat)(ss:List (List Int))(o:Bool):List (Nat×AV):=[(1,Z06 most),(2,Z06 kind),(3,.ptr 0 0 0),(6,.ptr 1 0 0),(8,vV o 3 (ss.map Z03)),(9,.ptr 2 0 0),(10,Z06 i)]
def dmG(n:Net)(ss nx:List (List Int))(en:List Bool)(o oN oE:Bool):List (Nat×Option Blk) :=
 [(0,some (.arr 4 [Z0M n])),(1,some (.arr 3 [Z7i])),(2,some (.arr 3 [.agg [Z06 n.signs,vV oN 4 (nx.map Z03),vV oE 5 (en.map Z1n)]])),(3,vB o 1 (ss.map Z03)),(4,vB oN 1 (nx.map Z03)),(5,vB oE 1 (en.map Z1n))]
def Zuf(most kind:Int)(i:Nat)(s:MdS):List (Nat×AV):=dmA most kind i s.1.1 s.2.1
def Zug(n:Net)(_:Nat)(s:MdS):List (Nat×Option Blk):=dmG n s.1.1 s.1.2.1 s.1.2.2 s.2.1 s.2.2.1 s.2.2.2
theorem Fz.P5i{g:Nat→Option Blk}{a b:List AV}(h:FzL g a b):Fz g (.agg a) (.agg b):=.agg _ _ h.1 h.2
theorem Fz.P5g{g:Nat→Option Blk}{a b:List AV}(h:FzL g a b):Fz g (.tup a) (.tup b):=.tup _ _ h.1 h.2
theorem ZeZ{g:Nat→Option Blk}:Fz g (.sl true []) (.sl false []):=.loose true [] (.sl _ _ (by simp))
theorem Z2F(g:Nat→Option Blk)(e:Int):Fz g (.tup [.agg [.v (.int .i64 0),.sl true [],.sl true []],.v (.int .i64 e)]) (Z3N (⟨0,[],[]⟩,e)) :=
 .P5g (.cons (.P5i (.cons (.closed _ (.v _)) (.cons ZeZ (.cons ZeZ .nil)))) (.cons (.closed _ (.v _)) .nil))
theorem ZfW{X:Type}[BEq X][LawfulBEq X]{l:List X}{x:X}{j:Nat}(hj:j < l.length)(he:l[j]=x)(hn:x∉l.take j):l.idxOf x=j:=by
 have e:l=l.take j++(x::l.drop (j+1)):=by rw[←he,←List.drop_eq_getElem_cons hj,List.take_append_drop]
 rw[e,List.idxOf_append,if_neg hn];simp;omega
abbrev MrS:=(List (List Int)×List Int)×(Bool×Bool)
def ZwX(kd:Kd)(n:Net)(most:Int)(set:List Int)(ss0:List (List Int))(k:Nat)(s:MrS):Prop:=ZcX most (bhS kd n set) k ss0=some s.1∧∀j (h:j < ss0.length),s.1.1[j]? = some ss0[j]
def Zlp(most kind:Int)(i:Nat)(k:Nat)(s:MrS):List (Nat×AV):=(11,vV s.2.1 6 (s.1.2.map Z06))::(12,Z06 k)::dmA most kind i s.1.1 s.2.2
def Zlq(n:Net)(nx:List (List Int))(en:List Bool)(oN oE:Bool)(_:Nat)(s:MrS):List (Nat×Option Blk):=(6,vB s.2.1 1 (s.1.2.map Z06))::dmG n s.1.1 nx en s.2.2 oN oE
def Zvt(ss:List (List Int))(to:List Int)(j:Nat)(_:Unit):Prop:=to∉ss.take j
def Zsh(most kind:Int)(i k:Nat)(s:MrS)(to:List Int)(j:Nat)(_:Unit):List (Nat×AV):=(13,Z03 to)::(14,Z06 j)::Zlp most kind i k s
def Zsi(n:Net)(nx:List (List Int))(en:List Bool)(oN oE:Bool)(s:MrS)(_:Nat)(_:Unit):List (Nat×Option Blk):=Zlq n nx en oN oE 0 s
theorem Zj5{P:Program}{fr fb fi fe:FuncId}(kd:Kd)(n:Net)(most:Int)(hr:Z0t P fr [Z0M n] (Z1n (Z4p n)))
  (hb:Z4H n→∀set s,Val n set→Z0t P fb [Z0M n,Z03 set,Z06 s,Z06 (kdI kd)] (Z03 (bhS kd n set s))) (hi:∀a b,Len a→Len b→Z0t P fi [Z03 a,Z03 b] (Z1n (a == b)))
  (he:Z4H n→∀set,Val n set→Z0t P fe [Z0M n,Z03 set] (Z1n (Z5i n set))) :
  AWb P 0 (Z5D fr fb fi fe) (Z2L [.c 6 (some 3),.t 7] (FzK (Z3N (Z9a kd n most)))) (Z53 [Z0M n,Z06 most,Z06 (kdI kd)]) S0:=by
 have ec:(Z0M n).cells=[Z06 n.signs,Z0l n.by_,Z0l n.follow,Z03 n.last]:=rfl;have en:AV.agg (Z0M n).cells=Z0M n:=rfl;have es:(Z0M n).solid=true:=rfl;simp[Z5D,es];simp only[ec] at en ⊢;simp[en];refine Z0x.pure hr (Z01 (Z1J n) Z0a) (Z0L _) ?_;cases hR:Z4p n with
 | false =>
  have hres:Z9a kd n most=(⟨0,[],[]⟩,1):=by simp[Z9a,hR]
  rw[hres];simp[Z2L,evC,RV.ev,ldC,Z1b,Z0w,Z1t];exact Z2F _ 1
 | true =>
  have R:=(Z5c n).mp hR;by_cases h1:most < 1
  ·have hres:Z9a kd n most=(⟨0,[],[]⟩,1):=by rw[Z9a,if_neg (by omega)]
   rw[hres];simp[h1,Z2L,evC,RV.ev,ldC,Z1b,Z0w,Z1t];exact Z2F _ 1
  by_cases h3:3000 < most
  ·have hres:Z9a kd n most=(⟨0,[],[]⟩,1):=by rw[Z9a,if_neg (by omega)]
   rw[hres];simp[h1,h3,Z2L,evC,RV.ev,ldC,Z1b,Z0w,Z1t];exact Z2F _ 1
  have hres:Z9a kd n most=(match Z7J kd n most with | some st=>(⟨n.signs,st.2.1,st.2.2⟩,0) | none=>(⟨0,[],[]⟩,13)):=by rw[Z9a,if_pos ⟨hR,by omega,by omega⟩];cases Z7J kd n most<;>rfl
  simp[h1,h3,ec,Z0w,Z1t,ZjL];refine Z2D most.toNat (dmI kd n most) (Zuf most (kdI kd)) 10 (Zug n) (([[0]],[],[]),false,false,false) ⟨rfl,fun m hm=>by omega⟩ ?_ ?_
  ·refine Abs.of [(0,0),(1,1),(2,20)] [] (by omega) ⟨by simp,by simp⟩ ?_ ?_
   ·simp[Zug,dmG,Z7i,Z1J]
   ·simp[Zuf,dmA]
    exact .wk _ _ (.sl _ _ (Z01 (.sl _ _ (Z01 (Z04 _) Z0a)) Z0a)) (.slt _ _ _ rfl (WkL.cons (.sl _ _ _ rfl (WkL.refl _).2) WkL.nil).2)
  ·rintro i ⟨⟨ss,nx,fin⟩,o,oN,oE⟩ hi' ⟨heq,hmin⟩
   simp only at heq hmin;have ok:=Zeg R (by omega) i heq;have hle:=ok.le;have hsl:=ok.ss.l;simp only at hle hsl;have hs0:(0:Int)≤n.signs:=by have:=R.s1;omega
   by_cases hlt:i < ss.length
   ·obtain⟨set,hset⟩:∃set,ss[i]? = some set:=⟨_,List.getElem?_eq_getElem hlt⟩
    have hvs:Val n set:=ok.ss.v set (by obtain⟨h1,h2⟩:=List.getElem?_eq_some_iff.mp hset;rw[←h2];exact List.getElem_mem h1);have hnxt:stF kd n most (i+1)=nxF kd n most i (ss,nx,fin):=by simp only[stF,heq]
    simp[Zuf,dmA,Zug,dmG,hlt,ZjM];refine Z2D n.signs.toNat (ZwX kd n most set ss) (Zlp most (kdI kd) i) 10 (Zlq n nx fin oN oE) ((ss,[]),false,o) ⟨rfl,fun j hj=>List.getElem?_eq_getElem hj⟩ ?_ ?_
    ·refine Abs.of [(0,0),(1,1),(2,2),(3,3),(4,4),(5,5)] [] (by omega) ⟨by simp,by simp⟩ ?_ ?_
     ·simp[Zlq,dmG,Z7i,Z1J]
     ·simp[Zlp,dmA]
    ·rintro k ⟨⟨ss1,r⟩,oR,o1⟩ hk ⟨hrow,hpre⟩
     simp only at hrow hpre;obtain⟨hok,hlen1,hrl⟩:=Ze6 (n:=n) (fun s=>ZeH R hvs s) ok.ss k hrow;simp only at hok hlen1 hrl;have hl1:=hok.l;have hs4:=R.s2;have hi1:i < ss1.length:=by omega
     have hgi:ss1[i]? = some set:=by rw[hpre i hlt,←hset,List.getElem?_eq_getElem hlt]
     obtain⟨hgi1,hgi2⟩:=List.getElem?_eq_some_iff.mp hgi;by_cases hkl:k < n.signs.toNat
     ·have hkI:(k:Int) < n.signs:=by omega
      have hx:=hb R set k hvs;have D:=fun n' g'=>Z5A.cd (S:=⟨n',g'⟩) hx (Z01 (Z1J n) (Z01 (Z02 _) (Z01 (Z04 _) (Z01 (Z04 _) Z0a)))) (Z02 _)
      have hvb:=ZeH (kd:=kd) R hvs (k:Int);have hokr:Z1K 8 r.length 1:=by unfold Z1K;omega
      generalize hto:bhS kd n set k=to at D hvb;simp only[Z0M,Z06] at D;simp[Zlp,dmA,Zlq,dmG,hkI,ec,hi1,hgi,hgi2];refine⟨_,⟨_,D _ _⟩,?_⟩;simp[ZgV];refine Z2D ss1.length (Zvt ss1 to) (Zsh most (kdI kd) i k ((ss1,r),oR,o1) to) 10 (Zsi n nx fin oN oE ((ss1,r),oR,o1)) () (by simp[Zvt]) ?_ ?_
      ·refine Abs.of [(0,0),(1,1),(2,2),(3,3),(4,4),(5,5),(6,6)] [] (by omega) ⟨by simp,by simp⟩ ?_ ?_
       ·simp[Zsi,Zlq,dmG,Z7i,Z1J]
       ·simp[Zsh,Zlp,dmA]
      ·rintro j _ hj hnot
       have hlt':to.length≤302:=hvb.2;have step:∀(hjs:j < ss1.length),Z0t P fi [Z03 ss1[j],Z03 to] (Z1n (ss1[j] == to)):=fun hjs=>hi _ _ (by have:=(hok.v _ (List.getElem_mem hjs)).2;unfold Len;omega) (by unfold Len;omega)
       by_cases hjl:j < ss1.length
       ·have hst:=step hjl
        by_cases heq2:ss1[j]=to
        ·have hb1:(ss1[j] == to)=true:=by simp[heq2]
         rw[hb1] at hst;have hidx:(ss1.idxOf to:Int)=j:=by rw[ZfW hjl heq2 hnot]
         have hnf:Zg7 most ss1 (bhS kd n set k)=some (ss1,(j:Int)):=by
          unfold Zg7;rw[hto,if_pos (by rw[←heq2];exact List.getElem_mem hjl),hidx]
         have hne:((j:Int) == (ss1.length:Int))=false:=by simp;omega
         simp[Zsh,Zlp,dmA,Zsi,Zlq,dmG,hjl,ec];refine Z0x.pure hst (Z01 (Z02 _) (Z01 (Z02 _) Z0a)) (Z0L _) ?_;simp[hne,hokr];rw[Z0m _ (by omega)];refine⟨hkl,((ss1,r++[(j:Int)]),true,o1),⟨by simp only[ZcX,hrow,hnf],hpre⟩,Abs.of [(0,0),(1,1),(2,2),(3,3),(4,4),(5,5),(6,30)] [] (by omega) ⟨by simp,by simp⟩ ?_ ?_⟩
         ·simp[Zlq,dmG,Z7i,Z1J]
         ·simp[Zlp,dmA]
        ·have hb1:(ss1[j] == to)=false:=by simp[heq2]
         rw[hb1] at hst;simp[Zsh,Zlp,dmA,Zsi,Zlq,dmG,hjl,ec];refine Z0x.pure hst (Z01 (Z02 _) (Z01 (Z02 _) Z0a)) (Z0L _) ?_;simp;rw[Z0m _ (by omega)];refine⟨hjl,(),?_,Abs.of [(0,0),(1,1),(2,2),(3,3),(4,4),(5,5),(6,6)] [] (by omega) ⟨by simp,by simp⟩ ?_ ?_⟩
         ·unfold Zvt at hnot ⊢
          rw[List.take_add_one,List.getElem?_eq_getElem hjl];simp only[Option.toList_some,List.mem_append,List.mem_singleton,not_or];exact⟨hnot,fun e=>heq2 e.symm⟩
         ·simp[Zsi,Zlq,dmG,Z7i,Z1J]
         ·simp[Zsh,Zlp,dmA]
       ·have hje:j=ss1.length:=by omega
        subst hje;have hnot':to∉ss1:=by unfold Zvt at hnot;rwa[List.take_length] at hnot
        by_cases hfull:(ss1.length:Int)=most
        ·have hnf:Zg7 most ss1 (bhS kd n set k)=none:=by unfold Zg7;rw[hto,if_neg hnot',if_pos hfull]
         have hrn:ZcX most (bhS kd n set) n.signs.toNat ss=none:=Ze5 (k:=k+1) (by simp only[ZcX,hrow,hnf]) _ (by omega)
         have hnone:Z7J kd n most=none:=by
          refine ZfU R (most.toNat+1) 0 rfl i (Nat.zero_le _) (by rw[hnxt];simp only[nxF,hset,hrn]) (fun m _ h2 stm hstm=>?_);by_cases hmi:m=i
          ·subst hmi
           rw[heq] at hstm;cases hstm;simp only;omega
          ·exact hmin m (by omega) stm hstm
         rw[hnone] at hres;simp only at hres;have hfe:((ss1.length:Int) == most)=true:=by simp[hfull]
         rw[hres];simp[Zsh,Zlp,dmA,Zsi,Zlq,dmG,hfe,ec,Z2L,evC,RV.ev,ldC,Z1b,Z0w,Z1t,Z7i];exact Z2F _ 13
        ·have hnf:Zg7 most ss1 (bhS kd n set k)=some (ss1++[to],(ss1.length:Int)):=by unfold Zg7;rw[hto,if_neg hnot',if_neg hfull]
         have hfe:((ss1.length:Int) == most)=false:=by simp[hfull]
         have hoks:Z1K 24 ss1.length 1:=by unfold Z1K;omega
         simp[Zsh,Zlp,dmA,Zsi,Zlq,dmG,hfe,ec,hokr,hoks];rw[Z0m _ (by omega)];refine⟨hkl,((ss1++[to],r++[(ss1.length:Int)]),true,true),⟨by simp only[ZcX,hrow,hnf],fun a ha=>?_⟩,Abs.of [(0,0),(1,1),(2,2),(3,33),(4,4),(5,5),(6,38)] [] (by omega) ⟨by simp,by simp⟩ ?_ ?_⟩
         ·have:=hpre a ha
          have hal:=(List.getElem?_eq_some_iff.mp this).1;simp only;rw[List.getElem?_append_left hal];exact this
         ·simp[Zlq,dmG,Z7i,Z1J]
         ·simp[Zlp,dmA]
     ·have hkL:k=n.signs.toNat:=by omega
      have hkI:¬((k:Int) < n.signs):=by omega
      rw[hkL] at hrow;have hx:=he R set hvs;have hnx:=ok.nx;have hfn:=ok.en;simp only at hnx hfn;have hokx:Z1K 24 nx.length 1:=by unfold Z1K;omega
      have hoke:Z1K 1 fin.length 1:=by unfold Z1K;omega
      have D:=fun n' g'=>Z5A.cd (S:=⟨n',g'⟩) hx (Z01 (Z1J n) (Z01 (Z02 _) Z0a)) (Z0L _)
      simp only[Z0M,Z06,Z1n] at D;have hsr:nxF kd n most i (ss,nx,fin)=some (ss1,nx++[r],fin++[Z5i n set]):=by simp only[nxF,hset,hrow]
      simp[Zlp,dmA,Zlq,dmG,hkI,ec,hi1,hgi,hgi2,ZgW,hokx,hoke];refine⟨by rintro j (⟨_,rfl⟩ | rfl)<;>simp,by rintro j (⟨_,rfl⟩ | rfl)<;>simp,by rintro j (⟨_,rfl⟩ | rfl)<;>simp,_,_,D _ _,?_⟩;simp[ec,hokx,hoke];rw[Z0m _ (by omega)];refine⟨by omega,((ss1,nx++[r],fin++[Z5i n set]),o1,true,true),⟨by rw[hnxt,hsr],fun m hm stm hstm=>?_⟩,Abs.of [(0,0),(1,1),(2,2),(3,3),(4,18),(5,28)] [6] (by omega) ⟨by simp,by simp⟩ ?_ ?_⟩
      ·by_cases hmi:m=i
       ·subst hmi
        rw[heq] at hstm;cases hstm;simp only;omega
       ·exact hmin m (by omega) stm hstm
      ·simp[Zug,dmG,Z7i,Z1J]
      ·simp[Zuf,dmA]
   ·have hie:i=ss.length:=by omega
    subst hie;have hmade:Z7J kd n most=some (ss,nx,fin):=ZiX R (by omega) (most.toNat+1) 0 rfl (by omega) ss.length (ss,nx,fin) (Nat.zero_le _) heq rfl (fun m _ h2=>hmin m h2);rw[hmade] at hres;simp only at hres;rw[hres];simp[Zuf,dmA,Zug,dmG,ZjK,Z2L,evC,RV.ev,ldC,Z1b,Z7i];refine .P5g (.cons (.P5i (.cons (.closed _ (.v _)) (.cons (Zam ?_ (Z3E _)) (.cons (Zam ?_ (Z5W _)) .nil)))) (.cons (.closed _ (.v _)) .nil))
    ·simp
    ·simp
end Go.Rf
namespace Go.Rf
open Go.RowKit
attribute [local simp] Z4t Z4q Z3h Z2s Z3f Z3j Z3g Z4r Z4s Z3i Z3n Z1A Z1y Z2q Z1H Z41 Z3v ZcH Z7E Z7D Z5R ZcG Z7C Z5P Z4v Z3k Z4u Z7x Z7w Z5J Z4x Z3l Z4w Z7z Z7y Z5K Z1z Z2v Z3o Z3p Z1D Z1o Z0c Z0B Z0q Z08 Z0o Z0h Z09 Z0p Z0i Z0Y Z0j Z0z Z0K Z0k Z0J Z1W Z3U Z0X Z25 Z22 Z24 Z23 Z26 Z1j Z0D Z11 Z12 Z1T Z1U Z1V Z0H Z0I Z1i Z0r Z0W Z20 Z1X Z1Z Z1Y Z21 Z1k Z13 Z1g Z0U Z0V Z0C Z1h Z0P Z1a Z1f Z14 Z1l ex Z00 Z0R Z6K Z6P Z0f Z0g Z0A Z2k Z1d Z10 Z0y Z0F Z0G Z0E Z0s Z0Z Z5y Z0O Z37 Z1c Z1O Z3s Z0b Z1E Z28 Z19 Z0Q Z2w Z27 Z3u Z2x Z1P Z6A Z3C Z6z Z3t Z6w Z3D Z51 Z4A Z3z Z2B Z2C Z29 Z2z Z2A Z3y Z1M Z2y Z3x Z3A S0 Z06 Z1n Z39 Z34 Z56 Z38 Z33 Z55 Z44 Z36 Z43 Z6j Z5a Z6i Z59 Z45 Z58 Zjt ZqI vQ0 vQ1 ZvC ZvD ZvE ZqJ ZoI ZkK Zd1 Z5r
def Z1B:AC :=
 (.seq (.reg none [
 ro 4 (.box 3 (.t 0)),
 ro 5 (.box 3 (.t 1)),
 ro 6 (.box 2 (.t 2)),
 ro 8 (.alloc (.agg [(.v (.int .i64 0)),(.v (.int .i64 0))]) 2)])
 (.seq (.reg none [
 rm 11 3,
 ro 12 (.bin .quo (.t 11) (ci 2)),
 rm 13 3,
 ro 14 (.bin .rem (.t 13) (ci 2)),
 ro 15 (.bin .eql (.t 14) (ci 1)),
 rm 9 12,
 rm 10 15])
 (.seq (.block 0 (.seq (.reg none [
  ro 17 (.fieldA 0 (.t 6)),
  ro 18 (.load none (.t 17)),
  ro 19 (.bin .leq (.t 18) (ci 1)),
  rm 20 19,
  rg 21 20 true (.mv (.t 10)),
  rg 22 20 true (.un .not (.t 21)),
  ro 23 (.pick (.t 20) (.t 22) (.c (.v (.bool false)))),
  rm 16 23])
 (.cond (.t 16) (.seq (.reg none [
  ro 24 (.fieldA 1 (.t 4)),
  ro 25 (.load none (.t 24)),
  ro 26 (.fieldA 1 (.t 6)),
  ro 27 (.load none (.t 26)),
  ro 28 (.idxA 1 (.t 25) (.t 27)),
  ro 29 (.load none (.t 28)),
  rm 30 9,
  ro 31 (.idxA 1 (.t 29) (.t 30)),
  ro 32 (.load none (.t 31)),
  ro 33 (.build (.agg [(.v (.int .i64 0)),(.v (.int .i64 0))]) [(0,1),(1,1)] [(0,(ci 1)),(1,(.t 32))]),
  rn (.store 2 (.t 8) (.t 33))])
  .ret) (.seq (.reg none [
  ro 35 (.fieldA 0 (.t 6)),
  ro 36 (.load none (.t 35)),
  ro 37 (.bin .eql (.t 36) (ci 1)),
  rm 38 37,
  rg 39 38 true (.fieldA 2 (.t 4)),
  rg 40 38 true (.load none (.t 39)),
  rg 41 38 true (.fieldA 1 (.t 6)),
  rg 42 38 true (.load none (.t 41)),
  rg 43 38 true (.idxA 1 (.t 40) (.t 42)),
  rg 44 38 true (.load none (.t 43)),
  ro 45 (.pick (.t 38) (.t 44) (.c (.v (.bool false)))),
  rm 34 45])
  (.cond (.t 34) (.seq (.reg none [
   ro 46 (.fieldA 1 (.t 5)),
   ro 47 (.load none (.t 46)),
   ro 48 (.idxA 1 (.t 47) (ci 0)),
   ro 49 (.load none (.t 48)),
   rm 50 9,
   ro 51 (.idxA 1 (.t 49) (.t 50)),
   ro 52 (.load none (.t 51)),
   ro 53 (.build (.agg [(.v (.int .i64 0)),(.v (.int .i64 0))]) [(0,1),(1,1)] [(0,(ci 2)),(1,(.t 52))]),
   rn (.store 2 (.t 8) (.t 53))])
  .ret) (.seq (.reg none [
   ro 55 (.fieldA 0 (.t 6)),
   ro 56 (.load none (.t 55)),
   ro 57 (.bin .eql (.t 56) (ci 2)),
   rm 58 57,
   rg 59 58 true (.mv (.t 10)),
   rg 60 58 true (.un .not (.t 59)),
   ro 61 (.pick (.t 58) (.t 60) (.c (.v (.bool false)))),
   rm 54 61])
  (.cond (.t 54) (.seq (.reg none [
   ro 62 (.fieldA 1 (.t 5)),
   ro 63 (.load none (.t 62)),
   ro 64 (.fieldA 1 (.t 6)),
   ro 65 (.load none (.t 64)),
   ro 66 (.idxA 1 (.t 63) (.t 65)),
   ro 67 (.load none (.t 66)),
   rm 68 9,
   ro 69 (.idxA 1 (.t 67) (.t 68)),
   ro 70 (.load none (.t 69)),
   ro 71 (.build (.agg [(.v (.int .i64 0)),(.v (.int .i64 0))]) [(0,1),(1,1)] [(0,(ci 2)),(1,(.t 70))]),
   rn (.store 2 (.t 8) (.t 71))])
   .ret) .skip)))))))
 (.seq (.reg none [
 ro 72 (.build (.agg [(.v (.int .i64 0)),(.v (.int .i64 0))]) [(0,1),(1,1)] [(0,(ci 3)),(1,(ci 0))]),
 rn (.store 2 (.t 8) (.t 72))])
 .ret))))
def Z1C:AC :=
 (.seq (.reg none [
 ro 5 (.box 2 (.t 1)),
 ro 8 (.alloc (.agg [(.v (.int .i64 0)),(.v (.int .i64 0))]) 2)])
 (.seq (.seq (.reg none [
 rm 9 3])
 (.cond (.t 9) (.seq (.seq (.reg (some []) [
  ro 10 (.fieldA 0 (.t 5)),
  ro 11 (.load none (.t 10)),
  ro 12 (.bin .eql (.t 11) (ci 1)),
  rm 13 12,
  rg 14 13 true (.mv (.t 0)),
  rg 15 13 true (.nilc (.t 14)),
  rg 16 13 true (.fieldA 0 (.t 15)),
  rg 17 13 true (.fieldA 2 (.t 16)),
  rg 18 13 true (.load none (.t 17)),
  rg 19 13 true (.fieldA 1 (.t 5)),
  rg 20 13 true (.load none (.t 19)),
  rg 21 13 true (.idxA 1 (.t 18) (.t 20)),
  rg 22 13 true (.load none (.t 21)),
  ro 23 (.pick (.t 13) (.t 22) (.c (.v (.bool false))))])
 (.cond (.t 23) (.seq (.reg none [
  rm 24 0,
  ro 25 (.nilc (.t 24)),
  ro 26 (.fieldA 3 (.t 25)),
  ro 27 (.fieldA 1 (.t 26)),
  ro 28 (.load none (.t 27)),
  ro 29 (.idxA 1 (.t 28) (ci 0)),
  ro 30 (.load none (.t 29)),
  rm 31 2,
  ro 32 (.idxA 1 (.t 30) (.t 31)),
  ro 33 (.load none (.t 32)),
  ro 34 (.build (.agg [(.v (.int .i64 0)),(.v (.int .i64 0))]) [(0,1),(1,1)] [(0,(ci 2)),(1,(.t 33))]),
  rn (.store 2 (.t 8) (.t 34))])
  .ret) .skip))
 (.seq (.reg none [
  ro 35 (.build (.agg [(.v (.int .i64 0)),(.v (.int .i64 0))]) [(0,1)] [(0,(ci 3))]),
  rn (.store 2 (.t 8) (.t 35))])
 .ret)) .skip))
 (.seq (.seq (.reg none [
 ro 36 (.fieldA 0 (.t 5)),
 ro 37 (.load none (.t 36))])
 (.block 0 (.seq (.seq (.reg none [
  ro 39 (.bin .eql (.t 37) (ci 0)),
  rm 38 39])
 (.cond (.t 38) .skip (.reg none [
  ro 40 (.bin .eql (.t 37) (ci 1)),
  rm 38 40])))
 (.cond (.t 38) (.seq (.reg (some []) [
  rm 41 0,
  ro 42 (.nilc (.t 41)),
  ro 43 (.fieldA 0 (.t 42)),
  ro 44 (.fieldA 1 (.t 43)),
  ro 45 (.load none (.t 44)),
  ro 46 (.fieldA 1 (.t 5)),
  ro 47 (.load none (.t 46)),
  ro 48 (.idxA 1 (.t 45) (.t 47)),
  ro 49 (.load none (.t 48)),
  rm 50 2,
  ro 51 (.idxA 1 (.t 49) (.t 50)),
  ro 52 (.load none (.t 51)),
  ro 53 (.build (.agg [(.v (.int .i64 0)),(.v (.int .i64 0))]) [(0,1),(1,1)] [(0,(ci 1)),(1,(.t 52))]),
  rn (.store 2 (.t 8) (.t 53))])
  .ret) (.seq (.reg none [
  ro 55 (.bin .eql (.t 37) (ci 2)),
  rm 54 55])
  (.cond (.t 54) (.seq (.reg (some []) [
   rm 56 0,
   ro 57 (.nilc (.t 56)),
   ro 58 (.fieldA 3 (.t 57)),
   ro 59 (.fieldA 1 (.t 58)),
   ro 60 (.load none (.t 59)),
   ro 61 (.fieldA 1 (.t 5)),
   ro 62 (.load none (.t 61)),
   ro 63 (.idxA 1 (.t 60) (.t 62)),
   ro 64 (.load none (.t 63)),
   rm 65 2,
   ro 66 (.idxA 1 (.t 64) (.t 65)),
   ro 67 (.load none (.t 66)),
   ro 68 (.build (.agg [(.v (.int .i64 0)),(.v (.int .i64 0))]) [(0,1),(1,1)] [(0,(ci 2)),(1,(.t 67))]),
   rn (.store 2 (.t 8) (.t 68))])
  .ret) .skip))))))
 (.seq (.reg none [
 ro 69 (.load (some 2) (.t 5)),
 rn (.store 2 (.t 8) (.t 69))])
 .ret))))
theorem Z8R(d:Det):(Z0v d).cells=[Z06 d.signs,Z0l d.next,Z2E d.fin]:=rfl
theorem Z92(d:Det):(Z0v d).solid=true:=rfl
theorem Z78(x y:Int)(S:St):FzK (.agg [.v (.int .i64 x),.v (.int .i64 y)]) (.agg [.v (.int .i64 x),.v (.int .i64 y)]) S:=.closed _ (Z40 (x,y))
theorem Zcl{d:Det}(R:Z1Q d){q:Int}(h0:0≤q)(h1:q < d.next.length){h:Nat}(hs:(h:Int) < d.signs) :
  ∃row,d.next[q.toNat]?.getD []=row∧(∀hh:q.toNat < d.next.length,d.next[q.toNat]=row)∧h < row.length∧row[h]?.getD 0=((Z2o d q.toNat h:Nat):Int)∧∀hh:h < row.length,row[h]=((Z2o d q.toNat h:Nat):Int):=by
 have hq:q.toNat < d.next.length:=by omega
 have hr:=R.row _ hq;have hh:h < (d.next[q.toNat]).length:=by omega
 have ha:=R.at_ _ hq h hh
 have e1:d.next[q.toNat]? = some d.next[q.toNat]:=List.getElem?_eq_getElem hq
 have e2:(d.next[q.toNat])[h]? = some (d.next[q.toNat])[h]:=List.getElem?_eq_getElem hh
 have e:(d.next[q.toNat])[h]=((Z2o d q.toNat h:Nat):Int):=by
  unfold Z2o;simp only[List.getD_eq_getElem?_getD,e1,Option.getD_some,Int.toNat_natCast,e2];omega
 exact⟨d.next[q.toNat],by rw[e1];rfl,fun _=>rfl,hh,by rw[e2];exact e,fun _=>e⟩
theorem Zkc{d:Det}(i:Nat):d.fin[i]?.getD false=Z6n d i∧∀h:i < d.fin.length,d.fin[i]=Z6n d i:=⟨by simp[Z6n,List.getD_eq_getElem?_getD],fun h=>by simp[Z6n,List.getD_eq_getElem?_getD,h]⟩
theorem Zj8{P:Program}{b a:Det}(Rb:Z1Q b)(Ra:Z1Q a)(hs:b.signs=a.signs)(x:Int×Int)(hx:vM b a x)(s:Nat)(hlt:s < (2*b.signs).toNat) :
  AWb P 0 Z1B (Z2L [.c 8 (some 2)] (FzK (Z2f (Z5X b a x s)))) (Z53 [Z0v b,Z0v a,Z2f x,Z06 s]) S0:=by
 obtain⟨v0,v1,v2,v3,v4,v5⟩:=hx;have hsb:=Rb.s2;have hbf:=Rb.fin;have hbn:=Rb.n1;have han:=Ra.n1;have han0:0 < a.next.length:=by omega
 have hane:a.next≠[]:=List.length_pos_iff.mp han0
 obtain⟨p,q⟩:=x;simp only at v0 v1 v2 v3 v4 v5;unfold Z5X;have hq1:(s:Int) / 2=((s / 2:Nat):Int):=by omega
 have hd1:s % 2=1→((s:Int).tmod 2 == 1)=true:=fun h=>by rw[beq_iff_eq,Int.tmod_eq_emod_of_nonneg (by omega)];omega
 have hd2:¬s % 2=1→((s:Int).tmod 2 == 1)=false:=fun h=>by rw[beq_eq_false_iff_ne,Int.tmod_eq_emod_of_nonneg (by omega)];omega
 have hhs:((s / 2:Nat):Int) < b.signs:=by omega
 have hhs2:((s / 2:Nat):Int) < a.signs:=by omega
 generalize s / 2=h at *;have hq:IntKind.i64.wrap (h:Int)=(h:Int):=Z0m _ (by omega);by_cases hodd:s % 2=1
 ·have hd:=hd1 hodd
  rw[if_pos hodd];obtain rfl | rfl | rfl | rfl:p=0∨p=1∨p=2∨p=3:=by omega
  ·simp[Z1B,Z8R,Z92,hq1,hq,hd,Z2L,evC,RV.ev,ldC,Z1b,Z0w,Z1t,Z2f]
   exact Z78 _ _ _
  ·have hqf:q < (b.fin.length:Int):=by rw[hbf];exact v3 (by omega)
   obtain⟨row,r1,r1',r2,r3,r3'⟩:=Zcl Ra (q:=0) (by omega) (by omega) hhs2;simp only[Int.toNat_zero] at r1 r1' r3 r3';obtain⟨hfi,hfi'⟩:=Zkc (d:=b) q.toNat;cases hfb:Z6n b q.toNat with
   | true =>
    rw[hfb] at hfi hfi';simp[Z1B,Z8R,Z92,hq1,hq,hd,v2,hqf,hfi,hfi',r1,r1',r2,r3,r3',han0,hane,Z2L,evC,RV.ev,ldC,Z1b,Z0w,Z1t,Z2f];exact Z78 _ _ _
   | false =>
    rw[hfb] at hfi hfi';simp[Z1B,Z8R,Z92,hq1,hq,hd,v2,hqf,hfi,hfi',r1,r1',r2,r3,r3',han0,hane,Z2L,evC,RV.ev,ldC,Z1b,Z0w,Z1t,Z2f];exact Z78 _ _ _
  ·simp[Z1B,Z8R,Z92,hq1,hq,hd,Z2L,evC,RV.ev,ldC,Z1b,Z0w,Z1t,Z2f]
   exact Z78 _ _ _
  ·simp[Z1B,Z8R,Z92,hq1,hq,hd,Z2L,evC,RV.ev,ldC,Z1b,Z0w,Z1t,Z2f]
   exact Z78 _ _ _
 ·have hd:=hd2 hodd
  rw[if_neg hodd];obtain rfl | rfl | rfl | rfl:p=0∨p=1∨p=2∨p=3:=by omega
  ·obtain⟨row,r1,r1',r2,r3,r3'⟩:=Zcl Rb v2 (v3 (by omega)) hhs
   have hql:=v3 (by omega);simp[Z1B,Z8R,Z92,hq1,hq,hd,v2,hql,r1,r1',r2,r3,r3',Z2L,evC,RV.ev,ldC,Z1b,Z0w,Z1t,Z2f];exact Z78 _ _ _
  ·obtain⟨row,r1,r1',r2,r3,r3'⟩:=Zcl Rb v2 (v3 (by omega)) hhs
   have hql:=v3 (by omega);simp[Z1B,Z8R,Z92,hq1,hq,hd,v2,hql,r1,r1',r2,r3,r3',Z2L,evC,RV.ev,ldC,Z1b,Z0w,Z1t,Z2f];exact Z78 _ _ _
  ·obtain⟨row,r1,r1',r2,r3,r3'⟩:=Zcl Ra v2 (v4 (by omega)) hhs2
   have hql:=v4 (by omega);simp[Z1B,Z8R,Z92,hq1,hq,hd,v2,hql,r1,r1',r2,r3,r3',Z2L,evC,RV.ev,ldC,Z1b,Z0w,Z1t,Z2f];exact Z78 _ _ _
  ·simp[Z1B,Z8R,Z92,hq1,hq,hd,Z2L,evC,RV.ev,ldC,Z1b,Z0w,Z1t,Z2f]
   exact Z78 _ _ _
def pMk(b a:Det):AV:=.eptr (.agg [Z06 b.signs,Z0l b.next,Z2E b.fin,Z06 a.signs,Z0l a.next,Z2E a.fin]) 0
theorem Ziu{P:Program}{b a:Det}(Rb:Z1Q b)(Ra:Z1Q a)(hs:b.signs=a.signs)(x:Int×Int)(hx:vM b a x)(s:Nat)(hlt:s < (2*b.signs).toNat) :
  AWb P 0 Z1C (Z2L [.c 8 (some 2)] (FzK (Z2f (Z5X b a x s)))) (Z53 [pMk b a,Z2f x,Z06 (s / 2:Nat),Z1n (decide (s % 2=1))]) S0:=by
 obtain⟨v0,v1,v2,v3,v4,v5⟩:=hx;have hsb:=Rb.s2;have hbf:=Rb.fin;have hbn:=Rb.n1;have han:=Ra.n1;have han0:0 < a.next.length:=by omega
 have hane:a.next≠[]:=List.length_pos_iff.mp han0
 obtain⟨p,q⟩:=x;simp only at v0 v1 v2 v3 v4 v5;unfold Z5X;have hhs:((s / 2:Nat):Int) < b.signs:=by omega
 have hhs2:((s / 2:Nat):Int) < a.signs:=by omega
 generalize s / 2=h at *;by_cases hodd:s % 2=1
 ·rw[if_pos hodd,decide_eq_true hodd]
  obtain rfl | rfl | rfl | rfl:p=0∨p=1∨p=2∨p=3:=by omega
  ·simp[Z1C,pMk,Z47,Z2L,evC,RV.ev,ldC,Z1b,Z0w,Z1t,Z2f]
   exact Z78 _ _ _
  ·have hqf:q < (b.fin.length:Int):=by rw[hbf];exact v3 (by omega)
   obtain⟨row,r1,r1',r2,r3,r3'⟩:=Zcl Ra (q:=0) (by omega) (by omega) hhs2;simp only[Int.toNat_zero] at r1 r1' r3 r3';obtain⟨hfi,hfi'⟩:=Zkc (d:=b) q.toNat;cases hfb:Z6n b q.toNat with
   | true =>
    rw[hfb] at hfi hfi';simp[Z1C,pMk,Z47,v2,hqf,hfi,hfi',r1,r1',r2,r3,r3',han0,hane,Z2L,evC,RV.ev,ldC,Z1b,Z0w,Z1t,Z2f];exact Z78 _ _ _
   | false =>
    rw[hfb] at hfi hfi';simp[Z1C,pMk,Z47,v2,hqf,hfi,hfi',r1,r1',r2,r3,r3',han0,hane,Z2L,evC,RV.ev,ldC,Z1b,Z0w,Z1t,Z2f];exact Z78 _ _ _
  ·simp[Z1C,pMk,Z47,Z2L,evC,RV.ev,ldC,Z1b,Z0w,Z1t,Z2f]
   exact Z78 _ _ _
  ·simp[Z1C,pMk,Z47,Z2L,evC,RV.ev,ldC,Z1b,Z0w,Z1t,Z2f]
   exact Z78 _ _ _
 ·rw[if_neg hodd,decide_eq_false hodd]
  obtain rfl | rfl | rfl | rfl:p=0∨p=1∨p=2∨p=3:=by omega
  ·obtain⟨row,r1,r1',r2,r3,r3'⟩:=Zcl Rb v2 (v3 (by omega)) hhs
   have hql:=v3 (by omega);simp[Z1C,pMk,Z47,v2,hql,r1,r1',r2,r3,r3',Z2L,evC,RV.ev,ldC,Z1b,Z0w,Z1t,Z2f];exact Z78 _ _ _
  ·obtain⟨row,r1,r1',r2,r3,r3'⟩:=Zcl Rb v2 (v3 (by omega)) hhs
   have hql:=v3 (by omega);simp[Z1C,pMk,Z47,v2,hql,r1,r1',r2,r3,r3',Z2L,evC,RV.ev,ldC,Z1b,Z0w,Z1t,Z2f];exact Z78 _ _ _
  ·obtain⟨row,r1,r1',r2,r3,r3'⟩:=Zcl Ra v2 (v4 (by omega)) hhs2
   have hql:=v4 (by omega);simp[Z1C,pMk,Z47,v2,hql,r1,r1',r2,r3,r3',Z2L,evC,RV.ev,ldC,Z1b,Z0w,Z1t,Z2f];exact Z78 _ _ _
  ·have h0:=v5 rfl
   subst h0;simp[Z1C,pMk,Z47,Z2L,evC,RV.ev,ldC,Z1b,Z0w,Z1t,Z2f];exact Z78 _ _ _
end Go.Rf
namespace Go.Rf
open Go.RowKit
attribute [local simp] Z4t Z4q Z3h Z2s Z3f Z3j Z3g Z4r Z4s Z3i Z3n Z1A Z1y Z2q Z1H Z41 Z3v ZcH Z7E Z7D Z5R ZcG Z7C Z5P Z4v Z3k Z4u Z7x Z7w Z5J Z4x Z3l Z4w Z7z Z7y Z5K Z1z Z2v Z3o Z3p Z1D Z1o Z0c Z0B Z0q Z08 Z0o Z0h Z09 Z0p Z0i Z0Y Z0j Z0z Z0K Z0k Z0J Z1W Z3U Z0X Z25 Z22 Z24 Z23 Z26 Z1j Z0D Z11 Z12 Z1T Z1U Z1V Z0H Z0I Z1i Z0r Z0W Z20 Z1X Z1Z Z1Y Z21 Z1k Z13 Z1g Z0U Z0V Z0C Z1h Z0P Z1a Z1f Z14 Z1l ex Z00 Z0R Z6K Z6P Z0f Z0g Z0A Z2k Z1d Z10 Z0y Z0F Z0G Z0E Z0s Z0Z Z5y Z0O Z37 Z1c Z1O Z3s Z0b Z1E Z28 Z19 Z0Q Z2w Z27 Z3u Z2x Z1P Z6A Z3C Z6z Z3t Z6w Z3D Z51 Z4A Z3z Z2B Z2C Z29 Z2z Z2A Z3y Z1M Z2y Z3x Z3A S0 Z06 Z1n Z39 Z34 Z56 Z38 Z33 Z55 Z44 Z36 Z43 Z6j Z5a Z6i Z59 Z45 Z58 Zjt ZqI vQ0 vQ1 ZvC ZvD ZvE ZqJ ZoI ZkK Zd1 Z5r Z2U Z72.cl Z5z.cl Z04 Z0L Z02 Z0T Z1w Z2j Z1N Z2n Z1p Z3r Z4N Z3V Z4M Z5L Z5W Z3E Z4O Z5w Z5m Z5S Z4U Z4X Z4W Z42 Z2c Z2H Z62 Z3m Z3W Z4y Z2J Z2I Z17 Z68 Z2G Z4k Z1S Z4B
def ZgZ:AC :=
 (.block 4 (.loop (.seq (.seq (.reg (some []) [
     rm 70 14,
     rm 71 8,
     ro 72 (.len (.t 71)),
     ro 73 (.bin .lss (.t 70) (.t 72)),
     rm 74 73,
     rg 75 74 true (.mv (.t 8)),
     rg 76 74 true (.mv (.t 14)),
     rg 77 74 true (.idxA 2 (.t 75) (.t 76)),
     rg 78 74 true (.load (some 2) (.t 77)),
     rg 79 74 true (.load (some 2) (.t 13)),
     rg 80 74 true (.seq true [0,1] (.t 78) (.t 79)),
     ro 81 (.pick (.t 74) (.t 80) (.c (.v (.bool false))))])
     (.cond (.t 81) .skip (.exit 4)))
     (.block 5 (.reg none [
      rm 82 14,
      ro 83 (.bin .add (.t 82) (ci 1)),
      rm 14 83])))))
def ZjT(P0I:FuncId):AC :=
 (.block 2 (.loop (.seq (.seq (.reg none [
    rm 56 12,
    ro 57 (.fieldA 0 (.t 9)),
    ro 58 (.load none (.t 57)),
    ro 59 (.bin .lss (.t 56) (.t 58))])
   (.cond (.t 59) .skip (.exit 2)))
   (.seq (.block 3 (.seq (.reg (some [[],[],[],[],[],[],[],[],[true,true,true,true,true,true,true,true]]) [
    ro 62 (.load (some 3) (.t 3)),
    ro 63 (.load (some 3) (.t 4)),
    rm 64 8,
    rm 65 10,
    ro 66 (.idxA 2 (.t 64) (.t 65)),
    ro 67 (.load (some 2) (.t 66)),
    rm 68 12,
    rk 69 P0I [(.t 62),(.t 63),(.t 67),(.t 68)],
    ro 13 (.alloc (.agg [(.v (.int .i64 0)),(.v (.int .i64 0))]) 2),
    rn (.store 2 (.t 13) (.t 69))])
    (.seq (.reg none [
    ro 14 (.mv (ci 0))])
    (.seq ZgZ
    (.seq (.seq (.reg none [
    rm 84 14,
    rm 85 8,
    ro 86 (.len (.t 85)),
    ro 87 (.bin .eql (.t 84) (.t 86))])
    (.cond (.t 87) (.seq (.seq (.reg none [
     rm 88 14,
     rm 89 2,
     ro 90 (.bin .eql (.t 88) (.t 89))])
    (.cond (.t 90) (.seq (.reg none [
     ro 91 (.build (.agg [(.v (.int .i64 0)),(.sl true []),(.sl true [])]) [] []),
     rn (.store 3 (.t 6) (.t 91)),
     ro 7 (.mv (ci 13))])
     .ret) .skip))
    (.reg none [
     rm 92 8,
     ro 93 (.load (some 2) (.t 13)),
     ro 94 (.bslice 2 1 (.agg [(.v (.int .i64 0)),(.v (.int .i64 0))]) [(0,(.t 93))]),
     ro 95 (.app 2 16 (.t 92) (.t 94)),
     rm 8 95])) .skip))
    (.reg none [
    rm 96 11,
    rm 97 14,
    ro 98 (.bslice 1 1 (.v (.int .i64 0)) [(0,(.t 97))]),
    ro 99 (.app 1 8 (.t 96) (.t 98)),
    rm 11 99]))))))
   (.reg none [
    rm 60 12,
    ro 61 (.bin .add (.t 60) (ci 1)),
    rm 12 61])))))
def Z9n:AC :=
 (.reg (some [[],[],[],[],[],[true],[false,true],[false,false,true],[false,false,false,true],[false,false,false,false,true],[false,false,false,false,false,true],[false,false,false,false,false,false,true],[false,false,false,false,false,false,false,true],[],[],[],[],[],[],[],[],[],[],[],[],[],[true]]) [
   ro 100 (.fieldA 1 (.t 9)),
   ro 101 (.load none (.t 100)),
   rm 102 11,
   ro 103 (.bslice 1 1 (.sl true []) [(0,(.t 102))]),
   ro 104 (.app 1 24 (.t 101) (.t 103)),
   ro 105 (.fieldA 2 (.t 9)),
   ro 106 (.load none (.t 105)),
   rm 107 8,
   rm 108 10,
   ro 109 (.idxA 2 (.t 107) (.t 108)),
   ro 110 (.fieldA 0 (.t 109)),
   ro 111 (.load none (.t 110)),
   ro 112 (.bin .eql (.t 111) (ci 2)),
   rm 113 112,
   rg 114 113 true (.fieldA 2 (.t 4)),
   rg 115 113 true (.load none (.t 114)),
   rg 116 113 true (.mv (.t 8)),
   rg 117 113 true (.mv (.t 10)),
   rg 118 113 true (.idxA 2 (.t 116) (.t 117)),
   rg 119 113 true (.fieldA 1 (.t 118)),
   rg 120 113 true (.load none (.t 119)),
   rg 121 113 true (.idxA 1 (.t 115) (.t 120)),
   rg 122 113 true (.load none (.t 121)),
   ro 123 (.pick (.t 113) (.t 122) (.c (.v (.bool false)))),
   ro 124 (.bslice 1 1 (.v (.bool false)) [(0,(.t 123))]),
   ro 125 (.app 1 1 (.t 106) (.t 124)),
   ro 126 (.fieldA 1 (.t 9)),
   rn (.store 1 (.t 126) (.t 104)),
   ro 127 (.fieldA 2 (.t 9)),
   rn (.store 1 (.t 127) (.t 125))])
def ZjS(P0I:FuncId):AC :=
 (.block 0 (.loop (.seq (.seq (.reg none [
  rm 50 10,
  rm 51 8,
  ro 52 (.len (.t 51)),
  ro 53 (.bin .lss (.t 50) (.t 52))])
  (.cond (.t 53) .skip (.exit 0)))
  (.seq (.block 1 (.seq (.reg none [
   ro 11 (.mv (.c (.sl true [])))])
  (.seq (.seq (.reg none [
   ro 12 (.mv (ci 0))])
  (ZjT P0I))
  Z9n)))
  (.reg none [
  rm 54 10,
  ro 55 (.bin .add (.t 54) (ci 1)),
  rm 10 55])))))
def ZfG:AC :=
 (.seq (.reg none [
 ro 128 (.load (some 3) (.t 9)),
 rn (.store 3 (.t 6) (.t 128)),
 ro 7 (.mv (ci 0))])
 .ret)
def Z6c(P0h P0I:FuncId):AC :=
 (.seq (.reg none [
 ro 3 (.box 3 (.t 0)),
 ro 4 (.box 3 (.t 1)),
 ro 6 (.alloc (.agg [(.v (.int .i64 0)),(.sl true []),(.sl true [])]) 3),
 ro 7 (.mv (ci 0))])
 (.seq (.seq (.reg none [
 ro 15 (.load (some 3) (.t 3)),
 rk 16 P0h [(.t 15)],
 ro 17 (.un .not (.t 16)),
 rm 18 17,
 rg 19 18 false (.load (some 3) (.t 4)),
 rl 20 18 false P0h [(.t 19)],
 rg 21 18 false (.un .not (.t 20)),
 ro 22 (.pick (.t 18) (.c (.v (.bool true))) (.t 21)),
 rm 23 22,
 rg 24 23 false (.fieldA 0 (.t 3)),
 rg 25 23 false (.load none (.t 24)),
 rg 26 23 false (.fieldA 0 (.t 4)),
 rg 27 23 false (.load none (.t 26)),
 rg 28 23 false (.bin .neq (.t 25) (.t 27)),
 ro 29 (.pick (.t 23) (.c (.v (.bool true))) (.t 28)),
 rm 30 29,
 rg 31 30 false (.fieldA 0 (.t 3)),
 rg 32 30 false (.load none (.t 31)),
 rg 33 30 false (.bin .gtr (.t 32) (ci 200)),
 ro 34 (.pick (.t 30) (.c (.v (.bool true))) (.t 33)),
 rm 35 34,
 rg 36 35 false (.mv (.t 2)),
 rg 37 35 false (.bin .lss (.t 36) (ci 1)),
 ro 38 (.pick (.t 35) (.c (.v (.bool true))) (.t 37)),
 rm 39 38,
 rg 40 39 false (.mv (.t 2)),
 rg 41 39 false (.bin .gtr (.t 40) (ci 3000)),
 ro 42 (.pick (.t 39) (.c (.v (.bool true))) (.t 41))])
 (.cond (.t 42) (.seq (.reg none [
  ro 43 (.build (.agg [(.v (.int .i64 0)),(.sl true []),(.sl true [])]) [] []),
  rn (.store 3 (.t 6) (.t 43)),
  ro 7 (.mv (ci 1))])
 .ret) .skip))
 (.seq (.reg none [
 ro 44 (.build (.agg [(.v (.int .i64 0)),(.v (.int .i64 0))]) [(0,1),(1,1)] [(0,(ci 0)),(1,(ci 0))]),
 ro 45 (.bslice 2 1 (.agg [(.v (.int .i64 0)),(.v (.int .i64 0))]) [(0,(.t 44))]),
 rm 8 45])
 (.seq (.reg none [
 ro 46 (.fieldA 0 (.t 3)),
 ro 47 (.load none (.t 46)),
 ro 48 (.bin .mul (ci 2) (.t 47)),
 ro 49 (.build (.agg [(.v (.int .i64 0)),(.sl true []),(.sl true [])]) [(0,1)] [(0,(.t 48))]),
 ro 9 (.alloc (.agg [(.v (.int .i64 0)),(.sl true []),(.sl true [])]) 3),
 rn (.store 3 (.t 9) (.t 49))])
 (.seq (.seq (.reg none [
 ro 10 (.mv (ci 0))])
 (ZjS P0I))
 ZfG)))))
abbrev ZrH:=StK (Int×Int)×(Bool×Bool×Bool)
abbrev Zmu:=(List (Int×Int)×List Int)×(Bool×Bool)
section
variable(b a:Det)(most:Int)
def Zww(i:Nat)(s:ZrH):Prop:=stK (mkM b a) most i=some s.1∧∀m,m < i→∀stm,stK (mkM b a) most m=some stm→m≠stm.1.length
def Z84(i:Nat)(ss:List (Int×Int))(o:Bool):List (Nat×AV):=[(2,Z06 most),(3,.ptr 0 0 0),(4,.ptr 1 0 0),(6,.ptr 2 0 0),(8,vV o 4 (ss.map Z2f)),(9,.ptr 3 0 0),(10,Z06 i)]
def Z85(ss:List (Int×Int))(nx:List (List Int))(en:List Bool)(o oN oE:Bool):List (Nat×Option Blk) :=
 [(0,some (.arr 3 [Z0v b])),(1,some (.arr 3 [Z0v a])),(2,some (.arr 3 [Z7i])),(3,some (.arr 3 [.agg [.v (.int .i64 (2*b.signs)),vV oN 5 (nx.map Z03),vV oE 6 (en.map Z1n)]])),(4,vB o 2 (ss.map Z2f)),(5,vB oN 1 (nx.map Z03)),(6,vB oE 1 (en.map Z1n))]
def Zcq(i:Nat)(s:ZrH):List (Nat×AV):=Z84 most i s.1.1 s.2.1
def Zcr(_:Nat)(s:ZrH):List (Nat×Option Blk):=Z85 b a s.1.1 s.1.2.1 s.1.2.2 s.2.1 s.2.2.1 s.2.2.2
def Zwx(x:Int×Int)(ss0:List (Int×Int))(k:Nat)(s:Zmu):Prop:=Zet most (Z5X b a x) k ss0=some s.1∧∀j (h:j < ss0.length),s.1.1[j]? = some ss0[j]
def Zan(i:Nat)(k:Nat)(s:Zmu):List (Nat×AV):=(11,vV s.2.1 7 (s.1.2.map Z06))::(12,Z06 k)::Z84 most i s.1.1 s.2.2
def Zao(nx:List (List Int))(en:List Bool)(oN oE:Bool)(_:Nat)(s:Zmu):List (Nat×Option Blk):=(7,vB s.2.1 1 (s.1.2.map Z06))::Z85 b a s.1.1 nx en s.2.2 oN oE
def ZqN(ss:List (Int×Int))(to:Int×Int)(j:Nat)(_:Unit):Prop:=to∉ss.take j
def Zjp(i k:Nat)(s:Zmu)(j:Nat)(_:Unit):List (Nat×AV):=(13,.ptr 8 0 0)::(14,Z06 j)::Zan most i k s
def Zjq(nx:List (List Int))(en:List Bool)(oN oE:Bool)(s:Zmu)(to:Int×Int)(_:Nat)(_:Unit):List (Nat×Option Blk):=(8,some (.arr 2 [Z2f to]))::Zao b a nx en oN oE 0 s
end
theorem Zof{P:Program}{fr fn:FuncId}(b a:Det)(most:Int)(hrb:Z0t P fr [Z0v b] (Z1n (Z2r b)))(hra:Z0t P fr [Z0v a] (Z1n (Z2r a)))
  (hn:Z1Q b→Z1Q a→b.signs=a.signs→∀x (s:Nat),vM b a x→s < (2*b.signs).toNat→Z0t P fn [Z0v b,Z0v a,Z2f x,Z06 s] (Z2f (Z5X b a x s))) :
  AWb P 0 (Z6c fr fn) (Z2L [.c 6 (some 3),.t 7] (FzK (Z3N (Z4j b a most)))) (Z53 [Z0v b,Z0v a,Z06 most]) S0:=by
 simp[Z6c];refine Z0x.pure hrb (Z01 (Z0e b) Z0a) (Z0L _) ?_;cases hRb:Z2r b with
 | false =>
  have hres:Z4j b a most=(⟨0,[],[]⟩,1):=by simp[Z4j,hRb]
  rw[hres];simp[Z2L,evC,RV.ev,ldC,Z1b,Z0w,Z1t];exact Z2F _ 1
 | true =>
 simp;refine Z0x.pure hra (Z01 (Z0e a) Z0a) (Z0L _) ?_;cases hRa:Z2r a with
 | false =>
  have hres:Z4j b a most=(⟨0,[],[]⟩,1):=by simp[Z4j,hRa]
  rw[hres];simp[Z2L,evC,RV.ev,ldC,Z1b,Z0w,Z1t];exact Z2F _ 1
 | true =>
 have Rb:=(Z5v b).mp hRb;have Ra:=(Z5v a).mp hRa;by_cases hsg:b.signs=a.signs;rotate_left
 ·have hres:Z4j b a most=(⟨0,[],[]⟩,1):=by rw[Z4j,if_neg (by simp[hsg])]
  have hne:(b.signs != a.signs)=true:=by simp[hsg]
  rw[hres];simp[hne,Z2L,evC,RV.ev,ldC,Z1b,Z0w,Z1t];exact Z2F _ 1
 have hne:(b.signs != a.signs)=false:=by simp[hsg]
 by_cases h2:200 < b.signs
 ·have hres:Z4j b a most=(⟨0,[],[]⟩,1):=by rw[Z4j,if_neg (by omega)]
  rw[hres];simp[hne,h2,Z2L,evC,RV.ev,ldC,Z1b,Z0w,Z1t];exact Z2F _ 1
 by_cases h1:most < 1
 ·have hres:Z4j b a most=(⟨0,[],[]⟩,1):=by rw[Z4j,if_neg (by omega)]
  rw[hres];simp[hne,h2,h1,Z2L,evC,RV.ev,ldC,Z1b,Z0w,Z1t];exact Z2F _ 1
 by_cases h3:3000 < most
 ·have hres:Z4j b a most=(⟨0,[],[]⟩,1):=by rw[Z4j,if_neg (by omega)]
  rw[hres];simp[hne,h2,h1,h3,Z2L,evC,RV.ev,ldC,Z1b,Z0w,Z1t];exact Z2F _ 1
 have hres:Z4j b a most=(match ZdQ (mkM b a) most with | some st=>(⟨2*b.signs,st.2.1,st.2.2⟩,0) | none=>(⟨0,[],[]⟩,13)):=by rw[Z4j,if_pos ⟨hRb,hRa,hsg,by omega,by omega,by omega⟩];cases ZdQ (mkM b a) most<;>rfl
 have hs1:=Rb.s1;have hww:IntKind.i64.wrap (2*b.signs)=2*b.signs:=Z0m _ (by omega);have I:=Zwf Rb Ra hsg;have hn':=hn Rb Ra hsg;have hMsg:(mkM b a).sg=(2*b.signs).toNat:=rfl;have hMb:(mkM b a).b=Z5X b a:=rfl;simp[hne,h2,h1,h3,hww,Z0w,Z1t,ZfG,ZjS];refine Z2D most.toNat (Zww b a most) (Zcq most) 10 (Zcr b a) (([(0,0)],[],[]),false,false,false) ⟨rfl,fun m hm=>by omega⟩ ?_ ?_
 ·refine Abs.of [(0,0),(1,1),(2,2),(3,39)] [] (by omega) ⟨by simp,by simp⟩ ?_ ?_
  ·simp[Zcr,Z85,Z7i,Z0e]
  ·simp[Zcq,Z84,Z2f]
   exact .cl (.sl _ _ (Z01 (.agg _ (Z01 (.v _) (Z01 (.v _) Z0a))) Z0a))
 ·rintro i ⟨⟨ss,nx,fin⟩,o,oN,oE⟩ hi' ⟨heq,hmin⟩
  simp only at heq hmin;have ok:=Zfk I (by omega) i heq;have hle:=ok.le;have hsl:=ok.ss.l;simp only at hle hsl;by_cases hlt:i < ss.length
  ·obtain⟨x,hx⟩:∃x,ss[i]? = some x:=⟨_,List.getElem?_eq_getElem hlt⟩
   have hvx:vM b a x:=ok.ss.v x (by obtain⟨h1,h2⟩:=List.getElem?_eq_some_iff.mp hx;rw[←h2];exact List.getElem_mem h1);have hnxt:stK (mkM b a) most (i+1)=nxK (mkM b a) most i (ss,nx,fin):=by simp only[stK,heq]
   simp[Zcq,Z84,Zcr,Z85,hlt,ZjT];refine Z2D (2*b.signs).toNat (Zwx b a most x ss) (Zan most i) 10 (Zao b a nx fin oN oE) ((ss,[]),false,o) ⟨rfl,fun j hj=>List.getElem?_eq_getElem hj⟩ ?_ ?_
   ·refine Abs.of [(0,0),(1,1),(2,2),(3,3),(4,4),(5,5),(6,6)] [] (by omega) ⟨by simp,by simp⟩ ?_ ?_
    ·simp[Zao,Z85,Z7i,Z0e,Z4L]
    ·simp[Zan,Z84,Z4L]
   ·rintro k ⟨⟨ss1,r⟩,oR,o1⟩ hk ⟨hrow,hpre⟩
    simp only at hrow hpre;obtain⟨hok,hlen1,hrl⟩:=Zgm (V:=vM b a) (fun s hs=>I.next x s hvx hs) ok.ss k hk hrow;simp only at hok hlen1 hrl;have hl1:=hok.l;have hi1:i < ss1.length:=by omega
    have hgi:ss1[i]? = some x:=by rw[hpre i hlt,←hx,List.getElem?_eq_getElem hlt]
    obtain⟨hgi1,hgi2⟩:=List.getElem?_eq_some_iff.mp hgi;by_cases hkl:k < (2*b.signs).toNat
    ·have hkI:(k:Int) < 2*b.signs:=by omega
     have hxn:=hn' x k hvx hkl;have hvb:=I.next x k hvx hkl
     have D:=fun n' g'=>Z5A.cd (S:=⟨n',g'⟩) hxn (Z01 (Z0e b) (Z01 (Z0e a) (Z01 (Z40 _) (Z01 (Z04 _) Z0a)))) (Z40 _)
     have hokr:Z1K 8 r.length 1:=by unfold Z1K;omega
     rw[hMb] at hvb;generalize hto:Z5X b a x k=to at D hvb;simp only[Z06] at D;simp[Zan,Z84,Zao,Z85,hkI,hi1,hgi,hgi2];refine⟨_,_,D _ _,?_⟩;simp[ZgZ];refine Z2D ss1.length (ZqN ss1 to) (Zjp most i k ((ss1,r),oR,o1)) 10 (Zjq b a nx fin oN oE ((ss1,r),oR,o1) to) () (by simp[ZqN]) ?_ ?_
     ·refine Abs.of [(0,0),(1,1),(2,2),(3,3),(4,4),(5,5),(6,6),(7,7),(8,22)] [] (by omega) ⟨by simp,by simp⟩ ?_ ?_
      ·simp[Zjq,Zao,Z85,Z7i,Z0e,Z40,Z4L]
      ·simp[Zjp,Zan,Z84,Z4L]
     ·rintro j _ hj hnot
      by_cases hjl:j < ss1.length
      ·have hjI:(j:Int) < (ss1.length:Int):=by omega
       by_cases heq2:ss1[j]=to
       ·have hne2:decide (ss1[j]≠to)=false:=by simp[heq2]
        have hidx:(@List.idxOf _ instBEqOfDecidableEq to ss1:Int)=j:=by
         have:=@ZfW _ instBEqOfDecidableEq inferInstance ss1 to j hjl heq2 hnot;rw[this]
        have hnf:ZhB most ss1 (Z5X b a x k)=some (ss1,(j:Int)):=by
         unfold ZhB;rw[hto,if_pos (by rw[←heq2];exact List.getElem_mem hjl),hidx]
        have hjne:((j:Int) == (ss1.length:Int))=false:=by simp;omega
        simp[Zjp,Zan,Z84,Zjq,Zao,Z85,hjl,hne2,hjne,hokr];rw[Z0m _ (by omega)];refine⟨hkl,((ss1,r++[(j:Int)]),true,o1),⟨by simp only[Zet,hrow,hnf],hpre⟩,Abs.of [(0,0),(1,1),(2,2),(3,3),(4,4),(5,5),(6,6),(7,29)] [] (by omega) ⟨by simp,by simp⟩ ?_ ?_⟩
        ·simp[Zao,Z85,Z7i,Z0e,Z4L]
        ·simp[Zan,Z84,Z4L]
       ·have hne2:decide (ss1[j]≠to)=true:=by simp[heq2]
        simp[Zjp,Zan,Z84,Zjq,Zao,Z85,hjl,hne2];rw[Z0m _ (by omega)];refine⟨hjl,(),?_,Abs.of [(0,0),(1,1),(2,2),(3,3),(4,4),(5,5),(6,6),(7,7),(8,8)] [] (by omega) ⟨by simp,by simp⟩ ?_ ?_⟩
        ·unfold ZqN at hnot ⊢
         rw[List.take_add_one,List.getElem?_eq_getElem hjl];simp only[Option.toList_some,List.mem_append,List.mem_singleton,not_or];exact⟨hnot,fun e=>heq2 e.symm⟩
        ·simp[Zjq,Zao,Z85,Z7i,Z0e,Z40,Z4L]
        ·simp[Zjp,Zan,Z84,Z4L]
      ·have hje:j=ss1.length:=by omega
       subst hje;have hnot':to∉ss1:=by unfold ZqN at hnot;rwa[List.take_length] at hnot
       by_cases hfull:(ss1.length:Int)=most
       ·have hnf:ZhB most ss1 (Z5X b a x k)=none:=by unfold ZhB;rw[hto,if_neg hnot',if_pos hfull]
        have hrn:Zet most (Z5X b a x) (2*b.signs).toNat ss=none:=Ze7 (k:=k+1) (by simp only[Zet,hrow,hnf]) _ (by omega)
        have hnone:ZdQ (mkM b a) most=none:=by
         refine ZfV (most.toNat+1) 0 rfl i (Nat.zero_le _) (by rw[hnxt];simp only[nxK,hx,hMsg,hMb,hrn]) (fun m _ h2 stm hstm=>?_);by_cases hmi:m=i
         ·subst hmi
          rw[heq] at hstm;cases hstm;simp only;omega
         ·exact hmin m (by omega) stm hstm
        rw[hnone] at hres;simp only at hres;have hfe:((ss1.length:Int) == most)=true:=by simp[hfull]
        rw[hres];simp[Zjp,Zan,Z84,Zjq,Zao,Z85,hfe,Z2L,evC,RV.ev,ldC,Z1b,Z0w,Z1t,Z7i];exact Z2F _ 13
       ·have hnf:ZhB most ss1 (Z5X b a x k)=some (ss1++[to],(ss1.length:Int)):=by unfold ZhB;rw[hto,if_neg hnot',if_neg hfull]
        have hfe:((ss1.length:Int) == most)=false:=by simp[hfull]
        have hoks:Z1K 16 ss1.length 1:=by unfold Z1K;omega
        simp[Zjp,Zan,Z84,Zjq,Zao,Z85,hfe,hokr,hoks];rw[Z0m _ (by omega)];refine⟨hkl,((ss1++[to],r++[(ss1.length:Int)]),true,true),⟨by simp only[Zet,hrow,hnf],fun a ha=>?_⟩,Abs.of [(0,0),(1,1),(2,2),(3,3),(4,32),(5,5),(6,6),(7,37)] [] (by omega) ⟨by simp,by simp⟩ ?_ ?_⟩
        ·have:=hpre a ha
         have hal:=(List.getElem?_eq_some_iff.mp this).1;simp only;rw[List.getElem?_append_left hal];exact this
        ·simp[Zao,Z85,Z7i,Z0e,Z40,Z4L,Z2f]
        ·simp[Zan,Z84,Z4L]
    ·have hkL:k=(2*b.signs).toNat:=by omega
     have hkI:¬((k:Int) < 2*b.signs):=by omega
     rw[hkL] at hrow;have hnx:=ok.nx;have hfn:=ok.en;simp only at hnx hfn;have hokx:Z1K 24 nx.length 1:=by unfold Z1K;omega
     have hoke:Z1K 1 fin.length 1:=by unfold Z1K;omega
     have hsr:nxK (mkM b a) most i (ss,nx,fin)=some (ss1,nx++[r],fin++[Zcy a x]):=by simp only[nxK,hx,hMsg,hMb,hrow];rfl
     obtain⟨v0,v1,v2,v3,v4,v5⟩:=hvx;by_cases h2x:x.1=2
     ·have hme:Zcy a x=Z6n a x.2.toNat:=by simp[Zcy,h2x]
      have haf:=Ra.fin;have hqf:x.2 < (a.fin.length:Int):=by have:=v4 h2x;omega
      obtain⟨hfi,hfi'⟩:=Zkc (d:=a) x.2.toNat;cases o1
      ·simp[Zan,Z84,Zao,Z85,hkI,hi1,hgi,hgi2,Z9n,hokx,hoke,h2x,v2,hqf,hfi,hfi',vP,Z1S]
       refine⟨by rintro j (⟨_,rfl⟩ | rfl)<;>simp,?_⟩;rw[Z0m _ (by omega)];refine⟨by omega,((ss1,nx++[r],fin++[Zcy a x]),false,true,true),⟨by rw[hnxt,hsr],fun m hm stm hstm=>?_⟩,Abs.of [(0,0),(1,1),(2,2),(3,3),(4,4),(5,18),(6,39)] [7] (by omega) ⟨by simp,by simp⟩ ?_ ?_⟩
       ·by_cases hmi:m=i
        ·subst hmi
         rw[heq] at hstm;cases hstm;simp only;omega
        ·exact hmin m (by omega) stm hstm
       ·simp[Zcr,Z85,Z7i,Z0e,Z4L,hme]
       ·simp[Zcq,Z84,Z4L]
        exact .cl (.sl _ _ (Z4L _))
      ·simp[Zan,Z84,Zao,Z85,hkI,hi1,hgi,hgi2,Z9n,hokx,hoke,h2x,v2,hqf,hfi,hfi',vP,Z1S]
       refine⟨by rintro j (⟨_,rfl⟩ | rfl)<;>simp,by rintro j (⟨_,rfl⟩ | rfl)<;>simp,?_⟩;rw[Z0m _ (by omega)];refine⟨by omega,((ss1,nx++[r],fin++[Zcy a x]),true,true,true),⟨by rw[hnxt,hsr],fun m hm stm hstm=>?_⟩,Abs.of [(0,0),(1,1),(2,2),(3,3),(4,4),(5,18),(6,39)] [7] (by omega) ⟨by simp,by simp⟩ ?_ ?_⟩
       ·by_cases hmi:m=i
        ·subst hmi
         rw[heq] at hstm;cases hstm;simp only;omega
        ·exact hmin m (by omega) stm hstm
       ·simp[Zcr,Z85,Z7i,Z0e,Z4L,hme]
       ·simp[Zcq,Z84,Z4L]
     ·have hme:Zcy a x=false:=by simp[Zcy,h2x]
      have h2xb:(x.1 == 2)=false:=by simp[h2x]
      cases o1
      ·simp[Zan,Z84,Zao,Z85,hkI,hi1,hgi,hgi2,Z9n,hokx,hoke,h2xb,vP,Z1S]
       refine⟨by rintro j (⟨_,rfl⟩ | rfl)<;>simp,?_⟩;rw[Z0m _ (by omega)];refine⟨by omega,((ss1,nx++[r],fin++[Zcy a x]),false,true,true),⟨by rw[hnxt,hsr],fun m hm stm hstm=>?_⟩,Abs.of [(0,0),(1,1),(2,2),(3,3),(4,4),(5,18),(6,39)] [7] (by omega) ⟨by simp,by simp⟩ ?_ ?_⟩
       ·by_cases hmi:m=i
        ·subst hmi
         rw[heq] at hstm;cases hstm;simp only;omega
        ·exact hmin m (by omega) stm hstm
       ·simp[Zcr,Z85,Z7i,Z0e,Z4L,hme]
       ·simp[Zcq,Z84,Z4L]
        exact .cl (.sl _ _ (Z4L _))
      ·simp[Zan,Z84,Zao,Z85,hkI,hi1,hgi,hgi2,Z9n,hokx,hoke,h2xb,vP,Z1S]
       refine⟨by rintro j (⟨_,rfl⟩ | rfl)<;>simp,by rintro j (⟨_,rfl⟩ | rfl)<;>simp,?_⟩;rw[Z0m _ (by omega)];refine⟨by omega,((ss1,nx++[r],fin++[Zcy a x]),true,true,true),⟨by rw[hnxt,hsr],fun m hm stm hstm=>?_⟩,Abs.of [(0,0),(1,1),(2,2),(3,3),(4,4),(5,18),(6,39)] [7] (by omega) ⟨by simp,by simp⟩ ?_ ?_⟩
       ·by_cases hmi:m=i
        ·subst hmi
         rw[heq] at hstm;cases hstm;simp only;omega
        ·exact hmin m (by omega) stm hstm
       ·simp[Zcr,Z85,Z7i,Z0e,Z4L,hme]
       ·simp[Zcq,Z84,Z4L]
  ·have hie:i=ss.length:=by omega
   subst hie;have hmade:ZdQ (mkM b a) most=some (ss,nx,fin):=ZiY I (by omega) (most.toNat+1) 0 rfl (by omega) ss.length (ss,nx,fin) (Nat.zero_le _) heq rfl (fun m _ h2=>hmin m h2);rw[hmade] at hres;simp only at hres;rw[hres];simp[Zcq,Z84,Zcr,Z85,ZfG,Z2L,evC,RV.ev,ldC,Z1b,Z7i];refine .P5g (.cons (.P5i (.cons (.closed _ (.v _)) (.cons (Zam ?_ (Z3E _)) (.cons (Zam ?_ (Z5W _)) .nil)))) (.cons (.closed _ (.v _)) .nil))
   ·simp
   ·simp
end Go.Rf
namespace Go.Rf
open Go.RowKit
theorem Z0t.P5D{P:Program}(hm:P.follows .mixedOrders=true){f:FuncId}{fn:Func}{c:Code}{X:AC}{d:Nat}{Y:AC}{t:Nat}{T e:TypeId}(hf:P.funcs[f]? = some fn)(hnm:(fn.name == "runtime.NumGoroutine")=false)(hb:fn.body=some c)
  (hc:comp P fn.ntmps c=some (.seq X (.seq (.reg none [⟨some d,.alloc ZtB 2,none,none⟩]) Y))) (hT:Zdc c=some T) (hr:fn.results=([t].map ResultVar.tmp).toArray) {args:List AV} (hn:args.length≤fn.ntmps) {r:Value} (hrs:Z9J r=true) {A:List (Nat×AV)}
  (h0:AWb P 0 X (fun e a S=>e=.normal∧Abs 0 a S (Z6h A) ⟨0,gOf []⟩) (Z53 args) S0)
  (h1:∀E B w w0,BE E B B→Gam P E.H→HOk E.H w→Bld T e B B w0 [] w→AWW P E Y (fun ex a w'=>(ex=.ret∨ex=.normal)∧a t=.v r∧Below B w0 w') ((Z6h A).put (some d) (.ptr 0 0 0)) w):Z0t P f args (.v r):=by
 refine⟨Z3b hf hnm hb,fun H w vals hG hH hv=>?_⟩;obtain⟨c0,c1,rfl,hc0,hc1⟩:=Z8c hc;obtain⟨c2,c3,rfl,hc2,hc3⟩:=Z8c hc1;have hF:=Z6p hv hn;refine calls_of_wp hf hb (wp_seq (wp_mono (Zdg (b:=0) (Z8Z hm) Z7X c0 _ hc0 _ _ _ h0 ⟨noρ,H⟩ w _ hG (Nat.zero_le _) (Zwr hH) hF) fun ex act1 w1 hp=>?_));obtain⟨a0,S1,E0',⟨rfl,habs⟩,hS1,hF0,ev0⟩:=hp;obtain⟨E1,hS2,hF1,ev1⟩:=habs E0' w1 act1 _ (Nat.zero_le _) hS1 hF0;have ev:=ev0.trans ev1;have hE1:EOk E1 w1:=⟨fun b cs e=>hS2.hH b cs e,fun id _=>hS2.fresh id (Nat.zero_le _)⟩;have hρ1:∀id,E1.ρ id=none:=fun id=>hS2.fresh id (Nat.zero_le _)
 have hbel1:Below w.heap.size w w1:=⟨ev.os,ev.tape,ev.output,ev.size,fun k hk=>ev.keep k hk (fun id l B hB=>by simp[S0] at hB)⟩
 have hsub:∀b cs,E1.H b=some cs→H b=some cs∨w.heap.size≤b:=by
  intro b cs e;rcases ev.hsub b cs e with h2 | h2 | ⟨id0,l0,k0,h2,_⟩
  ·exact .inl h2
  ·exact .inr h2
  ·simp[S0] at h2
 refine wp_seq (wp_mono (ZgL (e:=e) hc2 hF1 hρ1 hE1.hH (T:=T) (fun id ops e=>?_)) fun ex act2 w2 hp=>?_)
 ·subst e
  simp only[Zdc] at hT;split at hT
  ·rename_i o ho
   refine⟨o,ho,?_⟩;split at hT
   ·rename_i t' ht
    cases hT;exact ht
   ·cases hT
  ·cases hT
 obtain⟨rfl,rfl,hE2,hF2,hB⟩:=hp;have hbe:BE ⟨fun i=>if i=0 then some ⟨w1.heap.size,0,2,1⟩ else none,E1.H⟩ w1.heap.size w1.heap.size:=⟨rfl,fun c cs e=>by obtain⟨el,fz,hw⟩:=hE1.hH c cs e;exact(Array.getElem?_eq_some_iff.mp hw).1⟩;refine wp_mono (Zdj c3 _ hc3 _ _ _ (h1 _ _ _ w1 hbe (hG.sub ev.leH) hE2.hH hB) _ hE2 hF2) fun ex act3 w3 hp=>?_
 obtain⟨a3,⟨hex,hat,hbel⟩,hF3,hE3⟩:=hp;have hres:=Z80 (P:=P) hr act3.tmps w3;have hrep:=Z8H hF3 [t];simp only[Z9b,hat] at hrep;have hval:=hrep.P0O;have hbel3:Below w.heap.size w w3:=hbel1.trans ⟨hbel.os,hbel.tape,hbel.output,hbel.size,fun k hk=>hbel.block k (Nat.lt_of_lt_of_le hk hbel1.size)⟩
 have fin:bodyPost P fn (fun e w'=>∃v H',e=.returned v∧(∀b cs,H b=some cs→H' b=some cs)∧(∀b cs,H' b=some cs→H b=some cs∨w.heap.size≤b)∧HOk H' w'∧Rep ⟨noρ,H'⟩ (.v r) v∧Below w.heap.size w w') .ret act3 w3 :=
  ⟨hF3.defers,_,hres,_,E1.H,rfl,ev.leH,hsub,hE3.hH,by rw[hval];exact .v _ hrs,hbel3⟩
 rcases hex with rfl | rfl
 ·exact fin
 ·exact fin
structure Zem{K:Type}[DecidableEq K](d:KK)(good:K→Prop)(enc:K→AV):Prop where
 k:∀x,isK d (enc x)=true
 eq:∀x y,good x→good y→Z8C (enc x) (enc y)=decide (x=y)
def Z49{K:Type}(enc:K→AV):Nat→List K→List (AV×AV)
 | _,[]=>[]
 | k,x::xs=>(enc x,Z06 k)::Z49 enc (k+1) xs
theorem Zh9{K:Type}(enc:K→AV):∀(k:Nat) (ks:List K),(Z49 enc k ks).length=ks.length
 | _,[]=>rfl
 | k,x::xs=>by simp[Z49,Zh9 enc (k+1) xs]
section
variable{K:Type}[DecidableEq K]{d:KK}{good:K→Prop}{enc:K→AV}
theorem Z8z(h:Zem d good enc):∀(ks:List K) (k:Nat),∀e∈Z49 enc k ks,isK d e.1=true
 | [],k=>by simp[Z49]
 | x::xs,k=>fun e he=>by
  simp only[Z49,List.mem_cons] at he;rcases he with rfl | he
  ·exact h.k x
  ·exact Z8z h xs (k+1) e he
theorem Zsq(h:Zem d good enc){x:K}(hx:good x):∀(ks:List K) (k:Nat),(∀s∈ks,good s)→Z8B (enc x) (Z49 enc k ks)=if x∈ks then some (Z06 (k+ks.idxOf x:Nat)) else none
 | [],k,_=>by simp[Z49,Z8B]
 | s::ss,k,hs=>by
  simp only[Z49,Z8B];rw[h.eq x s hx (hs s (by simp)),Zsq h hx ss (k+1) (fun z hz=>hs z (by simp[hz]))];by_cases e:x=s
  ·subst e;simp
  ·have e':s≠x:=fun e2=>e e2.symm
   simp only[e,decide_false,Bool.false_eq_true,if_false,List.mem_cons,false_or];by_cases hm:x∈ss
   ·rw[if_pos hm,if_pos hm,List.idxOf_cons,show(s == x)=false by simpa using e',cond_false]
    congr 2;omega
   ·rw[if_neg hm,if_neg hm]
theorem Zwq(h:Zem d good enc){x:K}(hx:good x):∀(ks:List K) (k:Nat),(∀s∈ks,good s)→x∉ks→Zcn (enc x) (Z06 (k+ks.length:Nat)) (Z49 enc k ks)=Z49 enc k (ks++[x])
 | [],k,_,_=>by simp[Z49,Zcn]
 | s::ss,k,hs,hn=>by
  simp only[List.mem_cons,not_or] at hn;simp only[Z49,Zcn,List.cons_append];rw[h.eq x s hx (hs s (by simp)),if_neg (by simpa using hn.1)];have:=Zwq h hx ss (k+1) (fun z hz=>hs z (by simp[hz])) hn.2;rw[←this];congr 3;simp only[List.length_cons];omega
theorem ZsE(h:Zem d good enc){ks:List K}{x:K}(hx:good x)(hs:∀s∈ks,good s){km nid:Nat}{S:St}(hg:S.g km=some (.map (Z49 enc 0 ks))) :
  (Zat d (.v (.int .i64 0)) true (.mp km) (enc x)).run S nid=some (.tup [.v (.int .i64 (if x∈ks then (ks.idxOf x:Int) else 0)),.v (.bool (decide (x∈ks)))],S):=by
 have hk:=Z8z h ks 0;simp only[Zat,Eff.P3b,hg,Option.bind_some,if_pos (show isK d (enc x)=true∧∀e∈Z49 enc 0 ks,isK d e.1=true from⟨h.k x,hk⟩),Zsq h hx ks 0 hs];by_cases hin:x∈ks
 ·simp[hin,Z06]
 ·simp[hin,Z06]
theorem Zq9(h:Zem d good enc){ks:List K}{x:K}(hx:good x)(hs:∀s∈ks,good s)(hn:x∉ks){km nid:Nat}{S:St}(hg:S.g km=some (.map (Z49 enc 0 ks))) :
  (Zbg d (.mp km) (enc x) (.v (.int .i64 ks.length))).run S nid=some (.junk,S.set km (some (.map (Z49 enc 0 (ks++[x]))))):=by
 have hk:=Z8z h ks 0;have h2:=Zwq h hx ks 0 hs hn;rw[Nat.zero_add] at h2;have h':Zcn (enc x) (.v (.int .i64 ks.length)) (Z49 enc 0 ks)=Z49 enc 0 (ks++[x]):=h2;simp only[Zbg,Eff.P4m,hg,Option.bind_some,if_pos (show isK d (enc x)=true∧∀e∈Z49 enc 0 ks,isK d e.1=true from⟨h.k x,hk⟩),h',Option.map_some]
theorem ZwI{ks:List K}{km nid:Nat}{S:St}(hg:S.g km=some (.map (Z49 enc 0 ks))):(ZeV (.mp km)).run S nid=some (.v (.int .i64 ks.length),S):=by
 simp[ZeV,hg,Zh9]
end
def Zvg(es:List (AV×AV)):Prop:=∀e∈es,Z0S e.1∧Z0S e.2
theorem Z9h{K:Type}{enc:K→AV}(h:∀x,Z0S (enc x)):∀(ks:List K) (k:Nat),Zvg (Z49 enc k ks)
 | [],k=>by simp[Zvg,Z49]
 | x::xs,k=>fun e he=>by
  simp only[Z49,List.mem_cons] at he;rcases he with rfl | he
  ·exact⟨h x,Z04 _⟩
  ·exact Z9h h xs (k+1) e he
theorem Z7Y{gF:Nat→Option Blk}{R:Nat→Nat→Prop}{es:List (AV×AV)}(h:Zvg es):Zmr gF R (some (.map es)) (some (.map es)):=by
 intro b hb;cases hb;exact⟨_,rfl,.map _ _ rfl (fun i h1 _=>⟨.cl (h _ (List.getElem_mem h1)).1,.cl (h _ (List.getElem_mem h1)).2⟩)⟩
def noG:Nat→Option Blk:=fun _=>none
def Rin(o:List (Nat×Nat))(N n:Nat)(out inn:Nat):Prop:=(inn < N∧(inn,out)∈o)∨(N≤inn∧out=n+(inn - N))
theorem Z0x.frame{P:Program}{f:FuncId}{args:List AV}{S:St}{K:AV→St→Prop}(N:Nat)(o:List (Nat×Nat))(G:List (Nat×Option Blk))(largs:List AV)(K0:AV→St→Prop)
  (ho:o.Pairwise fun p q=>p.1≠q.1∧p.2≠q.2) (hoN:∀p∈o,p.1 < N∧p.2 < S.n)
  (hG:∀p∈G,p.2=none∨∃i,(p.1,i)∈o∧Zmr noG (fun j i=>(j,i)∈o) (S.g i) p.2)
  (hargs:Z72 noG (fun j i=>(j,i)∈o) args largs)
  (h:Z0x P f largs ⟨N,gOf G⟩ K0)
  (hk:∀r1 S1,N≤S1.n→K0 r1 S1→∃r S',K r S'∧Z5z noG (Rin o N S.n) r1 r∧S'.n=S.n+(S1.n - N) ∧
   ∀i b,S'.g i=some b→((∀p∈o,p.2≠i)∧S.g i=some b)∨∃j,Rin o N S.n i j∧Zmr noG (Rin o N S.n) (S1.g j) (some b)):Z0x P f args S K:=by
 refine⟨h.1,fun E w vals hGam hS hv=>?_⟩
 let ρ2:Nat→Option Loc:=fun j=>if j < N then match o.lookup j with | some i=>E.ρ i | none=>none else none
 let E2:Env:=⟨ρ2,E.H⟩
 have hR:∀j i l,(j,i)∈o→E.ρ i=some l→E2.ρ j=some l:=by
  intro j i l hji hl;show ρ2 j=some l
  simp only[ρ2];rw[if_pos (hoN _ hji).1,Z8D ho hji];exact hl
 have hrep:∀{x y:AV},Z5z noG (fun j i=>(j,i)∈o) x y→∀{v:Value},Rep E x v→Rep E2 y v:=fun h _ hv =>
  Z5z.rep (E2:=E2) hS (gF:=noG) (fun i k e=>by cases e) (fun _ _ e=>e) (fun id es xs l e=>by cases e) hR h hv
 have hlive:∀j k',gOf G j=some k'→∃i k,(j,i)∈o∧S.g i=some k∧ZrE noG (fun j i=>(j,i)∈o) k k':=by
  intro j k' h;rcases hG _ (ZiU h) with h1 | ⟨i,h1,h2⟩
  ·simp at h1
  ·obtain⟨k,h3,h4⟩:=h2 k' rfl
   exact⟨i,k,h1,h3,h4⟩
 have hS2:Sim E2 ⟨N,gOf G⟩ w:=by
  refine⟨hS.hH,fun j k' e=>?_,fun j1 j2 k1 k2 l1 l2 e1 e2 hne r1 r2=>?_,fun j hj=>?_⟩
  ·obtain⟨i,k,h1,h2,h3⟩:=hlive j k' e
   obtain⟨l,a1,a2,a3⟩:=hS.live i k h2;exact⟨l,hR j i l h1 a1,a2,h3.ok hrep a3⟩
  ·obtain⟨i1,b1,p1,p2,_⟩:=hlive j1 k1 e1
   obtain⟨i2,b2,q1,q2,_⟩:=hlive j2 k2 e2;obtain⟨m1,a1,_⟩:=hS.live i1 b1 p2;obtain⟨m2,a2,_⟩:=hS.live i2 b2 q2;have c1:=hR j1 i1 m1 p1 a1;have c2:=hR j2 i2 m2 q1 a2;rw[c1] at r1;cases r1;rw[c2] at r2;cases r2;exact hS.dis i1 i2 b1 b2 _ _ p2 q2 (ZuI ho p1 q1 hne) a1 a2
  ·have hj:N≤j:=hj
   show ρ2 j=none
   simp only[ρ2];rw[if_neg (by omega)]
 have hv2:Z98 E2 largs vals:=by
  refine⟨by rw[hv.1,hargs.1],fun j hj=>?_⟩;have hj':j < args.length:=by have:=hargs.1;omega
  exact hrep (hargs.2 j hj' hj) (hv.2 j hj')
 refine(h.2 E2 w vals hGam hS2 hv2).mono ?_;rintro e w' ⟨v,r1,S1,E1,rfl,hK,hS1,hr1,ev⟩;have hN1:N≤S1.n:=ev.nle;obtain⟨r,S',k1,k2,k3,k4⟩:=hk r1 S1 hN1 hK
 let ρ3:Nat→Option Loc:=fun i=>if i < S.n then E.ρ i else E1.ρ (N+(i - S.n))
 let E3:Env:=⟨ρ3,E1.H⟩
 have hlow:∀i l,E.ρ i=some l→i < S.n:=fun i l hl=>by
  rcases Nat.lt_or_ge i S.n with h1 | h1
  ·exact h1
  ·rw[hS.fresh i h1] at hl;cases hl
 have hoo:∀j i,(j,i)∈o→E1.ρ j=E.ρ i:=by
  intro j i hji
  have e2:E2.ρ j=E.ρ i:=by
   show ρ2 j=E.ρ i
   simp only[ρ2];rw[if_pos (hoN _ hji).1,Z8D ho hji]
  cases hl:E.ρ i with
  | some l=>exact ev.evo.le.1 j l (by rw[e2,hl])
  | none=>exact ev.low j (hoN _ hji).1 (by rw[e2,hl])
 have hR3:∀out inn l,Rin o N S.n out inn→E1.ρ inn=some l→E3.ρ out=some l:=by
  intro out inn l hio hl;show ρ3 out=some l
  simp only[ρ3];rcases hio with⟨h1,h2⟩ | ⟨h1,rfl⟩
  ·rw[if_pos (hoN _ h2).2,←hoo _ _ h2];exact hl
  ·rw[if_neg (by omega),show N+(S.n+(inn - N) - S.n)=inn by omega];exact hl
 have hrep3:∀{x y:AV},Z5z noG (Rin o N S.n) x y→∀{v:Value},Rep E1 x v→Rep E3 y v:=fun h _ hv =>
  Z5z.rep (E2:=E3) hS1 (gF:=noG) (fun i k e=>by cases e) (fun _ _ e=>e) (fun id es xs l e=>by cases e) hR3 h hv
 have hle:E.le E3:=by
  refine⟨fun i l hl=>?_,fun b cs e=>ev.evo.le.2 b cs e⟩;show ρ3 i=some l
  simp only[ρ3];rw[if_pos (hlow i l hl)];exact hl
 have hout:∀i k l,S.g i=some k→E.ρ i=some l→(∀p∈o,p.2≠i)→w'.heap[l.b]? = w.heap[l.b]?∧E1.H l.b=none:=by
  intro i k l hgi hl hno;obtain⟨l',a1,a2,a3⟩:=hS.live i k hgi;rw[hl] at a1;cases a1
  have hfr:∀id l0 k0,(St.mk N (gOf G)).g id=some k0→E2.ρ id=some l0→l0.b≠l.b:=by
   intro id l0 k0 b1 b2;obtain⟨i2,kk,h1,h2,h3⟩:=hlive id k0 b1;obtain⟨m2,c1,_⟩:=hS.live i2 kk h2;have:=hR id i2 m2 h1 c1;rw[this] at b2;cases b2;exact hS.dis i2 i kk k _ _ h2 hgi (fun e=>hno _ h1 e) c1 hl
  refine⟨ev.evo.keep l.b a3.lt hfr,?_⟩;cases e:E1.H l.b with
  | none=>rfl
  | some cs =>
   exfalso;rcases ev.evo.hsub _ _ e with h1 | h1 | ⟨id0,l0,k0,b1,b2,b3⟩
   ·have h1':E.H l.b=some cs:=h1
    rw[a2] at h1';cases h1'
   ·have:=a3.lt;omega
   ·exact hfr id0 l0 k0 b1 b2 b3
 have hgrow:∀j k l,S1.g j=some k→E1.ρ j=some l→w.heap.size≤l.b∨∃id0 l0 k0,S.g id0=some k0∧E.ρ id0=some l0∧l0.b=l.b∧∃jj,(jj,id0)∈o:=by
  intro j k l b1 b2;rcases ev.evo.grow j l k b1 b2 with h1 | ⟨id0,l0,k0,c1,c2,c3⟩
  ·exact .inl h1
  ·obtain⟨i2,kk,h1,h2,h3⟩:=hlive id0 k0 c1
   obtain⟨m2,d1,_⟩:=hS.live i2 kk h2;have:=hR id0 i2 m2 h1 d1;rw[this] at c2;cases c2;exact .inr ⟨i2,_,kk,h2,d1,c3,_,h1⟩
 have hinj:∀i1 i2 j1 j2,Rin o N S.n i1 j1→Rin o N S.n i2 j2→i1≠i2→j1≠j2:=by
  rintro i1 i2 j1 j2 h1 h2 hne rfl;rcases h1 with⟨a1,a2⟩ | ⟨a1,a2⟩<;>rcases h2 with⟨b1,b2⟩ | ⟨b1,b2⟩
  ·have e1:=Z8D ho a2
   have e2:=Z8D ho b2;rw[e1] at e2;cases e2;exact hne rfl
  ·omega
  ·omega
  ·omega
 refine⟨v,r,S',E3,rfl,k1,⟨fun b cs e=>hS1.hH b cs e,fun i b e=>?_,fun i1 i2 b1 b2 l1 l2 e1 e2 hne r1 r2=>?_,fun i hi=>?_⟩,hrep3 k2 hr1,?_⟩
 ·rcases k4 i b e with⟨h2,h3⟩ | ⟨j,h1,h2⟩
  ·obtain⟨l,a1,a2,a3⟩:=hS.live i b h3
   obtain⟨c1,c2⟩:=hout i b l h3 a1 h2;exact⟨l,hle.1 i l a1,c2,a3.mono hle c1⟩
  ·obtain⟨k,h3,h4⟩:=h2 b rfl
   obtain⟨l,a1,a2,a3⟩:=hS1.live j k h3;exact⟨l,hR3 i j l h1 a1,a2,h4.ok hrep3 a3⟩
 ·rcases k4 i1 b1 e1 with⟨h2,h3⟩ | ⟨j1,h1,h2⟩<;>rcases k4 i2 b2 e2 with⟨g2,g3⟩ | ⟨j2,g1,g2⟩
  ·obtain⟨m1,a1,_⟩:=hS.live i1 b1 h3
   obtain⟨m2,a2,_⟩:=hS.live i2 b2 g3;have c1:=hle.1 i1 m1 a1;have c2:=hle.1 i2 m2 a2;rw[c1] at r1;cases r1;rw[c2] at r2;cases r2;exact hS.dis i1 i2 b1 b2 _ _ h3 g3 hne a1 a2
  ·obtain⟨m1,a1,_,a3⟩:=hS.live i1 b1 h3
   have c1:=hle.1 i1 m1 a1;rw[c1] at r1;cases r1;obtain⟨k,g3,g4⟩:=g2 b2 rfl;obtain⟨m2,a2,_⟩:=hS1.live j2 k g3;have c2:=hR3 i2 j2 m2 g1 a2;rw[c2] at r2;cases r2;rcases hgrow j2 k _ g3 a2 with h5 | ⟨id0,l0,k0,d1,d2,d3,jj,d4⟩
   ·have:=a3.lt;omega
   ·rw[←d3]
    exact hS.dis i1 id0 b1 k0 _ _ h3 d1 (fun e=>h2 _ d4 e.symm) a1 d2
  ·obtain⟨m2,a2,_,a3⟩:=hS.live i2 b2 g3
   have c2:=hle.1 i2 m2 a2;rw[c2] at r2;cases r2;obtain⟨k,h3,h4⟩:=h2 b1 rfl;obtain⟨m1,a1,_⟩:=hS1.live j1 k h3;have c1:=hR3 i1 j1 m1 h1 a1;rw[c1] at r1;cases r1;rcases hgrow j1 k _ h3 a1 with h5 | ⟨id0,l0,k0,d1,d2,d3,jj,d4⟩
   ·have:=a3.lt;omega
   ·rw[←d3]
    exact hS.dis id0 i2 k0 b2 _ _ d1 g3 (fun e=>g2 _ d4 e) d2 a2
  ·obtain⟨k,h3,h4⟩:=h2 b1 rfl
   obtain⟨m1,a1,_⟩:=hS1.live j1 k h3;have c1:=hR3 i1 j1 m1 h1 a1;rw[c1] at r1;cases r1;obtain⟨k2,g3,g4⟩:=g2 b2 rfl;obtain⟨m2,a2,_⟩:=hS1.live j2 k2 g3;have c2:=hR3 i2 j2 m2 g1 a2;rw[c2] at r2;cases r2;exact hS1.dis j1 j2 k k2 _ _ h3 g3 (hinj _ _ _ _ h1 g1 hne) a1 a2
 ·show ρ3 i=none
  simp only[ρ3];rw[if_neg (by omega)];exact hS1.fresh _ (by omega)
 ·refine⟨⟨ev.evo.os,ev.evo.tape,ev.evo.output,ev.evo.size,fun b hb hno=>?_,fun i l b e hl=>?_,hle,fun b cs e=>?_⟩,by omega,fun i hi e=>?_⟩
  ·refine ev.evo.keep b hb fun id l0 k0 b1 b2=>?_
   obtain⟨i2,kk,h1,h2,h3⟩:=hlive id k0 b1;obtain⟨m2,c1,_⟩:=hS.live i2 kk h2;have:=hR id i2 m2 h1 c1;rw[this] at b2;cases b2;exact hno i2 _ kk h2 c1
  ·rcases k4 i b e with⟨h2,h3⟩ | ⟨j,h1,h2⟩
   ·obtain⟨m1,a1,_⟩:=hS.live i b h3
    have c1:=hle.1 i m1 a1;rw[c1] at hl;cases hl;exact .inr ⟨i,_,b,h3,a1,rfl⟩
   ·obtain⟨k,h3,h4⟩:=h2 b rfl
    obtain⟨m1,a1,_⟩:=hS1.live j k h3;have c1:=hR3 i j m1 h1 a1;rw[c1] at hl;cases hl;rcases hgrow j k _ h3 a1 with h5 | ⟨id0,l0,k0,d1,d2,d3,_⟩
    ·exact .inl h5
    ·exact .inr ⟨id0,l0,k0,d1,d2,d3⟩
  ·rcases ev.evo.hsub b cs e with h1 | h1 | ⟨id0,l0,k0,b1,b2,b3⟩
   ·exact .inl h1
   ·exact .inr (.inl h1)
   ·obtain⟨i2,kk,h1,h2,h3⟩:=hlive id0 k0 b1
    obtain⟨m2,c1,_⟩:=hS.live i2 kk h2;have:=hR id0 i2 m2 h1 c1;rw[this] at b2;cases b2;exact .inr (.inr ⟨i2,_,kk,h2,c1,b3⟩)
  ·show ρ3 i=none
   simp only[ρ3];rw[if_pos hi];exact e
end Go.Rf
namespace Go.Rf
open Go.RowKit
attribute [local simp] Z4t Z4q Z3h Z2s Z3f Z3j Z3g Z4r Z4s Z3i Z3n Z1A Z1y Z2q Z1H Z41 Z3v ZcH Z7E Z7D Z5R ZcG Z7C Z5P Z4v Z3k Z4u Z7x Z7w Z5J Z4x Z3l Z4w Z7z Z7y Z5K Z1z Z2v Z3o Z3p Z1D Z1o Z0c Z0B Z0q Z08 Z0o Z0h Z09 Z0p Z0i Z0Y Z0j Z0z Z0K Z0k Z0J Z1W Z3U Z0X Z25 Z22 Z24 Z23 Z26 Z1j Z0D Z11 Z12 Z1T Z1U Z1V Z0H Z0I Z1i Z0r Z0W Z20 Z1X Z1Z Z1Y Z21 Z1k Z13 Z1g Z0U Z0V Z0C Z1h Z0P Z1a Z1f Z14 Z1l ex Z00 Z0R Z6K Z6P Z0f Z0g Z0A Z2k Z1d Z10 Z0y Z0F Z0G Z0E Z0s Z0Z Z5y Z0O Z37 Z1c Z1O Z3s Z0b Z1E Z28 Z19 Z0Q Z2w Z27 Z3u Z2x Z1P Z6A Z3C Z6z Z3t Z6w Z3D Z51 Z4A Z3z Z2B Z2C Z29 Z2z Z2A Z3y Z1M Z2y Z3x Z3A S0 Z06 Z1n Z39 Z34 Z56 Z38 Z33 Z55 Z44 Z36 Z43 Z6j Z5a Z6i Z59 Z45 Z58 Zjt ZqI vQ0 vQ1 ZvC ZvD ZvE ZqJ ZoI ZkK Zd1 Z5r Z2U Z72.cl Z5z.cl Z04 Z0L Z02 Z0T Z1w Z2j Z1N Z2n Z1p Z3r Z4N Z3V Z4M Z5L Z5W Z3E Z4O Z5w Z5m Z5S Z4U Z4X Z4W Z42 Z2c Z2H Z62 Z3m Z3W Z4y Z2J Z2I Z17 Z68 Z2G Z4k Z1S Z4B
def Z4Q:AC :=
 (.seq (.reg none [
 ro 3 (.box 2 (.t 1)),
 ro 4 (.mv (ci 0))])
 (.seq (.reg (some []) [
 rm 8 0,
 ro 9 (.nilc (.t 8)),
 ro 10 (.fieldA 6 (.t 9)),
 ro 11 (.load none (.t 10)),
 ro 12 (.load (some 2) (.t 3)),
 ro 13 (.look (.ints 2) (.v (.int .i64 0)) true (.t 11) (.t 12)),
 rm 7 13,
 ro 14 (.ext 0 (.t 7)),
 ro 15 (.ext 1 (.t 7)),
 rm 5 14,
 rm 6 15])
 (.seq (.seq (.reg none [
 rm 16 6,
 ro 17 (.un .not (.t 16))])
 (.cond (.t 17) (.seq (.reg none [
  rm 18 0,
  ro 19 (.nilc (.t 18)),
  ro 20 (.fieldA 7 (.t 19)),
  ro 21 (.load none (.t 20)),
  ro 22 (.len (.t 21)),
  rm 5 22])
 (.seq (.reg (some []) [
  rm 23 0,
  ro 24 (.nilc (.t 23)),
  ro 25 (.fieldA 6 (.t 24)),
  ro 26 (.load none (.t 25)),
  ro 27 (.load (some 2) (.t 3)),
  rm 28 5,
  rn (.mset (.ints 2) (.t 26) (.t 27) (.t 28))])
 (.reg (some [[],[],[],[],[],[],[],[false,false,false,false,false,false,true]]) [
  rm 29 0,
  rm 30 0,
  ro 31 (.nilc (.t 30)),
  ro 32 (.fieldA 7 (.t 31)),
  ro 33 (.load none (.t 32)),
  ro 34 (.load (some 2) (.t 3)),
  ro 35 (.bslice 2 1 (.agg [(.v (.int .i64 0)),(.v (.int .i64 0))]) [(0,(.t 34))]),
  ro 36 (.app 2 16 (.t 33) (.t 35)),
  ro 37 (.nilc (.t 29)),
  ro 38 (.fieldA 7 (.t 37)),
  rn (.store 1 (.t 38) (.t 36))]))) .skip))
 (.seq (.reg none [
 rm 39 5,
 rm 4 39])
 .ret))))
theorem Zq2:Zem (.ints 2) (fun _:Int×Int=>True) Z2f:=⟨fun _=>rfl,fun x y _ _=>by
 obtain⟨a,b⟩:=x;obtain⟨c,d⟩:=y;by_cases h1:a=c<;>by_cases h2:b=d<;>simp[Z8C,Z2f,Zp8,h1,h2]⟩
section
variable{K:Type}[DecidableEq K]{d:KK}{good:K→Prop}{enc:K→AV}
theorem Zuv(h:Zem d good enc){ks:List K}{x:K}(hx:good x)(hs:∀s∈ks,good s){km nid:Nat}{S:St}(hg:S.g km=some (.map (Z49 enc 0 ks))) :
  (Zat d (.v (.int .i64 0)) true (.mp km) (enc x)).runT S nid=some (.tup [.v (.int .i64 (if x∈ks then (ks.idxOf x:Int) else 0)),.v (.bool (decide (x∈ks)))],S,[km],[]):=by
 have hk:=Z8z h ks 0;simp only[Zat,Z1a,hg,Option.bind_some,if_pos (show isK d (enc x)=true∧∀e∈Z49 enc 0 ks,isK d e.1=true from⟨h.k x,hk⟩),Zsq h hx ks 0 hs];by_cases hin:x∈ks
 ·simp[hin,Z06]
 ·simp[hin,Z06]
theorem Zuz(h:Zem d good enc){ks:List K}{x:K}(hx:good x)(hs:∀s∈ks,good s)(hn:x∉ks){km nid:Nat}{S:St}(hg:S.g km=some (.map (Z49 enc 0 ks))) :
  (Zbg d (.mp km) (enc x) (.v (.int .i64 ks.length))).runT S nid=some (.junk,S.set km (some (.map (Z49 enc 0 (ks++[x])))),[km],[km]):=by
 have hk:=Z8z h ks 0;have h2:=Zwq h hx ks 0 hs hn;rw[Nat.zero_add] at h2;have h':Zcn (enc x) (.v (.int .i64 ks.length)) (Z49 enc 0 ks)=Z49 enc 0 (ks++[x]):=h2;simp only[Zbg,Z1f,hg,Option.bind_some,if_pos (show isK d (enc x)=true∧∀e∈Z49 enc 0 ks,isK d e.1=true from⟨h.k x,hk⟩),h',Option.map_some]
end
theorem Z7t{gF:Nat→Option Blk}{R:Nat→Nat→Prop}(ss:List (Int×Int)):Zmr gF R (some (.map (Z49 Z2f 0 ss))) (some (.map (Z49 Z2f 0 ss))):=Z7Y (Z9h Z40 _ _)
def Z6W(b a:Det)(km:Nat)(lv:AV):AV:=.agg [Z06 b.signs,Z0l b.next,Z2E b.fin,Z06 a.signs,Z0l a.next,Z2E a.fin,.mp km,lv]
def kG(b a:Det)(o:Bool)(ss:List (Int×Int))(id il km:Nat):List (Nat×Option Blk) :=
 [(id,some (.arr 8 [Z6W b a km (vV o il (ss.map Z2f))])),(il,vB o 2 (ss.map Z2f)),(km,some (.map (Z49 Z2f 0 ss)))]
def ZvJ(b a:Det)(ss:List (Int×Int))(S:St):Prop:=S.n=10∧S.g 0=some (.arr 8 [Z6W b a 2 (.own 3 0 ss.length)])∧S.g 3=some (.arr 2 (ss.map Z2f))∧S.g 2=some (.map (Z49 Z2f 0 ss))
theorem ZvJ.of{b a:Det}{ss:List (Int×Int)}{G:List (Nat×Option Blk)}:ZvJ b a ss ⟨10,gOf (kG b a true ss 0 3 2++G)⟩:=⟨rfl,by simp[kG,gOf,Z2G],by simp[kG,gOf,Z1S],by simp[kG,gOf]⟩
def Zqd(ss:List (Int×Int))(x:Int×Int):List (Int×Int):=if x∈ss then ss else ss++[x]
def Zrn(ss:List (Int×Int))(x:Int×Int):Int:=if x∈ss then (@List.idxOf _ instBEqOfDecidableEq x ss:Int) else ss.length
def Zl3(P:Program)(f:FuncId)(b a:Det)(o:Bool)(ss:List (Int×Int))(x:Int×Int):Prop :=
 Z0x P f [.ptr 0 0 0,Z2f x] ⟨3,gOf (kG b a o ss 0 1 2)⟩ fun r' S'=>r'=Z06 (Zrn ss x)∧ZvJ b a (Zqd ss x) S'
def ZsC(b a:Det)(ss:List (Int×Int))(id il km:Nat)(S:St):St :=
 (((((St.mk (S.n+7) S.g).set id (some (.arr 8 [Z6W b a km (.own S.n 0 ss.length)]))).set il none).set km (some (.map (Z49 Z2f 0 ss)))).set S.n (some (.arr 2 (ss.map Z2f))))
theorem Zl3.use{P:Program}{f:FuncId}{b a:Det}{o:Bool}{ss:List (Int×Int)}{x:Int×Int}(h:Zl3 P f b a o ss x){S:St}{K:AV→St→Prop}{id il km:Nat}
  (h1:S.g id=some (.arr 8 [Z6W b a km (vV o il (ss.map Z2f))])) (h2:S.g il=vB o 2 (ss.map Z2f)) (h3:S.g km=some (.map (Z49 Z2f 0 ss)))
  (hd:id≠il∧id≠km∧il≠km) (hl:id < S.n∧il < S.n∧km < S.n) (hk:K (Z06 (Zrn ss x)) (ZsC b a (Zqd ss x) id il km S)):Z0x P f [.ptr id 0 0,Z2f x] S K:=by
 refine Z0x.frame 3 [(0,id),(1,il),(2,km)] (kG b a o ss 0 1 2) [.ptr 0 0 0,Z2f x] _ (by simp;omega) (by simp;omega) ?_ ?_ h ?_
 ·intro p hp
  simp only[kG,List.mem_cons,List.not_mem_nil,or_false] at hp;rcases hp with rfl | rfl | rfl
  ·refine .inr ⟨id,by simp,?_⟩
   rw[h1,Z17];refine⟨rfl,?_⟩;simp only[Z6W,Z2c,Z2H,and_true,Z2J,Z4y];exact⟨.cl (Z04 _),.cl (Z0T _),.cl (Z1w _),.cl (Z04 _),.cl (Z0T _),.cl (Z1w _),by simp,Z5w (by simp) (Z4L _)⟩
  ·exact .inr ⟨il,by simp,by rw[h2];exact Z5m (Z4L _)⟩
  ·exact .inr ⟨km,by simp,by rw[h3];exact Z7Y (Z9h Z40 _ _)⟩
 ·exact .cons (.ptr _ _ _ _ (by simp)) (.cons (.cl (Z40 _)) .nil)
 ·rintro r1 S1 hn ⟨rfl,q1,q2,q3,q4⟩
  refine⟨_,_,hk,.cl (Z04 _),by simp[ZsC,Z2k,q1],fun i k hi=>?_⟩;simp only[ZsC,Z0A] at hi;by_cases e4:i=S.n
  ·rw[if_pos e4] at hi
   refine .inr ⟨3,.inr ⟨by omega,by omega⟩,?_⟩;rw[←hi,q3,Z17];exact⟨rfl,.cl (Z4L _)⟩
  rw[if_neg e4] at hi;by_cases ec:i=km
  ·rw[if_pos ec] at hi
   refine .inr ⟨2,.inl ⟨by omega,by simp[ec]⟩,?_⟩;rw[←hi,q4];exact Z7Y (Z9h Z40 _ _)
  rw[if_neg ec] at hi;by_cases eb:i=il
  ·rw[if_pos eb] at hi;cases hi
  rw[if_neg eb] at hi;by_cases ea:i=id
  ·rw[if_pos ea] at hi
   refine .inr ⟨0,.inl ⟨by omega,by simp[ea]⟩,?_⟩;rw[←hi,q2,Z17];refine⟨rfl,?_⟩;simp only[Z6W,Z2c,Z2H,and_true,Z2J,Z3m,Z4y];exact⟨.cl (Z04 _),.cl (Z0T _),.cl (Z1w _),.cl (Z04 _),.cl (Z0T _),.cl (Z1w _),.inl ⟨by omega,by simp⟩,.inr ⟨by omega,by omega⟩⟩
  ·rw[if_neg ea] at hi
   refine .inl ⟨?_,hi⟩;simp;omega
theorem Zod{P:Program}(hm:P.follows .mixedOrders=true){f:FuncId}(h:Is P f Z4Q [4] 2)(b a:Det)(o:Bool)(ss:List (Int×Int))(ho:o=true∨ss=[])(hl:ss.length≤100000)(x:Int×Int):Zl3 P f b a o ss x:=by
 refine h.P2D hm rfl ?_;have ok1:Z1K 16 ss.length 1:=by unfold Z1K;omega
 have hlookT:=fun(nid:Nat) (S:St) (hg:S.g 2=some (.map (Z49 Z2f 0 ss)))=>Zuv (x:=x) (nid:=nid) Zq2 trivial (fun _ _=>trivial) hg
 have hlook:=fun(nid:Nat) (S:St) (hg:S.g 2=some (.map (Z49 Z2f 0 ss)))=>ZsE (x:=x) (nid:=nid) Zq2 trivial (fun _ _=>trivial) hg
 have hax:AV.agg [.v (.int .i64 x.1),.v (.int .i64 x.2)]=Z2f x:=rfl;by_cases hin:x∈ss
 ·have ho':o=true:=by
   rcases ho with h | h
   ·exact h
   ·subst h;simp at hin
  subst ho';simp only[hin,if_true,decide_true] at hlookT hlook;rw[Zqd,Zrn,if_pos hin,if_pos hin];simp[Z4Q,kG,Z6W,ok1,Z47,hax,hlook,hlookT];refine⟨Z6h [(4,.v (.int .i64 (@List.idxOf _ instBEqOfDecidableEq x ss:Int)))],⟨10,gOf (kG b a true ss 0 3 2++[])⟩,Abs.of [(0,0),(2,2),(3,1)] [] (by omega) ⟨by simp,by simp⟩ ?_ ?_,by simp[Z6h,Z06],.of⟩
  ·simp[kG,Z6W,Z7t,Z4L]
  ·simp
 ·have hmT:=fun(nid:Nat) (S:St) (hg:S.g 2=some (.map (Z49 Z2f 0 ss)))=>Zuz (x:=x) (nid:=nid) Zq2 trivial (fun _ _=>trivial) hin hg
  simp only[hin,if_false,decide_false] at hlookT hlook;have hm0:=fun(nid:Nat) (S:St) (hg:S.g 2=some (.map (Z49 Z2f 0 ss)))=>Zq9 (x:=x) (nid:=nid) Zq2 trivial (fun _ _=>trivial) hin hg
  rw[Zqd,Zrn,if_neg hin,if_neg hin];simp[Z4Q,kG,Z6W,ok1,Z47,hax,hlook,hlookT,hmT,hm0];refine⟨Z6h [(4,Z06 ss.length)],⟨10,gOf (kG b a true (ss++[x]) 0 3 2++[])⟩,Abs.of [(0,0),(2,2),(3,38)] [] (by omega) ⟨by simp,by simp⟩ ?_ ?_,by simp[Z6h,Z06],.of⟩
  ·simp[kG,Z6W,Z7t,Z4L,Z40]
  ·simp
end Go.Rf
namespace Go.Rf
open Go.RowKit
attribute [local simp] Z4t Z4q Z3h Z2s Z3f Z3j Z3g Z4r Z4s Z3i Z3n Z1A Z1y Z2q Z1H Z41 Z3v ZcH Z7E Z7D Z5R ZcG Z7C Z5P Z4v Z3k Z4u Z7x Z7w Z5J Z4x Z3l Z4w Z7z Z7y Z5K Z1z Z2v Z3o Z3p Z1D Z1o Z0c Z0B Z0q Z08 Z0o Z0h Z09 Z0p Z0i Z0Y Z0j Z0z Z0K Z0k Z0J Z1W Z3U Z0X Z25 Z22 Z24 Z23 Z26 Z1j Z0D Z11 Z12 Z1T Z1U Z1V Z0H Z0I Z1i Z0r Z0W Z20 Z1X Z1Z Z1Y Z21 Z1k Z13 Z1g Z0U Z0V Z0C Z1h Z0P Z1a Z1f Z14 Z1l ex Z00 Z0R Z6K Z6P Z0f Z0g Z0A Z2k Z1d Z10 Z0y Z0F Z0G Z0E Z0s Z0Z Z5y Z0O Z37 Z1c Z1O Z3s Z0b Z1E Z28 Z19 Z0Q Z2w Z27 Z3u Z2x Z1P Z6A Z3C Z6z Z3t Z6w Z3D Z51 Z4A Z3z Z2B Z2C Z29 Z2z Z2A Z3y Z1M Z2y Z3x Z3A S0 Z06 Z1n Z39 Z34 Z56 Z38 Z33 Z55 Z44 Z36 Z43 Z6j Z5a Z6i Z59 Z45 Z58 Zjt ZqI vQ0 vQ1 ZvC ZvD ZvE ZqJ ZoI ZkK Zd1 Z5r Z2U Z72.cl Z5z.cl Z04 Z0L Z02 Z0T Z1w Z2j Z1N Z2n Z1p Z3r Z4N Z3V Z4M Z5L Z5W Z3E Z4O Z5w Z5m Z5S Z4U Z4X Z4W Z42 Z2c Z2H Z62 Z3m Z3W Z4y Z2J Z2I Z17 Z68 Z2G Z4k Z1S Z4B
def ZjV(P0w P0J:FuncId):AC :=
 (.block 2 (.loop (.seq (.reg none [
    ro 77 (.bin .lss (.t 76) (.t 75))])
   (.seq (.cond (.t 77) .skip (.exit 2))
   (.seq (.block 3 (.seq (.reg none [
    rm 78 76,
    rm 13 78])
    (.seq (.reg none [
    rm 79 12,
    rm 80 13,
    rm 81 8,
    rm 82 8,
    ro 83 (.load (some 2) (.t 11)),
    rm 84 13,
    ro 85 (.bin .quo (.t 84) (ci 2)),
    rm 86 13,
    ro 87 (.bin .and (.t 86) (ci 1)),
    ro 88 (.bin .eql (.t 87) (ci 1)),
    rk 89 P0J [(.t 82),(.t 83),(.t 85),(.t 88)],
    rk 90 P0w [(.t 81),(.t 89)],
    ro 91 (.idxA 1 (.t 79) (.t 80)),
    rn (.store 1 (.t 91) (.t 90))])
    (.seq (.reg none [
    rm 92 8,
    ro 93 (.nilc (.t 92)),
    ro 94 (.fieldA 7 (.t 93)),
    ro 95 (.load none (.t 94)),
    ro 96 (.len (.t 95)),
    rm 97 2,
    ro 98 (.bin .gtr (.t 96) (.t 97))])
    (.cond (.t 98) (.seq (.reg none [
     ro 99 (.build (.agg [(.v (.int .i64 0)),(.sl true []),(.sl true [])]) [] []),
     rn (.store 3 (.t 6) (.t 99)),
     ro 7 (.mv (ci 13))])
    .ret) .skip)))))
   (.reg none [
    ro 100 (.bin .add (.t 76) (ci 1)),
    rm 76 100]))))))
def Zdo:AC :=
 (.reg (some [[],[],[],[],[],[true],[false,true],[false,false,true],[false,false,false,true],[false,false,false,false,true],[],[],[],[],[],[],[],[],[],[],[true]]) [
   ro 101 (.fieldA 1 (.t 9)),
   ro 102 (.load none (.t 101)),
   rm 103 12,
   ro 104 (.bslice 1 1 (.sl true []) [(0,(.t 103))]),
   ro 105 (.app 1 24 (.t 102) (.t 104)),
   ro 106 (.fieldA 2 (.t 9)),
   ro 107 (.load none (.t 106)),
   ro 108 (.fieldA 0 (.t 11)),
   ro 109 (.load none (.t 108)),
   ro 110 (.bin .eql (.t 109) (ci 2)),
   rm 111 110,
   rg 112 111 true (.fieldA 2 (.t 4)),
   rg 113 111 true (.load none (.t 112)),
   rg 114 111 true (.fieldA 1 (.t 11)),
   rg 115 111 true (.load none (.t 114)),
   rg 116 111 true (.idxA 1 (.t 113) (.t 115)),
   rg 117 111 true (.load none (.t 116)),
   ro 118 (.pick (.t 111) (.t 117) (.c (.v (.bool false)))),
   ro 119 (.bslice 1 1 (.v (.bool false)) [(0,(.t 118))]),
   ro 120 (.app 1 1 (.t 107) (.t 119)),
   ro 121 (.fieldA 1 (.t 9)),
   rn (.store 1 (.t 121) (.t 105)),
   ro 122 (.fieldA 2 (.t 9)),
   rn (.store 1 (.t 122) (.t 120))])
def ZjU(P0w P0J:FuncId):AC :=
 (.block 0 (.loop (.seq (.seq (.reg none [
  rm 55 10,
  rm 56 8,
  ro 57 (.nilc (.t 56)),
  ro 58 (.fieldA 7 (.t 57)),
  ro 59 (.load none (.t 58)),
  ro 60 (.len (.t 59)),
  ro 61 (.bin .lss (.t 55) (.t 60))])
  (.cond (.t 61) .skip (.exit 0)))
  (.seq (.block 1 (.seq (.reg none [
   rm 64 8,
   ro 65 (.nilc (.t 64)),
   ro 66 (.fieldA 7 (.t 65)),
   ro 67 (.load none (.t 66)),
   rm 68 10,
   ro 69 (.idxA 2 (.t 67) (.t 68)),
   ro 70 (.load (some 2) (.t 69)),
   ro 11 (.alloc (.agg [(.v (.int .i64 0)),(.v (.int .i64 0))]) 2),
   rn (.store 2 (.t 11) (.t 70))])
  (.seq (.reg none [
   ro 71 (.fieldA 0 (.t 9)),
   ro 72 (.load none (.t 71)),
   ro 73 (.mks 1 8 (.v (.int .i64 0)) (.t 72) (.t 72)),
   rm 12 73])
  (.seq (.seq (.reg none [
   rm 74 12,
   ro 75 (.len (.t 74)),
   ro 76 (.mv (ci 0))])
  (ZjV P0w P0J))
  Zdo))))
  (.reg none [
  rm 62 10,
  ro 63 (.bin .add (.t 62) (ci 1)),
  rm 10 63])))))
def ZfH:AC :=
 (.seq (.reg none [
 ro 123 (.load (some 3) (.t 9)),
 rn (.store 3 (.t 6) (.t 123)),
 ro 7 (.mv (ci 0))])
 .ret)
def Zb6(P1j P0w P0J:FuncId):AC :=
 (.seq (.reg none [
 ro 3 (.box 3 (.t 0)),
 ro 4 (.box 3 (.t 1)),
 ro 6 (.alloc (.agg [(.v (.int .i64 0)),(.sl true []),(.sl true [])]) 3),
 ro 7 (.mv (ci 0))])
 (.seq (.seq (.reg none [
 ro 14 (.load (some 3) (.t 3)),
 rk 15 P1j [(.t 14)],
 ro 16 (.un .not (.t 15)),
 rm 17 16,
 rg 18 17 false (.load (some 3) (.t 4)),
 rl 19 17 false P1j [(.t 18)],
 rg 20 17 false (.un .not (.t 19)),
 ro 21 (.pick (.t 17) (.c (.v (.bool true))) (.t 20)),
 rm 22 21,
 rg 23 22 false (.fieldA 0 (.t 3)),
 rg 24 22 false (.load none (.t 23)),
 rg 25 22 false (.fieldA 0 (.t 4)),
 rg 26 22 false (.load none (.t 25)),
 rg 27 22 false (.bin .neq (.t 24) (.t 26)),
 ro 28 (.pick (.t 22) (.c (.v (.bool true))) (.t 27)),
 rm 29 28,
 rg 30 29 false (.fieldA 0 (.t 3)),
 rg 31 29 false (.load none (.t 30)),
 rg 32 29 false (.bin .gtr (.t 31) (ci 200)),
 ro 33 (.pick (.t 29) (.c (.v (.bool true))) (.t 32)),
 rm 34 33,
 rg 35 34 false (.mv (.t 2)),
 rg 36 34 false (.bin .lss (.t 35) (ci 1)),
 ro 37 (.pick (.t 34) (.c (.v (.bool true))) (.t 36)),
 rm 38 37,
 rg 39 38 false (.mv (.t 2)),
 rg 40 38 false (.bin .gtr (.t 39) (ci 3000)),
 ro 41 (.pick (.t 38) (.c (.v (.bool true))) (.t 40))])
 (.cond (.t 41) (.seq (.reg none [
  ro 42 (.build (.agg [(.v (.int .i64 0)),(.sl true []),(.sl true [])]) [] []),
  rn (.store 3 (.t 6) (.t 42)),
  ro 7 (.mv (ci 1))])
 .ret) .skip))
 (.seq (.reg none [
 ro 43 (.load (some 3) (.t 3)),
 ro 44 (.load (some 3) (.t 4)),
 ro 45 (.mmk),
 ro 46 (.build (.agg [(.v (.int .i64 0)),(.sl true []),(.sl true []),(.v (.int .i64 0)),(.sl true []),(.sl true []),(.v (.map none)),(.sl true [])]) [(0,3),(3,3),(6,1)] [(0,(.t 43)),(1,(.t 44)),(2,(.t 45))]),
 ro 47 (.box 8 (.t 46)),
 rm 8 47])
 (.seq (.reg none [
 rm 48 8,
 ro 49 (.build (.agg [(.v (.int .i64 0)),(.v (.int .i64 0))]) [] []),
 rk 50 P0w [(.t 48),(.t 49)]])
 (.seq (.reg none [
 ro 51 (.fieldA 0 (.t 3)),
 ro 52 (.load none (.t 51)),
 ro 53 (.bin .mul (ci 2) (.t 52)),
 ro 54 (.build (.agg [(.v (.int .i64 0)),(.sl true []),(.sl true [])]) [(0,1)] [(0,(.t 53))]),
 ro 9 (.alloc (.agg [(.v (.int .i64 0)),(.sl true []),(.sl true [])]) 3),
 rn (.store 3 (.t 9) (.t 54))])
 (.seq (.seq (.reg none [
 ro 10 (.mv (ci 0))])
 (ZjU P0w P0J))
 ZfH))))))
abbrev ZrI:=StK (Int×Int)×(Bool×Bool)
section
variable(b a:Det)(most:Int)(n:Nat)
def Zcc(i:Nat):List (Nat×AV):=[(2,Z06 most),(3,.ptr 0 0 0),(4,.ptr 1 0 0),(6,.ptr 2 0 0),(8,.ptr 3 0 0),(9,.ptr 6 0 0),(10,Z06 i)]
def Zcd(ss:List (Int×Int))(nx:List (List Int))(en:List Bool)(oN oE:Bool):List (Nat×Option Blk) :=
 [(0,some (.arr 3 [Z0v b])),(1,some (.arr 3 [Z0v a])),(2,some (.arr 3 [Z7i])),(3,some (.arr 8 [Z6W b a 5 (.own 4 0 ss.length)])),(4,some (.arr 2 (ss.map Z2f))),(5,some (.map (Z49 Z2f 0 ss))),
  (6,some (.arr 3 [.agg [.v (.int .i64 n),vV oN 7 (nx.map Z03),vV oE 8 (en.map Z1n)]])),(7,vB oN 1 (nx.map Z03)),(8,vB oE 1 (en.map Z1n))]
def Zwy(i:Nat)(s:ZrI):Prop:=stK (mkM b a) most i=some s.1∧∀m,m < i→∀stm,stK (mkM b a) most m=some stm→m≠stm.1.length
def Zfq(i:Nat)(s:ZrI):List (Nat×AV):=Zcc most i
def Zfr(_:Nat)(s:ZrI):List (Nat×Option Blk):=Zcd b a n s.1.1 s.1.2.1 s.1.2.2 s.2.1 s.2.2
def Zwz(x:Int×Int)(ss0:List (Int×Int))(k:Nat)(s:List (Int×Int)×List Int):Prop :=
 Zet most (Z5X b a x) k ss0=some (s.1,s.2.take k)∧s.2.length=n∧∀j (h:j < ss0.length),s.1[j]? = some ss0[j]
def Zjr(i:Nat)(k:Nat)(s:List (Int×Int)×List Int):List (Nat×AV):=(11,.ptr 9 0 0)::(12,.own 10 0 n)::(75,Z06 n)::(76,Z06 k)::Zcc most i
def Zjs(x:Int×Int)(nx:List (List Int))(en:List Bool)(oN oE:Bool)(_:Nat)(s:List (Int×Int)×List Int):List (Nat×Option Blk) :=
 (9,some (.arr 2 [Z2f x]))::(10,some (.arr 1 (s.2.map Z06)))::Zcd b a n s.1 nx en oN oE
theorem ZeF{gF:Nat→Option Blk}{R:Nat→Nat→Prop}(rw_:List Int)(k:Nat)(v:Int):Z72 gF R ((List.map Z06 rw_).set k (.v (.int .i64 v))) ((List.map Z06 rw_).set k (.v (.int .i64 v))):=by
 have:(List.map Z06 rw_).set k (.v (.int .i64 v))=List.map Z06 (rw_.set k v):=by rw[List.map_set];rfl
 rw[this];exact Z72.cl (Z5L _)
theorem Zfm(l:List Int)(k:Nat)(v:Int)(h:k < l.length):(l.set k v).take (k+1)=l.take k++[v]:=by
 rw[List.take_succ_eq_append_getElem (by simpa using h),List.take_set_of_le (Nat.le_refl _)];simp
theorem Zun{g:Nat→Option Blk}{b a:Det}{km:Nat}{lv:AV}(h:g 3=some (.arr 8 [Z6W b a km lv])):Fz g (.ptr 3 0 0) (pMk b a) :=
 .pre 3 8 [Z06 b.signs,Z0l b.next,Z2E b.fin,Z06 a.signs,Z0l a.next,Z2E a.fin] [.mp km,lv] h (Z01 (Z04 _) (Z01 (Z0T _) (Z01 (Z1w _) (Z01 (Z04 _) (Z01 (Z0T _) (Z01 (Z1w _) Z0a))))))
end
theorem Zql(p:Int×Int):ZaZ (Z2f p):=.agg _ fun y hy=>by simp at hy;rcases hy with rfl | rfl<;>exact .v _
theorem ZrT{k:Nat}(h:k≤1000):(IntKind.i64.wrap ((k % 2 ^ IntKind.i64.bits &&& 1 % 2 ^ IntKind.i64.bits:Nat):Int) == 1)=decide (k % 2=1):=by
 have e1:k % 2 ^ IntKind.i64.bits=k:=Nat.mod_eq_of_lt (by show k < 2 ^ 64;omega);have e2:1 % 2 ^ IntKind.i64.bits=1:=rfl;rw[e1,e2,Nat.and_one_is_mod,Z0m _ (by omega)];by_cases h:k % 2=1
 ·simp[h]
 ·have h0:k % 2=0:=by omega
  simp[h0]
theorem Zj6{P:Program}{fr fnum fb:FuncId}(b a:Det)(most:Int)(hrb:Z0t P fr [Z0v b] (Z1n (Z2r b)))(hra:Z0t P fr [Z0v a] (Z1n (Z2r a)))
  (hn:∀o ss x,(o=true∨ss=[])→ss.length≤100000→Zl3 P fnum b a o ss x)
  (hb:Z1Q b→Z1Q a→b.signs=a.signs→∀x (s:Nat),vM b a x→s < (2*b.signs).toNat→Z0t P fb [pMk b a,Z2f x,Z06 (s / 2:Nat),Z1n (decide (s % 2=1))] (Z2f (Z5X b a x s))) :
  AWb P 0 (Zb6 fr fnum fb) (Z2L [.c 6 (some 3),.t 7] (FzK (Z3N (Z4j b a most)))) (Z53 [Z0v b,Z0v a,Z06 most]) S0:=by
 simp[Zb6];refine Z0x.pure hrb (Z01 (Z0e b) Z0a) (Z0L _) ?_;cases hRb:Z2r b with
 | false =>
  have hres:Z4j b a most=(⟨0,[],[]⟩,1):=by simp[Z4j,hRb]
  rw[hres];simp[Z2L,evC,RV.ev,ldC,Z1b,Z0w,Z1t];exact Z2F _ 1
 | true =>
 simp;refine Z0x.pure hra (Z01 (Z0e a) Z0a) (Z0L _) ?_;cases hRa:Z2r a with
 | false =>
  have hres:Z4j b a most=(⟨0,[],[]⟩,1):=by simp[Z4j,hRa]
  rw[hres];simp[Z2L,evC,RV.ev,ldC,Z1b,Z0w,Z1t];exact Z2F _ 1
 | true =>
 have Rb:=(Z5v b).mp hRb;have Ra:=(Z5v a).mp hRa;by_cases hsg:b.signs=a.signs;rotate_left
 ·have hres:Z4j b a most=(⟨0,[],[]⟩,1):=by rw[Z4j,if_neg (by simp[hsg])]
  have hne:(b.signs != a.signs)=true:=by simp[hsg]
  rw[hres];simp[hne,Z2L,evC,RV.ev,ldC,Z1b,Z0w,Z1t];exact Z2F _ 1
 have hne:(b.signs != a.signs)=false:=by simp[hsg]
 by_cases h2:200 < b.signs
 ·have hres:Z4j b a most=(⟨0,[],[]⟩,1):=by rw[Z4j,if_neg (by omega)]
  rw[hres];simp[hne,h2,Z2L,evC,RV.ev,ldC,Z1b,Z0w,Z1t];exact Z2F _ 1
 by_cases h1:most < 1
 ·have hres:Z4j b a most=(⟨0,[],[]⟩,1):=by rw[Z4j,if_neg (by omega)]
  rw[hres];simp[hne,h2,h1,Z2L,evC,RV.ev,ldC,Z1b,Z0w,Z1t];exact Z2F _ 1
 by_cases h3:3000 < most
 ·have hres:Z4j b a most=(⟨0,[],[]⟩,1):=by rw[Z4j,if_neg (by omega)]
  rw[hres];simp[hne,h2,h1,h3,Z2L,evC,RV.ev,ldC,Z1b,Z0w,Z1t];exact Z2F _ 1
 have hres:Z4j b a most=(match ZdQ (mkM b a) most with | some st=>(⟨2*b.signs,st.2.1,st.2.2⟩,0) | none=>(⟨0,[],[]⟩,13)):=by rw[Z4j,if_pos ⟨hRb,hRa,hsg,by omega,by omega,by omega⟩];cases ZdQ (mkM b a) most<;>rfl
 have hs1:=Rb.s1;obtain⟨n,hn2⟩:∃n:Nat,2*b.signs=(n:Int):=⟨(2*b.signs).toNat,by omega⟩;have hww:IntKind.i64.wrap (2*b.signs)=(n:Int):=by rw[hn2];exact Z0m _ (by omega)
 have I:=Zwf Rb Ra hsg;have hb':=hb Rb Ra hsg;have hMsg:(mkM b a).sg=n:=by show(2*b.signs).toNat=n;omega
 have hMb:(mkM b a).b=Z5X b a:=rfl;simp[hne,h2,h1,h3,Z0w,Z1t,ZiP];refine Zl3.use (hn false [] (0,0) (.inr rfl) (by simp)) (id:=36) (il:=3) (km:=34) (by simp[Z6W,Z4k]) (by simp[Z4B]) (by simp[Z49]) (by simp) (by simp) ?_;have hn0:Zqd [] (0,0)=[(0,0)]:=rfl;simp[ZsC,hn0,hww,Z0w,Z1t,ZfH,ZjU];refine Z2D most.toNat (Zwy b a most) (Zfq most) 10 (Zfr b a n) (([(0,0)],[],[]),false,false) ⟨rfl,fun m hm=>by omega⟩ ?_ ?_
 ·refine Abs.of [(0,0),(1,1),(2,2),(3,36),(4,41),(5,34),(6,52)] [] (by omega) ⟨by simp,by simp⟩ ?_ ?_
  ·simp[Zfr,Zcd,Z7i,Z0e,Z6W,Z7t,Z4L,Z40]
  ·simp[Zfq,Zcc,Z2f]
 ·rintro i ⟨⟨ss,nx,fin⟩,oN,oE⟩ hi' ⟨heq,hmin⟩
  simp only at heq hmin;have ok:=Zfk I (by omega) i heq;have hle:=ok.le;have hsl:=ok.ss.l;simp only at hle hsl;by_cases hlt:i < ss.length
  ·obtain⟨x,hx⟩:∃x,ss[i]? = some x:=⟨_,List.getElem?_eq_getElem hlt⟩
   have hxe:ss[i]=x:=by rw[List.getElem?_eq_getElem hlt] at hx;exact Option.some.inj hx
   have hvx:vM b a x:=ok.ss.v x (by rw[←hxe];exact List.getElem_mem hlt);have hnxt:stK (mkM b a) most (i+1)=nxK (mkM b a) most i (ss,nx,fin):=by simp only[stK,heq]
   have hax:AV.agg [.v (.int .i64 x.1),.v (.int .i64 x.2)]=Z2f x:=rfl;have hltI:(i:Int) < (ss.length:Int):=by omega
   have hmk:8*(n:Int)≤281474976710656:=by omega
   have hmk2:(n:Int)≤9223372036854775807:=by omega
   have hmk3:8*n≤281474976710656:=by omega
   have hmk4:n≤9223372036854775807:=by omega
   simp[Zfq,Zcc,Zfr,Zcd,Z6W,hlt,hltI,hx,hxe,ZjV,Z47,Zhd,hmk,hmk2,hmk3,hmk4];refine Z2D n (Zwz b a most n x ss) (Zjr most n i) 11 (Zjs b a n x nx fin oN oE) (ss,List.replicate n 0) ⟨rfl,by simp,fun j hj=>List.getElem?_eq_getElem hj⟩ ?_ ?_
   ·refine Abs.of [(0,0),(1,1),(2,2),(3,3),(4,4),(5,5),(6,6),(7,7),(8,8),(9,24),(10,28)] [] (by omega) ⟨by simp,by simp⟩ ?_ ?_
    ·simp[Zjs,Zcd,Z7i,Z0e,Z6W,Z7t,Z4L,Z40,hax]
    ·simp[Zjr,Zcc]
   ·rintro k ⟨ss1,rw_⟩ hk ⟨hrow,hrwl,hpre⟩
    simp only at hrow hrwl hpre;have hsx:∀s,s < n→s < (mkM b a).sg:=fun s hs=>by omega
    obtain⟨hok,hlen1,hrl⟩:=Zgm (V:=vM b a) (n:=n) (fun s hs=>I.next x s hvx (hsx s hs)) ok.ss k hk hrow;simp only at hok hlen1 hrl;have hl1:=hok.l;have hi1:i < ss1.length:=by omega
    by_cases hkl:k < n
    ·have hkI:(k:Int) < (n:Int):=by omega
     have hxn:=hb' x k hvx (by omega);have hvb:=I.next x k hvx (hsx k hkl)
     have hcn:=hn true ss1 (Z5X b a x k) (.inl rfl) (by omega);rw[hMb] at hvb;generalize hto:Z5X b a x k=to at *;have hqq:((k / 2:Nat):Int)=(k:Int) / 2:=by omega
     have hq:IntKind.i64.wrap ((k:Int) / 2)=(k:Int) / 2:=by rw[←hqq];exact Z0m _ (by omega)
     have hand:=ZrT (k:=k) (by omega);rw[hqq] at hxn;simp[Zjr,Zcc,Zjs,Zcd,Z6W,hkI,hkl,Z47,hax,hq,hand];refine Z0x.looks hxn (FzL.cons (Zun (km:=5) (lv:=.own 4 0 ss1.length) (by simp[Z6W])) (FzL.cons (.closed _ (Z40 x)) (FzL.cons (.closed _ (Z04 _)) (FzL.cons (.closed _ (Z0L _)) FzL.nil)))) (Zql _) ?_;simp;refine Zl3.use hcn (id:=3) (il:=4) (km:=5) (by simp[Z6W,Z2G]) (by simp[Z1S]) (by simp) (by simp) (by simp) ?_;have hkw:k < rw_.length:=by omega
     have hrwn:n≤rw_.length:=by omega
     by_cases hin:to∈ss1
     ·have hnl:Zqd ss1 to=ss1:=by rw[Zqd,if_pos hin]
      have hnj:Zrn ss1 to=(@List.idxOf _ instBEqOfDecidableEq to ss1:Int):=by rw[Zrn,if_pos hin]
      have hnf:ZhB most ss1 (Z5X b a x k)=some (ss1,(@List.idxOf _ instBEqOfDecidableEq to ss1:Int)):=by unfold ZhB;rw[hto,if_pos hin]
      have hle2:¬most < (ss1.length:Int):=by omega
      simp[ZsC,hnl,hnj,Z6W,Z47,hkI,hkl,hkw,hrwn,hle2];rw[Z0m ((k:Int)+1) (by omega)];refine⟨hkl,(ss1,rw_.set k (@List.idxOf _ instBEqOfDecidableEq to ss1:Int)),⟨by rw[Zfm _ _ _ hkw];simp only[Zet,hrow,hnf],by simpa using hrwl,hpre⟩,Abs.of [(0,0),(1,1),(2,2),(3,3),(4,28),(5,5),(6,6),(7,7),(8,8),(9,9),(10,10)] [] (by omega) ⟨by simp,by simp⟩ ?_ ?_⟩
      ·simp[Zjs,Zcd,Z7i,Z0e,Z6W,Z7t,Z4L,Z40,ZeF]
      ·simp[Zjr,Zcc]
     ·have hnl:Zqd ss1 to=ss1++[to]:=by rw[Zqd,if_neg hin]
      have hnj:Zrn ss1 to=(ss1.length:Int):=by rw[Zrn,if_neg hin]
      by_cases hfull:(ss1.length:Int)=most
      ·have hnf:ZhB most ss1 (Z5X b a x k)=none:=by unfold ZhB;rw[hto,if_neg hin,if_pos hfull]
       have hgt:most < (ss1.length:Int)+1:=by omega
       have hrn:Zet most (Z5X b a x) n ss=none:=Ze7 (k:=k+1) (by simp only[Zet,hrow,hnf]) _ (by omega)
       have hnone:ZdQ (mkM b a) most=none:=by
        refine ZfV (most.toNat+1) 0 rfl i (Nat.zero_le _) (by rw[hnxt];simp only[nxK,hx,hMsg,hMb,hrn]) (fun m _ h2 stm hstm=>?_);by_cases hmi:m=i
        ·subst hmi
         rw[heq] at hstm;cases hstm;simp only;omega
        ·exact hmin m (by omega) stm hstm
       rw[hnone] at hres;simp only at hres;rw[hres];simp[ZsC,hnl,hnj,Z6W,Z47,hkI,hkl,hkw,hrwn,hgt,Z2L,evC,RV.ev,ldC,Z1b,Z0w,Z1t,Z7i];exact Z2F _ 13
      ·have hnf:ZhB most ss1 (Z5X b a x k)=some (ss1++[to],(ss1.length:Int)):=by unfold ZhB;rw[hto,if_neg hin,if_neg hfull]
       have hgt:¬most < (ss1.length:Int)+1:=by omega
       simp[ZsC,hnl,hnj,Z6W,Z47,hkI,hkl,hkw,hrwn,hgt];rw[Z0m ((k:Int)+1) (by omega)];refine⟨hkl,(ss1++[to],rw_.set k ss1.length),⟨by rw[Zfm _ _ _ hkw];simp only[Zet,hrow,hnf],by simpa using hrwl,fun a ha=>?_⟩,Abs.of [(0,0),(1,1),(2,2),(3,3),(4,28),(5,5),(6,6),(7,7),(8,8),(9,9),(10,10)] [] (by omega) ⟨by simp,by simp⟩ ?_ ?_⟩
       ·have:=hpre a ha
        have hal:=(List.getElem?_eq_some_iff.mp this).1;simp only;rw[List.getElem?_append_left hal];exact this
       ·simp[Zjs,Zcd,Z7i,Z0e,Z6W,Z7t,Z4L,Z40,ZeF]
       ·simp[Zjr,Zcc]
    ·have hke:k=n:=by omega
     subst hke;have hrt:rw_.take k=rw_:=by rw[←hrwl,List.take_length]
     rw[hrt] at hrow;have hnx:=ok.nx;have hfn:=ok.en;simp only at hnx hfn;have hokx:Z1K 24 nx.length 1:=by unfold Z1K;omega
     have hoke:Z1K 1 fin.length 1:=by unfold Z1K;omega
     have hsr:nxK (mkM b a) most i (ss,nx,fin)=some (ss1,nx++[rw_],fin++[Zcy a x]):=by simp only[nxK,hx,hMsg,hMb,hrow];rfl
     obtain⟨v0,v1,v2,v3,v4,v5⟩:=hvx;by_cases h2x:x.1=2
     ·have hme:Zcy a x=Z6n a x.2.toNat:=by simp[Zcy,h2x]
      have haf:=Ra.fin;have hqf:x.2 < (a.fin.length:Int):=by have:=v4 h2x;omega
      obtain⟨hfi,hfi'⟩:=Zkc (d:=a) x.2.toNat;simp[Zjr,Zcc,Zjs,Zcd,Z6W,Zdo,hokx,hoke,h2x,v2,hqf,hfi,hfi'];refine⟨by rintro j (⟨_,rfl⟩ | rfl)<;>simp,by rintro j (⟨_,rfl⟩ | rfl)<;>simp,?_⟩;rw[Z0m ((i:Int)+1) (by omega)];refine⟨by omega,((ss1,nx++[rw_],fin++[Zcy a x]),true,true),⟨by rw[hnxt,hsr],fun m hm stm hstm=>?_⟩,Abs.of [(0,0),(1,1),(2,2),(3,3),(4,4),(5,5),(6,6),(7,16),(8,31)] [10] (by omega) ⟨by simp,by simp⟩ ?_ ?_⟩
      ·by_cases hmi:m=i
       ·subst hmi
        rw[heq] at hstm;cases hstm;simp only;omega
       ·exact hmin m (by omega) stm hstm
      ·simp[Zfr,Zcd,Z7i,Z0e,Z6W,Z7t,Z4L,Z40,hme,hrwl]
      ·simp[Zfq,Zcc]
     ·have hme:Zcy a x=false:=by simp[Zcy,h2x]
      have h2xb:(x.1 == 2)=false:=by simp[h2x]
      simp[Zjr,Zcc,Zjs,Zcd,Z6W,Zdo,hokx,hoke,h2xb];refine⟨by rintro j (⟨_,rfl⟩ | rfl)<;>simp,by rintro j (⟨_,rfl⟩ | rfl)<;>simp,?_⟩;rw[Z0m ((i:Int)+1) (by omega)];refine⟨by omega,((ss1,nx++[rw_],fin++[Zcy a x]),true,true),⟨by rw[hnxt,hsr],fun m hm stm hstm=>?_⟩,Abs.of [(0,0),(1,1),(2,2),(3,3),(4,4),(5,5),(6,6),(7,16),(8,31)] [10] (by omega) ⟨by simp,by simp⟩ ?_ ?_⟩
      ·by_cases hmi:m=i
       ·subst hmi
        rw[heq] at hstm;cases hstm;simp only;omega
       ·exact hmin m (by omega) stm hstm
      ·simp[Zfr,Zcd,Z7i,Z0e,Z6W,Z7t,Z4L,Z40,hme,hrwl]
      ·simp[Zfq,Zcc]
  ·have hie:i=ss.length:=by omega
   subst hie;have hmade:ZdQ (mkM b a) most=some (ss,nx,fin):=ZiY I (by omega) (most.toNat+1) 0 rfl (by omega) ss.length (ss,nx,fin) (Nat.zero_le _) heq rfl (fun m _ h2=>hmin m h2);rw[hmade] at hres;simp only at hres;rw[hres,hn2];simp[Zfq,Zcc,Zfr,Zcd,Z6W,Z47,ZfH,Z2L,evC,RV.ev,ldC,Z1b,Z7i];refine .P5g (.cons (.P5i (.cons (.closed _ (.v _)) (.cons (Zam ?_ (Z3E _)) (.cons (Zam ?_ (Z5W _)) .nil)))) (.cons (.closed _ (.v _)) .nil))
   ·simp
   ·simp
end Go.Rf
namespace Go.Rf
attribute [local simp] Z4c Z48 Z2M Z2a Z2P Z2R Z2Q Z4a Z4b Z1e Z16 Z0c Z0B Z0q Z08 Z0o Z0h Z09 Z0p Z0i Z0Y Z0j Z0z Z0K Z0k Z0J Z1W Z3U Z0X Z25 Z22 Z24 Z23 Z26 Z1j Z0D Z11 Z12 Z1T Z1U Z1V Z0H Z0I Z1i Z0r Z0W Z20 Z1X Z1Z Z1Y Z21 Z1k Z13 Z1g Z0U Z0V Z0C Z1h Z0P Z1a Z1f Z14 Z1l ex Z00 Z0R Z6K Z6P Z0f Z0g Z0A Z2k Z1d Z10 Z0y Z0F Z0G Z0E Z0s Z0Z Z5y Z0O Z37 Z1c Z1O Z1R Z3s Z0b Z1q Z19 Z0Q Z1F Z3S Z1P Z6A Z3C Z6z Z3w Z2Y Z3t Z6w Z3D Z51 AV.solid S0 Z06 Z1n
def Zaq:AC :=
 (.seq (.reg none [
 ro 2 (.mv (.c (.v (.bool false))))])
 (.seq (.reg none [
 rm 3 0,
 ro 4 (.bin .lss (.t 3) (ci 0)),
 rm 5 4,
 rg 6 5 false (.mv (.t 0)),
 rg 7 5 false (.bin .gtr (.t 6) (ci 1048576)),
 ro 8 (.pick (.t 5) (.c (.v (.bool true))) (.t 7)),
 rm 2 8])
 .ret))
def Z7H:AC :=
 (.seq (.reg none [
 ro 4 (.mv (.c (.sl true [])))])
 (.seq (.seq (.reg none [
 rm 8 1,
 ro 9 (.bin .lss (.t 8) (ci 1)),
 rm 10 9,
 rg 11 10 false (.mv (.t 1)),
 rg 12 10 false (.mv (.t 0)),
 rg 13 10 false (.len (.t 12)),
 rg 14 10 false (.bin .geq (.t 11) (.t 13)),
 ro 15 (.pick (.t 10) (.c (.v (.bool true))) (.t 14))])
 (.cond (.t 15) (.seq (.reg none [
  ro 4 (.mv (.c (.sl true [])))])
 .ret) .skip))
 (.seq (.reg none [
 ro 5 (.mv (.c (.sl true [])))])
 (.seq (.seq (.reg none [
 ro 6 (.mv (ci 0))])
 (.block 0 (.loop (.seq (.seq (.reg none [
  rm 16 6,
  rm 17 0,
  ro 18 (.len (.t 17)),
  ro 19 (.bin .lss (.t 16) (.t 18))])
  (.cond (.t 19) .skip (.exit 0)))
  (.seq (.block 1 (.seq (.seq (.reg none [
   rm 22 0,
   rm 23 6,
   ro 24 (.idxA 1 (.t 22) (.t 23)),
   ro 25 (.load none (.t 24)),
   ro 26 (.bin .lss (.t 25) (ci 0)),
   rm 27 26,
   rg 28 27 false (.mv (.t 0)),
   rg 29 27 false (.mv (.t 6)),
   rg 30 27 false (.idxA 1 (.t 28) (.t 29)),
   rg 31 27 false (.load none (.t 30)),
   rg 32 27 false (.bin .gtr (.t 31) (ci 1048576)),
   ro 33 (.pick (.t 27) (.c (.v (.bool true))) (.t 32))])
  (.cond (.t 33) (.seq (.reg none [
   ro 4 (.mv (.c (.sl true [])))])
   .ret) .skip))
  (.seq (.reg none [
   rm 34 0,
   rm 35 6,
   ro 36 (.idxA 1 (.t 34) (.t 35)),
   ro 37 (.load none (.t 36)),
   ro 38 (.bin .mul (ci 2) (.t 37)),
   rm 7 38])
  (.seq (.seq (.reg none [
   rm 39 6,
   rm 40 1,
   ro 41 (.bin .eql (.t 39) (.t 40))])
  (.cond (.t 41) (.reg none [
   rm 42 7,
   ro 43 (.bin .add (.t 42) (ci 1)),
   rm 7 43]) .skip))
  (.reg none [
   rm 44 5,
   rm 45 7,
   ro 46 (.bslice 1 1 (.v (.int .i64 0)) [(0,(.t 45))]),
   ro 47 (.app 1 8 (.t 44) (.t 46)),
   rm 5 47])))))
  (.reg none [
  rm 20 6,
  ro 21 (.bin .add (.t 20) (ci 1)),
  rm 6 21]))))))
 (.seq (.reg none [
 rm 48 5,
 rm 4 48])
 .ret)))))
def Zcg(P4h P0c:FuncId):AC :=
 (.seq (.reg none [
 ro 4 (.mv (.c (.sl true [])))])
 (.seq (.reg none [
 ro 5 (.mv (.c (.clo P4h [] [])))])
 (.seq (.seq (.reg none [
 rm 9 1,
 ro 10 (.bin .lss (.t 9) (ci 1)),
 rm 11 10,
 rg 12 11 false (.mv (.t 1)),
 rg 13 11 false (.mv (.t 0)),
 rg 14 11 false (.len (.t 13)),
 rg 15 11 false (.bin .geq (.t 12) (.t 14)),
 ro 16 (.pick (.t 11) (.c (.v (.bool true))) (.t 15)),
 rm 17 16,
 rg 18 17 false (.mv (.t 0)),
 rg 19 17 false (.mv (.t 5)),
 rl 20 17 false P0c [(.t 18),(.t 19)],
 ro 21 (.pick (.t 17) (.c (.v (.bool true))) (.t 20))])
 (.cond (.t 21) (.seq (.reg none [
  ro 4 (.mv (.c (.sl true [])))])
 .ret) .skip))
 (.seq (.reg none [
 ro 6 (.mv (.c (.sl true [])))])
 (.seq (.seq (.reg none [
 rm 22 0,
 ro 23 (.len (.t 22)),
 ro 24 (.mv (ci 0))])
 (.block 0 (.loop (.seq (.reg none [
  ro 25 (.bin .lss (.t 24) (.t 23))])
  (.seq (.cond (.t 25) .skip (.exit 0))
  (.seq (.block 1 (.seq (.reg none [
   rm 26 24,
   ro 27 (.idxA 1 (.t 22) (.t 24)),
   ro 28 (.load none (.t 27)),
   rm 7 26,
   rm 8 28])
  (.seq (.reg none [
   rm 29 6,
   rm 30 8,
   ro 31 (.bin .mul (ci 2) (.t 30)),
   ro 32 (.bslice 1 1 (.v (.int .i64 0)) [(0,(.t 31))]),
   ro 33 (.app 1 8 (.t 29) (.t 32)),
   rm 6 33])
  (.seq (.reg none [
   rm 34 7,
   rm 35 1,
   ro 36 (.bin .eql (.t 34) (.t 35))])
  (.cond (.t 36) (.reg none [
   rm 37 6,
   rm 38 7,
   ro 39 (.idxA 1 (.t 37) (.t 38)),
   ro 40 (.load none (.t 39)),
   ro 41 (.bin .add (.t 40) (ci 1)),
   ro 42 (.idxA 1 (.t 37) (.t 38)),
   rn (.store 1 (.t 42) (.t 41))]) .skip)))))
  (.reg none [
  ro 43 (.bin .add (.t 24) (ci 1)),
  rm 24 43])))))))
 (.seq (.reg none [
 rm 44 6,
 rm 4 44])
 .ret))))))
def Zwi(s:Int):Bool:=decide (s < 0) || decide (1048576 < s)
def Z73(place:Int)(i:Nat):Int:=if (i:Int)=place then 1 else 0
def wrL(place:Int):Nat→List Int→List Int
 | _,[]=>[]
 | i,s::l=>(2*s+Z73 place i)::wrL place (i+1) l
theorem Z5x(place:Int):∀(l:List Int) (i:Nat),(wrL place i l).length=l.length
 | [],_=>rfl
 | s::l,i=>by simp[wrL,Z5x place l]
def Zp6(signs:List Int)(place:Int):List Int :=
 if 1≤place∧place < signs.length∧signs.any Zwi=false then wrL place 0 signs else []
end Go.Rf
namespace Go.Rf
theorem Zej(place:Int):∀(l:List Int) (i k:Nat) (h:k < l.length) (h':k < (wrL place i l).length),(wrL place i l)[k]=2*l[k]+Z73 place (i+k)
 | s::l,i,0,h,h'=>by simp[wrL]
 | s::l,i,k+1,h,h'=>by
  simp only[wrL,List.getElem_cons_succ];rw[Zej place l (i+1) k (by simpa using h)];congr 2;omega
section
variable{P:Program}{fl fi fb fw:FuncId}{a b:List Int}{place:Int}
end
end Go.Rf
namespace Go.Rf
attribute [local simp] Z4c Z48 Z2M Z2a Z2P Z2R Z2Q Z4a Z4b Z1e Z16 Z0c Z0B Z0q Z08 Z0o Z0h Z09 Z0p Z0i Z0Y Z0j Z0z Z0K Z0k Z0J Z1W Z3U Z0X Z25 Z22 Z24 Z23 Z26 Z1j Z0D Z11 Z12 Z1T Z1U Z1V Z0H Z0I Z1i Z0r Z0W Z20 Z1X Z1Z Z1Y Z21 Z1k Z13 Z1g Z0U Z0V Z0C Z1h Z0P Z1a Z1f Z14 Z1l ex Z00 Z0R Z6K Z6P Z0f Z0g Z0A Z2k Z1d Z10 Z0y Z0F Z0G Z0E Z0s Z0Z Z5y Z0O Z37 Z1c Z1O Z1R Z3s Z0b Z1q Z19 Z0Q Z1F Z3S Z1P Z6A Z3C Z6z Z3w Z2Y Z3t Z6w Z3D Z51 AV.solid S0 Z06 Z1n
def Z4Z(P3B:FuncId):AC :=
 (.seq (.reg none [
 ro 2 (.box 3 (.t 0)),
 ro 4 (.mv (.c (.v (.bool false))))])
 (.seq (.reg none [
 ro 6 (.load (some 3) (.t 2)),
 rm 7 1,
 rk 8 P3B [(.t 6),(.t 7)],
 rm 5 8])
 (.seq (.reg none [
 rm 9 5,
 ro 10 (.bin .geq (.t 9) (ci 0)),
 rm 11 10,
 rg 12 11 true (.fieldA 2 (.t 2)),
 rg 13 11 true (.load none (.t 12)),
 rg 14 11 true (.mv (.t 5)),
 rg 15 11 true (.idxA 1 (.t 13) (.t 14)),
 rg 16 11 true (.load none (.t 15)),
 ro 17 (.pick (.t 11) (.t 16) (.c (.v (.bool false)))),
 rm 4 17])
 .ret)))
def Z88(P0h:FuncId):AC :=
 (.seq (.reg none [
 ro 2 (.box 3 (.t 0)),
 ro 4 (.mv (ci 0))])
 (.seq (.seq (.reg none [
 ro 7 (.load (some 3) (.t 2)),
 rk 8 P0h [(.t 7)],
 ro 9 (.un .not (.t 8))])
 (.cond (.t 9) (.seq (.reg none [
  ro 4 (.mv (ci (-1)))])
 .ret) .skip))
 (.seq (.reg none [
 ro 5 (.mv (ci 0))])
 (.seq (.seq (.reg none [
 ro 6 (.mv (ci 0))])
 (.block 0 (.loop (.seq (.seq (.reg none [
  rm 10 6,
  rm 11 1,
  ro 12 (.len (.t 11)),
  ro 13 (.bin .lss (.t 10) (.t 12))])
  (.cond (.t 13) .skip (.exit 0)))
  (.seq (.block 1 (.seq (.seq (.reg (some []) [
   rm 16 1,
   rm 17 6,
   ro 18 (.idxA 1 (.t 16) (.t 17)),
   ro 19 (.load none (.t 18)),
   ro 20 (.bin .lss (.t 19) (ci 0)),
   rm 21 20,
   rg 22 21 false (.mv (.t 1)),
   rg 23 21 false (.mv (.t 6)),
   rg 24 21 false (.idxA 1 (.t 22) (.t 23)),
   rg 25 21 false (.load none (.t 24)),
   rg 26 21 false (.fieldA 0 (.t 2)),
   rg 27 21 false (.load none (.t 26)),
   rg 28 21 false (.bin .geq (.t 25) (.t 27)),
   ro 29 (.pick (.t 21) (.c (.v (.bool true))) (.t 28))])
  (.cond (.t 29) (.seq (.reg none [
   ro 4 (.mv (ci (-1)))])
   .ret) .skip))
  (.reg (some []) [
   ro 30 (.fieldA 1 (.t 2)),
   ro 31 (.load none (.t 30)),
   rm 32 5,
   ro 33 (.idxA 1 (.t 31) (.t 32)),
   ro 34 (.load none (.t 33)),
   rm 35 1,
   rm 36 6,
   ro 37 (.idxA 1 (.t 35) (.t 36)),
   ro 38 (.load none (.t 37)),
   ro 39 (.idxA 1 (.t 34) (.t 38)),
   ro 40 (.load none (.t 39)),
   rm 5 40])))
  (.reg none [
  rm 14 6,
  ro 15 (.bin .add (.t 14) (ci 1)),
  rm 6 15]))))))
 (.seq (.reg none [
 rm 41 5,
 rm 4 41])
 .ret)))))
def ZgU(P1j:FuncId):AC :=
 (.seq (.reg none [
 ro 2 (.box 3 (.t 0)),
 ro 4 (.mv (ci 0))])
 (.seq (.seq (.reg none [
 ro 8 (.load (some 3) (.t 2)),
 rk 9 P1j [(.t 8)],
 ro 10 (.un .not (.t 9))])
 (.cond (.t 10) (.seq (.reg none [
  ro 4 (.mv (ci (-1)))])
 .ret) .skip))
 (.seq (.reg none [
 ro 5 (.mv (ci 0))])
 (.seq (.seq (.reg none [
 rm 11 1,
 ro 12 (.len (.t 11)),
 ro 13 (.mv (ci 0))])
 (.block 0 (.loop (.seq (.reg none [
  ro 14 (.bin .lss (.t 13) (.t 12))])
  (.seq (.cond (.t 14) .skip (.exit 0))
  (.seq (.block 1 (.seq (.reg none [
   ro 15 (.idxA 1 (.t 11) (.t 13)),
   ro 16 (.load none (.t 15)),
   rm 7 16])
  (.seq (.seq (.reg none [
   rm 17 7,
   ro 18 (.bin .lss (.t 17) (ci 0)),
   rm 19 18,
   rg 20 19 false (.mv (.t 7)),
   rg 21 19 false (.fieldA 0 (.t 2)),
   rg 22 19 false (.load none (.t 21)),
   rg 23 19 false (.bin .geq (.t 20) (.t 22)),
   ro 24 (.pick (.t 19) (.c (.v (.bool true))) (.t 23))])
  (.cond (.t 24) (.seq (.reg none [
   ro 4 (.mv (ci (-1)))])
   .ret) .skip))
  (.reg none [
   ro 25 (.fieldA 1 (.t 2)),
   ro 26 (.load none (.t 25)),
   rm 27 5,
   ro 28 (.idxA 1 (.t 26) (.t 27)),
   ro 29 (.load none (.t 28)),
   rm 30 7,
   ro 31 (.idxA 1 (.t 29) (.t 30)),
   ro 32 (.load none (.t 31)),
   rm 5 32]))))
  (.reg none [
  ro 33 (.bin .add (.t 13) (ci 1)),
  rm 13 33])))))))
 (.seq (.reg none [
 rm 34 5,
 rm 4 34])
 .ret)))))
end Go.Rf
namespace Go.Rf
open Go.RowKit
attribute [local simp] Z4t Z4q Z3h Z2s Z3f Z3j Z3g Z4r Z4s Z3i Z3n Z1A Z1y Z2q Z1H Z41 Z3v ZcH Z7E Z7D Z5R ZcG Z7C Z5P Z4v Z3k Z4u Z7x Z7w Z5J Z4x Z3l Z4w Z7z Z7y Z5K Z1z Z2v Z3o Z3p Z1D Z1o Z0c Z0B Z0q Z08 Z0o Z0h Z09 Z0p Z0i Z0Y Z0j Z0z Z0K Z0k Z0J Z1W Z3U Z0X Z25 Z22 Z24 Z23 Z26 Z1j Z0D Z11 Z12 Z1T Z1U Z1V Z0H Z0I Z1i Z0r Z0W Z20 Z1X Z1Z Z1Y Z21 Z1k Z13 Z1g Z0U Z0V Z0C Z1h Z0P Z1a Z1f Z14 Z1l ex Z00 Z0R Z6K Z6P Z0f Z0g Z0A Z2k Z1d Z10 Z0y Z0F Z0G Z0E Z0s Z0Z Z5y Z0O Z37 Z1c Z1O Z1R Z3s Z0b Z1E Z28 Z19 Z0Q Z2w Z27 Z3u Z2x Z1P Z6A Z3C Z6z Z3w Z2Y Z3t Z6w Z3D Z51 Z4A Z3z Z2B Z2C Z29 Z2z Z2A Z3y Z1M Z2y Z3x Z3A S0 Z06 Z1n Z39 Z34 Z56 Z38 Z33 Z55 Z44 Z36 Z43 Z6j Z5a Z6i Z59 Z45 Z58
def ZeM(P1k P16:FuncId):AC :=
 (.seq (.reg none [
 ro 3 (.box 3 (.t 0)),
 ro 6 (.mv (.c (.v (.bool false))))])
 (.seq (.reg none [
 rm 8 1,
 rm 9 2,
 rk 10 P1k [(.t 8),(.t 9)],
 rm 7 10])
 (.seq (.reg none [
 rm 11 7,
 ro 12 (.len (.t 11)),
 ro 13 (.bin .gtr (.t 12) (ci 0)),
 rm 14 13,
 rg 15 14 true (.load (some 3) (.t 3)),
 rg 16 14 true (.mv (.t 7)),
 rl 17 14 true P16 [(.t 15),(.t 16)],
 ro 18 (.pick (.t 14) (.t 17) (.c (.v (.bool false)))),
 rm 6 18])
 .ret)))
end Go.Rf
namespace Go.Rf
open Go.RowKit
attribute [local simp] Z4t Z4q Z3h Z2s Z3f Z3j Z3g Z4r Z4s Z3i Z3n Z1A Z1y Z2q Z1H Z41 Z3v ZcH Z7E Z7D Z5R ZcG Z7C Z5P Z4v Z3k Z4u Z7x Z7w Z5J Z4x Z3l Z4w Z7z Z7y Z5K Z1z Z2v Z3o Z3p Z1D Z1o Z0c Z0B Z0q Z08 Z0o Z0h Z09 Z0p Z0i Z0Y Z0j Z0z Z0K Z0k Z0J Z1W Z3U Z0X Z25 Z22 Z24 Z23 Z26 Z1j Z0D Z11 Z12 Z1T Z1U Z1V Z0H Z0I Z1i Z0r Z0W Z20 Z1X Z1Z Z1Y Z21 Z1k Z13 Z1g Z0U Z0V Z0C Z1h Z0P Z1a Z1f Z14 Z1l ex Z00 Z0R Z6K Z6P Z0f Z0g Z0A Z2k Z1d Z10 Z0y Z0F Z0G Z0E Z0s Z0Z Z5y Z0O Z37 Z1c Z1O Z1R Z3s Z0b Z1E Z28 Z19 Z0Q Z2w Z27 Z3u Z2x Z1P Z6A Z3C Z6z Z3w Z2Y Z3t Z6w Z3D Z51 Z4A Z3z Z2B Z2C Z29 Z2z Z2A Z3y Z1M Z2y Z3x Z3A S0 Z06 Z1n Z39 Z34 Z56 Z38 Z33 Z55 Z44 Z36 Z43 Z6j Z5a Z6i Z59 Z45 Z58 Z2U Z72.cl Z5z.cl Z04 Z0L Z02 Z0T Z1w Z2j Z1N Z2n Z1p Z3r Z4N Z3V Z4M Z5L Z5W Z3E Z4O Z5w Z5m Z5S Z4U Z4X Z4W Z42 Z2c Z2H Z62 Z3m Z3W Z4y Z2J Z2I Z17 Z68 Z2G Z4k Z1S Z4B
def Z7j:AC :=
 (.seq (.reg none [
 ro 1 (.box 3 (.t 0)),
 ro 2 (.mv (.c (.sl true [])))])
 (.seq (.reg none [
 ro 3 (.mv (.c (.sl true [])))])
 (.seq (.seq (.reg none [
 ro 7 (.fieldA 2 (.t 1)),
 ro 8 (.load none (.t 7)),
 ro 9 (.len (.t 8)),
 ro 10 (.mv (ci 0))])
 (.block 0 (.loop (.seq (.reg none [
  ro 11 (.bin .lss (.t 10) (.t 9))])
  (.seq (.cond (.t 11) .skip (.exit 0))
  (.seq (.block 1 (.seq (.reg none [
   ro 12 (.idxA 1 (.t 8) (.t 10)),
   ro 13 (.load none (.t 12)),
   rm 5 13])
  (.seq (.reg none [
   ro 6 (.mv (ci 0))])
  (.seq (.seq (.reg none [
   rm 14 5])
  (.cond (.t 14) (.reg none [
   ro 6 (.mv (ci 1))]) .skip))
  (.reg none [
   rm 15 3,
   rm 16 6,
   ro 17 (.bslice 1 1 (.v (.int .i64 0)) [(0,(.t 16))]),
   ro 18 (.app 1 8 (.t 15) (.t 17)),
   rm 3 18])))))
  (.reg none [
  ro 19 (.bin .add (.t 10) (ci 1)),
  rm 10 19])))))))
 (.seq (.reg none [
 rm 20 3,
 rm 2 20])
 .ret))))
def Z7d(P0j P01 P03:FuncId):AC :=
 (.loop (.seq (.reg none [
  ro 23 (.bin .lss (.t 22) (.t 21))])
  (.seq (.cond (.t 23) .skip (.exit 0))
  (.seq (.block 1 (.seq (.reg none [
   ro 24 (.idxA 1 (.t 20) (.t 22)),
   ro 25 (.load none (.t 24)),
   rm 9 25])
  (.seq (.reg none [
   rk 26 P03 [(.t 7),(.c (.v (.int .u8 44)))]])
  (.reg none [
   rm 27 1,
   rm 28 9,
   ro 29 (.idxA 1 (.t 27) (.t 28)),
   ro 30 (.load none (.t 29)),
   rk 31 P0j [(.t 30)],
   rk 32 P01 [(.t 7),(.t 31)]]))))
  (.reg none [
  ro 33 (.bin .add (.t 22) (ci 1)),
  rm 22 33])))))
def Z9l(P0j P01 P03 P0d:FuncId):AC :=
 (.seq (.reg none [
 rm 10 1,
 rm 11 2,
 ro 12 (.idxA 1 (.t 10) (.t 11)),
 ro 13 (.load none (.t 12)),
 rk 14 P0j [(.t 13)],
 rk 15 P01 [(.t 7),(.t 14)]])
 (.seq (.seq (.reg none [
 ro 16 (.fieldA 1 (.t 3)),
 ro 17 (.load none (.t 16)),
 rm 18 2,
 ro 19 (.idxA 1 (.t 17) (.t 18)),
 ro 20 (.load none (.t 19)),
 ro 21 (.len (.t 20)),
 ro 22 (.mv (ci 0))])
 (.block 0 (Z7d P0j P01 P03)))
 (.seq (.reg none [
 rk 34 P0d [(.t 7)],
 rm 6 34])
 .ret)))
def Z9k(P0j P01 P03 P0d:FuncId):AC :=
 (.seq (.reg none [
 ro 3 (.box 3 (.t 0)),
 ro 6 (.mv (.c (.v (.string ⟨#[]⟩))))])
 (.seq (.reg none [
 ro 7 (.alloc (.agg [(.v (.pointer none)),(.sl true [])]) 2)])
 (Z9l P0j P01 P03 P0d)))
def Z7O(P4y:FuncId):AC :=
 (.seq (.reg none [
 ro 2 (.box 3 (.t 0)),
 ro 4 (.mv (.c (.sl true []))),
 ro 5 (.mv (ci 0))])
 (.seq (.reg none [
 ro 12 (.mmk),
 rm 6 12])
 (.seq (.reg none [
 ro 7 (.mv (.c (.sl true [])))])
 (.seq (.seq (.reg none [
 ro 13 (.fieldA 1 (.t 2)),
 ro 14 (.load none (.t 13)),
 ro 15 (.len (.t 14)),
 ro 16 (.mv (ci 0))])
 (.block 0 (.loop (.seq (.reg none [
  ro 17 (.bin .lss (.t 16) (.t 15))])
  (.seq (.cond (.t 17) .skip (.exit 0))
  (.seq (.block 1 (.seq (.reg none [
   rm 18 16,
   rm 8 18])
  (.seq (.reg none [
   ro 19 (.load (some 3) (.t 2)),
   rm 20 1,
   rm 21 8,
   rk 22 P4y [(.t 19),(.t 20),(.t 21)],
   rm 9 22])
  (.seq (.reg none [
   rm 24 6,
   rm 25 9,
   ro 26 (.look .str (.v (.int .i64 0)) true (.t 24) (.t 25)),
   rm 23 26,
   ro 27 (.ext 0 (.t 23)),
   ro 28 (.ext 1 (.t 23)),
   rm 10 27,
   rm 11 28])
  (.seq (.seq (.reg none [
   rm 29 11,
   ro 30 (.un .not (.t 29))])
  (.cond (.t 30) (.seq (.reg none [
   rm 31 6,
   ro 32 (.lenM (.t 31)),
   rm 10 32])
   (.reg none [
   rm 33 6,
   rm 34 9,
   rm 35 10,
   rn (.mset .str (.t 33) (.t 34) (.t 35))])) .skip))
  (.reg none [
   rm 36 7,
   rm 37 10,
   ro 38 (.bslice 1 1 (.v (.int .i64 0)) [(0,(.t 37))]),
   ro 39 (.app 1 8 (.t 36) (.t 38)),
   rm 7 39]))))))
  (.reg none [
  ro 40 (.bin .add (.t 16) (ci 1)),
  rm 16 40])))))))
 (.seq (.reg none [
 rm 41 7,
 rm 42 6,
 ro 43 (.lenM (.t 42)),
 rm 4 41,
 rm 5 43])
 .ret)))))
def Z6U(P4g P4q:FuncId):AC :=
 (.seq (.reg none [
 ro 1 (.box 3 (.t 0)),
 ro 2 (.mv (.c (.sl true [])))])
 (.seq (.reg none [
 ro 7 (.load (some 3) (.t 1)),
 rk 8 P4g [(.t 7)],
 rm 3 8])
 (.seq (.reg none [
 ro 4 (.mv (ci 0))])
 (.block 0 (.loop (.block 1 (.seq (.reg none [
   ro 10 (.load (some 3) (.t 1)),
   rm 11 3,
   rk 12 P4q [(.t 10),(.t 11)],
   rm 9 12,
   ro 13 (.ext 0 (.t 9)),
   ro 14 (.ext 1 (.t 9)),
   rm 5 13,
   rm 6 14])
  (.seq (.seq (.reg none [
   rm 15 6,
   rm 16 4,
   ro 17 (.bin .eql (.t 15) (.t 16))])
  (.cond (.t 17) (.seq (.reg none [
   rm 18 5,
   rm 2 18])
   .ret) .skip))
  (.reg none [
   rm 19 5,
   rm 20 6,
   rm 3 19,
   rm 4 20])))))))))
abbrev GrS:=List Int×Bool
def coI(d:Det)(i:Nat)(s:GrS):Prop:=s.1=(Z7I d).take i
def coA(d:Det)(i:Nat)(s:GrS):List (Nat×AV):=[(3,vV s.2 1 (s.1.map Z06)),(8,Z2E d.fin),(9,Z06 d.fin.length),(10,Z06 i)]
def coG(i:Nat)(s:GrS):List (Nat×Option Blk):=[(1,vB s.2 1 (s.1.map Z06))]
theorem ZiF{P:Program}(d:Det)(hl:d.fin.length≤4000):AWb P 0 Z7j (Z75 [2] (FzK (Z03 (Z7I d)))) (Z53 [Z0v d]) S0:=by
 simp[Z7j];refine Z2D d.fin.length (coI d) (coA d) 10 coG ([],false) rfl ?_ ?_
 ·refine Abs.of [] [] (by omega) ⟨by simp,by simp⟩ ?_ ?_
  ·simp[coG]
  ·simp[coA]
 ·rintro i ⟨xs,o⟩ hi hx
  simp only[coI] at hx;have hcl:(Z7I d).length=d.fin.length:=by simp[Z7I]
  have hxl:xs.length=i:=by rw[hx];simp[hcl];omega
  by_cases hlt:i < d.fin.length
  ·have hok:Z1K 8 xs.length 1:=by unfold Z1K;omega
   have hn:(Z7I d).take (i+1)=xs++[(Z7I d)[i]'(by omega)]:=by rw[List.take_succ_eq_append_getElem (by omega),←hx]
   have hg:(Z7I d)[i]'(by omega)=if d.fin[i]=true then 1 else 0:=by simp[Z7I]
   have hgd:d.fin.getD i false=d.fin[i]:=by rw[List.getD_eq_getElem?_getD,List.getElem?_eq_getElem hlt];rfl
   rw[hg] at hn;cases hb:d.fin[i] with
   | true =>
    simp only[hb,if_true] at hn;simp[coA,coG,hlt,hgd,hb,hok];rw[Z0m _ (by omega)];refine⟨hlt,(xs++[1],true),hn.symm,Abs.of [(1,20)] [] (by omega) ⟨by simp,by simp⟩ ?_ ?_⟩
    ·simp[coG]
    ·simp[coA]
   | false =>
    simp only[hb,Bool.false_eq_true,if_false] at hn;simp[coA,coG,hlt,hgd,hb,hok];rw[Z0m _ (by omega)];refine⟨hlt,(xs++[0],true),hn.symm,Abs.of [(1,19)] [] (by omega) ⟨by simp,by simp⟩ ?_ ?_⟩
    ·simp[coG]
    ·simp[coA]
  ·have hie:i=d.fin.length:=by omega
   have ht:xs=Z7I d:=by rw[hx];exact List.take_of_length_le (by omega)
   subst ht;simp[coA,coG,hlt,hie];refine Zam ?_ (Z5L _);simp
def Z9W:List Int→List UInt8
 | []=>[]
 | k::ks=>Lib.itoa k++ks.flatMap fun n=>44::Lib.itoa n
def Zm8(l:List Int):AV:=Z8s (Z9W l)
def ZcF(l:List Int):List UInt8:=l.flatMap fun n=>Lib.itoa n++[44]
theorem Zjm(ks:List Int):∀k,Z9W (k::ks)++[44]=ZcF (k::ks):=by
 induction ks with
 | nil=>intro k;simp[Z9W,ZcF]
 | cons j js ih =>
  intro k;have:=ih j;simp only[Z9W,ZcF,List.flatMap_cons,List.append_assoc,List.cons_append] at this ⊢;rw[this];simp
theorem Zch(n:Nat):∀b∈Lib.decDigits n,b≠44:=by
 induction n using Nat.strongRecOn with
 | _ n ih =>
  rw[Lib.decDigits];split
  ·rename_i h
   intro b hb e;simp only[List.mem_cons,List.not_mem_nil,or_false] at hb;have:=Z8y h;rw[←hb,e] at this;have h32:(44:UInt8).toNat=44:=rfl;omega
  ·rename_i h
   have h2:=ih (n / 10) (by omega);have hd:n % 10 < 10:=Nat.mod_lt _ (by omega);intro b hb e;rcases List.mem_append.mp hb with hb | hb
   ·exact h2 b hb e
   ·simp only[List.mem_cons,List.not_mem_nil,or_false] at hb
    have:=Z8y hd;rw[←hb,e] at this;have h32:(44:UInt8).toNat=44:=rfl;omega
theorem Z8J(n:Int)(l:List Int):ZcF (n::l)=Lib.itoa n++44::ZcF l:=by simp[ZcF]
theorem Zi7:∀{l m:List Int},Z7q l→Z7q m→ZcF l=ZcF m→l=m
 | [],[],_,_,_=>rfl
 | [],n::m,_,_,h=>by rw[Z8J] at h;simp[ZcF] at h
 | n::l,[],_,_,h=>by rw[Z8J] at h;simp[ZcF] at h
 | n::l,k::m,hl,hm,h=>by
  have hn:=hl n (by simp);have hk:=hm k (by simp);rw[Z8J,Z8J,ZdL hn,ZdL hk] at h;obtain⟨h1,h2⟩:=Znf (Zch _) (Zch _) h;have:=congrArg Ztw h1;rw[(Z6e _).1,(Z6e _).1] at this;rw[Zi7 (fun z hz=>hl z (by simp[hz])) (fun z hz=>hm z (by simp[hz])) h2];congr 1;omega
def Zl7(l:List Int):Prop:=l≠[]∧∀n∈l,0≤n∧n < 10000
theorem Zp1{l m:List Int}(hl:Zl7 l)(hm:Zl7 m)(h:Z9W l=Z9W m):l=m:=by
 obtain⟨k,ks,rfl⟩:=List.exists_cons_of_ne_nil hl.1;obtain⟨j,js,rfl⟩:=List.exists_cons_of_ne_nil hm.1;refine Zi7 (fun n hn=>(hl.2 n hn).1) (fun n hn=>(hm.2 n hn).1) ?_;rw[←Zjm,←Zjm,h]
theorem ZwH:Zem .str Zl7 Zm8:=by
 refine⟨fun x=>rfl,fun x y hx hy=>?_⟩;have:Z8C (Zm8 x) (Zm8 y)=((⟨(Z9W x).toArray⟩:ByteArray) == ⟨(Z9W y).toArray⟩):=rfl;rw[this,ZqS];by_cases h:x=y
 ·subst h;simp
 ·simp only[h,decide_false,beq_eq_false_iff_ne,ne_eq]
  intro e;refine h (Zp1 hx hy ?_);simpa using e
theorem ZnR{n:Int}(h:0≤n∧n < 10000):(Lib.itoa n).length≤21:=Lib.itoa_length_le n (by omega) (by omega)
theorem Zi9:∀{l:List Int},(∀n∈l,0≤n∧n < 10000)→(ZcF l).length≤22*l.length
 | [],_=>by simp[ZcF]
 | k::ks,h=>by
  have h1:=ZnR (h k (by simp));have h2:=Zi9 (l:=ks) (fun n hn=>h n (by simp[hn]));rw[Z8J,List.length_append,List.length_cons,List.length_cons];omega
theorem Zfo(k:Int)(ks:List Int)(n:Int):Z9W (k::(ks++[n]))=Z9W (k::ks)++44::Lib.itoa n:=by simp[Z9W]
def vwA(d:Det)(c:List Int)(s:Nat):List (Nat×AV):=[(1,Z03 c),(2,Z06 s),(3,.eptr (Z0v d) 0)]
structure VwI(T e B:Nat)(w0:World)(c row:List Int)(k0:Int)(m:Nat)(a:AF)(w:World)(j:Nat):Prop where
 hj:j≤row.length
 hm:m=row.length - j
 e1:a 1=Z03 c
 e7:a 7=.ptr 0 0 0
 e20:a 20=Z03 row
 e21:a 21=Z06 row.length
 e22:a 22=Z06 j
 bl:Bld T e B B w0 (Z9W (k0::(row.take j).map fun t=>c.getD t.toNat 0)) w
def ZvO(T e B:Nat)(w0:World)(H:Nat→Option (Array Value))(c row:List Int)(k0:Int)(m:Nat)(a:AF)(w:World):Prop:=HOk H w∧∃j,VwI T e B w0 c row k0 m a w j
def Goo(n:Int):Prop:=0≤n∧n < 10000
theorem Zid{P:Program}{fi fw fb fs:FuncId}{T e:TypeId}(k:Zp7 P fw fb fs T e)(hi:ItK P fi Goo){c row:List Int}{k0:Int}(hk0:Goo k0)(hc:∀n∈c,Goo n)(hr:∀t∈row,0≤t∧t < c.length)(hlen:row.length≤4000)
  {E:Env} {B:Nat} {w0:World} (hE:BE E B B) (hGm:Gam P E.H) {Q:Exit→AF→World→Prop} (hQ:∀a w,VwI T e B w0 c row k0 0 a w row.length→HOk E.H w→Q (.exit 0) a w) {a:AF} {w:World} (h:VwI T e B w0 c row k0 row.length a w 0) (hH:HOk E.H w) :
  AWW P E (Z7d fi fw fb) Q a w:=by
 unfold Z7d;unfold AWW;refine⟨ZvO T e B w0 E.H c row k0,⟨row.length,hH,0,h⟩,?_⟩;rintro m a w ⟨hH,j,hI⟩;by_cases hj:j < row.length
 ·have h1:(j:Int) < row.length:=by omega
  have hget:(row.map Z06)[j]? = some (Z06 row[j]):=by simp[hj]
  have hw:IntKind.i64.wrap ((j:Int)+1)=j+1:=Z0m _ (by omega);obtain⟨h2,h3⟩:=hr _ (List.getElem_mem hj);have hcl:row[j].toNat < c.length:=by omega
  have hgc:(c.map Z06)[row[j].toNat]? = some (Z06 c[row[j].toNat]):=by simp[hcl]
  have hgo:=hc _ (List.getElem_mem hcl)
  have ht:(row.take (j+1)).map (fun t=>c.getD t.toNat 0)=(row.take j).map (fun t=>c.getD t.toNat 0)++[c[row[j].toNat]]:=by
   rw[List.take_succ_eq_append_getElem hj,List.map_append];simp[List.getElem?_eq_getElem hcl]
  have hle:(Z9W (k0::(row.take (j+1)).map fun t=>c.getD t.toNat 0)).length≤22*4001:=by
   have h4:=Zi9 (l:=k0::(row.take (j+1)).map fun t=>c.getD t.toNat 0) (fun n hn=>by
    simp only[List.mem_cons,List.mem_map] at hn;rcases hn with rfl | ⟨t,ht,rfl⟩
    ·exact hk0
    ·obtain⟨h5,h6⟩:=hr t (List.mem_of_mem_take ht)
     have:t.toNat < c.length:=by omega
     rw[List.getD_eq_getElem?_getD,List.getElem?_eq_getElem this];exact hc _ (List.getElem_mem this))
   rw[←Zjm] at h4;simp only[List.length_append,List.length_cons,List.length_map,List.length_take,List.length_nil] at h4;omega
  rw[ht,Zfo] at hle;simp only[List.length_append,List.length_cons] at hle;simp[Z4c,Z48,Z2M,Z2a,Z2P,Z2R,Z2Q,Z4a,Z4b,Z1e,Z16,Z0c,Z0B,Z0q,Z08,Z0o,Z0h,Z09,Z0p,Z0i,Z0Y,Z0j,Z0z,Z0K,Z0k,Z0J,Z1W,Z3U,Z0X,Z25,Z22,Z24,Z23,Z26,Z1j,Z0D,Z11,Z12,Z1T,Z1U,Z1V,Z0H,Z0I,Z1i,Z0r,Z0W,Z20,Z1X,Z1Z,Z1Y,Z21,Z1k,Z13,Z1g,Z0U,Z0V,Z0C,Z1h,Z0P,Z1a,Z1f,Z14,Z1l,ex,Z00,Z0R,Z6K,Z6P,Z0f,Z0g,Z0A,Z2k,Z1d,Z10,Z0y,Z0F,Z0G,Z0E,Z0s,Z0Z,Z5y,Z0O,Z37,Z1c,Z1O,Z1R,Z3s,Z0b,Z1q,Z19,Z0Q,Z1F,Z3S,Z1P,Z6A,Z3C,Z6z,Z3w,Z2Y,Z3t,Z6w,Z3D,Z51,AV.solid,S0,Z06,Z1n,AWW,WG,ZbK,Z8v,Zbq,Eff.P0F,hI.e1,hI.e7,hI.e20,hI.e21,hI.e22,Z03,h1,hget,h2,hgc];refine Z8O.byte k hE hI.bl hH (by omega) (fun w1 b1 hH1=>?_) (c:=44) rfl
  try simp[Z4c,Z48,Z2M,Z2a,Z2P,Z2R,Z2Q,Z4a,Z4b,Z1e,Z16,Z0c,Z0B,Z0q,Z08,Z0o,Z0h,Z09,Z0p,Z0i,Z0Y,Z0j,Z0z,Z0K,Z0k,Z0J,Z1W,Z3U,Z0X,Z25,Z22,Z24,Z23,Z26,Z1j,Z0D,Z11,Z12,Z1T,Z1U,Z1V,Z0H,Z0I,Z1i,Z0r,Z0W,Z20,Z1X,Z1Z,Z1Y,Z21,Z1k,Z13,Z1g,Z0U,Z0V,Z0C,Z1h,Z0P,Z1a,Z1f,Z14,Z1l,ex,Z00,Z0R,Z6K,Z6P,Z0f,Z0g,Z0A,Z2k,Z1d,Z10,Z0y,Z0F,Z0G,Z0E,Z0s,Z0Z,Z5y,Z0O,Z37,Z1c,Z1O,Z1R,Z3s,Z0b,Z1q,Z19,Z0Q,Z1F,Z3S,Z1P,Z6A,Z3C,Z6z,Z3w,Z2Y,Z3t,Z6w,Z3D,Z51,AV.solid,S0,Z06,Z1n,AWW,WG,ZbK,Z8v,Zbq,Eff.P0F,hI.e1,hI.e7,hI.e20,hI.e21,hI.e22,Z03,h1,hget,h2,hgc]
  refine Z8O.itoa hi hE b1 hgo hGm hH1 fun w9 b9 hH9=>?_
  refine Z8O.str k hE b9 hH9 (by simp only[List.length_append,List.length_cons,List.length_nil];omega) fun w2 b2 hH2=>?_
  refine⟨row.length - (j+1),by have:=hI.hm;omega,hH2,j+1,⟨by omega,rfl,?_,?_,?_,?_,?_,?_⟩⟩
  ·simp[AF.put,Z5e,hI.e1]
  ·simp[AF.put,Z5e,hI.e7]
  ·simp[AF.put,Z5e,hI.e20]
  ·simp[AF.put,Z5e,hI.e21]
  ·simp[AF.put,Z5e,hw,Z06]
  ·rw[ht,Zfo]
   rw[List.append_assoc] at b2;exact b2
 ·have hj2:j=row.length:=by have:=hI.hj;omega
  subst hj2;have h1:¬((row.length:Int) < row.length):=by omega
  simp[Z4c,Z48,Z2M,Z2a,Z2P,Z2R,Z2Q,Z4a,Z4b,Z1e,Z16,Z0c,Z0B,Z0q,Z08,Z0o,Z0h,Z09,Z0p,Z0i,Z0Y,Z0j,Z0z,Z0K,Z0k,Z0J,Z1W,Z3U,Z0X,Z25,Z22,Z24,Z23,Z26,Z1j,Z0D,Z11,Z12,Z1T,Z1U,Z1V,Z0H,Z0I,Z1i,Z0r,Z0W,Z20,Z1X,Z1Z,Z1Y,Z21,Z1k,Z13,Z1g,Z0U,Z0V,Z0C,Z1h,Z0P,Z1a,Z1f,Z14,Z1l,ex,Z00,Z0R,Z6K,Z6P,Z0f,Z0g,Z0A,Z2k,Z1d,Z10,Z0y,Z0F,Z0G,Z0E,Z0s,Z0Z,Z5y,Z0O,Z37,Z1c,Z1O,Z1R,Z3s,Z0b,Z1q,Z19,Z0Q,Z1F,Z3S,Z1P,Z6A,Z3C,Z6z,Z3w,Z2Y,Z3t,Z6w,Z3D,Z51,AV.solid,S0,Z06,Z1n,AWW,WG,ZbK,Z8v,Zbq,Eff.P0F,hI.e1,hI.e7,hI.e20,hI.e21,hI.e22,Z03,h1];refine hQ _ _ ⟨Nat.le_refl _,by omega,?_,?_,?_,?_,?_,hI.bl⟩ hH
  ·simp[AF.put,Z5e,hI.e1]
  ·simp[AF.put,Z5e,hI.e7]
  ·simp[AF.put,Z5e,hI.e20]
  ·simp[AF.put,Z5e,hI.e21]
  ·simp[AF.put,Z5e,hI.e22]
theorem Zp5{P:Program}(hm:P.follows .mixedOrders=true){f fi fw fb fs:FuncId}{T e:TypeId}(h:Is P f (Z9k fi fw fb fs) [6] 3)(hT:Z8k P f T)(k:Zp7 P fw fb fs T e)(hi:ItK P fi Goo){d:Det}(R:Z1Q d){c:List Int}(hcl:c.length=d.next.length)
  (hc:∀n∈c,Goo n) {s:Nat} (hs:s < d.next.length):Z0t P f [Z0v d,Z03 c,Z06 s] (Zm8 (Z9X d c s)):=by
 obtain⟨fn,co,hf,hnm,hb,hcm,hr,hn⟩:=h
 have hT':Zdc co=some T:=by
  unfold Z8k at hT;rw[hf] at hT;simpa[hb] using hT
 refine Z0t.P5D (T:=T) (e:=e) (args:=[Z0v d,Z03 c,Z06 s]) (A:=vwA d c s) hm hf hnm hb hcm hT' hr hn rfl ?_ (fun E B w w0 hE hGm hH hB=>?_)
 ·simp
  refine Abs.of [] [0] (by omega) ⟨by simp,by simp⟩ ?_ ?_
  ·simp
  ·simp[vwA]
   exact .fz _ _ (.ptr 0 0 0 3 [Z0v d] (Z0v d) (by simp[only,Z0A]) (by simp) (.closed _ (Z0e d)))
 ·unfold Z9l
  have hgs:Goo (c.getD s 0):=by
   rw[List.getD_eq_getElem?_getD,List.getElem?_eq_getElem (by omega)];exact hc _ (List.getElem_mem _)
  have hsc:(c.map Z06)[s]? = some (Z06 (c.getD s 0)):=by
   rw[List.getD_eq_getElem?_getD,List.getElem?_map,List.getElem?_eq_getElem (show s < c.length by omega)];rfl
  have hrow:(d.next.map Z03)[s]? = some (Z03 (d.next.getD s [])):=by
   rw[List.getD_eq_getElem?_getD,List.getElem?_map,List.getElem?_eq_getElem hs];rfl
  have ed:(Z0v d).cells=[Z06 d.signs,Z0l d.next,Z2E d.fin]:=rfl;have es:(Z0v d).solid=true:=rfl
  have hrl:(d.next.getD s []).length≤4000:=by
   have:=R.row s hs;have:=R.s2;rw[List.getD_eq_getElem?_getD,List.getElem?_eq_getElem hs,Option.getD_some];omega
  have hra:∀t∈d.next.getD s [],0≤t∧t < c.length:=by
   intro t ht;rw[List.getD_eq_getElem?_getD,List.getElem?_eq_getElem hs,Option.getD_some] at ht;obtain⟨j,hj,rfl⟩:=List.getElem_of_mem ht;rw[hcl];exact R.at_ s hs j hj
  have hz:Z9W [c.getD s 0]=[]++Lib.itoa (c.getD s 0):=by simp[Z9W]
  have hvk:Z9W (Z9X d c s)=Z9W (c.getD s 0::((d.next.getD s []).take (d.next.getD s []).length).map fun t=>c.getD t.toNat 0):=by rw[List.take_length];rfl
  generalize hrw:d.next.getD s []=row at *
  generalize hk0:c.getD s 0=k0 at *;simp[Z4c,Z48,Z2M,Z2a,Z2P,Z2R,Z2Q,Z4a,Z4b,Z1e,Z16,Z0c,Z0B,Z0q,Z08,Z0o,Z0h,Z09,Z0p,Z0i,Z0Y,Z0j,Z0z,Z0K,Z0k,Z0J,Z1W,Z3U,Z0X,Z25,Z22,Z24,Z23,Z26,Z1j,Z0D,Z11,Z12,Z1T,Z1U,Z1V,Z0H,Z0I,Z1i,Z0r,Z0W,Z20,Z1X,Z1Z,Z1Y,Z21,Z1k,Z13,Z1g,Z0U,Z0V,Z0C,Z1h,Z0P,Z1a,Z1f,Z14,Z1l,ex,Z00,Z0R,Z6K,Z6P,Z0f,Z0g,Z0A,Z2k,Z1d,Z10,Z0y,Z0F,Z0G,Z0E,Z0s,Z0Z,Z5y,Z0O,Z37,Z1c,Z1O,Z1R,Z3s,Z0b,Z1q,Z19,Z0Q,Z1F,Z3S,Z1P,Z6A,Z3C,Z6z,Z3w,Z2Y,Z3t,Z6w,Z3D,Z51,AV.solid,S0,Z06,Z1n,AWW,WG,ZbK,Z8v,Zbq,Eff.P0F,vwA,Z1y,Z2q,Z03,hsc];refine Z8O.itoa hi hE hB hgs hGm hH fun w9 b9 hH9=>?_
  try simp[Z4c,Z48,Z2M,Z2a,Z2P,Z2R,Z2Q,Z4a,Z4b,Z1e,Z16,Z0c,Z0B,Z0q,Z08,Z0o,Z0h,Z09,Z0p,Z0i,Z0Y,Z0j,Z0z,Z0K,Z0k,Z0J,Z1W,Z3U,Z0X,Z25,Z22,Z24,Z23,Z26,Z1j,Z0D,Z11,Z12,Z1T,Z1U,Z1V,Z0H,Z0I,Z1i,Z0r,Z0W,Z20,Z1X,Z1Z,Z1Y,Z21,Z1k,Z13,Z1g,Z0U,Z0V,Z0C,Z1h,Z0P,Z1a,Z1f,Z14,Z1l,ex,Z00,Z0R,Z6K,Z6P,Z0f,Z0g,Z0A,Z2k,Z1d,Z10,Z0y,Z0F,Z0G,Z0E,Z0s,Z0Z,Z5y,Z0O,Z37,Z1c,Z1O,Z1R,Z3s,Z0b,Z1q,Z19,Z0Q,Z1F,Z3S,Z1P,Z6A,Z3C,Z6z,Z3w,Z2Y,Z3t,Z6w,Z3D,Z51,AV.solid,S0,Z06,Z1n,AWW,WG,ZbK,Z8v,Zbq,Eff.P0F,vwA,Z1y,Z2q,Z03,hsc]
  refine Z8O.str k hE b9 hH9 (by have:=ZnR hgs;simp only[List.length_nil];omega) fun w2 b2 hH2=>?_
  rw[←hz] at b2
  try simp[Z4c,Z48,Z2M,Z2a,Z2P,Z2R,Z2Q,Z4a,Z4b,Z1e,Z16,Z0c,Z0B,Z0q,Z08,Z0o,Z0h,Z09,Z0p,Z0i,Z0Y,Z0j,Z0z,Z0K,Z0k,Z0J,Z1W,Z3U,Z0X,Z25,Z22,Z24,Z23,Z26,Z1j,Z0D,Z11,Z12,Z1T,Z1U,Z1V,Z0H,Z0I,Z1i,Z0r,Z0W,Z20,Z1X,Z1Z,Z1Y,Z21,Z1k,Z13,Z1g,Z0U,Z0V,Z0C,Z1h,Z0P,Z1a,Z1f,Z14,Z1l,ex,Z00,Z0R,Z6K,Z6P,Z0f,Z0g,Z0A,Z2k,Z1d,Z10,Z0y,Z0F,Z0G,Z0E,Z0s,Z0Z,Z5y,Z0O,Z37,Z1c,Z1O,Z1R,Z3s,Z0b,Z1q,Z19,Z0Q,Z1F,Z3S,Z1P,Z6A,Z3C,Z6z,Z3w,Z2Y,Z3t,Z6w,Z3D,Z51,AV.solid,S0,Z06,Z1n,AWW,WG,ZbK,Z8v,Zbq,Eff.P0F,vwA,Z1y,Z2q,Z03,Z0l,hsc,ed,es,hrow]
  refine Zid k hi hgs hc hra hrl (w0:=w0) hE hGm (fun a w' hI hH'=>?_) ⟨Nat.zero_le _,by omega,?_,?_,?_,?_,?_,?_⟩ hH2
  ·have e7:=hI.e7
   simp[Z4c,Z48,Z2M,Z2a,Z2P,Z2R,Z2Q,Z4a,Z4b,Z1e,Z16,Z0c,Z0B,Z0q,Z08,Z0o,Z0h,Z09,Z0p,Z0i,Z0Y,Z0j,Z0z,Z0K,Z0k,Z0J,Z1W,Z3U,Z0X,Z25,Z22,Z24,Z23,Z26,Z1j,Z0D,Z11,Z12,Z1T,Z1U,Z1V,Z0H,Z0I,Z1i,Z0r,Z0W,Z20,Z1X,Z1Z,Z1Y,Z21,Z1k,Z13,Z1g,Z0U,Z0V,Z0C,Z1h,Z0P,Z1a,Z1f,Z14,Z1l,ex,Z00,Z0R,Z6K,Z6P,Z0f,Z0g,Z0A,Z2k,Z1d,Z10,Z0y,Z0F,Z0G,Z0E,Z0s,Z0Z,Z5y,Z0O,Z37,Z1c,Z1O,Z1R,Z3s,Z0b,Z1q,Z19,Z0Q,Z1F,Z3S,Z1P,Z6A,Z3C,Z6z,Z3w,Z2Y,Z3t,Z6w,Z3D,Z51,AV.solid,S0,Z06,Z1n,AWW,WG,ZbK,Z8v,Zbq,Eff.P0F,e7];have hbl:=hI.bl;rw[←hvk] at hbl;refine Z8O.string k hE hbl hH' fun w2 h2=>?_
   simp[Z8s,h2]
  ·simp[AF.put,Z5e,Z06,Z1y,Z03]
  ·simp[AF.put,Z5e,Z06]
  ·simp[AF.put,Z5e,Z06,Z03]
  ·simp[AF.put,Z5e,Z06]
  ·simp[AF.put,Z5e,Z06]
  ·simpa using b2
theorem ZlC{K:Type}[DecidableEq K][i:BEq K][LawfulBEq K](k:K)(l:List K):@List.idxOf K instBEqOfDecidableEq k l=@List.idxOf K i k l:=by
 have e:∀a b:K,(@BEq.beq K instBEqOfDecidableEq a b)=@BEq.beq K i a b:=fun a b=>by
  by_cases h:a=b
  ·exact(decide_eq_true h).trans (beq_iff_eq.mpr h).symm
  ·exact(decide_eq_false h).trans (beq_eq_false_iff_ne.mpr h).symm
 have e2:@instBEqOfDecidableEq K _=i:=by
  cases i with
  | mk f=>exact congrArg BEq.mk (funext fun a=>funext fun b=>e a b)
 rw[e2]
theorem ZcJ(l:List Int):Z0S (Zm8 l):=.v _
theorem ZuE(l:List (List Int)):∀x∈(Z2l l).2,0≤x∧x < l.length:=by
 have h:=Z6X l;intro x hx;obtain⟨i,hi,rfl⟩:=List.getElem_of_mem hx;have hil:i < l.length:=by rw[←h.len];exact hi
 have h1:=h.at_ i hil
 rw[List.getElem?_eq_getElem hi,Option.some.injEq] at h1;have h2:=List.idxOf_lt_length_iff.mpr ((h.mem l[i]).mpr (List.getElem_mem hil));have h3:=Zoc l;rw[h1];omega
theorem Zic{d:Det}(R:Z1Q d){c:List Int}(hcl:c.length=d.next.length)(hc:∀n∈c,Goo n){s:Nat}(hs:s < d.next.length):Zl7 (Z9X d c s):=by
 have hg:∀i,i < c.length→Goo (c.getD i 0):=fun i hi=>by
  rw[List.getD_eq_getElem?_getD,List.getElem?_eq_getElem hi];exact hc _ (List.getElem_mem hi)
 refine⟨by simp[Z9X],fun n hn=>?_⟩;simp only[Z9X,List.mem_cons,List.mem_map] at hn;rcases hn with rfl | ⟨t,ht,rfl⟩
 ·exact hg s (by omega)
 ·rw[List.getD_eq_getElem?_getD,List.getElem?_eq_getElem hs,Option.getD_some] at ht
  obtain⟨j,hj,rfl⟩:=List.getElem_of_mem ht;have:=R.at_ s hs j hj
  exact hg _ (by omega)
abbrev FiS:=(List (List Int)×List Int)×Bool
def fiI(d:Det)(c:List Int)(i:Nat)(s:FiS):Prop:=s.1=Z2l ((Z5T d c).take i)
def fiA(d:Det)(c:List Int)(i:Nat)(s:FiS):List (Nat×AV):=[(1,Z03 c),(2,.ptr 0 0 0),(6,.mp 1),(7,vV s.2 2 (s.1.2.map Z06)),(15,Z06 d.next.length),(16,Z06 i)]
def fiG(d:Det)(i:Nat)(s:FiS):List (Nat×Option Blk):=[(0,some (.arr 3 [Z0v d])),(1,some (.map (Z49 Zm8 0 s.1.1))),(2,vB s.2 1 (s.1.2.map Z06))]
theorem Zlx{P:Program}{fv:FuncId}{d:Det}(R:Z1Q d){c:List Int}(hcl:c.length=d.next.length)(hc:∀n∈c,Goo n)(hv:∀s:Nat,s < d.next.length→Z0t P fv [Z0v d,Z03 c,Z06 s] (Zm8 (Z9X d c s))) :
  AWb P 0 (Z7O fv) (Z75 [4,5] (FzK (.tup [Z03 (Z4T d c).2,Z06 (Z4T d c).1.length]))) (Z53 [Z0v d,Z03 c]) S0:=by
 have hn:=R.n2;simp[Z7O,ZiP];refine Z2D d.next.length (fiI d c) (fiA d c) 10 (fiG d) (([],[]),false) (by simp[fiI,Z2l]) ?_ ?_
 ·refine Abs.of [(0,0),(1,3)] [] (by omega) ⟨by simp,by simp⟩ ?_ ?_
  ·simp[fiG,Z49,Z0e]
   exact Z7Y (by simp[Zvg])
  ·simp[fiA]
 ·rintro i ⟨⟨ks,ls⟩,o⟩ hi hx
  simp only[fiI] at hx;have ok:=Z6X ((Z5T d c).take i);rw[←hx] at ok;have hvl:=Z7h d c;have hll:=ok.len;simp only[List.length_take] at hll;by_cases hlt:i < d.next.length
  ·have hxi:=hv i hlt
   have hvi:(Z5T d c)[i]'(by omega)=Z9X d c i:=by simp[Z5T]
   have hsn:Z2l ((Z5T d c).take (i+1))=Z5H (ks,ls) (Z9X d c i):=by rw[List.take_succ_eq_append_getElem (by omega),Z6G,←hx,hvi]
   have hkg:Zl7 (Z9X d c i):=Zic R hcl hc hlt
   have hks:∀k∈ks,Zl7 k:=fun k hk=>by
    have:=(ok.mem k).mp hk;have:=List.mem_of_mem_take this;simp only[Z5T,List.mem_map,List.mem_range] at this;obtain⟨j,hj,rfl⟩:=this;exact Zic R hcl hc hj
   have hok:Z1K 8 ls.length 1:=by unfold Z1K;omega
   generalize hk:Z9X d c i=k at *;have hlook:=fun(km nid:Nat) (S:St) (hg:S.g km=some (.map (Z49 Zm8 0 ks)))=>ZsE (nid:=nid) ZwH hkg hks hg
   have hlen:=fun(km nid:Nat) (S:St) (hg:S.g km=some (.map (Z49 Zm8 0 ks)))=>ZwI (nid:=nid) hg
   by_cases hin:k∈ks
   ·have hst:Z5H (ks,ls) k=(ks,ls++[(ks.idxOf k:Int)]):=by simp[Z5H,hin]
    simp[fiA,fiG,hlt];refine Z0x.pure hxi (Z01 (Z0e d) (Z01 (Z02 _) (Z01 (Z04 _) Z0a))) (ZcJ _) ?_;simp[hlook,hin,hok];rw[Z0m _ (by omega)];refine⟨hlt,((ks,ls++[(ks.idxOf k:Int)]),true),by rw[fiI,hsn,hst],Abs.of [(0,0),(1,1),(2,31)] [] (by omega) ⟨by simp,by simp⟩ ?_ ?_⟩
    ·simp[fiG,Z0e]
     exact⟨Z7Y (Z9h ZcJ _ _),by rw[ZlC]⟩
    ·simp[fiA]
   ·have hst:Z5H (ks,ls) k=(ks++[k],ls++[(ks.length:Int)]):=by simp[Z5H,hin]
    have hmset:=fun(km nid:Nat) (S:St) (hg:S.g km=some (.map (Z49 Zm8 0 ks)))=>Zq9 (nid:=nid) ZwH hkg hks hin hg
    simp[fiA,fiG,hlt];refine Z0x.pure hxi (Z01 (Z0e d) (Z01 (Z02 _) (Z01 (Z04 _) Z0a))) (ZcJ _) ?_;simp[hlook,hin,hok,hlen,hmset];rw[Z0m _ (by omega)];refine⟨hlt,((ks++[k],ls++[(ks.length:Int)]),true),by rw[fiI,hsn,hst],Abs.of [(0,0),(1,1),(2,38)] [] (by omega) ⟨by simp,by simp⟩ ?_ ?_⟩
    ·simp[fiG,Z0e]
     exact Z7Y (Z9h ZcJ _ _)
    ·simp[fiA]
  ·have hie:i=d.next.length:=by omega
   have ht:(ks,ls)=Z4T d c:=by rw[hx,List.take_of_length_le (by omega)];rfl
   have hlen:=fun(km nid:Nat) (S:St) (hg:S.g km=some (.map (Z49 Zm8 0 ks)))=>ZwI (nid:=nid) hg
   rw[←ht];simp[fiA,fiG,hie,hlen];refine .P5g (.cons (Zam ?_ (Z5L _)) (.cons (.closed _ (.v _)) .nil));simp
def clI(d:Det)(m:Nat)(s:List Int×Nat):Prop :=
 ZiE d m s.1 s.2=Z3q d∧(∃j,Zrz d j s.1)∧d.next.length < m+s.2∧s.2≤d.next.length∧s.2≤(Z4T d s.1).1.length∧∀x∈s.1,Goo x
def clA(s:List Int×Nat):List (Nat×AV):=[(1,.ptr 0 0 0),(3,Z03 s.1),(4,Z06 s.2)]
def clG(d:Det)(_:List Int×Nat):List (Nat×Option Blk):=[(0,some (.arr 3 [Z0v d]))]
theorem Zh0{P:Program}{fc ff:FuncId}{d:Det}(R:Z1Q d)(hc:Z0t P fc [Z0v d] (Z03 (Z7I d)))
  (hf:∀c:List Int,c.length=d.next.length→(∀n∈c,Goo n)→Z0t P ff [Z0v d,Z03 c] (.tup [Z03 (Z4T d c).2,Z06 (Z4T d c).1.length])) :
  AWb P 0 (Z6U fc ff) (Z75 [2] (FzK (Z03 (Z3q d)))) (Z53 [Z0v d]) S0:=by
 have hn:=R.n2;simp[Z6U];refine Z0x.pure hc (Z01 (Z0e d) Z0a) (Z02 _) ?_;simp;refine Zgz (clI d) clA 10 (clG d) (d.next.length+1) (Z7I d,0) ⟨rfl,⟨0,ZeN R⟩,by simp,by simp,by simp,fun x hx=>?_⟩ ?_ ?_
 ·simp only[Z7I,List.mem_map] at hx
  obtain⟨b,_,rfl⟩:=hx;unfold Goo;split<;>omega
 ·refine Abs.of [(0,0)] [] (by omega) ⟨by simp,by simp⟩ ?_ ?_
  ·simp[clG,Z0e]
  ·simp[clA]
 ·rintro m ⟨c,n⟩ ⟨h1,⟨j,h2⟩,h3,h4,h5,h6⟩
  simp only at h1 h2 h3 h4 h5 h6;obtain⟨a1,a2,a3,a4⟩:=ZcM R h2;obtain⟨m,rfl⟩:∃m',m=m'+1:=⟨m - 1,by omega⟩;rw[ZiE] at h1;simp[clA,clG];refine Z0x.pure (hf c h2.len h6) (Z01 (Z0e d) (Z01 (Z02 _) Z0a)) (.tup _ (Z01 (Z02 _) (Z01 (Z04 _) Z0a))) ?_;by_cases he:(Z4T d c).1.length=n
  ·rw[if_pos he] at h1
   simp[he,h1];exact .closed _ (Z02 _)
  ·rw[if_neg he] at h1
   have he':(((Z4T d c).1.length:Int) == (n:Int))=false:=by simp;omega
   simp[he'];refine⟨m,((Z4T d c).2,(Z4T d c).1.length),by omega,⟨h1,⟨_,Zba R h2⟩,by omega,a2,a1,fun x hx=>?_⟩,Abs.of [(0,0)] [] (by omega) ⟨by simp,by simp⟩ ?_ ?_⟩
   ·have:=ZuE _ x hx
    rw[Z7h] at this;exact⟨this.1,by omega⟩
   ·simp[clG,Z0e]
   ·simp[clA]
end Go.Rf
