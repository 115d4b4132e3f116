import Derived.Test.YtdmcjhnbmgmgoaaGreatDoorRfCatP
import Derived.Lib.SlicesCompact
import Derived.Lib.RowBridge
set_option linter.unusedVariables false
set_option linter.unusedSimpArgs false
set_option linter.unusedSectionVars false
namespace Go.Rf
open Go.RowKit
attribute [local simp] Z4t Z4q Z3h Z2s Z3f Z3j Z3g Z4r Z4s Z3i Z3n Z1A Z1y Z2q Z1H Z41 Z3v ZcH Z7E Z7D Z5R ZcG Z7C Z5P Z4v Z3k Z4u Z7x Z7w Z5J Z4x Z3l Z4w Z7z Z7y Z5K Z1z Z2v Z3o Z3p Z1D Z1o Z0c Z0B Z0q Z08 Z0o Z0h Z09 Z0p Z0i Z0Y Z0j Z0z Z0K Z0k Z0J Z1W Z3U Z0X Z25 Z22 Z24 Z23 Z26 Z1j Z0D Z11 Z12 Z1T Z1U Z1V Z0H Z0I Z1i Z0r Z0W Z20 Z1X Z1Z Z1Y Z21 Z1k Z13 Z1g Z0U Z0V Z0C Z1h Z0P Z1a Z1f Z14 Z1l ex Z00 Z0R Z6K Z6P Z0f Z0g Z0A Z2k Z1d Z10 Z0y Z0F Z0G Z0E Z0s Z0Z Z5y Z0O Z37 Z1c Z1O Z1R Z3s Z0b Z1E Z28 Z19 Z0Q Z2w Z27 Z3u Z2x Z1P Z6A Z3C Z6z Z3w Z2Y Z3t Z6w Z3D Z51 Z4A Z3z Z2B Z2C Z29 Z2z Z2A Z3y Z1M Z2y Z3x Z3A S0 Z06 Z1n Z39 Z34 Z56 Z38 Z33 Z55 Z44 Z36 Z43 Z6j Z5a Z6i Z59 Z45 Z58 Z2U Z72.cl Z5z.cl Z04 Z0L Z02 Z0T Z1w Z2j Z1N Z2n Z1p Z3r Z4N Z3V Z4M Z5L Z5W Z3E Z4O Z5w Z5m Z5S Z4U Z4X Z4W Z42 Z2c Z2H Z62 Z3m Z3W Z4y Z2J Z2I Z17 Z68 Z2G Z4k Z1S Z4B
def Z5t:AC :=
 (.seq (.reg none [
 ro 4 (.mv (ci 0))])
 (.seq (.reg (some [[],[],[],[],[],[],[],[],[],[false,false,false,false,false,false,false,true,true],[true],[false,true],[false,false,true],[false,false,false,true],[false,false,false,false,true],[false,false,false,false,false,true],[false,false,false,false,false,false,false,false,false,false,false,false,false,false,true,true],[],[],[],[false,false,false,false,false,false,false,false,false,false,false,false,false,false,false,false,false,false,true]]) [
 rm 5 0,
 rm 6 0,
 rm 7 0,
 ro 8 (.nilc (.t 7)),
 ro 9 (.fieldA 0 (.t 8)),
 ro 10 (.fieldA 1 (.t 9)),
 ro 11 (.load none (.t 10)),
 rm 12 1,
 ro 13 (.bslice 1 1 (.sl true []) [(0,(.t 12))]),
 ro 14 (.app 1 24 (.t 11) (.t 13)),
 rm 15 0,
 ro 16 (.nilc (.t 15)),
 ro 17 (.fieldA 0 (.t 16)),
 ro 18 (.fieldA 2 (.t 17)),
 ro 19 (.load none (.t 18)),
 ro 20 (.bslice 1 1 (.sl true []) [(0,(.c (.sl true [])))]),
 ro 21 (.app 1 24 (.t 19) (.t 20)),
 ro 22 (.nilc (.t 5)),
 ro 23 (.fieldA 0 (.t 22)),
 ro 24 (.fieldA 1 (.t 23)),
 rn (.store 1 (.t 24) (.t 14)),
 ro 25 (.nilc (.t 6)),
 ro 26 (.fieldA 0 (.t 25)),
 ro 27 (.fieldA 2 (.t 26)),
 rn (.store 1 (.t 27) (.t 21))])
 (.seq (.reg none [
 rm 28 0,
 ro 29 (.nilc (.t 28)),
 ro 30 (.fieldA 0 (.t 29)),
 ro 31 (.fieldA 1 (.t 30)),
 ro 32 (.load none (.t 31)),
 ro 33 (.len (.t 32)),
 ro 34 (.bin .sub (.t 33) (ci 1)),
 rm 4 34])
 .ret)))
def ZmZ(P00 P0n:FuncId):AC :=
 (.loop (.seq (.reg none [
  ro 11 (.bin .lss (.t 10) (.t 9))])
  (.seq (.cond (.t 11) .skip (.exit 0))
  (.seq (.block 1 (.seq (.reg none [
   ro 12 (.idxA 1 (.t 8) (.t 10)),
   ro 13 (.load none (.t 12)),
   rm 7 13])
  (.reg (some []) [
   rm 14 0,
   ro 15 (.nilc (.t 14)),
   ro 16 (.fieldA 0 (.t 15)),
   ro 17 (.fieldA 2 (.t 16)),
   ro 18 (.load none (.t 17)),
   rm 19 7,
   rm 20 0,
   ro 21 (.nilc (.t 20)),
   ro 22 (.fieldA 0 (.t 21)),
   ro 23 (.fieldA 2 (.t 22)),
   ro 24 (.load none (.t 23)),
   rm 25 7,
   ro 26 (.idxA 1 (.t 24) (.t 25)),
   ro 27 (.load none (.t 26)),
   rm 28 2,
   ro 29 (.bslice 1 2 (.sl true []) [(0,(.t 27)),(1,(.t 28))]),
   rk 30 P00 [(.t 29)],
   rk 31 P0n [(.t 30)],
   ro 32 (.idxA 1 (.t 18) (.t 19)),
   rn (.store 1 (.t 32) (.t 31))])))
  (.reg none [
  ro 33 (.bin .add (.t 10) (ci 1)),
  rm 10 33])))))
def Z5h(P00 P0n:FuncId):AC :=
 (.seq (.reg none [
 rm 8 1,
 ro 9 (.len (.t 8)),
 ro 10 (.mv (ci 0))])
 (.block 0 (ZmZ P00 P0n)))
theorem ZkS{P:Program}(hm:P.follows .mixedOrders=true){f:FuncId}(h:Is P f Z5t [4] 2)(sg:Int)(o:Bool)(b:List Int)(st:Gs)(hs:st.fo.length=st.by_.length)(hl:st.by_.length≤100000) :
  Z52 P f [Z03 b] sg o st ⟨st.by_++[b],st.fo++[[]]⟩ (Z06 st.by_.length):=by
 refine h.P2D hm rfl ?_;have ok1:Z1K 24 st.by_.length 1:=by unfold Z1K;omega
 have ok2:Z1K 24 st.fo.length 1:=by unfold Z1K;omega
 have hw:=Z0m (st.by_.length:Int) (by omega);simp[Z4t,Z4q,Z3h,Z2s,Z3f,Z3j,Z3g,Z4r,Z4s,Z3i,Z3n,Z1A,Z1y,Z2q,Z1H,Z41,Z3v,ZcH,Z7E,Z7D,Z5R,ZcG,Z7C,Z5P,Z4v,Z3k,Z4u,Z7x,Z7w,Z5J,Z4x,Z3l,Z4w,Z7z,Z7y,Z5K,Z1z,Z2v,Z3o,Z3p,Z1D,Z1o,Z0c,Z0B,Z0q,Z08,Z0o,Z0h,Z09,Z0p,Z0i,Z0Y,Z0j,Z0z,Z0K,Z0k,Z0J,Z1W,Z3U,Z0X,Z25,Z22,Z24,Z23,Z26,Z1j,Z0D,Z11,Z12,Z1T,Z1U,Z1V,Z0H,Z0I,Z1i,Z0r,Z0W,Z20,Z1X,Z1Z,Z1Y,Z21,Z1k,Z13,Z1g,Z0U,Z0V,Z0C,Z1h,Z0P,Z1a,Z1f,Z14,Z1l,ex,Z00,Z0R,Z6K,Z6P,Z0f,Z0g,Z0A,Z2k,Z1d,Z10,Z0y,Z0F,Z0G,Z0E,Z0s,Z0Z,Z5y,Z0O,Z37,Z1c,Z1O,Z1R,Z3s,Z0b,Z1E,Z28,Z19,Z0Q,Z2w,Z27,Z3u,Z2x,Z1P,Z6A,Z3C,Z6z,Z3w,Z2Y,Z3t,Z6w,Z3D,Z51,Z4A,Z3z,Z2B,Z2C,Z29,Z2z,Z2A,Z3y,Z1M,Z2y,Z3x,Z3A,S0,Z06,Z1n,Z5t,mG,Z0N,ok1,ok2,Z47,hw];refine⟨by rintro j (⟨_,rfl⟩ | rfl)<;>simp,Z6h [(4,Z06 st.by_.length)],⟨10,gOf (mG sg true ⟨st.by_++[b],st.fo++[[]]⟩ 0 3 4++[])⟩,Abs.of [(0,0),(3,13),(4,20)] [] (by omega) ⟨by simp,by simp⟩ ?_ ?_,by simp[Z6h,Z06],.of⟩
 ·simp[Z03,mG,Z0N]
  exact .loose (by simp)
 ·simp
abbrev Zvi(P:Program)(f:FuncId):Prop:=∀a b:List Int,a.length+b.length≤1000000→Z0t P f [.sl true [Z03 a,Z03 b]] (Z03 (a++b))
abbrev Zl5(P:Program)(f:FuncId):Prop:=∀l:List Int,l.length≤17592186043904→Z0t P f [Z03 l] (Z03 (Z6l l))
def nfI(ss:List Int)(k:Nat)(_:Unit):Prop:=True
def nfA(ss be:List Int)(k:Nat)(_:Unit):List (Nat×AV):=[(0,.ptr 0 0 0),(2,Z03 be),(8,Z03 ss),(9,Z06 ss.length),(10,Z06 k)]
def nfG(sg:Int)(st:Gs)(ss be:List Int)(k:Nat)(_:Unit):List (Nat×Option Blk):=mG sg true ⟨st.by_,Z6k st.fo (ss.take k) be⟩ 0 1 2
theorem Zhh{P:Program}(hm:P.follows .mixedOrders=true){f fc fs:FuncId}(h:Is P f (Z5h fc fs) [] 3)(hc:Zvi P fc)(hset:Zl5 P fs)(sg:Int)(ss be:List Int)(st:Gs)(hst:StN st)
  (hss:UpN st.by_.length ss) (hbe:UpN st.by_.length be) (hl:st.by_.length≤100000):Z52 P f [Z03 ss,Z03 be] sg true st ⟨st.by_,Z6k st.fo ss be⟩ (.tup []):=by
 refine h.P2D hm rfl ?_;have hsl:=hss.len;have hbl:=hbe.len;simp[Z5h,mG,Z0N,ZmZ];refine Z2D ss.length (nfI ss) (nfA ss be) 3 (nfG sg st ss be) () trivial ?_ ?_
 ·refine Abs.of [(0,0),(1,1),(2,2)] [] (by omega) ⟨by simp,by simp⟩ ?_ ?_
  ·simp[nfG,mG,Z0N,Z6k]
  ·simp[nfA]
 ·rintro k _ hk _
  by_cases hlt:k < ss.length
  ·have hsk:ss[k]? = some ss[k]:=List.getElem?_eq_getElem hlt
   have hsd:ss.getD k 0=ss[k]:=by rw[List.getD_eq_getElem?_getD,hsk];rfl
   have hs0:=hss.1.2 _ (List.getElem_mem hlt);have hs1:=hss.2 _ (List.getElem_mem hlt);have hfl:=Z7k (ss.take k) st.fo be;have hlen:=hst.len;have hrow:=ZfS (Zkf (ss.take k) st.fo be hst.rows hbe) (ss[k]).toNat;have hrl:=hrow.len;have hcc:=hc ((Z6k st.fo (ss.take k) be).getD (ss[k]).toNat []) be (by omega);have hss2:=hset ((Z6k st.fo (ss.take k) be).getD (ss[k]).toNat []++be) (by rw[List.length_append];omega);have htk:ss.take (k+1)=ss.take k++[ss[k]]:=by rw[List.take_add_one,hsk];rfl
   have hfs:=ZdE (ss.take k) st.fo ss[k] be;rw[←htk] at hfs;have hxl:(ss[k]).toNat < (Z6k st.fo (ss.take k) be).length:=by omega
   have hxl2:ss[k] < ((Z6k st.fo (ss.take k) be).length:Int):=by omega
   have hge:((Z6k st.fo (ss.take k) be))[(ss[k]).toNat]? = some ((Z6k st.fo (ss.take k) be).getD (ss[k]).toNat []):=by
    rw[List.getD_eq_getElem?_getD,List.getElem?_eq_getElem hxl];rfl
   have hgl:(Z6k st.fo (ss.take k) be)[(ss[k]).toNat]=(Z6k st.fo (ss.take k) be).getD (ss[k]).toNat []:=by
    rw[List.getD_eq_getElem?_getD,List.getElem?_eq_getElem hxl];rfl
   have D1:=fun n' g'=>Z5A.cd (S:=⟨n',g'⟩) hcc (Z01 (.sl _ _ (Z01 (Z02 _) (Z01 (Z02 _) Z0a))) Z0a) (Z02 _)
   have D2:=fun n' g'=>Z5A.cd (S:=⟨n',g'⟩) hss2 (Z01 (Z02 _) Z0a) (Z02 _)
   generalize hro:(Z6k st.fo (ss.take k) be).getD (ss[k]).toNat []=row at *;generalize hgx:ss[k]=x at *;generalize hff:Z6k st.fo (ss.take k) be=fo at *;simp[nfA,nfG,mG,Z0N,hlt,hgx,hff,Z47,hsd,hxl,hxl2,hs0,hge,hgl,Z2G,Z1S];refine⟨_,⟨_,D1 _ _⟩,_,⟨_,D2 _ _⟩,?_⟩;simp[Z2G,Z1S,Z1z,hxl];rw[Z0m _ (by omega)];refine⟨hlt,(),trivial,Abs.of [(0,0),(1,1),(2,2)] [] (by omega) ⟨by simp,by simp⟩ ?_ ?_⟩
   ·simp[nfG,mG,Z0N,hfs]
    rw[←List.map_set];exact .cl (Z3E _)
   ·simp[nfA]
  ·have hke:k=ss.length:=by omega
   subst hke;simp[nfA,nfG,mG,Z0N];refine⟨Z6h [],⟨10,gOf (mG sg true ⟨st.by_,Z6k st.fo ss be⟩ 0 3 4++[])⟩,Abs.of [(0,0),(3,1),(4,2)] [] (by omega) ⟨by simp,by simp⟩ ?_ ?_,.of⟩
   ·simp[mG,Z0N]
   ·simp
end Go.Rf
namespace Go.Rf
open Go.RowKit
attribute [local simp] Z4t Z4q Z3h Z2s Z3f Z3j Z3g Z4r Z4s Z3i Z3n Z1A Z1y Z2q Z1H Z41 Z3v ZcH Z7E Z7D Z5R ZcG Z7C Z5P Z4v Z3k Z4u Z7x Z7w Z5J Z4x Z3l Z4w Z7z Z7y Z5K Z1z Z2v Z3o Z3p Z1D Z1o Z0c Z0B Z0q Z08 Z0o Z0h Z09 Z0p Z0i Z0Y Z0j Z0z Z0K Z0k Z0J Z1W Z3U Z0X Z25 Z22 Z24 Z23 Z26 Z1j Z0D Z11 Z12 Z1T Z1U Z1V Z0H Z0I Z1i Z0r Z0W Z20 Z1X Z1Z Z1Y Z21 Z1k Z13 Z1g Z0U Z0V Z0C Z1h Z0P Z1a Z1f Z14 Z1l ex Z00 Z0R Z6K Z6P Z0f Z0g Z0A Z2k Z1d Z10 Z0y Z0F Z0G Z0E Z0s Z0Z Z5y Z0O Z37 Z1c Z1O Z1R Z3s Z0b Z1E Z28 Z19 Z0Q Z2w Z27 Z3u Z2x Z1P Z6A Z3C Z6z Z3w Z2Y Z3t Z6w Z3D Z51 Z4A Z3z Z2B Z2C Z29 Z2z Z2A Z3y Z1M Z2y Z3x Z3A S0 Z06 Z1n Z39 Z34 Z56 Z38 Z33 Z55 Z44 Z36 Z43 Z6j Z5a Z6i Z59 Z45 Z58 Z2U Z72.cl Z5z.cl Z04 Z0L Z02 Z0T Z1w Z2j Z1N Z2n Z1p Z3r Z4N Z3V Z4M Z5L Z5W Z3E Z4O Z5w Z5m Z5S Z4U Z4X Z4W Z42 Z2c Z2H Z62 Z3m Z3W Z4y Z2J Z2I Z17 Z68
def ZmY(P00 P0n:FuncId):AC :=
 (.reg (some []) [
   ro 18 (.fieldA 1 (.t 2)),
   ro 19 (.load none (.t 18)),
   ro 20 (.fieldA 1 (.t 4)),
   ro 21 (.load none (.t 20)),
   ro 22 (.bslice 1 2 (.sl true []) [(0,(.t 19)),(1,(.t 21))]),
   rk 23 P00 [(.t 22)],
   rk 24 P0n [(.t 23)],
   ro 25 (.fieldA 2 (.t 2)),
   ro 26 (.load none (.t 25)),
   ro 27 (.fieldA 2 (.t 4)),
   ro 28 (.load none (.t 27)),
   ro 29 (.bslice 1 2 (.sl true []) [(0,(.t 26)),(1,(.t 28))]),
   rk 30 P00 [(.t 29)],
   rk 31 P0n [(.t 30)],
   ro 32 (.fieldA 1 (.t 2)),
   rn (.store 1 (.t 32) (.t 24)),
   ro 33 (.fieldA 2 (.t 2)),
   rn (.store 1 (.t 33) (.t 31))])
def ZmX(P00 P0n:FuncId):AC :=
 (.loop (.seq (.reg none [
  ro 8 (.bin .lss (.t 7) (.t 6))])
  (.seq (.cond (.t 8) .skip (.exit 0))
  (.seq (.block 1 (.seq (.reg none [
   ro 9 (.idxA 3 (.t 5) (.t 7)),
   ro 10 (.load (some 3) (.t 9)),
   ro 4 (.alloc (.agg [(.v (.bool false)),(.sl true []),(.sl true [])]) 3),
   rn (.store 3 (.t 4) (.t 10))])
  (.seq (.reg none [
   ro 11 (.fieldA 0 (.t 2)),
   ro 12 (.load none (.t 11)),
   rm 13 12,
   rg 14 13 false (.fieldA 0 (.t 4)),
   rg 15 13 false (.load none (.t 14)),
   ro 16 (.pick (.t 13) (.c (.v (.bool true))) (.t 15)),
   ro 17 (.fieldA 0 (.t 2)),
   rn (.store 1 (.t 17) (.t 16))])
  (ZmY P00 P0n))))
  (.reg none [
  ro 34 (.bin .add (.t 7) (ci 1)),
  rm 7 34])))))
def Z7r(P00 P0n:FuncId):AC :=
 (.seq (.reg none [
 ro 2 (.alloc (.agg [(.v (.bool false)),(.sl true []),(.sl true [])]) 3)])
 (.seq (.seq (.reg none [
 rm 5 0,
 ro 6 (.len (.t 5)),
 ro 7 (.mv (ci 0))])
 (.block 0 (ZmX P00 P0n)))
 (.seq (.reg none [
 ro 35 (.load (some 3) (.t 2)),
 rn (.store 3 (.t 2) (.t 35))])
 .ret)))
def Zn0(P19:FuncId):AC :=
 (.loop (.seq (.reg none [
  ro 11 (.bin .lss (.t 10) (.t 9))])
  (.seq (.cond (.t 11) .skip (.exit 0))
  (.seq (.block 1 (.seq (.reg none [
   ro 12 (.idxA 4 (.t 8) (.t 10)),
   ro 13 (.load (some 4) (.t 12)),
   ro 7 (.alloc (.agg [(.v (.int .i64 0)),(.sl true []),(.sl true []),(.sl true [])]) 4),
   rn (.store 4 (.t 7) (.t 13))])
  (.reg none [
   rm 14 5,
   rm 15 0,
   ro 16 (.load (some 4) (.t 7)),
   rk 17 P19 [(.t 15),(.t 16)],
   ro 18 (.bslice 3 1 (.agg [(.v (.bool false)),(.sl true []),(.sl true [])]) [(0,(.t 17))]),
   ro 19 (.app 3 56 (.t 14) (.t 18)),
   rm 5 19])))
  (.reg none [
  ro 20 (.bin .add (.t 10) (ci 1)),
  rm 10 20])))))
def Z5M(P19:FuncId):AC :=
 (.seq (.reg none [
 ro 4 (.mv (.c (.sl true [])))])
 (.seq (.reg none [
 ro 5 (.mv (.c (.sl true [])))])
 (.seq (.seq (.reg none [
 rm 8 1,
 ro 9 (.len (.t 8)),
 ro 10 (.mv (ci 0))])
 (.block 0 (Zn0 P19)))
 (.seq (.reg none [
 rm 21 5,
 rm 4 21])
 .ret))))
def Zn1(P0U P00 P0n:FuncId):AC :=
 (.loop (.seq (.reg none [
  ro 12 (.bin .lss (.t 11) (.t 10))])
  (.seq (.cond (.t 12) .skip (.exit 0))
  (.seq (.block 1 (.seq (.reg none [
   ro 13 (.idxA 3 (.t 9) (.t 11)),
   ro 14 (.load (some 3) (.t 13)),
   ro 7 (.alloc (.agg [(.v (.bool false)),(.sl true []),(.sl true [])]) 3),
   rn (.store 3 (.t 7) (.t 14))])
  (.seq (.reg none [
   rm 15 0,
   ro 16 (.fieldA 2 (.t 5)),
   ro 17 (.load none (.t 16)),
   ro 18 (.fieldA 1 (.t 7)),
   ro 19 (.load none (.t 18)),
   rk 20 P0U [(.t 15),(.t 17),(.t 19)]])
  (.seq (.seq (.reg none [
   ro 21 (.fieldA 0 (.t 5)),
   ro 22 (.load none (.t 21))])
  (.cond (.t 22) (.reg none [
   ro 23 (.fieldA 1 (.t 5)),
   ro 24 (.load none (.t 23)),
   ro 25 (.fieldA 1 (.t 7)),
   ro 26 (.load none (.t 25)),
   ro 27 (.bslice 1 2 (.sl true []) [(0,(.t 24)),(1,(.t 26))]),
   rk 28 P00 [(.t 27)],
   rk 29 P0n [(.t 28)],
   ro 30 (.fieldA 1 (.t 5)),
   rn (.store 1 (.t 30) (.t 29))]) .skip))
  (.seq (.seq (.reg none [
   ro 31 (.fieldA 0 (.t 7)),
   ro 32 (.load none (.t 31)),
   ro 33 (.un .not (.t 32))])
  (.cond (.t 33) (.reg none [
   ro 34 (.fieldA 2 (.t 5)),
   rn (.store 1 (.t 34) (.c (.sl true [])))]) .skip))
  (.seq (.reg none [
   ro 35 (.fieldA 2 (.t 5)),
   ro 36 (.load none (.t 35)),
   ro 37 (.fieldA 2 (.t 7)),
   ro 38 (.load none (.t 37)),
   ro 39 (.bslice 1 2 (.sl true []) [(0,(.t 36)),(1,(.t 38))]),
   rk 40 P00 [(.t 39)],
   rk 41 P0n [(.t 40)],
   ro 42 (.fieldA 2 (.t 5)),
   rn (.store 1 (.t 42) (.t 41))])
  (.reg none [
   ro 43 (.fieldA 0 (.t 5)),
   ro 44 (.load none (.t 43)),
   rm 45 44,
   rg 46 45 true (.fieldA 0 (.t 7)),
   rg 47 45 true (.load none (.t 46)),
   ro 48 (.pick (.t 45) (.t 47) (.c (.v (.bool false)))),
   ro 49 (.fieldA 0 (.t 5)),
   rn (.store 1 (.t 49) (.t 48))])))))))
  (.reg none [
  ro 50 (.bin .add (.t 11) (ci 1)),
  rm 11 50])))))
def Z5N(P0U P00 P0n:FuncId):AC :=
 (.seq (.reg none [
 ro 4 (.alloc (.agg [(.v (.bool false)),(.sl true []),(.sl true [])]) 3)])
 (.seq (.reg none [
 ro 8 (.build (.agg [(.v (.bool false)),(.sl true []),(.sl true [])]) [(0,1)] [(0,(.c (.v (.bool true))))]),
 ro 5 (.alloc (.agg [(.v (.bool false)),(.sl true []),(.sl true [])]) 3),
 rn (.store 3 (.t 5) (.t 8))])
 (.seq (.seq (.reg none [
 rm 9 1,
 ro 10 (.len (.t 9)),
 ro 11 (.mv (ci 0))])
 (.block 0 (Zn1 P0U P00 P0n)))
 (.seq (.reg none [
 ro 51 (.load (some 3) (.t 5)),
 rn (.store 3 (.t 4) (.t 51))])
 .ret))))
def Z1r(e:Ed):AV:=.agg [Z1n e.nul,Z03 e.fst,Z03 e.lst]
theorem Z2W(e:Ed):Z0S (Z1r e):=.agg _ (Z01 (Z0L _) (Z01 (Z02 _) (Z01 (Z02 _) Z0a)))
theorem Z0n(e:Ed):(Z1r e).cells=[Z1n e.nul,Z03 e.fst,Z03 e.lst]:=rfl
theorem Z18(e:Ed):(Z1r e).solid=true:=rfl
theorem Z54(e:Ed):AV.agg [.v (.bool e.nul),Z03 e.fst,Z03 e.lst]=Z1r e:=rfl
theorem ZtH(l:List Ed):Cel 3 (l.map Z1r):=Zd4 (enc:=Z1r) (fun _=>rfl) l
theorem Zmf(l:List Ed):Cls (l.map Z1r):=Zax Z2W l
theorem Z5b(l:List Ed):Z0S (.sl false (l.map Z1r)):=.sl _ _ (Zmf l)
def ed0(b:Bool):Ed:=⟨b,[],[]⟩
def neI(_:Nat)(_:Unit):Prop:=True
def neA(es:List Ed)(k:Nat)(_:Unit):List (Nat×AV):=[(2,.ptr 0 0 0),(5,.sl false (es.map Z1r)),(6,Z06 es.length),(7,Z06 k)]
def neG(es:List Ed)(k:Nat)(_:Unit):List (Nat×Option Blk):=[(0,some (.arr 3 [Z1r (Z5G (es.take k) (ed0 false))]))]
theorem ZiN{P:Program}{fc fs:FuncId}(hc:Zvi P fc)(hset:Zl5 P fs)(es:List Ed)(hl:es.length≤100000)(he:∀e∈es,EdN 100000 e) :
  AWb P 0 (Z7r fc fs) (Z2L [.c 2 (some 3)] (FzK (Z1r (Z5G es (ed0 false))))) (Z53 [.sl false (es.map Z1r)]) S0:=by
 simp[Z7r,ZmX];refine Z2D es.length neI (neA es) 5 (neG es) () trivial ?_ ?_
 ·refine Abs.of [(0,0)] [] (by omega) ⟨by simp,by simp⟩ ?_ ?_
  ·simp[Z2G,Z4k,Z1S,Z4B,neG,Z5G,ed0,Z1r]
   exact .loose (by simp)
  ·simp[Z2G,Z4k,Z1S,Z4B,neA,Z5b]
 ·rintro k _ hk _
  by_cases hlt:k < es.length
  ·have hsk:es[k]? = some es[k]:=List.getElem?_eq_getElem hlt
   have htk:es.take (k+1)=es.take k++[es[k]]:=by rw[List.take_add_one,hsk];rfl
   have hsn:=Zci (es.take k) es[k] (ed0 false);rw[←htk] at hsn;have hek:=he _ (List.getElem_mem hlt);have hacc:=ZdI (N:=100000) (es.take k) (ed0 false) ⟨UpN.nil,UpN.nil⟩ (fun e h=>he e (List.mem_of_mem_take h));generalize hgx:es[k]=e at *;generalize hac:Z5G (es.take k) (ed0 false)=acc at *;have l1:=hek.f.len;have l2:=hek.l.len;have l3:=hacc.f.len;have l4:=hacc.l.len;have D1:=fun n' g'=>Z5A.cd (S:=⟨n',g'⟩) (hc acc.fst e.fst (by omega)) (Z01 (.sl _ _ (Z01 (Z02 _) (Z01 (Z02 _) Z0a))) Z0a) (Z02 _)
   have D2:=fun n' g'=>Z5A.cd (S:=⟨n',g'⟩) (hset (acc.fst++e.fst) (by rw[List.length_append];omega)) (Z01 (Z02 _) Z0a) (Z02 _)
   have D3:=fun n' g'=>Z5A.cd (S:=⟨n',g'⟩) (hc acc.lst e.lst (by omega)) (Z01 (.sl _ _ (Z01 (Z02 _) (Z01 (Z02 _) Z0a))) Z0a) (Z02 _)
   have D4:=fun n' g'=>Z5A.cd (S:=⟨n',g'⟩) (hset (acc.lst++e.lst) (by rw[List.length_append];omega)) (Z01 (Z02 _) Z0a) (Z02 _)
   cases hn:acc.nul <;>
   ·simp[neA,neG,hlt,hsk,hgx,hac,hn,Z0n,Z18,ZmY]
    refine⟨_,⟨_,D1 _ _⟩,_,⟨_,D2 _ _⟩,_,⟨_,D3 _ _⟩,_,⟨_,D4 _ _⟩,?_⟩;simp[Z1z,Z1M];rw[Z0m _ (by omega)];refine⟨hlt,(),trivial,Abs.of [(0,0)] [] (by omega) ⟨by simp,by simp⟩ ?_ ?_⟩
    ·simp[Z2G,Z4k,Z1S,Z4B,neG,hsn,hn,Z1r]
    ·simp[Z2G,Z4k,Z1S,Z4B,neA,Z5b]
  ·have hke:k=es.length:=by omega
   subst hke;simp[neA,neG,Z0n,Z18,Z2L,evC,RV.ev,ldC,Z1b,Z54];exact .closed _ (Z2W _)
def Zaz(P:Program)(f:FuncId)(sg:Int)(q:Pat):Prop:=∀st:Gs,StN st→st.by_.length+Z79 q≤10000→Z52 P f [Z1s q] sg true st (Z2Z sg q st).2 (Z1r (Z2Z sg q st).1)
def ngI(_:Nat)(_:Bool):Prop:=True
def ngA(sg:Int)(st:Gs)(ks:List Pat)(k:Nat)(o:Bool):List (Nat×AV):=[(0,.ptr 0 0 0),(5,vV o 5 ((Z30 sg (ks.take k) st).1.map Z1r)),(8,.sl false (ks.map Z1s)),(9,Z06 ks.length),(10,Z06 k)]
def ngG(sg:Int)(st:Gs)(ks:List Pat)(k:Nat)(o:Bool):List (Nat×Option Blk):=(5,vB o 3 ((Z30 sg (ks.take k) st).1.map Z1r))::mG sg true (Z30 sg (ks.take k) st).2 0 3 4
theorem Z2h(l:List Pat):Z0S (.sl false (l.map Z1s)):=.sl _ _ (Zax Z3M l)
theorem Z9u(sg:Int):∀(ks:List Pat) (st:Gs),(Z30 sg ks st).1.length=ks.length
 | [],st=>by simp only[Z30];rfl
 | q::qs,st=>by simp only[Z30,List.length_cons];rw[Z9u sg qs]
theorem Ztv{g:Nat→Option Blk}{R:Nat→Nat→Prop}{F:List Nat}{o:Bool}{id:Nat}{xs:List AV}(hF:id∈F)(hg:g id=vB o 3 xs)(hc:Cls xs):Z5z (only F g) R (vV o id xs) (.sl false xs):=by
 cases o with
 | true=>rw[Z2G];rw[Z1S] at hg;exact .frz hF hg rfl hc
 | false=>rw[Z4k];exact .loose hc
theorem ZpO{P:Program}(hm:P.follows .mixedOrders=true){f ff:FuncId}(h:Is P f (Z5M ff) [4] 2){sg:Int}{ks:List Pat}(hl:ks.length≤100000)(hq:∀q∈ks,Zaz P ff sg q)
  (st:Gs) (hst:StN st) (hb:st.by_.length+Z76 ks≤10000):Z52 P f [.sl false (ks.map Z1s)] sg true st (Z30 sg ks st).2 (.sl false ((Z30 sg ks st).1.map Z1r)):=by
 refine h.P2D hm rfl ?_;simp[Z5M,mG,Z0N,Zn0];refine Z2D ks.length ngI (ngA sg st ks) 10 (ngG sg st ks) false trivial ?_ ?_
 ·refine Abs.of [(0,0),(3,1),(4,2)] [] (by omega) ⟨by simp,by simp⟩ ?_ ?_
  ·simp[Z2G,Z4k,Z1S,Z4B,ngG,mG,Z0N,Z30]
  ·simp[Z2G,Z4k,Z1S,Z4B,ngA,Z30,Z2h]
 ·rintro k o hk _
  by_cases hlt:k < ks.length
  ·have hsk:ks[k]? = some ks[k]:=List.getElem?_eq_getElem hlt
   have htk:ks.take (k+1)=ks.take k++[ks[k]]:=by rw[List.take_add_one,hsk];rfl
   have hsn:=Zf1 sg (ks.take k) ks[k] st;rw[←htk] at hsn;obtain⟨n1,n2,n3⟩:=ZdH sg (ks.take k) st hst
   have hcl:Z76 (ks.take k)+Z79 ks[k]≤Z76 ks:=by
    have h1:Z76 (ks.take (k+1))≤Z76 ks:=by
     have:=Z7W (ks.take (k+1)) (ks.drop (k+1));rw[List.take_append_drop] at this;omega
    rw[htk,Z7W] at h1;simp only[Z76] at h1;omega
   have hqk:=hq _ (List.getElem_mem hlt) (Z30 sg (ks.take k) st).2 n1 (by omega);have hle:=Z9u sg (ks.take k) st;rw[List.length_take] at hle;rcases hpq:ks[k] with⟨pk,ps,pg,pks⟩
   have hok:Z1K 56 (Z30 sg (ks.take k) st).1.length 1:=by unfold Z1K;omega
   generalize hge:Z30 sg (ks.take k) st=ge at *;obtain⟨es,st1⟩:=ge;simp only at hqk hsn n1 n2 n3 hok hle;rw[hpq] at hqk hsn;simp only[Z0d,Z06] at hqk;have hcp:=Z3M (.mk pk ps pg pks);simp only[Z0d,Z06] at hcp;have hok2:Z1K 56 (es.map Z1r).length 1:=by simpa using hok
   have hol:es.length≤100000:=by omega
   simp[ngA,ngG,mG,Z0N,hge,hlt,hsk,hpq,Z0d];refine Z52.use hqk (fun _=>.cl (Z01 hcp Z0a)) (Z2W _) (id:=0) (b:=3) (c:=4) ?_ ?_ ?_ (by simp) (by simp) ?_
   ·simp[Z0N]
   ·simp
   ·simp
   simp[Z7v,hok2,hok,Z0n,ZtH,Z18];rw[Z0m _ (by omega)];refine⟨hlt,true,trivial,Abs.of [(0,0),(3,22),(4,23),(5,20)] [] (by omega) ⟨by simp,by simp⟩ ?_ ?_⟩
   ·simp[Z2G,Z4k,Z1S,Z4B,ngG,mG,Z0N,hsn,Zmf,Z2W]
   ·simp[Z2G,Z4k,Z1S,Z4B,ngA,hsn,Z2h]
  ·have hke:k=ks.length:=by omega
   subst hke;simp[ngA,ngG,mG,Z0N];refine⟨Z6h [(4,.sl false ((Z30 sg ks st).1.map Z1r))],⟨10,gOf (mG sg true (Z30 sg ks st).2 0 3 4++[])⟩,Abs.of [(0,0),(3,3),(4,4)] [5] (by omega) ⟨by simp,by simp⟩ ?_ ?_,by simp[Z6h],.of⟩
   ·simp[Z2G,Z4k,Z1S,Z4B,mG,Z0N]
   ·simp[Z2G,Z4k,Z1S,Z4B]
    exact Ztv (by simp) (by simp[gOf]) (Zmf _)
abbrev ZtL(P:Program)(f:FuncId):Prop:=∀b:List Int,b.length≤1000000→Z0t P f [.sl true [.sl true [],Z03 b]] (Z03 b)
def njI(_:Nat)(_:Unit):Prop:=True
def njA(es:List Ed)(k:Nat)(_:Unit):List (Nat×AV):=[(0,.ptr 0 0 0),(4,.ptr 5 0 0),(5,.ptr 6 0 0),(9,.sl false (es.map Z1r)),(10,Z06 es.length),(11,Z06 k)]
def njG(sg:Int)(st:Gs)(es:List Ed)(k:Nat)(_:Unit):List (Nat×Option Blk):=(5,some (.arr 3 [Z1r (ed0 false)]))::(6,some (.arr 3 [Z1r (Z61 (es.take k) (ed0 true) st).1]))::mG sg true (Z61 (es.take k) (ed0 true) st).2 0 3 4
theorem Zq0{P:Program}(hm:P.follows .mixedOrders=true){f ff fc fs:FuncId}(h:IsC P f (Z5N ff fc fs) [.c 4 (some 3)] 2)(hc:Zvi P fc)(hc0:ZtL P fc)(hset:Zl5 P fs){sg:Int}
  (hf:∀(ss be:List Int) (st:Gs),StN st→UpN st.by_.length ss→UpN st.by_.length be→st.by_.length≤100000→Z52 P ff [Z03 ss,Z03 be] sg true st ⟨st.by_,Z6k st.fo ss be⟩ (.tup []))
  (es:List Ed) (hl:es.length≤100000) (st:Gs) (hst:StN st) (he:∀e∈es,EdN st.by_.length e) (hb:st.by_.length≤10000):Z52 P f [.sl false (es.map Z1r)] sg true st (Z61 es (ed0 true) st).2 (Z1r (Z61 es (ed0 true) st).1):=by
 refine h.P2D hm rfl ?_;simp[Z5N,mG,Z0N,Zn1,Z0b,Z0w,Z1t];refine Z2D es.length njI (njA es) 10 (njG sg st es) () trivial ?_ ?_
 ·refine Abs.of [(0,0),(3,1),(4,2),(5,3),(6,5)] [] (by omega) ⟨by simp,by simp⟩ ?_ ?_
  ·simp[Z2G,Z4k,Z1S,Z4B,njG,mG,Z0N,Z61,ed0,Z1r]
   exact .loose (by simp)
  ·simp[Z2G,Z4k,Z1S,Z4B,njA,Z5b]
 ·rintro k _ hk _
  by_cases hlt:k < es.length
  ·have hsk:es[k]? = some es[k]:=List.getElem?_eq_getElem hlt
   have htk:es.take (k+1)=es.take k++[es[k]]:=by rw[List.take_add_one,hsk];rfl
   have hsn:=Zf3 (es.take k) es[k] (ed0 true) st;rw[←htk] at hsn;have hek:=he _ (List.getElem_mem hlt);obtain⟨n1,n2⟩:=ZiW (es.take k) (ed0 true) st hst ⟨UpN.nil,UpN.nil⟩ (fun e h=>he e (List.mem_of_mem_take h));have n3:=(ZcQ (es.take k) (ed0 true) st).1;generalize hgx:es[k]=e at *;generalize hac:Z61 (es.take k) (ed0 true) st=ac at *;obtain⟨acc,st1⟩:=ac;simp only at n1 n2 n3 hsn;have l1:=hek.f.len;have l2:=hek.l.len;have l3:=n2.f.len;have l4:=n2.l.len;have h1:=hf acc.lst e.fst st1 n1 (by rw[n3];exact n2.l) (by rw[n3];exact hek.f) (by rw[n3];omega);have D1:=hc acc.fst e.fst (by omega);have D2:=hset (acc.fst++e.fst) (by rw[List.length_append];omega);have D3:=hc acc.lst e.lst (by omega);have D4:=hset (acc.lst++e.lst) (by rw[List.length_append];omega);have D5:=hc0 e.lst (by omega);have D6:=hset e.lst (by omega);simp[njA,njG,mG,Z0N,hlt,hsk,hgx,hac,Z0b,Z0n,Z18];refine Z52.use h1 (fun _=>.cl (Z01 (Z02 _) (Z01 (Z02 _) Z0a))) (.tup _ (by simp)) (id:=0) (b:=3) (c:=4) ?_ ?_ ?_ (by simp) (by simp) ?_
   ·simp[Z0N]
   ·simp
   ·simp
   cases hn1:acc.nul<;>cases hn2:e.nul
   ·simp[Z7v,Z0n,Z18,hn1,hn2]
    refine Z0x.pure D5 (Z01 (.sl _ _ (Z01 (Z1p _) (Z01 (Z02 _) Z0a))) Z0a) (Z02 _) ?_;simp;refine Z0x.pure D6 (Z01 (Z02 _) Z0a) (Z02 _) ?_;simp[Z0n,Z18,Z1z,Z1M,hn1,hn2];rw[Z0m _ (by omega)];refine⟨hlt,(),trivial,Abs.of [(0,0),(3,21),(4,22),(5,5),(6,6)] [] (by omega) ⟨by simp,by simp⟩ ?_ ?_⟩
    ·simp[Z2G,Z4k,Z1S,Z4B,njG,mG,Z0N,hsn,hn1,hn2,Z1r]
    ·simp[Z2G,Z4k,Z1S,Z4B,njA,Z5b]
   ·simp[Z7v,Z0n,Z18,hn1,hn2]
    refine Z0x.pure D3 (Z01 (.sl _ _ (Z01 (Z02 _) (Z01 (Z02 _) Z0a))) Z0a) (Z02 _) ?_;simp;refine Z0x.pure D4 (Z01 (Z02 _) Z0a) (Z02 _) ?_;simp[Z0n,Z18,Z1z,Z1M,hn1,hn2];rw[Z0m _ (by omega)];refine⟨hlt,(),trivial,Abs.of [(0,0),(3,21),(4,22),(5,5),(6,6)] [] (by omega) ⟨by simp,by simp⟩ ?_ ?_⟩
    ·simp[Z2G,Z4k,Z1S,Z4B,njG,mG,Z0N,hsn,hn1,hn2,Z1r]
    ·simp[Z2G,Z4k,Z1S,Z4B,njA,Z5b]
   ·simp[Z7v,Z0n,Z18,hn1,hn2]
    refine Z0x.pure D1 (Z01 (.sl _ _ (Z01 (Z02 _) (Z01 (Z02 _) Z0a))) Z0a) (Z02 _) ?_;simp;refine Z0x.pure D2 (Z01 (Z02 _) Z0a) (Z02 _) ?_;simp[Z0n,Z18,Z1z,Z1M,hn1,hn2];refine Z0x.pure D5 (Z01 (.sl _ _ (Z01 (Z1p _) (Z01 (Z02 _) Z0a))) Z0a) (Z02 _) ?_;simp;refine Z0x.pure D6 (Z01 (Z02 _) Z0a) (Z02 _) ?_;simp[Z0n,Z18,Z1z,Z1M,hn1,hn2];rw[Z0m _ (by omega)];refine⟨hlt,(),trivial,Abs.of [(0,0),(3,21),(4,22),(5,5),(6,6)] [] (by omega) ⟨by simp,by simp⟩ ?_ ?_⟩
    ·simp[Z2G,Z4k,Z1S,Z4B,njG,mG,Z0N,hsn,hn1,hn2,Z1r]
    ·simp[Z2G,Z4k,Z1S,Z4B,njA,Z5b]
   ·simp[Z7v,Z0n,Z18,hn1,hn2]
    refine Z0x.pure D1 (Z01 (.sl _ _ (Z01 (Z02 _) (Z01 (Z02 _) Z0a))) Z0a) (Z02 _) ?_;simp;refine Z0x.pure D2 (Z01 (Z02 _) Z0a) (Z02 _) ?_;simp[Z0n,Z18,Z1z,Z1M,hn1,hn2];refine Z0x.pure D3 (Z01 (.sl _ _ (Z01 (Z02 _) (Z01 (Z02 _) Z0a))) Z0a) (Z02 _) ?_;simp;refine Z0x.pure D4 (Z01 (Z02 _) Z0a) (Z02 _) ?_;simp[Z0n,Z18,Z1z,Z1M,hn1,hn2];rw[Z0m _ (by omega)];refine⟨hlt,(),trivial,Abs.of [(0,0),(3,21),(4,22),(5,5),(6,6)] [] (by omega) ⟨by simp,by simp⟩ ?_ ?_⟩
    ·simp[Z2G,Z4k,Z1S,Z4B,njG,mG,Z0N,hsn,hn1,hn2,Z1r]
    ·simp[Z2G,Z4k,Z1S,Z4B,njA,Z5b]
  ·have hke:k=es.length:=by omega
   subst hke;simp[njA,njG,mG,Z0N,Z0n,Z18,Z86];refine⟨Z6h [(4,.ptr 5 0 0)],⟨10,gOf (mG sg true (Z61 es (ed0 true) st).2 0 3 4++[(5,some (.arr 3 [Z1r (Z61 es (ed0 true) st).1]))])⟩,Abs.of [(0,0),(3,3),(4,4),(5,5)] [] (by omega) ⟨by simp,by simp⟩ ?_ ?_,?_⟩
   ·simp[Z2G,Z4k,Z1S,Z4B,mG,Z0N,Z1r]
   ·simp[Z2G,Z4k,Z1S,Z4B]
   ·simp[Z2L,evC,RV.ev,ldC,Z1b,mG,Z0n,Z54]
    exact .of
end Go.Rf
namespace Go.Rf
open Go.RowKit
attribute [local simp] Z4t Z4q Z3h Z2s Z3f Z3j Z3g Z4r Z4s Z3i Z3n Z1A Z1y Z2q Z1H Z41 Z3v ZcH Z7E Z7D Z5R ZcG Z7C Z5P Z4v Z3k Z4u Z7x Z7w Z5J Z4x Z3l Z4w Z7z Z7y Z5K Z1z Z2v Z3o Z3p Z1D Z1o Z0c Z0B Z0q Z08 Z0o Z0h Z09 Z0p Z0i Z0Y Z0j Z0z Z0K Z0k Z0J Z1W Z3U Z0X Z25 Z22 Z24 Z23 Z26 Z1j Z0D Z11 Z12 Z1T Z1U Z1V Z0H Z0I Z1i Z0r Z0W Z20 Z1X Z1Z Z1Y Z21 Z1k Z13 Z1g Z0U Z0V Z0C Z1h Z0P Z1a Z1f Z14 Z1l ex Z00 Z0R Z6K Z6P Z0f Z0g Z0A Z2k Z1d Z10 Z0y Z0F Z0G Z0E Z0s Z0Z Z5y Z0O Z37 Z1c Z1O Z1R Z3s Z0b Z1E Z28 Z19 Z0Q Z2w Z27 Z3u Z2x Z1P Z6A Z3C Z6z Z3w Z2Y Z3t Z6w Z3D Z51 Z4A Z3z Z2B Z2C Z29 Z2z Z2A Z3y Z1M Z2y Z3x Z3A S0 Z06 Z1n Z39 Z34 Z56 Z38 Z33 Z55 Z44 Z36 Z43 Z6j Z5a Z6i Z59 Z45 Z58 Z2U Z72.cl Z5z.cl Z04 Z0L Z02 Z0T Z1w Z2j Z1N Z2n Z1p Z3r Z4N Z3V Z4M Z5L Z5W Z3E Z4O Z5w Z5m Z5S Z4U Z4X Z4W Z42 Z2c Z2H Z62 Z3m Z3W Z4y Z2J Z2I Z17 Z68 Z2G Z4k Z1S Z4B
def Z3X:AC :=
 (.seq (.reg none [
 ro 3 (.mv (.c (.v (.bool false))))])
 (.seq (.reg none [
 rm 4 0,
 ro 5 (.bin .lss (.t 4) (ci 0)),
 rm 6 5,
 rg 7 6 false (.mv (.t 0)),
 rg 8 6 false (.load none (.t 1)),
 rg 9 6 false (.nilc (.t 8)),
 rg 10 6 false (.fieldA 0 (.t 9)),
 rg 11 6 false (.fieldA 0 (.t 10)),
 rg 12 6 false (.load none (.t 11)),
 rg 13 6 false (.bin .geq (.t 7) (.t 12)),
 ro 14 (.pick (.t 6) (.c (.v (.bool true))) (.t 13)),
 rm 3 14])
 .ret))
def ZmN:AC :=
 (.loop (.seq (.seq (.reg none [
  rm 16 6,
  rm 17 0,
  ro 18 (.len (.t 17)),
  ro 19 (.bin .lss (.t 16) (.t 18))])
  (.cond (.t 19) .skip (.exit 0)))
  (.seq (.block 1 (.seq (.reg none [
   rm 22 0,
   rm 23 6,
   ro 24 (.idxA 1 (.t 22) (.t 23)),
   ro 25 (.load none (.t 24)),
   rm 7 25])
  (.seq (.reg none [
   rm 26 1,
   rm 27 7,
   ⟨(some 28),.mv (.c .junk),none,(some ((.t 26),[(.t 27)]))⟩,
   ro 29 (.un .not (.t 28))])
  (.cond (.t 29) (.seq (.reg none [
   rm 30 0,
   rm 31 5,
   rm 32 7,
   ro 33 (.idxA 1 (.t 30) (.t 31)),
   rn (.store 1 (.t 33) (.t 32))])
   (.reg none [
   rm 34 5,
   ro 35 (.bin .add (.t 34) (ci 1)),
   rm 5 35])) .skip))))
  (.reg none [
  rm 20 6,
  ro 21 (.bin .add (.t 20) (ci 1)),
  rm 6 21]))))
def Z2u(P2j:FuncId):AC :=
 (.seq (.reg none [
 ro 4 (.mv (.c (.sl true [])))])
 (.seq (.reg none [
 rm 8 0,
 rm 9 1,
 rk 10 P2j [(.t 8),(.t 9)],
 rm 5 10])
 (.seq (.seq (.reg none [
 rm 11 5,
 ro 12 (.bin .eql (.t 11) (ci (-1)))])
 (.cond (.t 12) (.seq (.reg none [
  rm 13 0,
  rm 4 13])
 .ret) .skip))
 (.seq (.seq (.reg none [
 rm 14 5,
 ro 15 (.bin .add (.t 14) (ci 1)),
 rm 6 15])
 (.block 0 ZmN))
 (.seq (.reg none [
 rm 36 0,
 rm 37 5,
 ro 38 (.slc 1 (.t 36) (some (.t 37)) none),
 rn (.clr 1 (.v (.int .i64 0)) (.t 38))])
 (.seq (.reg none [
 rm 39 0,
 rm 40 5,
 ro 41 (.slc 1 (.t 39) none (some (.t 40))),
 rm 4 41])
 .ret))))))
def kpI(sg n:Int):Bool:=decide (0≤n) && decide (n < sg)
def mCb(sg:Int):AV:=.eptr (.eptr (.agg [Z06 sg]) 0) 0
theorem Zlk(sg:Int):Z0S (mCb sg):=.eptr _ _ (.eptr _ _ (.agg _ (Z01 (Z04 _) Z0a)))
theorem ZeX{P:Program}(sg n:Int):AWb P 0 Z3X (Z75 [3] (FzK (Z1n (!kpI sg n)))) (Z53 [Z06 n,mCb sg]) S0:=by
 unfold mCb kpI;by_cases h1:n < 0
 ·have h2:¬(0≤n):=by omega
  simp[Z3X,h1,h2,Z47];exact Z2p _ _
 ·have h2:0≤n:=by omega
  by_cases h3:n < sg
  ·have h4:¬(sg≤n):=by omega
   simp[Z3X,h1,h2,h3,h4,Z47];exact Z2p _ _
  ·have h4:sg≤n:=by omega
   simp[Z3X,h1,h2,h3,h4,Z47];exact Z2p _ _
def ZbH(sg:Int)(o:Bool)(st:Gs)(l:List Int):List (Nat×Option Blk):=(4,vB o 1 (l.map Z06))::(3,some (.arr 1 [.ptr 0 0 0]))::mG sg true st 0 1 2
def Zmh(sg:Int)(o:Bool)(st:Gs)(l:List Int)(r:AV)(S':St):Prop :=
 ∃xs:List Int,(r=if o=true then .own 4 0 (l.filter (kpI sg)).length else .sl true [])∧xs.take (l.filter (kpI sg)).length=l.filter (kpI sg)∧xs.length=l.length∧S'=⟨10,gOf (ZbH sg o st xs)⟩
def dfI(sg:Int)(l:List Int)(i0 k:Nat)(s:List Int×Nat):Prop :=
 s.2=((l.take (i0+1+k)).filter (kpI sg)).length∧s.1.take s.2=(l.take (i0+1+k)).filter (kpI sg)∧s.1.drop (i0+1+k)=l.drop (i0+1+k)∧s.2 < i0+1+k∧s.1.length=l.length
def dfA(f1:FuncId)(i0:Nat)(l:List Int)(k:Nat)(s:List Int×Nat):List (Nat×AV):=[(0,.own 4 0 l.length),(1,.clo f1 [] [.ptr 3 0 0]),(5,Z06 s.2),(6,Z06 ((i0+1+k:Nat):Int))]
def dfG(sg:Int)(st:Gs)(_:Nat)(s:List Int×Nat):List (Nat×Option Blk):=ZbH sg true st s.1
theorem ZnE{g:Nat→Option Blk}{sg:Int}{v w:AV}(h0:g 0=some (.arr 4 [Z0N sg v w]))(h3:g 3=some (.arr 1 [.ptr 0 0 0])):Fz g (.ptr 3 0 0) (mCb sg) :=
 .box 3 0 1 _ _ h3 (.pre 0 4 [Z06 sg] [v,w,.sl true []] h0 (Z01 (Z04 _) Z0a))
theorem Zw3{g:Nat→Option Blk}{o:Bool}{id:Nat}{l:List Int}(hg:g id=vB o 1 (l.map Z06)):Fz g (vV o id (l.map Z06)) (Z03 l):=Zam hg (Z5L l)
theorem ZnP{X:Type}{p:X→Bool}{l:List X}(h:l.any p=false):Zep p l = -1:=by simp[Zep,h]
theorem ZkE{gF:Nat→Option Blk}{R:Nat→Nat→Prop}{f:FuncId}{i j:Nat}(h:R j i):Z5z gF R (.clo f [] [.ptr i 0 0]) (.clo f [] [.ptr j 0 0]) :=
 .clo f [] [.ptr i 0 0] [] [.ptr j 0 0] rfl rfl (fun k h1=>by simp at h1) (fun k h1 h2=>by simp at h1;subst h1;exact .ptr _ _ _ _ h)
theorem Zi6{xs:List Int}{i:Nat}{v:Int}(h:i < xs.length):(xs.set i v).take (i+1)=xs.take i++[v]:=by
 rw[List.take_add_one,List.take_set_of_le (Nat.le_refl i),List.getElem?_set_self h];rfl
theorem Zsg{P:Program}(hm:P.follows .mixedOrders=true){f fi f1:FuncId}(h:Is P f (Z2u fi) [4] 2){sg:Int}(l:List Int)(hl:l.length≤17592186043904)(o:Bool)(ho:o=true∨l=[])
  (hi:Z0t P fi [Z03 l,.clo f1 [] [mCb sg]] (Z06 (Zep (fun n=>!kpI sg n) l))) (hf:∀n,Z0t P f1 [Z06 n,mCb sg] (Z1n (!kpI sg n))) (st:Gs) :
  Z0x P f [vV o 4 (l.map Z06),.clo f1 [] [.ptr 3 0 0]] ⟨5,gOf (ZbH sg o st l)⟩ (Zmh sg o st l):=by
 refine h.P2D hm rfl ?_;have g0:gOf (ZbH sg o st l) 0=some (.arr 4 [Z0N sg (vV true 1 (st.by_.map Z03)) (vV true 2 (st.fo.map Z03))]):=by simp[ZbH,mG,gOf]
 have g3:gOf (ZbH sg o st l) 3=some (.arr 1 [.ptr 0 0 0]):=by simp[ZbH,mG,gOf]
 have g4:gOf (ZbH sg o st l) 4=vB o 1 (l.map Z06):=by simp[ZbH,mG,gOf]
 simp[Z2u];refine Z0x.looks hi (FzL.cons (Zw3 g4) (FzL.cons (.P5X (FzL.cons (ZnE g0 g3) FzL.nil)) FzL.nil)) (.v _) ?_;cases hany:l.any (fun n=>!kpI sg n) with
 | false =>
  have hfl:l.filter (kpI sg)=l:=by
   rw[List.filter_eq_self];intro x hx;have:=List.any_eq_false.mp hany x hx;simpa using this
  rw[ZnP hany];simp;refine⟨Z6h [(4,vV o 4 (l.map Z06))],⟨10,gOf (ZbH sg o st l)⟩,Abs.of [(0,0),(1,1),(2,2),(3,3),(4,4)] [] (by omega) ⟨by simp,by simp⟩ ?_ ?_,?_⟩
  ·simp[ZbH,mG,Z0N]
  ·simp
  ·refine⟨l,?_,?_,rfl,rfl⟩
   ·rw[hfl]
    rcases ho with rfl | rfl
    ·simp[Z6h,Z2G]
    ·cases o<;>simp[Z6h,Z2G,Z4k]
   ·rw[hfl,List.take_length]
 | true =>
  have ho':o=true:=by
   rcases ho with h | h
   ·exact h
   ·rw[h] at hany;simp at hany
  subst ho';have hix:Zep (fun n=>!kpI sg n) l=(l.findIdx (fun n=>!kpI sg n):Nat):=by simp only[Zep];rw[if_pos hany]
  have hfi:l.findIdx (fun n=>!kpI sg n) < l.length:=List.findIdx_lt_length.mpr (by simpa using hany)
  have hlow:∀i,i < l.findIdx (fun n=>!kpI sg n)→∀(hi:i < l.length),kpI sg l[i]=true:=fun i h1 h2=>by
   have:=List.not_of_lt_findIdx h1;simpa using this
  have hat:kpI sg (l[l.findIdx (fun n=>!kpI sg n)])=false:=by
   have:=List.findIdx_getElem (p:=fun n=>!kpI sg n) (xs:=l) (w:=hfi);simpa using this
  rw[hix];generalize l.findIdx (fun n=>!kpI sg n)=i0 at *;have hne:¬((i0:Int) = -1):=by omega
  have hne2:((i0:Int) == -1)=false:=by simp
  have hw:IntKind.i64.wrap ((i0:Int)+1)=(i0:Int)+1:=Z0m _ (by omega)
  have htf:(l.take i0).filter (kpI sg)=l.take i0:=by
   rw[List.filter_eq_self];intro x hx;obtain⟨i,hi1,rfl⟩:=List.mem_iff_getElem.mp hx;rw[List.length_take] at hi1;rw[List.getElem_take];exact hlow i (by omega) (by omega)
  have hts:l.take (i0+1)=l.take i0++[l[i0]]:=by rw[List.take_add_one,List.getElem?_eq_getElem hfi];rfl
  simp[hne,hne2,hw,Z2G,ZmN];refine Z2D (l.length - (i0+1)) (dfI sg l i0) (dfA f1 i0 l) 5 (dfG sg st) (l,i0) ?_ ?_ ?_
  ·refine⟨?_,?_,rfl,by simp,rfl⟩
   ·simp only[Nat.add_zero]
    rw[hts,List.filter_append,htf];simp[hat];omega
   ·simp only[Nat.add_zero]
    rw[hts,List.filter_append,htf];simp[hat]
  ·refine Abs.of [(0,0),(1,1),(2,2),(3,3),(4,4)] [] (by omega) ⟨by simp,by simp⟩ ?_ ?_
   ·simp[dfG,ZbH,mG,Z0N]
   ·simp[dfA]
    exact ZkE (.inl (by simp))
  ·rintro k ⟨xs,i⟩ hk ⟨e1,e2,e3,e4,e5⟩
   simp only at e1 e2 e3 e4 e5;have g0:gOf (dfG sg st k (xs,i)) 0=some (.arr 4 [Z0N sg (vV true 1 (st.by_.map Z03)) (vV true 2 (st.fo.map Z03))]):=by simp[dfG,ZbH,mG,gOf]
   have g3:gOf (dfG sg st k (xs,i)) 3=some (.arr 1 [.ptr 0 0 0]):=by simp[dfG,ZbH,mG,gOf]
   have g4:gOf (dfG sg st k (xs,i)) 4=some (.arr 1 (xs.map Z06)):=by simp[dfG,ZbH,mG,gOf,Z1S]
   by_cases hlt:i0+1+k < l.length
   ·have hltI:(i0:Int)+1+k < (l.length:Int):=by omega
    have hj0:(0:Int)≤(i0:Int)+1+k:=by omega
    have hjn:((i0:Int)+1+k).toNat=i0+1+k:=by omega
    have hxl:i0+1+k < xs.length:=by omega
    have hxk:xs[i0+1+k]? = some l[i0+1+k]:=by
     have:=congrArg (fun y=>y[0]?) e3;simp only[List.getElem?_drop,Nat.add_zero] at this;rw[this,List.getElem?_eq_getElem hlt]
    have hxk2:xs[i0+1+k]=l[i0+1+k]:=by
     have:=List.getElem?_eq_getElem hxl;rw[hxk] at this;exact(Option.some.inj this).symm
    have htk:l.take (i0+1+(k+1))=l.take (i0+1+k)++[l[i0+1+k]]:=by
     rw[show i0+1+(k+1)=i0+1+k+1 by omega,List.take_add_one,List.getElem?_eq_getElem hlt];rfl
    have hx:=hf l[i0+1+k];generalize hgv:l[i0+1+k]=v at *;cases hkv:kpI sg v with
    | false =>
     rw[hkv] at hx;simp[dfA,hltI,hj0,hjn,hxl,hxk,hxk2,e5,g4];refine Z0x.looks hx (FzL.cons (.closed _ (Z04 _)) (FzL.cons (ZnE g0 g3) FzL.nil)) (.v _) ?_;simp;rw[Z0m _ (by omega)];refine⟨by omega,(xs,i),⟨?_,?_,?_,by simp only;omega,e5⟩,Abs.of [(0,0),(1,1),(2,2),(3,3),(4,4)] [] (by omega) ⟨by simp,by simp⟩ ?_ ?_⟩
     ·simp only
      rw[htk,List.filter_append];simp[hkv,e1]
     ·simp only
      rw[htk,List.filter_append];simp[hkv,e2]
     ·simp only
      have:=congrArg (fun y=>y.drop 1) e3;simpa[List.drop_drop,Nat.add_assoc] using this
     ·simp[dfG,ZbH,mG,Z0N]
     ·simp[dfA]
      exact⟨ZkE (.inl (by simp)),by omega⟩
    | true =>
     rw[hkv] at hx;have hi0:(0:Int)≤(i:Int):=by omega
     have hiL:i < l.length:=by omega
     have hiX:i < xs.length:=by omega
     have hwi:IntKind.i64.wrap ((i:Int)+1)=(i:Int)+1:=Z0m _ (by omega);have hwj:IntKind.i64.wrap ((i0:Int)+1+k+1)=(i0:Int)+1+k+1:=Z0m _ (by omega);simp[dfA,hltI,hj0,hjn,hxl,hxk,hxk2,e5,g4];refine Z0x.looks hx (FzL.cons (.closed _ (Z04 _)) (FzL.cons (ZnE g0 g3) FzL.nil)) (.v _) ?_;simp[g4,hiL,hiX,e5,hwi,hwj];refine⟨by omega,(xs.set i v,i+1),⟨?_,?_,?_,by simp only;omega,by simp[e5]⟩,Abs.of [(0,0),(1,1),(2,2),(3,3),(4,4)] [] (by omega) ⟨by simp,by simp⟩ ?_ ?_⟩
     ·simp only
      rw[htk,List.filter_append];simp[hkv,e1]
     ·simp only
      rw[htk,List.filter_append,Zi6 hiX,e2];simp[hkv]
     ·simp only
      have:=congrArg (fun y=>y.drop 1) e3;rw[List.drop_set_of_lt (by omega)];simpa[List.drop_drop,Nat.add_assoc] using this
     ·simp[dfG,ZbH,mG,Z0N]
      rw[show AV.v (.int .i64 v)=Z06 v from rfl,←List.map_set];exact .cl (Z5L _)
     ·simp[dfA]
      exact⟨ZkE (.inl (by simp)),by omega⟩
   ·have hke:k=l.length - (i0+1):=by omega
    have hj:i0+1+k=l.length:=by omega
    have hltI:¬((i0:Int)+1+k < (l.length:Int)):=by omega
    have hiL:i≤l.length:=by omega
    have hiX:i+(l.length - i)≤xs.length:=by omega
    have hXl:l.length≤xs.length:=by omega
    have hdr:(xs.map Z06).drop l.length=[]:=by rw[List.drop_eq_nil_iff,List.length_map];omega
    simp[dfA,hltI,g4,ZaE,bnd,ZpS,hiL,hiX,hXl,hdr];rw[hj,List.take_length] at e1 e2;refine⟨Z6h [(4,.own 4 0 i)],⟨10,gOf (ZbH sg true st (xs.take i++List.replicate (l.length - i) 0))⟩,Abs.of [(0,0),(1,1),(2,2),(3,3),(4,4)] [] (by omega) ⟨by simp,by simp⟩ ?_ ?_,?_⟩
    ·simp[dfG,ZbH,mG,Z0N]
     rw[show(List.take i (List.map Z06 xs)++List.replicate (l.length - i) (AV.v (.int .i64 0)))=(xs.take i++List.replicate (l.length - i) 0).map Z06 by simp[Z06]];exact .cl (Z5L _)
    ·simp
    ·refine⟨xs.take i++List.replicate (l.length - i) 0,?_,?_,?_,rfl⟩
     ·rw[←e1];simp[Z6h]
     ·rw[←e1,List.take_append_of_le_length (by rw[List.length_take];omega),List.take_take,Nat.min_self];exact e2
     ·rw[List.length_append,List.length_take,List.length_replicate];omega
end Go.Rf
namespace Go.Rf
open Go.RowKit
attribute [local simp] Z4c Z48 Z2M Z2a Z2P Z2R Z2Q Z4a Z4b Z1e Z16 Z0c Z0B Z0q Z08 Z0o Z0h Z09 Z0p Z0i Z0Y Z0j Z0z Z0K Z0k Z0J Z1W Z3U Z0X Z25 Z22 Z24 Z23 Z26 Z1j Z0D Z11 Z12 Z1T Z1U Z1V Z0H Z0I Z1i Z0r Z0W Z20 Z1X Z1Z Z1Y Z21 Z1k Z13 Z1g Z0U Z0V Z0C Z1h Z0P Z1a Z1f Z14 Z1l ex Z00 Z0R Z6K Z6P Z0f Z0g Z0A Z2k Z1d Z10 Z0y Z0F Z0G Z0E Z0s Z0Z Z5y Z0O Z37 Z1c Z1O Z1R Z3s Z0b Z1q Z19 Z0Q Z1F Z3S Z1P Z6A Z3C Z6z Z3w Z2Y Z3t Z6w Z3D Z51 AV.solid S0 Z06 Z1n
def neB(l:List Int):Bool:=!l.isEmpty
theorem Zh2{P:Program}{fc:FuncId}(H:ByC P fc (Z32 1 8 (.v (.int .i64 0))) [.t 2] 1)(l:List Int)(hl:l.length≤17592186043904){S:St}{K:AV→St→Prop}(hg:S.g (S.n+5)=none)
  (hk:K (vV (neB l) (S.n+5) (l.map Z06)) ((St.mk (S.n+7) S.g).set (S.n+5) (vB (neB l) 1 (l.map Z06)))):Z0x P fc [Z03 l] S K:=by
 refine H rfl ?_;have hb:Z0O 1 0 (.v (.int .i64 0)) []=some (.sl true []):=Z3O _ _;by_cases h0:l=[]
 ·subst h0
  have hr:∀n nid,(Z57 1 8 (.sl true []) (.sl false [])).run ⟨n,S.g⟩ nid=some (.sl true [],⟨n,S.g⟩):=by
   intro n nid;simp[Z57,Z9f,AV.oid,Eff.run,St.P1B,St.P1P,Z1K]
  have hs:∀n,(St.mk n S.g).set (S.n+5) none=St.mk n S.g:=fun n=>by
   simp only[St.set,St.mk.injEq,true_and];funext j;simp only[Z5e];split
   ·rename_i h;subst h;exact hg.symm
   ·rfl
  simp only[neB,List.isEmpty_nil,Bool.not_true,List.map_nil,Z4k,Z4B,hs] at hk;simp[Z32,Z03,hb,hr];refine⟨[.sl true []],by simp[evC,RV.ev,Z00],?_⟩;simp[Z1b];exact hk
 ·have hn:neB l=true:=by cases l with
   | nil=>exact(h0 rfl).elim
   | cons x l=>rfl
  have hr:∀n nid,(Z57 1 8 (.sl true []) (.sl false (l.map Z06))).run ⟨n,S.g⟩ nid=some (.own nid 0 l.length,(⟨n,S.g⟩:St).set nid (some (.arr 1 (l.map Z06)))):=by
   intro n nid;have hc:=ZbQ l;have ha:Z1K 8 0 l.length:=by unfold Z1K;omega
   have hc2:∀x∈l.map Z06,x.cells.length=1:=hc;have h3:Z9f 1 [] (.sl false (l.map Z06))=some (l.map Z06):=by simp only[Z9f];rw[if_pos hc2]
   have h4:¬(l.map Z06).length=0:=by simp;exact h0
   simp only[Z57,Eff.run,AV.oid,List.mapM_nil,Option.pure_def,h3,Option.bind_some,List.length_nil,Nat.zero_add,List.length_map,ha,and_true];rw[if_pos (by simp),if_neg (by simpa using h0)];simp[St.P1B,St.P1P]
  rw[hn,Z2G,Z1S,List.length_map] at hk;simp[Z32,Z03,hb,hr];refine⟨[.own (S.n+5) 0 l.length],by simp[evC,RV.ev,Z00],?_⟩;simp[Z1b];exact hk
def Zue(o:Bool)(q k:Nat):AV:=if o=true then .own q 0 k else .sl true []
theorem ZpL{P:Program}{f f1:FuncId}{sg:Int}{o:Bool}{st:Gs}{l:List Int}(h:Z0x P f [vV o 4 (l.map Z06),.clo f1 [] [.ptr 3 0 0]] ⟨5,gOf (ZbH sg o st l)⟩ (Zmh sg o st l)){S:St}{K:AV→St→Prop}{id b c bx q:Nat}
  (h1:S.g id=some (.arr 4 [Z0N sg (.own b 0 st.by_.length) (.own c 0 st.fo.length)])) (h2:S.g b=some (.arr 1 (st.by_.map Z03))) (h3:S.g c=some (.arr 1 (st.fo.map Z03)))
  (h4:S.g bx=some (.arr 1 [.ptr id 0 0])) (h5:S.g q=vB o 1 (l.map Z06)) (hd:[(0,id),(1,b),(2,c),(3,bx),(4,q)].Pairwise fun p q=>p.1≠q.1∧p.2≠q.2) (hl:id < S.n∧b < S.n∧c < S.n∧bx < S.n∧q < S.n)
  (hk:∀xs:List Int,xs.take (l.filter (kpI sg)).length=l.filter (kpI sg)→xs.length=l.length→K (Zue o q (l.filter (kpI sg)).length) ((St.mk (S.n+5) S.g).set q (vB o 1 (xs.map Z06)))) :
  Z0x P f [vV o q (l.map Z06),.clo f1 [] [.ptr bx 0 0]] S K:=by
 refine Z0x.frame 5 [(0,id),(1,b),(2,c),(3,bx),(4,q)] (ZbH sg o st l) [vV o 4 (l.map Z06),.clo f1 [] [.ptr 3 0 0]] _ hd (by simp;omega) ?_ ?_ h ?_
 ·intro p hp
  simp only[ZbH,mG,List.mem_cons,List.not_mem_nil,or_false] at hp;rcases hp with rfl | rfl | rfl | rfl | rfl
  ·exact .inr ⟨q,by simp,by rw[h5];exact Z5m (Z5L _)⟩
  ·refine .inr ⟨bx,by simp,?_⟩
   rw[h4,Z17];exact⟨rfl,.cons (.ptr _ _ _ _ (by simp)) .nil⟩
  ·refine .inr ⟨id,by simp,?_⟩
   rw[h1,Z17];refine⟨rfl,?_⟩;simp only[Z0N,Z2c,Z2H,and_true,Z2J,Z2G,List.length_map];exact⟨.cl (Z04 _),.own _ _ _ _ (by simp),.own _ _ _ _ (by simp),.cl (Z1p _)⟩
  ·exact .inr ⟨b,by simp,by rw[h2,Z1S,Z17];exact⟨rfl,.cl (Z3E _)⟩⟩
  ·exact .inr ⟨c,by simp,by rw[h3,Z1S,Z17];exact⟨rfl,.cl (Z3E _)⟩⟩
 ·exact .cons (Z5w (by simp) (Z5L _)) (.cons (ZkE (by simp)) .nil)
 ·rintro r1 S1 hn ⟨xs,rfl,q1,q2,rfl⟩
  refine⟨Zue o q (l.filter (kpI sg)).length,_,hk xs q1 q2,?_,by simp[Z2k],fun i k hi=>?_⟩
  ·unfold Zue
   cases o with
   | true=>simp only[if_true];exact .own _ _ _ _ (.inl ⟨by omega,by simp⟩)
   | false=>simp only[Bool.false_eq_true,if_false];exact .cl (Z1p _)
  ·simp only[Z0A] at hi
   by_cases eq:i=q
   ·rw[if_pos eq] at hi
    refine .inr ⟨4,.inl ⟨by omega,by simp[eq]⟩,?_⟩;rw[←hi];simp only[ZbH,gOf,if_true];exact Z5m (Z5L _)
   rw[if_neg eq] at hi;by_cases e0:i=id
   ·refine .inr ⟨0,.inl ⟨by omega,by simp[e0]⟩,?_⟩
    rw[←hi,e0,h1];simp only[ZbH,mG,gOf,show(0:Nat)=4↔False by simp,show(0:Nat)=3↔False by simp,if_false,if_true];rw[Z17];refine⟨rfl,?_⟩;simp only[Z0N,Z2c,Z2H,and_true,Z2J,Z2G,List.length_map];exact⟨.cl (Z04 _),.own _ _ _ _ (.inl ⟨by omega,by simp⟩),.own _ _ _ _ (.inl ⟨by omega,by simp⟩),.cl (Z1p _)⟩
   by_cases e1:i=b
   ·refine .inr ⟨1,.inl ⟨by omega,by simp[e1]⟩,?_⟩
    rw[←hi,e1,h2];simp only[ZbH,mG,gOf,show(1:Nat)=4↔False by simp,show(1:Nat)=3↔False by simp,show(1:Nat)=0↔False by simp,if_false,if_true,Z1S];rw[Z17];exact⟨rfl,.cl (Z3E _)⟩
   by_cases e2:i=c
   ·refine .inr ⟨2,.inl ⟨by omega,by simp[e2]⟩,?_⟩
    rw[←hi,e2,h3];simp only[ZbH,mG,gOf,show(2:Nat)=4↔False by simp,show(2:Nat)=3↔False by simp,show(2:Nat)=0↔False by simp,show(2:Nat)=1↔False by simp,if_false,if_true,Z1S];rw[Z17];exact⟨rfl,.cl (Z3E _)⟩
   by_cases e3:i=bx
   ·refine .inr ⟨3,.inl ⟨by omega,by simp[e3]⟩,?_⟩
    rw[←hi,e3,h4];simp only[ZbH,mG,gOf,show(3:Nat)=4↔False by simp,if_false,if_true];rw[Z17];exact⟨rfl,.cons (.ptr _ _ _ _ (.inl ⟨by omega,by simp⟩)) .nil⟩
   exact .inl ⟨by simp;omega,hi⟩
theorem Zsr{o:Bool}{q:Nat}{l xs:List Int}{sg:Int}{g:Nat→Option Blk}(ho:o=true∨l=[])(hg:g q=vB o 1 (xs.map Z06))(h1:xs.take (l.filter (kpI sg)).length=l.filter (kpI sg))(h2:xs.length=l.length) :
  Fz (only [q] g) (Zue o q (l.filter (kpI sg)).length) (Z03 (l.filter (kpI sg))):=by
 unfold Zue;cases o with
 | true =>
  rw[if_pos rfl];rw[Z1S] at hg;have hle:(l.filter (kpI sg)).length≤l.length:=List.length_filter_le _ _;refine .own q 0 _ 1 (xs.map Z06) ((l.filter (kpI sg)).map Z06) (by rw[Zf8,if_pos (by simp)];exact hg) (by simp;omega) (by simp) (fun i h3 h4=>?_);have e:((xs.map Z06).drop 0).take (l.filter (kpI sg)).length=(l.filter (kpI sg)).map Z06:=by rw[List.drop_zero,←List.map_take,h1]
  simp only[e];exact .closed _ (Z5L _ _ (List.getElem_mem _))
 | false =>
  rcases ho with h | rfl
  ·cases h
  ·rw[if_neg (by simp)]
   exact .loose true [] (.sl _ _ (by simp))
theorem Zfs{P:Program}{b:Nat}{Q:Exit→AF→St→Prop}{a:AF}{S:St}{l:List SOp}:AWb P b (.regS l) Q a S=RSp P S.n l [] (nK Q) a ⟨S.n+l.length,S.g⟩:=by simp only[AWb];rw[Zrx]
end Go.Rf
namespace Go.Rf
open Go.RowKit
attribute [local simp] Z4t Z4q Z3h Z2s Z3f Z3j Z3g Z4r Z4s Z3i Z3n Z1A Z1y Z2q Z1H Z41 Z3v ZcH Z7E Z7D Z5R ZcG Z7C Z5P Z4v Z3k Z4u Z7x Z7w Z5J Z4x Z3l Z4w Z7z Z7y Z5K Z1z Z2v Z3o Z3p Z1D Z1o Z0c Z0B Z0q Z08 Z0o Z0h Z09 Z0p Z0i Z0Y Z0j Z0z Z0K Z0k Z0J Z1W Z3U Z0X Z25 Z22 Z24 Z23 Z26 Z1j Z0D Z11 Z12 Z1T Z1U Z1V Z0H Z0I Z1i Z0r Z0W Z20 Z1X Z1Z Z1Y Z21 Z1k Z13 Z1g Z0U Z0V Z0C Z1h Z0P Z1a Z1f Z14 Z1l ex Z00 Z0R Z6K Z6P Z0f Z0g Z0A Z2k Z1d Z10 Z0y Z0F Z0G Z0E Z0s Z0Z Z5y Z0O Z37 Z1c Z1O Z1R Z3s Z0b Z1E Z28 Z19 Z0Q Z2w Z27 Z3u Z2x Z1P Z6A Z3C Z6z Z3w Z2Y Z3t Z6w Z3D Z51 Z4A Z3z Z2B Z2C Z29 Z2z Z2A Z3y Z1M Z2y Z3x Z3A S0 Z06 Z1n Z39 Z34 Z56 Z38 Z33 Z55 Z44 Z36 Z43 Z6j Z5a Z6i Z59 Z45 Z58 Z2U Z72.cl Z5z.cl Z04 Z0L Z02 Z0T Z1w Z2j Z1N Z2n Z1p Z3r Z4N Z3V Z4M Z5L Z5W Z3E Z4O Z5w Z5m Z5S Z4U Z4X Z4W Z42 Z2c Z2H Z62 Z3m Z3W Z4y Z2J Z2I Z17 Z68 Z2G Z4k Z1S Z4B
def Z2t(P0p P3F P29 P0n P1U P28 P3Y P4z P0U:FuncId):AC :=
 (.seq (.reg none [
 ro 2 (.box 1 (.t 0)),
 ro 3 (.box 4 (.t 1)),
 ro 4 (.alloc (.agg [(.v (.bool false)),(.sl true []),(.sl true [])]) 3)])
 (.seq (.seq (.reg none [
 ro 8 (.fieldA 0 (.t 3)),
 ro 9 (.load none (.t 8))])
 (.block 0 (.seq (.reg none [
  ro 11 (.bin .eql (.t 9) (ci 1)),
  rm 10 11])
 (.cond (.t 10) (.seq (.reg none [
  ro 12 (.build (.agg [(.v (.bool false)),(.sl true []),(.sl true [])]) [(0,1)] [(0,(.c (.v (.bool true))))]),
  rn (.store 3 (.t 4) (.t 12))])
  .ret) (.seq (.reg none [
  ro 14 (.bin .eql (.t 9) (ci 2)),
  rm 13 14])
  (.cond (.t 13) (.seq (.regS [
   (0,⟨(some 15),.load none (.t 2),none,none⟩,[]),
   (1,⟨(some 16),.fieldA 2 (.t 3),none,none⟩,[]),
   (2,⟨(some 17),.load none (.t 16),none,none⟩,[]),
   (3,⟨(some 18),.mv (.c .junk),none,(some ((.c (.clo P0p [] [])),[(.t 17)]))⟩,[0]),
   (4,⟨(some 19),.mkf P3F [] [(.t 2)],none,none⟩,[]),
   (5,⟨(some 20),.mv (.c .junk),none,(some ((.c (.clo P29 [] [])),[(.t 18),(.t 19)]))⟩,[0]),
   (6,⟨(some 21),.mv (.c .junk),none,(some ((.c (.clo P0n [] [])),[(.t 20)]))⟩,[0]),
   (7,⟨(some 22),.mv (.c .junk),none,(some ((.c (.clo P1U [] [])),[(.t 15),(.t 21)]))⟩,[]),
   (8,⟨(some 23),.bslice 1 1 (.v (.int .i64 0)) [(0,(.t 22))],none,none⟩,[]),
   (9,⟨(some 5),.mv (.t 23),none,none⟩,[])])
  (.seq (.reg none [
   rm 24 5,
   rm 25 5,
   ro 26 (.build (.agg [(.v (.bool false)),(.sl true []),(.sl true [])]) [(0,1),(1,1),(2,1)] [(0,(.c (.v (.bool false)))),(1,(.t 24)),(2,(.t 25))]),
   rn (.store 3 (.t 4) (.t 26))])
  .ret)) (.seq (.reg none [
   ro 28 (.bin .eql (.t 9) (ci 3)),
   rm 27 28])
  (.cond (.t 27) (.seq (.regS [
   (0,⟨(some 29),.load none (.t 2),none,none⟩,[]),
   (1,⟨(some 30),.load none (.t 2),none,none⟩,[]),
   (2,⟨(some 31),.fieldA 3 (.t 3),none,none⟩,[]),
   (3,⟨(some 32),.load none (.t 31),none,none⟩,[]),
   (4,⟨(some 33),.mv (.c .junk),none,(some ((.c (.clo P28 [] [])),[(.t 30),(.t 32)]))⟩,[0]),
   (5,⟨(some 34),.mv (.c .junk),none,(some ((.c (.clo P3Y [] [])),[(.t 29),(.t 33)]))⟩,[]),
   (6,⟨none,.store 3 (.t 4) (.t 34),none,none⟩,[])])
   .ret) (.seq (.reg none [
   ro 36 (.bin .eql (.t 9) (ci 4)),
   rm 35 36])
   (.cond (.t 35) (.seq (.reg none [
    ro 37 (.load none (.t 2)),
    ro 38 (.fieldA 3 (.t 3)),
    ro 39 (.load none (.t 38)),
    rk 40 P28 [(.t 37),(.t 39)],
    rk 41 P4z [(.t 40)],
    rn (.store 3 (.t 4) (.t 41))])
   .ret) .skip))))))))))
 (.seq (.reg none [
 ro 42 (.load none (.t 2)),
 ro 43 (.fieldA 3 (.t 3)),
 ro 44 (.load none (.t 43)),
 rk 45 P28 [(.t 42),(.t 44)],
 rm 6 45])
 (.seq (.seq (.reg none [
 rm 46 6,
 ro 47 (.len (.t 46)),
 ro 48 (.bin .neq (.t 47) (ci 1)),
 rm 49 48,
 rg 50 49 false (.fieldA 0 (.t 3)),
 rg 51 49 false (.load none (.t 50)),
 rg 52 49 false (.bin .lss (.t 51) (ci 5)),
 ro 53 (.pick (.t 49) (.c (.v (.bool true))) (.t 52)),
 rm 54 53,
 rg 55 54 false (.fieldA 0 (.t 3)),
 rg 56 54 false (.load none (.t 55)),
 rg 57 54 false (.bin .gtr (.t 56) (ci 7)),
 ro 58 (.pick (.t 54) (.c (.v (.bool true))) (.t 57))])
 (.cond (.t 58) (.seq (.reg none [
  ro 59 (.build (.agg [(.v (.bool false)),(.sl true []),(.sl true [])]) [] []),
  rn (.store 3 (.t 4) (.t 59))])
 .ret) .skip))
 (.seq (.reg none [
 rm 60 6,
 ro 61 (.idxA 3 (.t 60) (ci 0)),
 ro 62 (.load (some 3) (.t 61)),
 ro 7 (.alloc (.agg [(.v (.bool false)),(.sl true []),(.sl true [])]) 3),
 rn (.store 3 (.t 7) (.t 62))])
 (.seq (.seq (.reg none [
 ro 63 (.fieldA 0 (.t 3)),
 ro 64 (.load none (.t 63)),
 ro 65 (.bin .neq (.t 64) (ci 7))])
 (.cond (.t 65) (.reg none [
  ro 66 (.load none (.t 2)),
  ro 67 (.fieldA 2 (.t 7)),
  ro 68 (.load none (.t 67)),
  ro 69 (.fieldA 1 (.t 7)),
  ro 70 (.load none (.t 69)),
  rk 71 P0U [(.t 66),(.t 68),(.t 70)]]) .skip))
 (.seq (.reg none [
 ro 72 (.fieldA 0 (.t 7)),
 ro 73 (.load none (.t 72)),
 rm 74 73,
 rg 75 74 false (.fieldA 0 (.t 3)),
 rg 76 74 false (.load none (.t 75)),
 rg 77 74 false (.bin .neq (.t 76) (ci 6)),
 ro 78 (.pick (.t 74) (.c (.v (.bool true))) (.t 77)),
 ro 79 (.fieldA 0 (.t 7)),
 rn (.store 1 (.t 79) (.t 78))])
 (.seq (.reg none [
 ro 80 (.load (some 3) (.t 7)),
 rn (.store 3 (.t 4) (.t 80))])
 .ret))))))))
structure Zjx(P:Program)(sg:Int)(ff fc f1 fd fset fst fe fj fei ffo:FuncId):Prop where
 clone:ByC P fc (Z32 1 8 (.v (.int .i64 0))) [.t 2] 1
 del:∀(l:List Int),l.length≤17592186043904→∀(o:Bool),(o=true∨l=[])→∀(st:Gs),Z0x P fd [vV o 4 (l.map Z06),.clo f1 [] [.ptr 3 0 0]] ⟨5,gOf (ZbH sg o st l)⟩ (Zmh sg o st l)
 set:Zl5 P fset
 state:∀(o:Bool) (b:List Int) (st:Gs),st.fo.length=st.by_.length→st.by_.length≤100000→Z52 P fst [Z03 b] sg o st ⟨st.by_++[b],st.fo++[[]]⟩ (Z06 st.by_.length)
 each:∀(ks:List Pat),ks.length≤100000→(∀q∈ks,Zaz P ff sg q)→∀(st:Gs),StN st→st.by_.length+Z76 ks≤10000→Z52 P fe [.sl false (ks.map Z1s)] sg true st (Z30 sg ks st).2 (.sl false ((Z30 sg ks st).1.map Z1r))
 join:∀(es:List Ed),es.length≤100000→∀(st:Gs),StN st→(∀e∈es,EdN st.by_.length e)→st.by_.length≤10000→Z52 P fj [.sl false (es.map Z1r)] sg true st (Z61 es (ed0 true) st).2 (Z1r (Z61 es (ed0 true) st).1)
 either:∀(es:List Ed),es.length≤100000→(∀e∈es,EdN 100000 e)→Z0t P fei [.sl false (es.map Z1r)] (Z1r (Z5G es (ed0 false)))
 follow:∀(ss be:List Int) (st:Gs),StN st→UpN st.by_.length ss→UpN st.by_.length be→st.by_.length≤100000→Z52 P ffo [Z03 ss,Z03 be] sg true st ⟨st.by_,Z6k st.fo ss be⟩ (.tup [])
theorem Z5l(sg:Int)(o:Bool)(st:Gs)(x:Option Blk):gOf (mG sg o st 0 3 4++[(5,x)]) 5=x:=by simp[mG,gOf]
theorem ZlA{P:Program}(hm:P.follows .mixedOrders=true){sg:Int}{ff fc f1 fd fset fst fe fj fei ffo:FuncId}(F:Zjx P sg ff fc f1 fd fset fst fe fj fei ffo)(h:IsS P ff (Z2t fc f1 fd fset fst fe fj fei ffo) [.c 4 (some 3)] 2)
  {k:Int} {ps:List Rg} {pg:List Int} {ks:List Pat} (hks:ks.length≤100000) (hpg:pg.length≤17592186043904) (hq:∀q∈ks,Zaz P ff sg q):Zaz P ff sg (.mk k ps pg ks):=by
 intro st hst hb;have hbl:st.by_.length≤10000:=by omega
 have hF:∀(d:Option Nat) (a:AF),a 2=.ptr 3 0 0→Fq ⟨d,.load none (.t 2),none,none⟩ a=[3]:=fun d a h=>ZrB none (.t 2) 3 0 0 (by simpa[Z6K] using h)
 refine h.P2D hm rfl ?_;by_cases k1:k=1
 ·subst k1
  have hres:Z2Z sg (.mk 1 ps pg ks) st=(⟨true,[],[]⟩,st):=by simp[Z2Z]
  simp[Z2t,Z0d,mG,Z0N,Z0b,Z0w,Z1t,Z86];refine⟨Z6h [(4,.ptr 5 0 0)],⟨10,gOf (mG sg true st 0 3 4++[(5,some (.arr 3 [Z1r ⟨true,[],[]⟩]))])⟩,Abs.of [(0,0),(3,1),(4,2),(5,5)] [] (by omega) ⟨by simp,by simp⟩ ?_ ?_,?_⟩
  ·simp[mG,Z0N,Z1r]
   exact .loose (by simp)
  ·simp
  ·simp[Z2L,evC,RV.ev,ldC,Z1b,Z5l,Z0n,Z54,hres]
   first | exact .of | exact⟨rfl,.of⟩
 have k1':(k == 1)=false:=by simpa using k1
 by_cases k2:k=2
 ·subst k2
  have hres:Z2Z sg (.mk 2 ps pg ks) st=(⟨false,[(st.by_.length:Int)],[(st.by_.length:Int)]⟩,⟨st.by_++[ZaG sg pg],st.fo++[[]]⟩):=by simp[Z2Z]
  have ho:neB pg=true∨pg=[]:=by cases pg<;>simp[neB]
  have hfl:(pg.filter (kpI sg)).length≤pg.length:=List.length_filter_le _ _;simp[Z2t,Z0d,mG,Z0N,Z0b,Zfs,Zin,Zmq,Zgb,Zfw,Zdp,k1,k1'];refine Zh2 F.clone pg (by omega) (by simp[Z2G,Z1S]) ?_;refine⟨(by simp[Zjw,hF,Z00,Z0A,Z94]),?_⟩;refine ZpL (F.del pg (by omega) (neB pg) ho st) (id:=0) (b:=1) (c:=2) (bx:=3) (q:=27) (by simp[Z0N,Z2G]) (by simp[Z2G,Z1S]) (by simp[Z2G,Z1S]) (by simp[Z2G,Z1S]) (by simp[Z2G,Z1S]) (by simp) (by simp[Z2k]) ?_;intro xs hx1 hx2;refine⟨(by simp[Zjw,hF,Z00,Z0A,Z94]),?_⟩;refine Z0x.gives [27] (F.set (pg.filter (kpI sg)) (by omega)) (FzL.cons (Zsr ho (by simp[Z2G,Z1S]) hx1 hx2) FzL.nil) (Z02 _) ?_;refine⟨(by simp[Zjw,hF,Z00,Z0A,Z94]),?_⟩;refine Z52.use (F.state true (ZaG sg pg) st hst.len (by omega)) (fun _=>.cl (Z01 (Z02 _) Z0a)) (Z04 _) (id:=0) (b:=1) (c:=2) (by simp[Z0N,Z94,Z2G]) (by simp[Z94,Z1S]) (by simp[Z94,Z1S]) (by simp) (by simp[Zrl]) ?_;simp[Zfs,Zin,Zmq,Zgb,Zfw,Zdp,Zjw,Z7v,Z94,Zrl,Z0w,Z1t];refine⟨Z6h [(4,.ptr 5 0 0)],⟨10,gOf (mG sg true ⟨st.by_++[ZaG sg pg],st.fo++[[]]⟩ 0 3 4++[(5,some (.arr 3 [Z1r ⟨false,[(st.by_.length:Int)],[(st.by_.length:Int)]⟩]))])⟩,Abs.of [(0,0),(3,34),(4,35),(5,5)] [] (by omega) ⟨by simp,by simp⟩ ?_ ?_,?_⟩
  ·simp[mG,Z0N,Z1r]
   exact .loose (Z01 (Z3r _) Z0a)
  ·simp
  ·simp[Z2L,evC,RV.ev,ldC,Z1b,Z5l,Z0n,Z54,hres]
   first | exact .of | exact⟨rfl,.of⟩
 have k2':(k == 2)=false:=by simpa using k2
 have hE:=F.each ks hks hq st hst (by simp only[Z79] at hb;rw[if_neg k1,if_neg k2] at hb;exact hb);obtain⟨n1,n2,n3⟩:=ZdH sg ks st hst;have hcn:Z79 (.mk k ps pg ks)=Z76 ks:=by simp only[Z79];rw[if_neg k1,if_neg k2]
 have hel:=Z9u sg ks st;by_cases k3:k=3
 ·subst k3
  have hres:Z2Z sg (.mk 3 ps pg ks) st=Z61 (Z30 sg ks st).1 (ed0 true) (Z30 sg ks st).2:=by simp[Z2Z,ed0]
  simp[Z2t,Z0d,mG,Z0N,Z0b,Zfs,Zin,Zmq,Zgb,Zfw,Zdp,k1,k1',k2,k2'];refine Z52.use hE (fun _=>.cl (Z01 (Z2h ks) Z0a)) (Z5b _) (id:=0) (b:=1) (c:=2) (by simp[Z0N,Z2G]) (by simp[Z2G,Z1S]) (by simp[Z2G,Z1S]) (by simp) (by simp) ?_;refine⟨(by simp[Zjw,hF,Z00,Z0A,Z7v]),?_⟩;refine Z52.use (F.join _ (by omega) _ n1 n2 (by omega)) (fun _=>.cl (Z01 (Z5b _) Z0a)) (Z2W _) (id:=0) (b:=21) (c:=22) (by simp[Z0N,Z7v,Z2G]) (by simp[Z7v,Z1S]) (by simp[Z7v,Z1S]) (by simp) (by simp[Z7v,Z1S]) ?_;simp[Zjw,Z7v,Z0n,Z18];refine⟨Z6h [(4,.ptr 5 0 0)],⟨10,gOf (mG sg true (Z61 (Z30 sg ks st).1 (ed0 true) (Z30 sg ks st).2).2 0 3 4++[(5,some (.arr 3 [Z1r (Z61 (Z30 sg ks st).1 (ed0 true) (Z30 sg ks st).2).1]))])⟩,Abs.of [(0,0),(3,28),(4,29),(5,5)] [] (by omega) ⟨by simp,by simp⟩ ?_ ?_,?_⟩
  ·simp[mG,Z0N,Z1r]
  ·simp
  ·simp[Z2L,evC,RV.ev,ldC,Z1b,Z5l,Z0n,Z54,hres]
   first | exact .of | exact⟨rfl,.of⟩
 have k3':(k == 3)=false:=by simpa using k3
 by_cases k4:k=4
 ·subst k4
  have hres:Z2Z sg (.mk 4 ps pg ks) st=(Z5G (Z30 sg ks st).1 (ed0 false),(Z30 sg ks st).2):=by simp[Z2Z,ed0]
  simp[Z2t,Z0d,mG,Z0N,Z0b,k1,k1',k2,k2',k3,k3'];refine Z52.use hE (fun _=>.cl (Z01 (Z2h ks) Z0a)) (Z5b _) (id:=0) (b:=1) (c:=2) (by simp[Z0N,Z2G]) (by simp[Z2G,Z1S]) (by simp[Z2G,Z1S]) (by simp) (by simp) ?_;simp[Z7v];refine Z0x.pure (F.either _ (by omega) (fun e he=>(n2 e he).mono (by omega))) (Z01 (Z5b _) Z0a) (Z2W _) ?_;simp[Z0n,Z18,Z0N];refine⟨Z6h [(4,.ptr 5 0 0)],⟨10,gOf (mG sg true (Z30 sg ks st).2 0 3 4++[(5,some (.arr 3 [Z1r (Z5G (Z30 sg ks st).1 (ed0 false))]))])⟩,Abs.of [(0,0),(3,22),(4,23),(5,5)] [] (by omega) ⟨by simp,by simp⟩ ?_ ?_,?_⟩
  ·simp[mG,Z0N,Z1r]
  ·simp
  ·simp[Z2L,evC,RV.ev,ldC,Z1b,Z5l,Z0n,Z54,hres]
   first | exact .of | exact⟨rfl,.of⟩
 have k4':(k == 4)=false:=by simpa using k4
 ·have hres:Z2Z sg (.mk k ps pg ks) st=ZbF (Z30 sg ks st).1 k (Z30 sg ks st).2:=by simp[Z2Z,k1,k2,k3,k4]
  simp[Z2t,Z0d,mG,Z0N,Z0b,k1,k1',k2,k2',k3,k3',k4,k4'];refine Z52.use hE (fun _=>.cl (Z01 (Z2h ks) Z0a)) (Z5b _) (id:=0) (b:=1) (c:=2) (by simp[Z0N,Z2G]) (by simp[Z2G,Z1S]) (by simp[Z2G,Z1S]) (by simp) (by simp) ?_;have hle:=Z9u sg ks st;generalize hge:Z30 sg ks st=ge at *;obtain⟨es,st1⟩:=ge;simp only at n1 n2 n3 hle hres ⊢;by_cases hk1:es.length=1
  ·obtain⟨e,rfl⟩:=List.length_eq_one_iff.mp hk1
   have he:=n2 e (by simp);by_cases h57:5≤k∧k≤7
   ·have a1:¬k < 5:=by omega
    have a2:¬7 < k:=by omega
    have hres2:Z2Z sg (.mk k ps pg ks) st=(⟨e.nul || decide (k≠6),e.fst,e.lst⟩,if k=7 then st1 else ⟨st1.by_,Z6k st1.fo e.lst e.fst⟩):=by rw[hres];simp only[ZbF];rw[if_pos h57]
    by_cases h7:k=7
    ·subst h7
     rw[if_pos rfl] at hres2;have hdk:(e.nul || decide ((7:Int)≠6))=true:=by simp
     rw[hdk] at hres2;cases hn:e.nul
     ·simp[Z7v,Z0N,Z0b,Z0n,Z18,hn]
      refine⟨Z6h [(4,.ptr 5 0 0)],⟨10,gOf (mG sg true st1 0 3 4++[(5,some (.arr 3 [Z1r ⟨true,e.fst,e.lst⟩]))])⟩,Abs.of [(0,0),(3,21),(4,22),(5,5)] [] (by omega) ⟨by simp,by simp⟩ ?_ ?_,?_⟩
      ·simp[mG,Z0N,Z1r]
      ·simp
      ·simp[Z2L,evC,RV.ev,ldC,Z1b,Z5l,Z0n,Z54,hres2]
       first | exact .of | exact⟨rfl,.of⟩
     ·simp[Z7v,Z0N,Z0b,Z0n,Z18,hn]
      refine⟨Z6h [(4,.ptr 5 0 0)],⟨10,gOf (mG sg true st1 0 3 4++[(5,some (.arr 3 [Z1r ⟨true,e.fst,e.lst⟩]))])⟩,Abs.of [(0,0),(3,21),(4,22),(5,5)] [] (by omega) ⟨by simp,by simp⟩ ?_ ?_,?_⟩
      ·simp[mG,Z0N,Z1r]
      ·simp
      ·simp[Z2L,evC,RV.ev,ldC,Z1b,Z5l,Z0n,Z54,hres2]
       first | exact .of | exact⟨rfl,.of⟩
    ·have h7':(k == 7)=false:=by simpa using h7
     have h7'':(k != 7)=true:=by simpa using h7
     rw[if_neg h7] at hres2;have hfo:=F.follow e.lst e.fst st1 n1 he.l he.f (by omega);simp[Z7v,Z0N,Z0b,Z0n,Z18,a1,a2,h7,h7',h7''];refine Z52.use hfo (fun _=>.cl (Z01 (Z02 _) (Z01 (Z02 _) Z0a))) (.tup _ (by simp)) (id:=0) (b:=21) (c:=22) (by simp[Z0N,Z2G]) (by simp[Z1S]) (by simp[Z1S]) (by simp) (by simp) ?_;cases hn:e.nul
     ·by_cases h6:k=6
      ·subst h6
       have hdk:(e.nul || decide ((6:Int)≠6))=false:=by simp[hn]
       rw[hdk] at hres2;simp[Z7v,Z0N,Z0n,Z18,hn];refine⟨Z6h [(4,.ptr 5 0 0)],⟨10,gOf (mG sg true ⟨st1.by_,Z6k st1.fo e.lst e.fst⟩ 0 3 4++[(5,some (.arr 3 [Z1r ⟨false,e.fst,e.lst⟩]))])⟩,Abs.of [(0,0),(3,55),(4,56),(5,5)] [] (by omega) ⟨by simp,by simp⟩ ?_ ?_,?_⟩
       ·simp[mG,Z0N,Z1r]
       ·simp
       ·simp[Z2L,evC,RV.ev,ldC,Z1b,Z5l,Z0n,Z54,hres2]
        first | exact .of | exact⟨rfl,.of⟩
      ·have h6':(k != 6)=true:=by simpa using h6
       have hdk:(e.nul || decide (k≠6))=true:=by simp[h6]
       rw[hdk] at hres2;simp[Z7v,Z0N,Z0n,Z18,hn,h6,h6'];refine⟨Z6h [(4,.ptr 5 0 0)],⟨10,gOf (mG sg true ⟨st1.by_,Z6k st1.fo e.lst e.fst⟩ 0 3 4++[(5,some (.arr 3 [Z1r ⟨true,e.fst,e.lst⟩]))])⟩,Abs.of [(0,0),(3,55),(4,56),(5,5)] [] (by omega) ⟨by simp,by simp⟩ ?_ ?_,?_⟩
       ·simp[mG,Z0N,Z1r]
       ·simp
       ·simp[Z2L,evC,RV.ev,ldC,Z1b,Z5l,Z0n,Z54,hres2]
        first | exact .of | exact⟨rfl,.of⟩
     ·have hdk:(e.nul || decide (k≠6))=true:=by simp[hn]
      rw[hdk] at hres2;simp[Z7v,Z0N,Z0n,Z18,hn];refine⟨Z6h [(4,.ptr 5 0 0)],⟨10,gOf (mG sg true ⟨st1.by_,Z6k st1.fo e.lst e.fst⟩ 0 3 4++[(5,some (.arr 3 [Z1r ⟨true,e.fst,e.lst⟩]))])⟩,Abs.of [(0,0),(3,55),(4,56),(5,5)] [] (by omega) ⟨by simp,by simp⟩ ?_ ?_,?_⟩
      ·simp[mG,Z0N,Z1r]
      ·simp
      ·simp[Z2L,evC,RV.ev,ldC,Z1b,Z5l,Z0n,Z54,hres2]
       first | exact .of | exact⟨rfl,.of⟩
   ·have hres2:Z2Z sg (.mk k ps pg ks) st=(⟨false,[],[]⟩,st1):=by rw[hres];simp only[ZbF];rw[if_neg h57]
    by_cases h5:k < 5
    ·simp[Z7v,Z0N,h5,Z0w,Z1t]
     refine⟨Z6h [(4,.ptr 5 0 0)],⟨10,gOf (mG sg true st1 0 3 4++[(5,some (.arr 3 [Z1r ⟨false,[],[]⟩]))])⟩,Abs.of [(0,0),(3,21),(4,22),(5,5)] [] (by omega) ⟨by simp,by simp⟩ ?_ ?_,?_⟩
     ·simp[mG,Z0N,Z1r]
      exact .loose (by simp)
     ·simp
     ·simp[Z2L,evC,RV.ev,ldC,Z1b,Z5l,Z0n,Z54,hres2]
      first | exact .of | exact⟨rfl,.of⟩
    ·have h7:7 < k:=by omega
     simp[Z7v,Z0N,h5,h7,Z0w,Z1t];refine⟨Z6h [(4,.ptr 5 0 0)],⟨10,gOf (mG sg true st1 0 3 4++[(5,some (.arr 3 [Z1r ⟨false,[],[]⟩]))])⟩,Abs.of [(0,0),(3,21),(4,22),(5,5)] [] (by omega) ⟨by simp,by simp⟩ ?_ ?_,?_⟩
     ·simp[mG,Z0N,Z1r]
      exact .loose (by simp)
     ·simp
     ·simp[Z2L,evC,RV.ev,ldC,Z1b,Z5l,Z0n,Z54,hres2]
      first | exact .of | exact⟨rfl,.of⟩
  ·have hne:((es.length:Int) == 1)=false:=by simp;omega
   have hne2:¬((es.length:Int)=1):=by omega
   have hres2:Z2Z sg (.mk k ps pg ks) st=(⟨false,[],[]⟩,st1):=by
    rw[hres]
    match es,hk1 with
    | [],_=>rfl
    | _::_::_,_=>rfl
   have hne3:((es.length:Int) != 1)=true:=by simp;omega
   simp[Z7v,Z0N,hk1,hne,hne2,hne3,Z0w,Z1t];refine⟨Z6h [(4,.ptr 5 0 0)],⟨10,gOf (mG sg true st1 0 3 4++[(5,some (.arr 3 [Z1r ⟨false,[],[]⟩]))])⟩,Abs.of [(0,0),(3,21),(4,22),(5,5)] [] (by omega) ⟨by simp,by simp⟩ ?_ ?_,?_⟩
   ·simp[mG,Z0N,Z1r]
    exact .loose (by simp)
   ·simp
   ·simp[Z2L,evC,RV.ev,ldC,Z1b,Z5l,Z0n,Z54,hres2]
    first | exact .of | exact⟨rfl,.of⟩
end Go.Rf
namespace Go.Rf
open Go.RowKit
def Zd3(most:Int):Int→List Int→Int
 | s,[]=>s
 | s,w::ws=>if s≤most then Zd3 most (s+w) ws else s
theorem ZoU{most B M:Int}(hM:most+B≤M):∀{ws:List Int} {s:Int},(∀w∈ws,0≤w∧w≤B)→s≤M→s≤Zd3 most s ws∧Zd3 most s ws≤M
 | [],s,_,hs=>⟨Int.le_refl _,hs⟩
 | w::ws,s,h,hs=>by
  have hw:=h w (by simp);simp only[Zd3];split
  ·have:=ZoU hM (ws:=ws) (s:=s+w) (fun x hx=>h x (by simp[hx])) (by omega)
   omega
  ·exact⟨Int.le_refl _,hs⟩
theorem ZkT{most:Int}:∀{ws:List Int} {s:Int},(∀w∈ws,0≤w)→Zd3 most s ws≤most→s≤most∧(∀w∈ws,w≤most - s)∧s+ws.sum≤most
 | [],s,_,h=>by simp only[Zd3] at h;simp;exact h
 | w::ws,s,h0,h=>by
  simp only[Zd3] at h;have hw:=h0 w (by simp);split at h
  ·rename_i hs
   obtain⟨h1,h2,h3⟩:=ZkT (ws:=ws) (s:=s+w) (fun x hx=>h0 x (by simp[hx])) h;refine⟨hs,fun x hx=>?_,by simp;omega⟩;rcases List.mem_cons.mp hx with rfl | hx
   ·omega
   ·have:=h2 x hx;omega
  ·omega
theorem ZoV{most s:Int}{ws:List Int}{i:Nat}(h:i < ws.length)(hs:s≤most):Zd3 most s (ws.drop i)=Zd3 most (s+ws[i]) (ws.drop (i+1)):=by
 rw[List.drop_eq_getElem_cons h,Zd3,if_pos hs]
theorem ZoX{most s:Int}{ws:List Int}(hs:¬s≤most):Zd3 most s ws=s:=by cases ws with
 | nil=>rfl
 | cons w ws=>rw[Zd3,if_neg hs]
theorem ZoY:∀(ws:List Int),(∀w∈ws,1≤w)→(ws.length:Int)≤ws.sum
 | [],_=>by simp
 | w::ws,h=>by have:=ZoY ws (fun x hx=>h x (by simp[hx]));have:=h w (by simp);simp;omega
mutual
def Zcx:Pat→Prop
 | .mk _ s g ks=>Len s∧g.length≤17592186043904∧Len ks∧Z9v ks
def Z9v:List Pat→Prop
 | []=>True
 | p::ps=>Zcx p∧Z9v ps
end
theorem Z9v.mem:∀{ks:List Pat},Z9v ks→∀q∈ks,Zcx q
 | [],_,q,h=>by simp at h
 | p::ps,h,q,hq=>by
  simp only[Z9v] at h;rcases List.mem_cons.mp hq with rfl | hq
  ·exact h.1
  ·exact Z9v.mem h.2 q hq
inductive Nod where
 | mk (kind:Int) (name:ByteArray) (low high:Int) (kids:List Nod)
def Nod.kids:Nod→List Nod | .mk _ _ _ _ ks=>ks
theorem ZpP(p:Pat):∃x1 x2 x3 x4:AV,Z1s p=.agg [x1,x2,x3,x4]:=by obtain⟨k,s,a,b⟩:=p;rw[Z0d];exact⟨_,_,_,_,rfl⟩
def ZwB(s:ByteArray):Prop:=s.size≤140737488351232
mutual
def ZpX:Nod→Prop
 | .mk _ s _ _ ks=>ZwB s∧Len ks∧ZdJ ks
def ZdJ:List Nod→Prop
 | []=>True
 | p::ps=>ZpX p∧ZdJ ps
end
theorem ZdJ.mem:∀{ks:List Nod},ZdJ ks→∀q∈ks,ZpX q
 | [],_,q,h=>by simp at h
 | p::ps,h,q,hq=>by
  simp only[ZdJ] at h;rcases List.mem_cons.mp hq with rfl | hq
  ·exact h.1
  ·exact ZdJ.mem h.2 q hq
end Go.Rf
namespace Go.Rf
open Go.RowKit
attribute [local simp] Z4t Z4q Z3h Z2s Z3f Z3j Z3g Z4r Z4s Z3i Z3n Z1A Z1y Z2q Z1H Z41 Z3v ZcH Z7E Z7D Z5R ZcG Z7C Z5P Z4v Z3k Z4u Z7x Z7w Z5J Z4x Z3l Z4w Z7z Z7y Z5K Z1z Z2v Z3o Z3p Z1D Z1o Z0c Z0B Z0q Z08 Z0o Z0h Z09 Z0p Z0i Z0Y Z0j Z0z Z0K Z0k Z0J Z1W Z3U Z0X Z25 Z22 Z24 Z23 Z26 Z1j Z0D Z11 Z12 Z1T Z1U Z1V Z0H Z0I Z1i Z0r Z0W Z20 Z1X Z1Z Z1Y Z21 Z1k Z13 Z1g Z0U Z0V Z0C Z1h Z0P Z1a Z1f Z14 Z1l ex Z00 Z0R Z6K Z6P Z0f Z0g Z0A Z2k Z1d Z10 Z0y Z0F Z0G Z0E Z0s Z0Z Z5y Z0O Z37 Z1c Z1O Z1R Z3s Z0b Z1E Z28 Z19 Z0Q Z2w Z27 Z3u Z2x Z1P Z6A Z3C Z6z Z3w Z2Y Z3t Z6w Z3D Z51 Z4A Z3z Z2B Z2C Z29 Z2z Z2A Z3y Z1M Z2y Z3x Z3A S0 Z06 Z1n Z39 Z34 Z56 Z38 Z33 Z55 Z44 Z36 Z43 Z6j Z5a Z6i Z59 Z45 Z58 Z2U Z72.cl Z5z.cl Z04 Z0L Z02 Z0T Z1w Z2j Z1N Z2n Z1p Z3r Z4N Z3V Z4M Z5L Z5W Z3E Z4O Z5w Z5m Z5S Z4U Z4X Z4W Z42 Z2c Z2H Z62 Z3m Z3W Z4y Z2J Z2I Z17 Z68 Z2G Z4k Z1S Z4B
def Zn3(P2n:FuncId):AC :=
 (.loop (.seq (.reg none [
  ro 10 (.bin .lss (.t 9) (.t 8))])
  (.seq (.cond (.t 10) .skip (.exit 0))
  (.seq (.block 1 (.seq (.reg none [
   ro 11 (.idxA 4 (.t 7) (.t 9)),
   ro 12 (.load (some 4) (.t 11)),
   ro 5 (.alloc (.agg [(.v (.int .i64 0)),(.sl true []),(.sl true []),(.sl true [])]) 4),
   rn (.store 4 (.t 5) (.t 12))])
  (.reg none [
   rm 13 3,
   ro 14 (.load (some 4) (.t 5)),
   rk 15 P2n [(.t 14)],
   ro 16 (.bin .add (.t 13) (.t 15)),
   ro 17 (.mm false (ci 100000) (.t 16)),
   rm 3 17])))
  (.reg none [
  ro 18 (.bin .add (.t 9) (ci 1)),
  rm 9 18])))))
def Z6x(P2n:FuncId):AC :=
 (.seq (.reg none [
 ro 1 (.box 4 (.t 0)),
 ro 2 (.mv (ci 0))])
 (.seq (.reg none [
 ro 3 (.mv (ci 1))])
 (.seq (.seq (.reg none [
 ro 6 (.fieldA 3 (.t 1)),
 ro 7 (.load none (.t 6)),
 ro 8 (.len (.t 7)),
 ro 9 (.mv (ci 0))])
 (.block 0 (Zn3 P2n)))
 (.seq (.reg none [
 rm 19 3,
 rm 2 19])
 .ret))))
mutual
theorem Zkh{P:Program}(hm:P.follows .mixedOrders=true){sg:Int}{ff fc f1 fd fset fst fe fj fei ffo:FuncId}(F:Zjx P sg ff fc f1 fd fset fst fe fj fei ffo)(h:IsS P ff (Z2t fc f1 fd fset fst fe fj fei ffo) [.c 4 (some 3)] 2) :
  ∀(p:Pat),Zce p→Zaz P ff sg p
 | .mk k ps pg ks,hp=>by
  simp only[Zce] at hp;exact ZlA hm F h hp.2.1 hp.1 (Zhj hm F h ks hp.2.2)
theorem Zhj{P:Program}(hm:P.follows .mixedOrders=true){sg:Int}{ff fc f1 fd fset fst fe fj fei ffo:FuncId}(F:Zjx P sg ff fc f1 fd fset fst fe fj fei ffo)(h:IsS P ff (Z2t fc f1 fd fset fst fe fj fei ffo) [.c 4 (some 3)] 2) :
  ∀(ks:List Pat),ZaB ks→∀q∈ks,Zaz P ff sg q
 | [],_,q,hq=>by simp at hq
 | p::ps,hp,q,hq=>by
  simp only[ZaB] at hp;rcases List.mem_cons.mp hq with e | hq
  ·rw[e];exact Zkh hm F h p hp.1
  ·exact Zhj hm F h ps hp.2 q hq
end
mutual
def ndP:Pat→Nat
 | .mk _ _ _ ks=>1+ndL ks
def ndL:List Pat→Nat
 | []=>0
 | q::qs=>ndP q+ndL qs
end
def szP(p:Pat):Int:=min 100000 (ndP p)
theorem ZbZ:∀(a b:List Pat),ndL (a++b)=ndL a+ndL b
 | [],b=>by simp[ndL]
 | p::a,b=>by simp only[List.cons_append,ndL];rw[ZbZ a b];omega
mutual
theorem Zr4:∀(p:Pat),Z79 p≤ndP p
 | .mk k _ _ ks=>by
  have:=Zne ks;simp only[Z79,ndP];split
  ·omega
  ·split<;>omega
theorem Zne:∀(ks:List Pat),Z76 ks≤ndL ks
 | []=>by simp[Z76,ndL]
 | q::qs=>by have:=Zr4 q;have:=Zne qs;simp only[Z76,ndL];omega
end
theorem ZoW{most:Int}:∀{ws:List Int} {s:Int},(∀w∈ws,0≤w)→Zd3 most s ws≤most→Zd3 most s ws=s+ws.sum
 | [],s,_,h=>by simp[Zd3]
 | w::ws,s,h0,h=>by
  simp only[Zd3] at h ⊢;have hw:=h0 w (by simp);split at h
  ·rename_i hs
   rw[if_pos hs,ZoW (fun x hx=>h0 x (by simp[hx])) h,List.sum_cons];omega
  ·omega
theorem Zfl{f:Pat→Int}{g:Pat→Nat}:∀{ks:List Pat},(∀q∈ks,(g q:Int)≤f q)→((ks.map g).sum:Int)≤(ks.map f).sum
 | [],_=>by simp
 | q::qs,h=>by
  have h1:=h q (by simp);have h2:=Zfl (ks:=qs) fun x hx=>h x (by simp[hx])
  simp only[List.map_cons,List.sum_cons] at h2 ⊢
  push_cast at h2 ⊢
  omega
theorem Zo7:∀(ks:List Pat),ndL ks=(ks.map ndP).sum
 | []=>rfl
 | q::qs=>by simp only[ndL,List.map_cons,List.sum_cons];rw[Zo7 qs]
def vzI(_:Nat)(_:Unit):Prop:=True
def vzA(ks:List Pat)(k:Nat)(_:Unit):List (Nat×AV):=[(3,Z06 (min 100000 (1+ndL (ks.take k):Nat))),(7,.sl false (ks.map Z1s)),(8,Z06 ks.length),(9,Z06 k)]
def vzG(_:Nat)(_:Unit):List (Nat×Option Blk):=[]
theorem ZoM{P:Program}{fz:FuncId}(k:Int)(ps:List Rg)(pg:List Int)(ks:List Pat)(hl:ks.length≤100000)(hq:∀q∈ks,Z0t P fz [Z1s q] (Z06 (szP q))) :
  AWb P 0 (Z6x fz) (Z75 [2] (FzK (Z06 (szP (.mk k ps pg ks))))) (Z53 [Z1s (.mk k ps pg ks)]) S0:=by
 simp[Z6x,Z0d,Zn3];refine Z2D ks.length vzI (vzA ks) 5 vzG () trivial ?_ ?_
 ·refine Abs.of [] [] (by omega) ⟨by simp,by simp⟩ ?_ ?_
  ·simp[vzG]
  ·simp[vzA,ndL,Z2h]
   omega
 ·rintro i _ hi _
  by_cases hlt:i < ks.length
  ·have hsk:ks[i]? = some ks[i]:=List.getElem?_eq_getElem hlt
   have htk:ks.take (i+1)=ks.take i++[ks[i]]:=by rw[List.take_add_one,hsk];rfl
   have hqk:=hq _ (List.getElem_mem hlt);have hcp:=Z3M ks[i];have hnd:ndL (ks.take (i+1))=ndL (ks.take i)+ndP ks[i]:=by rw[htk,ZbZ];simp[ndL]
   have hsz:szP ks[i]=min 100000 (ndP ks[i]:Int):=rfl
   obtain⟨x1,x2,x3,x4,hx⟩:∃x1 x2 x3 x4:AV,Z1s ks[i]=.agg [x1,x2,x3,x4]:=by
    obtain⟨k,s,g,ks⟩:=ks[i];rw[Z0d];exact⟨_,_,_,_,rfl⟩
   rw[hx] at hqk hcp;generalize hnn:ndL (ks.take i)=nn at *;generalize szP ks[i]=zz at *;have hww:IntKind.i64.wrap (min 100000 (1+(nn:Int))+zz)=min 100000 (1+(nn:Int))+zz:=Z0m _ (by omega);simp[vzA,vzG,hlt,hsk,hx,Z0b,hnn];refine Z0x.pure hqk (Z01 hcp Z0a) (Z04 _) ?_;simp[hww];rw[Z0m _ (by omega)];refine⟨hlt,(),trivial,Abs.of [] [] (by omega) ⟨by simp,by simp⟩ ?_ ?_⟩
   ·simp[vzG]
   ·simp[vzA,hnd,hnn,Z2h]
    omega
  ·have hke:i=ks.length:=by omega
   subst hke;simp[vzA,vzG];have e:szP (.mk k ps pg ks)=min 100000 (1+(ndL ks:Int)):=by simp only[szP,ndP];push_cast;rfl
   rw[e];exact Zft _ _
mutual
theorem ZoO{P:Program}(hm:P.follows .mixedOrders=true){f:FuncId}(h:Is P f (Z6x f) [2] 1):∀(p:Pat),Zce p→Z0t P f [Z1s p] (Z06 (szP p))
 | .mk k ps pg ks,hp=>by
  simp only[Zce] at hp;exact h.P1q hm rfl (ZoM k ps pg ks hp.2.1 (ZkP hm h ks hp.2.2))
theorem ZkP{P:Program}(hm:P.follows .mixedOrders=true){f:FuncId}(h:Is P f (Z6x f) [2] 1):∀(ks:List Pat),ZaB ks→∀q∈ks,Z0t P f [Z1s q] (Z06 (szP q))
 | [],_,q,hq=>by simp at hq
 | p::ps,hp,q,hq=>by
  simp only[ZaB] at hp;rcases List.mem_cons.mp hq with e | hq
  ·rw[e];exact ZoO hm h p hp.1
  ·exact ZkP hm h ps hp.2 q hq
end
end Go.Rf
namespace Go.Rf
open Go.RowKit
attribute [local simp] Z4t Z4q Z3h Z2s Z3f Z3j Z3g Z4r Z4s Z3i Z3n Z1A Z1y Z2q Z1H Z41 Z3v ZcH Z7E Z7D Z5R ZcG Z7C Z5P Z4v Z3k Z4u Z7x Z7w Z5J Z4x Z3l Z4w Z7z Z7y Z5K Z1z Z2v Z3o Z3p Z1D Z1o Z0c Z0B Z0q Z08 Z0o Z0h Z09 Z0p Z0i Z0Y Z0j Z0z Z0K Z0k Z0J Z1W Z3U Z0X Z25 Z22 Z24 Z23 Z26 Z1j Z0D Z11 Z12 Z1T Z1U Z1V Z0H Z0I Z1i Z0r Z0W Z20 Z1X Z1Z Z1Y Z21 Z1k Z13 Z1g Z0U Z0V Z0C Z1h Z0P Z1a Z1f Z14 Z1l ex Z00 Z0R Z6K Z6P Z0f Z0g Z0A Z2k Z1d Z10 Z0y Z0F Z0G Z0E Z0s Z0Z Z5y Z0O Z37 Z1c Z1O Z1R Z3s Z0b Z1E Z28 Z19 Z0Q Z2w Z27 Z3u Z2x Z1P Z6A Z3C Z6z Z3w Z2Y Z3t Z6w Z3D Z51 Z4A Z3z Z2B Z2C Z29 Z2z Z2A Z3y Z1M Z2y Z3x Z3A S0 Z06 Z1n Z39 Z34 Z56 Z38 Z33 Z55 Z44 Z36 Z43 Z6j Z5a Z6i Z59 Z45 Z58 Z2U Z72.cl Z5z.cl Z04 Z0L Z02 Z0T Z1w Z2j Z1N Z2n Z1p Z3r Z4N Z3V Z4M Z5L Z5W Z3E Z4O Z5w Z5m Z5S Z4U Z4X Z4W Z42 Z2c Z2H Z62 Z3m Z3W Z4y Z2J Z2I Z17 Z68 Z2G Z4k Z1S Z4B
def Z8a(P2n P1U P19 P0p P0n:FuncId):AC :=
 (.seq (.reg none [
 ro 2 (.box 4 (.t 0)),
 ro 4 (.alloc (.agg [(.v (.int .i64 0)),(.sl true []),(.sl true []),(.sl true [])]) 4),
 ro 5 (.mv (ci 0))])
 (.seq (.block 0 (.seq (.reg none [
  rm 9 1,
  ro 10 (.bin .lss (.t 9) (ci 1)),
  rm 11 10,
  rg 12 11 false (.mv (.t 1)),
  rg 13 11 false (.bin .gtr (.t 12) (ci 400)),
  ro 14 (.pick (.t 11) (.c (.v (.bool true))) (.t 13)),
  rm 8 14])
 (.cond (.t 8) (.seq (.reg none [
  ro 15 (.build (.agg [(.v (.int .i64 0)),(.sl true []),(.sl true []),(.sl true [])]) [] []),
  rn (.store 4 (.t 4) (.t 15)),
  ro 5 (.mv (ci 1))])
  .ret) (.seq (.reg none [
  ro 17 (.load (some 4) (.t 2)),
  rk 18 P2n [(.t 17)],
  ro 19 (.bin .gtr (.t 18) (ci 300)),
  rm 16 19])
  (.cond (.t 16) (.seq (.reg none [
   ro 20 (.build (.agg [(.v (.int .i64 0)),(.sl true []),(.sl true []),(.sl true [])]) [] []),
   rn (.store 4 (.t 4) (.t 20)),
   ro 5 (.mv (ci 9))])
  .ret) .skip)))))
 (.seq (.reg none [
 rm 21 1,
 ro 22 (.build (.agg [(.v (.int .i64 0)),(.sl true []),(.sl true []),(.sl true [])]) [(0,1)] [(0,(.t 21))]),
 ro 23 (.build (.agg [(.v (.int .i64 0)),(.sl true []),(.sl true []),(.sl true [])]) [(0,4)] [(0,(.t 22))]),
 ro 24 (.box 4 (.t 23)),
 rm 6 24])
 (.seq (.reg none [
 rm 25 6,
 rk 26 P1U [(.t 25),(.c (.sl true []))]])
 (.seq (.reg none [
 rm 27 6,
 ro 28 (.load (some 4) (.t 2)),
 rk 29 P19 [(.t 27),(.t 28)],
 ro 7 (.alloc (.agg [(.v (.bool false)),(.sl true []),(.sl true [])]) 3),
 rn (.store 3 (.t 7) (.t 29))])
 (.seq (.reg (some [[],[],[],[],[],[],[],[],[],[],[],[false,true,true,false,false,true]]) [
 rm 30 6,
 ro 31 (.nilc (.t 30)),
 ro 32 (.fieldA 0 (.t 31)),
 ro 33 (.fieldA 2 (.t 32)),
 ro 34 (.load none (.t 33)),
 rm 35 6,
 ro 36 (.fieldA 1 (.t 7)),
 ro 37 (.load none (.t 36)),
 ro 38 (.fieldA 2 (.t 7)),
 ro 39 (.load none (.t 38)),
 ro 40 (.idxA 1 (.t 34) (ci 0)),
 rn (.store 1 (.t 40) (.t 37)),
 ro 41 (.nilc (.t 35)),
 ro 42 (.fieldA 0 (.t 41)),
 ro 43 (.fieldA 3 (.t 42)),
 rn (.store 1 (.t 43) (.t 39))])
 (.seq (.seq (.reg none [
 ro 44 (.fieldA 0 (.t 7)),
 ro 45 (.load none (.t 44))])
 (.cond (.t 45) (.reg none [
  rm 46 6,
  ro 47 (.fieldA 2 (.t 7)),
  ro 48 (.load none (.t 47)),
  rk 49 P0p [(.t 48)],
  ro 50 (.bslice 1 1 (.v (.int .i64 0)) [(0,(ci 0))]),
  ro 51 (.app 1 8 (.t 49) (.t 50)),
  rk 52 P0n [(.t 51)],
  ro 53 (.nilc (.t 46)),
  ro 54 (.fieldA 0 (.t 53)),
  ro 55 (.fieldA 3 (.t 54)),
  rn (.store 1 (.t 55) (.t 52))]) .skip))
 (.seq (.reg none [
 rm 56 6,
 ro 57 (.nilc (.t 56)),
 ro 58 (.fieldA 0 (.t 57)),
 ro 59 (.load (some 4) (.t 58)),
 rn (.store 4 (.t 4) (.t 59)),
 ro 5 (.mv (ci 0))])
 .ret))))))))
def ZlJ:Net:=⟨0,[],[],[]⟩
def Z2K(p:Pat)(sg:Int):Net×Int:=if sg < 1∨400 < sg then (ZlJ,1) else if 300 < szP p then (ZlJ,9) else (Z6L p sg,0)
def Zbd(r:Net×Int):AV:=.tup [Z0M r.1,Z06 r.2]
theorem Zds(r:Net×Int):Z0S (Zbd r):=.tup _ (Z01 (Z1J _) (Z01 (Z04 _) Z0a))
theorem ZbT(g:Nat→Option Blk)(e:Int):Fz g (.tup [.agg [.v (.int .i64 0),.sl true [],.sl true [],.sl true []],.v (.int .i64 e)]) (Zbd (ZlJ,e)) :=
 .P5g (.cons (.P5i (.cons (.closed _ (.v _)) (.cons ZeZ (.cons ZeZ (.cons ZeZ .nil))))) (.cons (.closed _ (.v _)) .nil))
theorem ZqE{p:Pat}(h:¬300 < szP p):Z79 p≤300:=by
 have:=Zr4 p;unfold szP at h;omega
theorem Zki{g:Nat→Option Blk}{id n:Nat}{l:List (List Int)}(hg:g id=some (.arr 1 (l.map Z03)))(hn:n=l.length):Fz g (.own id 0 n) (Z0l l):=by
 have:=Zam (g:=g) (o:=true) (id:=id) (xs:=l.map Z03) (by rw[Z1S];exact hg) (Z3E l);rw[Z2G,List.length_map,←hn] at this;exact this
theorem Zss{g:Nat→Option Blk}{id n:Nat}{l:List Int}(hg:g id=some (.arr 1 (l.map Z06)))(hn:n=l.length):Fz g (.own id 0 n) (Z03 l):=by
 have:=Zam (g:=g) (o:=true) (id:=id) (xs:=l.map Z06) (by rw[Z1S];exact hg) (Z5L l);rw[Z2G,List.length_map,←hn] at this;exact this
theorem ZfR{g:Nat→Option Blk}{sg:Int}{b c:Nat}{by_ fo:List (List Int)}{x l:List Int}(h1:g b=some (.arr 1 (by_.map Z03)))(h2:g c=some (.arr 1 ((fo.set 0 x).map Z03))) :
  Fz g (.tup [.agg [.v (.int .i64 sg),.own b 0 by_.length,.own c 0 fo.length,Z03 l],.v (.int .i64 0)]) (Zbd (⟨sg,by_,fo.set 0 x,l⟩,0)) :=
 .P5g (.cons (.P5i (.cons (.closed _ (.v _)) (.cons (Zki h1 rfl) (.cons (Zki h2 (by simp)) (.cons (.closed _ (Z02 _)) .nil))))) (.cons (.closed _ (.v _)) .nil))
theorem P4e{P:Program}{fz fst ff fc fset:FuncId}{p:Pat}{sg:Int}(hz:Z0t P fz [Z1s p] (Z06 (szP p)))(hs:Z52 P fst [Z03 []] sg false ⟨[],[]⟩ st0 (Z06 0))(hf:Zaz P ff sg p)
  (hc:ByC P fc (Z32 1 8 (.v (.int .i64 0))) [.t 2] 1) (hset:Zl5 P fset) :
  AWb P 0 (Z8a fz fst ff fc fset) (Z2L [.c 4 (some 4),.t 5] (FzK (Zbd (Z2K p sg)))) (Z53 [Z1s p,Z06 sg]) S0:=by
 obtain⟨k,ps,pg,ks⟩:=p;have hcp:=Z3M (.mk k ps pg ks);by_cases h1:sg < 1
 ·have hr:Z2K (.mk k ps pg ks) sg=(ZlJ,1):=by rw[Z2K,if_pos (.inl h1)]
  rw[hr];simp[Z8a,Z0d,Z0b,Z0w,Z1t,h1,Z2L,evC,RV.ev,ldC,Z1b];exact ZbT _ 1
 by_cases h2:400 < sg
 ·have hr:Z2K (.mk k ps pg ks) sg=(ZlJ,1):=by rw[Z2K,if_pos (.inr h2)]
  rw[hr];simp[Z8a,Z0d,Z0b,Z0w,Z1t,h1,h2,Z2L,evC,RV.ev,ldC,Z1b];exact ZbT _ 1
 have hsz:=hz;simp only[Z0d,Z06] at hsz hcp;by_cases h3:300 < szP (.mk k ps pg ks)
 ·have hr:Z2K (.mk k ps pg ks) sg=(ZlJ,9):=by rw[Z2K,if_neg (by omega),if_pos h3]
  rw[hr];simp[Z8a,Z0d,Z0b,Z0w,Z1t,h1,h2];refine Z0x.pure hsz (Z01 hcp Z0a) (Z04 _) ?_;simp[Z0w,Z1t,h3,Z2L,evC,RV.ev,ldC,Z1b];exact ZbT _ 9
 have hr:Z2K (.mk k ps pg ks) sg=(Z6L (.mk k ps pg ks) sg,0):=by rw[Z2K,if_neg (by omega),if_neg h3]
 rw[hr];have hcnt:=ZqE h3;have hN0:StN st0:=⟨rfl,fun r hr=>by simp[st0] at hr;subst hr;exact UpN.nil⟩;have hff:=hf st0 hN0 (by show 1+_≤_;omega);obtain⟨n1,n2,n3⟩:=ZfT sg (.mk k ps pg ks) st0 hN0;simp only[Z0d,Z06] at hff;have hno:Z6L (.mk k ps pg ks) sg=⟨sg,(Z2Z sg (.mk k ps pg ks) st0).2.by_,(Z2Z sg (.mk k ps pg ks) st0).2.fo.set 0 (Z2Z sg (.mk k ps pg ks) st0).1.fst,if (Z2Z sg (.mk k ps pg ks) st0).1.nul=true then Z6l ((Z2Z sg (.mk k ps pg ks) st0).1.lst++[0]) else (Z2Z sg (.mk k ps pg ks) st0).1.lst⟩:=rfl;rw[hno];have hb1:st0.by_.length=1:=rfl;generalize Z2Z sg (.mk k ps pg ks) st0=ge at *;obtain⟨e,st1⟩:=ge;simp only at n1 n2 n3 hff ⊢;have hl:=n1.len;have hfl:0 < st1.fo.length:=by omega
 have hll:=n2.l.len;simp[Z8a,Z0d,Z0b,Z0w,Z1t,h1,h2];refine Z0x.pure hsz (Z01 hcp Z0a) (Z04 _) ?_;simp[Z0w,Z1t,h3];refine Z52.use hs (fun _=>.cons (.loose (by simp)) .nil) (Z04 _) (id:=17) (b:=2) (c:=3) (by simp[Z0N,Z4k]) (by simp[Z4B]) (by simp[Z4B]) (by simp) (by simp) ?_;simp[Z7v];refine Z52.use hff (fun _=>.cl (Z01 hcp Z0a)) (Z2W _) (id:=17) (b:=21) (c:=22) (by simp[Z0N,Z2G]) (by simp[Z1S]) (by simp[Z1S]) (by simp) (by simp) ?_;cases hn:e.nul
 ·rw[if_neg (by simp)]
  simp[Z7v,Z0N,Z0b,Z0n,Z18,hfl,Z47,hn,Z2L,evC,RV.ev,ldC,Z1b];exact ZfR (by simp) (by simp[List.map_set])
 ·rw[if_pos rfl]
  simp[Z7v,Z0N,Z0b,Z0n,Z18,hfl,Z47,hn];have hap:Z1K 8 e.lst.length 1:=by unfold Z1K;omega
  have hst:=hset (e.lst++[0]) (by rw[List.length_append];simp;omega);refine Zh2 hc e.lst (by omega) (by simp) ?_;simp[hap];refine Z0x.gives [63] hst (FzL.cons ?_ FzL.nil) (Z02 _) ?_
  ·exact Zss (l:=e.lst++[0]) (by simp[Zf8,Z0A,Z06]) (by simp)
  simp[Z0N,Z47,Z94,Z1z,Z1M,Z2L,evC,RV.ev,ldC,Z1b];exact ZfR (by simp[Z94]) (by simp[List.map_set,Z94])
end Go.Rf
namespace Go.Rf
open Go.RowKit
attribute [local simp] Z4t Z4q Z3h Z2s Z3f Z3j Z3g Z4r Z4s Z3i Z3n Z1A Z1y Z2q Z1H Z41 Z3v ZcH Z7E Z7D Z5R ZcG Z7C Z5P Z4v Z3k Z4u Z7x Z7w Z5J Z4x Z3l Z4w Z7z Z7y Z5K Z1z Z2v Z3o Z3p Z1D Z1o Z0c Z0B Z0q Z08 Z0o Z0h Z09 Z0p Z0i Z0Y Z0j Z0z Z0K Z0k Z0J Z1W Z3U Z0X Z25 Z22 Z24 Z23 Z26 Z1j Z0D Z11 Z12 Z1T Z1U Z1V Z0H Z0I Z1i Z0r Z0W Z20 Z1X Z1Z Z1Y Z21 Z1k Z13 Z1g Z0U Z0V Z0C Z1h Z0P Z1a Z1f Z14 Z1l ex Z00 Z0R Z6K Z6P Z0f Z0g Z0A Z2k Z1d Z10 Z0y Z0F Z0G Z0E Z0s Z0Z Z5y Z0O Z37 Z1c Z1O Z1R Z3s Z0b Z1E Z28 Z19 Z0Q Z2w Z27 Z3u Z2x Z1P Z6A Z3C Z6z Z3w Z2Y Z3t Z6w Z3D Z51 Z4A Z3z Z2B Z2C Z29 Z2z Z2A Z3y Z1M Z2y Z3x Z3A S0 Z06 Z1n Z39 Z34 Z56 Z38 Z33 Z55 Z44 Z36 Z43 Z6j Z5a Z6i Z59 Z45 Z58
def Z89(P5c:FuncId):AC :=
 (.seq (.reg none [
 ro 4 (.box 4 (.t 0)),
 ro 8 (.alloc (.agg [(.v (.int .i64 0)),(.sl true []),(.sl true [])]) 3),
 ro 9 (.mv (ci 0))])
 (.seq (.reg none [
 ro 13 (.load (some 4) (.t 4)),
 rm 14 1,
 rk 15 P5c [(.t 13),(.t 14)],
 rm 12 15,
 ro 16 (.ext 0 (.t 12)),
 ro 17 (.ext 1 (.t 12)),
 ro 10 (.alloc (.agg [(.v (.int .i64 0)),(.sl true []),(.sl true []),(.sl true [])]) 4),
 rn (.store 4 (.t 10) (.t 16)),
 rm 11 17])
 (.seq (.seq (.reg none [
 rm 18 11,
 ro 19 (.bin .neq (.t 18) (ci 0))])
 (.cond (.t 19) (.seq (.reg none [
  ro 20 (.build (.agg [(.v (.int .i64 0)),(.sl true []),(.sl true [])]) [] []),
  rm 21 11,
  rn (.store 3 (.t 8) (.t 20)),
  rm 9 21])
 .ret) .skip))
 (.seq (.reg none [
 rm 22 3,
 ro 23 (.load (some 4) (.t 10)),
 rm 24 2,
 ⟨(some 25),.mv (.c .junk),none,(some ((.t 22),[(.t 23),(.t 24)]))⟩,
 ro 26 (.ext 0 (.t 25)),
 ro 27 (.ext 1 (.t 25)),
 rn (.store 3 (.t 8) (.t 26)),
 rm 9 27])
 .ret))))
def Z6D(P3S P4H P4G P58 P4Y:FuncId):AC :=
 (.seq (.reg none [
 ro 3 (.box 11 (.t 0)),
 ro 6 (.alloc (.agg [(.v (.int .i64 0)),(.sl true []),(.sl true [])]) 3),
 ro 7 (.mv (ci 0))])
 (.seq (.seq (.reg none [
 rm 12 1,
 ro 13 (.bin .lss (.t 12) (ci 1)),
 rm 14 13,
 rg 15 14 false (.mv (.t 1)),
 rg 16 14 false (.bin .gtr (.t 15) (ci 200)),
 ro 17 (.pick (.t 14) (.c (.v (.bool true))) (.t 16)),
 rm 18 17,
 rg 19 18 false (.mv (.t 2)),
 rg 20 18 false (.bin .lss (.t 19) (ci 1)),
 ro 21 (.pick (.t 18) (.c (.v (.bool true))) (.t 20)),
 rm 22 21,
 rg 23 22 false (.mv (.t 2)),
 rg 24 22 false (.bin .gtr (.t 23) (ci 3000)),
 ro 25 (.pick (.t 22) (.c (.v (.bool true))) (.t 24))])
 (.cond (.t 25) (.seq (.reg none [
  ro 26 (.build (.agg [(.v (.int .i64 0)),(.sl true []),(.sl true [])]) [] []),
  rn (.store 3 (.t 6) (.t 26)),
  ro 7 (.mv (ci 1))])
 .ret) .skip))
 (.seq (.reg none [
 ro 28 (.fieldA 2 (.t 3)),
 ro 29 (.load (some 4) (.t 28)),
 rm 30 1,
 rm 31 2,
 rk 32 P3S [(.t 29),(.t 30),(.t 31),(.c (.clo P4H [] []))],
 rm 27 32,
 ro 33 (.ext 0 (.t 27)),
 ro 34 (.ext 1 (.t 27)),
 ro 8 (.alloc (.agg [(.v (.int .i64 0)),(.sl true []),(.sl true [])]) 3),
 rn (.store 3 (.t 8) (.t 33)),
 rm 9 34])
 (.seq (.seq (.reg none [
 rm 35 9,
 ro 36 (.bin .neq (.t 35) (ci 0))])
 (.cond (.t 36) (.seq (.reg none [
  ro 37 (.build (.agg [(.v (.int .i64 0)),(.sl true []),(.sl true [])]) [] []),
  rm 38 9,
  rn (.store 3 (.t 6) (.t 37)),
  rm 7 38])
 .ret) .skip))
 (.seq (.reg none [
 ro 40 (.fieldA 6 (.t 3)),
 ro 41 (.load (some 4) (.t 40)),
 rm 42 1,
 rm 43 2,
 rk 44 P3S [(.t 41),(.t 42),(.t 43),(.c (.clo P4G [] []))],
 rm 39 44,
 ro 45 (.ext 0 (.t 39)),
 ro 46 (.ext 1 (.t 39)),
 ro 10 (.alloc (.agg [(.v (.int .i64 0)),(.sl true []),(.sl true [])]) 3),
 rn (.store 3 (.t 10) (.t 45)),
 rm 9 46])
 (.seq (.seq (.reg none [
 rm 47 9,
 ro 48 (.bin .neq (.t 47) (ci 0))])
 (.cond (.t 48) (.seq (.reg none [
  ro 49 (.build (.agg [(.v (.int .i64 0)),(.sl true []),(.sl true [])]) [] []),
  rm 50 9,
  rn (.store 3 (.t 6) (.t 49)),
  rm 7 50])
 .ret) .skip))
 (.seq (.reg none [
 ro 52 (.load (some 3) (.t 8)),
 ro 53 (.load (some 3) (.t 10)),
 rm 54 2,
 rk 55 P58 [(.t 52),(.t 53),(.t 54)],
 rm 51 55,
 ro 56 (.ext 0 (.t 51)),
 ro 57 (.ext 1 (.t 51)),
 ro 11 (.alloc (.agg [(.v (.int .i64 0)),(.sl true []),(.sl true [])]) 3),
 rn (.store 3 (.t 11) (.t 56)),
 rm 9 57])
 (.seq (.seq (.reg none [
 rm 58 9,
 ro 59 (.bin .neq (.t 58) (ci 0))])
 (.cond (.t 59) (.seq (.reg none [
  ro 60 (.build (.agg [(.v (.int .i64 0)),(.sl true []),(.sl true [])]) [] []),
  rm 61 9,
  rn (.store 3 (.t 6) (.t 60)),
  rm 7 61])
 .ret) .skip))
 (.seq (.reg none [
 ro 62 (.load (some 3) (.t 11)),
 rk 63 P4Y [(.t 62)],
 ro 64 (.ext 0 (.t 63)),
 ro 65 (.ext 1 (.t 63)),
 rn (.store 3 (.t 6) (.t 64)),
 rm 7 65])
 .ret)))))))))
def Z3I(P2G P3i P3h P3P P3O:FuncId):AC :=
 (.seq (.reg none [
 ro 3 (.box 11 (.t 0)),
 ro 6 (.alloc (.agg [(.v (.int .i64 0)),(.sl true []),(.sl true [])]) 3),
 ro 7 (.mv (ci 0))])
 (.seq (.seq (.reg none [
 rm 14 1,
 ro 15 (.bin .lss (.t 14) (ci 1)),
 rm 16 15,
 rg 17 16 false (.mv (.t 1)),
 rg 18 16 false (.bin .gtr (.t 17) (ci 200)),
 ro 19 (.pick (.t 16) (.c (.v (.bool true))) (.t 18)),
 rm 20 19,
 rg 21 20 false (.mv (.t 2)),
 rg 22 20 false (.bin .lss (.t 21) (ci 1)),
 ro 23 (.pick (.t 20) (.c (.v (.bool true))) (.t 22)),
 rm 24 23,
 rg 25 24 false (.mv (.t 2)),
 rg 26 24 false (.bin .gtr (.t 25) (ci 3000)),
 ro 27 (.pick (.t 24) (.c (.v (.bool true))) (.t 26))])
 (.cond (.t 27) (.seq (.reg none [
  ro 28 (.build (.agg [(.v (.int .i64 0)),(.sl true []),(.sl true [])]) [] []),
  rn (.store 3 (.t 6) (.t 28)),
  ro 7 (.mv (ci 1))])
 .ret) .skip))
 (.seq (.reg none [
 ro 30 (.fieldA 2 (.t 3)),
 ro 31 (.load (some 4) (.t 30)),
 rm 32 1,
 rk 33 P2G [(.t 31),(.t 32)],
 rm 29 33,
 ro 34 (.ext 0 (.t 29)),
 ro 35 (.ext 1 (.t 29)),
 ro 8 (.alloc (.agg [(.v (.int .i64 0)),(.sl true []),(.sl true []),(.sl true [])]) 4),
 rn (.store 4 (.t 8) (.t 34)),
 rm 9 35])
 (.seq (.seq (.reg none [
 rm 36 9,
 ro 37 (.bin .neq (.t 36) (ci 0))])
 (.cond (.t 37) (.seq (.reg none [
  ro 38 (.build (.agg [(.v (.int .i64 0)),(.sl true []),(.sl true [])]) [] []),
  rm 39 9,
  rn (.store 3 (.t 6) (.t 38)),
  rm 7 39])
 .ret) .skip))
 (.seq (.reg none [
 ro 41 (.load (some 4) (.t 8)),
 rm 42 2,
 rk 43 P3i [(.t 41),(.t 42)],
 rm 40 43,
 ro 44 (.ext 0 (.t 40)),
 ro 45 (.ext 1 (.t 40)),
 ro 10 (.alloc (.agg [(.v (.int .i64 0)),(.sl true []),(.sl true [])]) 3),
 rn (.store 3 (.t 10) (.t 44)),
 rm 9 45])
 (.seq (.seq (.reg none [
 rm 46 9,
 ro 47 (.bin .neq (.t 46) (ci 0))])
 (.cond (.t 47) (.seq (.reg none [
  ro 48 (.build (.agg [(.v (.int .i64 0)),(.sl true []),(.sl true [])]) [] []),
  rm 49 9,
  rn (.store 3 (.t 6) (.t 48)),
  rm 7 49])
 .ret) .skip))
 (.seq (.reg none [
 ro 51 (.fieldA 6 (.t 3)),
 ro 52 (.load (some 4) (.t 51)),
 rm 53 1,
 rk 54 P2G [(.t 52),(.t 53)],
 rm 50 54,
 ro 55 (.ext 0 (.t 50)),
 ro 56 (.ext 1 (.t 50)),
 ro 11 (.alloc (.agg [(.v (.int .i64 0)),(.sl true []),(.sl true []),(.sl true [])]) 4),
 rn (.store 4 (.t 11) (.t 55)),
 rm 9 56])
 (.seq (.seq (.reg none [
 rm 57 9,
 ro 58 (.bin .neq (.t 57) (ci 0))])
 (.cond (.t 58) (.seq (.reg none [
  ro 59 (.build (.agg [(.v (.int .i64 0)),(.sl true []),(.sl true [])]) [] []),
  rm 60 9,
  rn (.store 3 (.t 6) (.t 59)),
  rm 7 60])
 .ret) .skip))
 (.seq (.reg none [
 ro 62 (.load (some 4) (.t 11)),
 rm 63 2,
 rk 64 P3h [(.t 62),(.t 63)],
 rm 61 64,
 ro 65 (.ext 0 (.t 61)),
 ro 66 (.ext 1 (.t 61)),
 ro 12 (.alloc (.agg [(.v (.int .i64 0)),(.sl true []),(.sl true [])]) 3),
 rn (.store 3 (.t 12) (.t 65)),
 rm 9 66])
 (.seq (.seq (.reg none [
 rm 67 9,
 ro 68 (.bin .neq (.t 67) (ci 0))])
 (.cond (.t 68) (.seq (.reg none [
  ro 69 (.build (.agg [(.v (.int .i64 0)),(.sl true []),(.sl true [])]) [] []),
  rm 70 9,
  rn (.store 3 (.t 6) (.t 69)),
  rm 7 70])
 .ret) .skip))
 (.seq (.reg none [
 ro 72 (.load (some 3) (.t 10)),
 ro 73 (.load (some 3) (.t 12)),
 rm 74 2,
 rk 75 P3P [(.t 72),(.t 73),(.t 74)],
 rm 71 75,
 ro 76 (.ext 0 (.t 71)),
 ro 77 (.ext 1 (.t 71)),
 ro 13 (.alloc (.agg [(.v (.int .i64 0)),(.sl true []),(.sl true [])]) 3),
 rn (.store 3 (.t 13) (.t 76)),
 rm 9 77])
 (.seq (.seq (.reg none [
 rm 78 9,
 ro 79 (.bin .neq (.t 78) (ci 0))])
 (.cond (.t 79) (.seq (.reg none [
  ro 80 (.build (.agg [(.v (.int .i64 0)),(.sl true []),(.sl true [])]) [] []),
  rm 81 9,
  rn (.store 3 (.t 6) (.t 80)),
  rm 7 81])
 .ret) .skip))
 (.seq (.reg none [
 ro 82 (.load (some 3) (.t 13)),
 rk 83 P3O [(.t 82)],
 ro 84 (.ext 0 (.t 83)),
 ro 85 (.ext 1 (.t 83)),
 rn (.store 3 (.t 6) (.t 84)),
 rm 7 85])
 .ret)))))))))))))
def zDE:Det:=⟨0,[],[]⟩
def Z4V(kd:Kd)(p:Pat)(sg most:Int):Det×Int:=if (Z2K p sg).2=0 then Z9a kd (Z2K p sg).1 most else (zDE,(Z2K p sg).2)
def Zia(x:Det×Int)(f:Det→Det×Int):Det×Int:=if x.2=0 then f x.1 else (zDE,x.2)
def Z96(r:Rul)(sg most:Int):Det×Int :=
 if sg < 1∨200 < sg∨most < 1∨3000 < most then (zDE,1) else
  Zia (Z4V .tails r.before sg most) fun b=>Zia (Z4V .heads r.after sg most) fun a=>Zia (Z4j b a most) ZdP
theorem Z7n(d:Det):(Z0v d).solid=true:=rfl
theorem ZhZ{P:Program}{fn fk:FuncId}(p:Pat)(sg most:Int)(kd:Kd)(hn:Z0t P fn [Z1s p,Z06 sg] (Zbd (Z2K p sg)))
  (hk:Z0t P fk [Z0M (Z2K p sg).1,Z06 most] (Z3N (Z9a kd (Z2K p sg).1 most))) :
  AWb P 0 (Z89 fn) (Z2L [.c 8 (some 3),.t 9] (FzK (Z3N (Z4V kd p sg most)))) (Z53 [Z1s p,Z06 sg,Z06 most,.clo fk [] []]) S0:=by
 unfold Z4V;have hcp:=Z3M p;have hcn:=Zds (Z2K p sg);obtain⟨pk,ps,pg,pks⟩:=p;have hpp:AV.agg [.v (.int .i64 pk),Zdz ps,Z03 pg,.sl false (pks.map Z1s)]=Z1s (.mk pk ps pg pks):=by rw[Z0d];rfl
 have hpc:(Z1s (.mk pk ps pg pks)).cells=[.v (.int .i64 pk),Zdz ps,Z03 pg,.sl false (pks.map Z1s)]:=by rw[Z0d];rfl
 have hps:(Z1s (.mk pk ps pg pks)).solid=true:=by rw[Z0d];rfl
 generalize Z2K (.mk pk ps pg pks) sg=ne at *;obtain⟨n,e⟩:=ne;simp only[Zbd] at hn hcn;simp only at hk;simp[Z89,hpp,hpc,hps];refine Z0x.pure hn (Z01 hcp (Z01 (Z04 _) Z0a)) hcn ?_;have ec:(Z0M n).cells=[Z06 n.signs,Z0l n.by_,Z0l n.follow,Z03 n.last]:=rfl;have es:(Z0M n).solid=true:=rfl;have hae:AV.agg [.v (.int .i64 n.signs),Z0l n.by_,Z0l n.follow,Z03 n.last]=Z0M n:=rfl;by_cases h0:e=0
 ·subst h0
  have hcd:=Z3L (Z9a kd n most);generalize Z9a kd n most=r at *;obtain⟨d,f⟩:=r;simp only[Z3N] at hk hcd;simp[Z0b,ec,es,hae];refine Z0x.pure hk (Z01 (Z1J n) (Z01 (Z04 _) Z0a)) hcd ?_;simp[Z2L,evC,RV.ev,ldC,Z1b,Z0w,Z1t,Z7n];exact .closed _ hcd
 ·have h0':(e != 0)=true:=by simp[h0]
  simp[Z0b,ec,es,hae,h0,h0',Z2L,evC,RV.ev,ldC,Z1b,Z0w,Z1t];exact Z2F _ _
theorem Z8d{num:Int}{cut:Bool}{b a:Pat}{pos:Int}{bk:Int}{bs:List Rg}{bg:List Int}{bks:List Pat}{ak:Int}{as_:List Rg}{ag:List Int}{aks:List Pat}(hb:b=.mk bk bs bg bks)(ha:a=.mk ak as_ ag aks) :
  Z5u ⟨num,cut,b,a,pos⟩=.agg [.v (.int .i64 num),.v (.bool cut),.v (.int .i64 bk),Zdz bs,Z03 bg,.sl false (bks.map Z1s),.v (.int .i64 ak),Zdz as_,Z03 ag,.sl false (aks.map Z1s),.v (.int .i64 pos)]:=by
 subst hb;subst ha;unfold Z5u;simp[Z0d,AV.cells,Z06,Z1n]
theorem Z9B(p:Pat):∃k s g ks,p=.mk k s g ks∧AV.agg [.v (.int .i64 k),Zdz s,Z03 g,.sl false (ks.map Z1s)]=Z1s p:=by
 obtain⟨k,s,g,ks⟩:=p;exact⟨k,s,g,ks,rfl,by rw[Z0d];rfl⟩
theorem Zb1(d:Det):AV.agg [.v (.int .i64 d.signs),Z0l d.next,Z2E d.fin]=Z0v d:=rfl
theorem Zhx{P:Program}{fs ft fh fm fl:FuncId}(r:Rul)(sg most:Int)
  (h1:Z0t P fs [Z1s r.before,Z06 sg,Z06 most,.clo ft [] []] (Z3N (Z4V .tails r.before sg most)))
  (h2:Z0t P fs [Z1s r.after,Z06 sg,Z06 most,.clo fh [] []] (Z3N (Z4V .heads r.after sg most)))
  (h3:(Z4V .tails r.before sg most).2=0→(Z4V .heads r.after sg most).2=0→Z0t P fm [Z0v (Z4V .tails r.before sg most).1,Z0v (Z4V .heads r.after sg most).1,Z06 most] (Z3N (Z4j (Z4V .tails r.before sg most).1 (Z4V .heads r.after sg most).1 most)))
  (h4:(Z4V .tails r.before sg most).2=0→(Z4V .heads r.after sg most).2=0→(Z4j (Z4V .tails r.before sg most).1 (Z4V .heads r.after sg most).1 most).2=0 →
   Z0t P fl [Z0v (Z4j (Z4V .tails r.before sg most).1 (Z4V .heads r.after sg most).1 most).1] (Z3N (ZdP (Z4j (Z4V .tails r.before sg most).1 (Z4V .heads r.after sg most).1 most).1))) :
  AWb P 0 (Z6D fs ft fh fm fl) (Z2L [.c 6 (some 3),.t 7] (FzK (Z3N (Z96 r sg most)))) (Z53 [Z5u r,Z06 sg,Z06 most]) S0:=by
 obtain⟨num,cut,b,a,pos⟩:=r;simp only at h1 h2 h3 h4;obtain⟨bk,bs,bg,bks,hb,hpb⟩:=Z9B b;obtain⟨ak,as_,ag,aks,ha,hpa⟩:=Z9B a;have hcl:=Z8d (num:=num) (cut:=cut) (pos:=pos) hb ha;have hcb:=Z3M b;have hca:=Z3M a;unfold Z96;rw[hcl];by_cases g1:sg < 1
 ·rw[if_pos (.inl g1)]
  simp[Z6D,g1,Z2L,evC,RV.ev,ldC,Z1b,Z0w,Z1t,Z0b];exact Z2F _ _
 by_cases g2:200 < sg
 ·rw[if_pos (.inr (.inl g2))]
  simp[Z6D,g1,g2,Z2L,evC,RV.ev,ldC,Z1b,Z0w,Z1t,Z0b];exact Z2F _ _
 by_cases g3:most < 1
 ·rw[if_pos (.inr (.inr (.inl g3)))]
  simp[Z6D,g1,g2,g3,Z2L,evC,RV.ev,ldC,Z1b,Z0w,Z1t,Z0b];exact Z2F _ _
 by_cases g4:3000 < most
 ·rw[if_pos (.inr (.inr (.inr g4)))]
  simp[Z6D,g1,g2,g3,g4,Z2L,evC,RV.ev,ldC,Z1b,Z0w,Z1t,Z0b];exact Z2F _ _
 rw[if_neg (by omega)];have k1:=Z3L (Z4V .tails b sg most);have k2:=Z3L (Z4V .heads a sg most);generalize Z4V .tails b sg most=x at *;generalize Z4V .heads a sg most=y at *;obtain⟨xd,xe⟩:=x;obtain⟨yd,ye⟩:=y;simp only[Z3N] at h1 h2 k1 k2;simp only at h3 h4;unfold Zia;simp only;simp[Z6D,g1,g2,g3,g4,Z0b,hpb];refine Z0x.pure h1 (Z01 hcb (Z01 (Z04 _) (Z01 (Z04 _) (Z01 (.clo _ _ _ Z0a Z0a) Z0a)))) k1 ?_;by_cases hx:xe=0;rotate_left
 ·rw[if_neg hx]
  have hEE:(xe != 0)=true:=by simp[hx]
  simp[hx,hEE,Z2L,evC,RV.ev,ldC,Z1b,Z0w,Z1t,Z0b];exact Z2F _ _
 subst hx;rw[if_pos rfl];simp[Z0b,hpa,Z7n,Zb1];refine Z0x.pure h2 (Z01 hca (Z01 (Z04 _) (Z01 (Z04 _) (Z01 (.clo _ _ _ Z0a Z0a) Z0a)))) k2 ?_;by_cases hy:ye=0;rotate_left
 ·rw[if_neg hy]
  have hEE:(ye != 0)=true:=by simp[hy]
  simp[hy,hEE,Z2L,evC,RV.ev,ldC,Z1b,Z0w,Z1t,Z0b];exact Z2F _ _
 subst hy;rw[if_pos rfl];have h3:=h3 (by trivial) (by trivial);have h4:=h4 (by trivial) (by trivial);have k3:=Z3L (Z4j xd yd most);generalize Z4j xd yd most=z at *;obtain⟨zd,ze⟩:=z;simp only[Z3N] at h3 k3;simp only at h4;simp only;simp[Z0b,Z7n,Zb1];refine Z0x.pure h3 (Z01 (Z0e _) (Z01 (Z0e _) (Z01 (Z04 _) Z0a))) k3 ?_;by_cases hz:ze=0;rotate_left
 ·rw[if_neg hz]
  have hEE:(ze != 0)=true:=by simp[hz]
  simp[hz,hEE,Z2L,evC,RV.ev,ldC,Z1b,Z0w,Z1t,Z0b];exact Z2F _ _
 subst hz;rw[if_pos rfl];have h4:=h4 rfl;have k4:=Z3L (ZdP zd);generalize ZdP zd=w at *;obtain⟨wd,we⟩:=w;simp only[Z3N] at h4 k4;simp[Z0b,Z7n,Zb1];refine Z0x.pure h4 (Z01 (Z0e _) Z0a) k4 ?_;simp[Z2L,evC,RV.ev,ldC,Z1b,Z7n,Zb1,Z3N];exact .closed _ k4
theorem ZlS{P:Program}{fn ft fh fm fl:FuncId}(r:Rul)(sg most:Int)
  (hnb:Z0t P fn [Z1s r.before,Z06 sg] (Zbd (Z2K r.before sg))) (hna:Z0t P fn [Z1s r.after,Z06 sg] (Zbd (Z2K r.after sg)))
  (h1:(Z2K r.before sg).2=0→Z0t P ft [Z0M (Z2K r.before sg).1,Z06 most] (Z3N (Z9a .tails (Z2K r.before sg).1 most)))
  (h2:(Z2K r.after sg).2=0→Z0t P fh [Z0M (Z2K r.after sg).1,Z06 most] (Z3N (Z9a .heads (Z2K r.after sg).1 most)))
  (h3:(Z4V .tails r.before sg most).2=0→(Z4V .heads r.after sg most).2=0→Z0t P fm [Z0v (Z4V .tails r.before sg most).1,Z0v (Z4V .heads r.after sg most).1,Z06 most] (Z3N (Z4j (Z4V .tails r.before sg most).1 (Z4V .heads r.after sg most).1 most)))
  (h4:(Z4V .tails r.before sg most).2=0→(Z4V .heads r.after sg most).2=0→(Z4j (Z4V .tails r.before sg most).1 (Z4V .heads r.after sg most).1 most).2=0 →
   Z0t P fl [Z0v (Z4j (Z4V .tails r.before sg most).1 (Z4V .heads r.after sg most).1 most).1] (Z3N (ZdP (Z4j (Z4V .tails r.before sg most).1 (Z4V .heads r.after sg most).1 most).1))) :
  AWb P 0 (Z3I fn ft fh fm fl) (Z2L [.c 6 (some 3),.t 7] (FzK (Z3N (Z96 r sg most)))) (Z53 [Z5u r,Z06 sg,Z06 most]) S0:=by
 obtain⟨num,cut,b,a,pos⟩:=r;simp only at hnb hna h1 h2 h3 h4;obtain⟨bk,bs,bg,bks,hb,hpb⟩:=Z9B b;obtain⟨ak,as_,ag,aks,ha,hpa⟩:=Z9B a;have hcl:=Z8d (num:=num) (cut:=cut) (pos:=pos) hb ha;have hcb:=Z3M b;have hca:=Z3M a;unfold Z96;rw[hcl];by_cases g1:sg < 1
 ·rw[if_pos (.inl g1)]
  simp[Z3I,g1,Z2L,evC,RV.ev,ldC,Z1b,Z0w,Z1t,Z0b];exact Z2F _ _
 by_cases g2:200 < sg
 ·rw[if_pos (.inr (.inl g2))]
  simp[Z3I,g1,g2,Z2L,evC,RV.ev,ldC,Z1b,Z0w,Z1t,Z0b];exact Z2F _ _
 by_cases g3:most < 1
 ·rw[if_pos (.inr (.inr (.inl g3)))]
  simp[Z3I,g1,g2,g3,Z2L,evC,RV.ev,ldC,Z1b,Z0w,Z1t,Z0b];exact Z2F _ _
 by_cases g4:3000 < most
 ·rw[if_pos (.inr (.inr (.inr g4)))]
  simp[Z3I,g1,g2,g3,g4,Z2L,evC,RV.ev,ldC,Z1b,Z0w,Z1t,Z0b];exact Z2F _ _
 rw[if_neg (by omega)];have k1:=Z3L (Z9a .tails (Z2K b sg).1 most);have k2:=Z3L (Z9a .heads (Z2K a sg).1 most);have kb:=Zds (Z2K b sg);have ka:=Zds (Z2K a sg);unfold Z4V at h3 h4 ⊢;generalize Z9a .tails (Z2K b sg).1 most=x at *;generalize Z9a .heads (Z2K a sg).1 most=y at *;generalize Z2K b sg=u at *;generalize Z2K a sg=v at *;obtain⟨xd,xe⟩:=x;obtain⟨yd,ye⟩:=y;obtain⟨un,ue⟩:=u;obtain⟨vn,ve⟩:=v;simp only[Z3N] at h1 h2 k1 k2;simp only[Zbd] at hnb hna ka kb;simp only at h3 h4;unfold Zia;simp only;have hau:AV.agg [.v (.int .i64 un.signs),Z0l un.by_,Z0l un.follow,Z03 un.last]=Z0M un:=rfl;have hav:AV.agg [.v (.int .i64 vn.signs),Z0l vn.by_,Z0l vn.follow,Z03 vn.last]=Z0M vn:=rfl;have hcu:(Z0M un).cells=[.v (.int .i64 un.signs),Z0l un.by_,Z0l un.follow,Z03 un.last]:=rfl;have hcv:(Z0M vn).cells=[.v (.int .i64 vn.signs),Z0l vn.by_,Z0l vn.follow,Z03 vn.last]:=rfl;have hsu:(Z0M un).solid=true:=rfl;have hsv:(Z0M vn).solid=true:=rfl;simp[Z3I,g1,g2,g3,g4,Z0b,hpb];refine Z0x.pure hnb (Z01 hcb (Z01 (Z04 _) Z0a)) kb ?_;by_cases hu:ue=0;rotate_left
 ·simp only[hu,if_false]
  have hEE:(ue != 0)=true:=by simp[hu]
  simp[hu,hEE,Z2L,evC,RV.ev,ldC,Z1b,Z0w,Z1t,Z0b];exact Z2F _ _
 subst hu;simp only[if_true] at h1 h3 h4 ⊢;have h1:=h1 trivial;simp[Z0b,hau,hcu,hsu];refine Z0x.pure h1 (Z01 (Z1J _) (Z01 (Z04 _) Z0a)) k1 ?_;by_cases hx:xe=0;rotate_left
 ·rw[if_neg hx]
  have hEE:(xe != 0)=true:=by simp[hx]
  simp[hx,hEE,Z2L,evC,RV.ev,ldC,Z1b,Z0w,Z1t,Z0b];exact Z2F _ _
 subst hx;rw[if_pos rfl];simp[Z0b,hpa,Z7n,Zb1];refine Z0x.pure hna (Z01 hca (Z01 (Z04 _) Z0a)) ka ?_;by_cases hv:ve=0;rotate_left
 ·simp only[hv,if_false]
  have hEE:(ve != 0)=true:=by simp[hv]
  simp[hv,hEE,Z2L,evC,RV.ev,ldC,Z1b,Z0w,Z1t,Z0b];exact Z2F _ _
 subst hv;simp only[if_true] at h2 h3 h4 ⊢;have h2:=h2 trivial;simp[Z0b,hav,hcv,hsv,Z7n,Zb1];refine Z0x.pure h2 (Z01 (Z1J _) (Z01 (Z04 _) Z0a)) k2 ?_;by_cases hy:ye=0;rotate_left
 ·rw[if_neg hy]
  have hEE:(ye != 0)=true:=by simp[hy]
  simp[hy,hEE,Z2L,evC,RV.ev,ldC,Z1b,Z0w,Z1t,Z0b];exact Z2F _ _
 subst hy;rw[if_pos rfl];have h3:=h3 (by trivial) (by trivial);have h4:=h4 (by trivial) (by trivial);have k3:=Z3L (Z4j xd yd most);generalize Z4j xd yd most=z at *;obtain⟨zd,ze⟩:=z;simp only[Z3N] at h3 k3;simp only at h4;simp only;simp[Z0b,Z7n,Zb1];refine Z0x.pure h3 (Z01 (Z0e _) (Z01 (Z0e _) (Z01 (Z04 _) Z0a))) k3 ?_;by_cases hz:ze=0;rotate_left
 ·rw[if_neg hz]
  have hEE:(ze != 0)=true:=by simp[hz]
  simp[hz,hEE,Z2L,evC,RV.ev,ldC,Z1b,Z0w,Z1t,Z0b];exact Z2F _ _
 subst hz;rw[if_pos rfl];have h4:=h4 rfl;have k4:=Z3L (ZdP zd);generalize ZdP zd=w at *;obtain⟨wd,we⟩:=w;simp only[Z3N] at h4 k4;simp[Z0b,Z7n,Zb1];refine Z0x.pure h4 (Z01 (Z0e _) Z0a) k4 ?_;simp[Z2L,evC,RV.ev,ldC,Z1b,Z7n,Zb1,Z3N];exact .closed _ k4
end Go.Rf
namespace Go.Rf
def Z7G:AC :=
 (.seq (.reg none [
 ro 2 (.box 3 (.t 0)),
 ro 4 (.mv (.c (.v (.bool false))))])
 (.seq (.reg none [
 ro 7 (.fieldA 1 (.t 2)),
 ro 8 (.load none (.t 7)),
 ro 9 (.len (.t 8)),
 ro 10 (.fieldA 2 (.t 2)),
 ro 11 (.load none (.t 10)),
 ro 12 (.len (.t 11)),
 ro 13 (.bin .add (.t 9) (.t 12)),
 rm 5 13])
 (.seq (.seq (.reg none [
 ro 6 (.mv (ci 0))])
 (.block 0 (.loop (.seq (.seq (.reg none [
  rm 14 6,
  ro 15 (.fieldA 1 (.t 2)),
  ro 16 (.load none (.t 15)),
  ro 17 (.len (.t 16)),
  ro 18 (.bin .lss (.t 14) (.t 17)),
  rm 19 18,
  rg 20 19 true (.mv (.t 5)),
  rg 21 19 true (.mv (.t 1)),
  rg 22 19 true (.bin .leq (.t 20) (.t 21)),
  ro 23 (.pick (.t 19) (.t 22) (.c (.v (.bool false))))])
  (.cond (.t 23) .skip (.exit 0)))
  (.seq (.block 1 (.reg none [
   rm 26 5,
   ro 27 (.fieldA 1 (.t 2)),
   ro 28 (.load none (.t 27)),
   rm 29 6,
   ro 30 (.idxA 1 (.t 28) (.t 29)),
   ro 31 (.load none (.t 30)),
   ro 32 (.len (.t 31)),
   ro 33 (.bin .add (.t 26) (.t 32)),
   rm 5 33]))
  (.reg none [
  rm 24 6,
  ro 25 (.bin .add (.t 24) (ci 1)),
  rm 6 25]))))))
 (.seq (.reg none [
 rm 34 5,
 rm 35 1,
 ro 36 (.bin .gtr (.t 34) (.t 35)),
 rm 4 36])
 .ret))))
structure Gr where
 next:List (List Int)
 fin:List Bool
def Gr.n(g:Gr):Nat:=g.next.length
def Gr.edge(g:Gr)(s t:Nat):Prop:=∃row,g.next[s]? = some row∧(t:Int)∈row
structure ZwT(g:Gr):Prop where
 fin:g.fin.length=g.next.length
 n:g.next.length≤9000
 rows:∀r∈g.next,r.length≤400
 at_:∀r∈g.next,∀t∈r,t = -1∨(0≤t∧t < g.next.length)
def rd(l:List Int)(s:Nat):Int:=l.getD s (-1)
end Go.Rf
namespace Go.Rf
attribute [local simp] Z4c Z48 Z2M Z2a Z2P Z2R Z2Q Z4a Z4b Z1e Z16 Z0c Z0B Z0q Z08 Z0o Z0h Z09 Z0p Z0i Z0Y Z0j Z0z Z0K Z0k Z0J Z1W Z3U Z0X Z25 Z22 Z24 Z23 Z26 Z1j Z0D Z11 Z12 Z1T Z1U Z1V Z0H Z0I Z1i Z0r Z0W Z20 Z1X Z1Z Z1Y Z21 Z1k Z13 Z1g Z0U Z0V Z0C Z1h Z0P Z1a Z1f Z14 Z1l ex Z00 Z0R Z6K Z6P Z0f Z0g Z0A Z2k Z1d Z10 Z0y Z0F Z0G Z0E Z0s Z0Z Z5y Z0O Z37 Z1c Z1O Z1R Z3s Z0b Z1q Z19 Z0Q Z1F Z3S Z1P Z6A Z3C Z6z Z3w Z2Y Z3t Z6w Z3D Z51 AV.solid S0 Z06 Z1n
theorem Z1Q.gr{d:Det}(h:Z1Q d):ZwT ⟨d.next,d.fin⟩:=by
 refine⟨h.fin,by have:=h.n2;show d.next.length≤9000;omega,fun r hr=>?_,fun r hr t ht=>.inr ?_⟩
 ·change r∈d.next at hr
  obtain⟨i,hi,rfl⟩:=List.mem_iff_getElem.mp hr;have:=h.row i hi;have:=h.s2;omega
 ·change r∈d.next at hr
  obtain⟨i,hi,rfl⟩:=List.mem_iff_getElem.mp hr;obtain⟨j,hj,rfl⟩:=List.mem_iff_getElem.mp ht;exact h.at_ i hi j hj
end Go.Rf
namespace Go.Rf
def Zwm(ph sign:Nat)(to:Int):Int:=if sign % 2=0 then (if ph=0 then to*3+1 else to*3+ph) else if ph=1 then to*3+2 else -1
def Zxb(ph:Nat)(l:List Int):List Int:=l.mapIdx fun i t=>Zwm ph i t
def Zwl(d:Det)(i:Nat):List Int:=Zxb (i % 3) (d.next.getD (i / 3) [])
def Zwk(d:Det)(i:Nat):Bool:=decide (i % 3=2) && d.fin.getD (i / 3) false
def pg(d:Det):Gr:=⟨(List.range (3*d.next.length)).map (Zwl d),(List.range (3*d.next.length)).map (Zwk d)⟩
theorem Zih(q:Nat):∀(hs:List Int) (i:Nat),wrL ((q+1:Nat):Int) (i+1) hs=wrL (q:Int) i hs
 | [],i=>rfl
 | h::hs,i=>by
  have e:Z73 ((q+1:Nat):Int) (i+1)=Z73 (q:Int) i:=by
   unfold Z73;by_cases hc:(i:Int)=q
   ·rw[if_pos hc,if_pos (by omega)]
   ·rw[if_neg hc,if_neg (by omega)]
  simp only[wrL];rw[Zih q hs (i+1),e]
theorem Zl0:∀(hs:List Int) (i:Nat),wrL 0 (i+1) hs=hs.map (2 * ·)
 | [],i=>rfl
 | h::hs,i=>by
  have e:Z73 0 (i+1)=0:=by
   unfold Z73;rw[if_neg (by omega)]
  simp only[wrL,List.map_cons];rw[Zl0 hs (i+1),e];congr 1;omega
end Go.Rf
namespace Go.Rf
open Go.RowKit
def XEq(a b:Det)(i k:Nat):Prop:=∀l,Vl a l→Z6n a (runT a i l)=Z6n b (runT b k l)
theorem XEq.step{a b:Det}{i k:Nat}(h:XEq a b i k){s:Int}(h0:0≤s)(hs:s < a.signs):XEq a b (Z2o a i s) (Z2o b k s):=fun l hl=>by
 have:=h (s::l) (fun x hx=>by
  rcases List.mem_cons.mp hx with rfl | hx
  ·exact⟨h0,hs⟩
  ·exact hl x hx)
 exact this
theorem XEq.eqv{a b:Det}{i k i' k':Nat}(hs:a.signs=b.signs)(h:XEq a b i k)(h':XEq a b i' k'):Eqv a i i'↔Eqv b k k':=by
 constructor
 ·intro he l hl
  have hl':Vl a l:=fun x hx=>by rw[hs];exact hl x hx
  rw[←h l hl',←h' l hl'];exact he l hl'
 ·intro he l hl
  have hl':Vl b l:=fun x hx=>by rw[←hs];exact hl x hx
  rw[h l hl,h' l hl];exact he l hl'
theorem Zhl:∀{xs ys:List Int} {x y:Int},xs.length=ys.length→(∀j (h1:j < xs.length) (h2:j < ys.length),xs[j]=x↔ys[j]=y)→(x∈xs↔y∈ys)∧xs.idxOf x=ys.idxOf y
 | [],[],_,_,_,_=>by simp
 | [],_::_,_,_,h,_=>by simp at h
 | _::_,[],_,_,h,_=>by simp at h
 | p::xs,q::ys,x,y,hl,h=>by
  obtain⟨i1,i2⟩:=Zhl (xs:=xs) (ys:=ys) (x:=x) (y:=y) (by simpa using hl) (fun j h1 h2=>by
   have:=h (j+1) (by simpa using h1) (by simpa using h2);simpa using this)
  have h0:=h 0 (by simp) (by simp);simp only[List.getElem_cons_zero] at h0;constructor
  ·simp only[List.mem_cons,i1]
   exact⟨fun e=>e.elim (fun e=>.inl (h0.mp e.symm).symm) .inr,fun e=>e.elim (fun e=>.inl (h0.mpr e.symm).symm) .inr⟩
  ·rw[List.idxOf_cons,List.idxOf_cons,i2]
   by_cases e:p=x
   ·have e2:=h0.mp e
    rw[beq_iff_eq.mpr e,beq_iff_eq.mpr e2]
   ·have e2:¬q=y:=fun e2=>e (h0.mpr e2)
    rw[beq_eq_false_iff_ne.mpr e,beq_eq_false_iff_ne.mpr e2]
structure Par(a b:Det)(L M:List Nat):Prop where
 len:L.length=M.length
 at_:∀j (h1:j < L.length) (h2:j < M.length),L[j] < a.next.length∧M[j] < b.next.length∧XEq a b L[j] M[j]
theorem Zt8{a b:Det}(hs:a.signs=b.signs){ca cb:List Int}(Ca:Zl4 a ca)(Cb:Zl4 b cb){L M:List Nat}(h:Par a b L M){t u:Nat}(ht:t < a.next.length)(hu:u < b.next.length)(he:XEq a b t u) :
  (ZbW ca L t).2=(ZbW cb M u).2∧Par a b (ZbW ca L t).1 (ZbW cb M u).1:=by
 obtain⟨i1,i2⟩:=Zhl (xs:=L.map (Z5I ca)) (ys:=M.map (Z5I cb)) (x:=Z5I ca t) (y:=Z5I cb u) (by simpa using h.len) (fun j h1 h2=>by
  simp only[List.length_map] at h1 h2;simp only[List.getElem_map];obtain⟨k1,k2,k3⟩:=h.at_ j h1 h2
  exact((Ca.eq _ _ k1 ht).trans (k3.eqv hs he)).trans (Cb.eq _ _ k2 hu).symm)
 unfold ZbW;by_cases hm:Z5I ca t∈L.map (Z5I ca)
 ·rw[if_pos hm,if_pos (i1.mp hm)]
  exact⟨i2,h⟩
 ·rw[if_neg hm,if_neg (fun e=>hm (i1.mpr e))]
  refine⟨h.len,by simp[h.len],fun j h1 h2=>?_⟩;by_cases hj:j < L.length
  ·have hj2:j < M.length:=by rw[←h.len];exact hj
   rw[List.getElem_append_left hj,List.getElem_append_left hj2];exact h.at_ j hj hj2
  ·simp only[List.length_append,List.length_singleton] at h1 h2
   have hjL:j=L.length:=by omega
   subst hjL;have hl:=h.len;rw[List.getElem_append_right (by omega),List.getElem_append_right (by omega)];simp only[List.getElem_singleton];exact⟨ht,hu,he⟩
theorem Zop{a b:Det}(hs:a.signs=b.signs){ca cb:List Int}(Ca:Zl4 a ca)(Cb:Zl4 b cb){L M:List Nat}(h:Par a b L M){t u:Nat→Nat}:∀k:Nat,(∀s,s < k→t s < a.next.length∧u s < b.next.length∧XEq a b (t s) (u s)) →
  (Z9e ca t k L).2=(Z9e cb u k M).2∧Par a b (Z9e ca t k L).1 (Z9e cb u k M).1
 | 0,_=>⟨rfl,h⟩
 | k+1,hk=>by
  obtain⟨i1,i2⟩:=Zop hs Ca Cb h (t:=t) (u:=u) k (fun s hs=>hk s (by omega));obtain⟨h1,h2,h3⟩:=hk k (by omega);obtain⟨j1,j2⟩:=Zt8 hs Ca Cb i2 h1 h2 h3;simp only[Z9e];exact⟨by rw[i1,j1],j2⟩
theorem Zrr{a b:Det}(Ra:Z1Q a)(Rb:Z1Q b)(hs:a.signs=b.signs){ca cb:List Int}(Ca:Zl4 a ca)(Cb:Zl4 b cb)(h0:XEq a b 0 0):∀i,(lsF a ca i).2=(lsF b cb i).2∧Par a b (lsF a ca i).1 (lsF b cb i).1
 | 0=>by
  refine⟨rfl,rfl,fun j h1 h2=>?_⟩;have hj:j=0:=by simp[lsF] at h1;omega
  subst hj;exact⟨by have:=Ra.n1;simp[lsF];omega,by have:=Rb.n1;simp[lsF];omega,h0⟩
 | i+1=>by
  obtain⟨i1,i2⟩:=Zrr Ra Rb hs Ca Cb h0 i;have hl:=i2.len;simp only[lsF,lnx];by_cases hi:i < (lsF a ca i).1.length
  ·have hi2:i < (lsF b cb i).1.length:=by omega
   rw[List.getElem?_eq_getElem hi,List.getElem?_eq_getElem hi2];simp only;obtain⟨k1,k2,k3⟩:=i2.at_ i hi hi2
   obtain⟨r1,r2⟩:=Zop hs Ca Cb i2 (t:=fun s=>Z2o a ((lsF a ca i).1[i]) s) (u:=fun s=>Z2o b ((lsF b cb i).1[i]) s) a.signs.toNat (fun s hs2 =>
    ⟨Z5Y Ra k1 (by omega) (by omega),Z5Y Rb k2 (by omega) (by omega),k3.step (by omega) (by omega)⟩)
   have hf:Z6n a ((lsF a ca i).1[i])=Z6n b ((lsF b cb i).1[i]):=k3 [] (fun s hs=>by simp at hs);have e1:(lsF a ca i).2.1=(lsF b cb i).2.1:=by rw[i1]
   have e2:(lsF a ca i).2.2=(lsF b cb i).2.2:=by rw[i1]
   rw[←hs];exact⟨by rw[r1,hf,e1,e2],r2⟩
  ·rw[List.getElem?_eq_none (by omega),List.getElem?_eq_none (by omega)]
   exact⟨i1,i2⟩
theorem Zut{a b:Det}(Ra:Z1Q a)(Rb:Z1Q b)(hs:a.signs=b.signs)(h0:XEq a b 0 0):Z5j a=Z5j b:=by
 have P:=Zrr Ra Rb hs (Z6y Ra) (Z6y Rb) h0;obtain⟨k,e1,e2,e3,_⟩:=Z6B Ra;obtain⟨m,f1,f2,f3,_⟩:=Z6B Rb
 have hkm:k=m:=by
  rcases Nat.lt_trichotomy k m with h | h | h
  ·have:=f3 k h
   have hl:=(P k).2.len;rw[←e1] at hl;omega
  ·exact h
  ·have:=e3 m h
   have hl:=(P m).2.len;rw[←f1] at hl;omega
 subst hkm;have:(Z4E a).2=(Z4E b).2:=by rw[e1,f1];exact(P k).1
 unfold Z5j;rw[hs,this]
theorem Zho{d:Det}(R:Z1Q d):XEq (Z5j d) d 0 0:=by
 obtain⟨k,h1,h2,h3,o⟩:=Z6B R;intro l hl;obtain⟨q',_,_,h⟩:=(Zbi R).2.2 l 0 0 o.zero hl;exact h
theorem ZlE{d:Det}(R:Z1Q d):Z5j (Z5j d)=Z5j d:=Zut (Zbi R).1 R rfl (Zho R)
theorem Zq5{d:Det}(R:Z1Q d):(Z5j d).next.length≤d.next.length:=by
 obtain⟨k,h1,h2,h3,o⟩:=Z6B R;rw[(Zbi R).2.1];exact o.len
theorem ZeG{d:Det}(R:Z1Q d)(l:List Int):Zmv d l=true↔Vl d l∧Z6n d (runT d 0 l)=true:=by
 have hr:Z2r d=true:=(Z5v d).mpr R;unfold Zmv ZvA;rw[if_pos hr];by_cases hl:Vl d l
 ·rw[ZhR l 0 hl]
  constructor
  ·intro h;exact⟨hl,h⟩
  ·intro h;exact h.2
 ·rw[Ze8 l 0 hl]
  constructor
  ·intro h;cases h
  ·intro h;exact(hl h.1).elim
def Rng(n:Int)(l:List Int):Prop:=∀x∈l,0≤x∧x < n
theorem Rng.take{n:Int}{l:List Int}(h:Rng n l)(k:Nat):Rng n (l.take k):=fun x hx=>h x (List.mem_of_mem_take hx)
theorem Rng.drop{n:Int}{l:List Int}(h:Rng n l)(k:Nat):Rng n (l.drop k):=fun x hx=>h x (List.mem_of_mem_drop hx)
structure ZaY(d:Det)(n:Int)(F:List Int→Nat→Bool):Prop where
 R:Z1Q d
 s:d.signs=2*n
 acc:∀w,Vl d w→(Z6n d (runT d 0 w)=true↔∃l p,Rng n l∧1≤p∧p < l.length∧w=wrL (p:Nat) 0 l∧F l p=true)
theorem Zve{l m:List Int}{p q:Nat}(hp:p < l.length)(h:wrL (p:Nat) 0 l=wrL (q:Nat) 0 m):l=m∧p=q:=by
 have hl:l.length=m.length:=by have:=congrArg List.length h;rwa[Z5x,Z5x] at this
 have key:∀k (h1:k < l.length) (h2:k < m.length),2*l[k]+Z73 p k=2*m[k]+Z73 q k:=by
  intro k h1 h2;have e1:=Zej (p:Int) l 0 k h1 (by rw[Z5x];exact h1);have e2:=Zej (q:Int) m 0 k h2 (by rw[Z5x];exact h2);have:(wrL (p:Int) 0 l)[k]'(by rw[Z5x];exact h1)=(wrL (q:Int) 0 m)[k]'(by rw[Z5x];exact h2):=by simp only[h]
  rw[e1,e2] at this;simpa using this
 have one:∀(r k:Nat),Z73 (r:Int) k=0∨Z73 (r:Int) k=1:=fun r k=>by unfold Z73;split<;>simp
 refine⟨List.ext_getElem hl fun k h1 h2=>?_,?_⟩
 ·have:=key k h1 h2
  rcases one p k with a | a<;>rcases one q k with b | b<;>rw[a,b] at this<;>omega
 ·have:=key p hp (by omega)
  have hpp:Z73 (p:Int) p=1:=by simp[Z73]
  rw[hpp] at this;rcases one q p with b | b
  ·rw[b] at this;omega
  ·unfold Z73 at b
   split at b
   ·omega
   ·omega
def Z8A(l:List Int):List Int:=l.map (2 * ·)
theorem Zgy:∀(l:List Int) (p:Nat) (h:p < l.length),wrL (p:Nat) 0 l=Z8A (l.take p)++(2*l[p]+1)::Z8A (l.drop (p+1))
 | [],p,h=>by simp at h
 | x::l,0,h=>by
  have e0:((0:Nat):Int)=0:=rfl;rw[e0];have e1:Z73 0 0=1:=by simp[Z73]
  have e2:wrL 0 0 (x::l)=(2*x+Z73 0 0)::wrL 0 1 l:=rfl;rw[e2,e1,Zl0 l 0];simp[Z8A]
 | x::l,p+1,h=>by
  have:=Zgy l p (by simpa using h);simp only[wrL];have hs:=Zih p l 0;have h0:Z73 ((p+1:Nat):Int) 0=0:=by unfold Z73;rw[if_neg (by omega)]
  rw[hs,h0,this];simp[Z8A]
section
variable{b a:Det}
theorem Zsm{ph:Int}(hp:ph=0∨ph=1)(q:Nat)(y:Nat):Z5X b a (ph,(q:Int)) (2*y)=(1,(Z2o b q (y:Int):Int)):=by
 unfold Z5X;rw[if_neg (by omega),if_pos hp];have:2*y / 2=y:=by omega
 rw[this];rfl
theorem Zoe(ph:Int)(q y:Nat):Z5X b a (ph,(q:Int)) (2*y+1)=if ph=1∧Z6n b q=true then (2,(Z2o a 0 (y:Int):Int)) else (3,0):=by
 unfold Z5X;rw[if_pos (by omega)];have:(2*y+1) / 2=y:=by omega
 rw[this];rfl
theorem Zum(w:List Int):w.foldl (fun x s=>Z5X b a x s.toNat) (3,0)=(3,0):=by
 induction w with
 | nil=>rfl
 | cons s w ih =>
  rw[List.foldl_cons]
  have:Z5X b a (3,0) s.toNat=(3,0):=by
   unfold Z5X;split
   ·rw[if_neg (by simp)]
   ·rw[if_neg (by simp),if_neg (by simp)]
  rw[this];exact ih
theorem ZnK{x:Int}(h:0≤x):∃y:Nat,x=2*y∨x=2*y+1:=⟨(x / 2).toNat,by omega⟩
theorem Zul:∀(w:List Int) (q:Nat),(∀x∈w,0≤x)→(Zcy a (w.foldl (fun x s=>Z5X b a x s.toNat) (2,(q:Int)))=true↔∃v,w=Z8A v∧Z6n a (runT a q v)=true)
 | [],q,_=>by
  constructor
  ·intro h;exact⟨[],rfl,by simpa[Zcy,runT] using h⟩
  ·rintro⟨v,h1,h2⟩
   have:v=[]:=by cases v with | nil=>rfl | cons _ _=>simp[Z8A] at h1
   subst this;simpa[Zcy,runT] using h2
 | x::w,q,hw=>by
  rw[List.foldl_cons];obtain⟨y,hy | hy⟩:=ZnK (hw x (by simp))
  ·subst hy
   have e:(2*(y:Int)).toNat=2*y:=by omega
   have hn:Z5X b a (2,(q:Int)) (2*y)=(2,(Z2o a q (y:Int):Int)):=by
    unfold Z5X;rw[if_neg (by omega),if_neg (by simp),if_pos rfl];have:2*y / 2=y:=by omega
    rw[this];rfl
   rw[e,hn,Zul w _ (fun z hz=>hw z (by simp[hz]))];constructor
   ·rintro⟨v,h1,h2⟩
    exact⟨(y:Int)::v,by simp[Z8A,h1],h2⟩
   ·rintro⟨v,h1,h2⟩
    cases v with
    | nil=>simp[Z8A] at h1
    | cons z v =>
     simp only[Z8A,List.map_cons,List.cons.injEq] at h1;have:z=y:=by omega
     subst this;exact⟨v,h1.2,h2⟩
  ·subst hy
   have e:(2*(y:Int)+1).toNat=2*y+1:=by omega
   have hn:Z5X b a (2,(q:Int)) (2*y+1)=(3,0):=by rw[Zoe,if_neg (by simp)]
   rw[e,hn,Zum];constructor
   ·intro h;simp[Zcy] at h
   ·rintro⟨v,h1,_⟩
    cases v with
    | nil=>simp[Z8A] at h1
    | cons z v=>simp only[Z8A,List.map_cons,List.cons.injEq] at h1;omega
theorem Zuk:∀(w:List Int) (ph:Int) (q:Nat),(ph=0∨ph=1)→(∀x∈w,0≤x)→(Zcy a (w.foldl (fun x s=>Z5X b a x s.toNat) (ph,(q:Int)))=true ↔
  ∃u s v,w=Z8A u++(2*s+1)::Z8A v∧(ph=1∨u≠[])∧Z6n b (runT b q u)=true∧Z6n a (runT a 0 (s::v))=true)
 | [],ph,q,hp,_=>by
  constructor
  ·intro h;rcases hp with rfl | rfl<;>simp[Zcy] at h
  ·rintro⟨u,s,v,h,_⟩;simp at h
 | x::w,ph,q,hp,hw=>by
  rw[List.foldl_cons];have hw':∀z∈w,0≤z:=fun z hz=>hw z (by simp[hz])
  obtain⟨y,hy | hy⟩:=ZnK (hw x (by simp))
  ·subst hy
   have e:(2*(y:Int)).toNat=2*y:=by omega
   rw[e,Zsm hp,Zuk w 1 _ (.inr rfl) hw'];constructor
   ·rintro⟨u,s,v,h1,h2,h3,h4⟩
    exact⟨(y:Int)::u,s,v,by simp[Z8A,h1],.inr (by simp),h3,h4⟩
   ·rintro⟨u,s,v,h1,h2,h3,h4⟩
    cases u with
    | nil=>simp only[Z8A,List.map_nil,List.nil_append,List.cons.injEq] at h1;omega
    | cons z u =>
     simp only[Z8A,List.map_cons,List.cons_append,List.cons.injEq] at h1;have:z=y:=by omega
     subst this;exact⟨u,s,v,h1.2,.inl rfl,h3,h4⟩
  ·subst hy
   have e:(2*(y:Int)+1).toNat=2*y+1:=by omega
   rw[e,Zoe];split
   ·rename_i hc
    rw[Zul w _ hw'];constructor
    ·rintro⟨v,h1,h2⟩
     exact⟨[],y,v,by simp[Z8A,h1],.inl hc.1,hc.2,h2⟩
    ·rintro⟨u,s,v,h1,h2,h3,h4⟩
     cases u with
     | nil =>
      simp only[Z8A,List.map_nil,List.nil_append,List.cons.injEq] at h1;have:s=y:=by omega
      subst this;exact⟨v,h1.2,h4⟩
     | cons z u=>simp only[Z8A,List.map_cons,List.cons_append,List.cons.injEq] at h1;omega
   ·rename_i hc
    rw[Zum];constructor
    ·intro h;simp[Zcy] at h
    ·rintro⟨u,s,v,h1,h2,h3,h4⟩
     cases u with
     | nil=>exact(hc ⟨by rcases h2 with h | h;exact h;exact(h rfl).elim,h3⟩).elim
     | cons z u=>simp only[Z8A,List.map_cons,List.cons_append,List.cons.injEq] at h1;omega
end
theorem Zl1{n:Int}{l:List Int}{p:Nat}(hp:p < l.length):(∀x∈wrL (p:Nat) 0 l,0≤x∧x < 2*n)↔Rng n l:=by
 constructor
 ·intro h x hx
  obtain⟨k,hk,rfl⟩:=List.mem_iff_getElem.mp hx;have e:=Zej (p:Int) l 0 k hk (by rw[Z5x];exact hk);have:=h _ (List.getElem_mem (l:=wrL (p:Int) 0 l) (n:=k) (by rw[Z5x];exact hk));rw[e] at this;have ho:Z73 (p:Int) (0+k)=0∨Z73 (p:Int) (0+k)=1:=by unfold Z73;split<;>simp
  rcases ho with o | o<;>rw[o] at this<;>omega
 ·intro h x hx
  obtain⟨k,hk,rfl⟩:=List.mem_iff_getElem.mp hx;rw[Z5x] at hk;rw[Zej (p:Int) l 0 k hk];have ho:Z73 (p:Int) (0+k)=0∨Z73 (p:Int) (0+k)=1:=by unfold Z73;split<;>simp
  have:=h _ (List.getElem_mem hk);rcases ho with o | o<;>rw[o]<;>omega
theorem ZlH{b a d:Det}{most:Int}(h:Z4j b a most=(d,0)):Z1Q b∧Z1Q a∧b.signs=a.signs∧b.signs≤200∧1≤most∧most≤3000∧∃st,ZdQ (mkM b a) most=some st∧d=ZiI (2*b.signs) st:=by
 unfold Z4j at h;split at h
 ·rename_i hc
  obtain⟨h1,h2,h3,h4,h5,h6⟩:=hc;refine⟨(Z5v b).mp h1,(Z5v a).mp h2,h3,h4,h5,h6,?_⟩;split at h
  ·rename_i st hst
   cases h;exact⟨st,hst,rfl⟩
  ·cases h
 ·cases h
theorem Zhv{b a d:Det}{most:Int}(h:Z4j b a most=(d,0)):ZaY d b.signs (fun l p=>Zmv b (l.take p) && Zmv a (l.drop p))∧(d.next.length:Int)≤most:=by
 obtain⟨Rb,Ra,hs,h2,hm,hm2,st,hst,rfl⟩:=ZlH h;have h1:=Rb.s1;have hMs:(2*b.signs)=((mkM b a).sg:Nat):=by show 2*b.signs=((2*b.signs).toNat:Nat);omega
 obtain⟨R,hle,hacc⟩:=ZlF (Zwf Rb Ra hs) hm hm2 (sg:=2*b.signs) hMs (by omega) (by omega) hst;refine⟨⟨R,rfl,fun w hw=>?_⟩,hle⟩;rw[hacc w hw];have hw0:∀x∈w,0≤x:=fun x hx=>(hw x hx).1
 have hk:ZwP (mkM b a) w=w.foldl (fun x s=>Z5X b a x s.toNat) (0,((0:Nat):Int)):=rfl;have he:(mkM b a).e=Zcy a:=rfl;rw[hk,he,Zuk w 0 0 (.inl rfl) hw0];have hsd:(ZiI (2*b.signs) st).signs=2*b.signs:=rfl;constructor
 ·rintro⟨u,s,v,g1,g2,g3,g4⟩
  have hu:u≠[]:=by rcases g2 with h | h;omega;exact h
  have hlen:u.length < (u++s::v).length:=by simp
  have e:=Zgy (u++s::v) u.length hlen;have t1:(u++s::v).take u.length=u:=by simp
  have t2:(u++s::v).drop (u.length+1)=v:=by rw[List.drop_append];simp[List.drop_eq_nil_of_le]
  have t3:(u++s::v)[u.length]'hlen=s:=by simp
  have t4:(u++s::v).drop u.length=s::v:=by simp
  rw[t1,t2,t3] at e;have hwe:w=wrL (u.length:Nat) 0 (u++s::v):=by rw[e,g1]
  have hR:Rng b.signs (u++s::v):=(Zl1 hlen).mp (by rw[←hwe];exact hw);refine⟨u++s::v,u.length,hR,by have:=List.length_pos_iff.mpr hu;omega,hlen,hwe,?_⟩;rw[Bool.and_eq_true];refine⟨(ZeG Rb _).mpr ⟨?_,by rw[t1];exact g3⟩,(ZeG Ra _).mpr ⟨?_,by rw[t4];exact g4⟩⟩
  ·exact hR.take _
  ·intro x hx;rw[←hs];exact hR.drop _ x hx
 ·rintro⟨l,p,g1,g2,g3,g4,g5⟩
  rw[Bool.and_eq_true] at g5;have a1:=((ZeG Rb _).mp g5.1).2;have a2:=((ZeG Ra _).mp g5.2).2;refine⟨l.take p,l[p],l.drop (p+1),by rw[g4];exact Zgy l p g3,.inr ?_,a1,?_⟩
  ·intro h
   have:(l.take p).length=0:=by rw[h];rfl
   rw[List.length_take] at this;omega
  ·rw[←List.drop_eq_getElem_cons g3];exact a2
namespace ZaY
theorem congr{d:Det}{n:Int}{F G:List Int→Nat→Bool}(h:ZaY d n F)(hf:∀l p,Rng n l→1≤p→p < l.length→F l p=G l p):ZaY d n G:=by
 refine⟨h.R,h.s,fun w hw=>(h.acc w hw).trans ⟨?_,?_⟩⟩
 ·rintro⟨l,p,a1,a2,a3,a4,a5⟩;exact⟨l,p,a1,a2,a3,a4,by rw[←hf l p a1 a2 a3];exact a5⟩
 ·rintro⟨l,p,a1,a2,a3,a4,a5⟩;exact⟨l,p,a1,a2,a3,a4,by rw[hf l p a1 a2 a3];exact a5⟩
theorem vl{d:Det}{n:Int}{F:List Int→Nat→Bool}(h:ZaY d n F){l:List Int}{p:Nat}(hp:p < l.length)(hl:Rng n l):Vl d (wrL (p:Nat) 0 l):=fun x hx=>by
 have:=(Zl1 hp).mpr hl x hx;rw[h.s];exact this
theorem fin{d:Det}{n:Int}{F:List Int→Nat→Bool}(h:ZaY d n F){l:List Int}{p:Nat}(h1:1≤p)(hp:p < l.length)(hl:Rng n l):Z6n d (runT d 0 (wrL (p:Nat) 0 l))=F l p:=by
 have:=h.acc _ (h.vl hp hl);cases hF:F l p with
 | true=>exact this.mpr ⟨l,p,hl,h1,hp,rfl,hF⟩
 | false =>
  cases hb:Z6n d (runT d 0 (wrL (p:Nat) 0 l)) with
  | false=>rfl
  | true =>
   obtain⟨m,q,a1,a2,a3,a4,a5⟩:=this.mp hb;obtain⟨rfl,rfl⟩:=Zve hp a4;rw[hF] at a5;cases a5
theorem least{d:Det}{n:Int}{F:List Int→Nat→Bool}(h:ZaY d n F):ZaY (Z5j d) n F :=
 ⟨(Zbi h.R).1,h.s,fun w hw=>by rw[Zho h.R w hw];exact h.acc w hw⟩
theorem n1{d:Det}{n:Int}{F:List Int→Nat→Bool}(h:ZaY d n F):1≤n∧n≤200:=by
 have:=h.R.s1;have:=h.R.s2;have:=h.s;omega
end ZaY
def atD(d:Det)(l:List Int)(p:Int):Bool:=decide (0 < (Zp6 l p).length) && Zmv d (Zp6 l p)
theorem Ztd{n:Int}(hn:n≤200){l:List Int}(h:Rng n l):l.any Zwi=false:=by
 rw[List.any_eq_false];intro x hx;have:=h x hx;simp[Zwi];omega
theorem ZaY.at_{d:Det}{n:Int}{F:List Int→Nat→Bool}(h:ZaY d n F){l:List Int}(hl:Rng n l)(p:Int):atD d l p=(decide (1≤p∧p < l.length) && F l p.toNat):=by
 unfold atD Zp6;by_cases hp:1≤p∧p < l.length
 ·rw[if_pos ⟨hp.1,hp.2,Ztd h.n1.2 hl⟩]
  obtain⟨q,rfl⟩:∃q:Nat,p=q:=⟨p.toNat,by omega⟩
  have e:Zmv d (wrL (q:Nat) 0 l)=F l q:=by
   have hv:=h.vl (p:=q) (by omega) hl;have hf:=h.fin (p:=q) (by omega) (by omega) hl;cases hF:F l q with
   | true=>exact(ZeG h.R _).mpr ⟨hv,by rw[hf];exact hF⟩
   | false =>
    cases hb:Zmv d (wrL (q:Nat) 0 l) with
    | false=>rfl
    | true=>have:=((ZeG h.R _).mp hb).2;rw[hf,hF] at this;cases this
  rw[e,Z5x];have h1:decide (0 < l.length)=true:=by simp;omega
  have h2:decide (1≤(q:Int)∧(q:Int) < l.length)=true:=by simp;omega
  rw[h1,h2];rfl
 ·rw[if_neg (fun h=>hp ⟨h.1,h.2.1⟩)]
  have h2:decide (1≤p∧p < (l.length:Int))=false:=by simpa using hp
  rw[h2];rfl
end Go.Rf
namespace Go.Rf
attribute [local simp] Z4c Z48 Z2M Z2a Z2P Z2R Z2Q Z4a Z4b Z1e Z16 Z0c Z0B Z0q Z08 Z0o Z0h Z09 Z0p Z0i Z0Y Z0j Z0z Z0K Z0k Z0J Z1W Z3U Z0X Z25 Z22 Z24 Z23 Z26 Z1j Z0D Z11 Z12 Z1T Z1U Z1V Z0H Z0I Z1i Z0r Z0W Z20 Z1X Z1Z Z1Y Z21 Z1k Z13 Z1g Z0U Z0V Z0C Z1h Z0P Z1a Z1f Z14 Z1l ex Z00 Z0R Z6K Z6P Z0f Z0g Z0A Z2k Z1d Z10 Z0y Z0F Z0G Z0E Z0s Z0Z Z5y Z0O Z37 Z1c Z1O Z1R Z3s Z0b Z1q Z19 Z0Q Z1F Z3S Z1P Z6A Z3C Z6z Z3w Z2Y Z3t Z6w Z3D Z51 AV.solid S0 Z06 Z1n
def Z6S:AC :=
 (.seq (.reg none [
 ro 3 (.mv (.c (.v (.bool false))))])
 (.seq (.reg none [
 rm 4 0,
 ro 5 (.bin .lss (.t 4) (ci 0)),
 rm 6 5,
 rg 7 6 false (.mv (.t 0)),
 rg 8 6 false (.load none (.t 1)),
 rg 9 6 false (.bin .geq (.t 7) (.t 8)),
 ro 10 (.pick (.t 6) (.c (.v (.bool true))) (.t 9)),
 rm 3 10])
 .ret))
def Z6T(P0c:FuncId):AC :=
 (.seq (.reg none [
 ro 4 (.mv (.c (.v (.bool false))))])
 (.seq (.reg none [
 rm 5 0,
 ro 6 (.len (.t 5)),
 ro 7 (.fieldA 0 (.t 1)),
 ro 8 (.load none (.t 7)),
 ro 9 (.bin .neq (.t 6) (.t 8)),
 rm 10 9,
 rg 11 10 false (.mv (.t 0)),
 rg 12 10 false (.load none (.t 2)),
 rl 13 10 false P0c [(.t 11),(.t 12)],
 ro 14 (.pick (.t 10) (.c (.v (.bool true))) (.t 13)),
 rm 4 14])
 .ret))
def Z5E(P4n P4o P1N:FuncId):AC :=
 (.seq (.reg none [
 ro 1 (.box 3 (.t 0)),
 ro 2 (.mv (.c (.v (.bool false))))])
 (.seq (.reg none [
 ro 5 (.fieldA 1 (.t 1)),
 ro 6 (.load none (.t 5)),
 ro 7 (.len (.t 6)),
 ro 3 (.alloc (.v (.int .i64 0)) 1),
 rn (.store 1 (.t 3) (.t 7))])
 (.seq (.seq (.reg none [
 ro 8 (.fieldA 0 (.t 1)),
 ro 9 (.load none (.t 8)),
 ro 10 (.bin .lss (.t 9) (ci 1)),
 rm 11 10,
 rg 12 11 false (.fieldA 0 (.t 1)),
 rg 13 11 false (.load none (.t 12)),
 rg 14 11 false (.bin .gtr (.t 13) (ci 400)),
 ro 15 (.pick (.t 11) (.c (.v (.bool true))) (.t 14)),
 rm 16 15,
 rg 17 16 false (.load none (.t 3)),
 rg 18 16 false (.bin .eql (.t 17) (ci 0)),
 ro 19 (.pick (.t 16) (.c (.v (.bool true))) (.t 18)),
 rm 20 19,
 rg 21 20 false (.load none (.t 3)),
 rg 22 20 false (.bin .gtr (.t 21) (ci 3000)),
 ro 23 (.pick (.t 20) (.c (.v (.bool true))) (.t 22)),
 rm 24 23,
 rg 25 24 false (.fieldA 2 (.t 1)),
 rg 26 24 false (.load none (.t 25)),
 rg 27 24 false (.len (.t 26)),
 rg 28 24 false (.load none (.t 3)),
 rg 29 24 false (.bin .neq (.t 27) (.t 28)),
 ro 30 (.pick (.t 24) (.c (.v (.bool true))) (.t 29))])
 (.cond (.t 30) (.seq (.reg none [
  ro 2 (.mv (.c (.v (.bool false))))])
 .ret) .skip))
 (.seq (.reg none [
 ro 31 (.mkf P4n [] [(.t 3)]),
 ro 4 (.alloc (.v .nilFunc) 1),
 rn (.store 1 (.t 4) (.t 31))])
 (.seq (.reg none [
 ro 32 (.fieldA 1 (.t 1)),
 ro 33 (.load none (.t 32)),
 ro 34 (.mkf P4o [] [(.t 1),(.t 4)]),
 rk 35 P1N [(.t 33),(.t 34)],
 ro 36 (.un .not (.t 35)),
 rm 2 36])
 .ret)))))
def Zt7(k:Nat)(t:Int):Bool:=decide (t < 0) || decide ((k:Int)≤t)
theorem Zcu(P:Program)(t:Int)(k:Nat):AW P Z6S (Z75 [3] (FzK (Z1n (Zt7 k t)))) (Z53 [Z06 t,.eptr (Z06 k) 0]) S0:=by
 by_cases h1:t < 0
 ·simp[Z6S,h1,Zt7]
  exact Z2p true _
 ·simp[Z6S,h1,Zt7]
  exact Z2p _ _
def Zbn(d:Det)(r:List Int):Bool:=((r.length:Int) != d.signs) || r.any (Zt7 d.next.length)
theorem Zcv{P:Program}{f1 fc:FuncId}(d:Det)(r:List Int)(hc:Z0t P fc [Z03 r,.clo f1 [] [.eptr (Z06 d.next.length) 0]] (Z1n (r.any (Zt7 d.next.length)))) :
  AW P (Z6T fc) (Z75 [4] (FzK (Z1n (Zbn d r)))) (Z53 [Z03 r,.eptr (Z0v d) 0,.eptr (.clo f1 [] [.eptr (Z06 d.next.length) 0]) 0]) S0:=by
 cases h1:((r.length:Int) != d.signs) with
 | true =>
  simp[Z6T,Z03,Z0v,h1,Zbn];exact Z2p true _
 | false =>
  simp[Z6T,Z03,Z0v,h1,Zbn];refine Z0x.pure hc (Z01 (Z02 r) (Z01 (.clo _ _ _ Z0a (Z01 (.eptr _ _ (Z04 _)) Z0a)) Z0a)) (Z0L _) ?_;simp;exact Z2p _ _
theorem Zow(d:Det)(r:List Int):ZcC d r=!Zbn d r:=by
 unfold ZcC Zbn;rw[Bool.not_or,List.not_any_eq_all_not];congr 1
 ·by_cases h:(r.length:Int)=d.signs<;>simp[h]
 ·congr 1;funext t
  unfold Zt7;by_cases h1:t < 0<;>by_cases h2:(d.next.length:Int)≤t<;>simp[h1,h2]<;>omega
theorem Zen{P:Program}{f1 f2 fc:FuncId}(d:Det)(ok:Z7A d)
  (hc:Z0t P fc [Z0l d.next,.clo f2 [] [.eptr (Z0v d) 0,.eptr (.clo f1 [] [.eptr (Z06 d.next.length) 0]) 0]] (Z1n (d.next.any (Zbn d)))) :
  AW P (Z5E f1 f2 fc) (Z75 [2] (FzK (Z1n (Z2r d)))) (Z53 [Z0v d]) S0:=by
 have k1:=ok.next
 have k2:=ok.fin;have k3:=ok.signs;unfold Len at k1 k2;by_cases h1:d.signs < 1
 ·have hr:Z2r d=false:=by simp[Z2r];omega
  simp[Z5E,Z0v,Z0l,Z2E,h1,hr];exact Z2p false _
 by_cases h2:400 < d.signs
 ·have hr:Z2r d=false:=by simp[Z2r];omega
  simp[Z5E,Z0v,Z0l,Z2E,h1,h2,hr];exact Z2p false _
 by_cases h3:(d.next.length:Int)=0
 ·have hr:Z2r d=false:=by simp[Z2r];omega
  have hc:((d.next.length:Int) == 0)=true:=by simp[h3]
  simp[Z5E,Z0v,Z0l,Z2E,h1,h2,hc,hr];exact Z2p false _
 have hc3:((d.next.length:Int) == 0)=false:=by simpa using h3
 by_cases h4:(3000:Int) < d.next.length
 ·have hr:Z2r d=false:=by simp[Z2r];omega
  simp[Z5E,Z0v,Z0l,Z2E,h1,h2,hc3,h4,hr];exact Z2p false _
 by_cases h5:d.fin.length=d.next.length
 ·have hc5:((d.fin.length:Int) != d.next.length)=false:=by simp[h5]
  have hr:Z2r d=!d.next.any (Zbn d):=by
   rw[List.not_any_eq_all_not];have:d.next.all (ZcC d)=d.next.all (fun r=>!Zbn d r):=by congr 1;funext r;exact Zow d r
   rw[Z2r,this];have a1:decide (1≤d.signs)=true:=by simp;omega
   have a2:decide (d.signs≤400)=true:=by simp;omega
   have a3:decide (1≤d.next.length)=true:=by simp;omega
   have a4:decide (d.next.length≤3000)=true:=by simp;omega
   simp[a1,a2,a3,a4,h5]
  simp[Z5E,Z0v,Z0l,Z2E,h1,h2,hc3,h4,hc5];refine Z0x.looks hc (FzL.cons (.closed _ (Z0T _)) (FzL.cons (.P5X (FzL.cons (.box _ _ 3 (Z0v d) _ ?_ (.closed _ (Z0e d))) (FzL.cons (.box _ _ 1 (.clo f1 [] [.ptr 5 0 0]) _ ?_ (.P5X (FzL.cons (.box _ _ 1 (Z06 d.next.length) _ ?_ (.closed _ (Z04 _))) FzL.nil))) FzL.nil))) FzL.nil)) (Zge _) ?_
  ·simp[Z0A,Z0v,Z0l,Z2E,Z06]
  ·simp[Z0A]
  ·simp[Z0A,Z06]
  ·simp[hr]
   exact Z2p _ _
 ·have hr:Z2r d=false:=by simp[Z2r];omega
  have hc5:((d.fin.length:Int) != d.next.length)=true:=by simp;omega
  simp[Z5E,Z0v,Z0l,Z2E,h1,h2,hc3,h4,hc5,hr];exact Z2p false _
end Go.Rf
namespace Go.Rf
open Go.RowKit
theorem ZlX(a:Det):Zev a a=true:=by simp[Zev]
end Go.Rf
namespace Go.Rf
open Go.RowKit
attribute [local simp] Z4t Z4q Z3h Z2s Z3f Z3j Z3g Z4r Z4s Z3i Z3n Z1A Z1y Z2q Z1H Z41 Z3v ZcH Z7E Z7D Z5R ZcG Z7C Z5P Z4v Z3k Z4u Z7x Z7w Z5J Z4x Z3l Z4w Z7z Z7y Z5K Z1z Z2v Z3o Z3p Z1D Z1o Z0c Z0B Z0q Z08 Z0o Z0h Z09 Z0p Z0i Z0Y Z0j Z0z Z0K Z0k Z0J Z1W Z3U Z0X Z25 Z22 Z24 Z23 Z26 Z1j Z0D Z11 Z12 Z1T Z1U Z1V Z0H Z0I Z1i Z0r Z0W Z20 Z1X Z1Z Z1Y Z21 Z1k Z13 Z1g Z0U Z0V Z0C Z1h Z0P Z1a Z1f Z14 Z1l ex Z00 Z0R Z6K Z6P Z0f Z0g Z0A Z2k Z1d Z10 Z0y Z0F Z0G Z0E Z0s Z0Z Z5y Z0O Z37 Z1c Z1O Z1R Z3s Z0b Z1E Z28 Z19 Z0Q Z2w Z27 Z3u Z2x Z1P Z6A Z3C Z6z Z3w Z2Y Z3t Z6w Z3D Z51 Z4A Z3z Z2B Z2C Z29 Z2z Z2A Z3y Z1M Z2y Z3x Z3A S0 Z06 Z1n
def Z5o(P1H:FuncId):AC :=
 (.seq (.reg none [
 ro 2 (.box 4 (.t 0)),
 ro 4 (.alloc (.agg [(.v (.int .i64 0)),(.sl true []),(.sl true [])]) 3),
 ro 5 (.mv (ci 0))])
 (.seq (.reg none [
 ro 6 (.load (some 4) (.t 2)),
 rm 7 1,
 rk 8 P1H [(.t 6),(.t 7),(ci 1)],
 ro 9 (.ext 0 (.t 8)),
 ro 10 (.ext 1 (.t 8)),
 rn (.store 3 (.t 4) (.t 9)),
 rm 5 10])
 .ret))
def Z5n(P1H:FuncId):AC :=
 (.seq (.reg none [
 ro 2 (.box 4 (.t 0)),
 ro 4 (.alloc (.agg [(.v (.int .i64 0)),(.sl true []),(.sl true [])]) 3),
 ro 5 (.mv (ci 0))])
 (.seq (.reg none [
 ro 6 (.load (some 4) (.t 2)),
 rm 7 1,
 rk 8 P1H [(.t 6),(.t 7),(ci 2)],
 ro 9 (.ext 0 (.t 8)),
 ro 10 (.ext 1 (.t 8)),
 rn (.store 3 (.t 4) (.t 9)),
 rm 5 10])
 .ret))
theorem ZcA{P:Program}{f1:FuncId}{n:Net}{most:Int}{p:Det×Int}(h:Z0t P f1 [Z0M n,Z06 most,Z06 1] (Z3N p)):AWb P 0 (Z5o f1) (Z2L [.c 4 (some 3),.t 5] (FzK (Z3N p))) (Z53 [Z0M n,Z06 most]) S0:=by
 have ec:(Z0M n).cells=[Z06 n.signs,Z0l n.by_,Z0l n.follow,Z03 n.last]:=rfl;have en:AV.agg [.v (.int .i64 n.signs),Z0l n.by_,Z0l n.follow,Z03 n.last]=Z0M n:=rfl;have es:(Z0M n).solid=true:=rfl;simp[Z5o,es,ec,en];refine Z0x.pure h (Z01 (Z1J n) (Z01 (Z04 _) (Z01 (Z04 _) Z0a))) (Z3L p) ?_;simp[Z3N,Z0v,Z2L,evC,RV.ev,ldC,Z1b];exact .closed _ (Z3L p)
theorem Zcz{P:Program}{f1:FuncId}{n:Net}{most:Int}{p:Det×Int}(h:Z0t P f1 [Z0M n,Z06 most,Z06 2] (Z3N p)):AWb P 0 (Z5n f1) (Z2L [.c 4 (some 3),.t 5] (FzK (Z3N p))) (Z53 [Z0M n,Z06 most]) S0:=by
 have ec:(Z0M n).cells=[Z06 n.signs,Z0l n.by_,Z0l n.follow,Z03 n.last]:=rfl;have en:AV.agg [.v (.int .i64 n.signs),Z0l n.by_,Z0l n.follow,Z03 n.last]=Z0M n:=rfl;have es:(Z0M n).solid=true:=rfl;simp[Z5n,es,ec,en];refine Z0x.pure h (Z01 (Z1J n) (Z01 (Z04 _) (Z01 (Z04 _) Z0a))) (Z3L p) ?_;simp[Z3N,Z0v,Z2L,evC,RV.ev,ldC,Z1b];exact .closed _ (Z3L p)
theorem Zkk{kd:Kd}{n:Net}{most:Int}:∀(f i:Nat) {st st':Sts},stF kd n most i=some st→goF kd n most f i st=some st'→∃j,i≤j∧stF kd n most j=some st'∧j=st'.1.length
 | 0,i,st,st',h,e=>by cases e
 | f+1,i,st,st',h,e=>by
  simp only[goF] at e;split at e
  ·rename_i hi;cases e;exact⟨i,Nat.le_refl _,h,hi⟩
  ·cases hn:nxF kd n most i st with
   | none=>rw[hn] at e;cases e
   | some s2 =>
    rw[hn] at e;obtain⟨j,h1,h2,h3⟩:=Zkk f (i+1) (st:=s2) (by simp only[stF,h,hn]) e;exact⟨j,by omega,h2,h3⟩
theorem ZeS{kd:Kd}{n:Net}{most:Int}{st:Sts}(h:Z7J kd n most=some st):stF kd n most st.1.length=some st:=by
 obtain⟨j,_,h2,h3⟩:=Zkk _ 0 (st:=([[0]],[],[])) rfl h;rwa[h3] at h2
theorem Ztb(kd:Kd)(n:Net)(most:Int):Z7A (Z9a kd n most).1:=by
 unfold Z9a;split
 ·rename_i h
  have R:=(Z5c n).mp h.1;cases hm:Z7J kd n most with
  | none=>exact⟨by simp[Len],by simp[Len],by simp,by simp⟩
  | some st =>
   have ok:=Zeg R h.2.1 _ (ZeS hm);have h1:=ok.ss.l;have h2:=ok.nx;have h3:=ok.en;have h4:=R.s1;have h5:=R.s2;refine⟨by unfold Len;simp only;omega,by unfold Len;simp only;omega,fun r hr=>?_,by simp only;omega⟩;have:=ok.row r hr;unfold Len;omega
 ·exact⟨by simp[Len],by simp[Len],by simp,by simp⟩
end Go.Rf
namespace Go.Rf
open Go.RowKit
theorem ZoR{X:Type}{p:List X→Prop}(h0:p [])(h1:∀l x,p l→p (l++[x]))(l:List X):p l:=by
 have:∀r:List X,p r.reverse:=by
  intro r;induction r with
  | nil=>exact h0
  | cons x r ih=>rw[List.reverse_cons];exact h1 _ _ ih
 rw[←List.reverse_reverse l];exact this _
theorem Zoa{most:Int}{ss ss':List (List Int)}{x:List Int}{j:Int}(h:Zg7 most ss x=some (ss',j)):(∀(i:Nat) (y:List Int),ss[i]? = some y→ss'[i]? = some y)∧∃k:Nat,j=k∧ss'[k]? = some x:=by
 unfold Zg7 at h;split at h
 ·rename_i hin
  cases h;have hlt:=List.idxOf_lt_length_of_mem hin;exact⟨fun i y hy=>hy,_,rfl,by rw[List.getElem?_eq_getElem hlt,List.getElem_idxOf hlt]⟩
 ·split at h
  ·cases h
  ·cases h
   refine⟨fun i y hy=>?_,ss.length,rfl,by simp⟩;have hl:=(List.getElem?_eq_some_iff.mp hy).1;rw[List.getElem?_append_left hl];exact hy
theorem ZhP{most:Int}{b:Int→List Int}{ss:List (List Int)}:∀(k:Nat) {ss':List (List Int)} {r:List Int},ZcX most b k ss=some (ss',r) →
  (∀(i:Nat) (y:List Int),ss[i]? = some y→ss'[i]? = some y)∧r.length=k∧∀s:Nat,s < k→∃j:Nat,r[s]? = some (j:Int)∧ss'[j]? = some (b s)
 | 0,ss',r,h=>by
  simp only[ZcX,Option.some.injEq,Prod.mk.injEq] at h;obtain⟨rfl,rfl⟩:=h;exact⟨fun _ _ h=>h,rfl,fun s hs=>by omega⟩
 | k+1,ss',r,h=>by
  simp only[ZcX] at h;split at h
  ·cases h
  ·rename_i s1 r1 h1
   obtain⟨i1,i2,i3⟩:=ZhP k h1;split at h
   ·cases h
   ·rename_i s2 j h2
    cases h;obtain⟨j1,q,rfl,j2⟩:=Zoa h2;refine⟨fun i y hy=>j1 i y (i1 i y hy),by simp[i2],fun s hs=>?_⟩;by_cases hsk:s=k
    ·subst hsk
     refine⟨q,?_,j2⟩;rw[List.getElem?_append_right (by omega),i2];simp
    ·obtain⟨j,a1,a2⟩:=i3 s (by omega)
     refine⟨j,?_,j1 _ _ a2⟩;rw[List.getElem?_append_left (by omega)];exact a1
structure ZwV(kd:Kd)(n:Net)(i:Nat)(st:Sts):Prop where
 zero:st.1[0]? = some [0]
 row:∀k < i,∃set r,st.1[k]? = some set∧st.2.2[k]? = some (Z5i n set)∧st.2.1[k]? = some r∧∀s:Nat,s < n.signs.toNat→∃j:Nat,r[s]? = some (j:Int)∧st.1[j]? = some (bhS kd n set s)
theorem ZkQ{kd:Kd}{n:Net}(R:Z4H n){most:Int}(hm:1≤most):∀(i:Nat) {st:Sts},stF kd n most i=some st→ZwV kd n i st
 | 0,st,e=>by
  simp only[stF,Option.some.injEq] at e;subst e;exact⟨rfl,fun k hk=>by omega⟩
 | i+1,st,e=>by
  simp only[stF] at e;split at e
  ·cases e
  ·rename_i st0 h0
   have ih:=ZkQ R hm i h0;have ok:=Zeg R hm i h0;unfold nxF at e;split at e
   ·cases e
   ·rename_i set hset
    split at e
    ·cases e
    ·rename_i s2 r hr
     cases e;obtain⟨a1,a2,a3⟩:=ZhP _ hr;refine⟨a1 _ _ ih.zero,fun k hk=>?_⟩;by_cases hki:k=i
     ·subst hki
      refine⟨set,r,a1 _ _ hset,?_,?_,a3⟩
      ·simp only;rw[List.getElem?_append_right (by have:=ok.en;omega)];simp[ok.en]
      ·simp only;rw[List.getElem?_append_right (by have:=ok.nx;omega)];simp[ok.nx]
     ·obtain⟨set',r',b1,b2,b3,b4⟩:=ih.row k (by omega)
      refine⟨set',r',a1 _ _ b1,?_,?_,fun s hs=>?_⟩
      ·have:=(List.getElem?_eq_some_iff.mp b2).1
       simp only;rw[List.getElem?_append_left this];exact b2
      ·have:=(List.getElem?_eq_some_iff.mp b3).1
       simp only;rw[List.getElem?_append_left this];exact b3
      ·obtain⟨j,c1,c2⟩:=b4 s hs
       exact⟨j,c1,a1 _ _ c2⟩
def setAt(kd:Kd)(n:Net)(set l:List Int):List Int:=l.foldl (bhS kd n) set
theorem Zh6{kd:Kd}{n:Net}(R:Z4H n){most:Int}(hm:1≤most)(h3:most≤3000){st:Sts}(h:Z7J kd n most=some st) :
  Z1Q ⟨n.signs,st.2.1,st.2.2⟩∧∀l:List Int,(∀s∈l,0≤s∧s < n.signs)→Zmv ⟨n.signs,st.2.1,st.2.2⟩ l=Z5i n (setAt kd n [0] l):=by
 have hst:=ZeS h;have ok:=Zeg R hm _ hst;have sp:=ZkQ R hm _ hst;have hl:=ok.ss.l;have hnx:=ok.nx;have hen:=ok.en;have h0:=(List.getElem?_eq_some_iff.mp sp.zero).1
 have D:Z1Q ⟨n.signs,st.2.1,st.2.2⟩:=by
  refine⟨R.s1,R.s2,by simp only;omega,by simp only;omega,by simp only;omega,fun i hi=>?_,fun i hi j hj=>?_⟩
  ·simp only at hi ⊢
   have h7:(st.2.1[i]).length=n.signs.toNat:=ok.row _ (List.getElem_mem hi);have:=R.s1;omega
  ·simp only at hi hj ⊢
   obtain⟨set,r,b1,b2,b3,b4⟩:=sp.row i (by omega);rw[List.getElem?_eq_getElem hi] at b3;cases b3;have hrl:=ok.row _ (List.getElem_mem hi);obtain⟨q,c1,c2⟩:=b4 j (by omega);obtain⟨_,c3⟩:=List.getElem?_eq_some_iff.mp c1;have:=(List.getElem?_eq_some_iff.mp c2).1;rw[c3];omega
 refine⟨D,fun l hls=>?_⟩
 have key:∀(l:List Int) (a:Nat) (set:List Int),(∀s∈l,0≤s∧s < n.signs)→st.1[a]? = some set→∃a',Z9F ⟨n.signs,st.2.1,st.2.2⟩ a l=some a'∧st.1[a']? = some (setAt kd n set l):=by
  intro l;induction l with
  | nil=>intro a set _ ha;exact⟨a,rfl,ha⟩
  | cons s l ih =>
   intro a set hs ha;have hs0:=hs s (by simp);have hal:=(List.getElem?_eq_some_iff.mp ha).1;obtain⟨set',r,b1,b2,b3,b4⟩:=sp.row a hal;rw[ha] at b1;cases b1;obtain⟨j,c1,c2⟩:=b4 s.toNat (by omega);have hst:((s.toNat:Nat):Int)=s:=by omega
   rw[hst] at c2
   have hstep:Z2o ⟨n.signs,st.2.1,st.2.2⟩ a s=j:=by
    simp[Z2o,List.getD_eq_getElem?_getD,b3,c1]
   obtain⟨a',d1,d2⟩:=ih j _ (fun x hx=>hs x (by simp[hx])) c2;exact⟨a',by rw[Z9F,if_pos hs0,hstep];exact d1,d2⟩
 obtain⟨a',e1,e2⟩:=key l 0 [0] hls sp.zero;have hal:=(List.getElem?_eq_some_iff.mp e2).1;obtain⟨set',r,b1,b2,b3,b4⟩:=sp.row a' hal;rw[e2] at b1;cases b1;have hrun:ZvA ⟨n.signs,st.2.1,st.2.2⟩ l=some a':=by rw[ZvA,if_pos ((Z5v _).mpr D)];exact e1
 simp[Zmv,hrun,List.getD_eq_getElem?_getD,b2]
theorem ZdA{n:Net}{set:List Int}:Z5i n set=true↔∃x∈set,x∈n.last:=by simp[Z5i]
theorem Z8w{n:Net}(h:Z4p n=true)(l:List Int):Zm7 n l=Z5i n (ZhS n l):=by simp[Zm7,h,Z5i]
theorem Zff(kd:Kd)(n:Net)(set l:List Int)(s:Int):setAt kd n set (l++[s])=bhS kd n (setAt kd n set l) s:=by simp[setAt]
theorem Zi4{n:Net}(l:List Int):∀q:Int,q∈setAt .tails n [0] l↔∃i≤l.length,q∈ZhS n (l.drop i):=by
 refine ZoR (p:=fun l=>∀q:Int,q∈setAt .tails n [0] l↔∃i≤l.length,q∈ZhS n (l.drop i)) ?_ ?_ l
 ·intro q;simp[setAt,ZhS]
 ·intro l s ih q
  rw[Zff];simp only[bhS,List.mem_cons];constructor
  ·rintro(rfl | hq)
   ·exact⟨(l++[s]).length,Nat.le_refl _,by rw[List.drop_length];simp[ZhS]⟩
   ·rw[Z8F] at hq
    obtain⟨p,hp,he⟩:=hq;obtain⟨i,hi,hpi⟩:=(ih p).mp hp;refine⟨i,by simp;omega,?_⟩;rw[List.drop_append_of_le_length hi,Ze9,Z8F];exact⟨p,hpi,he⟩
  ·rintro⟨i,hi,hq⟩
   simp only[List.length_append,List.length_cons,List.length_nil] at hi;by_cases hil:i≤l.length
   ·right
    rw[List.drop_append_of_le_length hil,Ze9,Z8F] at hq;obtain⟨p,hp,he⟩:=hq;rw[Z8F];exact⟨p,(ih p).mpr ⟨i,hil,hp⟩,he⟩
   ·left
    have:(l++[s]).drop i=[]:=List.drop_eq_nil_of_le (by simp;omega);rw[this] at hq;simpa[ZhS] using hq
theorem Z9s{p:Nat→Bool}{i:Nat}:0 < (ZnA p i).length↔∃k < i,p k=true:=by
 simp only[ZnA,List.length_map,List.length_pos_iff_exists_mem,List.mem_filter,List.mem_range]
theorem ZoZ{n:Net}(h:Z4p n=true)(l:List Int):Z5i n (setAt .tails n [0] l)=decide (0 < (ZnA (tlP n l) (l.length+1)).length):=by
 rw[Bool.eq_iff_iff,ZdA,decide_eq_true_iff,Z9s];constructor
 ·rintro⟨q,hq,hl⟩
  obtain⟨i,hi,hqi⟩:=(Zi4 l q).mp hq;refine⟨l.length - i,by omega,?_⟩;have e:l.length - (l.length - i)=i:=by omega
  rw[tlP,e,Z8w h,ZdA];exact⟨q,hqi,hl⟩
 ·rintro⟨k,hk,hp⟩
  rw[tlP,Z8w h,ZdA] at hp;obtain⟨q,hq,hl⟩:=hp;exact⟨q,(Zi4 l q).mpr ⟨l.length - k,by omega,hq⟩,hl⟩
theorem ZnM{n:Net}(h:Z4p n=true)(l:List Int):if ∃k < l.length+1,hdP n l k=true then Z5i n (setAt .heads n [0] l)=true else setAt .heads n [0] l=ZhS n l:=by
 refine ZoR (p:=fun l=>if ∃k < l.length+1,hdP n l k=true then Z5i n (setAt .heads n [0] l)=true else setAt .heads n [0] l=ZhS n l) ?_ ?_ l
 ·split
  ·rename_i hk
   obtain⟨k,hk,hp⟩:=hk;simp only[hdP,List.take_nil] at hp;rw[Z8w h] at hp;exact hp
  ·rfl
 ·intro l s ih
  rw[Zff];have htk:∀k,k≤l.length→hdP n (l++[s]) k=hdP n l k:=fun k hk=>by simp only[hdP];rw[List.take_append_of_le_length hk]
  by_cases hex:∃k < l.length+1,hdP n l k=true
  ·rw[if_pos hex] at ih
   obtain⟨k,hk,hp⟩:=hex;rw[if_pos ⟨k,by simp;omega,by rw[htk k (by omega)];exact hp⟩];simp only[bhS,ih,if_true]
  ·rw[if_neg hex] at ih
   have hno:Z5i n (ZhS n l)=false:=by
    cases hb:Z5i n (ZhS n l) with
    | false=>rfl
    | true=>exact(hex ⟨l.length,by omega,by rw[hdP,List.take_length,Z8w h];exact hb⟩).elim
   have hst:bhS .heads n (setAt .heads n [0] l) s=ZhS n (l++[s]):=by simp only[bhS,ih,hno,Bool.false_eq_true,if_false];rw[Ze9]
   rw[hst];split
   ·rename_i hk
    obtain⟨k,hk,hp⟩:=hk;simp only[List.length_append,List.length_cons,List.length_nil] at hk;by_cases hkl:k≤l.length
    ·rw[htk k hkl] at hp
     exact(hex ⟨k,by omega,hp⟩).elim
    ·rw[hdP,List.take_of_length_le (by simp;omega),Z8w h] at hp
     exact hp
   ·rfl
theorem ZnL{n:Net}(h:Z4p n=true)(l:List Int):Z5i n (setAt .heads n [0] l)=decide (0 < (ZnA (hdP n l) (l.length+1)).length):=by
 have:=ZnM h l;by_cases hex:∃k < l.length+1,hdP n l k=true
 ·rw[if_pos hex] at this
  rw[this];exact(decide_eq_true (Z9s.mpr hex)).symm
 ·rw[if_neg hex] at this
  rw[this];have hd:decide (0 < (ZnA (hdP n l) (l.length+1)).length)=false:=decide_eq_false (fun hp=>hex (Z9s.mp hp));rw[hd];cases hb:Z5i n (ZhS n l) with
  | false=>rfl
  | true=>exact(hex ⟨l.length,by omega,by rw[hdP,List.take_length,Z8w h];exact hb⟩).elim
theorem Zto{n:Int}{u:List Int}(hu:Rng n u):sgS n u=stp u:=by
 funext g a b;apply propext;unfold sgS stp;constructor
 ·rintro⟨h1,h2,h3,h4⟩;exact⟨h1,h2,h3,(Zks.mp h4).1⟩
 ·rintro⟨h1,h2,h3,h4⟩
  refine⟨h1,h2,h3,Zks.mpr ⟨h4,?_⟩⟩;have hlt:a.toNat < u.length:=by omega
  have:u.getD a.toNat 0=u[a.toNat]:=by simp[List.getD_eq_getElem?_getD,hlt]
  rw[this];exact hu _ (List.getElem_mem hlt)
theorem ZjA{p:Pat}{n:Int}(h1:1≤n)(h2:n≤400)(hc:Z79 p≤300){u:List Int}(hu:Rng n u):Zm7 (Z6L p n) u=ZbX p u 0 u.length:=by
 rw[ZsJ h1 h2 hc]
 have:ZbX (flP n p) u 0 u.length=true↔ZbX p u 0 u.length=true:=by
  rw[Z9z,Z9z,←Zj7,Zto hu]
 cases e1:ZbX (flP n p) u 0 u.length<;>cases e2:ZbX p u 0 u.length<;>simp_all
theorem ZhM{kd:Kd}{N:Net}{most:Int}{d:Det}(h:Z9a kd N most=(d,0)):Z4H N∧1≤most∧most≤3000∧∃st,Z7J kd N most=some st∧d=⟨N.signs,st.2.1,st.2.2⟩:=by
 unfold Z9a at h;split at h
 ·rename_i hc
  refine⟨(Z5c _).mp hc.1,hc.2.1,hc.2.2,?_⟩;split at h
  ·rename_i st hst
   cases h;exact⟨st,hst,rfl⟩
  ·cases h
 ·cases h
def Zvu(p:Pat)(u:List Int):Bool:=(List.range (u.length+1)).any fun i=>ZbX p u (i:Nat) u.length
def Zvp(p:Pat)(u:List Int):Bool:=(List.range (u.length+1)).any fun j=>ZbX p u 0 (j:Nat)
theorem ZcI{a b:Bool}(h:a=true↔b=true):a=b:=by cases a<;>cases b<;>simp_all
theorem Zm3{p:Pat}{n most:Int}{d:Det}(h1:1≤n)(h2:n≤200)(hc:Z79 p≤300)(h:Z9a .tails (Z6L p n) most=(d,0)) :
  Z1Q d∧d.signs=n∧∀u,Rng n u→Zmv d u=Zvu p u:=by
 obtain⟨R,hm,hm2,st,hst,rfl⟩:=ZhM h;obtain⟨D,hacc⟩:=Zh6 R hm hm2 hst;refine⟨D,rfl,fun u hu=>?_⟩;rw[hacc u hu,ZoZ ((Z5c _).mpr R)];apply ZcI;simp only[decide_eq_true_eq,Z9s,Zvu,List.any_eq_true,List.mem_range,tlP]
 have key:∀i,i≤u.length→Zm7 (Z6L p n) (u.drop i)=ZbX p u (i:Nat) u.length:=fun i hi=>by
  rw[ZjA h1 (by omega) hc (hu.drop i)];have:=Zhw p u i u.length hi (Nat.le_refl _);rw[←this];have e1:(u.drop i).take (u.length - i)=u.drop i:=List.take_of_length_le (by simp);rw[e1,List.length_drop];congr 1;omega
 constructor
 ·rintro⟨k,hk,e⟩
  refine⟨u.length - k,by omega,?_⟩;rw[←key _ (by omega)];exact e
 ·rintro⟨i,hi,e⟩
  refine⟨u.length - i,by omega,?_⟩;have:u.length - (u.length - i)=i:=by omega
  rw[this,key _ (by omega)];exact e
theorem Zm2{p:Pat}{n most:Int}{d:Det}(h1:1≤n)(h2:n≤200)(hc:Z79 p≤300)(h:Z9a .heads (Z6L p n) most=(d,0)) :
  Z1Q d∧d.signs=n∧∀u,Rng n u→Zmv d u=Zvp p u:=by
 obtain⟨R,hm,hm2,st,hst,rfl⟩:=ZhM h;obtain⟨D,hacc⟩:=Zh6 R hm hm2 hst;refine⟨D,rfl,fun u hu=>?_⟩;rw[hacc u hu,ZnL ((Z5c _).mpr R)];apply ZcI;simp only[decide_eq_true_eq,Z9s,Zvp,List.any_eq_true,List.mem_range,hdP]
 have key:∀j,j≤u.length→Zm7 (Z6L p n) (u.take j)=ZbX p u 0 (j:Nat):=fun j hj=>by
  rw[ZjA h1 (by omega) hc (hu.take j)];have:=Zbj p u 0 j (Nat.zero_le _) hj;rw[List.length_take,Nat.min_eq_left hj];exact this
 constructor
 ·rintro⟨k,hk,e⟩;exact⟨k,hk,by rw[←key _ (by omega)];exact e⟩
 ·rintro⟨k,hk,e⟩;exact⟨k,hk,by rw[key _ (by omega)];exact e⟩
def ZwL(r:Rul)(l:List Int)(p:Nat):Bool:=((List.range (p+1)).any fun i=>ZbX r.before l (i:Nat) (p:Nat)) && ((List.range (l.length+1)).any fun j=>ZbX r.after l (p:Nat) (j:Nat))
theorem ZsH{p:Pat}{l:List Int}{a b:Int}(h:ZbX p l a b=true):0≤a∧a≤b∧b≤l.length:=by
 have h':=Z9z.mp h;have h1:=Zd6 (Zjl l) p a b h'.2.2;by_cases hb:(l.length:Int) < b
 ·rw[Zq8 p l a b hb] at h;cases h
 ·exact⟨h'.1,h1,by omega⟩
theorem Zno(P:Pat){l:List Int}{p:Nat}(hp:p≤l.length):Zvu P (l.take p)=(List.range (p+1)).any fun i=>ZbX P l (i:Nat) (p:Nat):=by
 unfold Zvu;rw[List.length_take,Nat.min_eq_left hp];apply ZcI;simp only[List.any_eq_true,List.mem_range];constructor
 ·rintro⟨i,hi,e⟩;exact⟨i,hi,by rw[←Zbj P l i p (by omega) hp];exact e⟩
 ·rintro⟨i,hi,e⟩;exact⟨i,hi,by rw[Zbj P l i p (by omega) hp];exact e⟩
theorem ZmK(P:Pat){l:List Int}{p:Nat}(hp:p≤l.length):Zvp P (l.drop p)=(List.range (l.length+1)).any fun j=>ZbX P l (p:Nat) (j:Nat):=by
 unfold Zvp;rw[List.length_drop];apply ZcI;simp only[List.any_eq_true,List.mem_range]
 have key:∀j,j≤l.length - p→ZbX P (l.drop p) 0 (j:Nat)=ZbX P l (p:Nat) ((p+j:Nat):Int):=fun j hj=>by
  have e1:=Zhw P l p (p+j) (by omega) (by omega);have e2:=Zbj P (l.drop p) 0 j (Nat.zero_le _) (by simp;omega);have e3:p+j - p=j:=by omega
  rw[e3] at e1;have e4:((p+j:Nat):Int) - (p:Nat)=(j:Nat):=by omega
  rw[e4] at e1;have e0:((0:Nat):Int)=0:=rfl;rw[e0] at e2;rw[←e2,e1]
 constructor
 ·rintro⟨j,hj,e⟩;exact⟨p+j,by omega,by rw[←key j (by omega)];exact e⟩
 ·rintro⟨j,hj,e⟩
  have:=ZsH e;refine⟨j - p,by omega,?_⟩;rw[key _ (by omega)];have:p+(j - p)=j:=by omega
  rw[this];exact e
theorem Zcb{x:Det×Int}{f:Det→Det×Int}{d:Det}(h:Zia x f=(d,0)):x.2=0∧f x.1=(d,0):=by
 unfold Zia at h;split at h
 ·rename_i hx;exact⟨hx,h⟩
 ·rename_i hx;simp only[Prod.mk.injEq] at h;exact(hx h.2).elim
theorem Zo2{x d:Det}(h:ZdP x=(d,0)):Z1Q x∧d=Z5j x:=by
 unfold ZdP at h;split at h
 ·rename_i hr;simp only[Prod.mk.injEq] at h;exact⟨(Z5v x).mp hr,h.1.symm⟩
 ·simp at h
theorem Zfh{kd:Kd}{p:Pat}{n most:Int}{d:Det}(h:Z4V kd p n most=(d,0)):Z79 p≤300∧Z9a kd (Z6L p n) most=(d,0):=by
 unfold Z4V at h;split at h
 ·rename_i hn
  unfold Z2K at hn h;split at hn
  ·simp at hn
  ·rename_i h0
   rw[if_neg h0] at h;split at hn
   ·simp at hn
   ·rename_i h3
    rw[if_neg h3] at h;exact⟨ZqE h3,h⟩
 ·rename_i hn;simp only[Prod.mk.injEq] at h;exact(hn h.2).elim
theorem ZlI{r:Rul}{n most:Int}{d:Det}(h:Z96 r n most=(d,0)):ZaY d n (ZwL r)∧Z5j d=d∧(d.next.length:Int)≤most∧1≤n∧n≤200:=by
 unfold Z96 at h;split at h
 ·simp at h
 rename_i hg;have hn1:1≤n:=by omega
 have hn2:n≤200:=by omega
 obtain⟨hb,h⟩:=Zcb h;obtain⟨ha,h⟩:=Zcb h;obtain⟨hm,h⟩:=Zcb h;obtain⟨hR,rfl⟩:=Zo2 h;generalize hx:Z4V .tails r.before n most=x at *;generalize hy:Z4V .heads r.after n most=y at *;obtain⟨xd,xe⟩:=x;obtain⟨yd,ye⟩:=y;simp only at hb ha hm hR ⊢;subst hb;subst ha;obtain⟨cb,hb⟩:=Zfh hx;obtain⟨ca,ha⟩:=Zfh hy;obtain⟨Rb,sb,accb⟩:=Zm3 hn1 hn2 cb hb;obtain⟨Ra,sa,acca⟩:=Zm2 hn1 hn2 ca ha;generalize hz:Z4j xd yd most=z at *;obtain⟨zd,ze⟩:=z;simp only at hm;subst hm;obtain⟨M,hl⟩:=Zhv hz;rw[sb] at M
 have M2:ZaY zd n (ZwL r):=M.congr fun l p hl h1 h2=>by
  rw[accb _ (hl.take p),acca _ (hl.drop p),Zno _ (by omega),ZmK _ (by omega)];rfl
 refine⟨M2.least,ZlE hR,?_,hn1,hn2⟩;have:=Zq5 hR;simp only at this hl ⊢;omega
def without(x:Bk)(i:Int):Bk:=if 0≤i∧i < x.rules.length then { x with rules:=x.rules.take i.toNat++x.rules.drop (i.toNat+1) } else x
theorem Z5A.look{P:Program}{f:FuncId}{args args':List AV}{r:AV}{S:St}{F:List Nat}(h:Z0t P f args' r)(hz:FzL (only F S.g) args args')(hr:ZaZ r):Z5A P f args S F r:=⟨args',h,hz.1,hz.2,.inl hr⟩
def ZwN(a b:List Bool):List Bool:=List.zipWith (fun x y=>x || y) a b
def mk(a:List Bool)(j:Int):Prop:=0≤j∧a.getD j.toNat false=true
def Zvo(r:Int→Int→Prop):Nat→Int→Int→Prop
 | 0,i,j=>i=j
 | n+1,i,j=>∃m,Zvo r n i m∧r m j
theorem Zvo.clo{r:Int→Int→Prop}:∀(n:Nat) {i j:Int},Zvo r (n+1) i j→Clo r i j
 | 0,i,j,⟨m,h1,h2⟩=>by cases h1;exact .one h2
 | n+1,i,j,⟨m,h1,h2⟩=>.more (Zvo.clo n h1) h2
end Go.Rf
namespace Go.Rf
open Go.RowKit
attribute [local simp] Z4t Z4q Z3h Z2s Z3f Z3j Z3g Z4r Z4s Z3i Z3n Z1A Z1y Z2q Z1H Z41 Z3v ZcH Z7E Z7D Z5R ZcG Z7C Z5P Z4v Z3k Z4u Z7x Z7w Z5J Z4x Z3l Z4w Z7z Z7y Z5K Z1z Z2v Z3o Z3p Z1D Z1o Z0c Z0B Z0q Z08 Z0o Z0h Z09 Z0p Z0i Z0Y Z0j Z0z Z0K Z0k Z0J Z1W Z3U Z0X Z25 Z22 Z24 Z23 Z26 Z1j Z0D Z11 Z12 Z1T Z1U Z1V Z0H Z0I Z1i Z0r Z0W Z20 Z1X Z1Z Z1Y Z21 Z1k Z13 Z1g Z0U Z0V Z0C Z1h Z0P Z1a Z1f Z14 Z1l ex Z00 Z0R Z6K Z6P Z0f Z0g Z0A Z2k Z1d Z10 Z0y Z0F Z0G Z0E Z0s Z0Z Z5y Z0O Z37 Z1c Z1O Z1R Z3s Z0b Z1E Z28 Z19 Z0Q Z2w Z27 Z3u Z2x Z1P Z6A Z3C Z6z Z3w Z2Y Z3t Z6w Z3D Z51 Z4A Z3z Z2B Z2C Z29 Z2z Z2A Z3y Z1M Z2y Z3x Z3A S0 Z06 Z1n Z39 Z34 Z56 Z38 Z33 Z55 Z44 Z36 Z43 Z6j Z5a Z6i Z59 Z45 Z58 Z2U Z72.cl Z5z.cl Z04 Z0L Z02 Z0T Z1w Z2j Z1N Z2n Z1p Z3r Z4N Z3V Z4M Z5L Z5W Z3E Z4O Z5w Z5m Z5S Z4U Z4X Z4W Z42 Z2c Z2H Z62 Z3m Z3W Z4y Z2J Z2I Z17 Z68 Z2G Z4k Z1S Z4B
def ZtQ(P:Program)(f:FuncId)(n:Nat):Prop:=∀a b:List Bool,a.length=n→b.length=n →
 Z0x P f [.own 0 0 n,Z2E b] ⟨1,gOf [(0,some (.arr 1 (a.map Z1n)))]⟩ fun r S'=>r=.tup []∧S'.n=10∧S'.g 0=some (.arr 1 ((ZwN a b).map Z1n))
def ZsI(l:List Bool)(id:Nat)(S:St):St:=(St.mk (S.n+9) S.g).set id (some (.arr 1 (l.map Z1n)))
theorem ZtQ.use{P:Program}{f:FuncId}{n:Nat}(h:ZtQ P f n){a b:List Bool}(ha:a.length=n)(hb:b.length=n){S:St}{K:AV→St→Prop}{id:Nat}(hg:S.g id=some (.arr 1 (a.map Z1n)))(hid:id < S.n)
  (hk:K (.tup []) (ZsI (ZwN a b) id S)):Z0x P f [.own id 0 n,Z2E b] S K:=by
 refine Z0x.frame 1 [(0,id)] [(0,some (.arr 1 (a.map Z1n)))] [.own 0 0 n,Z2E b] _ (by simp) (by simp;omega) ?_ ?_ (h a b ha hb) ?_
 ·intro p hp
  simp only[List.mem_cons,List.not_mem_nil,or_false] at hp;subst hp;refine .inr ⟨id,by simp,?_⟩;rw[hg,Z17];exact⟨rfl,.cl (Z5W _)⟩
 ·exact .cons (.own _ _ _ _ (by simp)) (.cons (.cl (Z1w _)) .nil)
 ·rintro r1 S1 hn ⟨rfl,q1,q2⟩
  refine⟨_,_,hk,.cl (.tup _ (by simp)),by simp[ZsI,Z2k,q1],fun i k hi=>?_⟩;simp only[ZsI,Z0A] at hi;by_cases e:i=id
  ·rw[if_pos e] at hi
   refine .inr ⟨0,.inl ⟨by omega,by simp[e]⟩,?_⟩;rw[←hi,q2,Z17];exact⟨rfl,.cl (Z5W _)⟩
  ·rw[if_neg e] at hi
   refine .inl ⟨?_,hi⟩;simp;omega
section
variable{P:Program}{fh fg fm:FuncId}{k:Int}{ps:List Rg}{pg l:List Int}{ks:List Pat}{a:List Bool}
end
end Go.Rf
